import Derived.Test.YtadecgbblajifaaGreatDoorE34
import Derived.Laws.BytesArg
set_option linter.unusedSimpArgs false
set_option linter.unusedVariables false
set_option maxRecDepth 100000
set_option maxHeartbeats 25600000
namespace Go.Proofs.YtadecgbblajifaaGreatDoor
section
open Go.RowKit Go.Instr
structure pU (w:World) (o:gT):Prop where
 params:aB 3 aT.cells w o.pv o.d.params
 slots:aB 4 aI.cells w o.sv o.d.slots
 code:aB 5 Ins.cells w o.cv o.d.code
 refs:aB 2 cB.cells w o.rv o.d.refs
theorem pU.later {w w':World} {o:gT} (h:pU w o) (hm:Grow w w'):pU w' o:=⟨h.params.later hm,h.slots.later hm,h.code.later hm,h.refs.later hm⟩
theorem pU.at {w:World} {o:gT} (h:pU w o) (hk:Kg o.d):lS w o:=⟨hk,h.params,h.slots,h.code,h.refs⟩
theorem mP {w:World} {X:Nat} {c0 c1 c2 c3 c4 c5 c6:Value} {t:TypeId} (h:w.heap[X]? = some (.cells #[c0,c1,c2,c3,c4,c5,c6] t (0,0))):(w.cell? ⟨X,0,none⟩=some c0/\w.cell? ⟨X,1,none⟩=some c1/\w.cell? ⟨X,2,none⟩=some c2)/\(w.cell? ⟨X,3,none⟩=some c3/\w.cell? ⟨X,4,none⟩=some c4)/\w.cell? ⟨X,5,none⟩=some c5/\w.cell? ⟨X,6,none⟩=some c6:=by
 simp[World.cell?,h]
theorem xV {α:Type} {n:Nat} {f:α->List Value} {x y:World} {v:Value} {l:List α} {g:Nat} {cs:Array Value} {t:TypeId} (h:aB n f x v l) (hno:∀ (u:α) (o:Nat),(∀ (j:Nat) (c:Value),(f u)[j]? = some c->cs[o+j]? = some c)->False)
 (hb:x.heap[g]? = some (.cells cs t (0,0))) (hm:Mv (λb=>b=g) x y):aB n f y v l:=by
 cases l with
 |nil =>
  obtain⟨a,cap,e,h1,h2,_⟩:=h
  exact⟨a,cap,e,h1,h2,λi x hx=>by simp at hx⟩
 |cons u l =>
  refine h.stay hm (λq hq e => ?_)
  subst e
  obtain⟨b',off,cap,e,_,hc⟩:=h.at (i:=0) (by simp)
  rw[e]at hq
  simp only[Value.ownBlock,Option.some.injEq]at hq
  subst hq
  refine hno u (off+0 * n) (λj c hj => ?_)
  have h0:=hc j c (by simpa using hj)
  simpa[World.cell?,hb]using h0
theorem Za (u:aI) (o:Nat) (h:∀ (j:Nat) (c:Value),(aI.cells u)[j]? = some c->(#[.string ⟨#[]⟩,.slice none 0 0,.slice none 0 0,.int .i64 0,.int .i64 0,.slice none 0 0,.slice none 0 0]:Array Value)[o+j]? = some c):False:=by
 have h0:=h 0 _ rfl
 have h1:=h 1 _ rfl
 rcases o with _|_|_|_|_|_|_|o <;> simp at h0 h1
theorem _e (u:Ins) (o:Nat) (h:∀ (j:Nat) (c:Value),(Ins.cells u)[j]? = some c->(#[.string ⟨#[]⟩,.slice none 0 0,.slice none 0 0,.int .i64 0,.int .i64 0,.slice none 0 0,.slice none 0 0]:Array Value)[o+j]? = some c):False:=by
 have h0:=h 0 _ rfl
 rcases o with _|_|_|_|_|_|_|o <;> simp at h0
theorem _i (u:cB) (o:Nat) (h:∀ (j:Nat) (c:Value),(cB.cells u)[j]? = some c->(#[.string ⟨#[]⟩,.slice none 0 0,.slice none 0 0,.int .i64 0,.int .i64 0,.slice none 0 0,.slice none 0 0]:Array Value)[o+j]? = some c):False:=by
 have h0:=h 0 _ rfl
 have h1:=h 1 _ rfl
 rcases o with _|_|_|_|_|_|_|o <;> simp at h0 h1
theorem _j (u:aT) (o:Nat) (h:∀ (j:Nat) (c:Value),(aT.cells u)[j]? = some c->(#[.string ⟨#[]⟩,.slice none 0 0,.slice none 0 0,.int .i64 0,.int .i64 0,.slice none 0 0,.slice none 0 0]:Array Value)[o+j]? = some c):False:=by
 have h0:=h 0 _ rfl
 have h1:=h 1 _ rfl
 rcases o with _|_|_|_|_|_|_|o <;> simp at h0 h1
theorem pU.box {x y:World} {o:gT} {g:Nat} {t:TypeId} (h:pU x o) (hb:x.heap[g]? = some (.cells #[.string ⟨#[]⟩,.slice none 0 0,.slice none 0 0,.int .i64 0,.int .i64 0,.slice none 0 0,.slice none 0 0] t (0,0))) (hm:Mv (λb=>b=g) x y):pU y o :=
 ⟨xV h.params _j hb hm,xV h.slots Za hb hm,xV h.code _e hb hm,xV h.refs _i hb hm⟩
theorem pU.form {w:World} {o:gT} (h:pU w o):∃ d a1 c1 a2 c2 a3 c3 a4 c4,o=⟨d,.slice a1 d.params.length c1,.slice a2 d.slots.length c2,.slice a3 d.code.length c3,.slice a4 d.refs.length c4⟩:=by
 obtain⟨d,p1,p2,p3,p4⟩:=o
 obtain⟨a1,c1,h1,-,-⟩:=h.params.form
 obtain⟨a2,c2,h2,-,-⟩:=h.slots.form
 obtain⟨a3,c3,h3,-,-⟩:=h.code.form
 obtain⟨a4,c4,h4,-,-⟩:=h.refs.form
 simp only at h1 h2 h3 h4
 subst h1 h2 h3 h4
 exact⟨d,a1,c1,a2,c2,a3,c3,a4,c4,rfl⟩
theorem OA {w:World} {a:Option Addr} {cap:Nat} {l:List Int} (h:aB 1 aL w (.slice a l.length cap) l) (k:Nat) (hk:k<=l.length) (a2:Option Addr) (ha:0<k->a2=a):aB 1 aL w (.slice a2 k cap) (l.take k):=by
 obtain⟨a',cap',e,h1,h2,h3⟩:=h
 simp only[Value.slice.injEq,true_and]at e
 obtain⟨rfl,rfl⟩:=e
 have hl:(l.take k).length=k:=by simp;omega
 refine⟨a2,cap,by rw[hl],by omega,by omega,λi x hx => ?_⟩
 have hi:i<k:=by have:=(List.getElem?_eq_some_iff.1 hx).1;omega
 rw[ha (by omega)]
 exact h3 i x (by rw[List.getElem?_take_of_lt hi]at hx;exact hx)
theorem OB {w:World} {a:Option Addr} {cap:Nat} {l:List Int} (h:aB 1 aL w (.slice a l.length cap) l) (k:Nat) (hk:k<=l.length) (a2:Option Addr) (ha:k<l.length->a2=a.map (·.add (k * 1))):aB 1 aL w (.slice a2 (l.length - k) (cap - k)) (l.drop k):=by
 obtain⟨a',cap',e,h1,h2,h3⟩:=h
 simp only[Value.slice.injEq,true_and]at e
 obtain⟨rfl,rfl⟩:=e
 have hl:(l.drop k).length=l.length - k:=by simp
 refine⟨a2,cap - k,by rw[hl],by omega,by omega,λi x hx => ?_⟩
 have hi:i<l.length - k:=by have:=(List.getElem?_eq_some_iff.1 hx).1;omega
 obtain⟨b,off,rfl,hc⟩:=h3 (k+i) x (by rw[List.getElem?_drop]at hx;exact hx)
 refine⟨b,off+k,by rw[ha (by omega)];simp[Addr.add],λj u hu => ?_⟩
 have:=hc j u hu
 rw[show off+k+i * 1+j=off+(k+i) * 1+j by omega]
 exact this
theorem NQ {w:World} {a:Option Addr} {cap:Nat} {l:List Int} (h:aB 1 aL w (.slice a l.length cap) l) (k:Nat) (hk:k<=l.length) (a2:Option Addr) (c:Nat) (hc:l.length - k<=c) (ha:k<l.length->a2=a.map (·.add (k * 1))):aB 1 aL w (.slice a2 (l.length - k) c) (l.drop k):=by
 obtain⟨a',cap',e,h1,h2,h3⟩:=OB h k hk a2 ha
 simp only[Value.slice.injEq]at e
 obtain⟨rfl,e2,rfl⟩:=e
 exact⟨_,c,by rw[e2],by rw[← e2];exact hc,h2,h3⟩
def qm (v' v:Value):Prop:=∀ g,v'.ownBlock=some g->v.ownBlock=some g
theorem qm.trans {a b c:Value} (h:qm a b) (k:qm b c):qm a c:=λg e=>k g (h g e)
theorem Pt {a:Option Addr} {n m k c c':Nat} : qm (.slice (a.map (·.add k)) n c) (.slice a m c'):=λg e=>by
 cases a with
 |none=>simp[Value.ownBlock]at e
 |some a =>
  simp only[Option.map_some,Value.ownBlock,Option.some.injEq]at e ⊢
  rw[← e]
  unfold Addr.add
  split <;> rfl
theorem Iy {a:Option Addr} {n m c c':Nat} : qm (.slice a n c) (.slice a m c'):=λg e=>by
 cases a with
 |none=>simp[Value.ownBlock]at e
 |some a=>exact e
def CP (v:Value) (N:Nat):Prop:=∀ g,v.ownBlock=some g->g<N
def CQ (v:Value) (N:Nat) (l:List Int):Prop:=l≠[]->CP v N
theorem CP.nil (N:Nat):CP (.slice none 0 0) N:=λg e=>by simp[Value.ownBlock]at e
def zU (w:World) (X N:Nat) (st:Option (List Int)):Prop:=∃ v,w.heap[X]? = some (.cells #[v,.bool st.isNone] 102 (0,0))/\∀ l,st=some l->aB 1 aL w v l/\CQ v N l
def rB:Option (List Int)->Nat->List Int × Option (List Int)
 |none,_=>([],none)
 |some l,n=>if l.length<n then([],none)else(l.take n,some (l.drop n))
theorem DN {l:List Int} {n:Nat} (h:l.length<n):rB (some l) n=([],none):=by show(if l.length<n then(([]:List Int),none)else(l.take n,some (l.drop n)))=_;rw[if_pos h]
theorem EM {l:List Int} {n:Nat} (h:¬ l.length<n):rB (some l) n=(l.take n,some (l.drop n)):=by show(if l.length<n then(([]:List Int),none)else(l.take n,some (l.drop n)))=_;rw[if_neg h]
def CS (X N:Nat) (w:World) (st:Option (List Int)) (P:Value->World->Prop) (e:Ending) (w':World):Prop:=∃ v,e = .returned v/\P v w'/\zU w' X N st/\Mv (λb=>b=X) w w'
theorem acx {v:Value} {z:Bool} (u:Int) (o:Nat) (h:∀ (j:Nat) (c:Value),(aL u)[j]? = some c->(#[v,.bool z]:Array Value)[o+j]? = some c) (hv:∀ k n,v ≠ .int k n):False:=by
 have h0:=h 0 _ rfl
 rcases o with _|_|o
 · simp at h0;exact hv _ _ h0
 · simp at h0
 · simp at h0
theorem _k {w:World} {X:Nat} {v:Value} {z:Bool} (h:w.heap[X]? = some (.cells #[v,.bool z] 102 (0,0))):w.cell? ⟨X,0,none⟩=some v/\w.cell? ⟨X,1,none⟩=some (.bool z):=by
 simp[World.cell?,h]
theorem abQ {X n N:Nat} {w:World} {l:List Int} {v rv:Value} {cap:Nat} {a:Option Addr} (hb:w.heap[X]? = some (.cells #[v,.bool false] 102 (0,0))) (hr:aB 1 aL w (.slice a n cap) (l.take n)) (h2:aB 1 aL w rv (l.drop n)) (hv:∀ k m,v ≠ .int k m) (h3:CQ (.slice a n cap) N (l.take n)) (h4:CQ rv N (l.drop n)) :
 CS X N w (some (l.drop n)) (λv w'=>aB 1 aL w' v (l.take n)/\CQ v N (l.take n)) (.returned (.slice a n cap)) (w.setCell ⟨X,0,none⟩ rv):=by
 have hm:Mv (λb=>b=X) w (w.setCell ⟨X,0,none⟩ rv):=(Mv.refl (λb=>b=X) w).setCell (p:=⟨X,0,none⟩) (.inl rfl) rv
 have hst:∀ {q:Value} {m:List Int},aB 1 aL w q m->aB 1 aL (w.setCell ⟨X,0,none⟩ rv) q m:=λh=>xV h (λu o e=>acx u o e hv) hb hm
 exact⟨_,rfl,⟨hst hr,h3⟩,⟨rv,by simpa using block_setCell (p:=⟨X,0,none⟩) hb rfl rv,λm e=>by
  obtain rfl:=Option.some.inj e
  exact⟨hst h2,h4⟩⟩,hm⟩
set_option maxRecDepth 100000 in
set_option maxHeartbeats 6400000 in
theorem NR (X N:Nat) (st:Option (List Int)) (n:Nat) (w:World) (h:zU w X N st):Calls Tryz.prog 54 #[.pointer (some ⟨X,0,none⟩),.int .i64 n] w (CS X N w (rB st n).2 λv w'=>aB 1 aL w' v (rB st n).1/\CQ v N (rB st n).1):=by
 obtain⟨v,hb,hr⟩:=h
 obtain⟨c0,c1⟩:=_k hb
 have hX:=lt_of_block hb
 have zt:=gN hb
 rcases st with _|l
 · have HE:=Lib.hid (show zU (w.setCell ⟨X,1,none⟩ (.bool true)) X N none from⟨v,by simpa using block_setCell (p:=⟨X,1,none⟩) hb rfl (.bool true),λl e=>by cases e⟩)
   have HM:=Lib.hid ((Mv.refl (λb=>b=X) w).setCell (p:=⟨X,1,none⟩) (.inl rfl) (.bool true))
   simp only[Option.isNone_none]at c1
   clear hb hr
   go_enter Tryz.func54,Tryz.ntmps54
   go_wp2_with fail
   go_ret
   exact⟨_,rfl,⟨aB.nil _ _ _,λ_=>CP.nil N⟩,HE.out,HM.out⟩
 obtain⟨hrow,hsm⟩:=hr l rfl
 obtain⟨a,cap,rfl,hcap,Fs⟩:=hrow.form
 simp only[Option.isNone_some]at c1 hb
 by_cases hn:l.length<n
 · have hn':(l.length:Int)<(n:Int):=by omega
   have HE:=Lib.hid (show zU (w.setCell ⟨X,1,none⟩ (.bool true)) X N none from⟨_,by simpa using block_setCell (p:=⟨X,1,none⟩) hb rfl (.bool true),λl e=>by cases e⟩)
   have HM:=Lib.hid ((Mv.refl (λb=>b=X) w).setCell (p:=⟨X,1,none⟩) (.inl rfl) (.bool true))
   rw[DN hn]
   clear hb hr hrow
   go_enter Tryz.func54,Tryz.ntmps54
   go_wp2_with fail
   go_ret
   exact⟨_,rfl,⟨aB.nil _ _ _,λ_=>CP.nil N⟩,HE.out,HM.out⟩
 · have hn':¬ (l.length:Int)<(n:Int):=by omega
   have hnc:n<=cap:=by omega
   rw[EM hn]
   have HR:=Lib.hid hrow
   have HB:=Lib.hid hb
   have HN:=Lib.hid hn
   have GV:=Lib.hid hsm
   clear hb hr hrow hn hsm
   go_enter Tryz.func54,Tryz.ntmps54
   go_wp2_with fail
   all_goals
    try subst_vars
    have hnn:=HN.out
    go_ret
    refine abQ HB.out (OA HR.out _ (by omega) _ (λ_=>rfl)) (NQ HR.out _ (by omega) _ _ (by omega) (λh => ?_)) (λk m e=>by cases e) (λhz g e=>GV.out (λh0=>hz (by rw[h0];exact List.take_nil)) g (Iy g e)) (λhz g e=>GV.out (λh0=>hz (by rw[h0];exact List.drop_nil)) g (by first|exact Iy g e|exact Pt g e))
    first|(exfalso;omega)|simp
set_option maxRecDepth 100000 in
set_option maxHeartbeats 6400000 in
theorem _l (X N:Nat) (st:Option (List Int)) (n:Nat) (w:World) (h:zU w X N st) (hB:∀ l,st=some l->dW l):Calls Tryz.prog 53 #[.pointer (some ⟨X,0,none⟩),.int .i64 n] w (CS X N w (rB st n).2 λv _=>v = .int .i64 (gp (rB st n).1)):=by
 have HC:=Lib.hid (NR X N st n w h)
 have qF:=Lib.hid (show dW (rB st n).1 from by
  rcases st with _|l
  · intro c hc;cases hc
  · by_cases hl:l.length<n
    · rw[DN hl];intro c hc;cases hc
    · rw[EM hl];exact λc hc=>hB l rfl c (List.mem_of_mem_take hc))
 generalize (rB st n).1=out at *
 generalize (rB st n).2=st' at *
 clear h hB
 go_enter Tryz.func53,Tryz.ntmps53
 go_wp2_with fail
 refine HC.out.mono ?_
 rintro e w1 ⟨v,rfl,⟨hr,-⟩,hs,hm⟩
 obtain⟨a,cap,rfl,hcap,Fs⟩:=hr.form
 have HR:=Lib.hid hr
 have adG:=Lib.hid (show ∀ z,z=w1->CS X N w st' (λv _=>v = .int .i64 (gp out)) (.returned (.int .i64 (gp out))) z from λz e=>by
  subst e;exact⟨_,rfl,rfl,hs,hm⟩)
 clear hr hs hm HC
 go_wp2_with fail
 go_loopw [5,12] (λnv t wr=>∃ k:Nat,t = .int .i64 k/\k<=out.length/\nv = .int .i64 (gp (out.take k))/\wr=w1) (λ_ t _=>out.length - (intOf t).toNat)
 case atStart=>exact⟨0,rfl,Nat.zero_le _,rfl,rfl⟩
 obtain⟨k,rfl,hk,rfl,rfl⟩:=hrel
 by_cases hlt:k<out.length
 · have hkk:(k:Int)<(out.length:Nat):=by omega
   obtain⟨b,off,cap',e,_,hcc⟩:=HR.out.at hlt
   simp only[Value.slice.injEq,true_and]at e
   obtain⟨rfl,rfl⟩:=e
   have c0:=hcc 0 _ rfl
   simp only[Nat.add_zero,Nat.mul_one]at c0
   have hbl:=World.block_lt_of_cell? _ _ c0
   have hby:=qF.out out[k] (List.getElem_mem _)
   have HST:=Lib.hid (show gp (out.take (k+1))=lY (gp (out.take k)) out[k]from by
    unfold gp
    rw[List.take_succ_eq_append_getElem hlt,List.foldl_append];rfl)
   have adH:=Dy (out.take k)
   generalize gp (out.take k)=N at *
   generalize out[k]=c at *
   have MC:=Lib.hid (λ(y:Int) h1 h2=>Qq y c h1 h2 hby.1 hby.2)
   go_wp2_with fail
   refine⟨⟨k+1,by go_num,by omega,?_,trivial⟩,by simp[intOf];omega⟩
   have hw:wrap64 (N * 256)=(N * 256+9223372036854775808) % 18446744073709551616 - 9223372036854775808:=by unfold wrap64;rfl
   have hs:lY N c=(N * 256+c+9223372036854775808) % 18446744073709551616 - 9223372036854775808:=rfl
   rw[MC.out _ (by omega) (by omega),HST.out,hs,hw]
   congr 1
   omega
 · obtain rfl:k=out.length:=by omega
   have hlt':¬ ((out.length:Int)<(out.length:Nat)):=by omega
   rw[List.take_length]at *
   go_wp2_with fail
   go_ret
   exact adG.out _ rfl
def rS (st:Option (List Int)):List Int × Option (List Int):=rB (rB st 1).2 (gp (rB st 1).1).toNat
theorem aaS {st:Option (List Int)} (h:∀ l,st=some l->dW l) (n:Nat):dW (rB st n).1/\∀ l,(rB st n).2=some l->dW l:=by
 rcases st with _|l
 · exact⟨(λc hc=>by cases hc),(λl e=>by cases e)⟩
 · by_cases hl:l.length<n
   · rw[DN hl];exact⟨(λc hc=>by cases hc),(λl e=>by cases e)⟩
   · rw[EM hl]
     exact⟨λc hc=>h l rfl c (List.mem_of_mem_take hc),λm e=>by obtain rfl:=Option.some.inj e;exact λc hc=>h l rfl c (List.mem_of_mem_drop hc)⟩
theorem abR (st:Option (List Int)) (n:Nat):(rB st n).1.length<=n:=by
 rcases st with _|l
 · exact Nat.zero_le _
 · by_cases hl:l.length<n
   · rw[DN hl];exact Nat.zero_le _
   · rw[EM hl];simp;omega
theorem NS {w:World} {v:Value} {l:List Int} (h:aB 1 aL w v l):(convert 51 9 v).run Tryz.prog w = .ok (.string (V5 l)) w:=by
 obtain⟨a,cap,rfl,hc,hl,hcc⟩:=h
 have wY:Tryz.prog.underlying 5=some (.int .u8):=Tryz.underlying5
 cases a with
 |none =>
  obtain rfl:l=[]:=by
   cases l with
   |nil=>rfl
   |cons x l=>obtain⟨b,off,e,_⟩:=hcc 0 x rfl;cases e
  rw[run_convert_bytes_nil w 51 5 Tryz.underlying51 wY _ _ 9 Tryz.underlying9]
  rfl
 |some a =>
  rcases Nat.eq_zero_or_pos l.length with h0|h0
  · obtain rfl:l=[]:=List.length_eq_zero_iff.1 h0
    obtain⟨b,off,sp⟩:=a
    have hl0:(loadCells ⟨b,off,sp⟩ 0).run Tryz.prog w = .ok (([]:List Int).map (Value.int .u8)).toArray w:=by
     have:=run_loadCells_list (P:=Tryz.prog) w ⟨b,off,sp⟩ [] (λj v hj=>by simp at hj)
     simpa using this
    show(convert 51 9 (.slice (some ⟨b,off,sp⟩) 0 cap)).run Tryz.prog w=_
    rw[run_convert_bytes_string w 51 9 5 _ 0 cap Tryz.underlying51 wY Tryz.underlying9,run_bytesToString w _ 0 cap [] hl0]
    rfl
  · obtain⟨b,off,e,-⟩:=hcc 0 _ (List.getElem?_eq_getElem h0)
    obtain rfl:=Option.some.inj e
    rw[run_convert_bytes_arg w 51 5 Tryz.underlying51 wY b off l.length cap l rfl (λi hi => ?_) 9 Tryz.underlying9]
    · rfl
    · obtain⟨b',off',e2,hx⟩:=hcc i _ (List.getElem?_eq_getElem hi)
      simp only[Option.some.injEq,Addr.mk.injEq,and_true]at e2
      obtain⟨rfl,rfl⟩:=e2
      have:=hx 0 _ rfl
      rw[Nat.mul_one,Nat.add_zero]at this
      rw[this,List.getD_eq_getElem?_getD,List.getElem?_eq_getElem hi];rfl
attribute [local go_sem] NS
set_option maxRecDepth 100000 in
set_option maxHeartbeats 6400000 in
theorem af9 (X N:Nat) (st:Option (List Int)) (w:World) (h:zU w X N st) (hB:∀ l,st=some l->dW l):Calls Tryz.prog 52 #[.pointer (some ⟨X,0,none⟩)] w (CS X N w (rS st).2 λv _=>v = .string (V5 (rS st).1)):=by
 have HC:=Lib.hid (_l X N st 1 w h hB)
 have HE:=Lib.hid (rS.eq_1 st)
 have h0:0<=gp (rB st 1).1:=by
  have h1:=(aaS hB 1).1
  have h2:=abR st 1
  rw[Ow h1 (by omega)]
  exact(Dx h1).1
 generalize rS st=R at *
 generalize (rB st 1).2=st1 at *
 generalize gp (rB st 1).1=n at *
 obtain⟨k,rfl⟩:∃ k:Nat,n=k:=⟨n.toNat,by omega⟩
 rw[Int.toNat_natCast]at HE
 clear h hB h0
 go_enter Tryz.func52,Tryz.ntmps52
 go_wp2_with fail
 refine HC.out.mono ?_
 rintro e w1 ⟨v,rfl,rfl,hs,hm⟩
 have HD:=Lib.hid (NR X N st1 k w1 hs)
 rw[← HE.out]at HD
 have HM:=Lib.hid hm
 clear hs hm HC HE
 go_wp2_with fail
 refine HD.out.mono ?_
 rintro e w2 ⟨v,rfl,⟨hr,-⟩,hs,hm⟩
 have hcv:=NS hr
 have HZ:=Lib.hid (And.intro hs (HM.out.trans hm (λ_ e => .inl e)))
 clear hr hs hm HD HM
 go_wp2_with fail
 go_ret
 exact⟨_,rfl,rfl,HZ.out.1,HZ.out.2⟩
structure vX where
 name:ByteArray
 params:List aT
 body:Tree
structure aM where
 name:ByteArray
 params:List aT
 pv:Value
 body:aa
def aM.d (p:aM):vX:=⟨p.name,p.params,p.body.t⟩
def aM.cells (p:aM):List Value := .string p.name :: p.pv :: p.body.cells
def aM.val:aM->Value
 |⟨s,_,pv,.mk k n bs kv _⟩ => .agg #[.string s,pv,.int .u8 k,.int .i64 n,.string bs,kv]
structure qV (w:World) (p:aM):Prop where
 name:p.name.size<=9223372036854775807
 params:aB 3 aT.cells w p.pv p.params
 body:fJ w p.body
theorem qV.later {w w':World} {p:aM} (h:qV w p) (hm:Grow w w'):qV w' p:=⟨h.name,h.params.later hm,h.body.later hm⟩
structure su (w:World) (v:Value) (l:List aM):Prop where
 row:aB 6 aM.cells w v l
 each:∀ p∈l,qV w p
theorem su.later {w w':World} {v:Value} {l:List aM} (h:su w v l) (hm:Grow w w'):su w' v l:=⟨h.row.later hm,λp hp=>(h.each p hp).later hm⟩
def A7:aM:=⟨⟨#[]⟩,[],.slice none 0 0,.mk 0 0 ⟨#[]⟩ (.slice none 0 0) []⟩
def pM (l:List aM) (s:ByteArray):Option aM:=l.find? (λp=>p.name == s)
theorem XE (l:List aM) (s:ByteArray) (j:Nat) (hj:j<l.length) (h:(l[j].name == s)=true) (hn:∀ i (hi:i<l.length),i<j->(l[i].name == s)=false):pM l s=some l[j]:=by
 unfold pM
 rw[List.find?_eq_some_iff_getElem]
 exact⟨h,j,hj,rfl,λi hi=>by simp[hn i (by omega) hi]⟩
theorem Xo (l:List aM) (s:ByteArray) (hn:∀ i (hi:i<l.length),(l[i].name == s)=false):pM l s=none:=by
 refine List.find?_eq_none.2 λx hx => ?_
 obtain⟨i,hi,rfl⟩:=List.mem_iff_getElem.1 hx
 simp[hn i hi]
theorem Zb (w:World):qV w A7:=⟨by simp[A7,ByteArray.size],aB.nil _ _ _,.mk (by decide) (by simp[In64]) (by simp[ByteArray.size]) (aB.nil _ _ _) (by simp)⟩
theorem XZ {w:World} {v:Value} {l:List aM} (h:su w v l) (s:ByteArray):qV w ((pM l s).getD A7):=by
 cases hf:pM l s with
 |none=>exact Zb w
 |some p=>exact h.each p (List.mem_of_find?_eq_some hf)
theorem qV.form {w:World} {n:ByteArray} {p:List aT} {pv:Value} {b:aa} (h:qV w ⟨n,p,pv,b⟩):∃ a c,pv = .slice a p.length c/\p.length<=c/\p.length<=9223372036854775807:=h.params.form
theorem TQ {w:World} {X:Nat} {a0 a1 a2 a3 a4 a5:Value} {t:TypeId} (h:w.heap[X]? = some (.cells #[a0,a1,a2,a3,a4,a5] t (0,0))) (b0 b1 b2 b3 b4 b5:Value) :
 ((((((w.setCell ⟨X,0,none⟩ b0).setCell ⟨X,1,none⟩ b1).setCell ⟨X,2,none⟩ b2).setCell ⟨X,3,none⟩ b3).setCell ⟨X,4,none⟩ b4).setCell ⟨X,5,none⟩ b5).heap[X]? = some (.cells #[b0,b1,b2,b3,b4,b5] t (0,0)) /\
 Mv (λb=>b=X) w ((((((w.setCell ⟨X,0,none⟩ b0).setCell ⟨X,1,none⟩ b1).setCell ⟨X,2,none⟩ b2).setCell ⟨X,3,none⟩ b3).setCell ⟨X,4,none⟩ b4).setCell ⟨X,5,none⟩ b5):=by
 constructor
 · have h1:=block_setCell (p:=⟨X,0,none⟩) h rfl b0
   have h2:=block_setCell (p:=⟨X,1,none⟩) h1 rfl b1
   have h3:=block_setCell (p:=⟨X,2,none⟩) h2 rfl b2
   have h4:=block_setCell (p:=⟨X,3,none⟩) h3 rfl b3
   have h5:=block_setCell (p:=⟨X,4,none⟩) h4 rfl b4
   have h6:=block_setCell (p:=⟨X,5,none⟩) h5 rfl b5
   simpa using h6
 · exact((((((Mv.refl (λb=>b=X) w).setCell (p:=⟨X,0,none⟩) (.inl rfl) _).setCell (p:=⟨X,1,none⟩) (.inl rfl) _).setCell (p:=⟨X,2,none⟩) (.inl rfl) _).setCell (p:=⟨X,3,none⟩) (.inl rfl) _).setCell (p:=⟨X,4,none⟩) (.inl rfl) _).setCell (p:=⟨X,5,none⟩) (.inl rfl) _
theorem Dq {w:World} {X:Nat} {c0 c1 c2 c3 c4 c5:Value} {t:TypeId} (h:w.heap[X]? = some (.cells #[c0,c1,c2,c3,c4,c5] t (0,0))):(w.cell? ⟨X,0,none⟩=some c0/\w.cell? ⟨X,1,none⟩=some c1/\w.cell? ⟨X,2,none⟩=some c2)/\w.cell? ⟨X,3,none⟩=some c3/\w.cell? ⟨X,4,none⟩=some c4/\w.cell? ⟨X,5,none⟩=some c5:=by
 simp[World.cell?,h]
set_option maxRecDepth 100000 in
set_option maxHeartbeats 1600000 in
theorem Zc (v:Value) (l:List aM) (s:ByteArray) (w:World) (hp:su w v l) :
 Calls Tryz.prog 185 #[v,.string s] w λe w'=>e = .returned (.tuple #[((pM l s).getD A7).val,.bool (pM l s).isSome])/\Grow w w':=by
 obtain⟨pa,pc,rfl,hpc,hpl⟩:=hp.row.form
 have HP:=Lib.hid hp
 clear hp
 have aP:=Lib.hid (show Grow w (w.alloc (.cells #[.string ⟨#[]⟩,.slice none 0 0,.int .u8 0,.int .i64 0,.string ⟨#[]⟩,.slice none 0 0] 48))from(Mv.refl _ _).alloc _)
 have HZ:=Lib.hid (heap_alloc_new w (.cells #[.string ⟨#[]⟩,.slice none 0 0,.int .u8 0,.int .i64 0,.string ⟨#[]⟩,.slice none 0 0] 48))
 go_enter Tryz.func185,Tryz.ntmps185
 go_wp2_with fail
 generalize w.alloc (.cells #[.string ⟨#[]⟩,.slice none 0 0,.int .u8 0,.int .i64 0,.string ⟨#[]⟩,.slice none 0 0] 48)=w1 at *
 go_loopw [10] (λt wr=>∃ j:Nat,t = .int .i64 j/\j<=l.length/\(∀ i (hi:i<l.length),i<j->(l[i].name == s)=false)/\Grow w1 wr) (λt _=>l.length - (intOf t).toNat)
 case atStart=>exact⟨0,rfl,Nat.zero_le _,λi _ h=>by omega,Mv.refl _ _⟩
 obtain⟨j,rfl,hj,hno,hgr⟩:=hrel
 have jA:=Lib.hid hno
 have aU:=Lib.hid hgr
 have aS:=Lib.hid (Mv.trans aP.out hgr (λ_ e=>e.elim))
 have hZ:=aJ HZ.out hgr
 have Wm:=Lib.hid hZ
 have hlz:=lt_of_block hZ
 obtain⟨⟨z0,z1,z2⟩,z3,z4,z5⟩:=Dq hZ
 have zt:=gN hZ
 clear hno hgr hZ
 by_cases hlt:j<l.length
 · obtain⟨b,off,cap',e,_,hcc⟩:=(HP.out.row.later aS.out).at hlt
   simp only[Value.slice.injEq,true_and]at e
   obtain⟨rfl,rfl⟩:=e
   have hxo:=HP.out.each l[j] (List.getElem_mem hlt)
   have zN:=Lib.hid (λh=>XE l s j hlt h jA.out)
   have HST:=Lib.hid (show((l[j].name == s)=false->∀ i (hi:i<l.length),i<j+1->(l[i].name == s)=false)from λh i hi hij=>by
    rcases Nat.lt_or_ge i j with h3|h3
    · exact jA.out i hi h3
    · obtain rfl:i=j:=by omega
      exact h)
   generalize l[j]=x at zN HST hxo hcc
   obtain⟨xn,xp,xpv,xb⟩:=x
   obtain⟨xa,xc,rfl,-,-⟩:=hxo.form
   have xD:=hxo.body
   obtain⟨bk,bn,bs,bkv,bl⟩:=xb
   simp only at xD
   obtain⟨ba,bc,rfl,-,-⟩:=xD.form
   have c0:=hcc 0 _ rfl
   have c1:=hcc 1 _ rfl
   have c2:=hcc 2 _ rfl
   have c3:=hcc 3 _ rfl
   have c4:=hcc 4 _ rfl
   have c5:=hcc 5 _ rfl
   simp only[Nat.add_zero]at c0
   simp only at zN HST
   have hbl:b<wr.heap.size:=World.block_lt_of_cell? wr _ c0
   have hbb:=TK xn s
   generalize hbv:(xn == s)=bv at *
   have aK:=Lib.hid (aU.out.alloc (.cells #[.string xn,.slice xa xp.length xc,.int .u8 bk,.int .i64 bn,.string bs,.slice ba bl.length bc] 48))
   clear hcc hxo xD hbv
   cases bv with
   |true =>
    have HR:=Lib.hid (zN.out rfl)
    obtain⟨hY,hmv⟩:=TQ Wm.out (.string xn) (.slice xa xp.length xc) (.int .u8 bk) (.int .i64 bn) (.string bs) (.slice ba bl.length bc)
    have HY:=Lib.hid (dG hY (.cells #[.string xn,.slice xa xp.length xc,.int .u8 bk,.int .i64 bn,.string bs,.slice ba bl.length bc] 48))
    have fP:=Lib.hid (aS.out.trans hmv (λx e => .inr (by omega)))
    clear hY hmv
    go_wp2_with fail
    obtain⟨⟨k0,k1,k2⟩,k3,k4,k5⟩:=Dq HY.out
    refine bodyPost_ret (v := .tuple #[.agg #[.string xn,.slice xa xp.length xc,.int .u8 bk,.int .i64 bn,.string bs,.slice ba bl.length bc],.bool true]) ?_ rfl ⟨by rw[HR.out];rfl,fP.out.alloc _⟩
    simp[results,Tryz.results185,go_sem,k0,k1,k2,k3,k4,k5]
   |false =>
    have dU:=Lib.hid (HST.out rfl)
    go_wp2_with fail
    go_roundw
    case rel=>exact⟨j+1,by go_num,by omega,dU.out,aK.out⟩
    case measure=>simp[intOf];omega
 obtain rfl:j=l.length:=by omega
 have HR:=Lib.hid (Xo l s (λi hi=>jA.out i hi hi))
 obtain⟨hY,hmv⟩:=TQ Wm.out (.string ⟨#[]⟩) (.slice none 0 0) (.int .u8 0) (.int .i64 0) (.string ⟨#[]⟩) (.slice none 0 0)
 have HY:=Lib.hid hY
 have fP:=Lib.hid (aS.out.trans hmv (λx e => .inr (by omega)))
 clear hY hmv
 go_wp2_with fail
 obtain⟨⟨k0,k1,k2⟩,k3,k4,k5⟩:=Dq HY.out
 refine bodyPost_ret (v := .tuple #[.agg #[.string ⟨#[]⟩,.slice none 0 0,.int .u8 0,.int .i64 0,.string ⟨#[]⟩,.slice none 0 0],.bool false]) ?_ rfl ⟨by rw[HR.out];rfl,fP.out⟩
 simp[results,Tryz.results185,go_sem,k0,k1,k2,k3,k4,k5]
set_option maxRecDepth 100000 in
set_option maxHeartbeats 1600000 in
theorem Qz (sv pv:Value) (f:fe) (name:ByteArray) (kind:Int) (w:World) (hf:mE w sv f) (pa:Option Addr) (pn pc:Nat) (hpv:pv = .slice pa pn pc) :
 Calls Tryz.prog 183 #[.agg #[sv,.int .i64 f.cells,.int .i64 f.stacks,pv],.string name,.int .u8 kind] w (jG w (aD f name kind).isSome):=by
 subst hpv
 obtain⟨fa,fc,rfl,hfc,hfl⟩:=hf.row.form
 have HG:=Lib.hid (show Grow w (w.alloc (.cells #[.slice fa f.slots.length fc,.int .i64 f.cells,.int .i64 f.stacks,.slice pa pn pc] 141))from(Mv.refl _ _).alloc _)
 have HF:=Lib.hid (rW (.slice fa f.slots.length fc) f name kind (w.alloc (.cells #[.slice fa f.slots.length fc,.int .i64 f.cells,.int .i64 f.stacks,.slice pa pn pc] 141)) (hf.later HG.out))
 clear hf
 go_enter Tryz.func183,Tryz.ntmps183
 go_wp2_with fail
 refine HF.out.mono ?_
 rintro e w2 ⟨rfl,hg2⟩
 have HG2:=Lib.hid (Mv.trans HG.out hg2 (λ_ e=>e.elim))
 clear hg2 HF
 generalize (aD f name kind).getD noSlot=sl at *
 obtain⟨s0,s1,s2,s3⟩:=sl
 simp only
 go_wp2_with fail
 go_ret
 exact⟨rfl,HG2.out.alloc _⟩
end
section
def YC (cs:List (Option Value)) (k:Nat) (P:List Value->World->Prop):Nat->List Value->World->Prop:=λj l w=>if j=k then P l w else match cs.getD j none with
 |some c=>l=[c]
 |none=>True
theorem eT {cs:List (Option Value)} {k j:Nat} {P:List Value->World->Prop} {v c:Value} {x:World} (h:YC cs k P j [v] x) (hj:j≠k) (hc:cs.getD j none=some c):v=c:=by
 unfold YC at h
 rw[if_neg hj,hc]at h
 simpa using h
theorem kr {cs:List (Option Value)} {k j:Nat} {P:List Value->World->Prop} {v c:Value} {x:World} (hj:j≠k) (hc:cs.getD j none=some c) (hv:v=c):YC cs k P j [v] x:=by
 unfold YC
 rw[if_neg hj,hc,hv]
theorem aaT {cs:List (Option Value)} {k:Nat} {P:List Value->World->Prop} {x y:World} (hP:∀ l,P l x->P l y) (j:Nat) (l:List Value) (h:YC cs k P j l x):YC cs k P j l y:=by
 unfold YC at h ⊢
 split
 · rename_i hj;rw[if_pos hj]at h;exact hP l h
 · rename_i hj;rw[if_neg hj]at h;exact h
end
end Go.Proofs.YtadecgbblajifaaGreatDoor
