import Derived.Test.YtadecgbblajifaaGreatDoorE26
import Derived.Lib.AppendStr
import Derived.Test.YtadecgbblajifaaGreatDoorE23
import Derived.Laws.BitsLemmas
set_option linter.unusedSimpArgs false
set_option linter.unusedVariables false
set_option maxRecDepth 100000
set_option maxHeartbeats 25600000
namespace Go.Proofs.YtadecgbblajifaaGreatDoor
section
open Go.RowKit Go.Instr
attribute [local go_sem ↓] qH
def aL (x:Int):List Value:=[.int .u8 x]
theorem mF (x:Int):(aL x).length=1:=rfl
theorem Tryz.Qo:(Tryz.prog.info? 5).map (λi=>(i.zero,i.size,i.bytes))=some (some (.int .u8 0),1,1):=by kernel_rfl
theorem Tryz.yf:Elem Tryz.prog 51 5 1 1:=Elem.of Tryz.underlying51 Tryz.Qo rfl (by decide) (by decide)
abbrev eu (w:World) (base:Nat) (v:Value) (l:List Int):Prop:=w.ownsRow base 5 1 v l.length (flat aL l)
def bq (base:Nat) (w w':World):Prop:=Mv (λb=>base<=b/\∃ cs z,w.heap[b]? = some (.cells cs 5 z)) w w'
theorem bq.refl {base:Nat} (w:World):bq base w w:=Mv.refl _ w
theorem bq.trans {base:Nat} {a b c:World} (h:bq base a b) (k:bq base b c):bq base a c:=Mv.trans h k (λg e=>by
 obtain⟨h1,cs,z,h2⟩:=e
 rcases Nat.lt_or_ge g a.heap.size with hl|hl
 · by_cases ho:base<=g/\∃ cs z,a.heap[g]? = some (.cells cs 5 z)
   · exact .inl ho
   · rw[h.block g hl ho]at h2
     exact .inl ⟨h1,cs,z,h2⟩
 · exact .inr hl)
theorem bq.grow {base:Nat} {w w':World} (h:Grow w w'):bq base w w':=h.mono λ_ e => .inl e.elim
theorem bq.own {base:Nat} {w w':World} {v:Value} {l:List Int} (h:eu w base v l) (hm:Mv (λb=>v.ownBlock=some b) w w'):bq base w w':=hm.mono λb e => .inl (by
 obtain⟨h1,cs,z,h2⟩:=Ic h b e
 exact⟨h1,cs,z,h2⟩)
theorem bq.keep {base:Nat} {w w':World} (h:bq base w w') {b:Nat} {cs:Array Value} {ty:TypeId} {z:Nat × Nat} (hb:w.heap[b]? = some (.cells cs ty z)) (hty:ty≠5):w'.heap[b]? = some (.cells cs ty z):=by
 rw[h.block b (lt_of_block hb) (λe => ?_)]
 · exact hb
 · obtain⟨-,c2,z2,h2⟩:=e
   rw[hb]at h2
   simp only[Option.some.injEq,Obj.cells.injEq]at h2
   exact hty h2.2.1
def BQ (base:Nat) (w:World) (l:List Int) (e:Ending) (w':World):Prop:=∃ a c,e = .returned (.slice a l.length c)/\eu w' base (.slice a l.length c) l/\bq base w w'
def ah (x:Int):Nat->List Int
 |0=>[]
 |n+1=>x / 2 ^ (8 * n) % 256 :: ah x n
set_option maxRecDepth 100000 in
set_option maxHeartbeats 6400000 in
theorem lF (base:Nat) (v:Value) (l:List Int) (x:Int) (n:Nat) (w:World) (h:eu w base v l) (hb:base<=w.heap.size) (hl:l.length<=900000) (hn:n<=8):Calls Tryz.prog 44 #[v,.int .i64 x,.int .i64 n] w (BQ base w (l ++ ah x n)):=by
 obtain⟨va,vc,rfl⟩:=o8 h
 have HR:=Lib.hid h
 clear h
 go_enter Tryz.func44,Tryz.ntmps44
 go_wp2_with fail
 go_loopw [0,7] (λlv t wr=>∃ (m:Nat) (pre:List Int) (a:Option Addr) (c:Nat),t = .int .i64 ((m:Int) - 1)/\m<=n/\lv = .slice a pre.length c/\pre ++ ah x m=l ++ ah x n/\pre.length+m=l.length+n/\eu wr base (.slice a pre.length c) pre/\bq base w wr) (λ_ t _=>(intOf t+1).toNat)
 case atStart=>exact⟨n,l,va,vc,by go_num,Nat.le_refl _,rfl,rfl,rfl,HR.out,bq.refl _⟩
 obtain⟨m,pre,a,c,rfl,hm,rfl,he,hpl,hrow,hmv⟩:=hrel
 have HE:=Lib.hid he
 have iE:=Lib.hid hrow
 have fP:=Lib.hid hmv
 have Cy:=Lib.hid hpl
 have hpx:pre.length<=900010:=by omega
 clear he hrow hmv hpl
 rcases m with _|m
 · have hE:=HE.out
   simp only[ah,List.append_nil]at hE
   subst hE
   go_wp2_with fail
   go_ret
   exact⟨a,c,rfl,iE.out,fP.out⟩
 · have V4:m<8:=by omega
   have hg1:Grow wr (wr.alloc (.cells #[.int .u8 (x / 2 ^ (8 * m) % 256)] 5)):=(Mv.refl _ _).alloc _
   obtain⟨a',c',w2,⟨hok,iI,haw⟩,hr2,hm2,hf2⟩:=nL Tryz.yf (f:=aL) mF (.slice a pre.length c) (.slice (some ⟨wr.heap.size,0,none⟩) 1 1) pre [x / 2 ^ (8 * m) % 256] base (wr.alloc (.cells #[.int .u8 (x / 2 ^ (8 * m) % 256)] 5)) (fQ iE.out hg1 (λ_ _ e=>e)) (aB.gW (f:=aL) (l:=[x / 2 ^ (8 * m) % 256]) mF (heap_alloc_new wr _) (by simp[flat,aL]) (Nat.le_of_ble_eq_true rfl)) (λy hy u hu=>by simp at hy;subst hy;simp[aL]at hu;subst hu;rfl) (by have:=fP.out.size;simp;omega) (by simp;omega)
   have ow:=Lib.hid (show eu w2 base (.slice a' (pre.length+1) c') (pre ++ [x / 2 ^ (8 * m) % 256])from hr2)
   have Cz:=Lib.hid ((fP.out.trans (bq.grow hg1)).trans (bq.own (fQ iE.out hg1 (λ_ _ e=>e)) hm2))
   have oG:=Lib.hid (show(pre ++ [x / 2 ^ (8 * m) % 256]) ++ ah x m=l ++ ah x n from by rw[← HE.out];simp[ah])
   clear hr2 hm2 hf2 hg1
   go_wp2_with fail
   go_roundw
   case rel=>exact⟨m,_,a',c',by go_num,by omega,by simp,oG.out,by have:=Cy.out;simp;omega,by simpa using ow.out,Cz.out⟩
   case measure=>(simp[intOf] <;> omega)
set_option maxRecDepth 100000 in
set_option maxHeartbeats 6400000 in
theorem Qp (base:Nat) (v:Value) (l:List Int) (x:Int) (n:Nat) (w:World) (h:eu w base v l) (hb:base<=w.heap.size) (hl:l.length<=900000) (hn:n<=8):Calls Tryz.prog 46 #[v,.int .i64 x,.int .i64 n] w (BQ base w (l ++ ah x n)):=by
 obtain⟨va,vc,rfl⟩:=o8 h
 have HR:=Lib.hid h
 clear h
 go_enter Tryz.func46,Tryz.ntmps46
 go_wp2_with fail
 go_loopw [0,2] (λlv t wr=>∃ (m:Nat) (pre:List Int) (a:Option Addr) (c:Nat),t = .int .i64 ((m:Int) - 1)/\m<=n/\lv = .slice a pre.length c/\pre ++ ah x m=l ++ ah x n/\pre.length+m=l.length+n/\eu wr base (.slice a pre.length c) pre/\bq base w wr) (λ_ t _=>(intOf t+1).toNat)
 case atStart=>exact⟨n,l,va,vc,by go_num,Nat.le_refl _,rfl,rfl,rfl,HR.out,bq.refl _⟩
 obtain⟨m,pre,a,c,rfl,hm,rfl,he,hpl,hrow,hmv⟩:=hrel
 have HE:=Lib.hid he
 have iE:=Lib.hid hrow
 have fP:=Lib.hid hmv
 have Cy:=Lib.hid hpl
 have hpx:pre.length<=900010:=by omega
 clear he hrow hmv hpl
 rcases m with _|m
 · have hE:=HE.out
   simp only[ah,List.append_nil]at hE
   subst hE
   go_wp2_with fail
   go_ret
   exact⟨a,c,rfl,iE.out,fP.out⟩
 · have V4:m<8:=by omega
   have hg1:Grow wr (wr.alloc (.cells #[.int .u8 (x / 2 ^ (8 * m) % 256)] 5)):=(Mv.refl _ _).alloc _
   obtain⟨a',c',w2,⟨hok,iI,haw⟩,hr2,hm2,hf2⟩:=nL Tryz.yf (f:=aL) mF (.slice a pre.length c) (.slice (some ⟨wr.heap.size,0,none⟩) 1 1) pre [x / 2 ^ (8 * m) % 256] base (wr.alloc (.cells #[.int .u8 (x / 2 ^ (8 * m) % 256)] 5)) (fQ iE.out hg1 (λ_ _ e=>e)) (aB.gW (f:=aL) (l:=[x / 2 ^ (8 * m) % 256]) mF (heap_alloc_new wr _) (by simp[flat,aL]) (Nat.le_of_ble_eq_true rfl)) (λy hy u hu=>by simp at hy;subst hy;simp[aL]at hu;subst hu;rfl) (by have:=fP.out.size;simp;omega) (by simp;omega)
   have ow:=Lib.hid (show eu w2 base (.slice a' (pre.length+1) c') (pre ++ [x / 2 ^ (8 * m) % 256])from hr2)
   have Cz:=Lib.hid ((fP.out.trans (bq.grow hg1)).trans (bq.own (fQ iE.out hg1 (λ_ _ e=>e)) hm2))
   have oG:=Lib.hid (show(pre ++ [x / 2 ^ (8 * m) % 256]) ++ ah x m=l ++ ah x n from by rw[← HE.out];simp[ah])
   clear hr2 hm2 hf2 hg1
   go_wp2_with fail
   go_roundw
   case rel=>exact⟨m,_,a',c',by go_num,by omega,by simp,oG.out,by have:=Cy.out;simp;omega,by simpa using ow.out,Cz.out⟩
   case measure=>(simp[intOf] <;> omega)
set_option maxRecDepth 100000 in
set_option maxHeartbeats 6400000 in
theorem agm (base:Nat) (v:Value) (l:List Int) (x:Int) (n:Nat) (w:World) (h:eu w base v l) (hb:base<=w.heap.size) (hl:l.length<=900000) (hn:n<=8):Calls Tryz.prog 51 #[v,.int .i64 x,.int .i64 n] w (BQ base w (l ++ ah x n)):=by
 obtain⟨va,vc,rfl⟩:=o8 h
 have HR:=Lib.hid h
 clear h
 go_enter Tryz.func51,Tryz.ntmps51
 go_wp2_with fail
 go_loopw [0,7] (λlv t wr=>∃ (m:Nat) (pre:List Int) (a:Option Addr) (c:Nat),t = .int .i64 ((m:Int) - 1)/\m<=n/\lv = .slice a pre.length c/\pre ++ ah x m=l ++ ah x n/\pre.length+m=l.length+n/\eu wr base (.slice a pre.length c) pre/\bq base w wr) (λ_ t _=>(intOf t+1).toNat)
 case atStart=>exact⟨n,l,va,vc,by go_num,Nat.le_refl _,rfl,rfl,rfl,HR.out,bq.refl _⟩
 obtain⟨m,pre,a,c,rfl,hm,rfl,he,hpl,hrow,hmv⟩:=hrel
 have HE:=Lib.hid he
 have iE:=Lib.hid hrow
 have fP:=Lib.hid hmv
 have Cy:=Lib.hid hpl
 have hpx:pre.length<=900010:=by omega
 clear he hrow hmv hpl
 rcases m with _|m
 · have hE:=HE.out
   simp only[ah,List.append_nil]at hE
   subst hE
   go_wp2_with fail
   go_ret
   exact⟨a,c,rfl,iE.out,fP.out⟩
 · have V4:m<8:=by omega
   have hg1:Grow wr (wr.alloc (.cells #[.int .u8 (x / 2 ^ (8 * m) % 256)] 5)):=(Mv.refl _ _).alloc _
   obtain⟨a',c',w2,⟨hok,iI,haw⟩,hr2,hm2,hf2⟩:=nL Tryz.yf (f:=aL) mF (.slice a pre.length c) (.slice (some ⟨wr.heap.size,0,none⟩) 1 1) pre [x / 2 ^ (8 * m) % 256] base (wr.alloc (.cells #[.int .u8 (x / 2 ^ (8 * m) % 256)] 5)) (fQ iE.out hg1 (λ_ _ e=>e)) (aB.gW (f:=aL) (l:=[x / 2 ^ (8 * m) % 256]) mF (heap_alloc_new wr _) (by simp[flat,aL]) (Nat.le_of_ble_eq_true rfl)) (λy hy u hu=>by simp at hy;subst hy;simp[aL]at hu;subst hu;rfl) (by have:=fP.out.size;simp;omega) (by simp;omega)
   have ow:=Lib.hid (show eu w2 base (.slice a' (pre.length+1) c') (pre ++ [x / 2 ^ (8 * m) % 256])from hr2)
   have Cz:=Lib.hid ((fP.out.trans (bq.grow hg1)).trans (bq.own (fQ iE.out hg1 (λ_ _ e=>e)) hm2))
   have oG:=Lib.hid (show(pre ++ [x / 2 ^ (8 * m) % 256]) ++ ah x m=l ++ ah x n from by rw[← HE.out];simp[ah])
   clear hr2 hm2 hf2 hg1
   go_wp2_with fail
   go_roundw
   case rel=>exact⟨m,_,a',c',by go_num,by omega,by simp,oG.out,by have:=Cy.out;simp;omega,by simpa using ow.out,Cz.out⟩
   case measure=>(simp[intOf] <;> omega)
noncomputable def BR (P:Program) (t u ty:TypeId) (v s:Value) (w:World):Value :=
 match (Builtin.append_ #[t,u] ty #[v,s]).run P w with
 |.ok x _=>x
 |_=>undef
noncomputable def BU (P:Program) (t u ty:TypeId) (v s:Value) (w:World):World :=
 match (Builtin.append_ #[t,u] ty #[v,s]).run P w with
 |.ok _ y=>y
 |_=>w
def Kn (P:Program) (t u ty:TypeId) (v s:Value) (w:World):Prop:=∃ x y,(Builtin.append_ #[t,u] ty #[v,s]).run P w = .ok x y
theorem Y7 {P:Program} {ρ:Operand->Value} {d:Option Tmp} {s x:Operand} {t u ty:TypeId} {pos:String} {af:Array Edge} {gd:Option (Nat × Bool)} {w:World} (h:Kn P t u ty (ρ s) (ρ x) w) :
 (execOp ρ { dst:=d,op := .call { callee := .builtin .append,args:=#[s,x],argTypes:=#[t,u] },type:=ty,pos:=pos,after:=af,guard:=gd }).run P w = .ok (.value (BR P t u ty (ρ s) (ρ x) w)) (BU P t u ty (ρ s) (ρ x) w):=by
 obtain⟨y,z,hr⟩:=h
 unfold execOp
 simp only[resolve,invoke,builtin,Sem.run_bind,Sem.run_pure,Result.andThen_ok,List.map_toArray,List.map_cons,List.map_nil,hr,BR,BU]
theorem abH {P:Program} {t u ty:TypeId} {v s x:Value} {w y:World} (h:(Builtin.append_ #[t,u] ty #[v,s]).run P w = .ok x y):Kn P t u ty v s w/\BR P t u ty v s w=x/\BU P t u ty v s w=y :=
 ⟨⟨x,y,h⟩,by simp only[BR,h],by simp only[BU,h]⟩
def cK (s:ByteArray):List Int:=s.data.toList.map λb=>(b.toNat:Int)
theorem qJ (s:ByteArray):(cK s).length=s.size:=by simp[cK]
theorem Z7 (s:ByteArray):flat aL (cK s)=Lib.strCells s:=by
 simp only[flat,cK,Lib.strCells]
 induction s.data.toList with
 |nil=>rfl
 |cons b l ih=>simp only[List.map_cons,List.flatten_cons,ih];rfl
theorem Yt {w w':World} {o:Option Nat} (h:w.grownBy w' o):Mv (λb=>o=some b) w w':=(Mv.refl (λb=>o=some b) w).grown h (λk e => .inl e)
theorem Pm (base:Nat) (a:Option Addr) (c:Nat) (l:List Int) (s:ByteArray) (w:World) (h:eu w base (.slice a l.length c) l) (hb:base<=w.heap.size) (hl:l.length<=900000) (hs:s.size<=90000) :
 ∃ a' c' w2,(Kn Tryz.prog 51 9 51 (.slice a l.length c) (.string s) w/\BR Tryz.prog 51 9 51 (.slice a l.length c) (.string s) w = .slice a' (l ++ cK s).length c'/\BU Tryz.prog 51 9 51 (.slice a l.length c) (.string s) w=w2) /\
  eu w2 base (.slice a' (l ++ cK s).length c') (l ++ cK s)/\bq base w w2:=by
 obtain⟨i,hi,hz,hsz,hby⟩:∃ i,Tryz.prog.info? 5=some i/\i.zero=some (.int .u8 0)/\i.size=1/\i.bytes=1:=by
  have h9:=Tryz.Qo
  cases hq:Tryz.prog.info? 5 with
  |none=>rw[hq]at h9;cases h9
  |some i =>
   rw[hq]at h9
   simp only[Option.map_some,Option.some.injEq,Prod.mk.injEq]at h9
   exact⟨i,rfl,h9.1,h9.2.1,h9.2.2⟩
 obtain⟨v',w2,hr,hrow,hg,-⟩:=Lib.run_append_own_string (P:=Tryz.prog) w base 51 9 51 5 i Tryz.underlying51 Tryz.underlying9 hi hz hsz hby (.slice a l.length c) l.length (flat aL l) h s (by simp[maxLen];omega) (by omega) hb
 have h9:w2.ownsRow base 5 1 v' (l ++ cK s).length (flat aL (l ++ cK s)):=by rw[Nt,Z7,List.length_append,qJ];exact hrow
 obtain⟨a',c',rfl⟩:=o8 h9
 exact⟨a',c',w2,abH hr,h9,bq.own h (Yt hg)⟩
attribute [local go_sem ↓] Y7
set_option maxRecDepth 100000 in
set_option maxHeartbeats 6400000 in
theorem Dj (base:Nat) (v:Value) (l:List Int) (s:ByteArray) (w:World) (h:eu w base v l) (hb:base<=w.heap.size) (hl:l.length<=800000) (hs:s.size<=90000):Calls Tryz.prog 43 #[v,.string s] w (BQ base w (l ++ ah s.size 1 ++ cK s)):=by
 obtain⟨va,vc,rfl⟩:=o8 h
 have HC:=Lib.hid (lF base (.slice va l.length vc) l s.size 1 w h hb (by omega) (by decide))
 have HL1:=Lib.hid (show(l ++ ah s.size 1).length<=900000 from by simp[ah];omega)
 clear h
 generalize l ++ ah s.size 1=l1 at *
 go_enter Tryz.func43,Tryz.ntmps43
 go_wp2_with fail
 refine HC.out.mono ?_
 rintro e w1 ⟨a,c,rfl,hr,hm⟩
 obtain⟨a',c',w2,⟨hok,iI,haw⟩,hr2,hm2⟩:=Pm base a c l1 s w1 hr (Nat.le_trans hb hm.size) HL1.out hs
 have HR2:=Lib.hid hr2
 have rR:=Lib.hid (hm.trans hm2)
 clear hr hm HC hr2 hm2
 go_wp2_with fail
 go_ret
 exact⟨a',c',by simp,HR2.out,rR.out⟩
set_option maxRecDepth 100000 in
set_option maxHeartbeats 6400000 in
theorem agn (base:Nat) (v:Value) (l:List Int) (s:ByteArray) (w:World) (h:eu w base v l) (hb:base<=w.heap.size) (hl:l.length<=800000) (hs:s.size<=90000):Calls Tryz.prog 50 #[v,.string s] w (BQ base w (l ++ ah s.size 1 ++ cK s)):=by
 obtain⟨va,vc,rfl⟩:=o8 h
 have hbe:ah s.size 1=[(s.size:Int) % 256]:=by simp[ah]
 rw[hbe]
 have hg1:Grow w (w.alloc (.cells #[.int .u8 ((s.size:Int) % 256)] 5)):=(Mv.refl _ _).alloc _
 have hr1:=fQ h hg1 (λ_ _ e=>e)
 obtain⟨a1,c1,w2,⟨hok,iI,haw⟩,hr2,hm2,-⟩:=nL Tryz.yf (f:=aL) mF (.slice va l.length vc) (.slice (some ⟨w.heap.size,0,none⟩) 1 1) l [(s.size:Int) % 256] base (w.alloc (.cells #[.int .u8 ((s.size:Int) % 256)] 5)) hr1 (aB.gW (f:=aL) (l:=[(s.size:Int) % 256]) mF (heap_alloc_new w _) (by simp[flat,aL]) (Nat.le_of_ble_eq_true rfl)) (λy hy u hu=>by simp at hy;subst hy;simp[aL]at hu;subst hu;rfl) (by simp;omega) (by simp;omega)
 have hrx:eu w2 base (.slice a1 (l ++ [(s.size:Int) % 256]).length c1) (l ++ [(s.size:Int) % 256]):=by simpa[eu]using hr2
 have hmx:bq base w w2:=(bq.grow hg1).trans (bq.own hr1 hm2)
 obtain⟨a',c',w3,⟨adt,adu,adv⟩,hr3,dR⟩:=Pm base a1 c1 (l ++ [(s.size:Int) % 256]) s w2 hrx (Nat.le_trans hb hmx.size) (by simp;omega) hs
 have HR3:=Lib.hid hr3
 have jN:=Lib.hid (hmx.trans dR)
 have hln:(l ++ [(s.size:Int) % 256]).length=l.length+1:=by simp
 rw[hln]at adt adu adv
 clear h hg1 hr1 hr2 hm2 hrx hmx hr3 dR hln hbe
 go_enter Tryz.func50,Tryz.ntmps50
 go_wp2_with fail
 go_ret
 exact⟨a',c',by simp,HR3.out,jN.out⟩
end
end Go.Proofs.YtadecgbblajifaaGreatDoor
namespace Go.Proofs.YtadecgbblajifaaGreatDoor.DV
open Go
abbrev xz (l:List Int):D := .ar 1 (l.map uD)
theorem ay (l:List Int):∀ d∈l.map uD,ak d:=λd hd=>by
 obtain⟨x,_,rfl⟩:=List.mem_map.1 hd
 exact ak.lf _
theorem Rn.bs {ρ:List (Nat × Nat)} {l:List D} {l':List Int} (h:l=l'.map uD):Rn ρ (.ar 1 l) (xz l'):=by
 subst h
 exact Rn.ar (eP.fz (ay l'))
theorem Rn.jY {ρ:List (Nat × Nat)} {i j off n m:Nat} {t:Bool} (h:(j,i)∈ρ) (e:n=m):Rn ρ (.own t i off n) (.own t j off m):=by
 subst e
 exact Rn.own h
theorem sK (x:Int) (c:Nat):IntKind.u8.wrap (x.fdiv (2 ^ c))=x / 2 ^ c % 256:=by
 rw[Int.fdiv_eq_ediv_of_nonneg _ (Int.pow_nonneg (by decide))]
 simp[IntKind.wrap,IntKind.bits,IntKind.signed]
theorem sj {C:Cx} {B:Base} {K:Ex->S->Prop} {I:Nat × List Int->S} {t:S} {x:Int} {n m:Nat} {l pre:List Int} (h0:m<8) (h1:m+1<=n) (h2:pre.length<=900008 - (m+1)) (h3:pre ++ ah x (m+1)=l ++ ah x n) (h:Wk C B t (I (m,pre ++ [x / 2 ^ (8 * m) % 256]))) :
 lp C B K I (λp=>p.1) (λp=>p.1<=n/\p.2.length<=900008 - p.1/\p.2 ++ ah x p.1=l ++ ah x n) (m+1,pre) .normal t :=
 nZ (m,pre ++ [x / 2 ^ (8 * m) % 256]) ⟨by omega,by simp;omega,by rw[← h3];simp[ah]⟩ (by simp) h
theorem bY (x:Int) (n:Nat) (hn:n<=8) (l:List Int) (hl:l.length<=900000):Fq Tryz.prog dL 51 1 [iD x,nD n] (l.map uD) ((l ++ ah x n).map uD):=by
 refine Qn (C:=Cs) hT Tryz.func51 rfl rfl rfl hG (by simp[ak.lf]) (ay _) λB => ?_
 unfold Tryz.f51
 repeat' (first|apply bJ|apply bK|apply bL|apply bM|apply bN|apply bO rfl|apply bP rfl|apply bR|apply bQ|apply run_seq|apply bA|apply eB|apply bC|apply bF|apply bB|apply z0 hT rfl rfl rfl rfl|apply zk rfl rfl rfl|apply z1 hT rfl rfl rfl rfl|apply zs hT rfl rfl rfl|apply za hT rfl rfl rfl rfl|apply bE|((fail_if_success apply zw rfl);apply zg rfl <;> (intro hb;rw[hb]))|apply bS rfl|apply bT rfl|(apply bU rfl <;> (intro hb;try rw[hb]))|apply bG mixed hC|apply bH|apply d0 rfl rfl rfl rfl rfl (by kernel_rfl)|apply dk rfl rfl rfl rfl (by kernel_rfl)|apply d1 rfl rfl rfl rfl (by kernel_rfl) rfl (by kernel_rfl)|apply ds rfl rfl rfl (by kernel_rfl) rfl (by kernel_rfl)|((fail_if_success apply dw rfl);apply dg rfl <;> (intro hb;rw[hb])))
 refine nO (λp:Nat × List Int=>Z [(7,some (iD (Int.ofNat p.1 - 1))),(0,some (.own false 0 0 p.2.length)),(1,some (iD x))] [(0,some (xz p.2))] 1 24) (λp=>p.1) (λp=>p.1<=n/\p.2.length<=900008 - p.1/\p.2 ++ ah x p.1=l ++ ah x n) (n,l) ⟨Nat.le_refl _,by simp only;omega,rfl⟩ (dP [(0,0)] rfl hG ⟨Rn.eq ?_,Rn.jY (.head _) (by simp),Rn.lf _,trivial⟩ ⟨⟨0,_,.head _,rfl,Rn.bs rfl,rfl,rfl,λ_ h=>h⟩,trivial⟩) ?_
 · rw[Go.IntWalk.i64_in _ ⟨by simp;omega,by simp;omega⟩]
 rintro⟨m,pre⟩ ⟨h1,h2,h3⟩
 simp only at h1 h2 h3
 have hm:m=0\/m=1\/m=2\/m=3\/m=4\/m=5\/m=6\/m=7\/m=8:=by omega
 rcases hm with rfl|rfl|rfl|rfl|rfl|rfl|rfl|rfl|rfl
 · repeat' (first|apply bJ|apply bK|apply bL|apply bM|apply bN|apply bO rfl|apply bP rfl|apply bR|apply bQ|apply run_seq|apply bA|apply eB|apply bC|apply bF|apply bB|apply z0 hT rfl rfl rfl rfl|apply zk rfl rfl rfl|apply z1 hT rfl rfl rfl rfl|apply zs hT rfl rfl rfl|apply za hT rfl rfl rfl rfl|apply bE|((fail_if_success apply zw rfl);apply zg rfl <;> (intro hb;rw[hb]))|apply bS rfl|apply bT rfl|(apply bU rfl <;> (intro hb;try rw[hb]))|apply bG mixed hC|apply bH|apply d0 rfl rfl rfl rfl rfl (by kernel_rfl)|apply dk rfl rfl rfl rfl (by kernel_rfl)|apply d1 rfl rfl rfl rfl (by kernel_rfl) rfl (by kernel_rfl)|apply ds rfl rfl rfl (by kernel_rfl) rfl (by kernel_rfl)|((fail_if_success apply dw rfl);apply dg rfl <;> (intro hb;rw[hb])))
   simp only[ah,List.append_nil]at h3
   subst h3
   exact Sd rfl rfl (by simp) (ay _) (.inr rfl)
 all_goals
  repeat' (first|apply bJ|apply bK|apply bL|apply bM|apply bN|apply bO rfl|apply bP rfl|apply bR|apply bQ|apply run_seq|apply bA|apply eB|apply bC|apply bF|apply bB|apply z0 hT rfl rfl rfl rfl|apply zk rfl rfl rfl|apply z1 hT rfl rfl rfl rfl|apply zs hT rfl rfl rfl|apply za hT rfl rfl rfl rfl|apply bE|((fail_if_success apply zw rfl);apply zg rfl <;> (intro hb;rw[hb]))|apply bS rfl|apply bT rfl|(apply bU rfl <;> (intro hb;try rw[hb]))|apply bG mixed hC|apply bH|apply d0 rfl rfl rfl rfl rfl (by kernel_rfl)|apply dk rfl rfl rfl rfl (by kernel_rfl)|apply d1 rfl rfl rfl rfl (by kernel_rfl) rfl (by kernel_rfl)|apply ds rfl rfl rfl (by kernel_rfl) rfl (by kernel_rfl)|((fail_if_success apply dw rfl);apply dg rfl <;> (intro hb;rw[hb]))|apply zap hT rfl rfl rfl rfl rfl rfl rfl rfl rfl rfl rfl rfl rfl rfl rfl rfl rfl (by simp) (by simp;omega) (by simp;omega))
 · exact sj (m:=0) (by decide) h1 h2 h3 (dP [(0,12)] rfl hG ⟨Rn.eq rfl,Rn.jY (.head _) (by simp),Rn.lf _,trivial⟩ ⟨⟨12,_,.head _,rfl,Rn.bs (by rw[List.map_append];exact congrArg (λv=>pre.map uD ++ [uD v]) (sK x 0)),(by simp[sz]),rfl,λ_ h=>h⟩,trivial⟩)
 · exact sj (m:=1) (by decide) h1 h2 h3 (dP [(0,12)] rfl hG ⟨Rn.eq rfl,Rn.jY (.head _) (by simp),Rn.lf _,trivial⟩ ⟨⟨12,_,.head _,rfl,Rn.bs (by rw[List.map_append];exact congrArg (λv=>pre.map uD ++ [uD v]) (sK x 8)),(by simp[sz]),rfl,λ_ h=>h⟩,trivial⟩)
 · exact sj (m:=2) (by decide) h1 h2 h3 (dP [(0,12)] rfl hG ⟨Rn.eq rfl,Rn.jY (.head _) (by simp),Rn.lf _,trivial⟩ ⟨⟨12,_,.head _,rfl,Rn.bs (by rw[List.map_append];exact congrArg (λv=>pre.map uD ++ [uD v]) (sK x 16)),(by simp[sz]),rfl,λ_ h=>h⟩,trivial⟩)
 · exact sj (m:=3) (by decide) h1 h2 h3 (dP [(0,12)] rfl hG ⟨Rn.eq rfl,Rn.jY (.head _) (by simp),Rn.lf _,trivial⟩ ⟨⟨12,_,.head _,rfl,Rn.bs (by rw[List.map_append];exact congrArg (λv=>pre.map uD ++ [uD v]) (sK x 24)),(by simp[sz]),rfl,λ_ h=>h⟩,trivial⟩)
 · exact sj (m:=4) (by decide) h1 h2 h3 (dP [(0,12)] rfl hG ⟨Rn.eq rfl,Rn.jY (.head _) (by simp),Rn.lf _,trivial⟩ ⟨⟨12,_,.head _,rfl,Rn.bs (by rw[List.map_append];exact congrArg (λv=>pre.map uD ++ [uD v]) (sK x 32)),(by simp[sz]),rfl,λ_ h=>h⟩,trivial⟩)
 · exact sj (m:=5) (by decide) h1 h2 h3 (dP [(0,12)] rfl hG ⟨Rn.eq rfl,Rn.jY (.head _) (by simp),Rn.lf _,trivial⟩ ⟨⟨12,_,.head _,rfl,Rn.bs (by rw[List.map_append];exact congrArg (λv=>pre.map uD ++ [uD v]) (sK x 40)),(by simp[sz]),rfl,λ_ h=>h⟩,trivial⟩)
 · exact sj (m:=6) (by decide) h1 h2 h3 (dP [(0,12)] rfl hG ⟨Rn.eq rfl,Rn.jY (.head _) (by simp),Rn.lf _,trivial⟩ ⟨⟨12,_,.head _,rfl,Rn.bs (by rw[List.map_append];exact congrArg (λv=>pre.map uD ++ [uD v]) (sK x 48)),(by simp[sz]),rfl,λ_ h=>h⟩,trivial⟩)
 · exact sj (m:=7) (by decide) h1 h2 h3 (dP [(0,12)] rfl hG ⟨Rn.eq rfl,Rn.jY (.head _) (by simp),Rn.lf _,trivial⟩ ⟨⟨12,_,.head _,rfl,Rn.bs (by rw[List.map_append];exact congrArg (λv=>pre.map uD ++ [uD v]) (sK x 56)),(by simp[sz]),rfl,λ_ h=>h⟩,trivial⟩)
end Go.Proofs.YtadecgbblajifaaGreatDoor.DV
namespace Go.Proofs.YtadecgbblajifaaGreatDoor
section
open Go.RowKit Go.Instr
theorem Qq (y c:Int) (hy : -9223372036854775808<=y/\y<=9223372036854775807) (hm:y % 256=0) (h0:0<=c) (h1:c<256):bits .or .i64 y c=y+c:=by
 have hX:((BitVec.ofInt 64 y).toNat:Int)=y % 18446744073709551616:=by
  rw[BitVec.toNat_ofInt]
  omega
 have hC:(BitVec.ofInt 64 c).toNat=c.toNat:=by
  rw[BitVec.toNat_ofInt]
  omega
 have hd:(BitVec.ofInt 64 y).toNat=2 ^ 8 * ((BitVec.ofInt 64 y).toNat / 256):=by omega
 have ho:(BitVec.ofInt 64 y ||| BitVec.ofInt 64 c).toNat=(BitVec.ofInt 64 y).toNat+c.toNat:=by
  rw[BitVec.toNat_or,hC,hd,← Nat.two_pow_add_eq_or_of_lt (by omega)]
 show IntKind.i64.wrap ((BitVec.ofInt 64 y ||| BitVec.ofInt 64 c).toNat)=y+c
 rw[IntKind.wrap_i64,ho]
 omega
def lY (x c:Int):Int:=(x * 256+c+9223372036854775808) % 18446744073709551616 - 9223372036854775808
def gp (l:List Int):Int:=l.foldl lY 0
def dW (l:List Int):Prop:=∀ c∈l,0<=c/\c<256
def lC:List Int->Int
 | []=>0
 |c :: l=>c * 256 ^ l.length+lC l
theorem Dx {l:List Int} (h:dW l):0<=lC l/\lC l<256 ^ l.length:=by
 induction l with
 |nil=>exact⟨Int.le_refl _,by simp[lC]⟩
 |cons c l ih =>
  obtain⟨h0,h1⟩:=ih (λx hx=>h x (List.mem_cons_of_mem _ hx))
  obtain⟨c0,c1⟩:=h c (List.mem_cons_self)
  have hp:(0:Int)<256 ^ l.length:=Int.pow_pos (by decide)
  constructor
  · simp only[lC];exact Int.add_nonneg (Int.mul_nonneg c0 (Int.le_of_lt hp)) h0
  · simp only[lC,List.length_cons,Int.pow_succ]
    have:c * 256 ^ l.length<=255 * 256 ^ l.length:=Int.mul_le_mul_of_nonneg_right (by omega) (Int.le_of_lt hp)
    omega
theorem Pn (l:List Int):∀ x,∃ k:Int,l.foldl lY x=x * 256 ^ l.length+lC l+18446744073709551616 * k:=by
 induction l with
 |nil=>exact λx=>⟨0,by simp[lC]⟩
 |cons c l ih =>
  intro x
  obtain⟨k,hk⟩:=ih (lY x c)
  obtain⟨q,hq⟩:∃ q:Int,lY x c=x * 256+c+18446744073709551616 * q:=⟨-((x * 256+c+9223372036854775808) / 18446744073709551616),by unfold lY;omega⟩
  refine⟨k+q * 256 ^ l.length,?_⟩
  rw[List.foldl_cons,hk,hq]
  simp only[lC,List.length_cons,Int.pow_succ,Int.add_mul,Int.mul_add]
  have e1:x * 256 * 256 ^ l.length=x * (256 ^ l.length * 256):=by rw[Int.mul_assoc,Int.mul_comm 256]
  have e2:18446744073709551616 * q * 256 ^ l.length=18446744073709551616 * (q * 256 ^ l.length):=Int.mul_assoc _ _ _
  omega
theorem Z8 (l:List Int):∀ x,(-9223372036854775808<=x/\x<=9223372036854775807) -> -9223372036854775808<=l.foldl lY x/\l.foldl lY x<=9223372036854775807:=by
 induction l with
 |nil=>exact λx h=>h
 |cons c l ih =>
  intro x _
  refine ih _ ?_
  have e:=lY.eq_1 x c
  generalize lY x c=y at *
  omega
theorem Dy (l:List Int) : -9223372036854775808<=gp l/\gp l<=9223372036854775807:=Z8 l 0 (by decide)
theorem Ow {l:List Int} (h:dW l) (hl:l.length<=4):gp l=lC l:=by
 obtain⟨k,hk⟩:=Pn l 0
 obtain⟨h0,h1⟩:=Dx h
 have h2:(256:Int) ^ l.length<=256 ^ 4:=by
  rcases(by omega:l.length=0\/l.length=1\/l.length=2\/l.length=3\/l.length=4)with e|e|e|e|e <;> rw[e] <;> decide
 have h3:=Dy l
 unfold gp at h3 ⊢
 rw[hk]at h3 ⊢
 have:(256:Int) ^ 4=4294967296:=by decide
 omega
theorem aF (x:Int) (n:Nat):(ah x n).length=n:=by
 induction n with
 |zero=>rfl
 |succ n ih=>simp[ah,ih]
theorem jP (x:Int) (n:Nat):dW (ah x n):=by
 induction n with
 |zero=>intro c hc;cases hc
 |succ n ih =>
  intro c hc
  rcases List.mem_cons.1 hc with rfl|hc
  · omega
  · exact ih c hc
theorem abI (n:Nat):(2:Int) ^ (8 * n)=256 ^ n:=by rw[Int.pow_mul];rfl
theorem aaO {l:List Int} (h:dW l) (k:Int):ah (lC l+256 ^ l.length * k) l.length=l:=by
 induction l generalizing k with
 |nil=>rfl
 |cons c l ih =>
  obtain⟨h0,h1⟩:=Dx (l:=l) (λx hx=>h x (List.mem_cons_of_mem _ hx))
  obtain⟨c0,c1⟩:=h c (List.mem_cons_self)
  have hp:(0:Int)<256 ^ l.length:=Int.pow_pos (by decide)
  have he:lC (c :: l)+256 ^ (c :: l).length * k=lC l+256 ^ l.length * (c+256 * k):=by
   simp only[lC,List.length_cons,Int.pow_succ,Int.mul_add]
   rw[Int.mul_comm c,Int.mul_assoc]
   omega
  rw[he]
  simp only[List.length_cons,ah,abI]
  rw[ih (λx hx=>h x (List.mem_cons_of_mem _ hx))]
  rw[Int.add_mul_ediv_left _ _ (Int.ne_of_gt hp),Int.ediv_eq_zero_of_lt h0 h1]
  congr 1
  omega
theorem Qr {l:List Int} (h:dW l) (hl:l.length<=8):ah (gp l) l.length=l:=by
 obtain⟨k,hk⟩:=Pn l 0
 obtain⟨j,hj⟩:∃ j:Int,(18446744073709551616:Int)=256 ^ l.length * j:=by
  refine⟨256 ^ (8 - l.length),?_⟩
  rw[← Int.pow_add,Nat.add_sub_cancel' hl];decide
 unfold gp
 rw[hk,hj,Int.zero_mul,Int.zero_add,Int.mul_assoc]
 exact aaO h _
end
section
open Go.RowKit Go.Instr
def ug:List ByteArray:=[⟨#[]⟩,⟨#[114,114]⟩,⟨#[114,114]⟩,⟨#[114,114]⟩,⟨#[114,110]⟩,⟨#[114,110]⟩,⟨#[114,110]⟩,⟨#[114,114]⟩,⟨#[114]⟩,⟨#[114,114,114,111]⟩,⟨#[114,107]⟩,⟨#[114,114,107,107]⟩,⟨#[114,107]⟩,⟨#[114,107]⟩,⟨#[114,107]⟩,⟨#[114,107]⟩,⟨#[107,107]⟩,⟨#[114]⟩,⟨#[114]⟩,⟨#[114]⟩,⟨#[114]⟩,⟨#[114,101]⟩,⟨#[116]⟩,⟨#[114,116]⟩,⟨#[114,116]⟩,⟨#[116]⟩,⟨#[114,116]⟩,⟨#[114,116]⟩,⟨#[107,107]⟩,⟨#[107,107]⟩,⟨#[116]⟩,⟨#[116]⟩,⟨#[116]⟩,⟨#[116]⟩,⟨#[]⟩]
set_option maxHeartbeats 6400000 in
theorem Ny (op:Nat) (w:World) (h:op<35):Calls Tryz.prog 47 #[.int .u8 op] w λe w'=>e = .returned (.string (ug.getD op ⟨#[]⟩))/\w=w':=by
 have:∀ op,op<35->op=0\/op=1\/op=2\/op=3\/op=4\/op=5\/op=6\/op=7\/op=8\/op=9\/op=10\/op=11\/op=12\/op=13\/op=14\/op=15\/op=16\/op=17\/op=18\/op=19\/op=20\/op=21\/op=22\/op=23\/op=24\/op=25\/op=26\/op=27\/op=28\/op=29\/op=30\/op=31\/op=32\/op=33\/op=34:=by omega
 rcases this op h with rfl|rfl|rfl|rfl|rfl|rfl|rfl|rfl|rfl|rfl|rfl|rfl|rfl|rfl|rfl|rfl|rfl|rfl|rfl|rfl|rfl|rfl|rfl|rfl|rfl|rfl|rfl|rfl|rfl|rfl|rfl|rfl|rfl|rfl|rfl <;>
 · go_enter Tryz.func47,Tryz.ntmps47
   go_wp2_with fail
   go_ret
   exact⟨rfl,rfl⟩
def iJ (c:Int):Nat:=if c=107\/c=116 then 4 else if c=110 then 8 else 1
set_option maxHeartbeats 1600000 in
theorem Ox (c:Int) (w:World):Calls Tryz.prog 49 #[.int .u8 c] w λe w'=>e = .returned (.int .i64 (iJ c))/\w=w':=by
 by_cases h1:c=107
 · subst h1
   go_enter Tryz.func49,Tryz.ntmps49
   go_wp2_with fail
   go_ret
   exact⟨rfl,rfl⟩
 by_cases h2:c=116
 · subst h2
   go_enter Tryz.func49,Tryz.ntmps49
   go_wp2_with fail
   go_ret
   exact⟨rfl,rfl⟩
 have e1:(c == 107)=false:=by simpa using h1
 have e2:(c == 116)=false:=by simpa using h2
 by_cases h3:c=110
 · subst h3
   go_enter Tryz.func49,Tryz.ntmps49
   go_wp2_with fail
   go_ret
   exact⟨rfl,rfl⟩
 have e3:(c == 110)=false:=by simpa using h3
 have HW:=Lib.hid (show iJ c=1 from by unfold iJ;rw[if_neg (by omega),if_neg h3])
 go_enter Tryz.func49,Tryz.ntmps49
 go_wp2_with fail
 go_ret
 exact⟨fC (by rw[HW.out];rfl),rfl⟩
theorem Yu {w:World} {X:Nat} {c0 c1 c2 c3:Value} {t:TypeId} (h:w.heap[X]? = some (.cells #[c0,c1,c2,c3] t (0,0))):w.cell? ⟨X,0,none⟩=some c0/\w.cell? ⟨X,1,none⟩=some c1/\w.cell? ⟨X,2,none⟩=some c2/\w.cell? ⟨X,3,none⟩=some c3:=by
 simp[World.cell?,h]
set_option maxHeartbeats 1600000 in
theorem XA (i:Ins) (w:World):Calls Tryz.prog 48 #[i.val] w λe w'=>e = .returned (.agg #[.int .i64 i.a,.int .i64 i.b,.int .i64 i.c,.int .i64 i.d])/\Grow w w':=by
 obtain⟨op,a,b,c,d⟩:=i
 simp only[Ins.val]
 have HB:=Lib.hid (heap_alloc_new (w.alloc (.cells #[.int .u8 op,.int .i64 a,.int .i64 b,.int .i64 c,.int .i64 d] 69)) (.cells #[.int .i64 a,.int .i64 b,.int .i64 c,.int .i64 d] 98))
 have HG:=Lib.hid (show Grow w ((w.alloc (.cells #[.int .u8 op,.int .i64 a,.int .i64 b,.int .i64 c,.int .i64 d] 69)).alloc (.cells #[.int .i64 a,.int .i64 b,.int .i64 c,.int .i64 d] 98))from((Mv.refl _ _).alloc _).alloc _)
 rw[World.size_alloc]at HB
 go_enter Tryz.func48,Tryz.ntmps48
 go_wp2_with fail
 obtain⟨t0,t1,t2,t3⟩:=Yu HB.out
 exact bodyPost_ret (v := .agg #[.int .i64 a,.int .i64 b,.int .i64 c,.int .i64 d]) (by simp[results,Tryz.results48,go_sem,t0,t1,t2,t3]) rfl ⟨rfl,HG.out⟩
def CB (i:Ins):Prop:=0<=i.op/\i.op<=255
def jc (l:List Ins):Int:=if 65536<l.length then 5 else if l.all Ins.gF=true then 0 else 3
theorem XB {α:Type} (p:α->Bool) (l:List α) (k:Nat) (h:k<l.length) (hf:p l[k]=false):l.all p=false:=by
 rw[Bool.eq_false_iff]
 intro e
 have:=List.all_eq_true.1 e l[k] (List.getElem_mem _)
 rw[hf]at this;cases this
set_option maxRecDepth 100000 in
set_option maxHeartbeats 6400000 in
theorem Yv (v:Value) (l:List Ins) (w:World) (h:aB 5 Ins.cells w v l) (hb:∀ i∈l,CB i) (ht:cZ w):Calls Tryz.prog 45 #[v] w λe w'=>e = .returned (.int .i64 (jc l))/\Grow w w':=by
 obtain⟨va,vc,rfl,-,Fs⟩:=h.form
 have HV:=Lib.hid h
 have HOB:=Lib.hid hb
 have HT:=Lib.hid ht
 have HR:=Lib.hid (jc.eq_1 l)
 generalize jc l=RS at *
 clear h hb ht
 by_cases hbig:65536<l.length
 · have hi:(65536:Int)<(l.length:Nat):=by omega
   go_enter Tryz.func45,Tryz.ntmps45
   go_wp2_with fail
   go_ret
   exact⟨fC (by rw[HR.out,if_pos hbig]),Mv.refl _ _⟩
 have hi:¬ (65536:Int)<(l.length:Nat):=by omega
 go_enter Tryz.func45,Tryz.ntmps45
 go_wp2_with fail
 go_loopw [10] (λt wr=>∃ k:Nat,t = .int .i64 k/\k<=l.length/\Grow w wr/\∀ j (h:j<l.length),j<k->l[j].gF=true) (λt _=>l.length - (intOf t).toNat)
 case atStart=>exact⟨0,rfl,Nat.zero_le _,Mv.refl _ _,λj h e=>by omega⟩
 obtain⟨k,rfl,hk,hg,hall⟩:=hrel
 have HG:=Lib.hid hg
 have zP:=Lib.hid hall
 clear hg hall
 by_cases hlt:k<l.length
 · have hkk:(k:Int)<(l.length:Nat):=by omega
   obtain⟨b,off,cap',e,_,hcc⟩:=(HV.out.later HG.out).at hlt
   simp only[Value.slice.injEq,true_and]at e
   obtain⟨rfl,rfl⟩:=e
   have c0:=hcc 0 _ rfl
   have c1:=hcc 1 _ rfl
   have c2:=hcc 2 _ rfl
   have c3:=hcc 3 _ rfl
   have c4:=hcc 4 _ rfl
   simp only[Nat.add_zero]at c0
   have hbx:=World.block_lt_of_cell? wr _ c0
   have HO:=Lib.hid (HOB.out l[k] (List.getElem_mem _))
   have HX:=Lib.hid (λj (h:j<l.length) (e:j<k+1)=>show l[j].gF=true\/j=k from by
    rcases Nat.lt_or_ge j k with h1|h1
    · exact .inl (zP.out j h h1)
    · exact .inr (by omega))
   have HF:=Lib.hid (λ(e:l[k].gF=false)=>XB Ins.gF l k hlt e)
   have HTR:=Lib.hid (λ(e:l[k].gF=true)=>show ∀ j (h:j<l.length),j<k+1->l[j].gF=true from λj h hj=>by
    rcases HX.out j h hj with h1|rfl
    · exact h1
    · exact e)
   clear hcc HX
   generalize l[k]=i at *
   obtain⟨op,a,b',c,d⟩:=i
   have hg1:Grow wr (wr.alloc (.cells #[.int .u8 op,.int .i64 a,.int .i64 b',.int .i64 c,.int .i64 d] 69)):=(Mv.refl _ _).alloc _
   have HC:=Lib.hid (Io ⟨op,a,b',c,d⟩ _ ((HT.out.later HG.out).later hg1) HO.out.1 HO.out.2)
   have aP:=Lib.hid (jJ HG.out hg1)
   clear hg1
   generalize Ins.gF ⟨op,a,b',c,d⟩=vb at *
   go_wp2_with fail
   refine HC.out.mono ?_
   rintro e w2 ⟨rfl,hg⟩
   have HG2:=Lib.hid (jJ aP.out hg)
   clear hg HC
   cases vb
   · go_wp2_with fail
     go_ret
     exact⟨fC (by rw[HR.out,if_neg hbig,if_neg (by rw[HF.out (by trivial)];decide)]),HG2.out⟩
   · go_wp2_with fail
     go_roundw
     case rel=>exact⟨k+1,by go_num,by omega,HG2.out,HTR.out (by trivial)⟩
     case measure=>(simp[intOf] <;> omega)
 · obtain rfl:k=l.length:=by omega
   have hlt':¬ ((l.length:Int)<(l.length:Nat)):=by omega
   have HA:=Lib.hid (show l.all Ins.gF=true from List.all_eq_true.2 λx hx=>by
    obtain⟨j,hj,rfl⟩:=List.mem_iff_getElem.1 hx
    exact zP.out j hj hj)
   go_wp2_with fail
   go_ret
   exact⟨fC (by rw[HR.out,if_neg hbig,if_pos HA.out]),HG.out⟩
end
end Go.Proofs.YtadecgbblajifaaGreatDoor
