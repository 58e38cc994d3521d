import Derived.Test.YtbpodipdfohikaaGreatK27
set_option linter.unusedSimpArgs false
set_option linter.unusedVariables false
set_option maxRecDepth 100000
set_option maxHeartbeats 25600000
namespace Go.Proofs.YtbpodipdfohikaaGreat
open Go.RowKit Go.Instr
def noT:Tree := .mk 0 0 ⟨#[]⟩ []
def mK (l:List Tree) (i:Nat):Bool:=(l.take i).any λm=>m.name == (l.getD i noT).name
def xM (l:List Tree):Option ByteArray:=((List.range l.length).find? (mK l)).map λi=>(l.getD i noT).name
theorem WW {l:List Tree} {i:Nat} (hi:i<l.length) (h:∀ a,a<i->mK l a=false) (h1:mK l i=true):xM l=some (l.getD i noT).name:=by
 have:(List.range l.length).find? (mK l)=some i:=by
  rw[List.find?_eq_some_iff_getElem]
  exact⟨h1,i,by simpa using hi,by simp,λj hj=>by simp[h j hj]⟩
 rw[xM,this];rfl
theorem VJ {l:List Tree} (h:∀ a,a<l.length->mK l a=false):xM l=none:=by
 have:(List.range l.length).find? (mK l)=none:=by
  rw[List.find?_eq_none]
  intro x hx
  rw[List.mem_range]at hx
  rw[h x hx];simp
 rw[xM,this];rfl
theorem XU {w:World} {a:Option Addr} {cap:Nat} {l:List ae} (h:ay 4 ae.cells w (.slice a l.length cap) l) (k:Nat) (hk:k<=l.length):ay 4 ae.cells w (.slice a k cap) (l.take k):=by
 obtain⟨a,c,e,h2,h3,h4⟩:=h
 simp only[Value.slice.injEq,true_and]at e
 obtain⟨rfl,rfl⟩:=e
 refine⟨_,cap,by rw[List.length_take,Nat.min_eq_left hk],by rw[List.length_take];omega,by rw[List.length_take];omega,λi x hx => ?_⟩
 rw[List.getElem?_take]at hx
 split at hx
 · exact h4 i x hx
 · cases hx
set_option maxRecDepth 100000 in
set_option maxHeartbeats 12800000 in
theorem YB (k n:Int) (s:ByteArray) (a:Option Addr) (c:Nat) (l:List ae) (w:World) (hk:k=50\/k=51) (hcap:l.length<=c) (hr:ay 4 ae.cells w (.slice a l.length c) l) (hx:∀ x∈l,bD w x):Calls Tryz.prog 81 #[.agg #[.int .u8 k,.int .i64 n,.string s,.slice a l.length c]] w (pR w (lg 8 (xM (ae.ts l)))):=by
 obtain⟨hg,hb⟩:=sK w k n s a l.length c
 have HR:=Lib.hid hr
 have HX:=Lib.hid hx
 have xK:=Lib.hid (λi (hi:i<l.length)=>WW (l:=ae.ts l) (i:=i) (by rw[ae.bX];exact hi))
 have Cu:=Lib.hid (VJ (l:=ae.ts l))
 obtain⟨R,hR⟩:∃ R,R=xM (ae.ts l):=⟨_,rfl⟩
 rw[← hR]at xK Cu ⊢
 have HG:=Lib.hid hg
 have HB:=Lib.hid hb
 have hln:l.length<=9223372036854775807:=by obtain⟨_,_,_,_,h⟩:=hr.form;exact h
 obtain⟨w1,hw1⟩:∃ w1,w1=w.alloc (.cells #[.int .u8 k,.int .i64 n,.string s,.slice a l.length c] 40):=⟨_,rfl⟩
 rw[← hw1]at HG HB
 clear hg hb hr hx hR
 rcases hk with rfl|rfl
 all_goals
  go_enter Tryz.func81,Tryz.ntmps81
  go_upto_region 1 with fail
  rw[← hw1]
  clear hw1
  obtain⟨⟨n0,n1⟩,n2,n3⟩:=az HB.out
  have hbl:=lt_of_block HB.out
  go_wp2_with fail
  clear n0 n1 n2 n3 hbl
  go_loopw [100] (λt wr=>∃ i:Nat,t = .int .i64 i/\i<=l.length/\Grow w1 wr/\∀ a,a<i->mK (ae.ts l) a=false) (λt _=>l.length - (intOf t).toNat)
  case atStart=>exact⟨0,rfl,Nat.zero_le _,Mv.refl _ _,λa h=>by omega⟩
  obtain⟨i,rfl,hi,hg,hno⟩:=hrel
  have aj:=Lib.hid hg
  have bQ:=Lib.hid (gtr HG.out hg)
  have dC:=Lib.hid hno
  have ni:=Lib.hid (ah HB.out hg)
  clear hg hno
  by_cases hlt:i<l.length
  · obtain⟨b,o,rfl,hcc⟩:=uQ HR.out (by omega)
    have hcx:=hcc _ bQ.out i hlt
    have hxo:=HX.out l[i] (List.getElem_mem hlt)
    have HT:=Lib.hid (λ(h:mK (ae.ts l) i=true)=>show R=some l[i].t.name from by
     rw[xK.out i hlt dC.out h,List.getD_eq_getElem?_getD,List.getElem?_eq_getElem (by rw[ae.bX];exact hlt),ae.jw _ _ hlt];rfl)
    have gT:=Lib.hid (show mK (ae.ts l) i=false->∀ a,a<i+1->mK (ae.ts l) a=false from λh a ha=>by
     rcases Nat.lt_or_ge a i with h1|h1
     · exact dC.out a h1
     · obtain rfl:a=i:=by omega
       exact h)
    have Fy:=Lib.hid (show((ae.ts (l.take i)).any λm=>m.name == l[i].t.name)=mK (ae.ts l) i from by
     rw[mK,List.getD_eq_getElem?_getD,List.getElem?_eq_getElem (by rw[ae.bX];exact hlt),ae.jw _ _ hlt,ae.jv,ae.jv,List.map_take];rfl)
    have Ra:=Lib.hid (λB xk xn xs kv x (hx:Grow w x) (hb:x.heap[B]? = some (.cells #[.int .u8 xk,.int .i64 xn,.string xs,kv] 40 (0,0)))=>TF _ (l.take i) xs B xk xn kv x ((XU HR.out i hi).later hx) (λm hm=>(HX.out m (List.mem_of_mem_take hm)).later hx) hb)
    generalize l[i]=x at HT Fy hxo hcx
    obtain⟨xk,xn,xs,CJ,xl⟩:=x
    obtain⟨xa,gZ,rfl,-,-⟩:=hxo.form
    have c0:=hcx 0 _ rfl
    have c1:=hcx 1 _ rfl
    have c2:=hcx 2 _ rfl
    have c3:=hcx 3 _ rfl
    simp only[Nat.add_zero]at c0
    rw[show(ae.t (.mk xk xn xs (.slice xa xl.length gZ) xl)).name=xs from rfl]at HT Fy
    have hbl:b<wr.heap.size:=World.block_lt_of_cell? wr _ c0
    have bE:=Lib.hid (bQ.out.alloc (.cells #[.int .u8 xk,.int .i64 xn,.string xs,.slice xa xl.length gZ] 40))
    have oH:=Lib.hid (aj.out.alloc (.cells #[.int .u8 xk,.int .i64 xn,.string xs,.slice xa xl.length gZ] 40))
    have wC:=Lib.hid (heap_alloc_new wr (.cells #[.int .u8 xk,.int .i64 xn,.string xs,.slice xa xl.length gZ] 40))
    have pX:=Lib.hid (bS ni.out (.cells #[.int .u8 xk,.int .i64 xn,.string xs,.slice xa xl.length gZ] 40))
    have HC:=Lib.hid (Ra.out wr.heap.size xk xn xs _ _ bE.out wC.out)
    rw[Fy.out]at HC
    generalize mK (ae.ts l) i=q at *
    clear hcx hxo xK dC hcc Ra Fy
    go_upto_region 26 with fail
    generalize (wr.alloc (.cells #[.int .u8 xk,.int .i64 xn,.string xs,.slice xa xl.length gZ] 40))=wo at *
    clear c0 c1 c2 c3 hbl
    obtain⟨⟨n0,n1⟩,n2,n3⟩:=az pX.out
    have hbl:=lt_of_block pX.out
    go_wp2_with fail
    refine HC.out.mono ?_
    rintro e w5 ⟨rfl,hg5⟩
    have bG:=Lib.hid (gtr bE.out hg5)
    have IJ:=Lib.hid (gtr oH.out hg5)
    have eH:=Lib.hid (ah wC.out hg5)
    clear hg5 n0 n1 n2 n3 hbl
    cases q with
    |true =>
     have HRR:=Lib.hid (HT.out rfl)
     obtain⟨⟨m0,m1⟩,m2,m3⟩:=az eH.out
     have hbl:=lt_of_block eH.out
     go_wp2_with fail
     go_ret2
     rw[HRR.out]
     exact⟨rfl,bG.out⟩
    |false =>
     have ow:=Lib.hid (gT.out rfl)
     go_wp2_with fail
     go_roundw
     case rel=>exact⟨i+1,by go_num,by omega,IJ.out,ow.out⟩
     case measure=>simp[intOf];omega
  · obtain rfl:i=l.length:=by omega
    have HRR:=Lib.hid (Cu.out (λa ha=>dC.out a (by rw[ae.bX]at ha;exact ha)))
    go_wp2_with fail
    go_ret2
    rw[HRR.out]
    exact⟨rfl,bQ.out⟩
def iL (k:Int):Nat:=if k=52 then 4 else if k=40\/k=41\/k=42\/k=43 then 2 else if k=3\/k=44\/k=45\/k=46\/k=47\/k=48\/k=49\/k=53\/k=56 then 1 else 0
def sZ (t:Tree):Prop:=iL t.kind<=t.kids.length
def oQ (t:Tree):ByteArray × Int :=
 if t.kind=56 then((t.kids.getD 0 noT).name,9)
 else if t.kind=40\/t.kind=41\/t.kind=42 then lg 8 (if ig (t.kids.getD 0 noT).name (t.kids.getD 0 noT) || tN (t.kids.getD 0 noT).name (t.kids.getD 1 noT)then some (t.kids.getD 0 noT).name else none)
 else if t.kind=43 then lg 8 (kW t.kids [(t.kids.getD 0 noT).name,(t.kids.getD 1 noT).name])
 else if t.kind=44\/t.kind=45 then lg 8 (kW t.kids [(t.kids.getD 0 noT).name,t.name])
 else if t.kind=46\/t.kind=47\/t.kind=48\/t.kind=49 then lg 8 (kW t.kids [(t.kids.getD 0 noT).name])
 else if t.kind=50\/t.kind=51 then lg 8 (xM t.kids)
 else if t.kind=52 then(⟨#[]⟩,if(lS (t.kids.getD 3 noT)).isSome && !(lS (t.kids.getD 0 noT)).isSome then 10 else 0)
 else if t.kind=53 then(⟨#[]⟩,if(lS (t.kids.getD 0 noT)).isSome then 10 else 0)
 else(⟨#[]⟩,0)
theorem NG {α:Type} : ∀ {l:List α},2<=l.length->∃ y z r,l=y :: z :: r
 |y :: z :: r,_=>⟨y,z,r,rfl⟩
 | [_],h=>by simp at h
 | [],h=>by simp at h
theorem EB {α:Type} : ∀ {l:List α},1<=l.length->∃ y r,l=y :: r
 |y :: r,_=>⟨y,r,rfl⟩
 | [],h=>by simp at h
theorem XV {α:Type} : ∀ {l:List α},4<=l.length->∃ y z1 z2 z r,l=y :: z1 :: z2 :: z :: r
 |y :: z1 :: z2 :: z :: r,_=>⟨y,z1,z2,z,r,rfl⟩
 | [_,_,_],h=>by simp at h
 | [_,_],h=>by simp at h
 | [_],h=>by simp at h
 | [],h=>by simp at h
theorem UI (x:ae) (w:World) (hx:bD w x) (hs:bL x.t<=900000) (h:sZ x.t) (hk:∀ m∈x.t.kids,sZ m):Calls Tryz.prog 81 #[x.val] w (pR w (oQ x.t)):=by
 obtain⟨k,n,s,kv,l⟩:=x
 obtain⟨a,c,rfl,hcap,-⟩:=hx.form
 have hr:=hx.row.2.2.2.1
 have hn:∀ y∈l,bD w y:=hx.row.2.2.2.2
 have hp:∀ y∈l,xL w y:=λy hy=>⟨hn y hy,by
  have h1:bL y.t<=eX (ae.ts l):=Ed (by rw[ae.jv];exact List.mem_map.2 ⟨y,hy,rfl⟩)
  simp only[ae.t,bL]at hs;omega,λh3=>by
  have h1:=hk y.t (show y.t∈ae.ts l from by rw[ae.jv];exact List.mem_map.2 ⟨y,hy,rfl⟩)
  intro h2
  rw[sZ,h3,h2]at h1
  simp[iL]at h1⟩
 have hl:iL k<=l.length:=by
  have:=h;rw[sZ,show(ae.t (.mk k n s (.slice a l.length c) l)).kids=ae.ts l from rfl,ae.bX]at this;exact this
 have hT:oQ (ae.t (.mk k n s (.slice a l.length c) l))=oQ (.mk k n s (ae.ts l)):=rfl
 rw[hT]
 have tsc:∀ (y:ae) (r:List ae),ae.ts (y :: r)=y.t :: ae.ts r:=λy r=>by simp[ae.jv]
 show Calls Tryz.prog 81 #[.agg #[.int .u8 k,.int .i64 n,.string s,.slice a l.length c]] w _
 clear h hk hx hT
 by_cases Au:k=56
 · subst Au
   obtain⟨y,r,rfl⟩:=EB (show 1<=l.length from hl)
   exact Yu n s a c y r w hr
 by_cases xU:k=40\/k=41\/k=42
 · obtain⟨y,z,r,rfl⟩:=NG (show 2<=l.length from by rcases xU with rfl|rfl|rfl <;> exact hl)
   have:=Yx k n s a c y z r w xU hr (hn _ (by simp)) (hn _ (by simp)) (hp _ (by simp)).2.1 (hp _ (by simp)).2.2 (hp z (by simp)).2.1
   rcases xU with rfl|rfl|rfl <;> exact this
 by_cases h43:k=43
 · subst h43
   obtain⟨y,z,r,rfl⟩:=NG (show 2<=l.length from hl)
   exact YA n s a c y z r w hr hp
 by_cases xV:k=44\/k=45
 · obtain⟨y,r,rfl⟩:=EB (show 1<=l.length from by rcases xV with rfl|rfl <;> exact hl)
   have:=Yy k n s a c y r w xV hr hp
   rcases xV with rfl|rfl <;> exact this
 by_cases h46:k=46\/k=47\/k=48\/k=49
 · obtain⟨y,r,rfl⟩:=EB (show 1<=l.length from by rcases h46 with rfl|rfl|rfl|rfl <;> exact hl)
   have:=Yz k n s a c y r w h46 hr hp
   rcases h46 with rfl|rfl|rfl|rfl <;> exact this
 by_cases h50:k=50\/k=51
 · have:=YB k n s a c l w h50 hcap hr hn
   rcases h50 with rfl|rfl <;> exact this
 by_cases CL:k=52
 · subst CL
   obtain⟨y,z1,z2,z,r,rfl⟩:=XV (show 4<=l.length from hl)
   exact Yw n s a c y z1 z2 z r w hr (hn _ (by simp)) (hn _ (by simp))
 by_cases CO:k=53
 · subst CO
   obtain⟨y,r,rfl⟩:=EB (show 1<=l.length from hl)
   exact Yv n s a c y r w hr (hn _ (by simp))
 have:=VH k n s a l.length c w ⟨by omega,Au⟩
 rw[show oQ (.mk k n s (ae.ts l))=(⟨#[]⟩,0)from by
  unfold oQ
  simp only[Tree.kind,Au,xU,h43,xV,h46,h50,CL,CO,if_false]]
 exact this
attribute [local go_sem] Oper.semAt_some
theorem Tryz.XW:(Tryz.prog.info? 124).map (λi=>(i.zero,i.size,i.bytes))=some (some (.agg #[.int .i64 0,.slice none 0 0,.int .i64 0,.string ⟨#[]⟩]),4,56):=by kernel_rfl
theorem Tryz.Nj:Elem Tryz.prog 68 124 4 56:=Elem.of Tryz.underlying68 Tryz.XW rfl (by decide) (by decide)
theorem S9 {F:Fence} {n:Nat} {P:Program} {w:World} {ops:Array Oper} {rest:List Oper} {o:Oper} {a:Act} {Q:Exit->Act->World->Prop}
 (hg:o.guard=none) (s x:Operand) (t ty:TypeId) (hop:o.op=Op.call { callee:=Callee.builtin Builtin.append,args:=#[s,x],argTypes:=#[t,t] }) (hty:o.type=ty)
 {v sv v':Value} {w':World} (hs:a.eval s=v) (hx:a.eval x=sv) (hok:nJ P t ty v sv w) (hv:lW P t ty v sv w=v') (hw:appW P t ty v sv w=w')
 (hK:wpListIn F n P ops Q rest (a.put o.dst v') w'):wpListIn F n P ops Q (o :: rest) a w:=by
 refine wpListIn_plain hg λK hK' => ?_
 have hrun:=G8 hok
 rw[hv,hw]at hrun
 unfold Oper.wpIn
 refine⟨?_,?_⟩
 · simp[Oper.about,hop,resolve,Target.leads,Sem.run_pure]
 · rw[Oper.semAt_plain F _ _ (by rw[hop];intro c hc';cases hc')]
   simp[execOp,hop,hty,resolve,invoke,builtin,hs,hx,hrun,Result.andThen]
   exact hK' _ _ hK
def fF (l:List Tree):List (ByteArray × Int):=(l.map oQ).filter λr=>r.2 != 0
abbrev tO:=Int × Value × Int × ByteArray
def tO.r (v:tO):ByteArray × Int:=(v.2.2.2,v.2.2.1)
theorem T9 (l:List Tree) (t:Tree):fF (l ++ [t])=fF l ++ (if(oQ t).2 != 0 then[oQ t]else[]):=by
 simp only[fF,List.map_append,List.filter_append,List.map_cons,List.map_nil,List.filter_cons,List.filter_nil]
def vJ (_:Nat) (t:TypeId):Bool:=t == 124 || t == 68
theorem VK (n0:Nat):qQ vJ n0:=⟨λ_=>rfl,λ_ _=>rfl,λ_=>rfl,λ_=>rfl,λ_=>rfl⟩
def jq (base:Nat) (W:World) (v:Value) (L:List tO) (R:List (ByteArray × Int)):Prop:=W.ownsRow base 124 4 v L.length (flat Ah L)/\L.map tO.r=R/\∀ r∈L,tJ r.2.1
structure rR (w:World) (proc:Int) (pre:List (Value × ae)) (W:World):Prop where
 g:Grow w W
 p:W.heap[w.heap.size]? = some (.cells #[.int .i64 proc] 3 (0,0))
 l:∃ v L,W.heap[w.heap.size+1+1]? = some (.cells #[v] 68 (0,0))/\jq w.heap.size W v L (fF (came pre))
theorem jq.it {base B:Nat} {X Y:World} {v:Value} {L:List tO} {R:List (ByteArray × Int)} (h:jq base X v L R) (hm:nU vJ B X Y):jq base Y v L R :=
 ⟨bu h.1 hm (λg hg e=>by
  obtain⟨-,cs,z,hc⟩:=bP h.1 g hg
  exact e (.inr ⟨cs,_,z,hc,rfl⟩)),h.2⟩
theorem jq.grow {base:Nat} {X Y:World} {v:Value} {L:List tO} {R:List (ByteArray × Int)} (h:jq base X v L R) (hm:Grow X Y):jq base Y v L R:=⟨bu h.1 hm (λ_ _ e=>e),h.2⟩
theorem rR.it {w:World} {proc:Int} {pre:List (Value × ae)} {W Y:World} {B:Nat} (h:rR w proc pre W) (hm:nU vJ B W Y) (hw:w.heap.size+1+1<B):rR w proc pre Y:=by
 obtain⟨v,L,h1,h2⟩:=h.l
 exact⟨Hm hm h.g (by omega),BH hm h.p (by omega),⟨v,L,BH hm h1 hw,h2.it hm⟩⟩
theorem rR.grow {w:World} {proc:Int} {pre:List (Value × ae)} {W Y:World} (h:rR w proc pre W) (hm:Grow W Y):rR w proc pre Y:=by
 obtain⟨v,L,h1,h2⟩:=h.l
 exact⟨gtr h.g hm,ah h.p hm,⟨v,L,ah h1 hm,h2.grow hm⟩⟩
mutual
theorem GK:∀ (t:Tree),(bO t).length=bL t
 |.mk k n s l=>by
  have:=Lb l
  rw[bO,bL,List.length_cons];omega
theorem Lb:∀ (l:List Tree),(eD l).length=eX l
 | []=>by simp[eD,eX]
 |t :: l=>by
  have h1:=GK t
  have h2:=Lb l
  rw[eD,eX,List.length_append];omega
end
theorem UJ (ys:List (Value × ae)) (z:Value × ae):came (ys ++ [z])=came ys ++ [z.2.t]:=by simp[came]
theorem VL:∀ (m:Nat) (t:Tree),bL t<=m->∀ u∈bO t,bL u<=bL t:=by
 intro m
 induction m with
 |zero=>intro t h;cases t;simp[bL]at h
 |succ m ih =>
  intro t h u hu
  obtain⟨k,n,s,l⟩:=t
  rw[bO]at hu
  rcases List.mem_cons.1 hu with rfl|hu
  · exact Nat.le_refl _
  · have key:∀ l:List Tree,eX l<=m->u∈eD l->bL u<=eX l:=by
     intro l
     induction l with
     |nil=>intro _ h;simp[eD]at h
     |cons y r ihr =>
      intro hl h
      rw[eD,List.mem_append]at h
      simp only[eX]at hl ⊢
      rcases h with h|h
      · have:=ih y (by omega) u h;omega
      · have:=ihr (by omega) h;omega
    simp only[bL]at h ⊢
    have:=key l (by omega) hu;omega
theorem VM:∀ (t:Tree),∀ u∈t.kids,u∈bO t:=by
 intro t u hu
 obtain⟨k,n,s,l⟩:=t
 rw[bO]
 refine List.mem_cons_of_mem _ ?_
 have key:∀ l:List Tree,u∈l->u∈eD l:=by
  intro l
  induction l with
  |nil=>intro h;cases h
  |cons y r ihr =>
   intro h
   rw[eD,List.mem_append]
   rcases List.mem_cons.1 h with rfl|h
   · obtain⟨k,n,s,l⟩:=u;exact .inl (by rw[bO];exact List.mem_cons_self ..)
   · exact .inr (ihr h)
 exact key l hu
mutual
theorem Lc:∀ (t:Tree),∀ u∈bO t,∀ v∈u.kids,v∈bO t
 |.mk k n s l,u,hu,v,hv=>by
  rw[bO]at hu
  rcases List.mem_cons.1 hu with rfl|hu
  · exact VM _ v hv
  · rw[bO];exact List.mem_cons_of_mem _ (KN l u hu v hv)
theorem KN:∀ (l:List Tree),∀ u∈eD l,∀ v∈u.kids,v∈eD l
 | [],u,hu,v,hv=>by simp[eD]at hu
 |y :: r,u,hu,v,hv=>by
  rw[eD,List.mem_append]at hu ⊢
  rcases hu with hu|hu
  · exact .inl (Lc y u hu v hv)
  · exact .inr (KN r u hu v hv)
end
set_option maxRecDepth 100000 in
set_option maxHeartbeats 12800000 in
theorem Ld (x:ae) (proc:Int) (w:World) (hx:bD w x) (hsz:bL x.t<=900000) (hsh:∀ m∈bO x.t,sZ m):Calls Tryz.prog 56 #[.int .i64 proc,x.val] w λe w'=>∃ v L,e = .returned v/\jq w.heap.size w' v L (fF (bO x.t))/\Grow w w':=by
 obtain⟨k,n,q,kv,l⟩:=x
 obtain⟨ka,kc,rfl,-,-⟩:=hx.form
 have hg2:Grow w (((w.alloc (.cells #[.int .i64 proc] 3)).alloc (.cells #[.int .u8 k,.int .i64 n,.string q,.slice ka l.length kc] 40)).alloc (.cells #[.slice none 0 0] 68)):=(((Mv.refl _ w).alloc _).alloc _).alloc _
 have HG2:=Lib.hid hg2
 have um:=Lib.hid (show(((w.alloc (.cells #[.int .i64 proc] 3)).alloc (.cells #[.int .u8 k,.int .i64 n,.string q,.slice ka l.length kc] 40)).alloc (.cells #[.slice none 0 0] 68)).heap[w.heap.size]? = some (.cells #[.int .i64 proc] 3 (0,0))from bS (bS (heap_alloc_new w _) _) _)
 have HB2:=Lib.hid (show(((w.alloc (.cells #[.int .i64 proc] 3)).alloc (.cells #[.int .u8 k,.int .i64 n,.string q,.slice ka l.length kc] 40)).alloc (.cells #[.slice none 0 0] 68)).heap[w.heap.size+1]? = some (.cells #[.int .u8 k,.int .i64 n,.string q,.slice ka l.length kc] 40 (0,0))from bS (by have:=heap_alloc_new (w.alloc (.cells #[.int .i64 proc] 3)) (.cells #[.int .u8 k,.int .i64 n,.string q,.slice ka l.length kc] 40);rwa[World.size_alloc]at this) _)
 have HL2:=Lib.hid (show(((w.alloc (.cells #[.int .i64 proc] 3)).alloc (.cells #[.int .u8 k,.int .i64 n,.string q,.slice ka l.length kc] 40)).alloc (.cells #[.slice none 0 0] 68)).heap[w.heap.size+1+1]? = some (.cells #[.slice none 0 0] 68 (0,0))from by have:=heap_alloc_new ((w.alloc (.cells #[.int .i64 proc] 3)).alloc (.cells #[.int .u8 k,.int .i64 n,.string q,.slice ka l.length kc] 40)) (.cells #[.slice none 0 0] 68);rwa[World.size_alloc,World.size_alloc]at this)
 have IG:=Lib.hid (show(((w.alloc (.cells #[.int .i64 proc] 3)).alloc (.cells #[.int .u8 k,.int .i64 n,.string q,.slice ka l.length kc] 40)).alloc (.cells #[.slice none 0 0] 68)).heap.size=w.heap.size+3 from by simp)
 have yP:=Lib.hid (λ(z:World) (hz:Grow w z)=>Mt _ z (hx.later hz) hsz)
 have uB:=Lib.hid hsz
 have rQ:=Lib.hid (show ∀ m∈bO (ae.t (.mk k n q (.slice ka l.length kc) l)),sZ m/\bL m<=900000/\∀ v∈m.kids,sZ v from λm hm=>⟨hsh m hm,Nat.le_trans (VL _ _ (Nat.le_refl _) m hm) hsz,λv hv=>hsh v (Lc _ m hm v hv)⟩)
 simp only[ae.val]at yP ⊢
 clear hx hg2 hsz hsh
 refine KJ Tryz.func56 rfl ?_
 simp only[Tryz.ntmps56,List.size_toArray,List.length_cons,List.length_nil,Nat.reduceAdd,Nat.reduceSub,Array.replicate_succ,Array.replicate_zero,List.push_toArray,List.append_toArray,List.nil_append,List.cons_append]
 go_upto_region 2 with fail
 generalize (((w.alloc (.cells #[.int .i64 proc] 3)).alloc (.cells #[.int .u8 k,.int .i64 n,.string q,.slice ka l.length kc] 40)).alloc (.cells #[.slice none 0 0] 68))=w2 at *
 obtain⟨⟨n0,n1⟩,n2,n3⟩:=az HB2.out
 have hl0:=lt_of_block HB2.out
 go_wp2_with fail
 refine(yP.out _ HG2.out).mono ?_
 clear yP n0 n1 n2 n3 hl0
 rintro e w3 ⟨Rb,z,rfl,hrb,hno,rJ,hg3⟩
 have aA:=Lib.hid (gtr HG2.out hg3)
 have oh:=Lib.hid (show w.heap.size+3<=w3.heap.size from by have h1:=IG.out;have h2:=hg3.size;omega)
 have HI0:=Lib.hid (show rR w proc [] w3 from⟨aA.out,ah um.out hg3,⟨_,[],ah HL2.out hg3,World.ownsRow_nil _ _ _ _,rfl,by simp⟩⟩)
 have yt:=Lib.hid (LB vJ Rb z w3 (VK _) hrb hno (by rw[rJ];exact uB.out))
 rw[rJ]at yt
 clear hrb hno hg3 rJ
 go_wp2_with fail
 refine Kt vJ (gf:=102) (lb:=#[.pointer (some ⟨Rb,0,none⟩)]) rfl (enters_of Tryz.func102 (by kernel_rfl) rfl) yt.out (λx X Y h hm=>h.stay hm (λ_ _ _ _ _ e=>e)) (λx X l o o' h hl ho=>h.stay (Mv.putObj (O:=λb=>b=l) X l o' rfl) (λb cs z _ hc e=>by subst e;rw[hc]at hl;cases hl;cases ho)) (Mv.refl _ _) (λ_=>rfl)
  (rR w proc) (λ_ _ _=>False) (λpre X Y hi hm=>hi.it hm (by have:=oh.out;omega)) (λc pre X Y hi hm=>hi) HI0.out
  (λa x a' W=>∃ b,W.heap[b]? = some (.cells x.2.fix.cells.toArray 40 (0,0))/\a' = { tmps:=(((a.tmps.setIfInBounds 12 x.1).setIfInBounds 13 x.2.fix.val).setIfInBounds 6 x.1).setIfInBounds 7 (.pointer (some ⟨b,0,none⟩)),defers:=[] }) ?hAx ?assign ?body ?done ?stop
 case hAx =>
  rintro x a' X l' o o' ⟨b,hb,rfl⟩ hl' ho
  exact⟨b,by rw[World.putObj_heap_other (λe=>by subst e;rw[hb]at hl';cases hl';cases ho)];exact hb,rfl⟩
 case assign =>
  intro l' pre x W K hi hK
  obtain⟨xp,xn⟩:=x
  obtain⟨zk,zn,zs,za,zm,zc,zl,hfx,hft⟩:=ae.GV xn
  simp only[hfx]at hK ⊢
  have HK:=Lib.hid (hK _ (W.alloc (.cells #[.int .u8 zk,.int .i64 zn,.string zs,.slice za zm zc] 40)) ((Mv.refl _ _).alloc _) (hi.grow ((Mv.refl _ _).alloc _)) ⟨W.heap.size,heap_alloc_new W _,rfl⟩)
  clear hK hi
  simp only[ae.val]
  simp only[List.setIfInBounds_toArray,List.set_cons_zero,List.set_cons_succ,ae.val]at HK
  gi_wp2
  exact HK.out
 case body =>
  rintro l' pre x a' W hi ⟨b,hb,rfl⟩ hsp hno
  obtain⟨xp,xn⟩:=x
  rw[hno.fix]at hb ⊢
  obtain⟨hcm,hal⟩:=hsp
  obtain⟨pa,pn,pc,rfl⟩:tJ xp:=hal (xp,xn) (by simp)
  have hmem:=hcm.subset (show xn.t∈came (pre ++ [(_,xn)])from by simp[came])
  obtain⟨hr1,hr2,hr3⟩:=rQ.out _ hmem
  have yL:=Lib.hid (UI xn W hno.at hr2 hr1 hr3)
  have Fz:=Lib.hid (show fF (came (pre ++ [(.slice pa pn pc,xn)]))=fF (came pre) ++ (if(oQ xn.t).2 != 0 then[oQ xn.t]else[])from by rw[show came (pre ++ [(.slice pa pn pc,xn)])=came pre ++ [xn.t]from by simp[came]];exact T9 _ _)
  generalize oQ xn.t=R at *
  obtain⟨E1,E2⟩:=R
  obtain⟨zk,zn,zs,zv,zl⟩:=xn
  obtain⟨za,zc,rfl,-,-⟩:=hno.at.form
  simp only[ae.val,ae.cells]at hb yL ⊢
  obtain⟨⟨n0,n1⟩,n2,n3⟩:=az hb
  have hlb:=lt_of_block hb
  have HI:=Lib.hid hi
  have HCN:=Lib.hid (show(came pre).length+1<=900000 from by
   have h1:=hcm.length_le
   rw[UJ,GK]at h1
   have:=uB.out
   simp at h1;omega)
  clear hb hcm hal hmem hr1 hr2 hr3 hno hi
  simp only[List.setIfInBounds_toArray,List.set_cons_zero,List.set_cons_succ]
  gi_wp2
  refine⟨trivial,(CallsIn.inRound l' (callsIn_wide.2 yL.out)).mono ?_⟩
  clear n0 n1 n2 n3 hlb yL
  rintro e w4 ⟨rfl,hg4⟩
  have bA:=Lib.hid hg4
  clear hg4
  by_cases he:E2=0
  · have d1:(E2 != 0)=false:=by simp[he]
    have iQ:=Lib.hid (show rR w proc (pre ++ [(.slice pa pn pc,.mk zk zn zs (.slice za zl.length zc) zl)]) w4 from by
     obtain⟨v,L,h1,h2⟩:=(HI.out.grow bA.out).l
     exact⟨gtr HI.out.g bA.out,ah HI.out.p bA.out,v,L,h1,by rw[Fz.out,d1];simpa using h2⟩)
    clear he Fz
    gi_wp2
    exact⟨bA.out.mono (λ_ e=>e.elim),iQ.out⟩
  · have d1:(E2 != 0)=true:=by simpa using he
    obtain⟨v,L,h1,h2⟩:=(HI.out.grow bA.out).l
    have AX:=ah HI.out.p bA.out
    have hLn:L.length<=900000:=by
     have e1:L.length=(fF (came pre)).length:=by rw[← h2.2.1,List.length_map]
     have e2:(fF (came pre)).length<=(came pre).length:=by unfold fF;exact Nat.le_trans (List.length_filter_le ..) (by simp)
     have:=HCN.out;omega
    have hga:Grow w4 (w4.alloc (.cells #[.int .i64 proc,.slice pa pn pc,.int .i64 E2,.string E1] 124)):=(Mv.refl _ _).alloc _
    have De:=h2.grow hga
    have Rc:(w4.alloc (.cells #[.int .i64 proc,.slice pa pn pc,.int .i64 E2,.string E1] 124)).heap[w4.heap.size]? = some (.cells #[.int .i64 proc,.slice pa pn pc,.int .i64 E2,.string E1] 124 (0,0)):=heap_alloc_new w4 _
    obtain⟨a',c',w5,⟨hok,hv,hw⟩,hrow,hmv,hnew⟩:=kz Tryz.Nj zN v (.slice (some ⟨w4.heap.size,0,none⟩) 1 1) L [(proc,.slice pa pn pc,E2,E1)] w.heap.size _ De.1 (ay.dF (l:=[(proc,.slice pa pn pc,E2,E1)]) zN Rc rfl (by simp)) (by simp[Ah,Value.oneCell']) (by have:=hga.size;have:=bA.out.size;have:=HI.out.g.size;omega) (by simp;omega)
    have hb1:=ah h1 hga
    have CX:¬ v.ownBlock=some (w.heap.size+1+1):=λh=>by obtain⟨_,cs,z,hh⟩:=bP De.1 _ h;rw[hb1]at hh;simp at hh
    have hb5:w5.heap[w.heap.size+1+1]? = some (.cells #[v] 68 (0,0)):=by rw[hmv.block _ (lt_of_block hb1) CX];exact hb1
    have hpo:¬ v.ownBlock=some w.heap.size:=λh=>by obtain⟨_,cs,z,hh⟩:=bP De.1 _ h;rw[ah AX hga]at hh;simp at hh
    have uj:w5.heap[w.heap.size]? = some (.cells #[.int .i64 proc] 3 (0,0)):=by rw[hmv.block _ (lt_of_block (ah AX hga)) hpo];exact ah AX hga
    obtain⟨hs1,hs2⟩:=set1 hb5 (.slice a' (L.length+1) c')
    have c5:=cell1 hb5
    have z5:=bB hb5 0
    have l5:=lt_of_block hb5
    have cp:=cell1 AX
    have lp:=lt_of_block AX
    have cl:=cell1 h1
    have ll:=lt_of_block h1
    have hnb:¬ (Value.slice a' (L.length+1) c').ownBlock=some (w.heap.size+1+1):=λh=>by obtain⟨_,cs,z,hh⟩:=bP hrow _ h;rw[hb5]at hh;simp at hh
    have JG:Mv (λb=>b=w.heap.size+1+1\/v.ownBlock=some b) W (w5.setCell ⟨w.heap.size+1+1,0,none⟩ (.slice a' (L.length+1) c')):=((gtr bA.out hga).mono (λ_ e=>e.elim)).trans ((hmv.mono (λb e => .inl (.inr e))).trans hs2 (λb e => .inl (.inl e))) (λb e => .inl e)
    have iQ:=Lib.hid (show rR w proc (pre ++ [(.slice pa pn pc,.mk zk zn zs (.slice za zl.length zc) zl)]) (w5.setCell ⟨w.heap.size+1+1,0,none⟩ (.slice a' (L.length+1) c'))from by
     refine⟨Mv.trans HI.out.g JG (λb e => .inr (by
      rcases e with rfl|e
      · omega
      · exact Bw De.1 b e)),(hs2.block _ (lt_of_block uj) (λe=>by omega)).trans uj,_,L ++ [(proc,.slice pa pn pc,E2,E1)],hs1,bu hrow hs2 (λg hg e=>hnb (by rw[← e];exact hg)),?_,?_⟩
     · rw[Fz.out,d1,if_pos rfl,List.map_append,h2.2.1];rfl
     · intro r hr
       rcases List.mem_append.1 hr with hr|hr
       · exact h2.2.2 r hr
       · rw[List.mem_singleton.1 hr];exact⟨_,_,_,rfl⟩)
    have Ay:=Lib.hid (show oZ vJ w3.heap.size W _ from JG.mono (λb e => .inl (show ¬ (wU vJ W b\/(w3.heap.size<=b/\Ew W b))from by
     have hty:∃ cs t z,W.heap[b]? = some (.cells cs t z)/\vJ b t=true:=by
      obtain⟨v',L',h1',h2'⟩:=HI.out.l
      have hvv:v'=v:=by
       have:=ah h1' bA.out
       rw[h1]at this;simp at this;exact this.symm
      subst hvv
      rcases e with rfl|e
      · exact⟨_,_,_,h1',rfl⟩
      · obtain⟨-,cs,z,hc⟩:=bP h2'.1 b e
        exact⟨cs,_,z,hc,rfl⟩
     obtain⟨cs,t,z,hc,ht⟩:=hty
     rintro(⟨cs',t',z',hc',ht'⟩|⟨-,o,ho,hn⟩)
     · rw[hc]at hc'
       simp only[Option.some.injEq,Obj.cells.injEq]at hc'
       obtain⟨-,rfl,-⟩:=hc'
       rw[ht]at ht';cases ht'
     · rw[hc]at ho;cases ho;cases hn)))
    simp only[List.length_cons,List.length_nil,Nat.zero_add]at hv
    clear he Fz hLn hga Rc De hrow hmv hnew hb1 CX hb5 hpo uj hs1 hs2 hnb JG h1 h2 AX
    gi_wp2_with (gi_at_builtin;refine S9 rfl _ _ _ _ rfl rfl rfl rfl hok hv hw ?_)
    exact⟨Ay.out,iQ.out⟩
 case done =>
  intro D xs W hD hS hi hK
  obtain⟨v,L,h1,h2⟩:=hi.l
  have c5:=cell1 h1
  have l5:=lt_of_block h1
  have HQ:=Lib.hid (show jq w.heap.size W v L (fF (bO (ae.t (.mk k n q (.slice ka l.length kc) l))))from by rw[← hS.1];exact h2)
  have gu:=Lib.hid hi.g
  have iC:=Lib.hid hK
  have hne:w.heap.size+1+1≠D:=by have:=oh.out;omega
  have fD:=Lib.hid (show Grow w (W.putObj D (.deferred none))from Mv.trans gu.out (Mv.putObj (O:=λb=>b=D) _ D _ rfl) (λb e => .inr (by subst e;have:=oh.out;omega)))
  have dh:=Lib.hid (show jq w.heap.size (W.putObj D (.deferred none)) v L _ from⟨bu HQ.out.1 (Mv.putObj (O:=λb=>b=D) W D (.deferred none) rfl) (λg hg e=>by
   subst e;obtain⟨-,cs,z,hc⟩:=bP HQ.out.1 _ hg;rw[iC.out]at hc;cases hc),HQ.out.2⟩)
  clear hK hS hi h1 h2
  go_wp2_with fail
  exact Gq iC.out (v:=v) (by simp[results,Tryz.results56,go_sem]) rfl ⟨v,L,rfl,dh.out,fD.out⟩
 case stop =>
  rintro D c xs W hD hS h hK
  exact h.elim
theorem D5 {k:Int} (h:k<=39\/k=50\/k=51\/k=54\/k=55\/57<=k) (h3:k≠3):iL k=0:=by
 unfold iL
 rw[if_neg (by omega),if_neg (by omega),if_neg (by omega)]
def yR (t:Tree):Prop:=aJ t=true\/aW t=true\/dM t=true
theorem UK {k n:Int} {s:ByteArray} {l:List Tree} (h:aJ (.mk k n s l)=true):iL k<=l.length/\∀ y∈l,yR y:=by
 have nil:l.isEmpty=true->iL k<=l.length\/iL k=0->iL k<=l.length/\∀ y∈l,yR y:=λh1 h2=>by
  have:l=[]:=by simpa using h1
  subst this
  exact⟨by simp at h2 ⊢;exact h2,by simp⟩
 have all:kS l=true->∀ y∈l,yR y:=λh1 y hy => .inl (by rw[Ur]at h1;exact List.all_eq_true.1 h1 y hy)
 rw[aJ]at h
 by_cases h1:k=1
 · rw[if_pos h1]at h;simp only[Bool.and_eq_true]at h
   exact nil h.2.2 (.inr (D5 (by omega) (by omega)))
 rw[if_neg h1]at h
 by_cases h2:k=2\/k=4\/k=5
 · rw[if_pos h2]at h;simp only[Bool.and_eq_true]at h
   exact nil h.2 (.inr (D5 (by omega) (by omega)))
 rw[if_neg h2]at h
 by_cases h3:k=3
 · rw[if_pos h3]at h;simp only[Bool.and_eq_true,beq_iff_eq]at h
   exact⟨by subst h3;rw[h.2.1];decide,all h.2.2⟩
 rw[if_neg h3]at h
 by_cases h4:k=6\/k=7
 · rw[if_pos h4]at h;simp only[Bool.and_eq_true,beq_iff_eq]at h
   exact⟨by rw[D5 (by omega) h3];omega,all h.2.2⟩
 rw[if_neg h4]at h
 by_cases h5:8<=k/\k<=23
 · rw[if_pos h5]at h;simp only[Bool.and_eq_true,beq_iff_eq]at h
   exact⟨by rw[D5 (by omega) h3];omega,all h.2.2⟩
 rw[if_neg h5]at h;cases h
theorem Bn {t:Tree} (h:fH t=true):aJ t=true:=by
 simp only[fH,Bool.and_eq_true]at h;exact h.2
theorem WX {t:Tree} (h:lM t=true):aJ t=true:=by
 simp only[lM,Bool.and_eq_true]at h;exact h.2
theorem NW {p:Tree->Bool} {l:List Tree} (h:aY [p] l=true):∃ a,l=[a]/\p a=true:=by
 match l,h with
 | [a],h=>exact⟨a,rfl,by simpa[aY]using h⟩
 | [],h=>simp[aY]at h
 |a :: b :: r,h=>simp[aY]at h
theorem NY {p q:Tree->Bool} {l:List Tree} (h:aY [p,q] l=true):∃ a b,l=[a,b]/\p a=true/\q b=true:=by
 match l,h with
 | [a,b],h=>exact⟨a,b,rfl,by simpa[aY]using h⟩
 | [],h=>simp[aY]at h
 | [a],h=>simp[aY]at h
 |a :: b :: c :: r,h=>simp[aY]at h
theorem Y5 {p q r:Tree->Bool} {l:List Tree} (h:aY [p,q,r] l=true):∃ a b c,l=[a,b,c]/\p a=true/\q b=true/\r c=true:=by
 match l,h with
 | [a,b,c],h=>exact⟨a,b,c,rfl,by simpa[aY]using h⟩
 | [],h=>simp[aY]at h
 | [a],h=>simp[aY]at h
 | [a,b],h=>simp[aY]at h
 |a :: b :: c :: d :: r,h=>simp[aY]at h
theorem Y6 {p q r u:Tree->Bool} {l:List Tree} (h:aY [p,q,r,u] l=true):∃ a b c d,l=[a,b,c,d]/\p a=true/\q b=true/\r c=true/\u d=true:=by
 match l,h with
 | [a,b,c,d],h=>exact⟨a,b,c,d,rfl,by simpa[aY]using h⟩
 | [],h=>simp[aY]at h
 | [a],h=>simp[aY]at h
 | [a,b],h=>simp[aY]at h
 | [a,b,c],h=>simp[aY]at h
 |a :: b :: c :: d :: e :: r,h=>simp[aY]at h
theorem UL {k n:Int} {s:ByteArray} {l:List Tree} (h:aW (.mk k n s l)=true):iL k<=l.length/\∀ y∈l,yR y:=by
 rw[aW]at h
 by_cases h1:k=40\/k=41\/k=42\/k=56
 · rw[if_pos h1]at h;simp only[Bool.and_eq_true]at h
   obtain⟨a,b,rfl,ha,hb⟩:=NY h.2
   refine⟨by rcases h1 with rfl|rfl|rfl|rfl <;> simp[iL],λy hy => ?_⟩
   rcases List.mem_cons.1 hy with rfl|hy
   · exact .inl (Bn ha)
   · rw[List.mem_singleton.1 hy];exact .inl hb
 rw[if_neg h1]at h
 by_cases h2:k=43
 · rw[if_pos h2]at h;simp only[Bool.and_eq_true]at h
   obtain⟨a,b,rfl,ha,hb⟩:=NY h.2
   refine⟨by subst h2;simp[iL],λy hy => ?_⟩
   rcases List.mem_cons.1 hy with rfl|hy
   · exact .inl (Bn ha)
   · rw[List.mem_singleton.1 hy];exact .inl (Bn hb)
 rw[if_neg h2]at h
 by_cases h3:k=44\/k=45
 · rw[if_pos h3]at h;simp only[Bool.and_eq_true]at h
   obtain⟨a,rfl,ha⟩:=NW h.2
   refine⟨by rcases h3 with rfl|rfl <;> simp[iL],λy hy => ?_⟩
   rw[List.mem_singleton.1 hy];exact .inl (Bn ha)
 rw[if_neg h3]at h
 by_cases h4:k=46\/k=47\/k=48\/k=49
 · rw[if_pos h4]at h;simp only[Bool.and_eq_true]at h
   obtain⟨a,rfl,ha⟩:=NW h.2
   refine⟨by rcases h4 with rfl|rfl|rfl|rfl <;> simp[iL],λy hy => ?_⟩
   rw[List.mem_singleton.1 hy];exact .inl (Bn ha)
 rw[if_neg h4]at h
 by_cases h5:k=50\/k=51
 · rw[if_pos h5]at h;simp only[Bool.and_eq_true]at h
   refine⟨by rcases h5 with rfl|rfl <;> simp[iL],λy hy => .inl (WX (List.all_eq_true.1 h.2.2 y hy))⟩
 rw[if_neg h5]at h
 by_cases h6:k=52\/k=53
 · rw[if_pos h6]at h;simp only[Bool.and_eq_true]at h
   obtain⟨a,b,c,d,rfl,ha,-,-,hd⟩:=Y6 h.2.1
   obtain⟨hb,hc⟩:=h.2.2
   simp only[kX,List.getD_cons_succ,List.getD_cons_zero]at hb hc
   refine⟨by rcases h6 with rfl|rfl <;> simp[iL],λy hy => ?_⟩
   simp only[List.mem_cons,List.not_mem_nil,or_false]at hy
   rcases hy with rfl|rfl|rfl|rfl
   · exact .inl ha
   · exact .inr (.inr hb)
   · exact .inr (.inr hc)
   · exact .inl hd
 rw[if_neg h6]at h
 by_cases h7:k=54
 · rw[if_pos h7]at h;simp only[Bool.and_eq_true]at h
   obtain⟨a,b,c,rfl,ha,-,hc⟩:=Y5 h.2.1
   have hb:=h.2.2
   simp only[kX,List.getD_cons_succ,List.getD_cons_zero]at hb
   refine⟨by subst h7;simp[iL],λy hy => ?_⟩
   simp only[List.mem_cons,List.not_mem_nil,or_false]at hy
   rcases hy with rfl|rfl|rfl
   · exact .inl ha
   · exact .inr (.inr hb)
   · exact .inl hc
 rw[if_neg h7]at h
 by_cases h8:k=55
 · rw[if_pos h8]at h;simp only[Bool.and_eq_true,beq_iff_eq]at h
   match l,h with
   | [a],h =>
    have hb:=h.2.2
    simp only[kX,List.getD_cons_zero]at hb
    refine⟨by subst h8;simp[iL],λy hy => ?_⟩
    rw[List.mem_singleton.1 hy];exact .inr (.inr hb)
   | [],h=>simp at h
   |a :: b :: r,h=>simp at h
 rw[if_neg h8]at h;cases h
theorem Ua {k n:Int} {s:ByteArray} {l:List Tree} (h:dM (.mk k n s l)=true):iL k<=l.length/\∀ y∈l,yR y:=by
 rw[dM]at h
 simp only[Bool.and_eq_true,beq_iff_eq]at h
 exact⟨by rw[h.1];simp[iL],λy hy => .inr (.inl (by have:=h.2.2;rw[Gm]at this;exact List.all_eq_true.1 this y hy))⟩
theorem LW {u:Tree} : ∀ {l:List Tree},u∈eD l->∃ y∈l,u∈bO y/\bL y<=eX l
 | [],h=>by simp[eD]at h
 |y :: r,h=>by
  rw[eD,List.mem_append]at h
  rcases h with h|h
  · exact⟨y,List.mem_cons_self ..,h,by rw[eX];omega⟩
  · obtain⟨z,h1,h2,h3⟩:=LW h
    exact⟨z,List.mem_cons_of_mem _ h1,h2,by rw[eX];omega⟩
theorem YC:∀ (m:Nat) (t:Tree),bL t<=m->yR t->∀ u∈bO t,sZ u:=by
 intro m
 induction m with
 |zero=>intro t h;cases t;simp[bL]at h
 |succ m ih =>
  intro t h ho u hu
  obtain⟨k,n,s,l⟩:=t
  have hp:iL k<=l.length/\∀ y∈l,yR y:=by
   rcases ho with ho|ho|ho
   · exact UK ho
   · exact UL ho
   · exact Ua ho
  rw[bO]at hu
  rcases List.mem_cons.1 hu with rfl|hu
  · exact hp.1
  · obtain⟨y,h1,h2,h3⟩:=LW hu
    rw[bL]at h
    exact ih y (by omega) (hp.2 y h1) u h2
theorem MH {t:Tree} (h:dM t=true):∀ u∈bO t,sZ u:=YC _ t (Nat.le_refl _) (.inr (.inr h))
end Go.Proofs.YtbpodipdfohikaaGreat
