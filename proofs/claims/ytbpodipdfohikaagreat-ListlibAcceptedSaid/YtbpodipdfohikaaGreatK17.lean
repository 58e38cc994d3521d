import Derived.Test.YtbpodipdfohikaaGreatK16
set_option linter.unusedSimpArgs false
set_option linter.unusedVariables false
set_option maxRecDepth 100000
set_option maxHeartbeats 25600000
namespace Go.Proofs.YtbpodipdfohikaaGreat
open Go.RowKit Go.Instr
structure u7 (B:Nat) (w:World) (R J:Nat) (f:Nat):Prop where
 r:w.heap[R]? = some (.cells #[.func (.func 50) #[] #[.pointer (some ⟨B,0,none⟩)]] 87 (0,0))
 j:(f=54/\∃ i,w.heap[J]? = some (.cells #[.int .i64 i] 3 (0,0)))\/(f=55/\∃ v0 a n c v2 v3 v4 v5,w.heap[J]? = some (.cells #[v0,.slice a n c,v2,v3,v4,v5] 42 (0,0)))
theorem u7.later {B:Nat} {w w':World} {R J f:Nat} (h:u7 B w R J f) (hg:Grow w w'):u7 B w' R J f:=by
 refine⟨ah h.r hg,?_⟩
 rcases h.j with⟨rfl,i,hj⟩|⟨rfl,v0,a,n,c,v2,v3,v4,v5,hj⟩
 · exact .inl ⟨rfl,i,ah hj hg⟩
 · exact .inr ⟨rfl,v0,a,n,c,v2,v3,v4,v5,ah hj hg⟩
theorem cB.keep' {wb w w':World} {B b c:Nat} {cs:Array Value} {t:TypeId} {z:Nat × Nat} (h:cB wb B w w') (hst:jO wb B w c) (hb:w.heap[b]? = some (.cells cs t z)) (ht:t≠86) (AJ:t≠66):w'.heap[b]? = some (.cells cs t z):=by
 obtain⟨v,l,h1,-,-⟩:=hst.blk
 exact h.keep hb h1 ht AJ
theorem u7.rM {wb:World} {B:Nat} {w w':World} {R J f c:Nat} (h:u7 B w R J f) (hst:jO wb B w c) (hm:cB wb B w w'):u7 B w' R J f:=by
 refine⟨hm.keep' hst h.r (by decide) (by decide),?_⟩
 rcases h.j with⟨rfl,i,hj⟩|⟨rfl,v0,a,n,c,v2,v3,v4,v5,hj⟩
 · exact .inl ⟨rfl,i,hm.keep' hst hj (by decide) (by decide)⟩
 · exact .inr ⟨rfl,v0,a,n,c,v2,v3,v4,v5,hm.keep' hst hj (by decide) (by decide)⟩
set_option maxRecDepth 100000 in
set_option maxHeartbeats 3200000 in
theorem Nh (wb:World) (B R J f:Nat) (pv:Value) (path:List Int) (s:ByteArray) (e:Int) (c:Nat) (w:World) (hr:u7 B w R J f) (hst:jO wb B w c) (hpt:ay 1 aU w pv path) (hpl:path.length<=1000000) (hc:c<=900000) :
 Calls Tryz.prog f #[pv,.string s,.int .i64 e,.pointer (some ⟨R,0,none⟩),.pointer (some ⟨J,0,none⟩)] w (Hg wb B w (c+kI e)):=by
 have r0:=cell1 hr.r
 have rl:=lt_of_block hr.r
 rcases hr.j with⟨rfl,i,hj⟩|⟨rfl,v0,a,n,c,v2,v3,v4,v5,hj⟩
 · have j0:=cell1 hj
   have jl:=lt_of_block hj
   have HC:=Lib.hid (Bl wb B i pv path s e c w hst hpt (by omega) hc)
   clear hr hst hpt hj
   go_enter Tryz.func54,Tryz.ntmps54
   go_wp2_with fail
   refine HC.out.mono ?_
   rintro e w2 ⟨rfl,h2,h3⟩
   have H2:=Lib.hid h2
   have H3:=Lib.hid h3
   clear h2 h3
   go_wp2_with fail
   go_end0
   exact⟨rfl,H2.out,H3.out⟩
 · rename_i cc
   obtain⟨⟨j0,j1,j2⟩,j3,j4,j5⟩:=bI hj
   have jl:=lt_of_block hj
   have HC:=Lib.hid (Bl wb B n pv path s e cc w hst hpt (by omega) hc)
   clear hr hst hpt hj
   go_enter Tryz.func55,Tryz.ntmps55
   go_wp2_with fail
   refine HC.out.mono ?_
   rintro e w2 ⟨rfl,h2,h3⟩
   have H2:=Lib.hid h2
   have H3:=Lib.hid h3
   clear h2 h3
   go_wp2_with fail
   go_end0
   exact⟨rfl,H2.out,H3.out⟩
def pg (P:List bC) (s:ByteArray) (n:Nat):Nat->List Tree->List au->Nat
 |_,[],_=>0
 |i,t :: r,aF=>kI (nL P s n t.name i aF)+pg P s n (i+1) r aF
mutual
def jo (P:List bC):Tree->List au->Nat
 |.mk k _ s l,aF=>kI (gW P k s l.length aF)+(if k=50\/k=51 then pg P s l.length 0 l aF else lK P k s 0 l aF)
def lK (P:List bC) (k:Int) (s:ByteArray):Nat->List Tree->List au->Nat
 |_,[],_=>0
 |i,t :: r,aF=>jo P t (kU (.mk k 0 s []) i aF)+lK P k s (i+1) r aF
end
theorem UB (t:Tree) (i:Nat) (l:List au):(kU t i l).length<=l.length+1:=by
 unfold kU
 split
 · simp
 · split
   · simp
   · omega
def jJ {α:Type} (wb:World) (n:Nat) (f:α->List Value) (T:TypeId) (w:World) (v:Value) (l:List α):Prop:=ay n f w v l/\(l≠[]->∀ g,v.ownBlock=some g->g<wb.heap.size\/∃ cs z,w.heap[g]? = some (.cells cs T z))
theorem jJ.later {α:Type} {wb:World} {n:Nat} {f:α->List Value} {T:TypeId} {w w':World} {v:Value} {l:List α} (h:jJ wb n f T w v l) (hg:Grow w w'):jJ wb n f T w' v l :=
 ⟨h.1.later hg,λhl g e=>(h.2 hl g e).imp id (λ⟨cs,z,hb⟩=>⟨cs,z,ah hb hg⟩)⟩
theorem jJ.rM {α:Type} {wb:World} {B c:Nat} {n:Nat} {f:α->List Value} {T:TypeId} {w w':World} {v:Value} {l:List α} (h:jJ wb n f T w v l) (hst:jO wb B w c) (hm:cB wb B w w') (ht:T≠86:=by decide) (AJ:T≠66:=by decide):jJ wb n f T w' v l:=by
 obtain⟨bv,bl,hB,-,-⟩:=hst.blk
 refine⟨?_,λhl g e=>(h.2 hl g e).imp id (λ⟨cs,z,hb⟩=>⟨cs,z,hm.keep' hst hb ht AJ⟩)⟩
 by_cases hl:l=[]
 · subst hl
   obtain⟨a,cap,rfl,h1,h2⟩:=h.1.form
   exact⟨a,cap,rfl,h1,h2,λi x hx=>by simp at hx⟩
 · refine h.1.stay hm λg e => ?_
   rintro⟨h1,h2⟩
   rcases h.2 hl g e with h3|⟨cs,z,h3⟩
   · omega
   · rcases h2 with rfl|⟨cs2,z2,h4⟩
     · rw[hB]at h3;simp only[Option.some.injEq,Obj.cells.injEq]at h3;exact AJ h3.2.1.symm
     · rw[h3]at h4;simp only[Option.some.injEq,Obj.cells.injEq]at h4;exact ht h4.2.1
theorem jJ.Jr {α:Type} {wb:World} {n:Nat} {f:α->List Value} {T:TypeId} {w w':World} {v v':Value} {l l':List α} (h:jJ wb n f T w v l) (hg:Grow w w') (hr:ay n f w' v' l') (ho:(v'=v/\l'=l)\/∀ g,v'.ownBlock=some g->∃ cs z,w'.heap[g]? = some (.cells cs T z)):jJ wb n f T w' v' l':=by
 rcases ho with⟨rfl,rfl⟩|ho
 · exact h.later hg
 · exact⟨hr,λ_ g e => .inr (ho g e)⟩
theorem jJ.old {α:Type} {wb:World} {n:Nat} {f:α->List Value} {T:TypeId} {v:Value} {l:List α} (hn:∀ x,0<(f x).length) (h:ay n f wb v l):jJ wb n f T wb v l:=by
 refine⟨h,λhl g e => .inl ?_⟩
 have h0:0<l.length:=List.length_pos_iff.2 hl
 obtain⟨b,off,cap,rfl,-,hc⟩:=h.at h0
 simp only[Value.ownBlock,Option.map_some,Option.some.injEq]at e
 have h1:=hc 0 _ (List.getElem?_eq_getElem (hn l[0]))
 have:=World.block_lt_of_cell? wb _ h1
 simp only at this
 omega
attribute [local go_sem ↓] gD
theorem GD (t:Tree):1<=bL t:=by cases t;rw[bL];omega
theorem KZ:∀ l:List Tree,l.length<=eX l
 | []=>Nat.zero_le _
 |t :: l=>by have:=GD t;have:=KZ l;rw[eX,List.length_cons];omega
theorem Wq (k n:Int) (s:ByteArray) (kv:Value) (l:List ae):l.length+1<=bL (ae.t (.mk k n s kv l)):=by
 have:=KZ (ae.ts l)
 rw[ae.bX]at this
 rw[ae.t,bL];omega
set_option maxRecDepth 100000 in
set_option maxHeartbeats 12800000 in
theorem K3 (wb:World) (B:Nat) (p:aB) (hp:jm wb p) (R J f:Nat) (hfl:f=54\/f=55):∀ (m:Nat) (x:ae),SizeOf.sizeOf x<=m->bD wb x->∀ (w:World) (c:Nat) (path:List Int) (pv:Value) (aF:List au) (vv:Value),jO wb B w c->u7 B w R J f->jJ wb 1 aU 3 w pv path->jJ wb 3 au.cells 50 w vv aF->c+jo p.d.procs x.t aF<=900000->path.length+bL x.t<=900000->aF.length+bL x.t<=900000 ->
 Calls Tryz.prog 53 #[p.val,x.val,pv,vv,.func (.func f) #[] #[.pointer (some ⟨R,0,none⟩),.pointer (some ⟨J,0,none⟩)]] w (Hg wb B w (c+jo p.d.procs x.t aF)):=by
 obtain⟨vars,Js,procs,Jt,⟨mk,mn,ms,mv,ml⟩⟩:=p
 obtain⟨⟨va,vc,rfl⟩,⟨pa,pc,rfl⟩,hm⟩:=hp.form
 obtain⟨ma,mc,rfl,-,-⟩:=hm.form
 have vY:=Lib.hid hp
 have yA:=Lib.hid (show(aB.d ⟨vars,.slice va vars.length vc,procs,.slice pa procs.length pc,.mk mk mn ms (.slice ma ml.length mc) ml⟩).procs=procs.map aN.d from rfl)
 have hent:∀ (args:Array Value) (w:World),(callFunc f args).run Tryz.prog w = .ok (.enter f args) w:=by
  rcases hfl with rfl|rfl <;> intro args w <;> simp[go_sem]
 clear hp hm hfl
 simp only[yA.out]
 generalize hP:procs.map aN.d=P at *
 intro m
 induction m with
 |zero=>intro x hm;cases x;simp at hm
 |succ m ih =>
  intro x hm hx w c path pv aF vv hst hrep hpt Ju hcb hpb hvb
  obtain⟨k,n,s,kv,l⟩:=x
  obtain⟨ka,kc,rfl,hkc,hkl⟩:=hx.form
  obtain⟨qa,qc,rfl,-,-⟩:=hpt.1.form
  obtain⟨ia,ic,rfl,-,-⟩:=Ju.1.form
  have iM:=Lib.hid (λ(i:Nat) (hi:i<l.length)=>ih l[i] (Nat.le_of_lt_succ (Nat.lt_of_lt_of_le (rX (k:=k) (n:=n) (s:=s) (kv := .slice ka l.length kc) (List.getElem_mem hi)) hm)) (hx.row.2.2.2.2 _ (List.getElem_mem hi)))
  have AL:=Lib.hid hx
  have HST:=Lib.hid hst
  have Ow:=Lib.hid hrep
  have vW:=Lib.hid hpt
  have Jv:=Lib.hid Ju
  have hsz:l.length+1<=bL (ae.t (.mk k n s (.slice ka l.length kc) l)):=Wq _ _ _ _ _
  have HV:=Lib.hid (show jo P (ae.t (.mk k n s (.slice ka l.length kc) l)) aF=kI (gW P k s l.length aF)+(if k=50\/k=51 then pg P s l.length 0 (ae.ts l) aF else lK P k s 0 (ae.ts l) aF)from by
   rw[ae.t,jo,ae.bX])
  generalize hVV:jo P (ae.t (.mk k n s (.slice ka l.length kc) l)) aF=V at *
  generalize hSS:bL (ae.t (.mk k n s (.slice ka l.length kc) l))=SZ at *
  have aj:=Lib.hid (show Grow w ((w.alloc (.cells #[.slice va vars.length vc,.slice pa procs.length pc,.int .u8 mk,.int .i64 mn,.string ms,.slice ma ml.length mc] 42)).alloc (.cells #[.int .u8 k,.int .i64 n,.string s,.slice ka l.length kc] 40))from((Mv.refl _ w).alloc _).alloc _)
  have yB:=Lib.hid (show((w.alloc (.cells #[.slice va vars.length vc,.slice pa procs.length pc,.int .u8 mk,.int .i64 mn,.string ms,.slice ma ml.length mc] 42)).alloc (.cells #[.int .u8 k,.int .i64 n,.string s,.slice ka l.length kc] 40)).heap[w.heap.size]? = some (.cells #[.slice va vars.length vc,.slice pa procs.length pc,.int .u8 mk,.int .i64 mn,.string ms,.slice ma ml.length mc] 42 (0,0))from bS (heap_alloc_new w _) _)
  have bf:=Lib.hid (show((w.alloc (.cells #[.slice va vars.length vc,.slice pa procs.length pc,.int .u8 mk,.int .i64 mn,.string ms,.slice ma ml.length mc] 42)).alloc (.cells #[.int .u8 k,.int .i64 n,.string s,.slice ka l.length kc] 40)).heap[w.heap.size+1]? = some (.cells #[.int .u8 k,.int .i64 n,.string s,.slice ka l.length kc] 40 (0,0))from by
   have:=heap_alloc_new (w.alloc (.cells #[.slice va vars.length vc,.slice pa procs.length pc,.int .u8 mk,.int .i64 mn,.string ms,.slice ma ml.length mc] 42)) (.cells #[.int .u8 k,.int .i64 n,.string s,.slice ka l.length kc] 40)
   simpa using this)
  clear hst hrep hpt Ju ih hx
  simp only[aB.val,ae.val]at iM ⊢
  go_enter Tryz.func53,Tryz.ntmps53
  go_upto_region 1 with fail
  generalize ((w.alloc (.cells #[.slice va vars.length vc,.slice pa procs.length pc,.int .u8 mk,.int .i64 mn,.string ms,.slice ma ml.length mc] 42)).alloc (.cells #[.int .u8 k,.int .i64 n,.string s,.slice ka l.length kc] 40))=w1 at *
  have HK:=Lib.hid (λ(y:World) (hy:Grow w1 y)=>And.intro (ah yB.out hy) (ah bf.out hy))
  refine kK 8 72 [some 14,some 15,some 16,some 17,some 18,some 19,some 20,some 21] [[],[],[],[2],[],[],[],[4,5,6]] [] [.c (.func (.func f) #[] #[.pointer (some ⟨R,0,none⟩),.pointer (some ⟨J,0,none⟩)]),.c (.slice qa path.length qc),.c (.pointer (some ⟨w.heap.size+1,2,none⟩)),.c (.string s),.c (.agg #[.slice va vars.length vc,.slice pa procs.length pc,.int .u8 mk,.int .i64 mn,.string ms,.slice ma ml.length mc]),.c (.agg #[.int .u8 k,.int .i64 n,.string s,.slice ka l.length kc]),.c (.slice ia aF.length ic),.c (.int .i64 (gW P k s l.length aF))] trivial (dm rfl) ?steps ?done
  case steps =>
   refine⟨?s0,?s1,?s2,?s3,?s4,?s5,?s6,?s7,trivial⟩
   case s0 =>
    refine oo (λvs x hP => ?_)
    simp only[zS]
    go_simp
    exact gc
   case s1 =>
    refine oo (λvs x hP => ?_)
    simp only[zS]
    go_simp
    exact gc
   case s2 =>
    refine oo (λvs x hP => ?_)
    simp only[zS]
    go_simp
    exact gc
   case s3 =>
    refine ok HK (λvs x hG HX hP => ?_)
    obtain⟨⟨n0,n1⟩,n2,n3⟩:=az HX.out.2
    simp only[zS]
    go_simp
    exact gc
   case s4 =>
    refine ok HK (λvs x hG HX hP => ?_)
    obtain⟨⟨x0,x1,x2⟩,x3,x4,x5⟩:=bI HX.out.1
    simp only[zS]
    go_simp
    exact gc
   case s5 =>
    refine ok HK (λvs x hG HX hP => ?_)
    obtain⟨⟨n0,n1⟩,n2,n3⟩:=az HX.out.2
    simp only[zS]
    go_simp
    exact gc
   case s6 =>
    refine oo (λvs x hP => ?_)
    simp only[zS]
    go_simp
    exact gc
   case s7 =>
    refine ok HK (λvs x hG HX hP => ?_)
    have HC:=Lib.hid (Vo ⟨vars,.slice va vars.length vc,procs,.slice pa procs.length pc,.mk mk mn ms (.slice ma ml.length mc) ml⟩ k n s ka l kc _ aF x (vY.out.later (gtr HST.out.g (gtr aj.out hG))) (AL.out.later (gtr HST.out.g (gtr aj.out hG))) (Jv.out.later (gtr aj.out hG)).1)
    simp only[aB.val,yA.out]at HC
    simp only[zS]
    go_simp
    refine(HC.out).mono ?_
    rintro e y ⟨rfl,hg⟩
    exact⟨_,rfl,gq hg rfl⟩
  case done =>
  intro vs wx hE
  have hG:=hE.grow
  have xG:=Lib.hid (HST.out.grow (gtr aj.out hG))
  have HR1:=Lib.hid (Ow.out.later (gtr aj.out hG))
  have CY:=Lib.hid (HK.out _ hG)
  have aO:=Lib.hid (gtr aj.out hG)
  clear hE hG
  simp only[zS,Nat.reduceAdd,List.drop_succ_cons,List.drop_zero]
  have HC:=Lib.hid (Nh wb B R J f (.slice qa path.length qc) path s (gW P k s l.length aF) c wx HR1.out xG.out (vW.out.later aO.out).1 (by omega) (by omega))
  go_wp2_with fail
  refine HC.out.mono ?_
  rintro e w2 ⟨rfl,Ox,lX⟩
  have kH:=Lib.hid Ox
  have um:=Lib.hid (lX.keep' xG.out CY.out.1 (by decide) (by decide))
  have bV:=Lib.hid (lX.keep' xG.out CY.out.2 (by decide) (by decide))
  have HR2:=Lib.hid (HR1.out.rM xG.out lX)
  have Oy:=Lib.hid ((Jv.out.later aO.out).rM xG.out lX)
  have Oz:=Lib.hid ((vW.out.later aO.out).rM xG.out lX)
  have OA:=Lib.hid (show cB wb B w w2 from(cB.nH aO.out).trans lX)
  obtain⟨⟨x0,x1,x2⟩,x3,x4,x5⟩:=bI um.out
  obtain⟨⟨n0,n1⟩,n2,n3⟩:=az bV.out
  have hxl:=lt_of_block um.out
  have hnl:=lt_of_block bV.out
  clear Ox lX HC HK CY yB bf HR1 xG Ow HST Jv vW aj
  by_cases hk:k=50\/k=51
  · have rH:=Lib.hid (show V=kI (gW P k s l.length aF)+pg P s l.length 0 (ae.ts l) aF from by rw[HV.out,if_pos hk])
    clear HV iM
    have hb:(k == 50)=true\/((k == 50)=false/\(k == 51)=true):=by
     rcases hk with rfl|rfl
     · exact .inl rfl
     · exact .inr ⟨rfl,rfl⟩
    clear hk
    rcases hb with hb|⟨hb,hb2⟩
    all_goals
     go_wp2_with fail
     go_loopw [34] (λt wr=>∃ (j c':Nat),t = .int .i64 j/\j<=l.length/\jO wb B wr c'/\cB wb B w2 wr/\c'+pg P s l.length j ((ae.ts l).drop j) aF=c+V/\c'<=c+V) (λt _=>l.length - (intOf t).toNat)
     case atStart=>exact⟨0,_,rfl,Nat.zero_le _,kH.out,Mv.refl _ _,by rw[rH.out];simp only[List.drop_zero];omega,by rw[rH.out];omega⟩
     obtain⟨j,c',rfl,hj,hst',lY,hrest,hcl⟩:=hrel
     have jC:=Lib.hid hst'
     have gN:=Lib.hid lY
     have df:=Lib.hid hrest
     clear hst' lY hrest
     by_cases hlt:j<l.length
     · obtain⟨kb,ko,nQ,dz,-,-⟩:=AL.out.row.2.2.2.1.at (show 0<l.length by omega)
       simp only[Value.slice.injEq,true_and]at dz
       obtain⟨rfl,rfl⟩:=dz
       have fB:=(uW AL.out j hlt).later jC.out.g
       have HE:=Lib.hid (show pg P s l.length j ((ae.ts l).drop j) aF=kI (nL P s l.length l[j].t.name j aF)+pg P s l.length (j+1) ((ae.ts l).drop (j+1)) aF from by
        rw[drop_at _ j (by rw[ae.bX];exact hlt),pg,ae.jw l j hlt])
       have NR:=Lib.hid (λ(x:World) (hx:Grow wb x) (hv:ay 3 au.cells x (.slice ia aF.length ic) aF)=>TD ⟨vars,.slice va vars.length vc,procs,.slice pa procs.length pc,.mk mk mn ms (.slice ma ml.length mc) ml⟩ k n s kb ko l kc j hlt (.slice ia aF.length ic) aF x (vY.out.later hx) (AL.out.later hx) hv)
       simp only[aB.val,yA.out]at NR
       generalize l[j]=y at *
       obtain⟨yk,yn,ys,yv,yl⟩:=y
       obtain⟨ya,yc,rfl,-,-⟩:=fB.at_.form
       obtain⟨⟨d0,d1⟩,d2,d3⟩:=fB.four
       have hbl:kb<wr.heap.size:=World.block_lt_of_cell? wr _ d0
       have kg:=Lib.hid (heap_alloc_new wr (.cells #[.int .u8 yk,.int .i64 yn,.string ys,.slice ya yl.length yc] 40))
       have gy:=Lib.hid (show Grow wr (wr.alloc (.cells #[.int .u8 yk,.int .i64 yn,.string ys,.slice ya yl.length yc] 40))from(Mv.refl _ wr).alloc _)
       have mU:=Lib.hid (jC.out.grow gy.out)
       have Jw:=Lib.hid (ah (gN.out.keep' kH.out um.out (by decide) (by decide)) gy.out)
       have fQ:=Lib.hid (ah (gN.out.keep' kH.out bV.out (by decide) (by decide)) gy.out)
       have HR3:=Lib.hid ((HR2.out.rM kH.out gN.out).later gy.out)
       have EP:=Lib.hid ((Oy.out.rM kH.out gN.out).later gy.out)
       have Cn:=Lib.hid ((Oz.out.rM kH.out gN.out).later gy.out)
       clear fB
       have OB:=Lib.hid (λx hx=>NR.out x (gtr mU.out.g hx) (EP.out.later hx).1)
       simp only[ae.t,Tree.name]at OB HE
       go_upto_region 6 with fail
       generalize (wr.alloc (.cells #[.int .u8 yk,.int .i64 yn,.string ys,.slice ya yl.length yc] 40))=w3 at *
       have gH:=Lib.hid (λ(y:World) (hy:Grow w3 y)=>And.intro (ah Jw.out hy) (And.intro (ah fQ.out hy) (ah kg.out hy)))
       clear d0 d1 d2 d3
       refine kK 11 72 [some 39,some 40,some 41,some 42,some 43,some 44,some 45,some 46,some 47,some 48,some 49] [[],[],[],[1,2],[],[4],[],[],[],[],[6,7,8,9]] [] [.c (.func (.func f) #[] #[.pointer (some ⟨R,0,none⟩),.pointer (some ⟨J,0,none⟩)]),.c (.slice qa path.length qc),.c (.int .i64 j),.p (λv y=>∃ a c,v = .slice a (path.length+1) c/\jJ wb 1 aU 3 y (.slice a (path.length+1) c) (path ++ [(j:Int)])),.c (.pointer (some ⟨wr.heap.size,2,none⟩)),.c (.string ys),.c (.agg #[.slice va vars.length vc,.slice pa procs.length pc,.int .u8 mk,.int .i64 mn,.string ms,.slice ma ml.length mc]),.c (.agg #[.int .u8 k,.int .i64 n,.string s,.slice (some ⟨kb,ko,none⟩) l.length kc]),.c (.int .i64 j),.c (.slice ia aF.length ic),.c (.int .i64 (nL P s l.length ys j aF))] ⟨⟨(λv x y hg h=>by obtain⟨a,c,hv,hr⟩:=h;exact⟨a,c,hv,hr.later hg⟩),λ_=>bg⟩,trivial⟩ (dm rfl) ?steps ?done
       case steps =>
        refine⟨?s0,?s1,?s2,?s3,?s4,?s5,?s6,?s7,?s8,?s9,?s10,trivial⟩
        case s0 =>
         refine oo (λvs x hP => ?_)
         simp only[zS]
         go_simp
         exact gc
        case s1 =>
         refine oo (λvs x hP => ?_)
         simp only[zS]
         go_simp
         exact gc
        case s2 =>
         refine oo (λvs x hP => ?_)
         simp only[zS]
         go_simp
         exact gc
        case s3 =>
         refine ok gH (λvs x hG HX hP => ?_)
         have HC:=Lib.hid (LC (.slice qa path.length qc) path j x (Cn.out.later hG).1 (by omega))
         simp only[zS]
         go_simp
         refine(HC.out).mono ?_
         rintro e y ⟨v',rfl,⟨hr,ho⟩,hg⟩
         exact⟨_,rfl,EM hg (by have hf:=(Cn.out.later hG).Jr hg hr ho;obtain⟨a,c,h,_⟩:=hr.form;simp only[List.length_append,List.length_cons,List.length_nil,Nat.zero_add]at h;subst h;exact⟨a,c,rfl,hf⟩)⟩
        case s4 =>
         refine oo (λvs x hP => ?_)
         simp only[zS]
         go_simp
         exact gc
        case s5 =>
         refine ok gH (λvs x hG HX hP => ?_)
         obtain⟨⟨n0,n1⟩,n2,n3⟩:=az HX.out.2.2
         simp only[zS]
         go_simp
         exact gc
        case s6 =>
         refine ok gH (λvs x hG HX hP => ?_)
         obtain⟨⟨x0,x1,x2⟩,x3,x4,x5⟩:=bI HX.out.1
         simp only[zS]
         go_simp
         exact gc
        case s7 =>
         refine ok gH (λvs x hG HX hP => ?_)
         obtain⟨⟨n0,n1⟩,n2,n3⟩:=az HX.out.2.1
         simp only[zS]
         go_simp
         exact gc
        case s8 =>
         refine oo (λvs x hP => ?_)
         simp only[zS]
         go_simp
         exact gc
        case s9 =>
         refine oo (λvs x hP => ?_)
         simp only[zS]
         go_simp
         exact gc
        case s10 =>
         refine ok gH (λvs x hG HX hP => ?_)
         have HC:=Lib.hid (OB.out x hG)
         simp only[zS]
         go_simp
         refine(HC.out).mono ?_
         rintro e y ⟨rfl,hg⟩
         exact⟨_,rfl,gq hg rfl⟩
       case done =>
       intro vs wx hE
       have hG:=hE.grow
       have p3:=hE.val 3
       obtain⟨a3,c3,h3,r3⟩:=p3
       have xH:=Lib.hid hG
       have nV:=Lib.hid (mU.out.grow hG)
       have HR4:=Lib.hid (HR3.out.later hG)
       have iy:=Lib.hid r3
       clear hE hG r3
       simp only[zS,Nat.reduceAdd,h3,List.drop_succ_cons,List.drop_zero]
       have HC:=Lib.hid (Nh wb B R J f (.slice a3 (path.length+1) c3) (path ++ [(j:Int)]) ys (nL P s l.length ys j aF) c' wx HR4.out nV.out iy.out.1 (by simp;omega) (by omega))
       go_wp2_with fail
       refine HC.out.mono ?_
       rintro e w5 ⟨rfl,dP,jD⟩
       have pI:=Lib.hid dP
       have pJ:=Lib.hid (show cB wb B w2 w5 from(gN.out.trans ((cB.nH gy.out).trans (cB.nH xH.out))).trans jD)
       clear dP jD HC
       go_wp2_with fail
       go_roundw
       case rel=>exact⟨j+1,_,by go_num,by omega,pI.out,pJ.out,by have:=df.out;have:=HE.out;omega,by have:=df.out;have:=HE.out;omega⟩
       case measure=>simp[intOf];omega
     · obtain rfl:j=l.length:=by omega
       have HF:=Lib.hid (show c'=c+V from by
        have h:=df.out
        rw[List.drop_eq_nil_of_le (by rw[ae.bX];exact Nat.le_refl _)]at h
        simpa[pg]using h)
       go_wp2_with fail
       go_end0
       exact⟨rfl,by rw[← HF.out];exact jC.out,OA.out.trans gN.out⟩
  · have rH:=Lib.hid (show V=kI (gW P k s l.length aF)+lK P k s 0 (ae.ts l) aF from by rw[HV.out,if_neg hk])
    have k50:(k == 50)=false:=by simp;omega
    have k51:(k == 51)=false:=by simp;omega
    have HT:=Lib.hid (show ∃ T:Tree,T = .mk k 0 s []from⟨_,rfl⟩)
    clear HV
    go_wp2_with fail
    go_loopw [55] (λt wr=>∃ (j c':Nat),t = .int .i64 j/\j<=l.length/\jO wb B wr c'/\cB wb B w2 wr/\c'+lK P k s j ((ae.ts l).drop j) aF=c+V/\c'<=c+V) (λt _=>l.length - (intOf t).toNat)
    case atStart=>exact⟨0,_,rfl,Nat.zero_le _,kH.out,Mv.refl _ _,by rw[rH.out];simp only[List.drop_zero];omega,by rw[rH.out];omega⟩
    obtain⟨j,c',rfl,hj,hst',lY,hrest,hcl⟩:=hrel
    have jC:=Lib.hid hst'
    have gN:=Lib.hid lY
    have df:=Lib.hid hrest
    clear hst' lY hrest
    by_cases hlt:j<l.length
    · obtain⟨kb,ko,nQ,dz,-,-⟩:=AL.out.row.2.2.2.1.at (show 0<l.length by omega)
      simp only[Value.slice.injEq,true_and]at dz
      obtain⟨rfl,rfl⟩:=dz
      have fB:=(uW AL.out j hlt).later jC.out.g
      have HE:=Lib.hid (show lK P k s j ((ae.ts l).drop j) aF=jo P l[j].t (kU (.mk k 0 s []) j aF)+lK P k s (j+1) ((ae.ts l).drop (j+1)) aF from by
       rw[drop_at _ j (by rw[ae.bX];exact hlt),lK,ae.jw l j hlt])
      have Az:=Lib.hid (Ej (k:=k) (n:=n) (s:=s) (kv := .slice (some ⟨kb,ko,none⟩) l.length kc) j hlt)
      have _Y:=Lib.hid (UB (.mk k 0 s []) j aF)
      have Zt:=Lib.hid (iM.out j hlt)
      generalize l[j]=y at *
      obtain⟨yk,yn,ys,yv,yl⟩:=y
      obtain⟨ya,yc,rfl,-,-⟩:=fB.at_.form
      obtain⟨⟨d0,d1⟩,d2,d3⟩:=fB.four
      have hbl:kb<wr.heap.size:=World.block_lt_of_cell? wr _ d0
      have kg:=Lib.hid (heap_alloc_new wr (.cells #[.int .u8 yk,.int .i64 yn,.string ys,.slice ya yl.length yc] 40))
      have gy:=Lib.hid (show Grow wr (wr.alloc (.cells #[.int .u8 yk,.int .i64 yn,.string ys,.slice ya yl.length yc] 40))from(Mv.refl _ wr).alloc _)
      have mU:=Lib.hid (jC.out.grow gy.out)
      have Jw:=Lib.hid (ah (gN.out.keep' kH.out um.out (by decide) (by decide)) gy.out)
      have fQ:=Lib.hid (ah (gN.out.keep' kH.out bV.out (by decide) (by decide)) gy.out)
      have HR3:=Lib.hid ((HR2.out.rM kH.out gN.out).later gy.out)
      have EP:=Lib.hid ((Oy.out.rM kH.out gN.out).later gy.out)
      have Cn:=Lib.hid ((Oz.out.rM kH.out gN.out).later gy.out)
      clear fB
      have lG:=Lib.hid (λ(x:World) (hx:Grow _ x)=>Vn k n s (some ⟨kb,ko,none⟩) l kc j (.slice ia aF.length ic) aF x (EP.out.later hx).1 (by omega))
      go_upto_region 11 with fail
      generalize (wr.alloc (.cells #[.int .u8 yk,.int .i64 yn,.string ys,.slice ya yl.length yc] 40))=w3 at *
      have gH:=Lib.hid (λ(y:World) (hy:Grow w3 y)=>And.intro (ah Jw.out hy) (And.intro (ah fQ.out hy) (ah kg.out hy)))
      clear d0 d1 d2 d3
      refine kK 10 72 [some 60,some 61,some 62,some 63,some 64,some 65,some 66,some 67,some 68,some 69] [[],[],[],[],[2,3],[],[],[],[5,6,7],[]] [] [.c (.agg #[.slice va vars.length vc,.slice pa procs.length pc,.int .u8 mk,.int .i64 mn,.string ms,.slice ma ml.length mc]),.c (.agg #[.int .u8 yk,.int .i64 yn,.string ys,.slice ya yl.length yc]),.c (.slice qa path.length qc),.c (.int .i64 j),.p (λv y=>∃ a c,v = .slice a (path.length+1) c/\jJ wb 1 aU 3 y (.slice a (path.length+1) c) (path ++ [(j:Int)])),.c (.agg #[.int .u8 k,.int .i64 n,.string s,.slice (some ⟨kb,ko,none⟩) l.length kc]),.c (.int .i64 j),.c (.slice ia aF.length ic),.p (λv y=>∃ a c,v = .slice a (kU (.mk k 0 s []) j aF).length c/\jJ wb 3 au.cells 50 y (.slice a (kU (.mk k 0 s []) j aF).length c) (kU (.mk k 0 s []) j aF)),.c (.func (.func f) #[] #[.pointer (some ⟨R,0,none⟩),.pointer (some ⟨J,0,none⟩)])] ⟨⟨(λv x y hg h=>by obtain⟨a,c,hv,hr⟩:=h;exact⟨a,c,hv,hr.later hg⟩),λ_=>bg⟩,⟨(λv x y hg h=>by obtain⟨a,c,hv,hr⟩:=h;exact⟨a,c,hv,hr.later hg⟩),λ_=>bg⟩,trivial⟩ (dm rfl) ?steps ?done
      case steps =>
       refine⟨?s0,?s1,?s2,?s3,?s4,?s5,?s6,?s7,?s8,?s9,trivial⟩
       case s0 =>
        refine ok gH (λvs x hG HX hP => ?_)
        obtain⟨⟨x0,x1,x2⟩,x3,x4,x5⟩:=bI HX.out.1
        simp only[zS]
        go_simp
        exact gc
       case s1 =>
        refine ok gH (λvs x hG HX hP => ?_)
        obtain⟨⟨n0,n1⟩,n2,n3⟩:=az HX.out.2.2
        simp only[zS]
        go_simp
        exact gc
       case s2 =>
        refine oo (λvs x hP => ?_)
        simp only[zS]
        go_simp
        exact gc
       case s3 =>
        refine oo (λvs x hP => ?_)
        simp only[zS]
        go_simp
        exact gc
       case s4 =>
        refine ok gH (λvs x hG HX hP => ?_)
        have HC:=Lib.hid (LC (.slice qa path.length qc) path j x (Cn.out.later hG).1 (by omega))
        simp only[zS]
        go_simp
        refine(HC.out).mono ?_
        rintro e y ⟨v',rfl,⟨hr,ho⟩,hg⟩
        exact⟨_,rfl,EM hg (by have hf:=(Cn.out.later hG).Jr hg hr ho;obtain⟨a,c,h,_⟩:=hr.form;simp only[List.length_append,List.length_cons,List.length_nil,Nat.zero_add]at h;subst h;exact⟨a,c,rfl,hf⟩)⟩
       case s5 =>
        refine ok gH (λvs x hG HX hP => ?_)
        obtain⟨⟨n0,n1⟩,n2,n3⟩:=az HX.out.2.1
        simp only[zS]
        go_simp
        exact gc
       case s6 =>
        refine oo (λvs x hP => ?_)
        simp only[zS]
        go_simp
        exact gc
       case s7 =>
        refine oo (λvs x hP => ?_)
        simp only[zS]
        go_simp
        exact gc
       case s8 =>
        refine ok gH (λvs x hG HX hP => ?_)
        have HC:=Lib.hid (lG.out x hG)
        simp only[zS]
        go_simp
        refine(HC.out).mono ?_
        rintro e y ⟨v',rfl,⟨hr,ho⟩,hg⟩
        exact⟨_,rfl,EM hg (by have hf:=(EP.out.later hG).Jr hg hr ho;obtain⟨a,c,h,_⟩:=hr.form;subst h;exact⟨a,c,rfl,hf⟩)⟩
       case s9 =>
        refine oo (λvs x hP => ?_)
        simp only[zS]
        go_simp
        exact gc
      case done =>
      intro vs wx hE
      have hG:=hE.grow
      have p4:=hE.val 4
      obtain⟨a4,c4,h4,r4⟩:=p4
      have p8:=hE.val 8
      obtain⟨a8,c8,h8,r8⟩:=p8
      have xH:=Lib.hid hG
      have nV:=Lib.hid (mU.out.grow hG)
      have HR4:=Lib.hid (HR3.out.later hG)
      have iy:=Lib.hid r4
      have _Z:=Lib.hid r8
      clear hE hG r4 r8
      simp only[zS,Nat.reduceAdd,h4,h8,List.drop_succ_cons,List.drop_zero]
      have HC:=Lib.hid (Zt.out wx c' (path ++ [(j:Int)]) (.slice a4 (path.length+1) c4) (kU (.mk k 0 s []) j aF) (.slice a8 (kU (.mk k 0 s []) j aF).length c8) nV.out HR4.out iy.out _Z.out (by have:=df.out;have:=HE.out;omega) (by have:=Az.out;simp;omega) (by have:=Az.out;have:=_Y.out;omega))
      simp only[ae.val]at HC
      go_wp2_with fail
      refine HC.out.mono ?_
      rintro e w5 ⟨rfl,dP,jD⟩
      have pI:=Lib.hid dP
      have pJ:=Lib.hid (show cB wb B w2 w5 from(gN.out.trans ((cB.nH gy.out).trans (cB.nH xH.out))).trans jD)
      clear dP jD HC
      go_wp2_with fail
      go_roundw
      case rel=>exact⟨j+1,_,by go_num,by omega,pI.out,pJ.out,by have:=df.out;have:=HE.out;omega,by have:=df.out;have:=HE.out;omega⟩
      case measure=>simp[intOf];omega
    · obtain rfl:j=l.length:=by omega
      have HF:=Lib.hid (show c'=c+V from by
       have h:=df.out
       rw[List.drop_eq_nil_of_le (by rw[ae.bX];exact Nat.le_refl _)]at h
       simpa[lK]using h)
      go_wp2_with fail
      go_end0
      exact⟨rfl,by rw[← HF.out];exact jC.out,OA.out.trans gN.out⟩
theorem Hl (e:Int):kI e<=1:=by unfold kI;split <;> omega
theorem LD (P:List bC) (s:ByteArray) (n:Nat):∀ (l:List Tree) (i:Nat) (aF:List au),pg P s n i l aF<=eX l
 | [],_,_=>Nat.zero_le _
 |t :: r,i,aF=>by
  have:=LD P s n r (i+1) aF
  have:=Hl (nL P s n t.name i aF)
  have:=GD t
  rw[pg,eX];omega
mutual
theorem Ec (P:List bC):∀ (t:Tree) (aF:List au),jo P t aF<=bL t
 |.mk k n s l,aF=>by
  have h1:=Hl (gW P k s l.length aF)
  have h2:=LD P s l.length l 0 aF
  have h3:=K4 P k s l 0 aF
  rw[jo,bL]
  split <;> omega
theorem K4 (P:List bC) (k:Int) (s:ByteArray):∀ (l:List Tree) (i:Nat) (aF:List au),lK P k s i l aF<=eX l
 | [],_,_=>Nat.zero_le _
 |t :: r,i,aF=>by
  have h1:=Ec P t (kU (.mk k 0 s []) i aF)
  have h2:=K4 P k s r (i+1) aF
  rw[lK,eX];omega
end
mutual
theorem LF:∀ (t:Tree) (d left:Int),0<=left->(fC t d left).1=true->(bL t:Int)<=left/\(fC t d left).2=left - bL t
 |.mk _ _ _ l,d,left,h,ht=>by
  rw[fC]at ht ⊢
  split at ht
  · cases ht
  · rename_i hn
    have:=K5 l (d - 1) (left - 1) (by omega) ht
    rw[if_neg hn,bL]
    omega
theorem K5:∀ (l:List Tree) (d left:Int),0<=left->(gX l d left).1=true->(eX l:Int)<=left/\(gX l d left).2=left - eX l
 | [],d,left,h,_=>by simp[eX,gX,h]
 |t :: r,d,left,h,ht=>by
  rw[gX]at ht ⊢
  split at ht
  · rename_i hb
    have h1:=LF t d left h hb
    have h2:=K5 r d (fC t d left).2 (by omega) ht
    rw[if_pos hb,eX]
    omega
  · rename_i hb
    simp at ht
end
theorem Bf {t:Tree} (h:iF t=true):bL t<=2000:=by
 simp only[iF,Bool.and_eq_true]at h
 have:=(LF t 80 2000 (by decide) h.1).1
 omega
def gM (pre:List au):List au->Nat
 | []=>0
 |v :: r=>kI (lN pre v.name)+gM (pre ++ [v]) r
theorem Eo:∀ (l pre:List au),gM pre l<=l.length
 | [],_=>Nat.zero_le _
 |v :: r,pre=>by
  have:=Eo r (pre ++ [v])
  have:=Hl (lN pre v.name)
  rw[gM,List.length_cons];omega
def zZ (P:List bC) (i:Nat) (q:bC):Nat:=(if ja P q.name<i then 1 else 0)+(gM [] q.params+jo P q.body q.params)
def kV (P:List bC):Nat->List bC->Nat
 |_,[]=>0
 |i,q :: r=>zZ P i q+kV P (i+1) r
theorem Mw (P:List bC) (i:Nat) (q:bC) (h:q.okB=true):zZ P i q<=2009:=by
 simp only[bC.okB,Bool.and_eq_true,decide_eq_true_eq]at h
 have h1:=Eo q.params []
 have h2:=Ec P q.body q.params
 have h3:=Bf h.2.2.2
 unfold zZ
 split <;> omega
theorem LG (P:List bC):∀ (l:List bC) (i:Nat),l.all bC.okB=true->kV P i l<=2009 * l.length
 | [],_,_=>Nat.zero_le _
 |q :: r,i,h=>by
  simp only[List.all_cons,Bool.and_eq_true]at h
  have h1:=Mw P i q h.1
  have h2:=LG P r (i+1) h.2
  rw[kV,List.length_cons];omega
def jW.faults (p:jW):Nat:=if p.okB then gM [] p.vars+(kV p.procs 0 p.procs+jo p.procs p.main p.vars)else 0
def Yn (w:World) (n:Nat) (e:Ending) (w':World):Prop:=∃ a c,e = .returned (.slice a n c)/\Grow w w'
end Go.Proofs.YtbpodipdfohikaaGreat
