import Derived.Test.YtbpodipdfohikaaGreatK10
set_option linter.unusedSimpArgs false
set_option linter.unusedVariables false
set_option maxRecDepth 100000
set_option maxHeartbeats 25600000
namespace Go.Proofs.YtbpodipdfohikaaGreat
open Go.RowKit
def au.decl (v:au):Bool:=jV v.name && v.okB
theorem Tk (l:List au) (k:Nat) (h:k<l.length):(l.take (k+1)).all au.decl=((l.take k).all au.decl && l[k].decl):=by
 rw[List.take_succ_eq_append_getElem h,List.all_append];simp
theorem Uw (l:List au) (k:Nat) (h:k<l.length) (hf:l[k].decl=false):l.all au.decl=false:=by
 apply Bool.eq_false_iff.2
 intro ha
 have:=List.all_eq_true.1 ha l[k] (List.getElem_mem h)
 rw[hf]at this;cases this
set_option maxRecDepth 100000 in
set_option maxHeartbeats 6400000 in
theorem KD (v:Value) (l:List au) (w:World) (h:ay 3 au.cells w v l) (hs:∀ x∈l,x.name.size<=9223372036854775807):Calls Tryz.prog 28 #[v] w (eP w (l.all au.decl)):=by
 obtain⟨va,vc,rfl,oF,hvl⟩:=h.form
 have HR:=Lib.hid h
 have HS:=Lib.hid hs
 clear h hs
 go_enter Tryz.func28,Tryz.ntmps28
 go_wp2_with fail
 go_loopw [7] (λt wr=>∃ k:Nat,t = .int .i64 k/\k<=l.length/\Grow w wr/\(l.take k).all au.decl=true) (λt _=>l.length - (intOf t).toNat)
 case atStart=>exact⟨0,rfl,Nat.zero_le _,Mv.refl _ _,rfl⟩
 obtain⟨k,rfl,hk,hg,hall⟩:=hrel
 have HG:=Lib.hid hg
 have HA:=Lib.hid hall
 clear hall hg
 by_cases hlt:k<l.length
 · obtain⟨b,off,cap',e,_,hcc⟩:=(HR.out.later HG.out).at hlt
   simp only[Value.slice.injEq,true_and]at e
   obtain⟨rfl,rfl⟩:=e
   have c0:=hcc 0 _ rfl
   have c1:=hcc 1 _ rfl
   have c2:=hcc 2 _ rfl
   have HT:=Lib.hid (λ(h:l[k].decl=true)=>show(l.take (k+1)).all au.decl=true from by rw[Tk l k hlt,HA.out,h];rfl)
   have HF:=Lib.hid (λ(h:l[k].decl=false)=>show l.all au.decl=false from Uw l k hlt h)
   have bJ:=Lib.hid (show l[k].decl=(jV l[k].name && kZ l[k].kind l[k].len)from rfl)
   have HS2:=Lib.hid (HS.out _ (List.getElem_mem hlt))
   generalize l[k]=x at *
   obtain⟨xs,xk,xn⟩:=x
   simp only[Nat.add_zero]at c0 c1 c2 bJ HS2
   have hbl:b<wr.heap.size:=World.block_lt_of_cell? wr _ c0
   clear hcc
   have HN:=Lib.hid (GN xs (wr.alloc (.cells #[.string xs,.int .u8 xk,.int .i64 xn] 50)) HS2.out)
   have bE:=Lib.hid (show Grow w (wr.alloc (.cells #[.string xs,.int .u8 xk,.int .i64 xn] 50))from HG.out.alloc _)
   have xZ:=Lib.hid (heap_alloc_new wr (.cells #[.string xs,.int .u8 xk,.int .i64 xn] 50))
   have hnl:wr.heap.size<(wr.alloc (.cells #[.string xs,.int .u8 xk,.int .i64 xn] 50)).heap.size:=by simp
   go_wp2_with fail
   generalize (wr.alloc (.cells #[.string xs,.int .u8 xk,.int .i64 xn] 50))=w1 at *
   refine HN.out.mono ?_
   rintro e w2 ⟨rfl,hm⟩
   have hX:=ah xZ.out hm
   have x0:w2.cell? ⟨wr.heap.size,0,none⟩=some (.string xs):=by simp[World.cell?,hX]
   have x1:w2.cell? ⟨wr.heap.size,1,none⟩=some (.int .u8 xk):=by simp[World.cell?,hX]
   have x2:w2.cell? ⟨wr.heap.size,2,none⟩=some (.int .i64 xn):=by simp[World.cell?,hX]
   have hxl:=lt_of_block hX
   have HG2:=Lib.hid (show Grow w w2 from gtr bE.out hm)
   clear hm hX c0 c1 c2
   cases hnb:jV xs with
   |false =>
    have HX:=Lib.hid (HF.out (by rw[bJ.out,hnb];rfl))
    clear HT HF
    go_wp2_with fail
    go_ret
    exact⟨aV HX.out.symm,HG2.out⟩
   |true =>
    have nR:=Lib.hid (show au.decl ⟨xs,xk,xn⟩=kZ xk xn from by rw[bJ.out,hnb];rfl)
    have hcs:xk=1\/xk=3\/xk=2\/(xk≠1/\xk≠3/\xk≠2):=by omega
    rcases hcs with rfl|rfl|rfl|⟨n1,n3,n2⟩
    iterate 2
     · by_cases hn:xn=0
       · subst hn
         have HX:=Lib.hid (HT.out (by rw[nR.out];rfl))
         clear HT HF bJ nR
         go_wp2_with fail
         go_roundw
         case rel=>exact⟨k+1,by go_num,by omega,HG2.out,HX.out⟩
         case measure=>(simp[intOf] <;> omega)
       · have HX:=Lib.hid (HF.out (by rw[nR.out];simp[kZ,hn]))
         have hb:(xn != 0)=true:=by simpa using hn
         clear HT HF hn bJ nR
         go_wp2_with fail
         go_ret
         exact⟨aV HX.out.symm,HG2.out⟩
    · by_cases h1:1<=xn
      · by_cases h16:xn<=16
        · have HX:=Lib.hid (HT.out (by rw[nR.out];simp[kZ,h1,h16]))
          have hd1:decide (xn<1)=false:=by simp;omega
          have hd2:decide (16<xn)=false:=by simp;omega
          clear HT HF bJ nR
          go_wp2_with fail
          go_roundw
          case rel=>exact⟨k+1,by go_num,by omega,HG2.out,HX.out⟩
          case measure=>(simp[intOf] <;> omega)
        · have HX:=Lib.hid (HF.out (by rw[nR.out];simp[kZ];omega))
          have hd1:decide (xn<1)=false:=by simp;omega
          have hd2:decide (16<xn)=true:=by simp;omega
          clear HT HF bJ nR
          go_wp2_with fail
          go_ret
          exact⟨aV HX.out.symm,HG2.out⟩
      · have HX:=Lib.hid (HF.out (by rw[nR.out];simp[kZ];omega))
        have hd1:decide (xn<1)=true:=by simp;omega
        clear HT HF bJ nR
        go_wp2_with fail
        go_ret
        exact⟨aV HX.out.symm,HG2.out⟩
    · have HX:=Lib.hid (HF.out (by rw[nR.out];simp[kZ,n1,n2,n3]))
      have e1:(xk == 1)=false:=by simpa using n1
      have e2:(xk == 2)=false:=by simpa using n2
      have e3:(xk == 3)=false:=by simpa using n3
      clear HT HF n1 n2 n3 bJ nR
      go_wp2_with fail
      go_ret
      exact⟨aV HX.out.symm,HG2.out⟩
 · have HX:=Lib.hid (show l.all au.decl=true from by rw[← HA.out,show k=l.length from by omega,List.take_length])
   go_wp2_with fail
   go_ret
   exact⟨aV HX.out.symm,HG.out⟩
mutual
def fC:Tree->Int->Int->Bool × Int
 |.mk _ _ _ l,d,left=>if d=0\/left=0 then(false,left)else gX l (d - 1) (left - 1)
def gX:List Tree->Int->Int->Bool × Int
 | [],_,left=>(true,left)
 |t :: r,d,left=>if(fC t d left).1 then gX r d (fC t d left).2 else(false,(fC t d left).2)
end
mutual
theorem Nb:∀ (t:Tree) (d left:Int),0<=left->0<=(fC t d left).2/\(fC t d left).2<=left
 |.mk _ _ _ l,d,left,h=>by
  rw[fC]
  split
  · exact⟨h,Int.le_refl _⟩
  · have:=Mr l (d - 1) (left - 1) (by omega)
    omega
theorem Mr:∀ (l:List Tree) (d left:Int),0<=left->0<=(gX l d left).2/\(gX l d left).2<=left
 | [],d,left,h=>⟨h,Int.le_refl _⟩
 |t :: r,d,left,h=>by
  have h1:=Nb t d left h
  have h2:=Mr r d (fC t d left).2 h1.1
  rw[gX]
  split
  · omega
  · exact h1
end
theorem bM {wb w w':World} {O:Nat->Prop} (h:Grow wb w) (hm:Mv O w w') (hO:∀ b,O b->wb.heap.size<=b):Grow wb w':=h.trans hm (λb hb => .inr (hO b hb))
def Nc (L:Nat) (r:Bool × Int) (w:World) (e:Ending) (w':World):Prop:=e = .returned (.bool r.1)/\Mv (λb=>b=L) w w'/\w'.heap[L]? = some (.cells #[.int .i64 r.2] 3 (0,0))
theorem drop_at {α:Type} (l:List α) (j:Nat) (h:j<l.length):l.drop j=l[j] :: l.drop (j+1):=List.drop_eq_getElem_cons h
set_option maxRecDepth 100000 in
set_option maxHeartbeats 6400000 in
theorem TS:∀ (m:Nat) (x:ae),SizeOf.sizeOf x<=m->∀ (wb w:World) (L:Nat) (d left:Int),bD wb x->Grow wb w->wb.heap.size<=L->w.heap[L]? = some (.cells #[.int .i64 left] 3 (0,0))->(0<=d/\d<=1000)->(0<=left/\left<=100000) ->
 Calls Tryz.prog 48 #[x.val,.int .i64 d,.pointer (some ⟨L,0,none⟩)] w (Nc L (fC x.t d left) w):=by
 intro m
 induction m with
 |zero=>intro x hm;cases x;simp at hm
 |succ m ih =>
  intro x hm wb w L d left hx hg hL hl hd hlf
  obtain⟨k,n,s,kv,l⟩:=x
  obtain⟨ka,kc,rfl,hkc,hkl⟩:=hx.form
  have iM:=Lib.hid (λ(i:Nat) (hi:i<l.length) (z:World) (lf:Int) (hz:Grow wb z) (h1:z.heap[L]? = some (.cells #[.int .i64 lf] 3 (0,0))) (h2:0<=d - 1) (h3:0<=lf/\lf<=100000)=>ih l[i] (by
   have:=rX (k:=k) (n:=n) (s:=s) (kv := .slice ka l.length kc) (List.getElem_mem hi)
   omega) wb z L (d - 1) lf (hx.row.2.2.2.2 _ (List.getElem_mem hi)) hz hL h1 (by omega) h3)
  have tY:=Lib.hid hx
  have l0:w.cell? ⟨L,0,none⟩=some (.int .i64 left):=by simp[World.cell?,hl]
  have lf:=bB hl 0
  have hll:=lt_of_block hl
  have HL:=Lib.hid hl
  have gu:=Lib.hid hg
  have Qx:wb.heap.size<=L:=hL
  have rD:=Lib.hid (heap_alloc_new w (.cells #[.int .u8 k,.int .i64 n,.string s,.slice ka l.length kc] 40))
  have bE:=Lib.hid (show Grow wb (w.alloc (.cells #[.int .u8 k,.int .i64 n,.string s,.slice ka l.length kc] 40))from hg.alloc _)
  have HR:=Lib.hid (show fC (ae.t (.mk k n s (.slice ka l.length kc) l)) d left=if d=0\/left=0 then(false,left)else gX (ae.ts l) (d - 1) (left - 1)from by rw[ae.t,fC])
  clear hx hg hl ih hL
  simp only[ae.val]
  generalize fC (ae.t (.mk k n s (.slice ka l.length kc) l)) d left=R at *
  by_cases h0:d=0\/left=0
  · have HR2:=Lib.hid (show R=(false,left)from by rw[HR.out,if_pos h0])
    have hL2:=ah HL.out ((Mv.refl (λ_=>False) w).alloc (.cells #[.int .u8 k,.int .i64 n,.string s,.slice ka l.length kc] 40))
    have HL2:=Lib.hid hL2
    clear hL2
    rcases h0 with rfl|rfl
    · go_enter Tryz.func48,Tryz.ntmps48
      go_wp2_with fail
      go_ret
      exact⟨aV (by rw[HR2.out]),(Mv.refl _ _).alloc _,by rw[HR2.out];exact HL2.out⟩
    · by_cases hd0:d=0
      · subst hd0
        go_enter Tryz.func48,Tryz.ntmps48
        go_wp2_with fail
        go_ret
        exact⟨aV (by rw[HR2.out]),(Mv.refl _ _).alloc _,by rw[HR2.out];exact HL2.out⟩
      · have e0:(d == 0)=false:=by simpa using hd0
        go_enter Tryz.func48,Tryz.ntmps48
        go_wp2_with fail
        go_ret
        exact⟨aV (by rw[HR2.out]),(Mv.refl _ _).alloc _,by rw[HR2.out];exact HL2.out⟩
  · have e0:(d == 0)=false:=by simp;omega
    have e1:(left == 0)=false:=by simp;omega
    have HR2:=Lib.hid (show R=gX (ae.ts l) (d - 1) (left - 1)from by rw[HR.out,if_neg h0])
    have hd1:1<=d:=by omega
    have hl1:1<=left:=by omega
    clear h0
    go_enter Tryz.func48,Tryz.ntmps48
    go_wp2_with fail
    have hb1:=block_setCell (p:=⟨L,0,none⟩) HL.out rfl (.int .i64 (left - 1))
    have HB2:=Lib.hid (show((w.setCell ⟨L,0,none⟩ (.int .i64 (left - 1))).alloc (.cells #[.int .u8 k,.int .i64 n,.string s,.slice ka l.length kc] 40)).heap[L]? = some (.cells #[.int .i64 (left - 1)] 3 (0,0))from bS (by simpa using hb1) _)
    have bV:=Lib.hid (show((w.setCell ⟨L,0,none⟩ (.int .i64 (left - 1))).alloc (.cells #[.int .u8 k,.int .i64 n,.string s,.slice ka l.length kc] 40)).heap[w.heap.size]? = some (.cells #[.int .u8 k,.int .i64 n,.string s,.slice ka l.length kc] 40 (0,0))from by
     have:=heap_alloc_new (w.setCell ⟨L,0,none⟩ (.int .i64 (left - 1))) (.cells #[.int .u8 k,.int .i64 n,.string s,.slice ka l.length kc] 40)
     simpa using this)
    have Jh:=Lib.hid (show Mv (λb=>b=L) w ((w.setCell ⟨L,0,none⟩ (.int .i64 (left - 1))).alloc (.cells #[.int .u8 k,.int .i64 n,.string s,.slice ka l.length kc] 40))from((Mv.refl (λb=>b=L) w).setCell (p:=⟨L,0,none⟩) (.inl rfl) _).alloc _)
    generalize ((w.setCell ⟨L,0,none⟩ (.int .i64 (left - 1))).alloc (.cells #[.int .u8 k,.int .i64 n,.string s,.slice ka l.length kc] 40))=w2 at *
    have HG2:=Lib.hid (bM gu.out Jh.out (λb e=>by subst e;exact Qx))
    clear l0 lf hll hb1
    go_loopw [25] (λt wr=>∃ (j:Nat) (lf:Int),t = .int .i64 j/\j<=l.length/\wr.heap[L]? = some (.cells #[.int .i64 lf] 3 (0,0))/\(0<=lf/\lf<=100000)/\gX ((ae.ts l).drop j) (d - 1) lf=R/\Mv (λb=>b=L) w2 wr) (λt _=>l.length - (intOf t).toNat)
    case atStart=>exact⟨0,left - 1,rfl,Nat.zero_le _,HB2.out,by omega,by rw[HR2.out];rfl,Mv.refl _ _⟩
    obtain⟨j,lf,rfl,hj,hlb,Oj,hrest,hmv⟩:=hrel
    have vT:=Lib.hid hlb
    have df:=Lib.hid hrest
    have kr:=Lib.hid hmv
    have oH:=Lib.hid (bM HG2.out hmv (λb e=>by subst e;exact Qx))
    clear hlb hrest hmv
    by_cases hlt:j<l.length
    · obtain⟨kb,ko,nQ,dz,-,-⟩:=tY.out.row.2.2.2.1.at (show 0<l.length by omega)
      simp only[Value.slice.injEq,true_and]at dz
      obtain⟨rfl,rfl⟩:=dz
      have fB:=(uW tY.out j hlt).later oH.out
      have HE:=Lib.hid (show gX ((ae.ts l).drop j) (d - 1) lf=if(fC l[j].t (d - 1) lf).1 then gX ((ae.ts l).drop (j+1)) (d - 1) (fC l[j].t (d - 1) lf).2 else(false,(fC l[j].t (d - 1) lf).2)from by
       rw[drop_at _ j (by rw[ae.bX];exact hlt),gX,ae.jw l j hlt])
      have hbd:=Nb l[j].t (d - 1) lf Oj.1
      have HC:=Lib.hid (λz hz h1=>iM.out j hlt z lf hz h1 (by omega) Oj)
      generalize hRj:fC l[j].t (d - 1) lf=Rj at *
      generalize l[j]=y at *
      obtain⟨yk,yn,ys,yv,yl⟩:=y
      obtain⟨ya,yc,rfl,-,-⟩:=fB.at_.form
      obtain⟨⟨d0,d1⟩,d2,d3⟩:=fB.four
      simp only[ae.val]at HC
      have hbl:kb<wr.heap.size:=World.block_lt_of_cell? wr _ d0
      have ik:=Lib.hid (HC.out (wr.alloc (.cells #[.int .u8 yk,.int .i64 yn,.string ys,.slice ya yl.length yc] 40)) (oH.out.alloc _) (bS vT.out _))
      clear fB HC hRj
      go_wp2_with fail
      refine ik.out.mono ?_
      rintro e w4 ⟨rfl,kJ,hl4⟩
      have Qy:=Lib.hid (show Mv (λb=>b=L) w2 w4 from(kr.out.alloc _).trans kJ (λb e => .inl e))
      have CS:=Lib.hid hl4
      clear kJ hl4 d0 d1 d2 d3
      obtain⟨rb,rl⟩:=Rj
      have Zj:0<=rl/\rl<=lf:=hbd
      cases rb with
      |false =>
       have HF:=Lib.hid (show R=(false,rl)from by rw[← df.out,HE.out];rfl)
       go_wp2_with fail
       go_ret
       exact⟨aV (by rw[HF.out]),Jh.out.trans Qy.out (λb e => .inl e),by rw[HF.out];exact CS.out⟩
      |true =>
       have HF:=Lib.hid (show gX ((ae.ts l).drop (j+1)) (d - 1) rl=R from by rw[← df.out,HE.out];rfl)
       go_wp2_with fail
       go_roundw
       case rel=>exact⟨j+1,rl,by go_num,by omega,CS.out,by omega,HF.out,Qy.out⟩
       case measure=>simp[intOf];omega
    · obtain rfl:j=l.length:=by omega
      have HF:=Lib.hid (show R=(true,lf)from by
       rw[← df.out,List.drop_eq_nil_of_le (by rw[ae.bX];exact Nat.le_refl _)];rfl)
      go_wp2_with fail
      go_ret
      exact⟨aV (by rw[HF.out]),Jh.out.trans kr.out (λb e => .inl e),by rw[HF.out];exact vT.out⟩
theorem TT (x:ae) (wb w:World) (L:Nat) (d left:Int) (hx:bD wb x) (hg:Grow wb w) (hL:wb.heap.size<=L) (hl:w.heap[L]? = some (.cells #[.int .i64 left] 3 (0,0))) (hd:0<=d/\d<=1000) (hlf:0<=left/\left<=100000):Calls Tryz.prog 48 #[x.val,.int .i64 d,.pointer (some ⟨L,0,none⟩)] w (Nc L (fC x.t d left) w):=TS _ x (Nat.le_refl _) wb w L d left hx hg hL hl hd hlf
def iF (t:Tree):Bool:=(fC t 80 2000).1 && dM t
set_option maxRecDepth 100000 in
set_option maxHeartbeats 1600000 in
theorem KV (x:ae) (w:World) (hx:bD w x):Calls Tryz.prog 30 #[x.val] w (eP w (iF x.t)):=by
 obtain⟨k,n,s,kv,l⟩:=x
 obtain⟨ka,kc,rfl,hkc,hkl⟩:=hx.form
 have tY:=Lib.hid hx
 have HR:=Lib.hid (show iF (ae.t (.mk k n s (.slice ka l.length kc) l))=((fC (ae.t (.mk k n s (.slice ka l.length kc) l)) 80 2000).1 && dM (ae.t (.mk k n s (.slice ka l.length kc) l)))from rfl)
 have HB:=Lib.hid (show ∀ z,Grow w z->Calls Tryz.prog 49 #[.agg #[.int .u8 k,.int .i64 n,.string s,.slice ka l.length kc]] z (eP z (dM (ae.t (.mk k n s (.slice ka l.length kc) l))))from λz hz=>TR _ z (hx.later hz))
 have bf:=Lib.hid (show((w.alloc (.cells #[.int .u8 k,.int .i64 n,.string s,.slice ka l.length kc] 40)).alloc (.cells #[.int .i64 2000] 3)).heap[w.heap.size]? = some (.cells #[.int .u8 k,.int .i64 n,.string s,.slice ka l.length kc] 40 (0,0))from bS (heap_alloc_new w _) _)
 have Ji:=Lib.hid (show((w.alloc (.cells #[.int .u8 k,.int .i64 n,.string s,.slice ka l.length kc] 40)).alloc (.cells #[.int .i64 2000] 3)).heap[w.heap.size+1]? = some (.cells #[.int .i64 2000] 3 (0,0))from by
  have:=heap_alloc_new (w.alloc (.cells #[.int .u8 k,.int .i64 n,.string s,.slice ka l.length kc] 40)) (.cells #[.int .i64 2000] 3)
  simpa using this)
 have aj:=Lib.hid (show Grow w ((w.alloc (.cells #[.int .u8 k,.int .i64 n,.string s,.slice ka l.length kc] 40)).alloc (.cells #[.int .i64 2000] 3))from((Mv.refl _ w).alloc _).alloc _)
 have HC:=Lib.hid (TT (.mk k n s (.slice ka l.length kc) l) w ((w.alloc (.cells #[.int .u8 k,.int .i64 n,.string s,.slice ka l.length kc] 40)).alloc (.cells #[.int .i64 2000] 3)) (w.heap.size+1) 80 2000 hx aj.out (by omega) Ji.out (by decide) (by decide))
 simp only[ae.val]at HC ⊢
 clear hx
 go_enter Tryz.func30,Tryz.ntmps30
 go_wp2_with fail
 generalize ((w.alloc (.cells #[.int .u8 k,.int .i64 n,.string s,.slice ka l.length kc] 40)).alloc (.cells #[.int .i64 2000] 3))=w1 at *
 refine HC.out.mono ?_
 rintro e w2 ⟨rfl,hm,-⟩
 have HG2:=Lib.hid (bM aj.out hm (λb e=>by subst e;omega))
 obtain⟨⟨n0,n1⟩,n2,n3⟩:=az (show w2.heap[w.heap.size]? = some (.cells #[.int .u8 k,.int .i64 n,.string s,.slice ka l.length kc] 40 (0,0))from by rw[hm.block _ (lt_of_block bf.out) (by omega)];exact bf.out)
 have hln:w.heap.size<w2.heap.size:=by have:=lt_of_block bf.out;have:=hm.size;omega
 clear hm
 cases hb:(fC (ae.t (.mk k n s (.slice ka l.length kc) l)) 80 2000).1 with
 |false =>
  have HF:=Lib.hid (show iF (ae.t (.mk k n s (.slice ka l.length kc) l))=false from by rw[HR.out,hb];rfl)
  clear hb
  go_wp2_with fail
  go_ret
  exact⟨aV HF.out.symm,HG2.out⟩
 |true =>
  have HF:=Lib.hid (show iF (ae.t (.mk k n s (.slice ka l.length kc) l))=dM (ae.t (.mk k n s (.slice ka l.length kc) l))from by rw[HR.out,hb];rfl)
  have pX:=Lib.hid (HB.out w2 HG2.out)
  clear hb
  go_wp2_with fail
  refine pX.out.mono ?_
  rintro e w3 ⟨rfl,hg3⟩
  have aA:=Lib.hid (gtr HG2.out hg3)
  clear hg3 n0 n1 n2 n3
  go_wp2_with fail
  go_ret
  exact⟨aV HF.out.symm,aA.out⟩
structure jW where
 vars:List au
 procs:List bC
 main:Tree
structure aB where
 vars:List au
 vv:Value
 procs:List aN
 pv:Value
 main:ae
def aB.d (p:aB):jW:=⟨p.vars,p.procs.map aN.d,p.main.t⟩
def aB.cells (p:aB):List Value:=p.vv :: p.pv :: p.main.cells
def aB.val:aB->Value
 |⟨_,vv,_,pv,.mk k n s kv _⟩ => .agg #[vv,pv,.int .u8 k,.int .i64 n,.string s,kv]
structure jm (w:World) (p:aB):Prop where
 vars:ay 3 au.cells w p.vv p.vars
 NB:∀ x∈p.vars,x.name.size<=9223372036854775807
 procs:uT w p.pv p.procs
 NC:∀ q∈p.procs,∀ x∈q.params,x.name.size<=9223372036854775807
 main:bD w p.main
theorem jm.later {w w':World} {p:aB} (h:jm w p) (hm:Grow w w'):jm w' p:=⟨h.vars.later hm,h.NB,h.procs.later hm,h.NC,h.main.later hm⟩
def bC.okB (p:bC):Bool:=jV p.name && (decide (p.params.length<=8) && (p.params.all au.decl && iF p.body))
def jW.okB (p:jW):Bool:=(decide (p.vars.length<=32) && (decide (p.procs.length<=64) && p.vars.all au.decl)) && (p.procs.all bC.okB && iF p.main)
theorem Vk (l:List bC) (k:Nat) (h:k<l.length):(l.take (k+1)).all bC.okB=((l.take k).all bC.okB && l[k].okB):=by
 rw[List.take_succ_eq_append_getElem h,List.all_append];simp
theorem Ux (l:List bC) (k:Nat) (h:k<l.length) (hf:l[k].okB=false):l.all bC.okB=false:=by
 apply Bool.eq_false_iff.2
 intro ha
 have:=List.all_eq_true.1 ha l[k] (List.getElem_mem h)
 rw[hf]at this;cases this
theorem uT.cells {w:World} {v:Value} {l:List aN} (h:uT w v l) {i:Nat} (hi:i<l.length) {len cap b off:Nat} (hv:v = .slice (some ⟨b,off,none⟩) len cap):∀ (j:Nat) (u:Value),(aN.cells l[i])[j]? = some u->w.cell? ⟨b,off+i * 6+j,none⟩=some u:=by
 subst hv;exact h.row.at' hi
theorem jm.form {w:World} {vars:List au} {vv:Value} {procs:List aN} {pv:Value} {m:ae} (h:jm w ⟨vars,vv,procs,pv,m⟩):(∃ a c,vv = .slice a vars.length c)/\(∃ a c,pv = .slice a procs.length c)/\bD w m:=by
 obtain⟨a,c,h1,-,-⟩:=h.vars.form
 obtain⟨a',c',h2,-,-⟩:=h.procs.row.form
 exact⟨⟨a,c,h1⟩,⟨a',c',h2⟩,h.main⟩
theorem Lx (vars:List au) (vv:Value) (procs:List aN) (pv:Value) (m:ae):jW.okB (aB.d ⟨vars,vv,procs,pv,m⟩)=((decide (vars.length<=32) && (decide (procs.length<=64) && vars.all au.decl)) && ((procs.map aN.d).all bC.okB && iF m.t)):=by
 rw[aB.d,jW.okB]
 simp only[List.length_map]
set_option maxRecDepth 100000 in
set_option maxHeartbeats 6400000 in
theorem Bj (p:aB) (w:World) (hp:jm w p):Calls Tryz.prog 19 #[p.val] w (eP w p.d.okB):=by
 obtain⟨vars,vv,procs,pv,⟨k,n,s,kv,l⟩⟩:=p
 obtain⟨⟨va,vc,rfl⟩,⟨pa,pc,rfl⟩,hm⟩:=hp.form
 obtain⟨ka,kc,rfl,-,-⟩:=hm.form
 clear hm
 have HP:=Lib.hid hp
 clear hp
 have HR:=Lib.hid (show jW.okB (aB.d ⟨vars,.slice va vars.length vc,procs,.slice pa procs.length pc,.mk k n s (.slice ka l.length kc) l⟩)=((decide (vars.length<=32) && (decide (procs.length<=64) && vars.all au.decl)) && ((procs.map aN.d).all bC.okB && iF (ae.t (.mk k n s (.slice ka l.length kc) l))))from by
  exact Lx _ _ _ _ _)
 generalize jW.okB (aB.d ⟨vars,.slice va vars.length vc,procs,.slice pa procs.length pc,.mk k n s (.slice ka l.length kc) l⟩)=R at *
 simp only[aB.val]
 have aj:=Lib.hid (show Grow w (w.alloc (.cells #[.slice va vars.length vc,.slice pa procs.length pc,.int .u8 k,.int .i64 n,.string s,.slice ka l.length kc] 42))from(Mv.refl _ w).alloc _)
 have lC:=Lib.hid (heap_alloc_new w (.cells #[.slice va vars.length vc,.slice pa procs.length pc,.int .u8 k,.int .i64 n,.string s,.slice ka l.length kc] 42))
 by_cases hv32:vars.length<=32
 · by_cases Iw:procs.length<=64
   · have d1:decide (32<(vars.length:Int))=false:=by simp;omega
     have d2:decide (64<(procs.length:Int))=false:=by simp;omega
     have HD:=Lib.hid (KD _ vars (w.alloc (.cells #[.slice va vars.length vc,.slice pa procs.length pc,.int .u8 k,.int .i64 n,.string s,.slice ka l.length kc] 42)) (HP.out.vars.later aj.out) HP.out.NB)
     have Ay:=Lib.hid (λz (hz:Grow w z)=>KV (.mk k n s (.slice ka l.length kc) l) z (HP.out.main.later hz))
     simp only[ae.val]at Ay
     go_enter Tryz.func19,Tryz.ntmps19
     go_wp2_with fail
     generalize (w.alloc (.cells #[.slice va vars.length vc,.slice pa procs.length pc,.int .u8 k,.int .i64 n,.string s,.slice ka l.length kc] 42))=w1 at *
     refine HD.out.mono ?_
     rintro e w2 ⟨rfl,hg2⟩
     have HG2:=Lib.hid (gtr aj.out hg2)
     obtain⟨⟨x0,x1,x2⟩,x3,x4,x5⟩:=bI (ah lC.out hg2)
     have fo:=Lib.hid (ah lC.out hg2)
     have hxl:=lt_of_block fo.out
     clear hg2
     cases hva:vars.all au.decl with
     |false =>
      have HF:=Lib.hid (show R=false from by rw[HR.out,hva];simp)
      clear hva
      go_wp2_with fail
      go_ret
      exact⟨aV HF.out.symm,HG2.out⟩
     |true =>
      have HR2:=Lib.hid (show R=((procs.map aN.d).all bC.okB && iF (ae.t (.mk k n s (.slice ka l.length kc) l)))from by rw[HR.out,hva];simp[hv32,Iw])
      clear hva
      go_wp2_with fail
      go_loopw [24] (λt wr=>∃ j:Nat,t = .int .i64 j/\j<=procs.length/\Grow w2 wr/\((procs.map aN.d).take j).all bC.okB=true) (λt _=>procs.length - (intOf t).toNat)
      case atStart=>exact⟨0,rfl,Nat.zero_le _,Mv.refl _ _,rfl⟩
      obtain⟨j,rfl,hj,hg,hall⟩:=hrel
      have HG:=Lib.hid (gtr HG2.out hg)
      have bQ:=Lib.hid hg
      have HA:=Lib.hid hall
      clear hall hg
      by_cases hlt:j<procs.length
      · obtain⟨pb,po,jd,hpv,-,hcc⟩:=(HP.out.procs.later HG.out).row.at hlt
        simp only[Value.slice.injEq,true_and]at hpv
        obtain⟨rfl,rfl⟩:=hpv
        have jE:j<(procs.map aN.d).length:=by simpa using hlt
        have HT:=Lib.hid (λ(h:(procs[j].d).okB=true)=>show((procs.map aN.d).take (j+1)).all bC.okB=true from by rw[Vk _ j jE,HA.out,List.getElem_map,h];rfl)
        have HF:=Lib.hid (λ(h:(procs[j].d).okB=false)=>show R=false from by rw[HR2.out,Ux _ j jE (by rw[List.getElem_map];exact h)];rfl)
        have fP:=Lib.hid ((HP.out.procs.later HG.out).each _ (List.getElem_mem hlt))
        have _A:=Lib.hid (HP.out.NC _ (List.getElem_mem hlt))
        generalize procs[j]=q at *
        obtain⟨qs,aT,qv,⟨bk,bn,bs,bv,bl⟩⟩:=q
        obtain⟨qa,qc,rfl,-,-⟩:=fP.out.form
        obtain⟨ba,bc,rfl,-,-⟩:=fP.out.body.form
        have HQ:=Lib.hid (show bC.okB (aN.d ⟨qs,aT,.slice qa aT.length qc,.mk bk bn bs (.slice ba bl.length bc) bl⟩)=(jV qs && (decide (aT.length<=8) && (aT.all au.decl && iF (ae.t (.mk bk bn bs (.slice ba bl.length bc) bl)))))from rfl)
        generalize bC.okB (aN.d ⟨qs,aT,.slice qa aT.length qc,.mk bk bn bs (.slice ba bl.length bc) bl⟩)=RQ at *
        have c0:=hcc 0 _ rfl
        have c1:=hcc 1 _ rfl
        have c2:=hcc 2 _ rfl
        have c3:=hcc 3 _ rfl
        have c4:=hcc 4 _ rfl
        have c5:=hcc 5 _ rfl
        simp only[Nat.add_zero]at c0
        have hbl:pb<wr.heap.size:=World.block_lt_of_cell? wr _ c0
        clear hcc
        have bE:=Lib.hid (show Grow w (wr.alloc (.cells #[.string qs,.slice qa aT.length qc,.int .u8 bk,.int .i64 bn,.string bs,.slice ba bl.length bc] 48))from HG.out.alloc _)
        have oH:=Lib.hid (show Grow w2 (wr.alloc (.cells #[.string qs,.slice qa aT.length qc,.int .u8 bk,.int .i64 bn,.string bs,.slice ba bl.length bc] 48))from bQ.out.alloc _)
        have xZ:=Lib.hid (heap_alloc_new wr (.cells #[.string qs,.slice qa aT.length qc,.int .u8 bk,.int .i64 bn,.string bs,.slice ba bl.length bc] 48))
        have yg:=Lib.hid (λz (hz:Grow wr z)=>fP.out.later hz)
        have pY:=Lib.hid (GN qs (wr.alloc (.cells #[.string qs,.slice qa aT.length qc,.int .u8 bk,.int .i64 bn,.string bs,.slice ba bl.length bc] 48)) fP.out.name)
        have jM:=Lib.hid (show Grow wr (wr.alloc (.cells #[.string qs,.slice qa aT.length qc,.int .u8 bk,.int .i64 bn,.string bs,.slice ba bl.length bc] 48))from(Mv.refl _ wr).alloc _)
        go_wp2_with fail
        generalize (wr.alloc (.cells #[.string qs,.slice qa aT.length qc,.int .u8 bk,.int .i64 bn,.string bs,.slice ba bl.length bc] 48))=w3 at *
        refine pY.out.mono ?_
        rintro e w4 ⟨rfl,hg4⟩
        have bA:=Lib.hid (gtr bE.out hg4)
        have Zk:=Lib.hid (gtr oH.out hg4)
        have Ol:=Lib.hid (gtr jM.out hg4)
        obtain⟨⟨y0,y1,y2⟩,y3,y4,y5⟩:=bI (ah xZ.out hg4)
        have yh:=Lib.hid (ah xZ.out hg4)
        have hyl:=lt_of_block yh.out
        clear hg4 c0 c1 c2 c3 c4 c5
        cases hnb:jV qs with
        |false =>
         have HX:=Lib.hid (HF.out (by rw[HQ.out,hnb];rfl))
         clear hnb
         go_wp2_with fail
         go_ret
         exact⟨aV HX.out.symm,bA.out⟩
        |true =>
         by_cases hq8:aT.length<=8
         · have d3:decide (8<(aT.length:Int))=false:=by simp;omega
           have Fb:=Lib.hid (show RQ=(aT.all au.decl && iF (ae.t (.mk bk bn bs (.slice ba bl.length bc) bl)))from by rw[HQ.out,hnb];simp[hq8])
           have _B:=Lib.hid (KD _ aT w4 ((yg.out _ Ol.out).params) _A.out)
           clear hnb
           go_wp2_with fail
           refine _B.out.mono ?_
           rintro e w5 ⟨rfl,hg5⟩
           have bG:=Lib.hid (gtr bA.out hg5)
           have Zl:=Lib.hid (gtr Zk.out hg5)
           obtain⟨⟨y0,y1,y2⟩,y3,y4,y5⟩:=bI (ah yh.out hg5)
           have rF:=Lib.hid (KV _ w5 ((yg.out _ (gtr Ol.out hg5)).body))
           have hyl:=lt_of_block (ah yh.out hg5)
           simp only[ae.val]at rF
           clear hg5
           cases Fe:aT.all au.decl with
           |false =>
            have HX:=Lib.hid (HF.out (by rw[Fb.out,Fe];rfl))
            clear Fe
            go_wp2_with fail
            go_ret
            exact⟨aV HX.out.symm,bG.out⟩
           |true =>
            have Qz:=Lib.hid (show RQ=iF (ae.t (.mk bk bn bs (.slice ba bl.length bc) bl))from by rw[Fb.out,Fe];rfl)
            clear Fe
            go_wp2_with fail
            refine rF.out.mono ?_
            rintro e w6 ⟨rfl,mo⟩
            have uf:=Lib.hid (gtr bG.out mo)
            have Zm:=Lib.hid (gtr Zl.out mo)
            clear mo y0 y1 y2 y3 y4 y5
            cases hib:iF (ae.t (.mk bk bn bs (.slice ba bl.length bc) bl))with
            |false =>
             have HX:=Lib.hid (HF.out (by rw[Qz.out,hib]))
             clear hib
             go_wp2_with fail
             go_ret
             exact⟨aV HX.out.symm,uf.out⟩
            |true =>
             have HX:=Lib.hid (HT.out (by rw[Qz.out,hib]))
             clear hib
             go_wp2_with fail
             go_roundw
             case rel=>exact⟨j+1,by go_num,by omega,Zm.out,HX.out⟩
             case measure=>simp[intOf];omega
         · have d3:decide (8<(aT.length:Int))=true:=by simp;omega
           have HX:=Lib.hid (HF.out (by rw[HQ.out];simp[hq8]))
           clear hnb
           go_wp2_with fail
           go_ret
           exact⟨aV HX.out.symm,bA.out⟩
      · obtain rfl:j=procs.length:=by omega
        have ug:=Lib.hid (show R=iF (ae.t (.mk k n s (.slice ka l.length kc) l))from by
         have h:=HA.out
         rw[List.take_of_length_le (by simp)]at h
         rw[HR2.out,h];rfl)
        obtain⟨⟨x0,x1,x2⟩,x3,x4,x5⟩:=bI (ah fo.out bQ.out)
        have hxl:=lt_of_block (ah fo.out bQ.out)
        have pX:=Lib.hid (Ay.out wr HG.out)
        go_wp2_with fail
        refine pX.out.mono ?_
        rintro e w3 ⟨rfl,hg3⟩
        have aA:=Lib.hid (gtr HG.out hg3)
        clear hg3 x0 x1 x2 x3 x4 x5
        go_wp2_with fail
        go_ret
        exact⟨aV ug.out.symm,aA.out⟩
   · have d1:decide (32<(vars.length:Int))=false:=by simp;omega
     have d2:decide (64<(procs.length:Int))=true:=by simp;omega
     have HF:=Lib.hid (show R=false from by rw[HR.out];simp[Iw])
     go_enter Tryz.func19,Tryz.ntmps19
     go_wp2_with fail
     go_ret
     exact⟨aV HF.out.symm,aj.out⟩
 · have d1:decide (32<(vars.length:Int))=true:=by simp;omega
   have HF:=Lib.hid (show R=false from by rw[HR.out];simp[hv32])
   go_enter Tryz.func19,Tryz.ntmps19
   go_wp2_with fail
   go_ret
   exact⟨aV HF.out.symm,aj.out⟩
end Go.Proofs.YtbpodipdfohikaaGreat
