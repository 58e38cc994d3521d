import Derived.Test.YtnobahchcongnaaGreatF27
set_option linter.unusedSimpArgs false
set_option linter.unusedVariables false
set_option maxRecDepth 100000
set_option maxHeartbeats 25600000
namespace Go.Proofs.YtnobahchcongnaaGreat
section
open Go.RowKit Go.Instr
def mQ:List Int->Int
 | []=>0
 |a :: l=>if a≠0 then a else mQ l
theorem IL:∀ (l:List Int) (i:Nat) (hi:i<l.length),(∀ j (hj:j<l.length),j<i->l[j]=0)->l[i]≠0->mQ l=l[i]
 |a :: l,0,_,_,h=>by simp[mQ]at h ⊢;intro e;exact absurd e h
 |a :: l,i+1,hi,hz,h=>by
  have h0:=hz 0 (by simp) (by omega);simp only[List.getElem_cons_zero]at h0;simp only[mQ,h0,List.getElem_cons_succ];rw[if_neg (by simp)];exact IL l i (by simpa using hi) (λj hj hji=>by
   have h2:=hz (j+1) (by simpa using hj) (by omega)
   simpa only[List.getElem_cons_succ]using h2) (by simpa only[List.getElem_cons_succ]using h)
theorem Iw:∀ (l:List Int),(∀ j (hj:j<l.length),l[j]=0)->mQ l=0
 | [],_=>rfl
 |a :: l,h=>by
  have h0:=h 0 (by simp);simp only[List.getElem_cons_zero]at h0;simp only[mQ,h0];rw[if_neg (by simp)];exact Iw l (λj hj=>by
   have h2:=h (j+1) (by simpa using hj)
   simpa only[List.getElem_cons_succ]using h2)
mutual
def jm (f:az) (procs:List aU):Tree->Int
 |.mk k n s l=>if k=56 then 9 else if dm f procs (.mk k n s l)=false then 6 else if k=50\/k=51 then sJ f procs s l else mQ (AR f procs l)
def eT (f:az) (procs:List aU):Tree->Int
 |.mk _ _ _ l=>mQ (AP f procs l)
def AP (f:az) (procs:List aU):List Tree->List Int
 | []=>[]
 |t :: r=>jm f procs t :: AP f procs r
def AR (f:az) (procs:List aU):List Tree->List Int
 | []=>[]
 |t :: r=>(if t.kind=57 then eT f procs t else 0) :: AR f procs r
end
theorem I8 (f:az) (procs:List aU) (l:List Tree):AP f procs l=l.map (jm f procs):=by
 induction l with
 |nil=>rw[AP];rfl
 |cons t l ih=>rw[AP,ih];rfl
theorem EG (f:az) (procs:List aU) (l:List Tree):AR f procs l=l.map λt=>if t.kind=57 then eT f procs t else 0:=by
 induction l with
 |nil=>rw[AR];rfl
 |cons t l ih=>rw[AR,ih];rfl
def Jt (sv pv:Value) (f:az) (procs:List ak) (m:Nat):Prop:=∀ (x:ae),SizeOf.sizeOf x<=m->∀ w:World,fV w sv f->lC w pv procs->aS w x->Calls Tryz.prog 57 #[.agg #[sv,.int .i64 f.cells,.int .i64 f.stacks,pv],x.val] w (F5 w (jm f (procs.map ak.d) x.t))
def I9 (sv pv:Value) (f:az) (procs:List ak) (m:Nat):Prop:=∀ (x:ae),SizeOf.sizeOf x<=m->∀ w:World,fV w sv f->lC w pv procs->aS w x->Calls Tryz.prog 29 #[.agg #[sv,.int .i64 f.cells,.int .i64 f.stacks,pv],x.val] w (F5 w (eT f (procs.map ak.d) x.t))
theorem Wu (sv pv:Value) (f:az) (procs:List ak) (m:Nat) (ih:Jt sv pv f procs m):I9 sv pv f procs (m+1):=by
 intro x hm w hf hp hx;obtain⟨fa,fc,rfl,hfc,hfl⟩:=hf.row.form;obtain⟨pa,pc,rfl,hpc,hpl⟩:=hp.row.form;obtain⟨k,n,s,kv,l⟩:=x;obtain⟨ka,kc,rfl,hkc,hkl⟩:=hx.form;have hsub:∀ (i:Nat) (hi:i<l.length),SizeOf.sizeOf l[i]<=m:=λi hi=>by
  have:=nA (k:=k) (n:=n) (s:=s) (kv := .slice ka l.length kc) (List.getElem_mem hi);omega
 have HF:=ł hf;have HP:=ł hp;have HX:=ł hx;obtain⟨vw,aJ,HG2⟩:=a2 w (.cells #[.slice fa f.slots.length fc,.int .i64 f.cells,.int .i64 f.stacks,.slice pa procs.length pc] 85) (.cells #[.int .u8 k,.int .i64 n,.string s,.slice ka l.length kc] 26);have fT:=ł (λ(i:Nat) (hi:i<l.length) (y:World) (hy:Grow w y)=>ih l[i] (hsub i hi) y (hf.later hy) (hp.later hy) (hx.row.2.2.2.2 _ (List.getElem_mem hi) |>.later hy));have HE:=ł (show eT f (procs.map ak.d) (ae.t (.mk k n s (.slice ka l.length kc) l))=mQ ((ae.ts l).map (jm f (procs.map ak.d)))from by
  show mQ (AP f (procs.map ak.d) (ae.ts l))=_
  rw[I8])
 generalize hR:eT f (procs.map ak.d) (ae.t (.mk k n s (.slice ka l.length kc) l))=R at *;clear hR hf hp hx hsub ih hm;simp only[ae.val]
 go_enter Tryz.func29,Tryz.ntmps29
 go_wp2_with fail;generalize ((w.alloc (.cells #[.slice fa f.slots.length fc,.int .i64 f.cells,.int .i64 f.stacks,.slice pa procs.length pc] 85)).alloc (.cells #[.int .u8 k,.int .i64 n,.string s,.slice ka l.length kc] 26))=w2 at *;have eB:=HG2
 go_loopw [11] (λt wr=>∃ i:Nat,t = .int .i64 i/\i<=l.length/\Grow w2 wr/\∀ j (hj:j<l.length),j<i->jm f (procs.map ak.d) l[j].t=0) (λt _=>l.length - (intOf t).toNat)
 case atStart=>exact⟨0,rfl,Nat.zero_le _,Mv.refl _ _,λj hj h=>by omega⟩
 obtain⟨i,rfl,hi,hg,hz⟩:=hrel;have HG:=ł hg;have HZ:=ł hz;clear hg hz;by_cases hlt:i<l.length
 · have yg:=ł (fT.out i hlt);have HH:=ł (λ(h:jm f (procs.map ak.d) l[i].t≠0)=>show R=jm f (procs.map ak.d) l[i].t from by
    rw[HE.out];have hl:i<((ae.ts l).map (jm f (procs.map ak.d))).length:=by simp[ae.bT];exact hlt
    have e:((ae.ts l).map (jm f (procs.map ak.d)))[i]=jm f (procs.map ak.d) l[i].t:=by rw[List.getElem_map,ae.gm l i hlt]
    rw[IL _ i hl (λj hj hji=>by rw[List.getElem_map,ae.gm l j (by omega)];exact HZ.out j (by omega) hji) (by rw[e];exact h),e])
   have HN:=ł (λ(h:jm f (procs.map ak.d) l[i].t=0)=>show ∀ j (hj:j<l.length),j<i+1->jm f (procs.map ak.d) l[j].t=0 from λj hj hji=>by
    by_cases e:j=i
    · subst e;exact h
    · exact HZ.out j hj (by omega))
   obtain⟨kb,ko,qE,bF,-,-⟩:=HX.out.row.2.2.2.1.at (show 0<l.length by omega);simp only[Value.slice.injEq,true_and]at bF;obtain⟨rfl,rfl⟩:=bF;have dH:=(dO HX.out i hlt).later (gtr eB.out HG.out);generalize l[i]=y at *;obtain⟨yk,yn,ys,yv,yl⟩:=y;obtain⟨ya,yc,rfl,-,-⟩:=dH.at_.form;obtain⟨⟨d0,d1⟩,d2,d3⟩:=dH.four;have hbl:kb<wr.heap.size:=World.block_lt_of_cell? wr _ d0;have hub:=ai vw.out HG.out;obtain⟨⟨u0,u1⟩,u2,u3⟩:=aF hub;have mZ:=lt_of_block hub;simp only[ae.val]at yg;have hgw:=gtr eB.out (HG.out.alloc (.cells #[.int .u8 yk,.int .i64 yn,.string ys,.slice ya yl.length yc] 26));have bE:=ł hgw;clear dH hub hgw;go_wp2_with fail;refine(yg.out _ bE.out).mono ?_;rintro e w4 ⟨rfl,hg⟩;have aN:=ł (gtr HG.out (gtr ((Mv.refl _ wr).alloc _) hg));have Mw:=ł (gtr bE.out hg);clear hg d0 d1 d2 d3 u0 u1 u2 u3 mZ hbl yg;generalize jm f (procs.map ak.d) (ae.t (.mk yk yn ys (.slice ya yl.length yc) yl))=r at *;by_cases hr:r=0
   · have hrr:(r != 0)=false:=by simp[hr]
     have bZ:=ł (HN.out hr);clear hr HN HH;go_wp2_with fail
     go_roundw
     case rel=>exact⟨i+1,by go_num,by omega,aN.out,bZ.out⟩
     case measure=>(simp[intOf] <;> omega)
   · have hrr:(r != 0)=true:=by simp[hr]
     have bZ:=ł (HH.out hr);clear hr HN HH;go_wp2_with fail;go_ret;exact⟨cB bZ.out.symm,Mw.out⟩
 · have bZ:=ł (show R=0 from by
    rw[HE.out];exact Iw _ (λj hj=>by
     have hj':j<l.length:=by simpa[ae.bT]using hj
     rw[List.getElem_map,ae.gm l j hj'];exact HZ.out j hj' (by omega)))
   go_wp2_with fail;go_ret;exact⟨cB bZ.out.symm,gtr eB.out HG.out⟩
theorem Xf (hof:uL) (sv pv:Value) (f:az) (procs:List ak) (m:Nat) (ih:I9 sv pv f procs m):Jt sv pv f procs (m+1):=by
 intro x hm w hf hp hx;obtain⟨fa,fc,rfl,hfc,hfl⟩:=hf.row.form;obtain⟨pa,pc,rfl,hpc,hpl⟩:=hp.row.form;obtain⟨k,n,s,kv,l⟩:=x;obtain⟨ka,kc,rfl,hkc,hkl⟩:=hx.form;have hsub:∀ (i:Nat) (hi:i<l.length),SizeOf.sizeOf l[i]<=m:=λi hi=>by
  have:=nA (k:=k) (n:=n) (s:=s) (kv := .slice ka l.length kc) (List.getElem_mem hi);omega
 have HF:=ł hf;have HP:=ł hp;have HX:=ł hx;obtain⟨vw,aJ,HG2⟩:=a2 w (.cells #[.slice fa f.slots.length fc,.int .i64 f.cells,.int .i64 f.stacks,.slice pa procs.length pc] 85) (.cells #[.int .u8 k,.int .i64 n,.string s,.slice ka l.length kc] 26);have fT:=ł (λ(i:Nat) (hi:i<l.length) (y:World) (hy:Grow w y)=>ih l[i] (hsub i hi) y (hf.later hy) (hp.later hy) (hx.row.2.2.2.2 _ (List.getElem_mem hi) |>.later hy));have D9:=ł (λ(y:World) (hy:Grow w y)=>XV (.slice fa f.slots.length fc) (.slice pa procs.length pc) f procs (.mk k n s (.slice ka l.length kc) l) y (hf.later hy) (hp.later hy) (hx.later hy));have ni:=ł (λ(y:World) (hy:Grow w y)=>Yb hof (.slice fa f.slots.length fc) (.slice pa procs.length pc) f procs k n s (.slice ka l.length kc) l y (hf.later hy) (hp.later hy) (hx.later hy));have HE:=ł (show jm f (procs.map ak.d) (ae.t (.mk k n s (.slice ka l.length kc) l))=if k=56 then 9 else if dm f (procs.map ak.d) (ae.t (.mk k n s (.slice ka l.length kc) l))=false then 6 else if k=50\/k=51 then sJ f (procs.map ak.d) s (ae.ts l)else mQ ((ae.ts l).map λt=>if t.kind=57 then eT f (procs.map ak.d) t else 0)from by
  show jm f (procs.map ak.d) (.mk k n s (ae.ts l))=_
  rw[jm,EG];rfl)
 generalize jm f (procs.map ak.d) (ae.t (.mk k n s (.slice ka l.length kc) l))=R at *;generalize dm f (procs.map ak.d) (ae.t (.mk k n s (.slice ka l.length kc) l))=nb at *;clear hf hp hx hsub ih hm;simp only[ae.val]at D9 ni ⊢;by_cases qP:k=56
 · subst qP;have bZ:=ł (HE.out.trans (if_pos rfl))
   go_enter Tryz.func57,Tryz.ntmps57
   go_wp2_with fail;go_ret;exact⟨cB bZ.out.symm,HG2.out⟩
 · have e56:(k == 56)=false:=by simp[qP]
   have HE2:=ł (HE.out.trans (if_neg qP));clear qP HE
   go_enter Tryz.func57,Tryz.ntmps57
   go_wp2_with fail;generalize ((w.alloc (.cells #[.slice fa f.slots.length fc,.int .i64 f.cells,.int .i64 f.stacks,.slice pa procs.length pc] 85)).alloc (.cells #[.int .u8 k,.int .i64 n,.string s,.slice ka l.length kc] 26))=w2 at *;refine(D9.out _ HG2.out).mono ?_;rintro e w3 ⟨rfl,hg⟩;have aG:=ł (gtr HG2.out hg);have Dz:=ł (ai vw.out hg);have nI:=ł (ai aJ.out hg);clear hg D9 vw aJ e56;cases nb with
   |false =>
    have bZ:=ł (HE2.out.trans (if_pos rfl));go_wp2_with fail;go_ret;exact⟨cB bZ.out.symm,aG.out⟩
   |true =>
    have Ea:=ł (HE2.out.trans (if_neg (by simp)));clear HE2;obtain⟨⟨n0,n1⟩,n2,n3⟩:=aF nI.out;obtain⟨⟨u0,u1⟩,u2,u3⟩:=aF Dz.out;have hl1:=lt_of_block nI.out;have hl2:=lt_of_block Dz.out;by_cases hc:k=50\/k=51
    · have bZ:=ł (Ea.out.trans (if_pos hc));rcases hc with rfl|rfl
      all_goals
       go_wp2_with fail;refine(ni.out _ aG.out).mono ?_;rintro e w4 ⟨rfl,hg⟩;have aN:=ł (gtr aG.out hg);clear hg n0 n1 n2 n3 u0 u1 u2 u3;go_wp2_with fail;go_ret;exact⟨cB bZ.out.symm,aN.out⟩
    · have Ac:=ł (Ea.out.trans (if_neg hc));have e50:(k == 50)=false:=by simp;omega
      have e51:(k == 51)=false:=by simp;omega
      clear hc Ea ni;go_wp2_with fail;clear n0 n1 n2 n3 u0 u1 u2 u3 e50 e51 hl1 hl2;have eB:=aG
      go_loopw [29] (λt wr=>∃ i:Nat,t = .int .i64 i/\i<=l.length/\Grow w3 wr/\∀ j (hj:j<l.length),j<i->(if l[j].t.kind=57 then eT f (procs.map ak.d) l[j].t else 0)=0) (λt _=>l.length - (intOf t).toNat)
      case atStart=>exact⟨0,rfl,Nat.zero_le _,Mv.refl _ _,λj hj h=>by omega⟩
      obtain⟨i,rfl,hi,hg,hz⟩:=hrel;have HG:=ł hg;have HZ:=ł hz;clear hg hz;by_cases hlt:i<l.length
      · have yg:=ł (fT.out i hlt);have HH:=ł (λ(h:(if l[i].t.kind=57 then eT f (procs.map ak.d) l[i].t else 0)≠0)=>show R=(if l[i].t.kind=57 then eT f (procs.map ak.d) l[i].t else 0)from by
         rw[Ac.out];have hl:i<((ae.ts l).map λt=>if t.kind=57 then eT f (procs.map ak.d) t else 0).length:=by simp[ae.bT];exact hlt
         have e:((ae.ts l).map λt=>if t.kind=57 then eT f (procs.map ak.d) t else 0)[i]=(if l[i].t.kind=57 then eT f (procs.map ak.d) l[i].t else 0):=by rw[List.getElem_map,ae.gm l i hlt]
         rw[IL _ i hl (λj hj hji=>by rw[List.getElem_map,ae.gm l j (by omega)];exact HZ.out j (by omega) hji) (by rw[e];exact h),e])
        have HN:=ł (λ(h:(if l[i].t.kind=57 then eT f (procs.map ak.d) l[i].t else 0)=0)=>show ∀ j (hj:j<l.length),j<i+1->(if l[j].t.kind=57 then eT f (procs.map ak.d) l[j].t else 0)=0 from λj hj hji=>by
         by_cases e:j=i
         · subst e;exact h
         · exact HZ.out j hj (by omega))
        obtain⟨kb,ko,qE,bF,-,-⟩:=HX.out.row.2.2.2.1.at (show 0<l.length by omega);simp only[Value.slice.injEq,true_and]at bF;obtain⟨rfl,rfl⟩:=bF;have dH:=(dO HX.out i hlt).later (gtr eB.out HG.out);generalize l[i]=y at *;obtain⟨yk,yn,ys,yv,yl⟩:=y;obtain⟨ya,yc,rfl,-,-⟩:=dH.at_.form;obtain⟨⟨d0,d1⟩,d2,d3⟩:=dH.four;have hbl:kb<wr.heap.size:=World.block_lt_of_cell? wr _ d0;have hub:=ai Dz.out HG.out;obtain⟨⟨u0,u1⟩,u2,u3⟩:=aF hub;have mZ:=lt_of_block hub;simp only[ae.val]at yg;have bE:=ł (gtr eB.out (HG.out.alloc (.cells #[.int .u8 yk,.int .i64 yn,.string ys,.slice ya yl.length yc] 26)));have aK:=ł (HG.out.alloc (.cells #[.int .u8 yk,.int .i64 yn,.string ys,.slice ya yl.length yc] 26));clear dH hub;by_cases h57:yk=57
        · subst h57;have Mx:=ł (λ(h:eT f (procs.map ak.d) (ae.t (.mk 57 yn ys (.slice ya yl.length yc) yl))≠0)=>(HH.out (by show(if(57:Int)=57 then _ else _)≠0;rw[if_pos rfl];exact h)).trans (if_pos rfl));have iD:=ł (λ(h:eT f (procs.map ak.d) (ae.t (.mk 57 yn ys (.slice ya yl.length yc) yl))=0)=>HN.out (by show(if(57:Int)=57 then _ else _)=0;rw[if_pos rfl];exact h));clear HH HN;go_wp2_with fail;refine(yg.out _ bE.out).mono ?_;rintro e w4 ⟨rfl,hg⟩;have aN:=ł (gtr aK.out hg);have Mw:=ł (gtr bE.out hg);clear hg d0 d1 d2 d3 u0 u1 u2 u3 mZ hbl yg;generalize eT f (procs.map ak.d) (ae.t (.mk 57 yn ys (.slice ya yl.length yc) yl))=r at *;by_cases hr:r=0
          · have hrr:(r != 0)=false:=by simp[hr]
            have bZ:=ł (iD.out hr);clear hr iD Mx;go_wp2_with fail
            go_roundw
            case rel=>exact⟨i+1,by go_num,by omega,aN.out,bZ.out⟩
            case measure=>(simp[intOf] <;> omega)
          · have hrr:(r != 0)=true:=by simp[hr]
            have bZ:=ł (Mx.out hr);clear hr iD Mx;go_wp2_with fail;go_ret;exact⟨cB bZ.out.symm,Mw.out⟩
        · have e57:(yk != 57)=true:=by simp[h57]
          have bZ:=ł (HN.out (if_neg h57));clear h57 HN HH yg;go_wp2_with fail
          go_roundw
          case rel=>exact⟨i+1,by go_num,by omega,aK.out,bZ.out⟩
          case measure=>(simp[intOf] <;> omega)
      · have bZ:=ł (show R=0 from by
         rw[Ac.out];exact Iw _ (λj hj=>by
          have hj':j<l.length:=by simpa[ae.bT]using hj
          rw[List.getElem_map,ae.gm l j hj'];exact HZ.out j hj' (by omega)))
        go_wp2_with fail;go_ret;exact⟨cB bZ.out.symm,gtr eB.out HG.out⟩
theorem IM (hof:uL) (sv pv:Value) (f:az) (procs:List ak):∀ m:Nat,Jt sv pv f procs m/\I9 sv pv f procs m
 |0=>⟨λx hm=>by cases x;simp at hm,λx hm=>by cases x;simp at hm⟩
 |m+1=>⟨Xf hof sv pv f procs m (IM hof sv pv f procs m).2,Wu sv pv f procs m (IM hof sv pv f procs m).1⟩
theorem Xg (hof:uL) (sv pv:Value) (f:az) (procs:List ak) (x:ae) (w:World) (hf:fV w sv f) (hp:lC w pv procs) (hx:aS w x):Calls Tryz.prog 29 #[.agg #[sv,.int .i64 f.cells,.int .i64 f.stacks,pv],x.val] w (F5 w (eT f (procs.map ak.d) x.t)) :=
 (IM hof sv pv f procs _).2 x (Nat.le_refl _) w hf hp hx
end
section
open Go.RowKit
def EH (p:Value->World->Prop):Prop:=∀ v x y,p v x->p v y
theorem jh (c:Value):EH (Pc c):=λ_ _ _ h=>h
theorem Ko:EH dC:=λ_ _ _ h=>h
def A9:List Bool->List (Value->World->Prop)->Prop
 |b :: bs,p :: l=>(qd p/\(b=false->EH p))/\A9 bs l
 | [],[]=>True
 |_,_=>False
theorem A9.at:∀ {bs:List Bool} {l:List (Value->World->Prop)},A9 bs l->∀ j,qd (l.getD j dC)/\(bs.getD j false=false->EH (l.getD j dC))
 | [],[],_,_=>⟨xM,λ_=>Ko⟩
 |b :: _,_ :: _,h,0=>⟨h.1.1,λhb=>h.1.2 hb⟩
 |_ :: bs,_ :: l,h,j+1=>A9.at (bs:=bs) (l:=l) h.2 j
def CK (ws:List (List Nat)) (e:Nat) (be:List Nat):Bool:=be.all λi=>decide (i<e) && ((ws.getD e []).contains i || be.any λm=>decide (i<m) && (ws.getD m []).contains i)
theorem Qr {ws:List (List Nat)} {e:Nat} {be:List Nat} {L:Array Bool} (h:CK ws e be=true) (hcl:qh ws L) (he:L.getD e false=true):∀ i∈be,L.getD i false=true:=by
 have key:∀ n i,e - i<=n->i∈be->L.getD i false=true:=by
  intro n
  induction n with
  |zero =>
   intro i hn hi;have:=List.all_eq_true.1 h i hi;simp only[Bool.and_eq_true,decide_eq_true_eq]at this;omega
  |succ n ih =>
   intro i hn hi;have h2:=List.all_eq_true.1 h i hi;simp only[Bool.and_eq_true,decide_eq_true_eq,Bool.or_eq_true,List.any_eq_true,List.contains_iff_mem]at h2;obtain⟨h3,h4|⟨m,hm,h5,h6⟩⟩:=h2
   · exact hcl e he i h4
   · exact hcl m (ih m (by omega) hm) i h6
 exact λi hi=>key _ i (Nat.le_refl _) hi
section
variable {P:Program} {Q:Exit->Act->World->Prop}
structure LI (ws:List (List Nat)) (e:Nat) (kl:List Bool) (Ps:List (Value->World->Prop)) (O:Nat->Prop) (Pl:Value->World->Prop) (w:World) (L:Array Bool) (vs:Nat->Value) (x:World):Prop where
 mv:Mv (λb=>w.heap.size<=b\/(O b/\L.getD e false=true)) w x
 val:∀ j,j≠e->L.getD j false=true->(kl.getD j false=true->L.getD e false=false\/e∈ws.getD j [])->(Ps.getD j dC) (vs j) x
 last:L.getD e false=true->Pl (vs e) x
structure RH (ws:List (List Nat)) (e:Nat) (kl:List Bool) (Ps:List (Value->World->Prop)) (O:Nat->Prop) (Pl:Value->World->Prop) (w:World) (n:Nat) (vs:Nat->Value) (x:World):Prop where
 mv:Mv (λb=>w.heap.size<=b\/O b) w x
 val:∀ j,j<n->j≠e->(kl.getD j false=false\/e∈ws.getD j [])->(Ps.getD j dC) (vs j) x
 last:Pl (vs e) x
def yT (P:Program) (ds:List (Option Tmp)) (ws ns:List (List Nat)) (be:List Nat) (e:Nat) (kl:List Bool) (Ps:List (Value->World->Prop)) (O:Nat->Prop) (Pl:Value->World->Prop) (w:World) (a:Act) (i:Nat) (o:Oper):Prop :=
 if i=e then ∀ (vs:Nat->Value) (x:World),Mv (λb=>w.heap.size<=b) w x->(∀ j∈ws.getD i [],(Ps.getD j dC) (vs j) x)->Gives P o (aR ds vs (ns.getD i []) a) x (λv y=>Mv (λb=>w.heap.size<=b\/O b) x y/\Pl v y)
 else ∀ (vs:Nat->Value) (x:World),(i∈be->Mv (λb=>w.heap.size<=b) w x)->(∀ j∈ws.getD i [],j≠e->(kl.getD j false=true->i∈be\/e∈ws.getD j [])->(Ps.getD j dC) (vs j) x)->(e∈ws.getD i []->Pl (vs e) x)->Gives P o (aR ds vs (ns.getD i []) a) x (GR x (Ps.getD i dC))
theorem Xh {a:Act} {w:World} {l:List Oper} (N:Nat) (ds:List (Option Tmp)) (ws ns:List (List Nat)) (be:List Nat) (e:Nat) (kl:List Bool) (Ps:List (Value->World->Prop)) (O:Nat->Prop) (Pl:Value->World->Prop) (hbe:CK ws e be=true) (hN:a.tmps.size=N) (hok:gB N l.toArray ds ws ns []=true)
 (mD:A9 kl Ps) (Eb:qd Pl) (hself:((ws.getD e []).contains e)=false) (hel:e<l.length)
 (hstep:kP (yT P ds ws ns be e kl Ps O Pl w a) 0 l)
 (hend:∀ (vs:Nat->Value) (x:World),RH ws e kl Ps O Pl w l.length vs x->Q .normal (aR ds vs (List.range l.length) a) x):wpAny P .any l.toArray Q l.toArray.size (Array.replicate l.toArray.size false) a w:=by
 refine Ji N ds ws ns [] hN hok (LI ws e kl Ps O Pl w) ?_ ?_ ?_
 · have hf:∀ j,(Array.replicate l.toArray.size false).getD j false=false:=by
    intro j;by_cases hj:j<l.toArray.size <;> simp[Array.getD,hj]
   exact⟨Mv.refl _ _,λj _ h=>(by rw[hf]at h;cases h),λh=>(by rw[hf]at h;cases h)⟩
 · intro i o ho L vs x hsz kF dR hcl hI;have hil:i<L.size:=by
    have:=(Array.getElem?_eq_some_iff.1 ho).1;omega
   have iy:=xG l 0 hstep i o (by simpa using ho);rw[Nat.zero_add]at iy;have hset:(L.setIfInBounds i true).getD i false=true:=by simp[hil]
   have hne:∀ j,j≠i->(L.setIfInBounds i true).getD j false=L.getD j false:=λj hj=>getD_set_ne false (λe=>hj e.symm);have hup:∀ (v:Value) j,j≠i->upd vs i v j=vs j:=λv j hj=>by simp[upd,hj]
   have rO:∀ (v:Value),upd vs i v i=v:=λv=>by simp[upd]
   unfold yT at iy;by_cases hie:i=e
   · subst hie;rw[if_pos rfl]at iy;have RI:Mv (λb=>w.heap.size<=b) w x:=Mv.mono hI.mv (λb hb => .inl (by rcases hb with hb|⟨_,h⟩ <;> first|exact hb|(rw[kF]at h;cases h)));refine Gives.mono (iy vs x RI (λj hj=>hI.val j (λe=>by
      rw[e]at hj;have h:(ws.getD i []).contains i=true:=by simpa using hj
      rw[hself]at h;cases h) (dR j hj) (λ_ => .inl kF))) (λv y h => ?_)
     obtain⟨hm,hp⟩:=h;refine⟨Mv.trans (O:=λb=>w.heap.size<=b\/(O b/\(L.setIfInBounds i true).getD i false=true)) (Mv.mono RI (λb hb => .inl (.inl hb))) hm (λb hb => .inl (by rcases hb with hb|hb;exact .inl hb;exact .inr ⟨hb,hset⟩)),λj qO hj hkj => ?_,λ_=>by rw[rO];exact hp⟩;rw[hne j qO]at hj;rw[hup v j qO];have pI:kl.getD j false=false:=by
      cases bF:kl.getD j false with
      |false=>rfl
      |true =>
       rcases hkj bF with h3|h3
       · rw[hset]at h3;cases h3
       · have h4:=hcl j hj i h3;rw[kF]at h4;cases h4
     exact(mD.at j).2 pI _ _ _ (hI.val j qO hj (λh=>by rw[pI]at h;cases h))
   · rw[if_neg hie]at iy;have MB:(L.setIfInBounds i true).getD e false=L.getD e false:=hne e (λh=>hie h.symm);refine Gives.mono (iy vs x (λhw=>Mv.mono hI.mv (λb hb => .inl (by
      rcases hb with hb|⟨_,h⟩
      · exact hb
      · have:=Qr hbe hcl h i hw;rw[kF]at this;cases this))) (λj hj qO hkj=>hI.val j qO (dR j hj) (λhk=>by
        rcases hkj hk with h3|h3
        · cases _2:L.getD e false with
          |false=>exact .inl rfl
          |true=>have:=Qr hbe hcl _2 i h3;rw[kF]at this;cases this
        · exact .inr h3)) (λhw=>hI.last (dR e hw))) (λv y h => ?_)
     obtain⟨hg,hp⟩:=h;refine⟨Mv.mono (hI.mv.trans hg (λ_ e=>e.elim)) (λb hb => .inl (by rw[MB];exact hb)),λj qO hj hkj => ?_,λhl => ?_⟩
     · by_cases ej:j=i
       · subst ej;rw[rO];exact hp
       · rw[hne j ej]at hj;rw[hup v j ej];exact(mD.at j).1 _ _ _ hg (hI.val j qO hj (λhk=>by have:=hkj hk;rwa[MB]at this))
     · rw[MB]at hl;rw[hup v e (λh=>hie h.symm)];exact Eb _ _ _ hg (hI.last hl)
 · intro L vs x hall hI;have nT:∀ j,j<l.length->L.getD j false=true:=λj hj=>hall j (by simpa using hj);exact hend vs x ⟨Mv.mono hI.mv (λb hb => .inl (by rcases hb with hb|⟨hb,_⟩;exact .inl hb;exact .inr hb)),λj hj qO pI=>hI.val j qO (nT j hj) (λh=>by
    rcases pI with h3|h3
    · rw[h3]at h;cases h
    · exact .inr h3),hI.last (nT e hel)⟩
theorem Nv {id:Nat} {a:Act} {w:World} {l:List Oper} (hm:P.follows .mixedOrders=true) (N:Nat) (ds:List (Option Tmp)) (ws ns:List (List Nat)) (be:List Nat) (e:Nat) (kl:List Bool) (Ps:List (Value->World->Prop)) (O:Nat->Prop) (Pl:Value->World->Prop) (hbe:CK ws e be=true) (hN:a.tmps.size=N) (hok:gB N l.toArray ds ws ns []=true)
 (mD:A9 kl Ps) (Eb:qd Pl) (hself:((ws.getD e []).contains e)=false) (hel:e<l.length)
 (hstep:kP (yT P ds ws ns be e kl Ps O Pl w.drew a) 0 l)
 (hend:∀ (vs:Nat->Value) (x:World),RH ws e kl Ps O Pl w.drew l.length vs x->Q .normal (aR ds vs (List.range l.length) a) x):(Code.region id l.toArray true).wp P Q a w :=
 wp_region_any hm (Xh N ds ws ns be e kl Ps O Pl hbe hN hok mD Eb hself hel hstep hend)
theorem gT {ds:List (Option Tmp)} {ws ns:List (List Nat)} {be:List Nat} {e:Nat} {kl:List Bool} {Ps:List (Value->World->Prop)} {O:Nat->Prop} {Pl:Value->World->Prop} {w:World} {a:Act} {i:Nat} {o:Oper} (hi:i≠e) (h:∀ (vs:Nat->Value) (x:World),(i∈be->Mv (λb=>w.heap.size<=b) w x)->(∀ j∈ws.getD i [],j≠e->(kl.getD j false=true->i∈be\/e∈ws.getD j [])->(Ps.getD j dC) (vs j) x)->(e∈ws.getD i []->Pl (vs e) x)->Gives P o (aR ds vs (ns.getD i []) a) x (GR x (Ps.getD i dC))):yT P ds ws ns be e kl Ps O Pl w a i o:=by
 unfold yT;rw[if_neg hi];exact h
theorem Qt {ds:List (Option Tmp)} {ws ns:List (List Nat)} {be:List Nat} {e:Nat} {kl:List Bool} {Ps:List (Value->World->Prop)} {O:Nat->Prop} {Pl:Value->World->Prop} {w:World} {a:Act} {i:Nat} {o:Oper} (hi:i=e) (h:∀ (vs:Nat->Value) (x:World),Mv (λb=>w.heap.size<=b) w x->(∀ j∈ws.getD i [],(Ps.getD j dC) (vs j) x)->Gives P o (aR ds vs (ns.getD i []) a) x (λv y=>Mv (λb=>w.heap.size<=b\/O b) x y/\Pl v y)):yT P ds ws ns be e kl Ps O Pl w a i o:=by
 unfold yT;rw[if_pos hi];exact h
end
end
end Go.Proofs.YtnobahchcongnaaGreat
