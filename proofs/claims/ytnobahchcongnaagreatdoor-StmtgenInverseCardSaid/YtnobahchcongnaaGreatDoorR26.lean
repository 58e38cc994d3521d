import Derived.Test.YtnobahchcongnaaGreatDoorR25
set_option linter.unusedSimpArgs false
set_option linter.unusedVariables false
set_option maxRecDepth 100000
set_option maxHeartbeats 25600000
namespace Go.Proofs.YtnobahchcongnaaGreatDoor
section
open Go.RowKit Go.Instr
def nT:List Int->Int
 | []=>0
 |a :: l=>if a≠0 then a else nT l
theorem Kg:∀ (l:List Int) (i:Nat) (hi:i<l.length),(∀ j (hj:j<l.length),j<i->l[j]=0)->l[i]≠0->nT l=l[i]
 |a :: l,0,_,_,h=>by simp[nT]at h ⊢;intro e;exact absurd e h
 |a :: l,i+1,hi,hz,h=>by
  have h0:=hz 0 (by simp) (by omega);simp only[List.getElem_cons_zero]at h0;simp only[nT,h0,List.getElem_cons_succ];rw[if_neg (by simp)];exact Kg l i (by simpa using hi) (λj hj hji=>by
   have h2:=hz (j+1) (by simpa using hj) (by omega)
   simpa only[List.getElem_cons_succ]using h2) (by simpa only[List.getElem_cons_succ]using h)
theorem Dh:∀ (l:List Int),(∀ j (hj:j<l.length),l[j]=0)->nT l=0
 | [],_=>rfl
 |a :: l,h=>by
  have h0:=h 0 (by simp);simp only[List.getElem_cons_zero]at h0;simp only[nT,h0];rw[if_neg (by simp)];exact Dh l (λj hj=>by
   have h2:=h (j+1) (by simpa using hj)
   simpa only[List.getElem_cons_succ]using h2)
mutual
def iM (f:ax) (procs:List bQ):Tree->Int
 |.mk k n s l=>if k=56 then 9 else if dz f procs (.mk k n s l)=false then 6 else if k=50\/k=51 then wX f procs s l else nT (Cj f procs l)
def fw (f:ax) (procs:List bQ):Tree->Int
 |.mk _ _ _ l=>nT (Ce f procs l)
def Ce (f:ax) (procs:List bQ):List Tree->List Int
 | []=>[]
 |t :: r=>iM f procs t :: Ce f procs r
def Cj (f:ax) (procs:List bQ):List Tree->List Int
 | []=>[]
 |t :: r=>(if t.kind=57 then fw f procs t else 0) :: Cj f procs r
end
theorem Kl (f:ax) (procs:List bQ) (l:List Tree):Ce f procs l=l.map (iM f procs):=by
 induction l with
 |nil=>rw[Ce];rfl
 |cons t l ih=>rw[Ce,ih];rfl
theorem GJ (f:ax) (procs:List bQ) (l:List Tree):Cj f procs l=l.map λt=>if t.kind=57 then fw f procs t else 0:=by
 induction l with
 |nil=>rw[Cj];rfl
 |cons t l ih=>rw[Cj,ih];rfl
def KL (sv pv:Value) (f:ax) (procs:List ak) (m:Nat):Prop:=∀ (x:ae),SizeOf.sizeOf x<=m->∀ w:World,fE w sv f->mg w pv procs->aR w x->Calls Tryz.prog 45 #[.agg #[sv,.int .i64 f.cells,.int .i64 f.stacks,pv],x.val] w (IX w (iM f (procs.map ak.d) x.t))
def Km (sv pv:Value) (f:ax) (procs:List ak) (m:Nat):Prop:=∀ (x:ae),SizeOf.sizeOf x<=m->∀ w:World,fE w sv f->mg w pv procs->aR w x->Calls Tryz.prog 21 #[.agg #[sv,.int .i64 f.cells,.int .i64 f.stacks,pv],x.val] w (IX w (fw f (procs.map ak.d) x.t))
theorem XT (sv pv:Value) (f:ax) (procs:List ak) (m:Nat) (ih:KL sv pv f procs m):Km sv pv f procs (m+1):=by
 intro x hm w hf hp hx;obtain⟨fa,fc,rfl,hfc,hfl⟩:=hf.row.form;obtain⟨pa,pc,rfl,hpc,hpl⟩:=hp.row.form;obtain⟨k,n,s,kv,l⟩:=x;obtain⟨ka,kc,rfl,hkc,hkl⟩:=hx.form;have hsub:∀ (i:Nat) (hi:i<l.length),SizeOf.sizeOf l[i]<=m:=λi hi=>by
  have:=ng (k:=k) (n:=n) (s:=s) (kv := .slice ka l.length kc) (List.getElem_mem hi);omega
 have HF:=ł hf;have HP:=ł hp;have HX:=ł hx;obtain⟨wu,aF,HG2⟩:=a2 w (.cells #[.slice fa f.slots.length fc,.int .i64 f.cells,.int .i64 f.stacks,.slice pa procs.length pc] 62) (.cells #[.int .u8 k,.int .i64 n,.string s,.slice ka l.length kc] 24);have iB:=ł (λ(i:Nat) (hi:i<l.length) (y:World) (hy:Grow w y)=>ih l[i] (hsub i hi) y (hf.later hy) (hp.later hy) (hx.row.2.2.2.2 _ (List.getElem_mem hi) |>.later hy));have HE:=ł (show fw f (procs.map ak.d) (ae.t (.mk k n s (.slice ka l.length kc) l))=nT ((ae.ts l).map (iM f (procs.map ak.d)))from by
  show nT (Ce f (procs.map ak.d) (ae.ts l))=_
  rw[Kl])
 generalize hR:fw f (procs.map ak.d) (ae.t (.mk k n s (.slice ka l.length kc) l))=R at *;clear hR hf hp hx hsub ih hm;simp only[ae.val]
 go_enter Tryz.func21,Tryz.ntmps21
 go_wp2_with fail;generalize ((w.alloc (.cells #[.slice fa f.slots.length fc,.int .i64 f.cells,.int .i64 f.stacks,.slice pa procs.length pc] 62)).alloc (.cells #[.int .u8 k,.int .i64 n,.string s,.slice ka l.length kc] 24))=w2 at *;have dR:=HG2
 go_loopw [11] (λt wr=>∃ i:Nat,t = .int .i64 i/\i<=l.length/\Grow w2 wr/\∀ j (hj:j<l.length),j<i->iM f (procs.map ak.d) l[j].t=0) (λt _=>l.length - (intOf t).toNat)
 case atStart=>exact⟨0,rfl,Nat.zero_le _,Mv.refl _ _,λj hj h=>by omega⟩
 obtain⟨i,rfl,hi,hg,hz⟩:=hrel;have HG:=ł hg;have HZ:=ł hz;clear hg hz;by_cases hlt:i<l.length
 · have zg:=ł (iB.out i hlt);have HH:=ł (λ(h:iM f (procs.map ak.d) l[i].t≠0)=>show R=iM f (procs.map ak.d) l[i].t from by
    rw[HE.out];have hl:i<((ae.ts l).map (iM f (procs.map ak.d))).length:=by simp[ae.cz];exact hlt
    have e:((ae.ts l).map (iM f (procs.map ak.d)))[i]=iM f (procs.map ak.d) l[i].t:=by rw[List.getElem_map,ae.gW l i hlt]
    rw[Kg _ i hl (λj hj hji=>by rw[List.getElem_map,ae.gW l j (by omega)];exact HZ.out j (by omega) hji) (by rw[e];exact h),e])
   have HN:=ł (λ(h:iM f (procs.map ak.d) l[i].t=0)=>show ∀ j (hj:j<l.length),j<i+1->iM f (procs.map ak.d) l[j].t=0 from λj hj hji=>by
    by_cases e:j=i
    · subst e;exact h
    · exact HZ.out j hj (by omega))
   obtain⟨kb,ko,y9,bU,-,-⟩:=HX.out.row.2.2.2.1.at (show 0<l.length by omega);simp only[Value.slice.injEq,true_and]at bU;obtain⟨rfl,rfl⟩:=bU;have fT:=(fe HX.out i hlt).later (gtr dR.out HG.out);generalize l[i]=y at *;obtain⟨yk,yn,ys,yv,yl⟩:=y;obtain⟨ya,yc,rfl,-,-⟩:=fT.at_.form;obtain⟨⟨d0,d1⟩,d2,d3⟩:=fT.four;have hbl:kb<wr.heap.size:=World.block_lt_of_cell? wr _ d0;have hub:=ai wu.out HG.out;obtain⟨⟨u0,u1⟩,u2,u3⟩:=aC hub;have mX:=lt_of_block hub;simp only[ae.val]at zg;have hgw:=gtr dR.out (HG.out.alloc (.cells #[.int .u8 yk,.int .i64 yn,.string ys,.slice ya yl.length yc] 24));have bf:=ł hgw;clear fT hub hgw;go_wp2_with fail;refine(zg.out _ bf.out).mono ?_;rintro e w4 ⟨rfl,hg⟩;have aP:=ł (gtr HG.out (gtr ((Mv.refl _ wr).alloc _) hg));have Od:=ł (gtr bf.out hg);clear hg d0 d1 d2 d3 u0 u1 u2 u3 mX hbl zg;generalize iM f (procs.map ak.d) (ae.t (.mk yk yn ys (.slice ya yl.length yc) yl))=r at *;by_cases hr:r=0
   · have hrr:(r != 0)=false:=by simp[hr]
     have kS:=ł (HN.out hr);clear hr HN HH;go_wp2_with fail
     go_roundw
     case rel=>exact⟨i+1,by go_num,by omega,aP.out,kS.out⟩
     case measure=>(simp[intOf] <;> omega)
   · have hrr:(r != 0)=true:=by simp[hr]
     have kS:=ł (HH.out hr);clear hr HN HH;go_wp2_with fail;go_ret;exact⟨iF kS.out.symm,Od.out⟩
 · have kS:=ł (show R=0 from by
    rw[HE.out];exact Dh _ (λj hj=>by
     have hj':j<l.length:=by simpa[ae.cz]using hj
     rw[List.getElem_map,ae.gW l j hj'];exact HZ.out j hj' (by omega)))
   go_wp2_with fail;go_ret;exact⟨iF kS.out.symm,gtr dR.out HG.out⟩
theorem YF (hof:vO) (sv pv:Value) (f:ax) (procs:List ak) (m:Nat) (ih:Km sv pv f procs m):KL sv pv f procs (m+1):=by
 intro x hm w hf hp hx;obtain⟨fa,fc,rfl,hfc,hfl⟩:=hf.row.form;obtain⟨pa,pc,rfl,hpc,hpl⟩:=hp.row.form;obtain⟨k,n,s,kv,l⟩:=x;obtain⟨ka,kc,rfl,hkc,hkl⟩:=hx.form;have hsub:∀ (i:Nat) (hi:i<l.length),SizeOf.sizeOf l[i]<=m:=λi hi=>by
  have:=ng (k:=k) (n:=n) (s:=s) (kv := .slice ka l.length kc) (List.getElem_mem hi);omega
 have HF:=ł hf;have HP:=ł hp;have HX:=ł hx;obtain⟨wu,aF,HG2⟩:=a2 w (.cells #[.slice fa f.slots.length fc,.int .i64 f.cells,.int .i64 f.stacks,.slice pa procs.length pc] 62) (.cells #[.int .u8 k,.int .i64 n,.string s,.slice ka l.length kc] 24);have iB:=ł (λ(i:Nat) (hi:i<l.length) (y:World) (hy:Grow w y)=>ih l[i] (hsub i hi) y (hf.later hy) (hp.later hy) (hx.row.2.2.2.2 _ (List.getElem_mem hi) |>.later hy));have E9:=ł (λ(y:World) (hy:Grow w y)=>Zl (.slice fa f.slots.length fc) (.slice pa procs.length pc) f procs (.mk k n s (.slice ka l.length kc) l) y (hf.later hy) (hp.later hy) (hx.later hy));have ik:=ł (λ(y:World) (hy:Grow w y)=>Zx hof (.slice fa f.slots.length fc) (.slice pa procs.length pc) f procs k n s (.slice ka l.length kc) l y (hf.later hy) (hp.later hy) (hx.later hy));have HE:=ł (show iM f (procs.map ak.d) (ae.t (.mk k n s (.slice ka l.length kc) l))=if k=56 then 9 else if dz f (procs.map ak.d) (ae.t (.mk k n s (.slice ka l.length kc) l))=false then 6 else if k=50\/k=51 then wX f (procs.map ak.d) s (ae.ts l)else nT ((ae.ts l).map λt=>if t.kind=57 then fw f (procs.map ak.d) t else 0)from by
  show iM f (procs.map ak.d) (.mk k n s (ae.ts l))=_
  rw[iM,GJ];rfl)
 generalize iM f (procs.map ak.d) (ae.t (.mk k n s (.slice ka l.length kc) l))=R at *;generalize dz f (procs.map ak.d) (ae.t (.mk k n s (.slice ka l.length kc) l))=nb at *;clear hf hp hx hsub ih hm;simp only[ae.val]at E9 ik ⊢;by_cases pM:k=56
 · subst pM;have kS:=ł (HE.out.trans (if_pos rfl))
   go_enter Tryz.func45,Tryz.ntmps45
   go_wp2_with fail;go_ret;exact⟨iF kS.out.symm,HG2.out⟩
 · have e56:(k == 56)=false:=by simp[pM]
   have HE2:=ł (HE.out.trans (if_neg pM));clear pM HE
   go_enter Tryz.func45,Tryz.ntmps45
   go_wp2_with fail;generalize ((w.alloc (.cells #[.slice fa f.slots.length fc,.int .i64 f.cells,.int .i64 f.stacks,.slice pa procs.length pc] 62)).alloc (.cells #[.int .u8 k,.int .i64 n,.string s,.slice ka l.length kc] 24))=w2 at *;refine(E9.out _ HG2.out).mono ?_;rintro e w3 ⟨rfl,hg⟩;have aH:=ł (gtr HG2.out hg);have EX:=ł (ai wu.out hg);have pO:=ł (ai aF.out hg);clear hg E9 wu aF e56;cases nb with
   |false =>
    have kS:=ł (HE2.out.trans (if_pos rfl));go_wp2_with fail;go_ret;exact⟨iF kS.out.symm,aH.out⟩
   |true =>
    have Oe:=ł (HE2.out.trans (if_neg (by simp)));clear HE2;obtain⟨⟨n0,n1⟩,n2,n3⟩:=aC pO.out;obtain⟨⟨u0,u1⟩,u2,u3⟩:=aC EX.out;have hl1:=lt_of_block pO.out;have hl2:=lt_of_block EX.out;by_cases hc:k=50\/k=51
    · have kS:=ł (Oe.out.trans (if_pos hc));rcases hc with rfl|rfl
      all_goals
       go_wp2_with fail;refine(ik.out _ aH.out).mono ?_;rintro e w4 ⟨rfl,hg⟩;have aP:=ł (gtr aH.out hg);clear hg n0 n1 n2 n3 u0 u1 u2 u3;go_wp2_with fail;go_ret;exact⟨iF kS.out.symm,aP.out⟩
    · have VH:=ł (Oe.out.trans (if_neg hc));have e50:(k == 50)=false:=by simp;omega
      have e51:(k == 51)=false:=by simp;omega
      clear hc Oe ik;go_wp2_with fail;clear n0 n1 n2 n3 u0 u1 u2 u3 e50 e51 hl1 hl2;have dR:=aH
      go_loopw [29] (λt wr=>∃ i:Nat,t = .int .i64 i/\i<=l.length/\Grow w3 wr/\∀ j (hj:j<l.length),j<i->(if l[j].t.kind=57 then fw f (procs.map ak.d) l[j].t else 0)=0) (λt _=>l.length - (intOf t).toNat)
      case atStart=>exact⟨0,rfl,Nat.zero_le _,Mv.refl _ _,λj hj h=>by omega⟩
      obtain⟨i,rfl,hi,hg,hz⟩:=hrel;have HG:=ł hg;have HZ:=ł hz;clear hg hz;by_cases hlt:i<l.length
      · have zg:=ł (iB.out i hlt);have HH:=ł (λ(h:(if l[i].t.kind=57 then fw f (procs.map ak.d) l[i].t else 0)≠0)=>show R=(if l[i].t.kind=57 then fw f (procs.map ak.d) l[i].t else 0)from by
         rw[VH.out];have hl:i<((ae.ts l).map λt=>if t.kind=57 then fw f (procs.map ak.d) t else 0).length:=by simp[ae.cz];exact hlt
         have e:((ae.ts l).map λt=>if t.kind=57 then fw f (procs.map ak.d) t else 0)[i]=(if l[i].t.kind=57 then fw f (procs.map ak.d) l[i].t else 0):=by rw[List.getElem_map,ae.gW l i hlt]
         rw[Kg _ i hl (λj hj hji=>by rw[List.getElem_map,ae.gW l j (by omega)];exact HZ.out j (by omega) hji) (by rw[e];exact h),e])
        have HN:=ł (λ(h:(if l[i].t.kind=57 then fw f (procs.map ak.d) l[i].t else 0)=0)=>show ∀ j (hj:j<l.length),j<i+1->(if l[j].t.kind=57 then fw f (procs.map ak.d) l[j].t else 0)=0 from λj hj hji=>by
         by_cases e:j=i
         · subst e;exact h
         · exact HZ.out j hj (by omega))
        obtain⟨kb,ko,y9,bU,-,-⟩:=HX.out.row.2.2.2.1.at (show 0<l.length by omega);simp only[Value.slice.injEq,true_and]at bU;obtain⟨rfl,rfl⟩:=bU;have fT:=(fe HX.out i hlt).later (gtr dR.out HG.out);generalize l[i]=y at *;obtain⟨yk,yn,ys,yv,yl⟩:=y;obtain⟨ya,yc,rfl,-,-⟩:=fT.at_.form;obtain⟨⟨d0,d1⟩,d2,d3⟩:=fT.four;have hbl:kb<wr.heap.size:=World.block_lt_of_cell? wr _ d0;have hub:=ai EX.out HG.out;obtain⟨⟨u0,u1⟩,u2,u3⟩:=aC hub;have mX:=lt_of_block hub;simp only[ae.val]at zg;have bf:=ł (gtr dR.out (HG.out.alloc (.cells #[.int .u8 yk,.int .i64 yn,.string ys,.slice ya yl.length yc] 24)));have aM:=ł (HG.out.alloc (.cells #[.int .u8 yk,.int .i64 yn,.string ys,.slice ya yl.length yc] 24));clear fT hub;by_cases h57:yk=57
        · subst h57;have Og:=ł (λ(h:fw f (procs.map ak.d) (ae.t (.mk 57 yn ys (.slice ya yl.length yc) yl))≠0)=>(HH.out (by show(if(57:Int)=57 then _ else _)≠0;rw[if_pos rfl];exact h)).trans (if_pos rfl));have sW:=ł (λ(h:fw f (procs.map ak.d) (ae.t (.mk 57 yn ys (.slice ya yl.length yc) yl))=0)=>HN.out (by show(if(57:Int)=57 then _ else _)=0;rw[if_pos rfl];exact h));clear HH HN;go_wp2_with fail;refine(zg.out _ bf.out).mono ?_;rintro e w4 ⟨rfl,hg⟩;have aP:=ł (gtr aM.out hg);have Od:=ł (gtr bf.out hg);clear hg d0 d1 d2 d3 u0 u1 u2 u3 mX hbl zg;generalize fw f (procs.map ak.d) (ae.t (.mk 57 yn ys (.slice ya yl.length yc) yl))=r at *;by_cases hr:r=0
          · have hrr:(r != 0)=false:=by simp[hr]
            have kS:=ł (sW.out hr);clear hr sW Og;go_wp2_with fail
            go_roundw
            case rel=>exact⟨i+1,by go_num,by omega,aP.out,kS.out⟩
            case measure=>(simp[intOf] <;> omega)
          · have hrr:(r != 0)=true:=by simp[hr]
            have kS:=ł (Og.out hr);clear hr sW Og;go_wp2_with fail;go_ret;exact⟨iF kS.out.symm,Od.out⟩
        · have e57:(yk != 57)=true:=by simp[h57]
          have kS:=ł (HN.out (if_neg h57));clear h57 HN HH zg;go_wp2_with fail
          go_roundw
          case rel=>exact⟨i+1,by go_num,by omega,aM.out,kS.out⟩
          case measure=>(simp[intOf] <;> omega)
      · have kS:=ł (show R=0 from by
         rw[VH.out];exact Dh _ (λj hj=>by
          have hj':j<l.length:=by simpa[ae.cz]using hj
          rw[List.getElem_map,ae.gW l j hj'];exact HZ.out j hj' (by omega)))
        go_wp2_with fail;go_ret;exact⟨iF kS.out.symm,gtr dR.out HG.out⟩
theorem Kh (hof:vO) (sv pv:Value) (f:ax) (procs:List ak):∀ m:Nat,KL sv pv f procs m/\Km sv pv f procs m
 |0=>⟨λx hm=>by cases x;simp at hm,λx hm=>by cases x;simp at hm⟩
 |m+1=>⟨YF hof sv pv f procs m (Kh hof sv pv f procs m).2,XT sv pv f procs m (Kh hof sv pv f procs m).1⟩
theorem YG (hof:vO) (sv pv:Value) (f:ax) (procs:List ak) (x:ae) (w:World) (hf:fE w sv f) (hp:mg w pv procs) (hx:aR w x):Calls Tryz.prog 21 #[.agg #[sv,.int .i64 f.cells,.int .i64 f.stacks,pv],x.val] w (IX w (fw f (procs.map ak.d) x.t)) :=
 (Kh hof sv pv f procs _).2 x (Nat.le_refl _) w hf hp hx
end
section
open Go.RowKit
def GK (p:Value->World->Prop):Prop:=∀ v x y,p v x->p v y
theorem fu (c:Value):GK (Pc c):=λ_ _ _ h=>h
theorem DV:GK dB:=λ_ _ _ h=>h
def Cx:List Bool->List (Value->World->Prop)->Prop
 |b :: bs,p :: l=>(qx p/\(b=false->GK p))/\Cx bs l
 | [],[]=>True
 |_,_=>False
theorem Cx.at:∀ {bs:List Bool} {l:List (Value->World->Prop)},Cx bs l->∀ j,qx (l.getD j dB)/\(bs.getD j false=false->GK (l.getD j dB))
 | [],[],_,_=>⟨vF,λ_=>DV⟩
 |b :: _,_ :: _,h,0=>⟨h.1.1,λhb=>h.1.2 hb⟩
 |_ :: bs,_ :: l,h,j+1=>Cx.at (bs:=bs) (l:=l) h.2 j
def Mt (ws:List (List Nat)) (e:Nat) (be:List Nat):Bool:=be.all λi=>decide (i<e) && ((ws.getD e []).contains i || be.any λm=>decide (i<m) && (ws.getD m []).contains i)
theorem RJ {ws:List (List Nat)} {e:Nat} {be:List Nat} {L:Array Bool} (h:Mt ws e be=true) (hcl:yJ ws L) (he:L.getD e false=true):∀ i∈be,L.getD i false=true:=by
 have key:∀ n i,e - i<=n->i∈be->L.getD i false=true:=by
  intro n
  induction n with
  |zero =>
   intro i hn hi;have:=List.all_eq_true.1 h i hi;simp only[Bool.and_eq_true,decide_eq_true_eq]at this;omega
  |succ n ih =>
   intro i hn hi;have h2:=List.all_eq_true.1 h i hi;simp only[Bool.and_eq_true,decide_eq_true_eq,Bool.or_eq_true,List.any_eq_true,List.contains_iff_mem]at h2;obtain⟨h3,h4|⟨m,hm,h5,h6⟩⟩:=h2
   · exact hcl e he i h4
   · exact hcl m (ih m (by omega) hm) i h6
 exact λi hi=>key _ i (Nat.le_refl _) hi
section
variable {P:Program} {Q:Exit->Act->World->Prop}
structure LI (ws:List (List Nat)) (e:Nat) (kl:List Bool) (Ps:List (Value->World->Prop)) (O:Nat->Prop) (Pl:Value->World->Prop) (w:World) (L:Array Bool) (vs:Nat->Value) (x:World):Prop where
 mv:Mv (λb=>w.heap.size<=b\/(O b/\L.getD e false=true)) w x
 val:∀ j,j≠e->L.getD j false=true->(kl.getD j false=true->L.getD e false=false\/e∈ws.getD j [])->(Ps.getD j dB) (vs j) x
 last:L.getD e false=true->Pl (vs e) x
structure TB (ws:List (List Nat)) (e:Nat) (kl:List Bool) (Ps:List (Value->World->Prop)) (O:Nat->Prop) (Pl:Value->World->Prop) (w:World) (n:Nat) (vs:Nat->Value) (x:World):Prop where
 mv:Mv (λb=>w.heap.size<=b\/O b) w x
 val:∀ j,j<n->j≠e->(kl.getD j false=false\/e∈ws.getD j [])->(Ps.getD j dB) (vs j) x
 last:Pl (vs e) x
def Ae (P:Program) (ds:List (Option Tmp)) (ws ns:List (List Nat)) (be:List Nat) (e:Nat) (kl:List Bool) (Ps:List (Value->World->Prop)) (O:Nat->Prop) (Pl:Value->World->Prop) (w:World) (a:Act) (i:Nat) (o:Oper):Prop :=
 if i=e then ∀ (vs:Nat->Value) (x:World),Mv (λb=>w.heap.size<=b) w x->(∀ j∈ws.getD i [],(Ps.getD j dB) (vs j) x)->Gives P o (aT ds vs (ns.getD i []) a) x (λv y=>Mv (λb=>w.heap.size<=b\/O b) x y/\Pl v y)
 else ∀ (vs:Nat->Value) (x:World),(i∈be->Mv (λb=>w.heap.size<=b) w x)->(∀ j∈ws.getD i [],j≠e->(kl.getD j false=true->i∈be\/e∈ws.getD j [])->(Ps.getD j dB) (vs j) x)->(e∈ws.getD i []->Pl (vs e) x)->Gives P o (aT ds vs (ns.getD i []) a) x (GR x (Ps.getD i dB))
theorem YH {a:Act} {w:World} {l:List Oper} (N:Nat) (ds:List (Option Tmp)) (ws ns:List (List Nat)) (be:List Nat) (e:Nat) (kl:List Bool) (Ps:List (Value->World->Prop)) (O:Nat->Prop) (Pl:Value->World->Prop) (hbe:Mt ws e be=true) (hN:a.tmps.size=N) (hok:iN N l.toArray ds ws ns []=true)
 (nz:Cx kl Ps) (Oh:qx Pl) (hself:((ws.getD e []).contains e)=false) (hel:e<l.length)
 (hstep:mf (Ae P ds ws ns be e kl Ps O Pl w a) 0 l)
 (hend:∀ (vs:Nat->Value) (x:World),TB ws e kl Ps O Pl w l.length vs x->Q .normal (aT ds vs (List.range l.length) a) x):wpAny P .any l.toArray Q l.toArray.size (Array.replicate l.toArray.size false) a w:=by
 refine Gw N ds ws ns [] hN hok (LI ws e kl Ps O Pl w) ?_ ?_ ?_
 · have hf:∀ j,(Array.replicate l.toArray.size false).getD j false=false:=by
    intro j;by_cases hj:j<l.toArray.size <;> simp[Array.getD,hj]
   exact⟨Mv.refl _ _,λj _ h=>(by rw[hf]at h;cases h),λh=>(by rw[hf]at h;cases h)⟩
 · intro i o ho L vs x hsz gB bZ hcl hI;have hil:i<L.size:=by
    have:=(Array.getElem?_eq_some_iff.1 ho).1;omega
   have iH:=yw l 0 hstep i o (by simpa using ho);rw[Nat.zero_add]at iH;have hset:(L.setIfInBounds i true).getD i false=true:=by simp[hil]
   have hne:∀ j,j≠i->(L.setIfInBounds i true).getD j false=L.getD j false:=λj hj=>getD_set_ne false (λe=>hj e.symm);have hup:∀ (v:Value) j,j≠i->upd vs i v j=vs j:=λv j hj=>by simp[upd,hj]
   have xh:∀ (v:Value),upd vs i v i=v:=λv=>by simp[upd]
   unfold Ae at iH;by_cases hie:i=e
   · subst hie;rw[if_pos rfl]at iH;have TC:Mv (λb=>w.heap.size<=b) w x:=Mv.mono hI.mv (λb hb => .inl (by rcases hb with hb|⟨_,h⟩ <;> first|exact hb|(rw[gB]at h;cases h)));refine Gives.mono (iH vs x TC (λj hj=>hI.val j (λe=>by
      rw[e]at hj;have h:(ws.getD i []).contains i=true:=by simpa using hj
      rw[hself]at h;cases h) (bZ j hj) (λ_ => .inl gB))) (λv y h => ?_)
     obtain⟨hm,hp⟩:=h;refine⟨Mv.trans (O:=λb=>w.heap.size<=b\/(O b/\(L.setIfInBounds i true).getD i false=true)) (Mv.mono TC (λb hb => .inl (.inl hb))) hm (λb hb => .inl (by rcases hb with hb|hb;exact .inl hb;exact .inr ⟨hb,hset⟩)),λj qY hj hkj => ?_,λ_=>by rw[xh];exact hp⟩;rw[hne j qY]at hj;rw[hup v j qY];have sM:kl.getD j false=false:=by
      cases bU:kl.getD j false with
      |false=>rfl
      |true =>
       rcases hkj bU with h3|h3
       · rw[hset]at h3;cases h3
       · have h4:=hcl j hj i h3;rw[gB]at h4;cases h4
     exact(nz.at j).2 sM _ _ _ (hI.val j qY hj (λh=>by rw[sM]at h;cases h))
   · rw[if_neg hie]at iH;have Oi:(L.setIfInBounds i true).getD e false=L.getD e false:=hne e (λh=>hie h.symm);refine Gives.mono (iH vs x (λhw=>Mv.mono hI.mv (λb hb => .inl (by
      rcases hb with hb|⟨_,h⟩
      · exact hb
      · have:=RJ hbe hcl h i hw;rw[gB]at this;cases this))) (λj hj qY hkj=>hI.val j qY (bZ j hj) (λhk=>by
        rcases hkj hk with h3|h3
        · cases abH:L.getD e false with
          |false=>exact .inl rfl
          |true=>have:=RJ hbe hcl abH i h3;rw[gB]at this;cases this
        · exact .inr h3)) (λhw=>hI.last (bZ e hw))) (λv y h => ?_)
     obtain⟨hg,hp⟩:=h;refine⟨Mv.mono (hI.mv.trans hg (λ_ e=>e.elim)) (λb hb => .inl (by rw[Oi];exact hb)),λj qY hj hkj => ?_,λhl => ?_⟩
     · by_cases ej:j=i
       · subst ej;rw[xh];exact hp
       · rw[hne j ej]at hj;rw[hup v j ej];exact(nz.at j).1 _ _ _ hg (hI.val j qY hj (λhk=>by have:=hkj hk;rwa[Oi]at this))
     · rw[Oi]at hl;rw[hup v e (λh=>hie h.symm)];exact Oh _ _ _ hg (hI.last hl)
 · intro L vs x hall hI;have rY:∀ j,j<l.length->L.getD j false=true:=λj hj=>hall j (by simpa using hj);exact hend vs x ⟨Mv.mono hI.mv (λb hb => .inl (by rcases hb with hb|⟨hb,_⟩;exact .inl hb;exact .inr hb)),λj hj qY sM=>hI.val j qY (rY j hj) (λh=>by
    rcases sM with h3|h3
    · rw[h3]at h;cases h
    · exact .inr h3),hI.last (rY e hel)⟩
theorem F7 {id:Nat} {a:Act} {w:World} {l:List Oper} (hm:P.follows .mixedOrders=true) (N:Nat) (ds:List (Option Tmp)) (ws ns:List (List Nat)) (be:List Nat) (e:Nat) (kl:List Bool) (Ps:List (Value->World->Prop)) (O:Nat->Prop) (Pl:Value->World->Prop) (hbe:Mt ws e be=true) (hN:a.tmps.size=N) (hok:iN N l.toArray ds ws ns []=true)
 (nz:Cx kl Ps) (Oh:qx Pl) (hself:((ws.getD e []).contains e)=false) (hel:e<l.length)
 (hstep:mf (Ae P ds ws ns be e kl Ps O Pl w.drew a) 0 l)
 (hend:∀ (vs:Nat->Value) (x:World),TB ws e kl Ps O Pl w.drew l.length vs x->Q .normal (aT ds vs (List.range l.length) a) x):(Code.region id l.toArray true).wp P Q a w :=
 wp_region_any hm (YH N ds ws ns be e kl Ps O Pl hbe hN hok nz Oh hself hel hstep hend)
theorem eG {ds:List (Option Tmp)} {ws ns:List (List Nat)} {be:List Nat} {e:Nat} {kl:List Bool} {Ps:List (Value->World->Prop)} {O:Nat->Prop} {Pl:Value->World->Prop} {w:World} {a:Act} {i:Nat} {o:Oper} (hi:i≠e) (h:∀ (vs:Nat->Value) (x:World),(i∈be->Mv (λb=>w.heap.size<=b) w x)->(∀ j∈ws.getD i [],j≠e->(kl.getD j false=true->i∈be\/e∈ws.getD j [])->(Ps.getD j dB) (vs j) x)->(e∈ws.getD i []->Pl (vs e) x)->Gives P o (aT ds vs (ns.getD i []) a) x (GR x (Ps.getD i dB))):Ae P ds ws ns be e kl Ps O Pl w a i o:=by
 unfold Ae;rw[if_neg hi];exact h
theorem Hu {ds:List (Option Tmp)} {ws ns:List (List Nat)} {be:List Nat} {e:Nat} {kl:List Bool} {Ps:List (Value->World->Prop)} {O:Nat->Prop} {Pl:Value->World->Prop} {w:World} {a:Act} {i:Nat} {o:Oper} (hi:i=e) (h:∀ (vs:Nat->Value) (x:World),Mv (λb=>w.heap.size<=b) w x->(∀ j∈ws.getD i [],(Ps.getD j dB) (vs j) x)->Gives P o (aT ds vs (ns.getD i []) a) x (λv y=>Mv (λb=>w.heap.size<=b\/O b) x y/\Pl v y)):Ae P ds ws ns be e kl Ps O Pl w a i o:=by
 unfold Ae;rw[if_pos hi];exact h
end
end
section
open Go.RowKit Go.Instr
attribute [local go_sem ↓] ni
def qi (base:Nat) (w:World) (v:Value) (p:aB):Prop:=∃ ca cc ra rc,v = .agg #[.slice ca p.code.length cc,.slice ra p.refs.length rc]/\dO w base (.slice ca p.code.length cc) p.code/\nU w base (.slice ra p.refs.length rc) p.refs
theorem qi.later {base:Nat} {w w':World} {v:Value} {p:aB} (h:qi base w v p) (hm:Grow w w'):qi base w' v p:=by
 obtain⟨ca,cc,ra,rc,hv,h1,h2⟩:=h;exact⟨ca,cc,ra,rc,hv,bg h1 hm (λ_ _ e=>e),bg h2 hm (λ_ _ e=>e)⟩
theorem qi.low {base base':Nat} {w:World} {v:Value} {p:aB} (h:qi base w v p) (hb:base'<=base):qi base' w v p:=by
 obtain⟨ca,cc,ra,rc,hv,h1,h2⟩:=h;refine⟨ca,cc,ra,rc,hv,Hr h1 hb,h2.1,?_⟩;rcases h2.2 with h3|⟨g,cap,cur,e,h3,h4⟩
 · exact .inl h3
 · exact .inr ⟨g,cap,cur,e,by omega,h4⟩
theorem qi.box {base:Nat} {x y:World} {v:Value} {p:aB} {g:Nat} (h:qi base x v p) (hb:x.heap[g]? = some (.cells #[.slice none 0 0,.slice none 0 0] 34 (0,0))) (hm:Mv (λb=>b=g) x y):qi base y v p:=by
 obtain⟨ca,cc,ra,rc,hv,h1,h2⟩:=h;exact⟨ca,cc,ra,rc,hv,bg h1 hm (λq hq e=>by subst e;exact dK h1 hb (by decide) hq),bg h2 hm (λq hq e=>by subst e;exact dK h2 hb (by decide) hq)⟩
theorem Qt (v:Value) (ps:List aB) (w:World) (h:iG w v ps) (hlc:aO ps<=200000) (hlr:bV ps<=200000) (hlp:ps.length<=200000) :
 Calls Tryz.prog 23 #[v] w λe w'=>∃ v',e = .returned v'/\qi w.heap.size w' v' (aL ps)/\Grow w w':=by
 obtain⟨pa,pc,rfl,-,-⟩:=h.form;have uI:=ł h;have pG:=ł (show jm w ((w.alloc (.cells #[.slice none 0 0,.slice none 0 0] 34)).alloc (.cells #[.slice none 0 0,.slice none 0 0] 34)) (.slice none 0 0) (.slice none 0 0) [] []from
  ⟨((Mv.refl _ w).alloc _).alloc _,by have:=heap_alloc_new (w.alloc (.cells #[.slice none 0 0,.slice none 0 0] 34)) (.cells #[.slice none 0 0,.slice none 0 0] 34);rwa[World.size_alloc]at this,aS (heap_alloc_new w _) _,World.ownsRow_nil _ _ _ _,World.ownsRow_nil _ _ _ _⟩)
 clear h
 go_enter Tryz.func23,Tryz.ntmps23
 go_wp2_with fail;generalize (w.alloc (.cells #[.slice none 0 0,.slice none 0 0] 34)).alloc (.cells #[.slice none 0 0,.slice none 0 0] 34)=w1 at *
 go_loopw [11] (λt wr=>∃ (k:Nat) (cv rv:Value),t = .int .i64 k/\k<=ps.length/\jm w wr cv rv (aL (ps.take k)).code (aL (ps.take k)).refs) (λt _=>ps.length - (intOf t).toNat)
 case atStart=>exact⟨0,_,_,rfl,Nat.zero_le _,pG.out⟩
 obtain⟨k,cv,rv,rfl,hk,hst⟩:=hrel;have Fg:=ł (dI (ps.take k));have uJ:=ł (λhlt=>P6 ps k hlt);have rA:=ł (λhlt=>P5 ps k hlt);have NV:=ł (λ(e:k=ps.length)=>show aL (ps.take k)=aL ps from by rw[e,List.take_length]);generalize aL (ps.take k)=pk at *;obtain⟨cs,rs⟩:=pk;obtain⟨na,nc,pQ⟩:=gF hst.row;obtain⟨ma,mc,hmv⟩:=gF hst.fA;subst pQ hmv;simp only at hst;have HST:=ł hst;clear hst pG;by_cases hlt:k<ps.length
 · have hq:∃ qa jo ra rcc b off cap',Value.slice pa ps.length pc = .slice (some ⟨b,off,none⟩) ps.length cap'/\(wr.cell? ⟨b,off+k * 2,none⟩=some (.slice qa ps[k].code.length jo)/\wr.cell? ⟨b,off+k * 2+1,none⟩=some (.slice ra ps[k].refs.length rcc))/\az 5 Ins.cells w (.slice qa ps[k].code.length jo) ps[k].code/\az 2 aV.cells w (.slice ra ps[k].refs.length rcc) ps[k].refs:=by
    obtain⟨vs,h1,h2,h3⟩:=uI.out;have hvk:k<vs.length:=by omega
    obtain⟨b,off,cap',e,_,hc⟩:=(h2.later HST.out.g).at hvk;obtain⟨qa,jo,ra,rcc,hv,hr1,hr2⟩:=h3 k hvk hlt;simp only[Value.agg.injEq,Array.mk.injEq,List.cons.injEq,and_true]at hv;obtain⟨e1,e2⟩:=hv;refine⟨qa,jo,ra,rcc,b,off,cap',by rw[e,h1],⟨?_,?_⟩,hr1,hr2⟩
    · have:=hc 0 _ rfl;rw[← e1];simpa[rW]using this
    · have:=hc 1 _ rfl;rw[← e2];simpa[rW]using this
   obtain⟨qa,jo,ra,rcc,b,off,cap',e,⟨c0,c1⟩,hr1,hr2⟩:=hq;simp only[Value.slice.injEq,true_and]at e;obtain⟨rfl,rfl⟩:=e;have hbl:b<wr.heap.size:=World.block_lt_of_cell? wr _ c0;have ht:=uJ.out hlt;have hj:=Fg.out;have HJ2:=ł (rA.out hlt);generalize ps[k]=q at *;obtain⟨qc,qr⟩:=q;simp only at hr1 hr2 ht hj c0 c1;have ll:qc.length<=300000:=by omega
   have abz:cs.length+qc.length<=200000:=by omega
   have abA:rs.length+qr.length<=200000:=by omega
   have HR1:=ł hr1;have HR2:=ł hr2;have hg2:Grow wr (wr.alloc (.cells #[.slice qa qc.length jo,.slice ra qr.length rcc] 34)):=(Mv.refl _ wr).alloc _;have bA:=ł (HST.out.grow hg2);have fC:=ł (heap_alloc_new wr (.cells #[.slice qa qc.length jo,.slice ra qr.length rcc] 34));obtain⟨k0,k1⟩:=aA HST.out.blk;have Jz:=lt_of_block HST.out.blk;have NW:w.heap.size+1≠wr.heap.size:=by omega
   have hor:∀ g,Value.ownBlock (.slice na cs.length nc)=some g->g<wr.heap.size:=λg hg=>(HST.out.row.lt g hg).2;have zF:=ł hor;have dR:=ł hg2;clear hg2 hor hr1 hr2 ht hj rA uJ Fg HST;go_wp2_with fail;clear k0 k1 c0 c1;have Ao:wr.heap.size<(wr.alloc (.cells #[.slice qa qc.length jo,.slice ra qr.length rcc] 34)).heap.size:=by simp
   generalize wr.alloc (.cells #[.slice qa qc.length jo,.slice ra qr.length rcc] 34)=w2 at *;have HST:=bA;have lW:=ł (λ(x:World) (hx:Mv (λb=>b=w.heap.size+1\/Value.ownBlock (.slice na cs.length nc)=some b) w2.drew x)=>(show x.heap[wr.heap.size]? = _ from(hx.block wr.heap.size Ao (λe=>by rcases e with e|e;exact NW e.symm;have:=zF.out _ e;omega)).trans fC.out));have Fh:=ł (λ(x:World) (hx:Grow w x)=>HR1.out.later hx);refine rJ (by kernel_rfl) 48 [some 18,some 19,some 20,some 21,some 22,some 23,some 24,some 25,none] [[],[0],[],[2],[],[3,4],[1,5,5],[0,1,2,3,4,5,6],[7,6,6,0,1,2,3,4,5,6]] [[],[0],[],[2],[],[3,4],[1,5],[],[7,6]] [[0],[1],[2],[3],[4],[5],[6],[7],[8]] [[],[],[],[],[],[6],[8],[],[]] rfl (by kernel_rfl) (Mv (λb=>b=w.heap.size+1\/Value.ownBlock (.slice na cs.length nc)=some b)) (λ_=>Mv.refl _ _) (λx y z h1 h2=>h1.trans h2 (λ_ e => .inl e)) (YJ (w.heap.size+1) wr.heap.size (.slice na cs.length nc) (.slice ma rs.length mc) (.slice qa qc.length jo) cs.length (bR qc cs.length) w (cs ++ bR qc cs.length) rs) (λ_ x=>jm w x (.slice na cs.length nc) (.slice ma rs.length mc) cs rs) [[6]] ?z0 ?steps ?done
   case z0=>intro z hz;exact HST.out.drew
   case steps =>
    refine⟨?s0,?s1,?s2,?s3,?s4,?s5,?s6,?s7,?s8,trivial⟩
    case s0|s2|s4 =>
     intro vs x hx hY hZ;clear hY hZ;simp only[zR];go_simp;exact⟨Mv.refl _ _,by intros;assumption,rfl,by intros;assumption⟩
    case s1 =>
     intro vs x hx hY hZ;have h0:vs 0 = .pointer (some ⟨w.heap.size+1,0,none⟩):=hY 0 (by simp) (by simp);obtain⟨k0,k1⟩:=aA (hZ 0 (by simp) (by simp)).blk;clear hY hZ;simp only[zR,h0];go_simp;exact⟨Mv.refl _ _,by intros;assumption,rfl,by intros;assumption⟩
    case s3 =>
     intro vs x hx hY hZ;have h2:vs 2 = .pointer (some ⟨wr.heap.size,0,none⟩):=hY 2 (by simp) (by simp);obtain⟨k0,k1⟩:=aA (lW.out x hx);clear hY hZ;simp only[zR,h2];go_simp;exact⟨Mv.refl _ _,by intros;assumption,rfl,by intros;assumption⟩
    case s5 =>
     intro vs x hx hY hZ;have h3:vs 3 = .slice qa qc.length jo:=hY 3 (by simp) (by simp);have h4:vs 4 = .int .i64 cs.length:=hY 4 (by simp) (by simp);have HC:=ł (KJ (.slice qa qc.length jo) qc cs.length x (Fh.out x (hZ 0 (by simp) (by simp)).g) ll);clear hY hZ;simp only[zR,h3,h4];go_simp;refine HC.out.mono ?_;rintro e y ⟨v,rfl,hrs⟩;obtain⟨va,vc,rfl⟩:=gF hrs.row;have hgr:=hrs.g;exact⟨_,rfl,hgr.mono (λ_ e=>e.elim),(by first|exact λh=>jm.grow h hgr|(intros;exact jm.grow (by assumption) hgr)),⟨va,vc,rfl,fI (λ_=>rfl) hrs.row⟩,by intros;exact YJ.grow hgr _ _ (by assumption)⟩
    case s6 =>
     intro vs x hx hY hZ;have h1:vs 1 = .slice na cs.length nc:=hY 1 (by simp) (by simp);obtain⟨sa,sc,(h5:vs 5=_),hrow⟩:=hY 5 (by simp) (by simp);have hst:=hZ 0 (by simp) (by simp);obtain⟨a',c',w2,⟨hok,hv,hw⟩,hrow2,bz,hown2⟩:=qA Tryz.Hm (f:=Ins.cells) (λ_=>rfl) _ _ cs _ _ x hst.row hrow Ho hst.g.size (by rw[tq];omega);have HJ:=ł (hst.app bz);have HR2:=ł hrow2;have dM:=ł bz;clear hY hZ hst hrow hrow2 bz hown2;simp only[zR,h1,h5];go_simp;exact⟨dM.out.mono (λ_ e => .inl (.inr e)),⟨a',c',by rw[List.length_append];rfl,by have:=HR2.out;rw[← List.length_append]at this;exact this,HJ.out⟩,λj l=>by intros;refine YJ.keep j l ?_ ?_ ?_ (by assumption) <;> (intro e;subst e;first|contradiction|simp_all)⟩
    case s7 =>
     intro vs x hx hY hZ;clear hY hZ;simp only[zR];go_simp;exact⟨Mv.refl _ _,rfl,by intros;assumption⟩
    case s8 =>
     intro vs x hx hY hZ;have h7:vs 7 = .pointer (some ⟨w.heap.size+1,0,none⟩):=hY 7 (by simp) (by simp);obtain⟨a',c',(h6:vs 6=_),hrow,hj⟩:=hY 6 (by simp) (by simp);rw[List.length_append]at h6 hrow;have HS:=ł (hj.store hrow);obtain⟨k0,k1⟩:=aA hj.2.1;have zt:=aG hj.2.1;have dM:=ł (Ht hj.2.1 (vs 6));rw[h6]at dM;clear hY hZ hrow hj;simp only[zR,h7,h6];go_simp;exact⟨dM.out.2.mono (λ_ e => .inl (.inl e)),⟨a',c',by rw[List.length_append];exact HS.out⟩,λj l=>by intros;refine YJ.keep j l ?_ ?_ ?_ (by assumption) <;> (intro e;subst e;first|contradiction|simp_all)⟩
   case done =>
   intro vs wy hxy hY _;obtain⟨a',c',hst'⟩:=hY 8 (by decide) rfl;simp only[List.length_cons,List.length_nil,Nat.zero_add,Nat.reduceAdd];rw[show List.range 9=[0,1,2,3,4,5,6,7,8]from rfl];simp only[zR];clear hY;have cZ:=ł (lW.out wy hxy);have mH:=ł hst';clear hst' hxy lW HST Fh fC bA zF dR;have hc2:(cs ++ bR qc cs.length).length=cs.length+qc.length:=by rw[List.length_append,tq]
   generalize hcc:cs ++ bR qc cs.length=c2 at *;have rC:=ł hcc;have Be:=ł hc2;clear hcc hc2;obtain⟨k0,k1⟩:=aA cZ.out;have hlB:=lt_of_block cZ.out;go_wp2_with fail;clear k0 k1 hlB;obtain⟨wo,hwo⟩:∃ wo:World,wo=wy:=⟨_,rfl⟩;subst hwo
   go_loopw [29] (λt wr2=>∃ (j:Nat) (rv':Value),t = .int .i64 j/\j<=qr.length/\jm w wr2 (.slice a' c2.length c') rv' c2 (rs ++ (qr.take j).map λr=>r.shift cs.length)) (λt _=>qr.length - (intOf t).toNat)
   case atStart=>exact⟨0,_,rfl,Nat.zero_le _,by simpa using mH.out⟩
   obtain⟨j,rv',rfl,hjl,hst⟩:=hrel;have mG:=ł (λhlt:j<qr.length=>show rs ++ (qr.take (j+1)).map (λr=>r.shift cs.length)=(rs ++ (qr.take j).map λr=>r.shift cs.length) ++ [qr[j].shift cs.length]from by
    rw[List.take_succ_eq_append_getElem hlt,List.map_append,List.append_assoc];rfl)
   have uE:=ł (λ(e:j=qr.length)=>show rs ++ (qr.take j).map (λr=>r.shift cs.length)=rs ++ qr.map λr=>r.shift cs.length from by rw[e,List.take_length]);have hrl:(rs ++ (qr.take j).map λr=>r.shift cs.length).length<=200000:=by simp;omega
   generalize (rs ++ (qr.take j).map λr=>r.shift cs.length)=r2 at *;obtain⟨eH,eO,zG⟩:=gF hst.fA;subst zG;have fD:=ł hst;clear hst;by_cases hjt:j<qr.length
   · obtain⟨b2,Tn,cap2,e,_,uf⟩:=(HR2.out.later fD.out.g).at hjt;simp only[Value.slice.injEq,true_and]at e;obtain⟨rfl,rfl⟩:=e;have c0:=uf 0 _ rfl;have c1:=uf 1 _ rfl;have qO:=ł (mG.out hjt);have Bf:=ł (show qr[j].shift cs.length=⟨wrap64 (qr[j].at'+cs.length),qr[j].name⟩from rfl);generalize qr[j]=r at *;obtain⟨r0,r1⟩:=r;simp only[Nat.add_zero]at c0 c1 Bf;have hb2:b2<wr.heap.size:=World.block_lt_of_cell? _ _ c0;clear uf mG;have gM:=ł (fD.out.grow ((Mv.refl _ wr).alloc (.cells #[.int .i64 r0,.string r1] 78)));obtain⟨a4,c4,w4,⟨hok,hv,hw⟩,hrow4,kW⟩:=Lm _ ⟨wrap64 (r0+cs.length),r1⟩ r2 _ _ gM.out.fA gM.out.g.size (by omega);have mF:=ł (gM.out.IL kW hrow4);have h2:w4.heap[w.heap.size+1]? = some (.cells #[.slice a' c2.length c',.slice eH r2.length eO] 34 (0,0)):=by rw[kW.block _ (lt_of_block gM.out.blk) (λe=>dK gM.out.fA gM.out.blk (by decide) e)];exact gM.out.blk
     obtain⟨k0,k1⟩:=aA fD.out.blk;obtain⟨m0,m1⟩:=aA h2;have zt:=aG h2;have abB:=lt_of_block fD.out.blk;rw[World.size_alloc]at hok hv hw;clear hrow4 kW h2 fD;go_wp2_with fail
     go_roundw
     case rel=>exact⟨j+1,_,by go_num,by omega,by rw[qO.out,Bf.out];simpa using mF.out⟩
     case measure=>(simp[intOf] <;> omega)
   · have HF:=ł (uE.out (by omega));go_wp2_with fail
     go_roundw
     case rel=>exact⟨k+1,_,_,by go_num,by omega,by rw[HJ2.out,yA,Gp];simp only;rw[rC.out,← HF.out];exact fD.out⟩
     case measure=>(simp[intOf] <;> omega)
 · have HE:=ł (NV.out (by omega));obtain⟨k0,k1⟩:=aA HST.out.blk;obtain⟨m0,m1⟩:=aA HST.out.res;have hl1:=lt_of_block HST.out.blk;have hl2:=lt_of_block HST.out.res;have zt:=aG HST.out.res;obtain⟨hs,hm⟩:=set2 HST.out.res (.slice na cs.length nc) (.slice ma rs.length mc);have HS:=ł hs;have aJ:=ł (show Grow w _ from Mv.trans HST.out.g hm (λb e => .inr (by omega)));have Fj:=ł (show qi w.heap.size _ (.agg #[.slice na cs.length nc,.slice ma rs.length mc]) (aL ps)from by
    rw[← HE.out];exact⟨na,nc,ma,mc,rfl,bg HST.out.row hm (λg hg e=>by subst e;exact dK HST.out.row HST.out.res (by decide) hg),bg HST.out.fA hm (λg hg e=>by subst e;exact dK HST.out.fA HST.out.res (by decide) hg)⟩)
   clear hs hm HST;go_wp2_with fail;obtain⟨t0,t1⟩:=aA HS.out;exact bodyPost_ret (v := .agg #[.slice na cs.length nc,.slice ma rs.length mc]) (by simp[results,Tryz.results23,go_sem,t0,t1]) rfl ⟨_,rfl,Fj.out,aJ.out⟩
theorem qz.low {base base':Nat} {w:World} {v:Value} {p:aB} (h:qz base w v p) (hb:base'<=base):qz base' w v p:=by
 obtain⟨ca,cc,ra,rc,hv,h1,h2⟩:=h;exact⟨ca,cc,ra,rc,hv,Hr h1 hb,h2⟩
theorem qz.box {base:Nat} {x y:World} {v:Value} {p:aB} {g:Nat} (h:qz base x v p) (hb:x.heap[g]? = some (.cells #[.slice none 0 0,.slice none 0 0] 34 (0,0))) (hm:Mv (λb=>b=g) x y):qz base y v p:=by
 obtain⟨ca,cc,ra,rc,hv,h1,h2⟩:=h;exact⟨ca,cc,ra,rc,hv,bg h1 hm (λq hq e=>by subst e;exact dK h1 hb (by decide) hq),Hq (a:=(none,0,0)) (b:=(none,0,0)) h2 (λu=>⟨_,rfl,by simp⟩) hb hm⟩
def tX (cs:List Ins) (i j:Nat):List Ins:=match cs[i]?,cs[j]? with
 |some x,some y=>(cs.set i (x.bN j)).set j (y.bN i)
 |_,_=>cs
theorem Qu (cs:List Ins) (i j:Nat):(tX cs i j).length=cs.length:=by
 unfold tX;split <;> simp
theorem Hw (p:aB) (i j:Nat):gy p i j=⟨tX p.code i j,p.refs⟩:=by
 unfold gy tX;split
 · rename_i x y h1 h2;simp only[h1,h2]
 · rename_i h;split
   · rename_i x y h1 h2;exact absurd h2 (h x y h1)
   · rfl
theorem GL (base g nc n:Nat) (cs:List Ins) (ra:Option Addr) (rn rc i j:Nat) (w:World) (hrow:dO w base (.slice (some ⟨g,0,none⟩) n nc) cs) (hn:cs.length=n) (hi:i<n) (hj:j<n) (hij:i≠j) (hl:n<=300000) :
 Calls Tryz.prog 108 #[.agg #[.slice (some ⟨g,0,none⟩) n nc,.slice ra rn rc],.int .i64 i,.int .i64 j] w λe w'=>e = .returned (.tuple #[])/\dO w' base (.slice (some ⟨g,0,none⟩) n nc) (tX cs i j)/\Mv (λb=>b=g) w w':=by
 subst hn;have h:=Ra base g nc cs ra rn rc i j w hrow hi hj hij hl;have e:tX cs i j=(cs.set i (cs[i].bN j)).set j (cs[j].bN i):=by
  unfold tX;rw[List.getElem?_eq_getElem hi,List.getElem?_eq_getElem hj]
 rw[e];exact h
end
end Go.Proofs.YtnobahchcongnaaGreatDoor
