import Derived.Test.YtnobahchcongnaaGreatDoorQ30
set_option linter.unusedSimpArgs false
set_option linter.unusedVariables false
set_option maxRecDepth 100000
set_option maxHeartbeats 25600000
namespace Go.Proofs.YtnobahchcongnaaGreatDoor
section
open Go.RowKit Go.Instr
def ng:List Int→Int
 | []=>0
 | a :: l=>if a≠0 then a else ng l
theorem Hf:∀ (l:List Int) (i:Nat) (hi:i<l.length),(∀ j (hj:j<l.length),j<i→l[j]=0)→l[i]≠0→ng l=l[i]
 | a :: l,0,_,_,h=>by simp [ng] at h ⊢;intro e;exact absurd e h
 | a :: l,i+1,hi,hz,h=>by
  have h0:=hz 0 (by simp) (by omega);simp only [List.getElem_cons_zero] at h0;simp only [ng,h0,List.getElem_cons_succ];rw [if_neg (by simp)];exact Hf l i (by simpa using hi) (fun j hj hji=>by
   have h2:=hz (j+1) (by simpa using hj) (by omega)
   simpa only [List.getElem_cons_succ] using h2) (by simpa only [List.getElem_cons_succ] using h)
theorem D5:∀ (l:List Int),(∀ j (hj:j<l.length),l[j]=0)→ng l=0
 | [],_=>rfl
 | a :: l,h=>by
  have h0:=h 0 (by simp);simp only [List.getElem_cons_zero] at h0;simp only [ng,h0];rw [if_neg (by simp)];exact D5 l (fun j hj=>by
   have h2:=h (j+1) (by simpa using hj)
   simpa only [List.getElem_cons_succ] using h2)
mutual
def j5 (f:az) (procs:List cB):Tree→Int
 | .mk k n s l=>if k=56 then 9 else if aO f procs (.mk k n s l)=false then 6 else if k=50∨k=51 then vE f procs s l else ng (Af f procs l)
def fQ (f:az) (procs:List cB):Tree→Int
 | .mk _ _ _ l=>ng (Aa f procs l)
def Aa (f:az) (procs:List cB):List Tree→List Int
 | []=>[]
 | t :: r=>j5 f procs t :: Aa f procs r
def Af (f:az) (procs:List cB):List Tree→List Int
 | []=>[]
 | t :: r=>(if t.kind=57 then fQ f procs t else 0) :: Af f procs r
end
theorem Ee (f:az) (procs:List cB) (l:List Tree):Aa f procs l=l.map (j5 f procs):=by
 induction l with
 | nil=>rw [Aa];rfl
 | cons t l ih=>rw [Aa,ih];rfl
theorem Il (f:az) (procs:List cB) (l:List Tree):Af f procs l=l.map fun t=>if t.kind=57 then fQ f procs t else 0:=by
 induction l with
 | nil=>rw [Af];rfl
 | cons t l ih=>rw [Af,ih];rfl
def Im (sv pv:Value) (f:az) (procs:List aj) (m:Nat):Prop:=∀ (x:ae),SizeOf.sizeOf x≤m→∀ w:World,fF w sv f→lQ w pv procs→aV w x→Calls Tryz.prog 45 #[.agg #[sv,.int .i64 f.cells,.int .i64 f.stacks,pv],x.val] w (FP w (j5 f (procs.map aj.d) x.t))
def Ht (sv pv:Value) (f:az) (procs:List aj) (m:Nat):Prop:=∀ (x:ae),SizeOf.sizeOf x≤m→∀ w:World,fF w sv f→lQ w pv procs→aV w x→Calls Tryz.prog 21 #[.agg #[sv,.int .i64 f.cells,.int .i64 f.stacks,pv],x.val] w (FP w (fQ f (procs.map aj.d) x.t))
theorem U6 (sv pv:Value) (f:az) (procs:List aj) (m:Nat) (ih:Im sv pv f procs m):Ht sv pv f procs (m+1):=by
 intro x hm w hf hp hx;obtain ⟨fa,fc,rfl,hfc,hfl⟩:=hf.row.form;obtain ⟨pa,pc,rfl,hpc,hpl⟩:=hp.row.form;obtain ⟨k,n,s,kv,l⟩:=x;obtain ⟨ka,kc,rfl,hkc,hkl⟩:=hx.form;have hsub:∀ (i:Nat) (hi:i<l.length),SizeOf.sizeOf l[i]≤m:=fun i hi=>by
  have:=nV (k:=k) (n:=n) (s:=s) (kv := .slice ka l.length kc) (List.getElem_mem hi);omega
 have HF:=ł hf;have HP:=ł hp;have HX:=ł hx;obtain ⟨uK,aL,HG2⟩:=a2 w (.cells #[.slice fa f.slots.length fc,.int .i64 f.cells,.int .i64 f.stacks,.slice pa procs.length pc] 62) (.cells #[.int .u8 k,.int .i64 n,.string s,.slice ka l.length kc] 24);have fG:=ł (fun (i:Nat) (hi:i<l.length) (y:World) (hy:Grow w y)=>ih l[i] (hsub i hi) y (hf.later hy) (hp.later hy) (hx.row.2.2.2.2 _ (List.getElem_mem hi) |>.later hy));have HE:=ł (show fQ f (procs.map aj.d) (ae.t (.mk k n s (.slice ka l.length kc) l))=ng ((ae.ts l).map (j5 f (procs.map aj.d))) from by
  show ng (Aa f (procs.map aj.d) (ae.ts l))=_
  rw [Ee])
 generalize hR:fQ f (procs.map aj.d) (ae.t (.mk k n s (.slice ka l.length kc) l))=R at *;clear hR hf hp hx hsub ih hm;simp only [ae.val]
 go_enter Tryz.func21,Tryz.ntmps21
 go_wp2_with fail;generalize ((w.alloc (.cells #[.slice fa f.slots.length fc,.int .i64 f.cells,.int .i64 f.stacks,.slice pa procs.length pc] 62)).alloc (.cells #[.int .u8 k,.int .i64 n,.string s,.slice ka l.length kc] 24))=w2 at *;have dL:=HG2
 go_loopw [11] (fun t wr=>∃ i:Nat,t = .int .i64 i∧i≤l.length∧Grow w2 wr∧∀ j (hj:j<l.length),j<i→j5 f (procs.map aj.d) l[j].t=0) (fun t _=>l.length - (intOf t).toNat)
 case atStart=>exact ⟨0,rfl,Nat.zero_le _,Mv.refl _ _,fun j hj h=>by omega⟩
 obtain ⟨i,rfl,hi,hg,hz⟩:=hrel;have HG:=ł hg;have HZ:=ł hz;clear hg hz;by_cases hlt:i<l.length
 · have xz:=ł (fG.out i hlt);have HH:=ł (fun (h:j5 f (procs.map aj.d) l[i].t≠0)=>show R=j5 f (procs.map aj.d) l[i].t from by
    rw [HE.out];have hl:i<((ae.ts l).map (j5 f (procs.map aj.d))).length:=by simp [ae.cZ];exact hlt
    have e:((ae.ts l).map (j5 f (procs.map aj.d)))[i]=j5 f (procs.map aj.d) l[i].t:=by rw [List.getElem_map,ae.gK l i hlt]
    rw [Hf _ i hl (fun j hj hji=>by rw [List.getElem_map,ae.gK l j (by omega)];exact HZ.out j (by omega) hji) (by rw [e];exact h),e])
   have HN:=ł (fun (h:j5 f (procs.map aj.d) l[i].t=0)=>show ∀ j (hj:j<l.length),j<i+1→j5 f (procs.map aj.d) l[j].t=0 from fun j hj hji=>by
    by_cases e:j=i
    · subst e;exact h
    · exact HZ.out j hj (by omega))
   obtain ⟨kb,ko,yG,cz,-,-⟩:=HX.out.row.2.2.2.1.at (show 0<l.length by omega);simp only [Value.slice.injEq,true_and] at cz;obtain ⟨rfl,rfl⟩:=cz;have iO:=(eY HX.out i hlt).later (gtr dL.out HG.out);generalize l[i]=y at *;obtain ⟨yk,yn,ys,yv,yl⟩:=y;obtain ⟨ya,yc,rfl,-,-⟩:=iO.at_.form;obtain ⟨⟨d0,d1⟩,d2,d3⟩:=iO.four;have hbl:kb<wr.heap.size:=World.block_lt_of_cell? wr _ d0;have hub:=ai uK.out HG.out;obtain ⟨⟨u0,u1⟩,u2,u3⟩:=aF hub;have jg:=lt_of_block hub;simp only [ae.val] at xz;have hgw:=gtr dL.out (HG.out.alloc (.cells #[.int .u8 yk,.int .i64 yn,.string ys,.slice ya yl.length yc] 24));have aQ:=ł hgw;clear iO hub hgw;go_wp2_with fail;refine (xz.out _ aQ.out).mono ?_;rintro e w4 ⟨rfl,hg⟩;have aN:=ł (gtr HG.out (gtr ((Mv.refl _ wr).alloc _) hg));have KZ:=ł (gtr aQ.out hg);clear hg d0 d1 d2 d3 u0 u1 u2 u3 jg hbl xz;generalize j5 f (procs.map aj.d) (ae.t (.mk yk yn ys (.slice ya yl.length yc) yl))=r at *;by_cases hr:r=0
   · have hrr:(r != 0)=false:=by simp [hr]
     have jY:=ł (HN.out hr);clear hr HN HH;go_wp2_with fail
     go_roundw
     case rel=>exact ⟨i+1,by go_num,by omega,aN.out,jY.out⟩
     case measure=>(simp [intOf] <;> omega)
   · have hrr:(r != 0)=true:=by simp [hr]
     have jY:=ł (HH.out hr);clear hr HN HH;go_wp2_with fail;go_ret;exact ⟨gT jY.out.symm,KZ.out⟩
 · have jY:=ł (show R=0 from by
    rw [HE.out];exact D5 _ (fun j hj=>by
     have hj':j<l.length:=by simpa [ae.cZ] using hj
     rw [List.getElem_map,ae.gK l j hj'];exact HZ.out j hj' (by omega)))
   go_wp2_with fail;go_ret;exact ⟨gT jY.out.symm,gtr dL.out HG.out⟩
theorem VM (hof:uq) (sv pv:Value) (f:az) (procs:List aj) (m:Nat) (ih:Ht sv pv f procs m):Im sv pv f procs (m+1):=by
 intro x hm w hf hp hx;obtain ⟨fa,fc,rfl,hfc,hfl⟩:=hf.row.form;obtain ⟨pa,pc,rfl,hpc,hpl⟩:=hp.row.form;obtain ⟨k,n,s,kv,l⟩:=x;obtain ⟨ka,kc,rfl,hkc,hkl⟩:=hx.form;have hsub:∀ (i:Nat) (hi:i<l.length),SizeOf.sizeOf l[i]≤m:=fun i hi=>by
  have:=nV (k:=k) (n:=n) (s:=s) (kv := .slice ka l.length kc) (List.getElem_mem hi);omega
 have HF:=ł hf;have HP:=ł hp;have HX:=ł hx;obtain ⟨uK,aL,HG2⟩:=a2 w (.cells #[.slice fa f.slots.length fc,.int .i64 f.cells,.int .i64 f.stacks,.slice pa procs.length pc] 62) (.cells #[.int .u8 k,.int .i64 n,.string s,.slice ka l.length kc] 24);have fG:=ł (fun (i:Nat) (hi:i<l.length) (y:World) (hy:Grow w y)=>ih l[i] (hsub i hi) y (hf.later hy) (hp.later hy) (hx.row.2.2.2.2 _ (List.getElem_mem hi) |>.later hy));have CW:=ł (fun (y:World) (hy:Grow w y)=>Wy (.slice fa f.slots.length fc) (.slice pa procs.length pc) f procs (.mk k n s (.slice ka l.length kc) l) y (hf.later hy) (hp.later hy) (hx.later hy));have jT:=ł (fun (y:World) (hy:Grow w y)=>WO hof (.slice fa f.slots.length fc) (.slice pa procs.length pc) f procs k n s (.slice ka l.length kc) l y (hf.later hy) (hp.later hy) (hx.later hy));have HE:=ł (show j5 f (procs.map aj.d) (ae.t (.mk k n s (.slice ka l.length kc) l))=if k=56 then 9 else if aO f (procs.map aj.d) (ae.t (.mk k n s (.slice ka l.length kc) l))=false then 6 else if k=50∨k=51 then vE f (procs.map aj.d) s (ae.ts l) else ng ((ae.ts l).map fun t=>if t.kind=57 then fQ f (procs.map aj.d) t else 0) from by
  show j5 f (procs.map aj.d) (.mk k n s (ae.ts l))=_
  rw [j5,Il];rfl)
 generalize j5 f (procs.map aj.d) (ae.t (.mk k n s (.slice ka l.length kc) l))=R at *;generalize aO f (procs.map aj.d) (ae.t (.mk k n s (.slice ka l.length kc) l))=nb at *;clear hf hp hx hsub ih hm;simp only [ae.val] at CW jT ⊢;by_cases uD:k=56
 · subst uD;have jY:=ł (HE.out.trans (if_pos rfl))
   go_enter Tryz.func45,Tryz.ntmps45
   go_wp2_with fail;go_ret;exact ⟨gT jY.out.symm,HG2.out⟩
 · have e56:(k == 56)=false:=by simp [uD]
   have HE2:=ł (HE.out.trans (if_neg uD));clear uD HE
   go_enter Tryz.func45,Tryz.ntmps45
   go_wp2_with fail;generalize ((w.alloc (.cells #[.slice fa f.slots.length fc,.int .i64 f.cells,.int .i64 f.stacks,.slice pa procs.length pc] 62)).alloc (.cells #[.int .u8 k,.int .i64 n,.string s,.slice ka l.length kc] 24))=w2 at *;refine (CW.out _ HG2.out).mono ?_;rintro e w3 ⟨rfl,hg⟩;have aG:=ł (gtr HG2.out hg);have CO:=ł (ai uK.out hg);have vW:=ł (ai aL.out hg);clear hg CW uK aL e56;cases nb with
   | false =>
    have jY:=ł (HE2.out.trans (if_pos rfl));go_wp2_with fail;go_ret;exact ⟨gT jY.out.symm,aG.out⟩
   | true =>
    have K3:=ł (HE2.out.trans (if_neg (by simp)));clear HE2;obtain ⟨⟨n0,n1⟩,n2,n3⟩:=aF vW.out;obtain ⟨⟨u0,u1⟩,u2,u3⟩:=aF CO.out;have hl1:=lt_of_block vW.out;have hl2:=lt_of_block CO.out;by_cases hc:k=50∨k=51
    · have jY:=ł (K3.out.trans (if_pos hc));rcases hc with rfl | rfl
      all_goals
       go_wp2_with fail;refine (jT.out _ aG.out).mono ?_;rintro e w4 ⟨rfl,hg⟩;have aN:=ł (gtr aG.out hg);clear hg n0 n1 n2 n3 u0 u1 u2 u3;go_wp2_with fail;go_ret;exact ⟨gT jY.out.symm,aN.out⟩
    · have Ta:=ł (K3.out.trans (if_neg hc));have e50:(k == 50)=false:=by simp;omega
      have e51:(k == 51)=false:=by simp;omega
      clear hc K3 jT;go_wp2_with fail;clear n0 n1 n2 n3 u0 u1 u2 u3 e50 e51 hl1 hl2;have dL:=aG
      go_loopw [29] (fun t wr=>∃ i:Nat,t = .int .i64 i∧i≤l.length∧Grow w3 wr∧∀ j (hj:j<l.length),j<i→(if l[j].t.kind=57 then fQ f (procs.map aj.d) l[j].t else 0)=0) (fun t _=>l.length - (intOf t).toNat)
      case atStart=>exact ⟨0,rfl,Nat.zero_le _,Mv.refl _ _,fun j hj h=>by omega⟩
      obtain ⟨i,rfl,hi,hg,hz⟩:=hrel;have HG:=ł hg;have HZ:=ł hz;clear hg hz;by_cases hlt:i<l.length
      · have xz:=ł (fG.out i hlt);have HH:=ł (fun (h:(if l[i].t.kind=57 then fQ f (procs.map aj.d) l[i].t else 0)≠0)=>show R=(if l[i].t.kind=57 then fQ f (procs.map aj.d) l[i].t else 0) from by
         rw [Ta.out];have hl:i<((ae.ts l).map fun t=>if t.kind=57 then fQ f (procs.map aj.d) t else 0).length:=by simp [ae.cZ];exact hlt
         have e:((ae.ts l).map fun t=>if t.kind=57 then fQ f (procs.map aj.d) t else 0)[i]=(if l[i].t.kind=57 then fQ f (procs.map aj.d) l[i].t else 0):=by rw [List.getElem_map,ae.gK l i hlt]
         rw [Hf _ i hl (fun j hj hji=>by rw [List.getElem_map,ae.gK l j (by omega)];exact HZ.out j (by omega) hji) (by rw [e];exact h),e])
        have HN:=ł (fun (h:(if l[i].t.kind=57 then fQ f (procs.map aj.d) l[i].t else 0)=0)=>show ∀ j (hj:j<l.length),j<i+1→(if l[j].t.kind=57 then fQ f (procs.map aj.d) l[j].t else 0)=0 from fun j hj hji=>by
         by_cases e:j=i
         · subst e;exact h
         · exact HZ.out j hj (by omega))
        obtain ⟨kb,ko,yG,cz,-,-⟩:=HX.out.row.2.2.2.1.at (show 0<l.length by omega);simp only [Value.slice.injEq,true_and] at cz;obtain ⟨rfl,rfl⟩:=cz;have iO:=(eY HX.out i hlt).later (gtr dL.out HG.out);generalize l[i]=y at *;obtain ⟨yk,yn,ys,yv,yl⟩:=y;obtain ⟨ya,yc,rfl,-,-⟩:=iO.at_.form;obtain ⟨⟨d0,d1⟩,d2,d3⟩:=iO.four;have hbl:kb<wr.heap.size:=World.block_lt_of_cell? wr _ d0;have hub:=ai CO.out HG.out;obtain ⟨⟨u0,u1⟩,u2,u3⟩:=aF hub;have jg:=lt_of_block hub;simp only [ae.val] at xz;have aQ:=ł (gtr dL.out (HG.out.alloc (.cells #[.int .u8 yk,.int .i64 yn,.string ys,.slice ya yl.length yc] 24)));have aA:=ł (HG.out.alloc (.cells #[.int .u8 yk,.int .i64 yn,.string ys,.slice ya yl.length yc] 24));clear iO hub;by_cases h57:yk=57
        · subst h57;have K4:=ł (fun (h:fQ f (procs.map aj.d) (ae.t (.mk 57 yn ys (.slice ya yl.length yc) yl))≠0)=>(HH.out (by show (if (57:Int)=57 then _ else _)≠0;rw [if_pos rfl];exact h)).trans (if_pos rfl));have rE:=ł (fun (h:fQ f (procs.map aj.d) (ae.t (.mk 57 yn ys (.slice ya yl.length yc) yl))=0)=>HN.out (by show (if (57:Int)=57 then _ else _)=0;rw [if_pos rfl];exact h));clear HH HN;go_wp2_with fail;refine (xz.out _ aQ.out).mono ?_;rintro e w4 ⟨rfl,hg⟩;have aN:=ł (gtr aA.out hg);have KZ:=ł (gtr aQ.out hg);clear hg d0 d1 d2 d3 u0 u1 u2 u3 jg hbl xz;generalize fQ f (procs.map aj.d) (ae.t (.mk 57 yn ys (.slice ya yl.length yc) yl))=r at *;by_cases hr:r=0
          · have hrr:(r != 0)=false:=by simp [hr]
            have jY:=ł (rE.out hr);clear hr rE K4;go_wp2_with fail
            go_roundw
            case rel=>exact ⟨i+1,by go_num,by omega,aN.out,jY.out⟩
            case measure=>(simp [intOf] <;> omega)
          · have hrr:(r != 0)=true:=by simp [hr]
            have jY:=ł (K4.out hr);clear hr rE K4;go_wp2_with fail;go_ret;exact ⟨gT jY.out.symm,KZ.out⟩
        · have e57:(yk != 57)=true:=by simp [h57]
          have jY:=ł (HN.out (if_neg h57));clear h57 HN HH xz;go_wp2_with fail
          go_roundw
          case rel=>exact ⟨i+1,by go_num,by omega,aA.out,jY.out⟩
          case measure=>(simp [intOf] <;> omega)
      · have jY:=ł (show R=0 from by
         rw [Ta.out];exact D5 _ (fun j hj=>by
          have hj':j<l.length:=by simpa [ae.cZ] using hj
          rw [List.getElem_map,ae.gK l j hj'];exact HZ.out j hj' (by omega)))
        go_wp2_with fail;go_ret;exact ⟨gT jY.out.symm,gtr dL.out HG.out⟩
theorem Hg (hof:uq) (sv pv:Value) (f:az) (procs:List aj):∀ m:Nat,Im sv pv f procs m∧Ht sv pv f procs m
 | 0=>⟨fun x hm=>by cases x;simp at hm,fun x hm=>by cases x;simp at hm⟩
 | m+1=>⟨VM hof sv pv f procs m (Hg hof sv pv f procs m).2,U6 sv pv f procs m (Hg hof sv pv f procs m).1⟩
theorem VN (hof:uq) (sv pv:Value) (f:az) (procs:List aj) (x:ae) (w:World) (hf:fF w sv f) (hp:lQ w pv procs) (hx:aV w x):Calls Tryz.prog 21 #[.agg #[sv,.int .i64 f.cells,.int .i64 f.stacks,pv],x.val] w (FP w (fQ f (procs.map aj.d) x.t)) :=
 (Hg hof sv pv f procs _).2 x (Nat.le_refl _) w hf hp hx
end
section
open Go.RowKit
def Ep (p:Value→World→Prop):Prop:=∀ v x y,p v x→p v y
theorem iP (c:Value):Ep (Pc c):=fun _ _ _ h=>h
theorem Jh:Ep dH:=fun _ _ _ h=>h
def Ar:List Bool→List (Value→World→Prop)→Prop
 | b :: bs,p :: l=>(oO p∧(b=false→Ep p))∧Ar bs l
 | [],[]=>True
 | _,_=>False
theorem Ar.at:∀ {bs:List Bool} {l:List (Value→World→Prop)},Ar bs l→∀ j,oO (l.getD j dH)∧(bs.getD j false=false→Ep (l.getD j dH))
 | [],[],_,_=>⟨wW,fun _=>Jh⟩
 | b :: _,_ :: _,h,0=>⟨h.1.1,fun hb=>h.1.2 hb⟩
 | _ :: bs,_ :: l,h,j+1=>Ar.at (bs:=bs) (l:=l) h.2 j
def JO (ws:List (List Nat)) (e:Nat) (be:List Nat):Bool:=be.all fun i=>decide (i<e) && ((ws.getD e []).contains i || be.any fun m=>decide (i<m) && (ws.getD m []).contains i)
theorem OW {ws:List (List Nat)} {e:Nat} {be:List Nat} {L:Array Bool} (h:JO ws e be=true) (hcl:xY ws L) (he:L.getD e false=true):∀ i∈be,L.getD i false=true:=by
 have key:∀ n i,e - i≤n→i∈be→L.getD i false=true:=by
  intro n
  induction n with
  | zero =>
   intro i hn hi;have:=List.all_eq_true.1 h i hi;simp only [Bool.and_eq_true,decide_eq_true_eq] at this;omega
  | succ n ih =>
   intro i hn hi;have h2:=List.all_eq_true.1 h i hi;simp only [Bool.and_eq_true,decide_eq_true_eq,Bool.or_eq_true,List.any_eq_true,List.contains_iff_mem] at h2;obtain ⟨h3,h4 | ⟨m,hm,h5,h6⟩⟩:=h2
   · exact hcl e he i h4
   · exact hcl m (ih m (by omega) hm) i h6
 exact fun i hi=>key _ i (Nat.le_refl _) hi
section
variable {P:Program} {Q:Exit→Act→World→Prop}
structure LI (ws:List (List Nat)) (e:Nat) (kl:List Bool) (Ps:List (Value→World→Prop)) (O:Nat→Prop) (Pl:Value→World→Prop) (w:World) (L:Array Bool) (vs:Nat→Value) (x:World):Prop where
 mv:Mv (fun b=>w.heap.size≤b∨(O b∧L.getD e false=true)) w x
 val:∀ j,j≠e→L.getD j false=true→(kl.getD j false=true→L.getD e false=false∨e∈ws.getD j [])→(Ps.getD j dH) (vs j) x
 last:L.getD e false=true→Pl (vs e) x
structure Qx (ws:List (List Nat)) (e:Nat) (kl:List Bool) (Ps:List (Value→World→Prop)) (O:Nat→Prop) (Pl:Value→World→Prop) (w:World) (n:Nat) (vs:Nat→Value) (x:World):Prop where
 mv:Mv (fun b=>w.heap.size≤b∨O b) w x
 val:∀ j,j<n→j≠e→(kl.getD j false=false∨e∈ws.getD j [])→(Ps.getD j dH) (vs j) x
 last:Pl (vs e) x
def ym (P:Program) (ds:List (Option Tmp)) (ws ns:List (List Nat)) (be:List Nat) (e:Nat) (kl:List Bool) (Ps:List (Value→World→Prop)) (O:Nat→Prop) (Pl:Value→World→Prop) (w:World) (a:Act) (i:Nat) (o:Oper):Prop :=
 if i=e then ∀ (vs:Nat→Value) (x:World),Mv (fun b=>w.heap.size≤b) w x→(∀ j∈ws.getD i [],(Ps.getD j dH) (vs j) x)→Gives P o (aZ ds vs (ns.getD i []) a) x (fun v y=>Mv (fun b=>w.heap.size≤b∨O b) x y∧Pl v y)
 else ∀ (vs:Nat→Value) (x:World),(i∈be→Mv (fun b=>w.heap.size≤b) w x)→(∀ j∈ws.getD i [],j≠e→(kl.getD j false=true→i∈be∨e∈ws.getD j [])→(Ps.getD j dH) (vs j) x)→(e∈ws.getD i []→Pl (vs e) x)→Gives P o (aZ ds vs (ns.getD i []) a) x (GR x (Ps.getD i dH))
theorem VO {a:Act} {w:World} {l:List Oper} (N:Nat) (ds:List (Option Tmp)) (ws ns:List (List Nat)) (be:List Nat) (e:Nat) (kl:List Bool) (Ps:List (Value→World→Prop)) (O:Nat→Prop) (Pl:Value→World→Prop) (hbe:JO ws e be=true) (hN:a.tmps.size=N) (hok:jm N l.toArray ds ws ns []=true)
 (mE:Ar kl Ps) (K5:oO Pl) (hself:((ws.getD e []).contains e)=false) (hel:e<l.length)
 (hstep:mZ (ym P ds ws ns be e kl Ps O Pl w a) 0 l)
 (hend:∀ (vs:Nat→Value) (x:World),Qx ws e kl Ps O Pl w l.length vs x→Q .normal (aZ ds vs (List.range l.length) a) x):wpAny P .any l.toArray Q l.toArray.size (Array.replicate l.toArray.size false) a w:=by
 refine Nj N ds ws ns [] hN hok (LI ws e kl Ps O Pl w) ?_ ?_ ?_
 · have hf:∀ j,(Array.replicate l.toArray.size false).getD j false=false:=by
    intro j;by_cases hj:j<l.toArray.size <;> simp [Array.getD,hj]
   exact ⟨Mv.refl _ _,fun j _ h=>(by rw [hf] at h;cases h),fun h=>(by rw [hf] at h;cases h)⟩
 · intro i o ho L vs x hsz pU gF hcl hI;have hil:i<L.size:=by
    have:=(Array.getElem?_eq_some_iff.1 ho).1;omega
   have jo:=zP l 0 hstep i o (by simpa using ho);rw [Nat.zero_add] at jo;have hset:(L.setIfInBounds i true).getD i false=true:=by simp [hil]
   have hne:∀ j,j≠i→(L.setIfInBounds i true).getD j false=L.getD j false:=fun j hj=>getD_set_ne false (fun e=>hj e.symm);have hup:∀ (v:Value) j,j≠i→upd vs i v j=vs j:=fun v j hj=>by simp [upd,hj]
   have yB:∀ (v:Value),upd vs i v i=v:=fun v=>by simp [upd]
   unfold ym at jo;by_cases hie:i=e
   · subst hie;rw [if_pos rfl] at jo;have Qy:Mv (fun b=>w.heap.size≤b) w x:=Mv.mono hI.mv (fun b hb => .inl (by rcases hb with hb | ⟨_,h⟩ <;> first | exact hb | (rw [pU] at h;cases h)));refine Gives.mono (jo vs x Qy (fun j hj=>hI.val j (fun e=>by
      rw [e] at hj;have h:(ws.getD i []).contains i=true:=by simpa using hj
      rw [hself] at h;cases h) (gF j hj) (fun _ => .inl pU))) (fun v y h => ?_)
     obtain ⟨hm,hp⟩:=h;refine ⟨Mv.trans (O:=fun b=>w.heap.size≤b∨(O b∧(L.setIfInBounds i true).getD i false=true)) (Mv.mono Qy (fun b hb => .inl (.inl hb))) hm (fun b hb => .inl (by rcases hb with hb | hb;exact .inl hb;exact .inr ⟨hb,hset⟩)),fun j pR hj hkj => ?_,fun _=>by rw [yB];exact hp⟩;rw [hne j pR] at hj;rw [hup v j pR];have q9:kl.getD j false=false:=by
      cases cz:kl.getD j false with
      | false=>rfl
      | true =>
       rcases hkj cz with h3 | h3
       · rw [hset] at h3;cases h3
       · have h4:=hcl j hj i h3;rw [pU] at h4;cases h4
     exact (mE.at j).2 q9 _ _ _ (hI.val j pR hj (fun h=>by rw [q9] at h;cases h))
   · rw [if_neg hie] at jo;have K6:(L.setIfInBounds i true).getD e false=L.getD e false:=hne e (fun h=>hie h.symm);refine Gives.mono (jo vs x (fun hw=>Mv.mono hI.mv (fun b hb => .inl (by
      rcases hb with hb | ⟨_,h⟩
      · exact hb
      · have:=OW hbe hcl h i hw;rw [pU] at this;cases this))) (fun j hj pR hkj=>hI.val j pR (gF j hj) (fun hk=>by
        rcases hkj hk with h3 | h3
        · cases ZH:L.getD e false with
          | false=>exact .inl rfl
          | true=>have:=OW hbe hcl ZH i h3;rw [pU] at this;cases this
        · exact .inr h3)) (fun hw=>hI.last (gF e hw))) (fun v y h => ?_)
     obtain ⟨hg,hp⟩:=h;refine ⟨Mv.mono (hI.mv.trans hg (fun _ e=>e.elim)) (fun b hb => .inl (by rw [K6];exact hb)),fun j pR hj hkj => ?_,fun hl => ?_⟩
     · by_cases ej:j=i
       · subst ej;rw [yB];exact hp
       · rw [hne j ej] at hj;rw [hup v j ej];exact (mE.at j).1 _ _ _ hg (hI.val j pR hj (fun hk=>by have:=hkj hk;rwa [K6] at this))
     · rw [K6] at hl;rw [hup v e (fun h=>hie h.symm)];exact K5 _ _ _ hg (hI.last hl)
 · intro L vs x hall hI;have vC:∀ j,j<l.length→L.getD j false=true:=fun j hj=>hall j (by simpa using hj);exact hend vs x ⟨Mv.mono hI.mv (fun b hb => .inl (by rcases hb with hb | ⟨hb,_⟩;exact .inl hb;exact .inr hb)),fun j hj pR q9=>hI.val j pR (vC j hj) (fun h=>by
    rcases q9 with h3 | h3
    · rw [h3] at h;cases h
    · exact .inr h3),hI.last (vC e hel)⟩
theorem L8 {id:Nat} {a:Act} {w:World} {l:List Oper} (hm:P.follows .mixedOrders=true) (N:Nat) (ds:List (Option Tmp)) (ws ns:List (List Nat)) (be:List Nat) (e:Nat) (kl:List Bool) (Ps:List (Value→World→Prop)) (O:Nat→Prop) (Pl:Value→World→Prop) (hbe:JO ws e be=true) (hN:a.tmps.size=N) (hok:jm N l.toArray ds ws ns []=true)
 (mE:Ar kl Ps) (K5:oO Pl) (hself:((ws.getD e []).contains e)=false) (hel:e<l.length)
 (hstep:mZ (ym P ds ws ns be e kl Ps O Pl w.drew a) 0 l)
 (hend:∀ (vs:Nat→Value) (x:World),Qx ws e kl Ps O Pl w.drew l.length vs x→Q .normal (aZ ds vs (List.range l.length) a) x):(Code.region id l.toArray true).wp P Q a w :=
 wp_region_any hm (VO N ds ws ns be e kl Ps O Pl hbe hN hok mE K5 hself hel hstep hend)
theorem gD {ds:List (Option Tmp)} {ws ns:List (List Nat)} {be:List Nat} {e:Nat} {kl:List Bool} {Ps:List (Value→World→Prop)} {O:Nat→Prop} {Pl:Value→World→Prop} {w:World} {a:Act} {i:Nat} {o:Oper} (hi:i≠e) (h:∀ (vs:Nat→Value) (x:World),(i∈be→Mv (fun b=>w.heap.size≤b) w x)→(∀ j∈ws.getD i [],j≠e→(kl.getD j false=true→i∈be∨e∈ws.getD j [])→(Ps.getD j dH) (vs j) x)→(e∈ws.getD i []→Pl (vs e) x)→Gives P o (aZ ds vs (ns.getD i []) a) x (GR x (Ps.getD i dH))):ym P ds ws ns be e kl Ps O Pl w a i o:=by
 unfold ym;rw [if_neg hi];exact h
theorem OX {ds:List (Option Tmp)} {ws ns:List (List Nat)} {be:List Nat} {e:Nat} {kl:List Bool} {Ps:List (Value→World→Prop)} {O:Nat→Prop} {Pl:Value→World→Prop} {w:World} {a:Act} {i:Nat} {o:Oper} (hi:i=e) (h:∀ (vs:Nat→Value) (x:World),Mv (fun b=>w.heap.size≤b) w x→(∀ j∈ws.getD i [],(Ps.getD j dH) (vs j) x)→Gives P o (aZ ds vs (ns.getD i []) a) x (fun v y=>Mv (fun b=>w.heap.size≤b∨O b) x y∧Pl v y)):ym P ds ws ns be e kl Ps O Pl w a i o:=by
 unfold ym;rw [if_pos hi];exact h
end
end
end Go.Proofs.YtnobahchcongnaaGreatDoor
