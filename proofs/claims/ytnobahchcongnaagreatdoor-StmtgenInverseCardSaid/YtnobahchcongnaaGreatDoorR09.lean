import Derived.Test.YtnobahchcongnaaGreatDoorR08
set_option linter.unusedSimpArgs false
set_option linter.unusedVariables false
set_option maxRecDepth 100000
set_option maxHeartbeats 25600000
namespace Go.Proofs.YtnobahchcongnaaGreatDoor
open Go.RowKit Go.Instr
mutual
def dz (f:ax) (procs:List bQ):Tree->Bool
 |.mk k _ s l =>
  if k=2\/k=54 then(au f s 1).isSome && mM f procs l
  else if k=3 then(au f s 2).isSome && mM f procs l
  else if k=4\/k=5\/k=44\/k=45\/k=55 then(au f s 3).isSome && mM f procs l
  else if k=50\/k=51 then vM f procs s l
  else mM f procs l
def mM (f:ax) (procs:List bQ):List Tree->Bool
 | []=>true
 |t :: l=>(t.kind == 57 || dz f procs t) && mM f procs l
end
theorem zU (f:ax) (procs:List bQ) (l:List Tree):mM f procs l=l.all λt=>t.kind == 57 || dz f procs t:=by
 induction l with
 |nil=>rw[mM];rfl
 |cons t l ih=>rw[mM,ih];rfl
theorem Zk (sv pv:Value) (f:ax) (procs:List ak):∀ (m:Nat) (x:ae),SizeOf.sizeOf x<=m->∀ w:World,fE w sv f->mg w pv procs->aR w x ->
 Calls Tryz.prog 76 #[.agg #[sv,.int .i64 f.cells,.int .i64 f.stacks,pv],x.val] w (jy w (dz f (procs.map ak.d) x.t)):=by
 intro m
 induction m with
 |zero=>intro x hm;cases x;simp at hm
 |succ m ih =>
  intro x hm w hf hp hx;obtain⟨k,n,s,kv,l⟩:=x;obtain⟨a,cap,rfl,hcap,hlen⟩:=hx.form;obtain⟨fa,fc,rfl,hfc,hfl⟩:=hf.row.form;obtain⟨ga,gc,rfl,hgc,hgl⟩:=hp.row.form;have iB:=ł (λ(y:ae) (hy:y∈l) (w':World) (hg:Grow w w')=>ih y (by have:=ng (k:=k) (n:=n) (s:=s) (kv := .slice a l.length cap) hy;omega) w' (hf.later hg) (hp.later hg) ((hx.row.2.2.2.2 y hy).later hg));have HF:=ł hf;have HP:=ł hp;have HX:=ł hx;clear ih hm hf hp hx;simp only[ae.val,ae.t];by_cases h8:k=2\/k=54\/k=3\/k=4\/k=5\/k=44\/k=45\/k=55
  · obtain⟨q,hq⟩:∃ q:Int,(q=1/\(k=2\/k=54))\/(q=2/\k=3)\/(q=3/\(k=4\/k=5\/k=44\/k=45\/k=55)):=by
     by_cases e1:k=2\/k=54
     · exact⟨1,.inl ⟨rfl,e1⟩⟩
     · by_cases e2:k=3
       · exact⟨2,.inr (.inl ⟨rfl,e2⟩)⟩
       · exact⟨3,.inr (.inr ⟨rfl,by omega⟩)⟩
    clear h8;have hg1:Grow w ((w.alloc (.cells #[.slice fa f.slots.length fc,.int .i64 f.cells,.int .i64 f.stacks,.slice ga procs.length gc] 62)).alloc (.cells #[.int .u8 k,.int .i64 n,.string s,.slice a l.length cap] 24)):=((Mv.refl _ _).alloc _).alloc _;have hU:=aS (heap_alloc_new w (.cells #[.slice fa f.slots.length fc,.int .i64 f.cells,.int .i64 f.stacks,.slice ga procs.length gc] 62)) (.cells #[.int .u8 k,.int .i64 n,.string s,.slice a l.length cap] 24);have hN:=heap_alloc_new (w.alloc (.cells #[.slice fa f.slots.length fc,.int .i64 f.cells,.int .i64 f.stacks,.slice ga procs.length gc] 62)) (.cells #[.int .u8 k,.int .i64 n,.string s,.slice a l.length cap] 24);rw[World.size_alloc]at hN;have df:=ł hg1;have HU:=ł hU;have HN:=ł hN;clear hg1 hU hN;have kK:=ł (RA (.slice fa f.slots.length fc) (.slice ga procs.length gc) f s q ((w.alloc (.cells #[.slice fa f.slots.length fc,.int .i64 f.cells,.int .i64 f.stacks,.slice ga procs.length gc] 62)).alloc (.cells #[.int .u8 k,.int .i64 n,.string s,.slice a l.length cap] 24)) (HF.out.later df.out) ga procs.length gc rfl);have ed:=ł (show(au f s q).isSome=true->dz f (procs.map ak.d) (.mk k n s (ae.ts l))=mM f (procs.map ak.d) (ae.ts l)from λh=>by rcases hq with⟨rfl,rfl|rfl⟩|⟨rfl,rfl⟩|⟨rfl,rfl|rfl|rfl|rfl|rfl⟩ <;> simp[dz,h]);have xL:=ł (show(au f s q).isSome=false->dz f (procs.map ak.d) (.mk k n s (ae.ts l))=false from λh=>by rcases hq with⟨rfl,rfl|rfl⟩|⟨rfl,rfl⟩|⟨rfl,rfl|rfl|rfl|rfl|rfl⟩ <;> simp[dz,h]);generalize dz f (procs.map ak.d) (.mk k n s (ae.ts l))=NB at *;generalize (au f s q).isSome=pb at *;obtain⟨w1,hw1⟩:∃ w1:World,w1=((w.alloc (.cells #[.slice fa f.slots.length fc,.int .i64 f.cells,.int .i64 f.stacks,.slice ga procs.length gc] 62)).alloc (.cells #[.int .u8 k,.int .i64 n,.string s,.slice a l.length cap] 24)):=⟨_,rfl⟩;rw[← hw1]at df HU HN kK;have HW:=ł hw1;clear hw1;rcases hq with⟨rfl,rfl|rfl⟩|⟨rfl,rfl⟩|⟨rfl,rfl|rfl|rfl|rfl|rfl⟩
    all_goals
     go_enter Tryz.func76,Tryz.ntmps76
     go_wp2_with fail;rw[← HW.out];refine kK.out.mono ?_;rintro e w2 ⟨rfl,hg2⟩;have j6:=ł (Mv.trans df.out hg2 (λ_ e=>e.elim));have q9:=ł (ai HU.out hg2);have fK:=ai HN.out hg2;obtain⟨⟨n0,n1⟩,n2,n3⟩:=aC fK;have hln:=lt_of_block fK;clear hg2 fK kK;cases pb with
     |false =>
      have HR:=ł (xL.out rfl);go_wp2_with fail;go_ret;exact⟨aK HR.out.symm,j6.out⟩
     |true =>
     have pE:=ł (ed.out rfl);clear ed;have ed:=pE;clear pE;go_wp2_with fail;clear n0 n1 n2 n3 hln
     go_loopw [44] (λt wr=>∃ j:Nat,t = .int .i64 j/\j<=l.length/\(∀ i (h1:i<l.length),i<j->(l[i].t.kind == 57 || dz f (procs.map ak.d) l[i].t)=true)/\Grow w2 wr) (λt _=>l.length - (intOf t).toNat)
     case atStart=>exact⟨0,rfl,Nat.zero_le _,λi _ h=>by omega,Mv.refl _ _⟩
     obtain⟨j,rfl,hj,hall,hgr⟩:=hrel;have dE:=ł hall;have bS:=ł hgr;have bf:=ł (Mv.trans j6.out hgr (λ_ e=>e.elim));have eU:=ai q9.out hgr;obtain⟨⟨u0,u1⟩,u2,u3⟩:=aC eU;have mX:=lt_of_block eU;clear hall hgr eU;by_cases hlt:j<l.length
     · obtain⟨b,off,cap',e,_,hcc⟩:=(HX.out.row.2.2.2.1.later bf.out).at hlt;simp only[Value.slice.injEq,true_and]at e;obtain⟨rfl,rfl⟩:=e;have bM:=HX.out.row.2.2.2.2 l[j] (List.getElem_mem hlt);have HI:=ł (λw' (h:Grow wr w')=>iB.out l[j] (List.getElem_mem hlt) w' (Mv.trans bf.out h (λ_ e=>e.elim)));have HST:=ł (show((l[j].t.kind == 57 || dz f (procs.map ak.d) l[j].t)=true->∀ i (h1:i<l.length),i<j+1->(l[i].t.kind == 57 || dz f (procs.map ak.d) l[i].t)=true)from λh i h1 hij=>by
        rcases Nat.lt_or_ge i j with h3|h3
        · exact dE.out i h1 h3
        · obtain rfl:i=j:=by omega
          exact h)
       have dV:=ł (show((l[j].t.kind == 57 || dz f (procs.map ak.d) l[j].t)=false->mM f (procs.map ak.d) (ae.ts l)=false)from λh=>by
        rw[zU];exact List.all_eq_false.2 ⟨l[j].t,by rw[ae.gV];exact List.mem_map.2 ⟨l[j],List.getElem_mem hlt,rfl⟩,by rw[h];simp⟩)
       generalize l[j]=y at HST dV HI bM hcc;obtain⟨yk,yn,ys,mE,yl⟩:=y;obtain⟨ya,yc,rfl,-,-⟩:=bM.form;simp only[ae.val]at HI;have c0:=hcc 0 _ rfl;have c1:=hcc 1 _ rfl;have c2:=hcc 2 _ rfl;have c3:=hcc 3 _ rfl;simp only[Nat.add_zero]at c0;have hbl:b<wr.heap.size:=World.block_lt_of_cell? wr _ c0;have aM:=ł (bS.out.alloc (.cells #[.int .u8 yk,.int .i64 yn,.string ys,.slice ya yl.length yc] 24));have dR:=ł (bf.out.alloc (.cells #[.int .u8 yk,.int .i64 yn,.string ys,.slice ya yl.length yc] 24));have HK:=ł (show(ae.mk yk yn ys (.slice ya yl.length yc) yl).t.kind=yk from by simp[ae.t,Tree.kind]);rw[HK.out]at HST dV;by_cases Ak:yk=57
       · subst Ak;have bA:=ł (HST.out (by simp));clear hcc bM;go_wp2_with fail
         go_roundw
         case rel=>exact⟨j+1,by go_num,by omega,bA.out,aM.out⟩
         case measure=>simp[intOf];omega
       · have hkn:(yk != 57)=true:=by simpa using Ak
         have hkn2:(yk == 57)=false:=by simpa using Ak
         have HC:=ł (HI.out (wr.alloc (.cells #[.int .u8 yk,.int .i64 yn,.string ys,.slice ya yl.length yc] 24)) ((Mv.refl _ _).alloc _));rw[hkn2,Bool.false_or]at HST dV;generalize dz f (procs.map ak.d) (ae.mk yk yn ys (.slice ya yl.length yc) yl).t=bv at *;clear hcc bM;go_wp2_with fail;refine HC.out.mono ?_;rintro e w5 ⟨rfl,hg5⟩;have aU:=ł (Mv.trans aM.out hg5 (λ_ e=>e.elim));have di:=ł (Mv.trans dR.out hg5 (λ_ e=>e.elim));clear hg5;cases bv with
         |true =>
          have bA:=ł (HST.out rfl);go_wp2_with fail
          go_roundw
          case rel=>exact⟨j+1,by go_num,by omega,bA.out,aU.out⟩
          case measure=>simp[intOf];omega
         |false =>
          have HR:=ł (show NB=false from by rw[ed.out,dV.out rfl]);go_wp2_with fail;go_ret;exact⟨aK HR.out.symm,di.out⟩
     obtain rfl:j=l.length:=by omega
     have HR:=ł (show NB=true from by
      rw[ed.out,zU];refine List.all_eq_true.2 λt ht => ?_;rw[ae.gV]at ht;obtain⟨x,hx,rfl⟩:=List.mem_map.1 ht;obtain⟨i,hi,rfl⟩:=List.mem_iff_getElem.1 hx;exact dE.out i hi hi)
     go_wp2_with fail;go_ret;exact⟨aK HR.out.symm,bf.out⟩
  have h2:k≠2:=by omega
  have ou:k≠54:=by omega
  have h3:k≠3:=by omega
  have h4:k≠4:=by omega
  have h5:k≠5:=by omega
  have oq:k≠44:=by omega
  have h45:k≠45:=by omega
  have mr:k≠55:=by omega
  clear h8;by_cases h50:k=50
  · subst h50;have hg1:Grow w ((w.alloc (.cells #[.slice fa f.slots.length fc,.int .i64 f.cells,.int .i64 f.stacks,.slice ga procs.length gc] 62)).alloc (.cells #[.int .u8 50,.int .i64 n,.string s,.slice a l.length cap] 24)):=((Mv.refl _ _).alloc _).alloc _;have hU:=aS (heap_alloc_new w (.cells #[.slice fa f.slots.length fc,.int .i64 f.cells,.int .i64 f.stacks,.slice ga procs.length gc] 62)) (.cells #[.int .u8 50,.int .i64 n,.string s,.slice a l.length cap] 24);have hN:=heap_alloc_new (w.alloc (.cells #[.slice fa f.slots.length fc,.int .i64 f.cells,.int .i64 f.stacks,.slice ga procs.length gc] 62)) (.cells #[.int .u8 50,.int .i64 n,.string s,.slice a l.length cap] 24);rw[World.size_alloc]at hN;have df:=ł hg1;have HU:=ł hU;have HN:=ł hN;clear hg1 hU hN;have kK:=ł (Ph (.slice fa f.slots.length fc) (.slice ga procs.length gc) f procs 50 n s (.slice a l.length cap) l ((w.alloc (.cells #[.slice fa f.slots.length fc,.int .i64 f.cells,.int .i64 f.stacks,.slice ga procs.length gc] 62)).alloc (.cells #[.int .u8 50,.int .i64 n,.string s,.slice a l.length cap] 24)) (HF.out.later df.out) (HP.out.later df.out) (HX.out.later df.out));simp only[ae.val]at kK;have HR:=ł (show dz f (procs.map ak.d) (.mk 50 n s (ae.ts l))=vM f (procs.map ak.d) s (ae.ts l)from by simp[dz])
    go_enter Tryz.func76,Tryz.ntmps76
    go_wp2_with fail;generalize ((w.alloc (.cells #[.slice fa f.slots.length fc,.int .i64 f.cells,.int .i64 f.stacks,.slice ga procs.length gc] 62)).alloc (.cells #[.int .u8 50,.int .i64 n,.string s,.slice a l.length cap] 24))=w1 at *;refine kK.out.mono ?_;rintro e w2 ⟨rfl,hg2⟩;have j6:=ł (Mv.trans df.out hg2 (λ_ e=>e.elim));clear hg2;go_wp2_with fail;go_ret;exact⟨aK HR.out.symm,j6.out⟩
  by_cases lh:k=51
  · subst lh;have hg1:Grow w ((w.alloc (.cells #[.slice fa f.slots.length fc,.int .i64 f.cells,.int .i64 f.stacks,.slice ga procs.length gc] 62)).alloc (.cells #[.int .u8 51,.int .i64 n,.string s,.slice a l.length cap] 24)):=((Mv.refl _ _).alloc _).alloc _;have hU:=aS (heap_alloc_new w (.cells #[.slice fa f.slots.length fc,.int .i64 f.cells,.int .i64 f.stacks,.slice ga procs.length gc] 62)) (.cells #[.int .u8 51,.int .i64 n,.string s,.slice a l.length cap] 24);have hN:=heap_alloc_new (w.alloc (.cells #[.slice fa f.slots.length fc,.int .i64 f.cells,.int .i64 f.stacks,.slice ga procs.length gc] 62)) (.cells #[.int .u8 51,.int .i64 n,.string s,.slice a l.length cap] 24);rw[World.size_alloc]at hN;have df:=ł hg1;have HU:=ł hU;have HN:=ł hN;clear hg1 hU hN;have kK:=ł (Ph (.slice fa f.slots.length fc) (.slice ga procs.length gc) f procs 51 n s (.slice a l.length cap) l ((w.alloc (.cells #[.slice fa f.slots.length fc,.int .i64 f.cells,.int .i64 f.stacks,.slice ga procs.length gc] 62)).alloc (.cells #[.int .u8 51,.int .i64 n,.string s,.slice a l.length cap] 24)) (HF.out.later df.out) (HP.out.later df.out) (HX.out.later df.out));simp only[ae.val]at kK;have HR:=ł (show dz f (procs.map ak.d) (.mk 51 n s (ae.ts l))=vM f (procs.map ak.d) s (ae.ts l)from by simp[dz])
    go_enter Tryz.func76,Tryz.ntmps76
    go_wp2_with fail;generalize ((w.alloc (.cells #[.slice fa f.slots.length fc,.int .i64 f.cells,.int .i64 f.stacks,.slice ga procs.length gc] 62)).alloc (.cells #[.int .u8 51,.int .i64 n,.string s,.slice a l.length cap] 24))=w1 at *;refine kK.out.mono ?_;rintro e w2 ⟨rfl,hg2⟩;have j6:=ł (Mv.trans df.out hg2 (λ_ e=>e.elim));clear hg2;go_wp2_with fail;go_ret;exact⟨aK HR.out.symm,j6.out⟩
  have hr2:(k == 2)=false:=by simpa using h2
  have abq:(k == 54)=false:=by simpa using ou
  have hr3:(k == 3)=false:=by simpa using h3
  have hr4:(k == 4)=false:=by simpa using h4
  have qZ:(k == 5)=false:=by simpa using h5
  have abm:(k == 44)=false:=by simpa using oq
  have abn:(k == 45)=false:=by simpa using h45
  have abr:(k == 55)=false:=by simpa using mr
  have abo:(k == 50)=false:=by simpa using h50
  have abp:(k == 51)=false:=by simpa using lh
  have hg1:Grow w ((w.alloc (.cells #[.slice fa f.slots.length fc,.int .i64 f.cells,.int .i64 f.stacks,.slice ga procs.length gc] 62)).alloc (.cells #[.int .u8 k,.int .i64 n,.string s,.slice a l.length cap] 24)):=((Mv.refl _ _).alloc _).alloc _;have hU:=aS (heap_alloc_new w (.cells #[.slice fa f.slots.length fc,.int .i64 f.cells,.int .i64 f.stacks,.slice ga procs.length gc] 62)) (.cells #[.int .u8 k,.int .i64 n,.string s,.slice a l.length cap] 24);have hN:=heap_alloc_new (w.alloc (.cells #[.slice fa f.slots.length fc,.int .i64 f.cells,.int .i64 f.stacks,.slice ga procs.length gc] 62)) (.cells #[.int .u8 k,.int .i64 n,.string s,.slice a l.length cap] 24);rw[World.size_alloc]at hN;have df:=ł hg1;have HU:=ł hU;have HN:=ł hN;clear hg1 hU hN;have ed:=ł (show dz f (procs.map ak.d) (.mk k n s (ae.ts l))=mM f (procs.map ak.d) (ae.ts l)from by simp[dz,h2,ou,h3,h4,h5,oq,h45,mr,h50,lh]);have j6:=df;have q9:=HU;obtain⟨⟨n0,n1⟩,n2,n3⟩:=aC HN.out;have hln:=lt_of_block HN.out;clear h2 ou h3 h4 h5 oq h45 mr h50 lh
  go_enter Tryz.func76,Tryz.ntmps76
  go_wp2_with fail;clear n0 n1 n2 n3 hln;generalize ((w.alloc (.cells #[.slice fa f.slots.length fc,.int .i64 f.cells,.int .i64 f.stacks,.slice ga procs.length gc] 62)).alloc (.cells #[.int .u8 k,.int .i64 n,.string s,.slice a l.length cap] 24))=w1 at *
  go_loopw [44] (λt wr=>∃ j:Nat,t = .int .i64 j/\j<=l.length/\(∀ i (h1:i<l.length),i<j->(l[i].t.kind == 57 || dz f (procs.map ak.d) l[i].t)=true)/\Grow w1 wr) (λt _=>l.length - (intOf t).toNat)
  case atStart=>exact⟨0,rfl,Nat.zero_le _,λi _ h=>by omega,Mv.refl _ _⟩
  obtain⟨j,rfl,hj,hall,hgr⟩:=hrel;have dE:=ł hall;have bS:=ł hgr;have bf:=ł (Mv.trans j6.out hgr (λ_ e=>e.elim));have eU:=ai q9.out hgr;obtain⟨⟨u0,u1⟩,u2,u3⟩:=aC eU;have mX:=lt_of_block eU;clear hall hgr eU;by_cases hlt:j<l.length
  · obtain⟨b,off,cap',e,_,hcc⟩:=(HX.out.row.2.2.2.1.later bf.out).at hlt;simp only[Value.slice.injEq,true_and]at e;obtain⟨rfl,rfl⟩:=e;have bM:=HX.out.row.2.2.2.2 l[j] (List.getElem_mem hlt);have HI:=ł (λw' (h:Grow wr w')=>iB.out l[j] (List.getElem_mem hlt) w' (Mv.trans bf.out h (λ_ e=>e.elim)));have HST:=ł (show((l[j].t.kind == 57 || dz f (procs.map ak.d) l[j].t)=true->∀ i (h1:i<l.length),i<j+1->(l[i].t.kind == 57 || dz f (procs.map ak.d) l[i].t)=true)from λh i h1 hij=>by
     rcases Nat.lt_or_ge i j with h3|h3
     · exact dE.out i h1 h3
     · obtain rfl:i=j:=by omega
       exact h)
    have dV:=ł (show((l[j].t.kind == 57 || dz f (procs.map ak.d) l[j].t)=false->mM f (procs.map ak.d) (ae.ts l)=false)from λh=>by
     rw[zU];exact List.all_eq_false.2 ⟨l[j].t,by rw[ae.gV];exact List.mem_map.2 ⟨l[j],List.getElem_mem hlt,rfl⟩,by rw[h];simp⟩)
    generalize l[j]=y at HST dV HI bM hcc;obtain⟨yk,yn,ys,mE,yl⟩:=y;obtain⟨ya,yc,rfl,-,-⟩:=bM.form;simp only[ae.val]at HI;have c0:=hcc 0 _ rfl;have c1:=hcc 1 _ rfl;have c2:=hcc 2 _ rfl;have c3:=hcc 3 _ rfl;simp only[Nat.add_zero]at c0;have hbl:b<wr.heap.size:=World.block_lt_of_cell? wr _ c0;have aM:=ł (bS.out.alloc (.cells #[.int .u8 yk,.int .i64 yn,.string ys,.slice ya yl.length yc] 24));have dR:=ł (bf.out.alloc (.cells #[.int .u8 yk,.int .i64 yn,.string ys,.slice ya yl.length yc] 24));have HK:=ł (show(ae.mk yk yn ys (.slice ya yl.length yc) yl).t.kind=yk from by simp[ae.t,Tree.kind]);rw[HK.out]at HST dV;by_cases Ak:yk=57
    · subst Ak;have bA:=ł (HST.out (by simp));clear hcc bM;go_wp2_with fail
      go_roundw
      case rel=>exact⟨j+1,by go_num,by omega,bA.out,aM.out⟩
      case measure=>simp[intOf];omega
    · have hkn:(yk != 57)=true:=by simpa using Ak
      have hkn2:(yk == 57)=false:=by simpa using Ak
      have HC:=ł (HI.out (wr.alloc (.cells #[.int .u8 yk,.int .i64 yn,.string ys,.slice ya yl.length yc] 24)) ((Mv.refl _ _).alloc _));rw[hkn2,Bool.false_or]at HST dV;generalize dz f (procs.map ak.d) (ae.mk yk yn ys (.slice ya yl.length yc) yl).t=bv at *;clear hcc bM;go_wp2_with fail;refine HC.out.mono ?_;rintro e w5 ⟨rfl,hg5⟩;have aU:=ł (Mv.trans aM.out hg5 (λ_ e=>e.elim));have di:=ł (Mv.trans dR.out hg5 (λ_ e=>e.elim));clear hg5;cases bv with
      |true =>
       have bA:=ł (HST.out rfl);go_wp2_with fail
       go_roundw
       case rel=>exact⟨j+1,by go_num,by omega,bA.out,aU.out⟩
       case measure=>simp[intOf];omega
      |false =>
       have HR:=ł (show dz f (procs.map ak.d) (.mk k n s (ae.ts l))=false from by rw[ed.out,dV.out rfl]);go_wp2_with fail;go_ret;exact⟨aK HR.out.symm,di.out⟩
  obtain rfl:j=l.length:=by omega
  have HR:=ł (show dz f (procs.map ak.d) (.mk k n s (ae.ts l))=true from by
   rw[ed.out,zU];refine List.all_eq_true.2 λt ht => ?_;rw[ae.gV]at ht;obtain⟨x,hx,rfl⟩:=List.mem_map.1 ht;obtain⟨i,hi,rfl⟩:=List.mem_iff_getElem.1 hx;exact dE.out i hi hi)
  go_wp2_with fail;go_ret;exact⟨aK HR.out.symm,bf.out⟩
theorem Zl (sv pv:Value) (f:ax) (procs:List ak) (x:ae) (w:World) (hf:fE w sv f) (hp:mg w pv procs) (hx:aR w x) :
 Calls Tryz.prog 76 #[.agg #[sv,.int .i64 f.cells,.int .i64 f.stacks,pv],x.val] w (jy w (dz f (procs.map ak.d) x.t)):=Zk sv pv f procs _ x (Nat.le_refl _) w hf hp hx
end Go.Proofs.YtnobahchcongnaaGreatDoor
