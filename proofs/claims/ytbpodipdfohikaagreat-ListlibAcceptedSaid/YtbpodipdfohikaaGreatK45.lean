import Derived.Test.YtbpodipdfohikaaGreatK44
import Derived.Below
set_option linter.unusedSimpArgs false
set_option linter.unusedVariables false
set_option maxRecDepth 100000
set_option maxHeartbeats 25600000
namespace Go.Proofs.YtbpodipdfohikaaGreat
open Go.RowKit Go.Instr
def EI (kd:Int) (nm:ByteArray):jW:=⟨[bF sA,bF sB],eG,gz [jb kd nm]⟩
theorem Xr (kd:Int) (nm:ByteArray) (hk:kd=50\/kd=51) (hn:nm=jy\/nm=jU):(EI kd nm).okB=true/\(EI kd nm).faults=0:=by
 rcases hk with rfl|rfl <;> rcases hn with rfl|rfl <;> constructor <;> decide +kernel
theorem Ya {B:Nat} {kd:Int} {nm:ByteArray} {A G:List Int} {y:World} {p:aB} {cv:Value} {res:Except Int ai} {g:Nat} (h:pz B y p kd nm) (hc:Vs y cv [A,G]) (hk:kd=50\/kd=51) (hn:nm=jy\/nm=jU) (hA:A.length<=1000) (hG:G.length<=1000)
 (hex:exec eG 100000 g (.stmts [jb kd nm]) false (s0 A G)=some res) (hout:∀ s',res = .ok s'->s'.base.locals=0/\s'.base.vars.length<=900000) :
 Calls Tryz.prog 21 #[p.val,.agg #[cv,.slice none 0 0,.slice none 0 0],.int .i64 100000] y (Pk y res):=by
 have hd:p.d=EI kd nm:=by
  have h1:=h.names
  have h2:=h.lib.d
  have h3:=h.t
  obtain⟨vars,vv,procs,pv,m⟩:=p
  simp only[aB.d,EI]at h1 h2 h3 ⊢
  rw[h1,h2,h3]
 obtain⟨hok,hfa⟩:=Xr kd nm hk hn
 rw[← hd]at hok hfa
 have HST:=λz (hz:Grow y z)=>V5 p cv [A,G] 100000 1000 g z res (h.prog.later hz) (λq hq=>((h.lib.body q hq).later hz).weak (λ_ _ _=>trivial)) ((h.main.later hz).weak (λ_ _ _=>trivial)) (λq hq=>(h.lib.params q hq).1) hok hfa (hc.later hz) (by rw[h.names];decide) (by rw[h.names];rfl) (λi hi=>by
  have:∀ v∈p.vars,v.kind=3:=by rw[h.names];decide
  exact this _ (List.getElem_mem hi)) (λi hi=>by
  have:∀ l∈[A,G],l.length<=1000:=λl hl=>by simp at hl;rcases hl with rfl|rfl <;> assumption
  exact this _ (List.getElem_mem hi)) (by rw[h.names];decide) (by decide) (by decide) (by rw[h.lib.d,h.t,h.names];exact hex) hout
 obtain⟨ca,cc,rfl⟩:=hc.form
 obtain⟨⟨gv,hvv,-⟩,pa,pc,hpv⟩:=And.intro h.blk h.lib.form
 have hnm:=h.names
 obtain⟨vars,vv,procs,pv,⟨mk,mn,ms,mv,ml⟩⟩:=p
 have hmain:aL (λb=>B<=b) y (.mk mk mn ms mv ml):=h.main
 obtain⟨ma,mc,hmv,-,-⟩:=hmain.at.form
 simp only at hvv hpv hnm
 subst hvv hpv hmv hnm
 simp only[aB.val]at HST ⊢
 exact Ul [bF sA,bF sB] (some ⟨gv,0,none⟩) 2 procs pa pc mk mn ms ma ml mc ca 2 cc 100000 y res HST
def _j (w:World) (R:Except Int (List Int × List Int)) (e:Ending) (w':World):Prop:=match R with
 |.ok q=>∃ va ca vb cb,e = .returned (.tuple #[.slice va q.1.length ca,.slice vb q.2.length cb,.int .i64 0])/\ay 1 aU w' (.slice va q.1.length ca) q.1/\ay 1 aU w' (.slice vb q.2.length cb) q.2/\Grow w w'
 |.error n=>n≠0/\e = .returned (.tuple #[.slice none 0 0,.slice none 0 0,.int .i64 n])/\Grow w w'
set_option maxRecDepth 100000 in
set_option maxHeartbeats 12800000 in
theorem Es (kd:Int) (nm:ByteArray) (va vb:Value) (A G:List Int) (R:Except Int (List Int × List Int)) (w:World) (ha:ay 1 aU w va A) (hb:ay 1 aU w vb G) (hk:kd=50\/kd=51) (hn:nm=jy\/nm=jU) (hA:A.length<=1000) (hG:G.length<=1000)
 (hR:Ae (exec eG 100000 1022 (.stmts [jb kd nm]) false (s0 A G)) R) :
 Calls Tryz.prog 10 #[.int .u8 kd,.string nm,va,vb] w (_j w R):=by
 obtain⟨aa,ac,rfl,-,-⟩:=ha.form
 obtain⟨ba,bc,rfl,-,-⟩:=hb.form
 have sW:=Lib.hid (Eg kd nm w (by omega) (by rcases hn with rfl|rfl <;> decide))
 have bT:Hid (∃ res,exec eG 100000 1022 (.stmts [jb kd nm]) false (s0 A G)=some res/\(∀ s',res = .ok s'->s'.base.locals=0/\s'.base.vars.length<=900000)/\((∃ s' q,res = .ok s'/\R = .ok q/\s'.outs=[q.1,q.2])\/∃ n,res = .error n/\R = .error n)):=by
  refine Lib.hid ?_
  cases R with
  |error n=>exact⟨_,hR,(λs' e=>by cases e),.inr ⟨n,rfl,rfl⟩⟩
  |ok q =>
   obtain⟨C',st',h1,h2,h3,h4⟩:=hR
   refine⟨_,h1,λs' e => ?_,.inl ⟨_,q,rfl,rfl,?_⟩⟩
   · cases e;exact⟨rfl,Nat.le_of_ble_eq_true rfl⟩
   · show[C'.getD 0 [],C'.getD 1 []]=_
     simp[List.getD,h2,h3]
 have HA:=Lib.hid (And.intro ha hb)
 have HP:=Lib.hid (And.intro (And.intro hk hn) (And.intro hA hG))
 clear ha hb hk hn hA hG hR
 go_enter Tryz.func10,Tryz.ntmps10
 go_wp2_with fail
 refine sW.out.mono ?_
 clear sW
 rintro e w2 ⟨p,rfl,⟨B,fU,-⟩,hg⟩
 obtain⟨res,hex,hout,hcases⟩:=bT.out
 have hg3:Grow w2 (w2.alloc (.cells #[.slice aa A.length ac,.slice ba G.length bc] 22)):=(Mv.refl _ _).alloc _
 have hvs:Vs (w2.alloc (.cells #[.slice aa A.length ac,.slice ba G.length bc] 22)) (.slice (some ⟨w2.heap.size,0,none⟩) 2 2) [A,G]:=by
  refine⟨[.slice aa A.length ac,.slice ba G.length bc],rfl,ay.dF (f:=rq) (l:=[.slice aa A.length ac,.slice ba G.length bc]) Er (heap_alloc_new w2 _) (by rfl) (Nat.le_of_ble_eq_true rfl),λi h1 h2 => ?_⟩
  have h3:i=0\/i=1:=by simp at h1;omega
  rcases h3 with rfl|rfl
  · exact(HA.out.1.later hg).later hg3
  · exact(HA.out.2.later hg).later hg3
 have HF:=Lib.hid (Ya (fU.later hg3) hvs HP.out.1.1 HP.out.1.2 HP.out.2.1 HP.out.2.2 hex hout)
 have aA:=Lib.hid (gtr hg hg3)
 have SI:=Lib.hid hcases
 obtain⟨⟨gv,hvv,-⟩,pa,pc,hpv⟩:=And.intro fU.blk fU.lib.form
 obtain⟨vars,vv,procs,pv,⟨mk,mn,ms,mv,ml⟩⟩:=p
 have hmain:aL (λb=>B<=b) w2 (.mk mk mn ms mv ml):=fU.main
 obtain⟨ma,mc,hmv,-,-⟩:=hmain.at.form
 simp only at hvv hpv
 subst hvv hpv hmv
 simp only[aB.val]at HF ⊢
 clear hg hg3 hvs fU hmain bT hex hout hcases
 go_wp2_with fail
 refine HF.out.mono ?_
 clear HF
 intro e w4 hq
 rcases SI.out with⟨s',q,rfl,rfl,ho⟩|⟨n,rfl,rfl⟩
 · obtain⟨M,steps,us,rfl,hu,hl⟩:=hq
   have HL2:=Lib.hid (show us.length=2 from by rw[hl,ho];rfl)
   rw[ho]at hu
   have hvs:=hu.all (by rw[hl,ho]) (Nat.le_of_ble_eq_true rfl)
   obtain⟨b0,o0,e0,la,lc,d0,r0⟩:=hvs.at (i:=0) (Nat.le_of_ble_eq_true rfl)
   obtain⟨b1,o1,e1,lb,ld,d1,r1⟩:=hvs.at (i:=1) (Nat.le_of_ble_eq_true rfl)
   cases e0
   cases e1
   simp only[ho,List.length_cons,List.length_nil,Nat.zero_add,Nat.reduceAdd]
   simp only[List.getElem_cons_zero,List.getElem_cons_succ,Nat.zero_add]at d0 d1 r0 r1
   have hg4:Grow w4 (w4.alloc (.cells #[.slice (some ⟨M,0,none⟩) 2 2,.slice none 0 0,.slice none 0 0,.int .i64 steps,.int .i64 0] 56)):=(Mv.refl _ _).alloc _
   have DR:=Lib.hid (heap_alloc_new w4 (.cells #[.slice (some ⟨M,0,none⟩) 2 2,.slice none 0 0,.slice none 0 0,.int .i64 steps,.int .i64 0] 56))
   have d0:=cZ d0 hg4
   have d1:=cZ d1 hg4
   have HR0:=Lib.hid (r0.later hg4)
   have HR1:=Lib.hid (r1.later hg4)
   have bG:=Lib.hid (gtr (gtr aA.out hu.g) hg4)
   obtain⟨⟨c0,c1,c2⟩,c3,c4⟩:=nK DR.out
   have hbl:=lt_of_block DR.out
   have hdl:=World.block_lt_of_cell? _ _ d0
   simp only at hdl
   obtain⟨q1,q2⟩:=q
   clear hu hl hvs r0 r1 ho hg4 aA SI
   go_wp2_with fail
   go_region
   go_wp2_with fail
   exact bodyPost_ret (v := .tuple #[.slice la q1.length lc,.slice lb q2.length ld,.int .i64 0]) (by simp[results,Tryz.results10,go_sem]) rfl ⟨_,_,_,_,rfl,HR0.out.later (Mv.refl _ _).drew,HR1.out.later (Mv.refl _ _).drew,bG.out.drew⟩
 · obtain⟨hn0,⟨a,m,c,rfl⟩,hg⟩:=hq
   have HN:=Lib.hid hn0
   have bA:=Lib.hid (gtr aA.out hg)
   have hne:(n != 0)=true:=by simpa using hn0
   clear hn0 hg aA
   have DR:=Lib.hid (heap_alloc_new w4 (.cells #[.slice a m c,.slice none 0 0,.slice none 0 0,.int .i64 0,.int .i64 n] 56))
   obtain⟨⟨c0,c1,c2⟩,c3,c4⟩:=nK DR.out
   have hbl:=lt_of_block DR.out
   have bG:=Lib.hid (bA.out.alloc (.cells #[.slice a m c,.slice none 0 0,.slice none 0 0,.int .i64 0,.int .i64 n] 56))
   go_wp2_with fail
   go_region
   go_wp2_with fail
   exact bodyPost_ret (v := .tuple #[.slice none 0 0,.slice none 0 0,.int .i64 n]) (by simp[results,Tryz.results10,go_sem]) rfl ⟨HN.out,rfl,bG.out.drew⟩
attribute [local go_sem ↓] gD
theorem G7 {w:World} {a:Option Addr} {n c:Nat} {l:List Int} (h:ay 1 aU w (.slice a n c) l) {i:Nat} (hi:i<l.length):∃ b o,a=some ⟨b,o,none⟩/\w.cell? ⟨b,o+i,none⟩=some (.int .i64 l[i])/\b<w.heap.size:=by
 obtain⟨b,o,cap,e,_,hc⟩:=h.at hi
 simp only[Value.slice.injEq]at e
 obtain⟨rfl,-,-⟩:=e
 have c0:=hc 0 _ rfl
 simp only[Nat.add_zero,Nat.mul_one]at c0
 exact⟨b,o,rfl,c0,World.block_lt_of_cell? w _ c0⟩
set_option maxRecDepth 100000 in
set_option maxHeartbeats 6400000 in
theorem Et (va:Option Addr) (ca:Nat) (vb:Option Addr) (cb:Nat) (A B:List Int) (w:World) (ha:ay 1 aU w (.slice va A.length ca) A) (hb:ay 1 aU w (.slice vb B.length cb) B) (hl:A.length<=900000) (hl2:B.length<=900000) :
 Calls Tryz.prog 12 #[.slice va A.length ca,.slice vb B.length cb] w (eP w (A == B)):=by
 by_cases hlen:A.length=B.length
 · have HA:=Lib.hid ha
   have HB:=Lib.hid hb
   have xP:=Lib.hid hlen
   have Dt:=Lib.hid (show ∀ k (h:k<A.length) (h':k<B.length),A[k]≠B[k]->(A == B)=false from λk h h' hn=>by
    apply Bool.eq_false_iff.2
    intro e
    have:=eq_of_beq e
    subst this
    exact hn rfl)
   have ym:=Lib.hid (show(∀ k (h:k<A.length) (h':k<B.length),A[k]=B[k])->(A == B)=true from λh=>by
    rw[beq_iff_eq]
    exact List.ext_getElem hlen h)
   have hne:((A.length:Int) != B.length)=false:=by simp[hlen]
   clear ha hb
   rw[← hlen]at hne HB ⊢
   clear hlen
   go_enter Tryz.func12,Tryz.ntmps12
   go_wp2_with fail
   go_loopw [5] (λt wr=>∃ k:Nat,t = .int .i64 k/\k<=A.length/\Grow w wr/\∀ j (h:j<A.length) (h':j<B.length),j<k->A[j]=B[j]) (λt _=>A.length - (intOf t).toNat)
   case atStart=>exact⟨0,rfl,Nat.zero_le _,Mv.refl _ _,λj h h' hj=>by omega⟩
   obtain⟨k,rfl,hk,hg,hall⟩:=hrel
   have HG:=Lib.hid hg
   have HK:=Lib.hid hall
   clear hg hall
   by_cases hlt:k<A.length
   · have h1:k<A.length:=hlt
     have h2:k<B.length:=by have:=xP.out;omega
     obtain⟨b1,o1,rfl,c1,l1⟩:=G7 (HA.out.later HG.out) h1
     obtain⟨b2,o2,rfl,c2,l2⟩:=G7 (HB.out.later HG.out) h2
     have HE:=Lib.hid (Dt.out k h1 h2)
     have HS:=Lib.hid (show A[k]=B[k]->∀ j (h:j<A.length) (h':j<B.length),j<k+1->A[j]=B[j]from λe j h h' hj=>by
      rcases Nat.lt_or_ge j k with hj1|hj1
      · exact HK.out j h h' hj1
      · obtain rfl:j=k:=by omega
        exact e)
     generalize A[k]=x at *
     generalize B[k]=y at *
     clear h1 h2
     by_cases hxy:x=y
     · have HS2:=Lib.hid (HS.out hxy)
       have hb:(x != y)=false:=by simp[hxy]
       clear HE HS hxy
       go_wp2_with fail
       go_region
       go_wp2_with fail
       go_roundw
       case rel=>exact⟨k+1,by go_num,by omega,HG.out.drew,HS2.out⟩
       case measure=>(simp[intOf] <;> omega)
     · have HE2:=Lib.hid (HE.out hxy)
       have hb:(x != y)=true:=by simp[hxy]
       clear HE HS hxy
       go_wp2_with fail
       go_region
       go_wp2_with fail
       go_ret
       rw[HE2.out]
       exact⟨rfl,HG.out.drew⟩
   · obtain rfl:k=A.length:=by omega
     have HT:=Lib.hid (ym.out (λj h h'=>HK.out j h h' h))
     clear Dt ym HK hlt
     go_wp2_with fail
     go_ret
     rw[HT.out]
     exact⟨rfl,HG.out⟩
 · have HF:=Lib.hid (show(A == B)=false from by
    apply Bool.eq_false_iff.2
    intro e
    exact hlen (congrArg List.length (eq_of_beq e)))
   have hne:((A.length:Int) != B.length)=true:=by
    have:(A.length:Int)≠B.length:=by omega
    simpa using this
   clear ha hb hlen
   go_enter Tryz.func12,Tryz.ntmps12
   go_wp2_with fail
   go_ret
   rw[HF.out]
   exact⟨rfl,Mv.refl _ _⟩
def Oc (w:World) (r:Option (List Int)) (e:Ending) (w':World):Prop:=match r with
 |none=>e = .returned (.tuple #[.slice none 0 0,.int .i64 5])/\Grow w w'
 |some l=>∃ a c,e = .returned (.tuple #[.slice a l.length c,.int .i64 0])/\ay 1 aU w' (.slice a l.length c) l/\Grow w w'
def zV (A G:List Int):Option (List Int):=if A.length+G.length+1<=1000 then some (G ++ A.reverse ++ [(A.length:Int)])else none
set_option maxRecDepth 100000 in
set_option maxHeartbeats 6400000 in
theorem U5 (va:Option Addr) (ca:Nat) (vb:Option Addr) (cb:Nat) (A G:List Int) (w:World) (ha:ay 1 aU w (.slice va A.length ca) A) (hb:ay 1 aU w (.slice vb G.length cb) G) (hl:A.length<=1000) (hl2:G.length<=1000) :
 Calls Tryz.prog 11 #[.slice va A.length ca,.slice vb G.length cb] w (Oc w (zV A G)):=by
 by_cases hle:A.length+G.length+1<=1000
 · have HR:=Lib.hid (show zV A G=some (G ++ A.reverse ++ [(A.length:Int)])from if_pos hle)
   have HA:=Lib.hid ha
   obtain⟨a1,c1,w1,⟨hok,jh,haw⟩,hr1,hg1⟩:=Mj Tryz.xu (f:=aU) jk (.slice vb G.length cb) G w.heap.size (w.alloc (.cells #[] 3)) (heap_alloc_new w _) (hb.later ((Mv.refl _ _).alloc _)) (λy hy u hu=>by simp[aU]at hu;subst hu;rfl) (by omega)
   have aj:=Lib.hid (gtr ((Mv.refl (λ_=>False) w).alloc (.cells #[] 3)) hg1)
   have HR1:=Lib.hid hr1
   have hd:decide ((1000:Int)<(A.length:Int)+G.length+1)=false:=by simp;omega
   clear ha hb hr1 hg1
   generalize zV A G=R at *
   go_enter Tryz.func11,Tryz.ntmps11
   go_wp2_with fail
   clear hok jh haw
   go_loopw [6,7] (λlv t wr=>∃ (k:Nat) (L:List Int),t = .int .i64 ((A.length:Int) - 1 - k)/\k<=A.length/\L=G ++ (A.reverse.take k)/\Grow w wr/\wr.ownsRow w.heap.size 3 1 lv L.length (flat aU L)) (λ_ t _=>(intOf t+1).toNat)
   case atStart=>exact⟨0,G,by simp,Nat.zero_le _,by simp,aj.out,HR1.out⟩
   obtain⟨k,L,rfl,hk,hL,hg,hrow⟩:=hrel
   have HG:=Lib.hid hg
   have HW:=Lib.hid hrow
   have HL:=Lib.hid hL
   obtain⟨ra,rc,fO⟩:=dX hrow
   subst fO
   have AV:=Lib.hid (show L.length<=1000 from by rw[hL];simp;omega)
   clear hg hrow hL aj HR1
   by_cases hlt:k<A.length
   · have hge:decide ((0:Int)<=(A.length:Int) - 1 - k)=true:=by simp;omega
     obtain⟨j,hj⟩:∃ j:Nat,(A.length:Int) - 1 - k=j:=⟨A.length - 1 - k,by omega⟩
     have hjl:j<A.length:=by omega
     obtain⟨b1,o1,rfl,c1,l1⟩:=G7 (HA.out.later HG.out) hjl
     have HX:=Lib.hid (show L ++ [A[j]]=G ++ A.reverse.take (k+1)from by
      rw[List.take_succ_eq_append_getElem (by simpa using hlt),HL.out,List.append_assoc,List.getElem_reverse]
      congr 3
      have:A.length - 1 - k=j:=by omega
      simp only[this])
     have hgx:Grow wr (wr.alloc (.cells #[.int .i64 A[j]] 3)):=(Mv.refl _ _).alloc _
     obtain⟨a',c',w2,⟨hok,jh,haw⟩,hr2,hm2,-⟩:=kz Tryz.xu (f:=aU) jk (.slice ra L.length rc) (.slice (some ⟨wr.heap.size,0,none⟩) 1 1) L [A[j]] w.heap.size (wr.alloc (.cells #[.int .i64 A[j]] 3)) (bu HW.out hgx (λ_ _ e=>e)) (ay.dF (f:=aU) (l:=[A[j]]) jk (heap_alloc_new wr _) (by simp[flat,aU]) (Nat.le_of_ble_eq_true rfl)) (λy hy u hu=>by simp[aU]at hu;subst hu;rfl) (gtr HG.out hgx).size (by have:=AV.out;simp;omega)
     have HN:=Lib.hid (And.intro (bM (gtr HG.out hgx) hm2 (λb e=>(bP HW.out b e).1)) hr2)
     clear hgx hr2 hm2
     simp only[List.length_append,List.length_cons,List.length_nil,Nat.zero_add]at HN
     rw[hj]
     have HJ:=Lib.hid hj
     have hj0:decide ((0:Int)<=(j:Int))=true:=by simp
     clear hge hj hle
     generalize A[j]=x at *
     have hLn:=AV.out
     have hbd:(j:Int)<(A.length:Nat):=by omega
     go_wp2_with fail
     go_roundw
     case rel=>exact⟨k+1,L ++ [x],by have:=HJ.out;simp only[Value.int.injEq,true_and];omega,by omega,HX.out,HN.out.1,by have:=HN.out.2;simpa using this⟩
     case measure=>(simp[intOf] <;> omega)
   · obtain rfl:k=A.length:=by omega
     have hge:decide ((0:Int)<=(A.length:Int) - 1 - A.length)=false:=by simp;omega
     have HX:=Lib.hid (show L ++ [(A.length:Int)]=G ++ A.reverse ++ [(A.length:Int)]from by rw[HL.out,List.take_of_length_le (by simp)])
     have hgx:Grow wr (wr.alloc (.cells #[.int .i64 (A.length:Nat)] 3)):=(Mv.refl _ _).alloc _
     obtain⟨a',c',w2,⟨hok,jh,haw⟩,hr2,hm2,-⟩:=kz Tryz.xu (f:=aU) jk (.slice ra L.length rc) (.slice (some ⟨wr.heap.size,0,none⟩) 1 1) L [(A.length:Int)] w.heap.size (wr.alloc (.cells #[.int .i64 (A.length:Nat)] 3)) (bu HW.out hgx (λ_ _ e=>e)) (ay.dF (f:=aU) (l:=[(A.length:Int)]) jk (heap_alloc_new wr _) (by simp[flat,aU]) (Nat.le_of_ble_eq_true rfl)) (λy hy u hu=>by simp[aU]at hu;subst hu;rfl) (gtr HG.out hgx).size (by have:=AV.out;simp;omega)
     have HN:=Lib.hid (And.intro (bM (gtr HG.out hgx) hm2 (λb e=>(bP HW.out b e).1)) (dW jk hr2))
     clear hgx hr2 hm2
     simp only[List.length_append,List.length_cons,List.length_nil,Nat.zero_add]at HN
     have HY:=Lib.hid (show Oc w (some (L ++ [(A.length:Int)])) (.returned (.tuple #[.slice a' (L.length+1) c',.int .i64 0])) w2 from⟨a',c',by simp,by have:=HN.out.2;simpa using this,HN.out.1⟩)
     rw[HX.out]at HY
     clear HX HN HW HL
     have hLn:=AV.out
     go_wp2_with fail
     go_ret2
     rw[HR.out]
     exact HY.out
 · have HR:=Lib.hid (show zV A G=none from if_neg hle)
   have hd:decide ((1000:Int)<(A.length:Int)+G.length+1)=true:=by simp;omega
   clear ha hb hle
   generalize zV A G=R at *
   go_enter Tryz.func11,Tryz.ntmps11
   go_wp2_with fail
   go_ret2
   rw[HR.out]
   exact⟨rfl,Mv.refl _ _⟩
set_option maxRecDepth 100000 in
set_option maxHeartbeats 6400000 in
theorem V9 (va:Option Addr) (ca:Nat) (vb:Option Addr) (cb n m:Nat) (w:World) (hn:n<=9223372036854775807) (hm:m<=9223372036854775807):Calls Tryz.prog 9 #[.slice va n ca,.slice vb m cb] w λe w'=>e = .returned (.bool (decide (1000<n) || decide (1000<m)))/\w=w':=by
 by_cases h1:1000<n
 · have hd:decide ((1000:Int)<n)=true:=by simp;omega
   have h2:decide (1000<n)=true:=by simpa using h1
   go_enter Tryz.func9,Tryz.ntmps9
   go_wp2_with fail
   go_ret
   rw[h2]
   exact⟨rfl,rfl⟩
 · have hd:decide ((1000:Int)<n)=false:=by simp;omega
   have h2:decide (1000<n)=false:=by simpa using h1
   have h3:decide ((1000:Int)<m)=decide (1000<m):=by
    by_cases h:1000<m
    · rw[decide_eq_true h,decide_eq_true (by omega)]
    · rw[decide_eq_false h,decide_eq_false (by omega)]
   rw[h2,← h3]
   clear h1 h2 h3
   go_enter Tryz.func9,Tryz.ntmps9
   go_wp2_with fail
   go_ret
   exact⟨by simp,rfl⟩
theorem xe {w:World} {g:Nat} {cs:Array Value} (l:List Int) (h:w.heap[g]? = some (.cells cs 3 (0,0))) (hc:cs.toList=flat aU l) (hl:l.length<=9223372036854775807):ay 1 aU w (.slice (some ⟨g,0,none⟩) l.length l.length) l:=ay.dF (f:=aU) jk h hc hl
set_option maxRecDepth 100000 in
set_option maxHeartbeats 12800000 in
theorem Bu (w:World):Calls Tryz.prog 8 #[] w (eP w true):=by
 have hE1:Ae (exec eG 100000 1022 (.stmts [jb 50 jy]) false (s0 [1,2] [7])) (.ok ([1,2],[7,1,2])):=by
  have:=Xn (A:=[1,2]) (G:=[7]) (Nat.le_of_ble_eq_true rfl)
  rwa[show Ac [1,2] [7] = .ok ([1,2],[7,1,2])from by rw[Xm _ _ (Nat.le_of_ble_eq_true rfl) (Nat.le_of_ble_eq_true rfl)];rfl]at this
 have hE2:Ae (exec eG 100000 1022 (.stmts [jb 50 jU]) false (s0 [1,2] [7])) (.ok ([],[7,2,1,2])):=by
  have:=Md (A:=[1,2]) (G:=[7]) (Nat.le_of_ble_eq_true rfl)
  rwa[show zU [1,2] [7] = .ok ([],[7,2,1,2])from by rw[Ma];rfl]at this
 have hg0:Grow w ((w.alloc (.cells #[.int .i64 1,.int .i64 2] 3)).alloc (.cells #[.int .i64 7] 3)):=((Mv.refl _ w).alloc _).alloc _
 have hb1:=bS (heap_alloc_new w (.cells #[.int .i64 1,.int .i64 2] 3)) (.cells #[.int .i64 7] 3)
 have hb2:=heap_alloc_new (w.alloc (.cells #[.int .i64 1,.int .i64 2] 3)) (.cells #[.int .i64 7] 3)
 rw[World.size_alloc]at hb2
 have HR1:=Lib.hid (Es 50 jy _ _ [1,2] [7] _ _ (xe [1,2] hb1 rfl (by decide)) (xe [7] hb2 rfl (by decide)) (.inl rfl) (.inl rfl) (Nat.le_of_ble_eq_true rfl) (Nat.le_of_ble_eq_true rfl) hE1)
 have jM:=Lib.hid hg0
 have HE2:=Lib.hid hE2
 clear hE1 hE2 hg0 hb1 hb2
 go_enter Tryz.func8,Tryz.ntmps8
 go_wp2_with fail
 refine HR1.out.mono ?_
 rintro e w1 ⟨va,ca,vb,cb,rfl,ha,hb,hg⟩
 have HA:=Lib.hid ha
 have HB:=Lib.hid hb
 have aj:=Lib.hid (gtr jM.out hg)
 clear ha hb hg HR1 jM
 have hg0:Grow w1 ((w1.alloc (.cells #[.int .i64 1,.int .i64 2] 3)).alloc (.cells #[.int .i64 7] 3)):=((Mv.refl _ w1).alloc _).alloc _
 have hb1:=bS (heap_alloc_new w1 (.cells #[.int .i64 1,.int .i64 2] 3)) (.cells #[.int .i64 7] 3)
 have hb2:=heap_alloc_new (w1.alloc (.cells #[.int .i64 1,.int .i64 2] 3)) (.cells #[.int .i64 7] 3)
 rw[World.size_alloc]at hb2
 have HR2:=Lib.hid (Es 50 jU _ _ [1,2] [7] _ _ (xe [1,2] hb1 rfl (by decide)) (xe [7] hb2 rfl (by decide)) (.inl rfl) (.inr rfl) (Nat.le_of_ble_eq_true rfl) (Nat.le_of_ble_eq_true rfl) HE2.out)
 have jM:=Lib.hid hg0
 clear hg0 hb1 hb2 HE2
 simp only[List.length_cons,List.length_nil,Nat.zero_add,Nat.reduceAdd]
 go_wp2_with fail
 refine HR2.out.mono ?_
 rintro e w2 ⟨vc,cc,vd,cd,rfl,hc,hd,hg⟩
 have F9:=Lib.hid (gtr jM.out hg)
 have HC:=Lib.hid hc
 have HD:=Lib.hid hd
 have HG2:=Lib.hid (gtr aj.out F9.out)
 have HI1:=Lib.hid (λy (hy:Grow w2 y) (g:Nat) (hb:y.heap[g]? = some (.cells #[.int .i64 1,.int .i64 2] 3 (0,0)))=>Et va ca (some ⟨g,0,none⟩) 2 [1,2] [1,2] y (HA.out.later (gtr F9.out hy)) (xe [1,2] hb rfl (by decide)) (Nat.le_of_ble_eq_true rfl) (Nat.le_of_ble_eq_true rfl))
 have HI2:=Lib.hid (λy (hy:Grow w2 y) (g:Nat) (hb:y.heap[g]? = some (.cells #[.int .i64 7,.int .i64 1,.int .i64 2] 3 (0,0)))=>Et vb cb (some ⟨g,0,none⟩) 3 [7,1,2] [7,1,2] y (HB.out.later (gtr F9.out hy)) (xe [7,1,2] hb rfl (by decide)) (Nat.le_of_ble_eq_true rfl) (Nat.le_of_ble_eq_true rfl))
 have HI3:=Lib.hid (λy (hy:Grow w2 y) (g:Nat) (hb:y.heap[g]? = some (.cells #[.int .i64 7,.int .i64 2,.int .i64 1,.int .i64 2] 3 (0,0)))=>Et vd cd (some ⟨g,0,none⟩) 4 [7,2,1,2] [7,2,1,2] y (HD.out.later hy) (xe [7,2,1,2] hb rfl (by decide)) (Nat.le_of_ble_eq_true rfl) (Nat.le_of_ble_eq_true rfl))
 simp only[List.length_cons,List.length_nil,Nat.zero_add,Nat.reduceAdd]at HI1 HI2 HI3 ⊢
 clear hc hd hg HR2 jM HA HB HC HD F9
 have hgx:Grow w2 (w2.alloc (.cells #[.int .i64 1,.int .i64 2] 3)):=(Mv.refl _ _).alloc _
 have lC:=Lib.hid (HI1.out _ hgx _ (heap_alloc_new w2 _))
 have aO:=Lib.hid hgx
 clear hgx HI1
 go_wp2_with fail
 refine lC.out.mono ?_
 rintro e w3 ⟨rfl,hg⟩
 have aA:=Lib.hid (gtr aO.out hg)
 clear hg lC aO
 have hgx:Grow w3 (w3.alloc (.cells #[.int .i64 7,.int .i64 1,.int .i64 2] 3)):=(Mv.refl _ _).alloc _
 have fo:=Lib.hid (HI2.out _ (gtr aA.out hgx) _ (heap_alloc_new w3 _))
 have aO:=Lib.hid (gtr aA.out hgx)
 clear hgx HI2 aA
 have hbe:(([1,2]:List Int) == [1,2])=true:=rfl
 rw[hbe]
 clear hbe
 go_wp2_with fail
 refine fo.out.mono ?_
 rintro e w4 ⟨rfl,hg⟩
 have bA:=Lib.hid (gtr aO.out hg)
 clear hg fo aO
 have hgx:Grow w4 (w4.alloc (.cells #[.int .i64 7,.int .i64 2,.int .i64 1,.int .i64 2] 3)):=(Mv.refl _ _).alloc _
 have jN:=Lib.hid (HI3.out _ (gtr bA.out hgx) _ (heap_alloc_new w4 _))
 have aO:=Lib.hid (gtr bA.out hgx)
 clear hgx HI3 bA
 have hbe:(([7,1,2]:List Int) == [7,1,2])=true:=rfl
 rw[hbe]
 clear hbe
 go_wp2_with fail
 refine jN.out.mono ?_
 rintro e w5 ⟨rfl,hg⟩
 have bG:=Lib.hid (gtr HG2.out (gtr aO.out hg))
 clear hg jN aO
 have hbe:(([7,2,1,2]:List Int) == [7,2,1,2])=true:=rfl
 rw[hbe]
 clear hbe
 go_wp2_with fail
 go_ret
 exact⟨rfl,bG.out⟩
def xA (k:IntKind) (w:World) (a:Option Addr) (len cap:Nat) (zs:List Int):Prop :=
 (a=none/\len=0/\cap=0/\zs=[]) \/
 ∃ x,a=some x/\len<=cap/\cap<=maxLen/\zs.length=cap/\(∀ i,i<zs.length->w.cell? (x.add i)=some (.int k (zs.getD i 0)))/\∀ n∈zs,(Lit.int k n).wf=true
theorem xA.row {w:World} {a:Option Addr} {len cap:Nat} {zs:List Int} (h:xA .i64 w a len cap zs):∃ A:List Int,len=A.length/\ay 1 aU w (.slice a A.length cap) A/\∀ x∈A,(Lit.int .i64 x).wf=true:=by
 rcases h with⟨rfl,rfl,rfl,rfl⟩|⟨x,rfl,h1,h2,h3,h4,h5⟩
 · exact⟨[],rfl,ay.nil _ _ _,by simp⟩
 · have hl:len=(zs.take len).length:=by simp;omega
   refine⟨zs.take len,hl,⟨_,_,rfl,by omega,by unfold maxLen at h2;omega,λi y hy => ?_⟩,λy hy=>h5 y (List.mem_of_mem_take hy)⟩
   have hi:=(List.getElem?_eq_some_iff.1 hy).1
   have hiz:i<zs.length:=by omega
   obtain⟨b,o,rfl,hc⟩:=ints_at h4 (by omega)
   refine⟨b,o,rfl,λj u hu => ?_⟩
   have hj:j=0:=by
    have:=(List.getElem?_eq_some_iff.1 hu).1
    simp[aU]at this;exact this
   subst hj
   have hu':u = .int .i64 y:=by simpa[aU]using hu.symm
   have hy':zs.getD i 0=y:=by
    rw[List.getElem?_take_of_lt (by omega)]at hy
    simp[List.getD,hy]
   rw[hu',← hy',← hc i hiz]
   simp
theorem Xt {w w':World} (hg:Grow w w'):Below w.heap.size w w':=⟨hg.os,hg.tape,hg.output,hg.size,λj hj=>hg.block j hj (λh=>h)⟩
theorem ay.Od {w:World} {a:Option Addr} {c:Nat} {l:List Int} (h:ay 1 aU w (.slice a l.length c) l):l.length<=9223372036854775807:=by
 obtain⟨_,_,_,_,h⟩:=h.form
 simpa using h
set_option maxRecDepth 100000 in
set_option maxHeartbeats 12800000 in
theorem abB (va:Option Addr) (ca:Nat) (vb:Option Addr) (cb:Nat) (A G:List Int) (w:World) (ha:ay 1 aU w (.slice va A.length ca) A) (hb:ay 1 aU w (.slice vb G.length cb) G) :
 Calls Tryz.prog 3 #[.slice va A.length ca,.slice vb G.length cb] w (eP w true):=by
 have bQ:=Lib.hid (λy=>V9 va ca vb cb A.length G.length y ha.Od hb.Od)
 have HA:=Lib.hid ha
 have HB:=Lib.hid hb
 by_cases hgt:1000<A.length\/1000<G.length
 · have hd:(decide (1000<A.length) || decide (1000<G.length))=true:=by simpa using hgt
   rw[hd]at bQ
   clear ha hb hgt hd
   go_enter Tryz.func3,Tryz.ntmps3
   go_wp2_with fail
   refine(Bu w).mono ?_
   rintro e w1 ⟨rfl,hg⟩
   have HG:=Lib.hid hg
   clear hg
   go_wp2_with fail
   refine(bQ.out w1).mono ?_
   rintro e w2 ⟨rfl,rfl⟩
   go_wp2_with fail
   go_ret
   exact⟨rfl,HG.out⟩
 · have hd:(decide (1000<A.length) || decide (1000<G.length))=false:=by simp;omega
   have hA:A.length<=1000:=by omega
   have hG:G.length<=1000:=by omega
   rw[hd]at bQ
   have hE:=Md (A:=A) (G:=G) hA
   rw[Ma]at hE
   have dh:=Lib.hid (λy (hy:Grow w y)=>U5 va ca vb cb A G y (ha.later hy) (hb.later hy) hA hG)
   unfold zV at dh
   by_cases hle:A.length+G.length+1<=1000
   · rw[if_pos hle]at hE dh
     have HL:=Lib.hid (show(G ++ A.reverse ++ [(A.length:Int)]).length<=900000 from by simp;omega)
     obtain⟨L,hL⟩:∃ L,L=G ++ A.reverse ++ [(A.length:Int)]:=⟨_,rfl⟩
     rw[← hL]at hE dh HL
     clear hL
     have uC:=Lib.hid (λy (hy:Grow w y)=>Es 50 jU (.slice va A.length ca) (.slice vb G.length cb) A G _ y (ha.later hy) (hb.later hy) (.inl rfl) (.inr rfl) hA hG hE)
     clear ha hb hgt hd hE hle
     go_enter Tryz.func3,Tryz.ntmps3
     go_wp2_with fail
     refine(Bu w).mono ?_
     rintro e w1 ⟨rfl,hg⟩
     have aj:=Lib.hid hg
     clear hg
     go_wp2_with fail
     refine(bQ.out w1).mono ?_
     rintro e w2 ⟨rfl,rfl⟩
     go_wp2_with fail
     refine(uC.out w1 aj.out).mono ?_
     rintro e w3 ⟨xa,xc,ya,yc,rfl,hx,hy,hg⟩
     have aA:=Lib.hid (gtr aj.out hg)
     have HY:=Lib.hid hy
     clear hg hx hy uC
     simp only[List.length_nil]
     go_wp2_with fail
     refine(dh.out w3 aA.out).mono ?_
     rintro e w4 ⟨za,zc,rfl,hz,hg⟩
     have HI:=Lib.hid (Et ya yc za zc L L w4 (HY.out.later hg) hz HL.out HL.out)
     have bA:=Lib.hid (gtr aA.out hg)
     clear hg hz dh HY
     rw[show(L == L)=true from by simp]at HI
     go_wp2_with fail
     refine HI.out.mono ?_
     rintro e w5 ⟨rfl,hg⟩
     have bG:=Lib.hid (gtr bA.out hg)
     clear hg
     go_wp2_with fail
     go_ret
     exact⟨rfl,bG.out⟩
   · rw[if_neg hle]at hE dh
     have uC:=Lib.hid (λy (hy:Grow w y)=>Es 50 jU (.slice va A.length ca) (.slice vb G.length cb) A G _ y (ha.later hy) (hb.later hy) (.inl rfl) (.inr rfl) hA hG hE)
     clear ha hb hgt hd hE hle
     go_enter Tryz.func3,Tryz.ntmps3
     go_wp2_with fail
     refine(Bu w).mono ?_
     rintro e w1 ⟨rfl,hg⟩
     have aj:=Lib.hid hg
     clear hg
     go_wp2_with fail
     refine(bQ.out w1).mono ?_
     rintro e w2 ⟨rfl,rfl⟩
     go_wp2_with fail
     refine(uC.out w1 aj.out).mono ?_
     rintro e w3 ⟨-,rfl,hg⟩
     have aA:=Lib.hid (gtr aj.out hg)
     clear hg uC
     go_wp2_with fail
     refine(dh.out w3 aA.out).mono ?_
     rintro e w4 ⟨rfl,hg⟩
     have bA:=Lib.hid (gtr aA.out hg)
     clear hg dh
     go_wp2_with fail
     go_ret
     exact⟨rfl,bA.out⟩
end Go.Proofs.YtbpodipdfohikaaGreat
