import Derived.Test.YtbpodipdfohikaaGreatK24
import Derived.Test.YtbpodipdfohikaaGreatK21
set_option linter.unusedSimpArgs false
set_option linter.unusedVariables false
set_option maxRecDepth 100000
set_option maxHeartbeats 25600000
namespace Go.Proofs.YtbpodipdfohikaaGreat
open Go.RowKit Go.Instr
theorem cZ {w w':World} {a:Addr} {v:Value} (h:w.cell? a=some v) (hg:Grow w w'):w'.cell? a=some v:=by
 have:=World.block_lt_of_cell? w _ h
 unfold World.cell? at h ⊢
 rw[hg.block _ this (λe=>e)]
 exact h
def jR (k:Int):Int:=if k=2 then 1 else if k=3 then 2 else if k=4\/k=5\/k=44\/k=45 then 3 else 0
set_option maxRecDepth 100000 in
set_option maxHeartbeats 3200000 in
theorem Vy (k:Int) (w:World):Calls Tryz.prog 147 #[.int .u8 k] w λe w'=>e = .returned (.int .u8 (jR k))/\w=w':=by
 by_cases h2:k=2
 · subst h2;go_enter Tryz.func147,Tryz.ntmps147;go_wp2_with fail;go_ret;exact⟨rfl,rfl⟩
 by_cases h3:k=3
 · subst h3;go_enter Tryz.func147,Tryz.ntmps147;go_wp2_with fail;go_ret;exact⟨rfl,rfl⟩
 by_cases h4:k=4
 · subst h4;go_enter Tryz.func147,Tryz.ntmps147;go_wp2_with fail;go_ret;exact⟨rfl,rfl⟩
 by_cases h5:k=5
 · subst h5;go_enter Tryz.func147,Tryz.ntmps147;go_wp2_with fail;go_ret;exact⟨rfl,rfl⟩
 by_cases h6:k=44
 · subst h6;go_enter Tryz.func147,Tryz.ntmps147;go_wp2_with fail;go_ret;exact⟨rfl,rfl⟩
 by_cases h7:k=45
 · subst h7;go_enter Tryz.func147,Tryz.ntmps147;go_wp2_with fail;go_ret;exact⟨rfl,rfl⟩
 have hE:jR k=0:=by simp[jR,h2,h3,h4,h5,h6,h7]
 have e2:(k == 2)=false:=by simpa using h2
 have e3:(k == 3)=false:=by simpa using h3
 have e4:(k == 4)=false:=by simpa using h4
 have e5:(k == 5)=false:=by simpa using h5
 have e6:(k == 44)=false:=by simpa using h6
 have e7:(k == 45)=false:=by simpa using h7
 clear h2 h3 h4 h5 h6 h7
 rw[hE]
 go_enter Tryz.func147,Tryz.ntmps147;go_wp2_with fail;go_ret;exact⟨rfl,rfl⟩
def qK (k:Int):Int:=if k=44 then 45 else if k=45 then 44 else k
theorem UF (k:Int) (w:World) (h:k=44\/k=45):Calls Tryz.prog 138 #[.int .u8 k] w λe w'=>e = .returned (.int .u8 (qK k))/\w=w':=by
 rcases h with rfl|rfl
 all_goals
  go_enter Tryz.func138,Tryz.ntmps138
  go_wp2_with fail
  go_ret
  exact⟨rfl,rfl⟩
theorem WQ (k:Int) (w:World) (h:k=44\/k=45):Calls Tryz.prog 139 #[.int .u8 k] w λe w'=>e = .returned (.bool true)/\w=w':=by
 rcases h with rfl|rfl
 all_goals
  go_enter Tryz.func139,Tryz.ntmps139
  go_wp2_with fail
  go_ret
  exact⟨rfl,rfl⟩
theorem Ed:∀ {l:List Tree} {t:Tree},t∈l->bL t<=eX l
 |a :: l,t,h=>by
  rw[eX]
  rcases List.mem_cons.1 h with rfl|h
  · omega
  · have:=Ed h;omega
mutual
def jS (vars:List au):Tree->Int
 |.mk k _ s l=>if jR k=0 then iY vars l else match gK vars s with
  |none=>6
  |some v=>if v.kind=jR k then iY vars l else 7
def iY (vars:List au):List Tree->Int
 | []=>0
 |t :: l=>if jS vars t=0 then iY vars l else jS vars t
end
set_option maxRecDepth 100000 in
set_option maxHeartbeats 6400000 in
theorem LV (b o:Nat) (vv:Value) (vars:List au):∀ (N:Nat) (x:ae),bL x.t<=N->∀ w:World,w.cell? ⟨b,o,none⟩=some vv->ay 3 au.cells w vv vars->bD w x->Calls Tryz.prog 140 #[.pointer (some ⟨b,o,none⟩),x.val] w (u6 w (jS vars x.t))
 |0,x,hN,_,_,_,_=>by
  have:=GD x.t
  omega
 |N+1,.mk k n s kv l,hN,w,hc,hr,hx=>by
  have IH:=Lib.hid (LV b o vv vars N)
  obtain⟨va,vc,rfl,oF,hvl⟩:=hr.form
  obtain⟨ka,kc,rfl,hkc,hkl⟩:=hx.form
  have HR:=Lib.hid hr
  have HX:=Lib.hid hx
  have fq:=Lib.hid hc
  have Az:=Lib.hid (show eX (ae.ts l)<=N from by rw[ae.t,bL]at hN;omega)
  have HT:=Lib.hid (show jS vars (ae.t (.mk k n s (.slice ka l.length kc) l))=if jR k=0 then iY vars (ae.ts l)else match gK vars s with
   |none=>6
   |some v=>if v.kind=jR k then iY vars (ae.ts l)else 7 from by rw[ae.t,jS])
  generalize jS vars (ae.t (.mk k n s (.slice ka l.length kc) l))=RES at *
  have aj:=Lib.hid (show Grow w (w.alloc (.cells #[.int .u8 k,.int .i64 n,.string s,.slice ka l.length kc] 40))from(Mv.refl _ w).alloc _)
  have bf:=Lib.hid (heap_alloc_new w (.cells #[.int .u8 k,.int .i64 n,.string s,.slice ka l.length kc] 40))
  have QY:=Lib.hid (Vy k (w.alloc (.cells #[.int .u8 k,.int .i64 n,.string s,.slice ka l.length kc] 40)))
  clear hr hx hc hN
  simp only[ae.val]
  go_enter Tryz.func140,Tryz.ntmps140
  go_wp2_with fail
  generalize (w.alloc (.cells #[.int .u8 k,.int .i64 n,.string s,.slice ka l.length kc] 40))=w2 at *
  refine QY.out.mono ?_
  rintro e w3 ⟨rfl,rfl⟩
  clear QY
  have HK:=Lib.hid (λ(y:World) (hy:Grow w2 y)=>And.intro (cZ fq.out (gtr aj.out hy)) (And.intro (ah bf.out hy) (HR.out.later (gtr aj.out hy))))
  have iQ:=Lib.hid (λ(y:World) (hy:ay 3 au.cells y (.slice va vars.length vc) vars)=>Em _ vars s y hy)
  go_upto_if 15 with fail
  go_cut [5] (λv wc=>Grow w2 wc/\RES=iY vars (ae.ts l))
  case first =>
   by_cases hz:jR k=0
   · have hne:(jR k != 0)=false:=by simp[hz]
     have HR2:=Lib.hid (show RES=iY vars (ae.ts l)from by rw[HT.out,if_pos hz])
     clear hz HT
     go_wp2_with fail
     go_meet
     case rel=>exact⟨Mv.refl _ _,HR2.out⟩
   · have hne:(jR k != 0)=true:=by simpa using hz
     have HT2:=Lib.hid (show RES=match gK vars s with
      |none=>6
      |some v=>if v.kind=jR k then iY vars (ae.ts l)else 7 from by rw[HT.out,if_neg hz])
     clear hz HT
     unfold NP at iQ
     generalize JF:(gK vars s).isSome=fb at *
     generalize jP:(gK vars s).getD lU=fv at *
     obtain⟨fn,fk,fl⟩:=fv
     simp only[au.val]at iQ
     have dC:=Lib.hid (λh:fb=false=>show RES=6 from by
      rw[← JF]at h;rw[HT2.out];cases hf:gK vars s with
      |none=>rfl
      |some v=>rw[hf]at h;cases h)
     have IE:=Lib.hid (λh:fb=true=>show RES=if fk=jR k then iY vars (ae.ts l)else 7 from by
      rw[← JF]at h;rw[HT2.out];cases hf:gK vars s with
      |none=>rw[hf]at h;cases h
      |some v=>rw[hf]at jP;simp only[Option.getD_some]at jP;subst jP;rfl)
     clear JF jP HT2
     go_upto_region 3 with fail
     refine wg 46 [some 17,some 18,some 19,some 20,some 21,some 22,some 23,some 16,some 24,some 25,some 6,none,some 7] [[],[0],[1],[2],[],[4],[3,5],[6],[7],[7],[],[10,8],[9]] [] [.c (.pointer (some ⟨b,o,none⟩)),.c (.pointer (some ⟨b,o,none⟩)),.c (.pointer (some ⟨b,o,none⟩)),.c (.slice va vars.length vc),.c (.pointer (some ⟨w.heap.size,2,none⟩)),.c (.string s),.c (.tuple #[.agg #[.string fn,.int .u8 fk,.int .i64 fl],.bool fb]),.c (.tuple #[.agg #[.string fn,.int .u8 fk,.int .i64 fl],.bool fb]),.c (.agg #[.string fn,.int .u8 fk,.int .i64 fl]),.c (.bool fb),.al 11 8 #[.string ⟨#[]⟩,.int .u8 0,.int .i64 0] 50,.st 10,.c (.bool fb)] trivial (dm rfl) ?steps ?done
     case steps =>
      refine⟨?s0,?s1,?s2,?s3,?s4,?s5,?s6,?s7,?s8,?s9,?s10,?s11,?s12,trivial⟩
      case s0 =>
       refine oo (λvs x hP => ?_)
       simp only[zS]
       go_simp
       exact gc
      case s1 =>
       refine oo (λvs x hP => ?_)
       simp only[zS]
       go_simp
       exact gc
      case s2 =>
       refine oo (λvs x hP => ?_)
       simp only[zS]
       go_simp
       exact gc
      case s3 =>
       refine ok HK (λvs x hG HX hP => ?_)
       have c0:=HX.out.1
       have hbl:=World.block_lt_of_cell? x _ c0
       simp only at hbl
       simp only[zS]
       go_simp
       exact gc
      case s4 =>
       refine oo (λvs x hP => ?_)
       simp only[zS]
       go_simp
       exact gc
      case s5 =>
       refine ok HK (λvs x hG HX hP => ?_)
       obtain⟨⟨n0,n1⟩,n2,n3⟩:=az HX.out.2.1
       simp only[zS]
       go_simp
       exact gc
      case s6 =>
       refine ok HK (λvs x hG HX hP => ?_)
       have HC:=Lib.hid (iQ.out x HX.out.2.2)
       simp only[zS]
       go_simp
       refine(HC.out).mono ?_
       rintro e y ⟨rfl,hg⟩
       exact⟨_,rfl,gq hg rfl⟩
      case s7 =>
       refine oo (λvs x hP => ?_)
       simp only[zS]
       go_simp
       exact gc
      case s8 =>
       refine oo (λvs x hP => ?_)
       simp only[zS]
       go_simp
       exact gc
      case s9 =>
       refine oo (λvs x hP => ?_)
       simp only[zS]
       go_simp
       exact gc
      case s10 =>
       refine oz (λvs x => ?_)
       simp only[zS]
       go_simp
       exact⟨rfl,rfl⟩
      case s11 =>
       refine os (λvs x g hg hb hv => ?_)
       have h8:vs 8 = .agg #[.string fn,.int .u8 fk,.int .i64 fl]:=hv
       obtain⟨c0,c1,c2⟩:=dR hb
       have zt:=bB hb
       simp only[zS,hg,h8]
       go_simp
       exact⟨(vB hb _ _ _).1,(vB hb _ _ _).2⟩
      case s12 =>
       refine oo (λvs x hP => ?_)
       simp only[zS]
       go_simp
       exact gc
     case done =>
     intro vs wx hE
     have hG:=hE.grow
     obtain⟨g10,yK,l10,m10,b10⟩:=hE.box 10
     simp only[zS,Nat.reduceAdd,yK]
     have ZK:=Lib.hid b10
     have aO:=Lib.hid hG
     clear hE hG b10
     cases fb with
     |false =>
      have bT:=Lib.hid (dC.out rfl)
      clear dC IE
      go_wp2_with fail
      go_ret
      exact⟨congrArg (λz=>Ending.returned (.int .i64 z)) bT.out.symm,gtr aj.out aO.out⟩
     |true =>
      have bT:=Lib.hid (IE.out rfl)
      clear dC IE
      obtain⟨c0,c1,c2⟩:=dR ZK.out
      by_cases hk:fk=jR k
      · have e1:(fk != jR k)=false:=by simp[hk]
        have HR2:=Lib.hid (show RES=iY vars (ae.ts l)from by rw[bT.out,if_pos hk])
        clear hk bT
        go_wp2_with fail
        go_meet
        case rel=>exact⟨aO.out,HR2.out⟩
      · have e1:(fk != jR k)=true:=by simpa using hk
        have HR2:=Lib.hid (show RES=7 from by rw[bT.out,if_neg hk])
        clear hk bT
        go_wp2_with fail
        go_ret
        exact⟨congrArg (λz=>Ending.returned (.int .i64 z)) HR2.out.symm,gtr aj.out aO.out⟩
  case rest =>
   obtain⟨hgc,hres⟩:=hcut
   have HG2:=Lib.hid (gtr aj.out hgc)
   have xZ:=Lib.hid (ah bf.out hgc)
   have ng:=Lib.hid hres
   obtain⟨⟨n0,n1⟩,n2,n3⟩:=az xZ.out
   have hnl:=lt_of_block xZ.out
   clear hgc hres HT HK iQ aj bf
   go_wp2_with fail
   clear n0 n1 n2 n3 hnl
   go_loopw [35] (λt wr=>∃ j:Nat,t = .int .i64 j/\j<=l.length/\Grow w wr/\RES=iY vars ((ae.ts l).drop j)) (λt _=>l.length - (intOf t).toNat)
   case atStart=>exact⟨0,rfl,Nat.zero_le _,HG2.out,by simpa using ng.out⟩
   obtain⟨j,rfl,hj,hg,hres⟩:=hrel
   have bQ:=Lib.hid hg
   have yL:=Lib.hid hres
   clear hg hres ng
   rcases Nat.lt_or_ge j l.length with hlt|hge
   · have EX:decide ((j:Int)<l.length)=true:=by simp;omega
     obtain⟨-,-,-,hrow,qW⟩:=(HX.out.later bQ.out).row
     obtain⟨kb,ko,nQ,ek,_,Cr⟩:=hrow.at hlt
     simp only[Value.slice.injEq,true_and]at ek
     obtain⟨rfl,rfl⟩:=ek
     have OY:=Lib.hid (qW _ (List.getElem_mem hlt))
     have HDR:=Lib.hid (show iY vars ((ae.ts l).drop j)=if jS vars l[j].t=0 then iY vars ((ae.ts l).drop (j+1))else jS vars l[j].t from by
      rw[ae.jv,List.drop_eq_getElem_cons (by simpa using hlt),iY,List.getElem_map])
     have HSX:=Lib.hid (show bL l[j].t<=N from Nat.le_trans (Ed (by rw[ae.jv];exact List.mem_map.2 ⟨_,List.getElem_mem hlt,rfl⟩)) Az.out)
     clear hrow qW
     generalize l[j]=y at *
     obtain⟨yk,yn,ys,yv,yl⟩:=y
     obtain⟨ya,yc,rfl,-,-⟩:=OY.out.form
     have c0:=Cr 0 _ rfl
     have c1:=Cr 1 _ rfl
     have c2:=Cr 2 _ rfl
     have c3:=Cr 3 _ rfl
     clear Cr
     simp only[Nat.add_zero]at c0
     have hkb:=World.block_lt_of_cell? wr _ c0
     simp only at hkb
     have bE:=Lib.hid (show Grow wr (wr.alloc (.cells #[.int .u8 yk,.int .i64 yn,.string ys,.slice ya yl.length yc] 40))from(Mv.refl _ wr).alloc _)
     have sW:=Lib.hid (IH.out _ HSX.out _ (cZ fq.out (gtr bQ.out bE.out)) (HR.out.later (gtr bQ.out bE.out)) (OY.out.later bE.out))
     have kg:=Lib.hid (heap_alloc_new wr (.cells #[.int .u8 yk,.int .i64 yn,.string ys,.slice ya yl.length yc] 40))
     simp only[ae.val]at sW
     go_wp2_with fail
     generalize (wr.alloc (.cells #[.int .u8 yk,.int .i64 yn,.string ys,.slice ya yl.length yc] 40))=wy at *
     refine sW.out.mono ?_
     rintro e w4 ⟨rfl,hg4⟩
     have bA:=Lib.hid (gtr (gtr bQ.out bE.out) hg4)
     clear hg4 sW c0 c1 c2 c3
     generalize jS vars (ae.t (.mk yk yn ys (.slice ya yl.length yc) yl))=er at *
     by_cases he:er=0
     · have e1:(er != 0)=false:=by simp[he]
       have gT:=Lib.hid (show RES=iY vars ((ae.ts l).drop (j+1))from by rw[yL.out,HDR.out,if_pos he])
       clear he
       go_wp2_with fail
       go_roundw
       case rel=>exact⟨j+1,by go_num,by omega,bA.out,gT.out⟩
       case measure=>simp[intOf] <;> omega
     · have e1:(er != 0)=true:=by simpa using he
       have gT:=Lib.hid (show RES=er from by rw[yL.out,HDR.out,if_neg he])
       clear he
       go_wp2_with fail
       go_ret
       exact⟨congrArg (λz=>Ending.returned (.int .i64 z)) gT.out.symm,bA.out⟩
   · obtain rfl:j=l.length:=by omega
     have EX:decide ((l.length:Int)<l.length)=false:=by simp
     have HZ:=Lib.hid (show RES=0 from by rw[yL.out,List.drop_of_length_le (by rw[ae.jv];simp),iY])
     go_wp2_with fail
     go_ret
     exact⟨congrArg (λz=>Ending.returned (.int .i64 z)) HZ.out.symm,bQ.out⟩
set_option maxRecDepth 100000 in
set_option maxHeartbeats 6400000 in
theorem DW (v:Int) (w:World) (h:0<=v):Calls Tryz.prog 156 #[.int .i64 v] w (NV w):=by
 have hd:decide (0<=v)=true:=by simpa using h
 have hb:=heap_alloc_new w (.cells #[.int .u8 0,.int .i64 0,.string ⟨#[]⟩,.slice none 0 0] 40)
 have hg1:Grow w (w.alloc (.cells #[.int .u8 0,.int .i64 0,.string ⟨#[]⟩,.slice none 0 0] 40)):=(Mv.refl _ _).alloc _
 have dU:=Lib.hid (heap_alloc_new w (.cells #[.int .u8 1,.int .i64 v,.string ⟨#[]⟩,.slice none 0 0] 40))
 clear h hb hg1
 go_enter Tryz.func156,Tryz.ntmps156
 go_wp2_with fail
 obtain⟨⟨t0,t1⟩,t2,t3⟩:=az dU.out
 exact bodyPost_ret (v := .agg #[.int .u8 1,.int .i64 v,.string ⟨#[]⟩,.slice none 0 0]) (by simp[results,Tryz.results156,go_sem,t0,t1,t2,t3]) rfl ⟨_,_,_,_,_,_,rfl,(Mv.refl _ _).alloc _⟩
set_option maxRecDepth 100000 in
set_option maxHeartbeats 6400000 in
theorem TY (v:Int) (w:World) (h64:In64 v):Calls Tryz.prog 156 #[.int .i64 v] w (NV w):=by
 by_cases h:0<=v
 · exact DW v w h
 have hd:decide (0<=v)=false:=by simpa using h
 have hb:=heap_alloc_new w (.cells #[.int .u8 0,.int .i64 0,.string ⟨#[]⟩,.slice none 0 0] 40)
 have hg1:Grow w (w.alloc (.cells #[.int .u8 0,.int .i64 0,.string ⟨#[]⟩,.slice none 0 0] 40)):=(Mv.refl _ _).alloc _
 by_cases hm:v = -9223372036854775808
 · subst hm
   have HP:=Lib.hid (λz=>DW 9223372036854775807 z (by decide))
   have yB:=Lib.hid (λz=>DW 1 z (by decide))
   go_enter Tryz.func156,Tryz.ntmps156
   go_wp2_with fail
   generalize (w.alloc (.cells #[.int .u8 0,.int .i64 0,.string ⟨#[]⟩,.slice none 0 0] 40))=w1 at *
   refine(HP.out w1).mono ?_
   rintro e w2 ⟨k1,n1,s1,a1,m1,c1,rfl,hg⟩
   have HG2:=Lib.hid (gtr hg1 hg)
   have HB2:=Lib.hid (ah hb hg)
   clear hg hg1 hb
   go_wp2_with fail
   refine(yB.out w2).mono ?_
   rintro e w3 ⟨k2,n2,s2,a2,m2,c2,rfl,hg⟩
   have HB3:=Lib.hid (ah HB2.out hg)
   have aA:=Lib.hid (gtr HG2.out hg)
   have dU:=Lib.hid (dH HB3.out (.int .u8 8) (.int .i64 0) (.string ⟨#[]⟩) (.slice (some ⟨w3.heap.size,0,none⟩) 2 2))
   obtain⟨⟨c0,c1'⟩,c2',c3⟩:=az HB3.out
   have hl2:=lt_of_block HB3.out
   have zt:=bB HB3.out
   clear hg
   go_wp2_with fail
   obtain⟨⟨t0,t1⟩,t2,t3⟩:=az (bS dU.out.1 (.cells #[.int .u8 k1,.int .i64 n1,.string s1,.slice a1 m1 c1,.int .u8 k2,.int .i64 n2,.string s2,.slice a2 m2 c2] 40))
   exact bodyPost_ret (v := .agg #[.int .u8 8,.int .i64 0,.string ⟨#[]⟩,.slice (some ⟨w3.heap.size,0,none⟩) 2 2]) (by simp[results,Tryz.results156,go_sem,t0,t1,t2,t3]) rfl ⟨_,_,_,_,_,_,rfl,(bM aA.out dU.out.2 (λb e=>by omega)).alloc _⟩
 · have he:(v == -9223372036854775808)=false:=by simpa using hm
   have h1:0 <= -v /\ -v<=9223372036854775807:=by simp only[In64]at h64;omega
   have hw:wrap64 (-v) = -v:=by unfold wrap64;omega
   have HP:=Lib.hid (λz=>DW (-v) z h1.1)
   clear h hm h64
   go_enter Tryz.func156,Tryz.ntmps156
   go_wp2_with fail
   generalize (w.alloc (.cells #[.int .u8 0,.int .i64 0,.string ⟨#[]⟩,.slice none 0 0] 40))=w1 at *
   refine(HP.out w1).mono ?_
   rintro e w3 ⟨k1,n1,s1,a1,m1,c1,rfl,hg⟩
   have HB3:=Lib.hid (ah hb hg)
   have aA:=Lib.hid (gtr hg1 hg)
   have dU:=Lib.hid (dH HB3.out (.int .u8 6) (.int .i64 0) (.string ⟨#[]⟩) (.slice (some ⟨w3.heap.size,0,none⟩) 1 1))
   obtain⟨⟨c0,c1'⟩,c2',c3⟩:=az HB3.out
   have hl2:=lt_of_block HB3.out
   have zt:=bB HB3.out
   clear hg hg1 hb
   go_wp2_with fail
   obtain⟨⟨t0,t1⟩,t2,t3⟩:=az (bS dU.out.1 (.cells #[.int .u8 k1,.int .i64 n1,.string s1,.slice a1 m1 c1] 40))
   exact bodyPost_ret (v := .agg #[.int .u8 6,.int .i64 0,.string ⟨#[]⟩,.slice (some ⟨w3.heap.size,0,none⟩) 1 1]) (by simp[results,Tryz.results156,go_sem,t0,t1,t2,t3]) rfl ⟨_,_,_,_,_,_,rfl,(bM aA.out dU.out.2 (λb e=>by omega)).alloc _⟩
def pQ (k n:Int) (rs:List (Option Int)):Option Int:=if k=1 then some n else if k=2\/k=3\/k=4\/k=5 then none else match rs with
 | [some x]=>if(nI k x).2=0 then some (nI k x).1 else none
 | [some x,some y]=>if(bZ k x y).2=0 then some (bZ k x y).1 else none
 |_=>none
theorem MG (k n:Int) (s:ByteArray) (l:List Tree):iK (.mk k n s l)=pQ k n (BJ l):=by rw[iK];rfl
theorem Vz (k x:Int) (h:k=6\/k=7):(nI k x).2=0:=by rcases h with rfl|rfl <;> rfl
theorem UG (k x y:Int) (h:(bZ k x y).2≠0):(bZ k x y).1=0:=by
 unfold bZ at h ⊢
 by_cases h8:k=8
 · rw[if_pos h8]at h;exact absurd rfl h
 rw[if_neg h8]at h ⊢
 by_cases h9:k=9
 · rw[if_pos h9]at h;exact absurd rfl h
 rw[if_neg h9]at h ⊢
 by_cases h10:k=10
 · rw[if_pos h10]at h;exact absurd rfl h
 rw[if_neg h10]at h ⊢
 by_cases h11:k=11
 · rw[if_pos h11]at h ⊢
   by_cases hy:y=0
   · rw[if_pos hy]
   · rw[if_neg hy]at h;exact absurd rfl h
 rw[if_neg h11]at h ⊢
 by_cases h12:k=12
 · rw[if_pos h12]at h ⊢
   by_cases hy:y=0
   · rw[if_pos hy]
   · rw[if_neg hy]at h;exact absurd rfl h
 rw[if_neg h12]at h ⊢
 by_cases wB:k=13
 · rw[if_pos wB]at h;exact absurd rfl h
 rw[if_neg wB]at h ⊢
 by_cases yM:k=14
 · rw[if_pos yM]at h;exact absurd rfl h
 rw[if_neg yM]at h ⊢
 by_cases uw:k=15
 · rw[if_pos uw]at h;exact absurd rfl h
 rw[if_neg uw]at h ⊢
 by_cases h16:k=16
 · rw[if_pos h16]at h;exact absurd rfl h
 rw[if_neg h16]at h ⊢
 by_cases Dc:k=17
 · rw[if_pos Dc]at h;exact absurd rfl h
 rw[if_neg Dc]at h ⊢
 by_cases h18:k=18
 · rw[if_pos h18]at h;exact absurd rfl h
 rw[if_neg h18]at h ⊢
 by_cases h19:k=19
 · rw[if_pos h19]at h;exact absurd rfl h
 rw[if_neg h19]at h ⊢
 by_cases h20:k=20
 · rw[if_pos h20]at h;exact absurd rfl h
 rw[if_neg h20]at h ⊢
 by_cases h21:k=21
 · rw[if_pos h21]at h;exact absurd rfl h
 rw[if_neg h21]at h ⊢
 by_cases h22:k=22
 · rw[if_pos h22]at h;exact absurd rfl h
 rw[if_neg h22]at h ⊢
 by_cases h23:k=23
 · rw[if_pos h23]at h;exact absurd rfl h
 rw[if_neg h23]at h ⊢
def xJ (k:Int) (m:Nat):Prop:=(k=1/\m=0)\/((k=2\/k=3\/k=4\/k=5)/\m<=1)\/((k=6\/k=7)/\m=1)\/((8<=k/\k<=23)/\m=2)
def EY (w:World) (r:Option Int) (e:Ending) (w':World):Prop:=e = .returned (.tuple #[.int .i64 (r.getD 0),.bool r.isSome])/\Grow w w'
theorem VA {k n:Int} {fl:List bU} (h:xJ k fl.length) {i:Nat} (hi:i<fl.length) (hn:fl[i].r.isSome=false):pQ k n (fl.map bU.r)=none:=by
 have hr:fl[i].r=none:=by simpa using hn
 unfold pQ
 match fl,h,i,hi,hr with
 | [x],h,0,_,hr =>
  simp only[List.getElem_cons_zero]at hr
  rcases h with⟨-,h⟩|⟨h,-⟩|⟨h,-⟩|⟨-,h⟩
  · simp at h
  · rw[if_neg (by omega),if_pos h]
  · rw[if_neg (by omega),if_neg (by omega)];simp[hr]
  · simp at h
 | [x,y],h,0,_,hr =>
  simp only[List.getElem_cons_zero]at hr
  rcases h with⟨-,h⟩|⟨-,h⟩|⟨-,h⟩|⟨h,-⟩
  · simp at h
  · simp at h
  · simp at h
  · rw[if_neg (by omega),if_neg (by omega)];simp[hr]
 | [x,y],h,1,_,hr =>
  simp only[List.getElem_cons_succ,List.getElem_cons_zero]at hr
  rcases h with⟨-,h⟩|⟨-,h⟩|⟨-,h⟩|⟨h,-⟩
  · simp at h
  · simp at h
  · simp at h
  · rw[if_neg (by omega),if_neg (by omega)];simp[hr]
 |_ :: _ :: _ :: _,h,_,_,_ =>
  rcases h with⟨-,h⟩|⟨-,h⟩|⟨-,h⟩|⟨-,h⟩ <;> simp at h
set_option maxRecDepth 100000 in
set_option maxHeartbeats 12800000 in
theorem VB (k n:Int) (s:ByteArray) (a:Option Addr) (m c:Nat) (fa:Option Addr) (fc:Nat) (fl:List bU) (w:World) (h:ay 6 bU.cells w (.slice fa fl.length fc) fl) (hsh:xJ k fl.length):Calls Tryz.prog 155 #[.agg #[.int .u8 k,.int .i64 n,.string s,.slice a m c],.slice fa fl.length fc] w (EY w (pQ k n (fl.map bU.r))):=by
 have hl2:fl.length<=2:=by unfold xJ at hsh;omega
 have HR:=Lib.hid h
 have rQ:=Lib.hid hsh
 have dC:=Lib.hid (λi (hi:i<fl.length) (hn:fl[i].r.isSome=false)=>VA (n:=n) hsh hi hn)
 have aj:=Lib.hid (show Grow w (w.alloc (.cells #[.int .u8 k,.int .i64 n,.string s,.slice a m c] 40))from(Mv.refl _ _).alloc _)
 have HB1:=Lib.hid (heap_alloc_new w (.cells #[.int .u8 k,.int .i64 n,.string s,.slice a m c] 40))
 obtain⟨V,hV⟩:∃ V,V=pQ k n (fl.map bU.r):=⟨_,rfl⟩
 have HV:=Lib.hid hV
 rw[← hV]at dC ⊢
 clear h hsh hV
 have key:Calls Tryz.prog 155 #[.agg #[.int .u8 k,.int .i64 n,.string s,.slice a m c],.slice fa fl.length fc] w (EY w V):=by
  go_enter Tryz.func155,Tryz.ntmps155
  go_upto_region 1 with fail
  generalize (w.alloc (.cells #[.int .u8 k,.int .i64 n,.string s,.slice a m c] 40))=w1 at *
  go_wp2_with fail
  go_loopw [12] (λt wr=>∃ i:Nat,t = .int .i64 i/\i<=fl.length/\Grow w1 wr/\∀ j (h:j<fl.length),j<i->fl[j].r.isSome=true) (λt _=>fl.length - (intOf t).toNat)
  case atStart=>exact⟨0,rfl,Nat.zero_le _,Mv.refl _ _,λj h hj=>by omega⟩
  obtain⟨i,rfl,hi,hg,hall⟩:=hrel
  have gu:=Lib.hid hg
  have tF:=Lib.hid hall
  clear hg hall
  rcases Nat.lt_or_ge i fl.length with hlt|hge
  · have hdl:decide ((i:Int)<fl.length)=true:=by simp;omega
    obtain⟨b,o,rfl,⟨⟨d0,d1,d2⟩,d3,d4,d5⟩,hkl⟩:=BV (HR.out.later (gtr aj.out gu.out)) hlt
    have gT:=Lib.hid (λ(h:fl[i].r.isSome=true) j (hj:j<fl.length) (hji:j<i+1)=>show fl[j].r.isSome=true from by
     rcases Nat.lt_or_ge j i with h1|h1
     · exact tF.out j hj h1
     · obtain rfl:j=i:=by omega
       exact h)
    have Fx:=Lib.hid (dC.out i hlt)
    have hbd:(i:Int)<(fl.length:Nat):=by omega
    generalize hq:fl[i]=q at *
    obtain⟨k1,n1,s1,a1,m1,c1,r1⟩:=q
    simp only at d0 d1 d2 d3 d4 d5 gT Fx
    clear hq
    generalize r1.getD 0=rv at *
    cases hrb:r1.isSome with
    |true =>
     rw[hrb]at d5
     have JE:=Lib.hid (gT.out hrb)
     clear gT Fx hrb
     go_wp2_with fail
     go_roundw
     case rel=>exact⟨i+1,by go_num,by omega,gu.out.alloc _,JE.out⟩
     case measure=>simp[intOf];omega
    |false =>
     rw[hrb]at d5
     have HVN:=Lib.hid (Fx.out hrb)
     clear gT Fx hrb HV
     have hgf:=gtr aj.out (gu.out.alloc (.cells #[.int .u8 k1,.int .i64 n1,.string s1,.slice a1 m1 c1,.int .i64 rv,.bool false] 175))
     have fD:=Lib.hid hgf
     clear hgf
     go_wp2_with fail
     go_ret2
     rw[HVN.out]
     exact⟨rfl,fD.out⟩
  · obtain rfl:i=fl.length:=by omega
    have hdl:decide ((fl.length:Int)<fl.length)=false:=by simp
    have HG:=Lib.hid (gtr aj.out gu.out)
    have HB:=Lib.hid (ah HB1.out gu.out)
    have HRW:=Lib.hid (HR.out.later HG.out)
    have HT:=Lib.hid tF.out
    clear tF dC gu aj HB1 HR hi hge
    unfold xJ at rQ
    obtain⟨⟨n0,n1⟩,n2,n3⟩:=az HB.out
    have hbl:=lt_of_block HB.out
    rcases rQ.out with⟨rfl,h0⟩|⟨hk,h0⟩|⟨hk,h0⟩|⟨hk,h0⟩
    · have qg:=Lib.hid (show V=some n from by rw[HV.out];rfl)
      clear HV rQ h0 HT HRW
      go_wp2_with fail
      go_ret2
      rw[qg.out]
      exact⟨rfl,HG.out⟩
    · have qg:=Lib.hid (show V=none from by rw[HV.out];unfold pQ;rw[if_neg (by omega),if_pos hk])
      clear HV rQ h0 HT HRW
      rcases hk with rfl|rfl|rfl|rfl
      all_goals
       go_wp2_with fail
       go_ret2
       rw[qg.out]
       exact⟨rfl,HG.out⟩
    · match fl,h0,HT,HRW,HV with
      | [x1],_,HT,HRW,HV =>
       have hx:=HT.out 0 (by simp) (by simp)
       obtain⟨v1,hv1⟩:=Option.isSome_iff_exists.1 hx
       obtain⟨b,o,rfl,⟨-,d3,d4,d5⟩,hkl⟩:=BV HRW.out (i:=0) (by simp)
       simp only[List.getElem_cons_zero]at hx hv1 d4
       rw[hv1]at d4
       simp only[Option.getD_some,Nat.zero_mul,Nat.add_zero]at d4
       have qg:=Lib.hid (show V=if(nI k v1).2=0 then some (nI k v1).1 else none from by rw[HV.out];unfold pQ;rw[if_neg (by omega),if_neg (by omega)];simp[hv1])
       have HU:=Lib.hid (λz=>Vr k v1 z hk)
       unfold iR at HU
       have hr:=Vz k v1 hk
       generalize nI k v1=r at *
       obtain⟨r1,r2⟩:=r
       simp only at hr
       subst hr
       rw[if_pos rfl]at qg
       have HK:=Lib.hid (λ(y:World) (hy:Grow wr y)=>And.intro (ah HB.out hy) (cZ d4 hy))
       simp only[List.length_cons,List.length_nil,Nat.zero_add]at hdl ⊢
       clear HV rQ HT HRW hx hv1 d3 d5 hkl
       have e1:(k == 1)=false:=by simp;omega
       have e2:(k == 2)=false:=by simp;omega
       have e3:(k == 3)=false:=by simp;omega
       have e4:(k == 4)=false:=by simp;omega
       have e5:(k == 5)=false:=by simp;omega
       have e67:(k == 6)=true\/((k == 6)=false/\(k == 7)=true):=by
        rcases hk with h|h
        · exact .inl (by simpa using h)
        · exact .inr ⟨by simp;omega,by simpa using h⟩
       clear hk
       rcases e67 with e6|⟨e6,e7⟩
       all_goals
        go_upto_region 20 with fail
        refine wg 61 [some 49,some 50,some 51,some 52,some 53,some 54,some 55,some 48,some 56,some 57,some 8,some 9] [[],[0],[],[2],[3],[4],[1,5],[6],[7],[7],[8],[9]] [] [.c (.pointer (some ⟨w.heap.size,0,none⟩)),.c (.int .u8 k),.c (.slice (some ⟨b,o,none⟩) 1 fc),.c (.pointer (some ⟨b,o,none⟩)),.c (.pointer (some ⟨b,o+4,none⟩)),.c (.int .i64 v1),.c (.tuple #[.int .i64 r1,.int .i64 0]),.c (.tuple #[.int .i64 r1,.int .i64 0]),.c (.int .i64 r1),.c (.int .i64 0),.c (.int .i64 r1),.c (.int .i64 0)] trivial (dm rfl) ?steps ?done
        case steps =>
         refine⟨?s0,?s1,?s2,?s3,?s4,?s5,?s6,?s7,?s8,?s9,?s10,?s11,trivial⟩
         case s0 =>
          refine oo (λvs x hP => ?_)
          simp only[zS]
          go_simp
          exact gc
         case s1 =>
          refine ok HK (λvs x hG HX hP => ?_)
          obtain⟨⟨n0,n1⟩,n2,n3⟩:=az HX.out.1
          simp only[zS]
          go_simp
          exact gc
         case s2 =>
          refine oo (λvs x hP => ?_)
          simp only[zS]
          go_simp
          exact gc
         case s3 =>
          refine oo (λvs x hP => ?_)
          simp only[zS]
          go_simp
          exact gc
         case s4 =>
          refine oo (λvs x hP => ?_)
          simp only[zS]
          go_simp
          exact gc
         case s5 =>
          refine ok HK (λvs x hG HX hP => ?_)
          have hd0:=HX.out.2
          have hfl:=World.block_lt_of_cell? x _ hd0
          simp only at hfl
          simp only[zS]
          go_simp
          exact gc
         case s6 =>
          refine ok HK (λvs x hG HX hP => ?_)
          have HC:=Lib.hid (HU.out x)
          simp only[zS]
          go_simp
          refine(HC.out).mono ?_
          rintro e y ⟨rfl,rfl⟩
          exact⟨_,rfl,gq (Mv.refl _ _) rfl⟩
         case s7 =>
          refine oo (λvs x hP => ?_)
          simp only[zS]
          go_simp
          exact gc
         case s8 =>
          refine oo (λvs x hP => ?_)
          simp only[zS]
          go_simp
          exact gc
         case s9 =>
          refine oo (λvs x hP => ?_)
          simp only[zS]
          go_simp
          exact gc
         case s10 =>
          refine oo (λvs x hP => ?_)
          simp only[zS]
          go_simp
          exact gc
         case s11 =>
          refine oo (λvs x hP => ?_)
          simp only[zS]
          go_simp
          exact gc
        case done =>
        intro vs wx hE
        have hG:=hE.grow
        have aO:=Lib.hid (gtr HG.out hG)
        clear hE hG
        simp only[zS,Nat.reduceAdd]
        go_wp2_with fail
        go_ret2
        rw[qg.out]
        exact⟨rfl,aO.out⟩
      | [],h0,_,_,_=>simp at h0
      |_ :: _ :: _,h0,_,_,_=>simp at h0
    · match fl,h0,HT,HRW,HV with
      | [x1,x2],_,HT,HRW,HV =>
       have hx:=HT.out 0 (by simp) (by simp)
       have hy:=HT.out 1 (by simp) (by simp)
       obtain⟨v1,hv1⟩:=Option.isSome_iff_exists.1 hx
       obtain⟨v2,hv2⟩:=Option.isSome_iff_exists.1 hy
       obtain⟨b,o,rfl,⟨-,d3,d4,d5⟩,hkl⟩:=BV HRW.out (i:=0) (by simp)
       obtain⟨b',o',e',⟨-,f3,f4,f5⟩,hfl⟩:=BV HRW.out (i:=1) (by simp)
       cases e'
       simp only[List.getElem_cons_zero,List.getElem_cons_succ]at hx hy hv1 hv2 d4 f4
       rw[hv1]at d4
       rw[hv2]at f4
       simp only[Option.getD_some,Nat.zero_mul,Nat.add_zero,Nat.one_mul]at d4 f4
       have qg:=Lib.hid (show V=if(bZ k v1 v2).2=0 then some (bZ k v1 v2).1 else none from by rw[HV.out];unfold pQ;rw[if_neg (by omega),if_neg (by omega)];simp[hv1,hv2])
       have HU:=Lib.hid (λz=>Vq k v1 v2 z hk)
       unfold iR at HU
       have hr:=UG k v1 v2
       generalize bZ k v1 v2=r at *
       obtain⟨r1,r2⟩:=r
       simp only at hr
       have QZ:=Lib.hid hr
       have HK:=Lib.hid (λ(y:World) (hy:Grow wr y)=>And.intro (ah HB.out hy) (And.intro (cZ d4 hy) (cZ f4 hy)))
       have e1:(k == 1)=false:=by simp;omega
       have e2:(k == 2)=false:=by simp;omega
       have e3:(k == 3)=false:=by simp;omega
       have e4:(k == 4)=false:=by simp;omega
       have e5:(k == 5)=false:=by simp;omega
       have e6:(k == 6)=false:=by simp;omega
       have e7:(k == 7)=false:=by simp;omega
       simp only[List.length_cons,List.length_nil,Nat.zero_add,Nat.reduceAdd]at hdl ⊢
       clear HV rQ HT HRW hx hy hv1 hv2 d3 d5 f3 f5 hkl hfl hk hr
       go_upto_region 10 with fail
       refine wg 61 [some 23,some 24,some 25,some 26,some 27,some 28,some 29,some 30,some 31,some 32,some 33,some 22,some 34,some 35,some 8,some 9] [[],[0],[],[2],[3],[4],[],[6],[7],[8],[1,5,9],[10],[11],[11],[12],[13]] [] [.c (.pointer (some ⟨w.heap.size,0,none⟩)),.c (.int .u8 k),.c (.slice (some ⟨b,o,none⟩) 2 fc),.c (.pointer (some ⟨b,o,none⟩)),.c (.pointer (some ⟨b,o+4,none⟩)),.c (.int .i64 v1),.c (.slice (some ⟨b,o,none⟩) 2 fc),.c (.pointer (some ⟨b,o+6,none⟩)),.c (.pointer (some ⟨b,o+6+4,none⟩)),.c (.int .i64 v2),.c (.tuple #[.int .i64 r1,.int .i64 r2]),.c (.tuple #[.int .i64 r1,.int .i64 r2]),.c (.int .i64 r1),.c (.int .i64 r2),.c (.int .i64 r1),.c (.int .i64 r2)] trivial (dm rfl) ?steps ?done
       case steps =>
        refine⟨?s0,?s1,?s2,?s3,?s4,?s5,?s6,?s7,?s8,?s9,?s10,?s11,?s12,?s13,?s14,?s15,trivial⟩
        case s0 =>
         refine oo (λvs x hP => ?_)
         simp only[zS]
         go_simp
         exact gc
        case s1 =>
         refine ok HK (λvs x hG HX hP => ?_)
         obtain⟨⟨n0,n1⟩,n2,n3⟩:=az HX.out.1
         simp only[zS]
         go_simp
         exact gc
        case s2 =>
         refine oo (λvs x hP => ?_)
         simp only[zS]
         go_simp
         exact gc
        case s3 =>
         refine oo (λvs x hP => ?_)
         simp only[zS]
         go_simp
         exact gc
        case s4 =>
         refine oo (λvs x hP => ?_)
         simp only[zS]
         go_simp
         exact gc
        case s5 =>
         refine ok HK (λvs x hG HX hP => ?_)
         have hd0:=HX.out.2.1
         have hfl:=World.block_lt_of_cell? x _ hd0
         simp only at hfl
         simp only[zS]
         go_simp
         exact gc
        case s6 =>
         refine oo (λvs x hP => ?_)
         simp only[zS]
         go_simp
         exact gc
        case s7 =>
         refine oo (λvs x hP => ?_)
         simp only[zS]
         go_simp
         exact gc
        case s8 =>
         refine oo (λvs x hP => ?_)
         simp only[zS]
         go_simp
         exact gc
        case s9 =>
         refine ok HK (λvs x hG HX hP => ?_)
         have hd1:=HX.out.2.2
         have hfl:=World.block_lt_of_cell? x _ hd1
         simp only at hfl
         simp only[zS]
         go_simp
         exact gc
        case s10 =>
         refine ok HK (λvs x hG HX hP => ?_)
         have HC:=Lib.hid (HU.out x)
         simp only[zS]
         go_simp
         refine(HC.out).mono ?_
         rintro e y ⟨rfl,rfl⟩
         exact⟨_,rfl,gq (Mv.refl _ _) rfl⟩
        case s11 =>
         refine oo (λvs x hP => ?_)
         simp only[zS]
         go_simp
         exact gc
        case s12 =>
         refine oo (λvs x hP => ?_)
         simp only[zS]
         go_simp
         exact gc
        case s13 =>
         refine oo (λvs x hP => ?_)
         simp only[zS]
         go_simp
         exact gc
        case s14 =>
         refine oo (λvs x hP => ?_)
         simp only[zS]
         go_simp
         exact gc
        case s15 =>
         refine oo (λvs x hP => ?_)
         simp only[zS]
         go_simp
         exact gc
       case done =>
       intro vs wx hE
       have hG:=hE.grow
       have aO:=Lib.hid (gtr HG.out hG)
       clear hE hG
       simp only[zS,Nat.reduceAdd]
       by_cases hr:r2=0
       · subst hr
         rw[if_pos rfl]at qg
         go_wp2_with fail
         go_ret2
         rw[qg.out]
         exact⟨rfl,aO.out⟩
       · have he:(r2 == 0)=false:=by simpa using hr
         rw[if_neg hr]at qg
         have h1:r1=0:=QZ.out hr
         subst h1
         clear QZ hr
         go_wp2_with fail
         go_ret2
         rw[qg.out]
         exact⟨rfl,aO.out⟩
      | [],h0,_,_,_=>simp at h0
      | [_],h0,_,_,_=>simp at h0
      |_ :: _ :: _ :: _,h0,_,_,_=>simp at h0
 exact key
end Go.Proofs.YtbpodipdfohikaaGreat
