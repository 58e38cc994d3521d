import Derived.Test.YtbpodipdfohikaaGreatK33
set_option linter.unusedSimpArgs false
set_option linter.unusedVariables false
set_option maxRecDepth 100000
set_option maxHeartbeats 25600000
namespace Go.Proofs.YtbpodipdfohikaaGreat
open Go.RowKit Go.Instr
theorem WZ {w0:World} {p:aB} {fuel k:Nat} {w:World} {x:aM} {s:ai} (h:aG w0 p fuel k w x s):∃ b o,lV x s b o:=by
 by_cases h0:s.calls.length=0
 · exact⟨x.S,0,.inl ⟨h0,rfl,rfl⟩⟩
 · have hz:=uX h
   rcases h.calls.2 with⟨e,he⟩|⟨g,c2,u2,e,_⟩
   · rw[hz]at he;omega
   · exact⟨g,_,.inr ⟨by omega,⟨c2,by rw[e,hz]⟩,rfl⟩⟩
theorem UN {x:aM} {s:ai} {b o b' o':Nat} (h:lV x s b o) (k:lV x s b' o'):b=b'/\o=o':=by
 rcases h with⟨h1,rfl,rfl⟩|⟨h1,⟨c,h2⟩,rfl⟩ <;> rcases k with⟨k1,rfl,rfl⟩|⟨k1,⟨c',k2⟩,rfl⟩
 · exact⟨rfl,rfl⟩
 · omega
 · omega
 · rw[h2]at k2
   simp only[Value.slice.injEq,Option.some.injEq,Addr.mk.injEq]at k2
   exact⟨k2.1.1,rfl⟩
theorem KO (V:List (au × Nat)) (n:ByteArray):gK (V.map Prod.fst) n=(bz V n).map Prod.fst:=by
 rcases(wT (V.map Prod.fst) n).choose_spec.last with⟨-,h⟩|⟨j,hj,-,h⟩
 · rw[h]
   refine Gi _ _ λj hj => ?_
   have:=(wT (V.map Prod.fst) n).choose_spec
   rcases this with⟨_,h2⟩|⟨i,hi,_,h2,_⟩
   · exact h2 j hj
   · exfalso
     rcases(wT (V.map Prod.fst) n).choose_spec.last with⟨e,_⟩|⟨j',hj',_,h3⟩
     · omega
     · rw[h]at h3;cases h3
 · rw[h]
   rcases(wT (V.map Prod.fst) n).choose_spec with⟨e,h2⟩|⟨i,hi,e,h2,h3⟩
   · rcases(wT (V.map Prod.fst) n).choose_spec.last with⟨_,h4⟩|⟨j',hj',e',_⟩
     · rw[h]at h4;cases h4
     · omega
   · have h5:=Gp n (V.map Prod.fst) i hi h2 h3
     rw[h5]
     rcases(wT (V.map Prod.fst) n).choose_spec.last with⟨e',_⟩|⟨j',hj',e',h6⟩
     · omega
     · rw[h]at h6
       have:i=j':=by omega
       subst this
       rw[Option.some.inj h6]
       simp
theorem UO {s:ai} {kd nn kn:Int} {ns ks:ByteArray} {res:Except Int ai} (hk:kd=44\/kd=45) (h:s.move (kd == 44) ns ks=some res) :
 (jS (s.cur.vars.map Prod.fst) (.mk kd nn ns [.mk 2 kn ks []])≠0/\res = .error (jS (s.cur.vars.map Prod.fst) (.mk kd nn ns [.mk 2 kn ks []]))) \/
 (jS (s.cur.vars.map Prod.fst) (.mk kd nn ns [.mk 2 kn ks []])=0/\∃ u v c val,bz s.cur.vars ns=some u/\bz s.cur.vars ks=some v/\s.cells[u.2]? = some c/\s.cells[v.2]? = some [val]/\u.2≠v.2/\res=if kd=44 then tq s u.2 v.2 c val else pV s u.2 v.2 c val):=by
 have hn:jR kd=3:=by rcases hk with rfl|rfl <;> rfl
 have hF:jS (s.cur.vars.map Prod.fst) (.mk kd nn ns [.mk 2 kn ks []])=match bz s.cur.vars ns with
  |none=>6
  |some u=>if u.1.kind=3 then(match bz s.cur.vars ks with
   |none=>6
   |some v=>if v.1.kind=1 then 0 else 7)else 7:=by
  have hK:iY (s.cur.vars.map Prod.fst) [.mk 2 kn ks []]=match bz s.cur.vars ks with
   |none=>6
   |some v=>if v.1.kind=1 then 0 else 7:=by
   have h1:jS (s.cur.vars.map Prod.fst) (.mk 2 kn ks [])=match bz s.cur.vars ks with
    |none=>6
    |some v=>if v.1.kind=1 then 0 else 7:=by
    rw[jS,if_neg (show ¬ jR 2=0 by decide),KO,iY]
    cases bz s.cur.vars ks <;> rfl
   rw[iY,iY,h1]
   generalize (match bz s.cur.vars ks with
    |none=>(6:Int)
    |some v=>if v.1.kind=1 then 0 else 7)=z
   by_cases h2:z=0
   · simp[h2]
   · simp[h2]
  rw[jS,hn,if_neg (show ¬ (3:Int)=0 by decide),KO,hK]
  cases bz s.cur.vars ns <;> rfl
 rw[hF]
 unfold ai.move at h
 cases hu:bz s.cur.vars ns with
 |none =>
  rw[hu]at h
  exact .inl ⟨by simp,(Option.some.inj h).symm⟩
 |some u =>
  rw[hu]at h
  simp only at h ⊢
  by_cases h3:u.1.kind=3
  · rw[if_pos h3]
    rw[if_neg (by simpa using h3)]at h
    cases hv:bz s.cur.vars ks with
    |none =>
     rw[hv]at h
     exact .inl ⟨by simp,(Option.some.inj h).symm⟩
    |some v =>
     rw[hv]at h
     simp only at h ⊢
     by_cases h4:v.1.kind=1
     · rw[if_pos h4]
       rw[if_neg (by simpa using h4)]at h
       refine .inr ⟨rfl,u,v,?_⟩
       split at h
       · rename_i xv c e1 e2
         by_cases h5:u.2=v.2
         · rw[if_pos h5]at h;cases h
         · rw[if_neg h5]at h
           refine⟨c,xv,rfl,rfl,e2,e1,h5,?_⟩
           rcases hk with rfl|rfl
           · simp only[beq_self_eq_true,if_true]at h ⊢
             unfold tq
             split at h
             · rename_i h6;rw[if_pos h6];exact(Option.some.inj h).symm
             · rename_i h6;rw[if_neg h6];exact(Option.some.inj h).symm
           · rw[if_neg (by decide)]at h
             rw[if_neg (by decide)]
             unfold pV
             split at h
             · rename_i h6;rw[if_pos h6];exact(Option.some.inj h).symm
             · rename_i h6
               rw[if_neg h6]
               split at h
               · rename_i h7;rw[if_pos h7];exact(Option.some.inj h).symm
               · rename_i h7;rw[if_neg h7];exact(Option.some.inj h).symm
       · cases h
     · rw[if_neg h4]
       rw[if_pos (by simpa using h4)]at h
       exact .inl ⟨by simp,(Option.some.inj h).symm⟩
  · rw[if_neg h3]
    rw[if_pos (by simpa using h3)]at h
    exact .inl ⟨by simp,(Option.some.inj h).symm⟩
theorem YG {kd nn kk kn:Int} {ns ks:ByteArray} {l:List Tree} (hk:kd=44\/kd=45) (h:aW (.mk kd nn ns [.mk kk kn ks l])=true):fH (.mk kk kn ks l)=true:=by
 rw[aW]at h
 rcases hk with rfl|rfl <;> simp[aY]at h <;> exact h.2
theorem YH {kd nn:Int} {ns:ByteArray} {l:List Tree} (hk:kd=44\/kd=45) (h:aW (.mk kd nn ns l)=true):∃ t,l=[t]:=by
 rw[aW]at h
 match l with
 | []=>rcases hk with rfl|rfl <;> simp[aY]at h
 | [t]=>exact⟨t,rfl⟩
 |a :: b :: c=>rcases hk with rfl|rfl <;> simp[aY]at h
theorem UQ {kn:Int} {ks:ByteArray} {l:List Tree} (h:fH (.mk 2 kn ks l)=true):l=[]:=by
 unfold fH at h
 rw[aJ]at h
 simp[Tree.kind]at h
 exact h.2
set_option maxRecDepth 100000 in
set_option maxHeartbeats 6400000 in
theorem Oa (w0:World) (p:aB) (fuel k:Nat) (w:World) (x:aM) (s:ai) (kd nn:Int) (ns:ByteArray) (nv:Value) (kk kn:Int) (ks:ByteArray) (kv:Value) (kl:List ae) (res:Except Int ai) (hk:kd=44\/kd=45) (h:aG w0 p fuel k w x s) (hf:∀ b,w.heap.size<=b->x.ρ b = .other) (hn:bD w (.mk kd nn ns nv [.mk kk kn ks kv kl])) (hs:aW (ae.t (.mk kd nn ns nv [.mk kk kn ks kv kl]))=true) (hkk:kk=2) (hr:s.move (kd == 44) ns ks=some res) :
 Calls Tryz.prog 124 #[.pointer (some ⟨x.S,0,none⟩),ae.val (.mk kd nn ns nv [.mk kk kn ks kv kl])] w (eT w0 p fuel k x w res):=by
 subst hkk
 obtain⟨b,o,uF⟩:=WZ h
 have hpl:=YG (l:=ae.ts kl) hk (by simpa[ae.t,ae.ts]using hs)
 have hkl:=UQ hpl
 have hft:ae.t (.mk kd nn ns nv [.mk 2 kn ks kv kl]) = .mk kd nn ns [.mk 2 kn ks []]:=by simp[ae.t,ae.ts,hkl]
 have hmc:=UO (nn:=nn) (kn:=kn) hk hr
 have uA:=Lib.hid (λz (hz:aG w0 p fuel k z x s)=>(wN w0 p fuel k z x s hz).mono (R':=λe w'=>e = .returned (.pointer (some ⟨b,o,none⟩))/\w'=z) (λe w' hq=>by
  obtain⟨⟨b',o',rfl,h2⟩,rfl⟩:=hq
  obtain⟨rfl,rfl⟩:=UN h2 uF
  exact⟨rfl,rfl⟩))
 have HIS:=Lib.hid (λz (hz:Grow w z)=>Ut (.mk kd nn ns nv [.mk 2 kn ks kv kl]) z (hn.later hz))
 rw[hs]at HIS
 have uG:=Lib.hid (λz (hz:Grow w z) (h2:aG w0 p fuel k z x s)=>LV b o _ (s.cur.vars.map Prod.fst) _ (.mk kd nn ns nv [.mk 2 kn ks kv kl]) (Nat.le_refl _) z (h2.qJ uF).1.1 (dW (f:=au.cells) (λ_=>rfl) h2.gY.vars) (hn.later hz))
 rw[hft]at uG
 have wC:=Lib.hid (λz=>WQ kd z hk)
 have iE:=Lib.hid (λz (hz:Grow w z) u v c val (h1:bz s.cur.vars ns=some u) (h2:bz s.cur.vars ks=some v) (h3:s.cells[u.2]? = some c) (h4:s.cells[v.2]? = some [val]) (h5:u.2≠v.2)=>show Calls Tryz.prog 141 #[.pointer (some ⟨x.S,0,none⟩),ae.val (.mk kd nn ns nv [.mk 2 kn ks kv kl])] z (eT w0 p fuel k x z (if kd=44 then tq s u.2 v.2 c val else pV s u.2 v.2 c val))from by
  have RI:IK s ns [.mk 2 kn ks kv kl] u v c val:=⟨kn,ks,kv,kl,rfl,by rw[ae.t];exact hpl,h1,h2,h3,h4,h5⟩
  rcases hk with rfl|rfl
  · rw[if_pos rfl]
    exact TG w0 p fuel k z x s nn ns nv _ u v c val (h.later hz) (λb hb=>hf b (Nat.le_trans hz.size hb)) (hn.later hz) RI
  · rw[if_neg (by decide)]
    exact Uc w0 p fuel k z x s nn ns nv _ u v c val (h.later hz) (λb hb=>hf b (Nat.le_trans hz.size hb)) (hn.later hz) RI)
 have e56:(kd == 56)=false:=by rcases hk with rfl|rfl <;> rfl
 generalize jS (s.cur.vars.map Prod.fst) (.mk kd nn ns [.mk 2 kn ks []])=F at *
 have yO:=Lib.hid hmc
 have HS:=Lib.hid h
 generalize hnl:[ae.mk 2 kn ks kv kl]=nl at *
 obtain⟨na,nc,rfl,-,-⟩:=hn.form
 have aj:=Lib.hid (show Grow w (w.alloc (.cells #[.int .u8 kd,.int .i64 nn,.string ns,.slice na nl.length nc] 40))from(Mv.refl _ w).alloc _)
 have bf:=Lib.hid (heap_alloc_new w (.cells #[.int .u8 kd,.int .i64 nn,.string ns,.slice na nl.length nc] 40))
 clear h hf hn hs hr uF hpl hkl hft hmc hk hnl
 simp only[ae.val,u6]at HIS uG iE ⊢
 go_enter Tryz.func124,Tryz.ntmps124
 go_wp2_with fail
 generalize (w.alloc (.cells #[.int .u8 kd,.int .i64 nn,.string ns,.slice na nl.length nc] 40))=w1 at *
 refine(HIS.out _ aj.out).mono ?_
 rintro e w2 ⟨rfl,hg⟩
 have HG2:=Lib.hid (gtr aj.out hg)
 have bV:=Lib.hid (ah bf.out hg)
 clear hg bf aj HIS
 obtain⟨⟨n0,n1⟩,n2,n3⟩:=az bV.out
 have hnl:=lt_of_block bV.out
 go_wp2_with fail
 refine(wC.out w2).mono ?_
 rintro e w3 ⟨rfl,rfl⟩
 clear wC
 go_upto_region 9 with fail
 have xR:=Lib.hid (λz (h2:Grow w2 z)=>uG.out z (gtr HG2.out h2) (HS.out.later (gtr HG2.out h2)))
 have HK:=Lib.hid (λ(y:World) (hy:Grow w2 y)=>And.intro (ah bV.out hy) (And.intro (HS.out.later (gtr HG2.out hy)) hy))
 refine wg 32 [some 22,some 23,some 24,some 25,some 5] [[],[0],[],[1,2],[3]] [] [.c (.pointer (some ⟨x.S,0,none⟩)),.c (.pointer (some ⟨b,o,none⟩)),.c (.agg #[.int .u8 kd,.int .i64 nn,.string ns,.slice na nl.length nc]),.c (.int .i64 F),.c (.int .i64 F)] trivial (dm rfl) ?steps ?done
 case steps =>
  refine⟨?s0,?s1,?s2,?s3,?s4,trivial⟩
  case s0 =>
   refine oo (λvs x hP => ?_)
   simp only[zS]
   go_simp
   exact gc
  case s1 =>
   refine ok HK (λvs x1 hG HX hP => ?_)
   have HC:=Lib.hid (uA.out x1 HX.out.2.1)
   simp only[zS]
   go_simp
   refine(HC.out).mono ?_
   rintro e y ⟨rfl,rfl⟩
   exact⟨_,rfl,gq (Mv.refl _ _) rfl⟩
  case s2 =>
   refine ok HK (λvs x1 hG HX hP => ?_)
   obtain⟨⟨n0,n1⟩,n2,n3⟩:=az HX.out.1
   simp only[zS]
   go_simp
   exact gc
  case s3 =>
   refine ok HK (λvs x1 hG HX hP => ?_)
   have HC:=Lib.hid (xR.out x1 HX.out.2.2)
   simp only[zS]
   go_simp
   refine(HC.out).mono ?_
   rintro e y ⟨rfl,hg⟩
   exact⟨_,rfl,gq hg rfl⟩
  case s4 =>
   refine oo (λvs x hP => ?_)
   simp only[zS]
   go_simp
   exact gc
 case done =>
 intro vs wx hE
 have hG:=hE.grow
 have aO:=Lib.hid (gtr HG2.out hG)
 have gT:=Lib.hid (ah bV.out hG)
 clear hE hG n0 n1 n2 n3 hnl
 simp only[zS,Nat.reduceAdd]
 obtain⟨⟨n0,n1⟩,n2,n3⟩:=az gT.out
 have hnl:=lt_of_block gT.out
 rcases yO.out with⟨h0,hres⟩|⟨h0,u,v,c,val,h1,h2,h3,h4,h5,hres⟩
 · have hb:(F != 0)=true:=by simpa using h0
   have HQ:=Lib.hid (show eT w0 p fuel k x w res (.returned (.int .i64 F)) wx from by rw[hres];exact⟨⟨rfl,h0⟩,.new (HS.out.later aO.out).g aO.out⟩)
   clear h0 hres yO uG xR iE
   go_wp2_with fail
   go_ret
   exact HQ.out
 · subst h0
   have Pd:=Lib.hid (iE.out wx aO.out u v c val h1 h2 h3 h4 h5)
   rw[← hres]at Pd
   clear hres yO uG xR iE h1 h2 h3 h4 h5
   go_wp2_with fail
   refine Pd.out.mono ?_
   intro e w4 hq
   obtain⟨n,rfl⟩:=hq.int
   have HQ:=Lib.hid (eT.trans (ax.grow aO.out) hq)
   clear hq
   go_wp2_with fail
   go_ret
   exact HQ.out
theorem YI {kd nn:Int} {ns:ByteArray} {l:List Tree} (hk:kd=44\/kd=45):aW (.mk (qK kd) nn ns l)=aW (.mk kd nn ns l):=by
 rcases hk with rfl|rfl <;> rfl
set_option maxRecDepth 100000 in
set_option maxHeartbeats 6400000 in
theorem XZ (w0:World) (p:aB) (fuel k:Nat) (w:World) (x:aM) (s:ai) (kd nn:Int) (ns:ByteArray) (nv:Value) (kk kn:Int) (ks:ByteArray) (kv:Value) (kl:List ae) (res:Except Int ai) (hk:kd=44\/kd=45) (h:aG w0 p fuel k w x s) (hf:∀ b,w.heap.size<=b->x.ρ b = .other) (hn:bD w (.mk kd nn ns nv [.mk kk kn ks kv kl])) (hs:aW (ae.t (.mk kd nn ns nv [.mk kk kn ks kv kl]))=true) (hkk:kk=2) (hr:s.move (qK kd == 44) ns ks=some res) :
 Calls Tryz.prog 123 #[.pointer (some ⟨x.S,0,none⟩),ae.val (.mk kd nn ns nv [.mk kk kn ks kv kl])] w (eT w0 p fuel k x w res):=by
 have hk2:qK kd=44\/qK kd=45:=by rcases hk with rfl|rfl <;> simp[qK]
 have yY:=Lib.hid (λz (hz:Grow w z)=>Oa w0 p fuel k z x s (qK kd) nn ns nv kk kn ks kv kl res hk2 (h.later hz) (λb hb=>hf b (Nat.le_trans hz.size hb)) (by
  obtain⟨-,r2,r3,r4,r5⟩:=(hn.later hz).row
  exact .mk (by rcases hk2 with e|e <;> rw[e] <;> decide) r2 r3 r4 r5) (by rw[ae.t,YI hk,← hs,ae.t]) hkk hr)
 have lG:=Lib.hid (λz=>UF kd z hk)
 have bQ:=Lib.hid (λ(b:Nat) (hb:w.heap.size<=b)=>hb)
 generalize hnl:[ae.mk kk kn ks kv kl]=nl at *
 obtain⟨na,nc,rfl,-,-⟩:=hn.form
 have aj:=Lib.hid (show Grow w (w.alloc (.cells #[.int .u8 kd,.int .i64 nn,.string ns,.slice na nl.length nc] 40))from(Mv.refl _ w).alloc _)
 have bf:=Lib.hid (heap_alloc_new w (.cells #[.int .u8 kd,.int .i64 nn,.string ns,.slice na nl.length nc] 40))
 have hsz:w.heap.size<=w.heap.size:=Nat.le_refl _
 generalize qK kd=kd' at *
 clear h hf hn hs hr hk hnl hk2
 simp only[ae.val]at yY ⊢
 go_enter Tryz.func123,Tryz.ntmps123
 go_wp2_with fail
 generalize (w.alloc (.cells #[.int .u8 kd,.int .i64 nn,.string ns,.slice na nl.length nc] 40))=w1 at *
 refine(lG.out w1).mono ?_
 rintro e w2 ⟨rfl,rfl⟩
 clear lG
 have hb2:=block_setCell (p:=⟨w.heap.size,0,none⟩) bf.out rfl (.int .u8 kd')
 have HG2:=Lib.hid (bM aj.out ((Mv.refl (λb=>b=w.heap.size) w1).setCell (p:=⟨w.heap.size,0,none⟩) (.inl rfl) (.int .u8 kd')) (λb e=>by omega))
 obtain⟨⟨n0,n1⟩,n2,n3⟩:=az bf.out
 have hnl:=lt_of_block bf.out
 have zt:=bB bf.out
 have bV:=Lib.hid (show(w1.setCell ⟨w.heap.size,0,none⟩ (.int .u8 kd')).heap[w.heap.size]? = some (.cells #[.int .u8 kd',.int .i64 nn,.string ns,.slice na nl.length nc] 40 (0,0))from by rw[hb2];simp)
 clear hb2
 go_upto_region 2 with fail
 clear n0 n1 n2 n3 zt hnl
 generalize w1.setCell ⟨w.heap.size,0,none⟩ (.int .u8 kd')=w2 at *
 obtain⟨⟨n0,n1⟩,n2,n3⟩:=az bV.out
 have hnl:=lt_of_block bV.out
 go_wp2_with fail
 refine(yY.out _ HG2.out).mono ?_
 intro e w4 hq
 obtain⟨n,rfl⟩:=hq.int
 have HQ:=Lib.hid (eT.trans (ax.grow HG2.out) hq)
 clear hq
 go_wp2_with fail
 go_ret
 exact HQ.out
def Il (w0:World) (p:aB) (fuel k g:Nat):Prop:=∀ (w:World) (x:aM) (s:ai) (res:Except Int ai) (n:ae) (b:Bool),aG w0 p fuel k w x s->aL (λ_=>True) w0 n->exec (p.procs.map aN.d) fuel g (.stmt n.t) b s=some res ->
 Calls Tryz.prog 88 #[.pointer (some ⟨x.R,0,none⟩),n.val,.bool b] w (dx w0 p fuel k x w res)
def uY (w0:World) (p:aB) (fuel k g:Nat):Prop:=∀ (w:World) (x:aM) (s:ai) (res:Except Int ai) (n:ae) (b:Bool),aG w0 p fuel k w x s->aL (λ_=>True) w0 n->exec (p.procs.map aN.d) fuel g (.stmts (turned b n.t.kids)) b s=some res ->
 Calls Tryz.prog 61 #[.pointer (some ⟨x.R,0,none⟩),n.val,.bool b] w (dx w0 p fuel k x w res)
theorem zK {α β:Type} {x:Option (Except Int α)} {f:α->Option (Except Int β)} {res:Except Int β} (h:aI x f=some res):(∃ e,x=some (.error e)/\res = .error e)\/∃ a,x=some (.ok a)/\f a=some res:=by
 rcases x with - | e|a
 · cases h
 · exact .inl ⟨e,rfl,(Option.some.inj h).symm⟩
 · exact .inr ⟨a,rfl,h⟩
theorem UR {α:Type} (b:Bool) (l:List α) (i:Nat) (hi:i<l.length):∃ h:i<(turned b l).length,∃ hj:(if b then l.length - 1 - i else i)<l.length,(turned b l)[i]=l[if b then l.length - 1 - i else i]:=by
 cases b with
 |false=>exact⟨hi,hi,rfl⟩
 |true=>exact⟨by simpa[turned]using hi,by simp only[if_true];omega,by simp[turned,List.getElem_reverse]⟩
theorem UT {α:Type} (b:Bool) (l:List α):(turned b l).length=l.length:=by cases b <;> simp[turned]
theorem aL.up {P:Nat->Prop} {w w':World} {n:ae} (h:aL P w n) (hg:Grow w w'):aL P w' n:=h.stay hg (λ_ _ _ _ _ e=>e)
theorem aL.kids {P:Nat->Prop} {w:World} {k n:Int} {s:ByteArray} {kv:Value} {l:List ae} (h:aL P w (.mk k n s kv l)):∀ x∈l,aL P w x:=by
 cases h with
 |mk _ _ _ _ _ e=>exact e
set_option maxRecDepth 100000 in
set_option maxHeartbeats 6400000 in
theorem UU {w0:World} {p:aB} {fuel k g:Nat} (IH:∀ g',g'<g->Il w0 p fuel k g'):uY w0 p fuel k g:=by
 intro w x s res n b h hno hex
 have iM:=Lib.hid IH
 obtain⟨x1,hr1,ho,h1⟩:=h.fresh
 rw[show x.R=x1.R from hr1.R.symm]
 refine Calls.mono ?_ (λe w' (hq:dx w0 p fuel k x1 w res e w')=>hq.of hr1)
 clear hr1 h IH
 revert h1 ho
 generalize x1=x
 intro ho h
 have dC:=Lib.hid hno
 obtain⟨nk,nn,ns,nv,nl⟩:=n
 obtain⟨na,nc,rfl,hnc,hnl⟩:=hno.at.form
 have aj:=Lib.hid (show Grow w (w.alloc (.cells #[.int .u8 nk,.int .i64 nn,.string ns,.slice na nl.length nc] 40))from(Mv.refl _ w).alloc _)
 have bf:=Lib.hid (heap_alloc_new w (.cells #[.int .u8 nk,.int .i64 nn,.string ns,.slice na nl.length nc] 40))
 have jI:=Lib.hid (h.later aj.out)
 have iE:=Lib.hid (show exec (p.procs.map aN.d) fuel (g - 0) (.stmts ((turned b (ae.ts nl)).drop 0)) b s=some res from by
  rw[ae.t]at hex;exact hex)
 clear hno hex h ho
 simp only[ae.val]
 go_enter Tryz.func61,Tryz.ntmps61
 go_wp2_with fail
 generalize (w.alloc (.cells #[.int .u8 nk,.int .i64 nn,.string ns,.slice na nl.length nc] 40))=w1 at *
 obtain⟨⟨n0,n1⟩,n2,n3⟩:=az bf.out
 have hbl:=lt_of_block bf.out
 go_wp2_with fail
 clear n0 n1 n2 n3 hbl
 go_loopw [15] (λt wr=>∃ (i:Nat) (xi:aM) (si:ai),t = .int .i64 i/\i<=nl.length/\ax x xi w1 wr/\aG w0 p fuel k wr xi si/\exec (p.procs.map aN.d) fuel (g - i) (.stmts ((turned b (ae.ts nl)).drop i)) b si=some res) (λt _=>nl.length - (intOf t).toNat)
 case atStart=>exact⟨0,x,s,rfl,Nat.zero_le _,ax.refl _ _,jI.out,iE.out⟩
 obtain⟨i,xi,si,rfl,hi,wG,hsi,Pe⟩:=hrel
 have HR:=Lib.hid wG
 have HS:=Lib.hid hsi
 have HE:=Lib.hid Pe
 clear wG hsi Pe
 have rD:=Lib.hid (HR.out.n _ _ _ bf.out)
 obtain⟨⟨n0,n1⟩,n2,n3⟩:=az rD.out
 have hbl:=lt_of_block rD.out
 rcases Nat.lt_or_ge i nl.length with hlt|hge
 · have EX:decide ((i:Int)<nl.length)=true:=by simp;omega
   obtain⟨ht,hj,hte⟩:=UR b (ae.ts nl) i (by rw[ae.bX];exact hlt)
   rw[ae.bX]at hj
   have hg:∃ m,g - i=m+1:=by
    rcases Nat.eq_zero_or_pos (g - i)with e|e
    · have:=HE.out
      rw[e]at this
      cases this
    · exact⟨g - i - 1,by omega⟩
   obtain⟨m,hm⟩:=hg
   have Ob:(turned b (ae.ts nl)).drop i=(turned b (ae.ts nl))[i] :: (turned b (ae.ts nl)).drop (i+1):=List.drop_eq_getElem_cons ht
   have he2:=HE.out
   rw[hm,Ob,hte]at he2
   have HX:=Lib.hid (zK he2)
   have FL:=Lib.hid (show m<g/\g - (i+1)=m from by omega)
   clear he2 Ob hm hte ht
   have HRW:=Lib.hid ((dC.out.up HS.out.g).at.row.2.2.2.1)
   have AB:=Lib.hid (dC.out.kids)
   simp only[ae.bX]at HX
   have hkt:=ae.jw nl (if b then nl.length - 1 - i else i) hj
   simp only[hkt]at HX
   clear hkt
   have hidx:∃ j,(if b then nl.length - 1 - i else i)=j:=⟨_,rfl⟩
   obtain⟨j,CF⟩:=hidx
   simp only[CF]at HX hj
   have wD:=Lib.hid (AB.out _ (List.getElem_mem hj))
   obtain⟨kb,ko,cap,e,_,-⟩:=HRW.out.at hj
   simp only[Value.slice.injEq,true_and]at e
   obtain⟨rfl,rfl⟩:=e
   obtain⟨kk,kn,ks,ka,kc,kl,hke,⟨d0,d1⟩,d2,d3⟩:=BA HRW.out (λy hy=>(AB.out y hy).at.later HS.out.g) hj
   have hkl:=World.block_lt_of_cell? wr _ d0
   simp only at hkl
   rw[hke]at wD HX
   have FM:=Lib.hid CF
   clear hke CF
   have ug:=Lib.hid HR.out.R
   rcases HX.out with⟨e,hx,hres⟩|⟨s',hx,hrest⟩
   · have HST:=Lib.hid (iM.out m FL.out.1 wr xi si _ _ b HS.out wD.out hx)
     rw[ug.out]at HST
     have ng:=Lib.hid hres
     simp only[ae.val]at HST
     clear hx hres
     cases b with
     |true =>
      have Dt:(nl.length:Int) - 1 - i=(j:Int):=by have:=FM.out;simp only[if_true]at this;omega
      go_wp2_with fail
      refine HST.out.mono ?_
      rintro e2 w2 ⟨⟨rfl,hn0⟩,hg⟩
      refine⟨rfl,?_⟩
      rw[ng.out]
      exact⟨⟨rfl,hn0⟩,.of ((ax.grow aj.out).trans HR.out) hg⟩
     |false =>
      obtain rfl:i=j:=by have:=FM.out;simpa using this
      go_wp2_with fail
      refine HST.out.mono ?_
      rintro e2 w2 ⟨⟨rfl,hn0⟩,hg⟩
      refine⟨rfl,?_⟩
      rw[ng.out]
      exact⟨⟨rfl,hn0⟩,.of ((ax.grow aj.out).trans HR.out) hg⟩
   · have HST:=Lib.hid (iM.out m FL.out.1 wr xi si _ _ b HS.out wD.out hx)
     rw[ug.out]at HST
     have df:=Lib.hid hrest
     simp only[ae.val]at HST
     clear hx hrest
     cases b with
     |true =>
      have Dt:(nl.length:Int) - 1 - i=(j:Int):=by have:=FM.out;simp only[if_true]at this;omega
      go_wp2_with fail
      refine HST.out.mono ?_
      rintro e2 w2 ⟨rfl,x',hr',hs'⟩
      have HQ:=Lib.hid (And.intro (HR.out.trans hr') hs')
      clear hr' hs'
      go_wp2_with fail
      go_roundw
      case rel=>exact⟨i+1,x',s',by go_num,by omega,HQ.out.1,HQ.out.2,by rw[FL.out.2];exact df.out⟩
      case measure=>simp[intOf] <;> omega
     |false =>
      obtain rfl:i=j:=by have:=FM.out;simpa using this
      go_wp2_with fail
      refine HST.out.mono ?_
      rintro e2 w2 ⟨rfl,x',hr',hs'⟩
      have HQ:=Lib.hid (And.intro (HR.out.trans hr') hs')
      clear hr' hs'
      go_wp2_with fail
      go_roundw
      case rel=>exact⟨i+1,x',s',by go_num,by omega,HQ.out.1,HQ.out.2,by rw[FL.out.2];exact df.out⟩
      case measure=>simp[intOf] <;> omega
 · obtain rfl:i=nl.length:=by omega
   have hlt:decide ((nl.length:Int)<nl.length)=false:=by simp
   have hre:res = .ok si:=by
    have he:=HE.out
    rw[List.drop_eq_nil_of_le (by rw[UT,ae.bX];exact Nat.le_refl _)]at he
    cases hgm:g - nl.length with
    |zero=>rw[hgm]at he;cases he
    |succ m=>rw[hgm]at he;exact(Option.some.inj he).symm
   have HQ:=Lib.hid (show dx w0 p fuel k x w res (.returned (.tuple #[])) wr from by rw[hre];exact⟨rfl,xi,(ax.grow aj.out).trans HR.out,HS.out⟩)
   clear hre HE
   go_wp2_with fail
   go_end0
   exact HQ.out
def A7 (ws:List (List Nat)):Nat->Nat->List Nat
 |0,j=>ws.getD j []
 |n+1,j=>((A7 ws n j) ++ (A7 ws n j).flatMap (λk=>ws.getD k [])).eraseDups
theorem G5 {ws:List (List Nat)} {L:Array Bool} (hcl:∀ j,L.getD j false=true->∀ i∈ws.getD j [],L.getD i false=true):∀ (n j:Nat),L.getD j false=true->∀ i∈A7 ws n j,L.getD i false=true
 |0,j,h,i,hi=>hcl j h i hi
 |n+1,j,h,i,hi=>by
  rw[A7,List.mem_eraseDups,List.mem_append,List.mem_flatMap]at hi
  rcases hi with hi|⟨k,hk,hi⟩
  · exact G5 hcl n j h i hi
  · exact hcl k (G5 hcl n j h k hk) i hi
def Dx (ws:List (List Nat)) (W:List Nat) (i s:Nat):Bool:=decide (s<=W.length) && (List.range W.length).all λr => !((A7 ws 5 (W.getD r 0)).contains i) || decide (s<=r)
section
variable {P:Program} {Q:Exit->Act->World->Prop}
structure Cb (P:Program) (X:List PanicEntry->World->Prop) (ds:List (Option Tmp)) (ws ns:List (List Nat)) (Cs:List (Option Value)) (W:List Nat) (M:Nat->World->Prop) (a:Act) (i:Nat) (o:Oper):Prop where
 c:W.contains i=false->∀ s x,vU ws W i s=true->Dx ws W i s=true->M s x->Gives P o (aK ds (cv Cs) (ns.getD i []) a) x (λv y=>v=cv Cs i/\y=x)
 w:∀ r,r<W.length->W.getD r 0=i->∀ x,M r x->eB P X o (aK ds (cv Cs) (ns.getD i []) a) x (λv y=>(∀ c,Cs.getD i none=some c->v=c)/\M (r+1) y)
theorem TH {a:Act} {w:World} {l:List Oper} (X:List PanicEntry->World->Prop) (hX:∀ ch w' a',a'.defers=[]->X ch w'->Q (.panic ch) a' w') (hd:a.defers=[]) (N:Nat) (ds:List (Option Tmp)) (ws ns:List (List Nat)) (Cs:List (Option Value)) (W:List Nat) (M:Nat->World->Prop) (hN:a.tmps.size=N) (hok:fI N l.toArray ds ws ns []=true) (hq:Ag ds ws Cs W=true) (hwl:ws.length=l.length) (hns:((List.range l.length).all λi=>(ns.getD i []).all λj=>(ws.getD i []).contains j && decide (j<l.length))=true)
 (hM:M 0 w) (hstep:iX (Cb P X ds ws ns Cs W M a) 0 l)
 (hend:∀ (x:World),M W.length x->Q .normal (aK ds (cv Cs) (List.range l.length) a) x):wpAny P .any l.toArray Q l.toArray.size (Array.replicate l.toArray.size false) a w:=by
 simp only[Ag,Bool.and_eq_true]at hq
 obtain⟨⟨q1,q2⟩,q3⟩:=hq
 have hWd:∀ r,r<W.length->W.getD r 0<l.length/\(ds.getD (W.getD r 0) none=none\/(Cs.getD (W.getD r 0) none).isSome=true):=λr hr=>by
  have:=List.all_eq_true.1 q1 (W.getD r 0) (by simp[List.getD,hr])
  simp only[Bool.and_eq_true,decide_eq_true_eq,Bool.or_eq_true]at this
  exact⟨by rw[← hwl];exact this.1,by simpa using this.2⟩
 have hWc:∀ r,r+1<W.length->W.getD r 0∈ws.getD (W.getD (r+1) 0) []:=λr hr=>by
  have:=List.all_eq_true.1 q2 r (List.mem_range.2 (by omega))
  simpa using this
 have hval:∀ j,j<l.length->(∃ c,Cs.getD j none=some c)\/∃ r,r<W.length/\W.getD r 0=j:=λj hj=>by
  have:=List.all_eq_true.1 q3 j (List.mem_range.2 (by omega))
  simp only[Bool.or_eq_true]at this
  rcases this with h|h
  · exact .inl (Option.isSome_iff_exists.1 h)
  · exact .inr (zu h)
 have hcv:∀ (L:Array Bool) (vs:Nat->Value) (x:World),XI Cs W M L vs x->∀ j,j<l.length->L.getD j false=true->vs j=cv Cs j\/ds.getD j none=none:=λL vs x hI j hj hL=>by
  rcases hval j hj with⟨c,hc⟩|⟨r,hr,e⟩
  · exact .inl (by rw[hI.val j hL c hc];simp only[cv,hc];rfl)
  · rcases(hWd r hr).2 with h|h
    · exact .inr (by rw[← e];exact h)
    · obtain⟨c,hc⟩:=Option.isSome_iff_exists.1 h
      rw[e]at hc
      exact .inl (by rw[hI.val j hL c hc];simp only[cv,hc];rfl)
 refine KW X hX hd N ds ws ns [] hN hok (XI Cs W M) ?_ ?_ ?_
 · have hf:∀ j,(Array.replicate l.toArray.size false).getD j false=false:=by
    intro j
    by_cases hj:j<l.toArray.size <;> simp[Array.getD,hj]
   exact⟨⟨0,Nat.zero_le _,λr _=>by rw[hf];simp,hM⟩,λj h=>by rw[hf]at h;cases h⟩
 · intro i o ho L vs x hsz fM eF hcl hI
   have hil:i<L.size:=by
    have:=(Array.getElem?_eq_some_iff.1 ho).1
    omega
   have Cm:i<l.length:=by rw[hsz]at hil;simpa using hil
   have dJ:=wQ l 0 hstep i o (by simpa using ho)
   rw[Nat.zero_add]at dJ
   have hset:(L.setIfInBounds i true).getD i false=true:=by simp[hil]
   have hne:∀ j,j≠i->(L.setIfInBounds i true).getD j false=L.getD j false:=λj hj=>getD_set_ne false (λe=>hj e.symm)
   have hup:∀ (v:Value) j,j≠i->upd vs i v j=vs j:=λv j hj=>by simp[upd,hj]
   have jY:∀ (v:Value),upd vs i v i=v:=λv=>by simp[upd]
   have hact:aK ds vs (ns.getD i []) a=aK ds (cv Cs) (ns.getD i []) a:=uO _ _ λj hj=>by
    have h1:=List.all_eq_true.1 (List.all_eq_true.1 hns i (List.mem_range.2 Cm)) j hj
    simp only[Bool.and_eq_true,decide_eq_true_eq]at h1
    exact hcv L vs x hI j h1.2 (eF j (by simpa using h1.1))
   obtain⟨s,hs,hL,hMs⟩:=hI.st
   rw[hact]
   by_cases hw:W.contains i=true
   · obtain⟨r,hr,e⟩:=zu hw
     have h1:¬ r<s:=λh=>by have:=hL r hr;rw[e,fM]at this;simp[h]at this
     have CU:s=r:=by
      rcases Nat.eq_zero_or_pos r with h0|h0
      · omega
      · have h2:=hL (r - 1) (by omega)
        have h3:=hWc (r - 1) (by omega)
        rw[Nat.sub_add_cancel h0,e]at h3
        rw[eF _ h3]at h2
        have:r - 1<s:=by simpa using h2.symm
        omega
     subst CU
     refine(dJ.w s hr e x hMs).mono λv y hy=>⟨⟨s+1,hr,λr' hr' => ?_,hy.2⟩,λj hj c hc => ?_⟩
     · by_cases e2:W.getD r' 0=i
       · rw[e2,hset]
         have h5:¬ r'<s:=λh=>by have:=hL r' hr';rw[e2,fM]at this;simp[h]at this
         have h4:r'=s:=by
          rcases Nat.lt_or_ge s r' with h|h
          · exfalso
            have hr0:r'≠0:=by omega
            have h3:=hWc (r' - 1) (by omega)
            rw[Nat.sub_add_cancel (by omega),e2]at h3
            have h6:=hL (r' - 1) (by omega)
            rw[eF _ h3]at h6
            have:r' - 1<s:=by simpa using h6.symm
            omega
          · omega
         subst h4;simp
       · rw[hne _ e2,hL r' hr']
         have:r'≠s:=λh=>by subst h;exact e2 e
         by_cases h:r'<s
         · simp[h];omega
         · simp[h];omega
     · by_cases e2:j=i
       · subst e2;rw[jY];exact hy.1 c hc
       · rw[hne j e2]at hj;rw[hup v j e2];exact hI.val j hj c hc
   · have hw':W.contains i=false:=by simpa using hw
     have hlo:vU ws W i s=true:=List.all_eq_true.2 λr hr=>by
      have hr:=List.mem_range.1 hr
      by_cases h:(ws.getD i []).contains (W.getD r 0)=true
      · have:=hL r hr
        rw[eF _ (by simpa using h)]at this
        rw[h];simpa using this.symm
      · rw[Bool.not_eq_true]at h;rw[h];rfl
     have hhi:Dx ws W i s=true:=by
      simp only[Dx,Bool.and_eq_true,decide_eq_true_eq]
      refine⟨hs,List.all_eq_true.2 λr hr => ?_⟩
      have hr:=List.mem_range.1 hr
      by_cases h:(A7 ws 5 (W.getD r 0)).contains i=true
      · rw[h]
        have:¬ r<s:=λhlt=>by
         have h2:=hL r hr
         simp only[hlt,decide_true]at h2
         have:=G5 (λj hj i hi=>hcl j hj i hi) 5 _ h2 i (by simpa using h)
         rw[fM]at this;cases this
        simp;omega
      · rw[Bool.not_eq_true]at h;rw[h];rfl
     refine((dJ.c hw' s x hlo hhi hMs).x).mono λv y hy => ?_
     obtain⟨rfl,rfl⟩:=hy
     refine⟨⟨s,hs,λr hr => ?_,hMs⟩,λj hj c hc => ?_⟩
     · rw[hne _ (λe=>by
        have:W.contains i=true:=by rw[← e];simp[List.getD,hr]
        rw[hw']at this;cases this)]
       exact hL r hr
     · by_cases e2:j=i
       · subst e2;rw[jY];simp only[cv,hc];rfl
       · rw[hne j e2]at hj;rw[hup _ j e2];exact hI.val j hj c hc
 · intro L vs x hall hI
   have iw:∀ j,j<l.length->L.getD j false=true:=λj hj=>hall j (by simpa using hj)
   obtain⟨s,hs,hL,hMs⟩:=hI.st
   have hse:s=W.length:=by
    rcases Nat.lt_or_ge s W.length with h|h
    · exfalso
      have h1:=hL s h
      rw[iw _ (hWd s h).1]at h1
      simp at h1
    · omega
   subst hse
   have:=hend x hMs
   rwa[← uO (ds:=ds) (vs:=vs) (us:=cv Cs) _ _ (λj hj=>hcv L vs x hI j (List.mem_range.1 hj) (iw j (List.mem_range.1 hj)))]at this
theorem wy {id:Nat} {a:Act} {w:World} {l:List Oper} (X:List PanicEntry->World->Prop) (N:Nat) (ds:List (Option Tmp)) (ns:List (List Nat)) (Cs:List (Option Value)) (W:List Nat) (M:Nat->World->Prop) (hM:M 0 w.drew) (hstep:iX (Cb P X ds (bK l.toArray) ns Cs W M a) 0 l)
 (hend:∀ (x:World),M W.length x->Q .normal (aK ds (cv Cs) (rg 0 ds) a) x)
 (hX:∀ ch w' a',a'.defers=[]->X ch w'->Q (.panic ch) a' w') (hd:a.defers=[]:=by rfl) (hm:P.follows .mixedOrders=true:=by kernel_rfl) (hN:a.tmps.size=N:=by rfl) (hok:fI N l.toArray ds (bK l.toArray) ns []=true:=by kernel_rfl) (hq:Ag ds (bK l.toArray) Cs W=true:=by kernel_rfl) (hwl:(bK l.toArray).length=l.length:=by kernel_rfl) (hns:((List.range l.length).all λi=>(ns.getD i []).all λj=>((bK l.toArray).getD i []).contains j && decide (j<l.length))=true:=by kernel_rfl) (hr:rg 0 ds=List.range l.length:=by rfl):(Code.region id l.toArray true).wp P Q a w :=
 wp_region_any hm (TH X hX hd N ds (bK l.toArray) ns Cs W M hN hok hq hwl hns hM hstep λx h=>by have:=hend x h;rwa[hr]at this)
end
section
variable {P:Program} {X:List PanicEntry->World->Prop} {ds:List (Option Tmp)} {ws ns:List (List Nat)} {Cs:List (Option Value)} {W:List Nat} {M:Nat->World->Prop} {a:Act} {i:Nat} {o:Oper}
theorem yc (h:∀ (x:World),Gives P o (aK ds (cv Cs) (ns.getD i []) a) x (λv y=>v=cv Cs i/\y=x)) (hw:W.contains i=false:=by kernel_rfl):Cb P X ds ws ns Cs W M a i o :=
 ⟨λ_ _ x _ _ _=>h x,λ_ hr e=>(xq hw hr e).elim⟩
theorem yl (m:Nat) (h:∀ (s:Nat) (x:World),s<=m->M s x->Gives P o (aK ds (cv Cs) (ns.getD i []) a) x (λv y=>v=cv Cs i/\y=x)) (hw:W.contains i=false:=by kernel_rfl) (hs:((List.range (W.length+1)).all λt => !(vU ws W i t && Dx ws W i t) || decide (t<=m))=true:=by kernel_rfl):Cb P X ds ws ns Cs W M a i o :=
 ⟨λ_ t x h1 h2 hM=>by
  have ht:t<=W.length:=by simp only[Dx,Bool.and_eq_true,decide_eq_true_eq]at h2;exact h2.1
  have:=List.all_eq_true.1 hs t (List.mem_range.2 (by omega))
  rw[h1,h2]at this
  exact h t x (by simpa using this) hM,λ_ hr e=>(xq hw hr e).elim⟩
theorem yw (r:Nat) (h:∀ (x:World),M r x->eB P X o (aK ds (cv Cs) (ns.getD i []) a) x (λv y=>(∀ c,Cs.getD i none=some c->v=c)/\M (r+1) y)) (hw:W.contains i=true:=by kernel_rfl) (hu:((List.range W.length).all λt => !(W.getD t 0 == i) || t == r)=true:=by kernel_rfl):Cb P X ds ws ns Cs W M a i o :=
 ⟨λh'=>(by rw[hw]at h';cases h'),λt ht e x hM=>by
  have:=List.all_eq_true.1 hu t (List.mem_range.2 ht)
  have e2:t=r:=by rw[e]at this;simpa using this
  subst e2;exact h x hM⟩
end
end Go.Proofs.YtbpodipdfohikaaGreat
