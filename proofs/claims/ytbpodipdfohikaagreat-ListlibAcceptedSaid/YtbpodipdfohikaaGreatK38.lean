import Derived.Test.YtbpodipdfohikaaGreatK37
set_option linter.unusedSimpArgs false
set_option linter.unusedVariables false
set_option maxRecDepth 100000
set_option maxHeartbeats 25600000
namespace Go.Proofs.YtbpodipdfohikaaGreat
open Go.RowKit Go.Instr
theorem U0 {P:List bC} {fuel g:Nat} {k nn:Int} {ns:ByteArray} {l:List Tree} {b:Bool} {s:ai} {res:Except Int ai} (h:exec P fuel g (.stmt (.mk k nn ns l)) b s=some res):k=53\/k=54\/k=55\/(k=50\/k=51)\/((k=44\/k=45)/\(jA (.mk k nn ns l) 0).kind=2/\aI (some (s.step fuel)) (λs=>s.move (b != (k == 44)) ns (jA (.mk k nn ns l) 0).name)=some res):=by
 cases g with
 |zero=>cases h
 |succ g =>
  have he:=qy h
  rw[exec,if_neg (by rw[he];decide)]at h
  by_cases h1:k=53
  · exact .inl h1
  rw[if_neg (show ¬ Tree.kind (.mk k nn ns l)=53 from h1)]at h
  by_cases h2:k=54
  · exact .inr (.inl h2)
  rw[if_neg (show ¬ Tree.kind (.mk k nn ns l)=54 from h2)]at h
  by_cases h3:k=55
  · exact .inr (.inr (.inl h3))
  rw[if_neg (show ¬ Tree.kind (.mk k nn ns l)=55 from h3)]at h
  by_cases h4:k=50\/k=51
  · exact .inr (.inr (.inr (.inl h4)))
  rw[if_neg (show ¬ (Tree.kind (.mk k nn ns l)=50\/Tree.kind (.mk k nn ns l)=51)from h4)]at h
  by_cases h5:(k=44\/k=45)/\(jA (.mk k nn ns l) 0).kind=2
  · rw[if_pos (show(Tree.kind (.mk k nn ns l)=44\/Tree.kind (.mk k nn ns l)=45)/\(jA (.mk k nn ns l) 0).kind=2 from h5)]at h
    exact .inr (.inr (.inr (.inr ⟨h5.1,h5.2,h⟩)))
  · rw[if_neg (show ¬ ((Tree.kind (.mk k nn ns l)=44\/Tree.kind (.mk k nn ns l)=45)/\(jA (.mk k nn ns l) 0).kind=2)from h5)]at h
    cases h
theorem Xe {k nn:Int} {ns:ByteArray} {nl:List ae} (hk:k=55) (h:aW (.mk k nn ns (ae.ts nl))=true):∃ bd,nl=[bd]:=by
 subst hk
 rw[aW]at h
 match nl with
 | []=>simp[ae.ts]at h
 | [bd]=>exact⟨bd,rfl⟩
 |_ :: _ :: _=>simp[ae.ts]at h
theorem Ue {P:List bC} {fuel g:Nat} {nn:Int} {ns:ByteArray} {bd:Tree} {b:Bool} {s:ai} {res:Except Int ai} (h:exec P fuel g (.stmt (.mk 55 nn ns [bd])) b s=some res):∃ g',g=g'+1 /\
 aI (some (s.step fuel)) (λs=>aI (some (s.open ns 3 0)) λs=>aI (exec P fuel g' (.stmts (turned b bd.kids)) b s) λs=>aI (some (s.step fuel)) λs=>s.close ns 0)=some res:=by
 cases g with
 |zero=>cases h
 |succ g =>
  refine⟨g,rfl,?_⟩
  have he:=qy h
  rw[exec,if_neg (by rw[he];decide),if_neg (show ¬ Tree.kind (.mk 55 nn ns [bd])=53 from by show ¬ (55:Int)=53;decide),if_neg (show ¬ Tree.kind (.mk 55 nn ns [bd])=54 from by show ¬ (55:Int)=54;decide),if_pos (show Tree.kind (.mk 55 nn ns [bd])=55 from rfl)]at h
  exact h
set_option maxRecDepth 100000 in
set_option maxHeartbeats 6400000 in
theorem VV {w0:World} {p:aB} {fuel k:Nat} (w:World) (x:aM) (s:ai) (res:Except Int ai) (nk nn:Int) (ns:ByteArray) (nv:Value) (nl:List ae) (b:Bool) (hk:nk=53) (h:aG w0 p fuel k w x s) (hno:aL (λ_=>True) w0 (.mk nk nn ns nv nl))
 (HC:∀ z,Grow w z->Calls Tryz.prog 116 #[.pointer (some ⟨x.R,0,none⟩),ae.val (.mk nk nn ns nv nl),.bool b] z (dx w0 p fuel k x z res)) :
 Calls Tryz.prog 88 #[.pointer (some ⟨x.R,0,none⟩),ae.val (.mk nk nn ns nv nl),.bool b] w (dx w0 p fuel k x w res):=by
 subst hk
 obtain⟨na,nc,rfl,-,-⟩:=hno.at.form
 have lH:=Lib.hid HC
 have aj:=Lib.hid (show Grow w (w.alloc (.cells #[.int .u8 53,.int .i64 nn,.string ns,.slice na nl.length nc] 40))from(Mv.refl _ w).alloc _)
 have bf:=Lib.hid (heap_alloc_new w (.cells #[.int .u8 53,.int .i64 nn,.string ns,.slice na nl.length nc] 40))
 clear hno h HC
 simp only[ae.val]at lH ⊢
 go_enter Tryz.func88,Tryz.ntmps88
 go_upto_region 1 with fail
 generalize (w.alloc (.cells #[.int .u8 53,.int .i64 nn,.string ns,.slice na nl.length nc] 40))=w1 at *
 obtain⟨⟨n0,n1⟩,n2,n3⟩:=az bf.out
 have hbl:=lt_of_block bf.out
 have gG:=Lib.hid (lH.out _ aj.out)
 go_wp2_with fail
 refine gG.out.mono ?_
 intro e w2 hq
 have HQ:=Lib.hid (dx.of hq (ax.grow aj.out))
 clear hq
 cases res with
 |error n =>
  obtain⟨⟨rfl,hn0⟩,hg⟩:=HQ.out
  refine⟨rfl,?_⟩
  exact⟨⟨rfl,hn0⟩,(by first|exact hg|exact .of (ax.grow aj.out) hg|exact .of (ax.grow HG2.out) hg|exact .of (ax.grow aA.out) hg|exact .of (ax.grow bA.out) hg|exact .of (ax.grow bG.out) hg|exact .of (ax.grow aO.out) hg|exact .of iV.out hg|exact .of fu.out hg|exact .of dA.out hg|exact .of cK.out hg|exact .of fw.out hg|exact .of HR4.out hg|exact .of HR3.out hg|exact .of HR2.out hg|exact .of HR1.out hg|exact .of HR.out hg|exact .of ((ax.grow aj.out).trans HR.out) hg)⟩
 |ok s' =>
  obtain⟨rfl,hx⟩:=HQ.out
  go_wp2_with fail
  go_end0
  exact HQ.out
set_option maxRecDepth 100000 in
set_option maxHeartbeats 6400000 in
theorem Xf {w0:World} {p:aB} {fuel k:Nat} (w:World) (x:aM) (s:ai) (res:Except Int ai) (nk nn:Int) (ns:ByteArray) (nv:Value) (nl:List ae) (b:Bool) (hk:nk=54) (h:aG w0 p fuel k w x s) (hno:aL (λ_=>True) w0 (.mk nk nn ns nv nl))
 (HC:∀ z,Grow w z->Calls Tryz.prog 117 #[.pointer (some ⟨x.R,0,none⟩),ae.val (.mk nk nn ns nv nl),.bool b] z (dx w0 p fuel k x z res)) :
 Calls Tryz.prog 88 #[.pointer (some ⟨x.R,0,none⟩),ae.val (.mk nk nn ns nv nl),.bool b] w (dx w0 p fuel k x w res):=by
 subst hk
 obtain⟨na,nc,rfl,-,-⟩:=hno.at.form
 have lH:=Lib.hid HC
 have aj:=Lib.hid (show Grow w (w.alloc (.cells #[.int .u8 54,.int .i64 nn,.string ns,.slice na nl.length nc] 40))from(Mv.refl _ w).alloc _)
 have bf:=Lib.hid (heap_alloc_new w (.cells #[.int .u8 54,.int .i64 nn,.string ns,.slice na nl.length nc] 40))
 clear hno h HC
 simp only[ae.val]at lH ⊢
 go_enter Tryz.func88,Tryz.ntmps88
 go_upto_region 1 with fail
 generalize (w.alloc (.cells #[.int .u8 54,.int .i64 nn,.string ns,.slice na nl.length nc] 40))=w1 at *
 obtain⟨⟨n0,n1⟩,n2,n3⟩:=az bf.out
 have hbl:=lt_of_block bf.out
 have gG:=Lib.hid (lH.out _ aj.out)
 go_wp2_with fail
 refine gG.out.mono ?_
 intro e w2 hq
 have HQ:=Lib.hid (dx.of hq (ax.grow aj.out))
 clear hq
 cases res with
 |error n =>
  obtain⟨⟨rfl,hn0⟩,hg⟩:=HQ.out
  refine⟨rfl,?_⟩
  exact⟨⟨rfl,hn0⟩,(by first|exact hg|exact .of (ax.grow aj.out) hg|exact .of (ax.grow HG2.out) hg|exact .of (ax.grow aA.out) hg|exact .of (ax.grow bA.out) hg|exact .of (ax.grow bG.out) hg|exact .of (ax.grow aO.out) hg|exact .of iV.out hg|exact .of fu.out hg|exact .of dA.out hg|exact .of cK.out hg|exact .of fw.out hg|exact .of HR4.out hg|exact .of HR3.out hg|exact .of HR2.out hg|exact .of HR1.out hg|exact .of HR.out hg|exact .of ((ax.grow aj.out).trans HR.out) hg)⟩
 |ok s' =>
  obtain⟨rfl,hx⟩:=HQ.out
  go_wp2_with fail
  go_end0
  exact HQ.out
set_option maxRecDepth 100000 in
set_option maxHeartbeats 6400000 in
theorem VW {w0:World} {p:aB} {fuel k:Nat} (w:World) (x:aM) (s:ai) (res:Except Int ai) (nk nn:Int) (ns:ByteArray) (nv:Value) (nl:List ae) (b:Bool) (hk:nk=50) (h:aG w0 p fuel k w x s) (hno:aL (λ_=>True) w0 (.mk nk nn ns nv nl))
 (HC:∀ z,Grow w z->Calls Tryz.prog 122 #[.pointer (some ⟨x.R,0,none⟩),ae.val (.mk nk nn ns nv nl),.bool (b != (nk == 51))] z (dx w0 p fuel k x z res)) :
 Calls Tryz.prog 88 #[.pointer (some ⟨x.R,0,none⟩),ae.val (.mk nk nn ns nv nl),.bool b] w (dx w0 p fuel k x w res):=by
 subst hk
 obtain⟨na,nc,rfl,-,-⟩:=hno.at.form
 have lH:=Lib.hid HC
 have aj:=Lib.hid (show Grow w (w.alloc (.cells #[.int .u8 50,.int .i64 nn,.string ns,.slice na nl.length nc] 40))from(Mv.refl _ w).alloc _)
 have bf:=Lib.hid (heap_alloc_new w (.cells #[.int .u8 50,.int .i64 nn,.string ns,.slice na nl.length nc] 40))
 clear hno h HC
 simp only[ae.val]at lH ⊢
 go_enter Tryz.func88,Tryz.ntmps88
 go_upto_region 1 with fail
 generalize (w.alloc (.cells #[.int .u8 50,.int .i64 nn,.string ns,.slice na nl.length nc] 40))=w1 at *
 obtain⟨⟨n0,n1⟩,n2,n3⟩:=az bf.out
 have hbl:=lt_of_block bf.out
 have gG:=Lib.hid (lH.out _ aj.out)
 cases b
 · go_wp2_with fail
   refine gG.out.mono ?_
   intro e w2 hq
   have HQ:=Lib.hid (dx.of hq (ax.grow aj.out))
   clear hq
   cases res with
   |error n =>
    obtain⟨⟨rfl,hn0⟩,hg⟩:=HQ.out
    refine⟨rfl,?_⟩
    exact⟨⟨rfl,hn0⟩,(by first|exact hg|exact .of (ax.grow aj.out) hg|exact .of (ax.grow HG2.out) hg|exact .of (ax.grow aA.out) hg|exact .of (ax.grow bA.out) hg|exact .of (ax.grow bG.out) hg|exact .of (ax.grow aO.out) hg|exact .of iV.out hg|exact .of fu.out hg|exact .of dA.out hg|exact .of cK.out hg|exact .of fw.out hg|exact .of HR4.out hg|exact .of HR3.out hg|exact .of HR2.out hg|exact .of HR1.out hg|exact .of HR.out hg|exact .of ((ax.grow aj.out).trans HR.out) hg)⟩
   |ok s' =>
    obtain⟨rfl,hx⟩:=HQ.out
    go_wp2_with fail
    go_end0
    exact HQ.out
 · go_wp2_with fail
   refine gG.out.mono ?_
   intro e w2 hq
   have HQ:=Lib.hid (dx.of hq (ax.grow aj.out))
   clear hq
   cases res with
   |error n =>
    obtain⟨⟨rfl,hn0⟩,hg⟩:=HQ.out
    refine⟨rfl,?_⟩
    exact⟨⟨rfl,hn0⟩,(by first|exact hg|exact .of (ax.grow aj.out) hg|exact .of (ax.grow HG2.out) hg|exact .of (ax.grow aA.out) hg|exact .of (ax.grow bA.out) hg|exact .of (ax.grow bG.out) hg|exact .of (ax.grow aO.out) hg|exact .of iV.out hg|exact .of fu.out hg|exact .of dA.out hg|exact .of cK.out hg|exact .of fw.out hg|exact .of HR4.out hg|exact .of HR3.out hg|exact .of HR2.out hg|exact .of HR1.out hg|exact .of HR.out hg|exact .of ((ax.grow aj.out).trans HR.out) hg)⟩
   |ok s' =>
    obtain⟨rfl,hx⟩:=HQ.out
    go_wp2_with fail
    go_end0
    exact HQ.out
set_option maxRecDepth 100000 in
set_option maxHeartbeats 6400000 in
theorem Uf {w0:World} {p:aB} {fuel k:Nat} (w:World) (x:aM) (s:ai) (res:Except Int ai) (nk nn:Int) (ns:ByteArray) (nv:Value) (nl:List ae) (b:Bool) (hk:nk=51) (h:aG w0 p fuel k w x s) (hno:aL (λ_=>True) w0 (.mk nk nn ns nv nl))
 (HC:∀ z,Grow w z->Calls Tryz.prog 122 #[.pointer (some ⟨x.R,0,none⟩),ae.val (.mk nk nn ns nv nl),.bool (b != (nk == 51))] z (dx w0 p fuel k x z res)) :
 Calls Tryz.prog 88 #[.pointer (some ⟨x.R,0,none⟩),ae.val (.mk nk nn ns nv nl),.bool b] w (dx w0 p fuel k x w res):=by
 subst hk
 obtain⟨na,nc,rfl,-,-⟩:=hno.at.form
 have lH:=Lib.hid HC
 have aj:=Lib.hid (show Grow w (w.alloc (.cells #[.int .u8 51,.int .i64 nn,.string ns,.slice na nl.length nc] 40))from(Mv.refl _ w).alloc _)
 have bf:=Lib.hid (heap_alloc_new w (.cells #[.int .u8 51,.int .i64 nn,.string ns,.slice na nl.length nc] 40))
 clear hno h HC
 simp only[ae.val]at lH ⊢
 go_enter Tryz.func88,Tryz.ntmps88
 go_upto_region 1 with fail
 generalize (w.alloc (.cells #[.int .u8 51,.int .i64 nn,.string ns,.slice na nl.length nc] 40))=w1 at *
 obtain⟨⟨n0,n1⟩,n2,n3⟩:=az bf.out
 have hbl:=lt_of_block bf.out
 have gG:=Lib.hid (lH.out _ aj.out)
 cases b
 · go_wp2_with fail
   refine gG.out.mono ?_
   intro e w2 hq
   have HQ:=Lib.hid (dx.of hq (ax.grow aj.out))
   clear hq
   cases res with
   |error n =>
    obtain⟨⟨rfl,hn0⟩,hg⟩:=HQ.out
    refine⟨rfl,?_⟩
    exact⟨⟨rfl,hn0⟩,(by first|exact hg|exact .of (ax.grow aj.out) hg|exact .of (ax.grow HG2.out) hg|exact .of (ax.grow aA.out) hg|exact .of (ax.grow bA.out) hg|exact .of (ax.grow bG.out) hg|exact .of (ax.grow aO.out) hg|exact .of iV.out hg|exact .of fu.out hg|exact .of dA.out hg|exact .of cK.out hg|exact .of fw.out hg|exact .of HR4.out hg|exact .of HR3.out hg|exact .of HR2.out hg|exact .of HR1.out hg|exact .of HR.out hg|exact .of ((ax.grow aj.out).trans HR.out) hg)⟩
   |ok s' =>
    obtain⟨rfl,hx⟩:=HQ.out
    go_wp2_with fail
    go_end0
    exact HQ.out
 · go_wp2_with fail
   refine gG.out.mono ?_
   intro e w2 hq
   have HQ:=Lib.hid (dx.of hq (ax.grow aj.out))
   clear hq
   cases res with
   |error n =>
    obtain⟨⟨rfl,hn0⟩,hg⟩:=HQ.out
    refine⟨rfl,?_⟩
    exact⟨⟨rfl,hn0⟩,(by first|exact hg|exact .of (ax.grow aj.out) hg|exact .of (ax.grow HG2.out) hg|exact .of (ax.grow aA.out) hg|exact .of (ax.grow bA.out) hg|exact .of (ax.grow bG.out) hg|exact .of (ax.grow aO.out) hg|exact .of iV.out hg|exact .of fu.out hg|exact .of dA.out hg|exact .of cK.out hg|exact .of fw.out hg|exact .of HR4.out hg|exact .of HR3.out hg|exact .of HR2.out hg|exact .of HR1.out hg|exact .of HR.out hg|exact .of ((ax.grow aj.out).trans HR.out) hg)⟩
   |ok s' =>
    obtain⟨rfl,hx⟩:=HQ.out
    go_wp2_with fail
    go_end0
    exact HQ.out
set_option maxRecDepth 100000 in
set_option maxHeartbeats 12800000 in
theorem Xg {w0:World} {p:aB} {fuel k:Nat} (w:World) (x:aM) (s:ai) (res:Except Int ai) (nk nn:Int) (ns:ByteArray) (nv:Value) (kk kn:Int) (ks:ByteArray) (kv:Value) (kl:List ae) (b:Bool) (hk:nk=44\/nk=45) (h:aG w0 p fuel k w x s) (hno:aL (λ_=>True) w0 (.mk nk nn ns nv [.mk kk kn ks kv kl]))
 (hs:aW (ae.t (.mk nk nn ns nv [.mk kk kn ks kv kl]))=true) (hkk:kk=2) (hex:aI (some (s.step fuel)) (λs=>s.move (b != (nk == 44)) ns ks)=some res) :
 Calls Tryz.prog 88 #[.pointer (some ⟨x.R,0,none⟩),ae.val (.mk nk nn ns nv [.mk kk kn ks kv kl]),.bool b] w (dx w0 p fuel k x w res):=by
 have yY:=Lib.hid (λz x' (s':ai) (hz:aG w0 p fuel k z x' s') (hr:s'.move (nk == 44) ns ks=some res)=>(show Calls Tryz.prog 124 #[.pointer (some ⟨x'.S,0,none⟩),ae.val (.mk nk nn ns nv [.mk kk kn ks kv kl])] z (eT w0 p fuel k x' z res)from by
  obtain⟨x2,hr2,ho2,h2⟩:=hz.fresh
  have:=Oa w0 p fuel k z x2 s' nk nn ns nv kk kn ks kv kl res hk h2 ho2 (hno.up hz.g).at hs hkk hr
  rw[hr2.S]at this
  exact this.mono λe w' hq=>hq.trans hr2))
 have FY:=Lib.hid (λz x' (s':ai) (hz:aG w0 p fuel k z x' s') (hr:s'.move (qK nk == 44) ns ks=some res)=>(show Calls Tryz.prog 123 #[.pointer (some ⟨x'.S,0,none⟩),ae.val (.mk nk nn ns nv [.mk kk kn ks kv kl])] z (eT w0 p fuel k x' z res)from by
  obtain⟨x2,hr2,ho2,h2⟩:=hz.fresh
  have:=XZ w0 p fuel k z x2 s' nk nn ns nv kk kn ks kv kl res hk h2 ho2 (hno.up hz.g).at hs hkk hr
  rw[hr2.S]at this
  exact this.mono λe w' hq=>hq.trans hr2))
 generalize hnl:[ae.mk kk kn ks kv kl]=nl at *
 obtain⟨na,nc,rfl,-,-⟩:=hno.at.form
 have aj:=Lib.hid (show Grow w (w.alloc (.cells #[.int .u8 nk,.int .i64 nn,.string ns,.slice na nl.length nc] 40))from(Mv.refl _ w).alloc _)
 have bf:=Lib.hid (heap_alloc_new w (.cells #[.int .u8 nk,.int .i64 nn,.string ns,.slice na nl.length nc] 40))
 have jI:=Lib.hid (h.later aj.out)
 have iE:=Lib.hid hex
 have e0:(nk == 52)=false:=by rcases hk with rfl|rfl <;> rfl
 have e1:(nk == 53)=false:=by rcases hk with rfl|rfl <;> rfl
 have e2:(nk == 54)=false:=by rcases hk with rfl|rfl <;> rfl
 have e3:(nk == 55)=false:=by rcases hk with rfl|rfl <;> rfl
 have e4:(nk == 50)=false:=by rcases hk with rfl|rfl <;> rfl
 have e5:(nk == 51)=false:=by rcases hk with rfl|rfl <;> rfl
 have IU:=Lib.hid (show(qK nk == 44) = !(nk == 44)from by rcases hk with rfl|rfl <;> rfl)
 clear hno h hex hk hs hnl
 simp only[ae.val]at yY FY ⊢
 go_enter Tryz.func88,Tryz.ntmps88
 go_upto_region 1 with fail
 generalize (w.alloc (.cells #[.int .u8 nk,.int .i64 nn,.string ns,.slice na nl.length nc] 40))=w1 at *
 have dD:=Lib.hid (uS w0 p fuel k w1 x s jI.out)
 obtain⟨hbad,hok⟩:=oP iE.out
 have HBAD:=Lib.hid hbad
 have bJ:=Lib.hid hok
 clear iE hbad hok
 obtain⟨⟨n0,n1⟩,n2,n3⟩:=az bf.out
 have hbl:=lt_of_block bf.out
 go_wp2_with fail
 refine dD.out.mono ?_
 clear dD n0 n1 n2 n3 hbl
 intro e w4 hq
 cases hs1:s.step fuel with
 |error n =>
  rw[hs1]at hq
  have hre:=HBAD.out n hs1
  obtain⟨⟨rfl,hn0⟩,hg⟩:=hq
  refine⟨rfl,?_⟩
  rw[hre]
  exact⟨⟨rfl,hn0⟩,(by first|exact hg|exact .of (ax.grow aj.out) hg|exact .of (ax.grow HG2.out) hg|exact .of (ax.grow aA.out) hg|exact .of (ax.grow bA.out) hg|exact .of (ax.grow bG.out) hg|exact .of (ax.grow aO.out) hg|exact .of iV.out hg|exact .of fu.out hg|exact .of dA.out hg|exact .of cK.out hg|exact .of fw.out hg|exact .of HR4.out hg|exact .of HR3.out hg|exact .of HR2.out hg|exact .of HR1.out hg|exact .of HR.out hg|exact .of ((ax.grow aj.out).trans HR.out) hg)⟩
 |ok s1 =>
 rw[hs1]at hq
 have hnext:=bJ.out s1 hs1
 obtain⟨rfl,x4,hr4,mf⟩:=hq
 have mX:=Lib.hid (G6 jI.out hs1)
 have dw:=Lib.hid (And.intro hr4.R hr4.S)
 have HR4:=Lib.hid ((ax.grow aj.out).trans hr4)
 have dU:=Lib.hid mf
 have bY:=Lib.hid (hr4.n _ _ _ bf.out)
 have kr:=Lib.hid hnext
 clear hnext hr4 mf HBAD bJ hs1 jI
 have jf:=Lib.hid (λy hM=>zA (w0:=w0) (p:=p) (fuel:=fuel) (k:=k) (xx:=x4) (wA:=w4) (s1:=s1) (vok:=True) (r2:=res) (res:=res) (m:=0) (λe _ he=>he) (.pointer (some ⟨x.R,0,none⟩)) y hM)
 cases b with
 |true =>
  have iD:=Lib.hid (λy hM=>wX (w0:=w0) (X:=ErrX w0 x4 w4 res) (vok:=True) (p:=p) (fuel:=fuel) (k:=k) (xx:=x4) (wA:=w4) (s1:=s1) (m:=0) (r2:=res) y hM (λx' hr hst _=>by
   have:=FY.out y x' s1 hst (by rw[IU.out];have h9:=kr.out;rwa[show(true != (nk == 44)) = !(nk == 44)from by cases(nk == 44) <;> rfl]at h9)
   rw[hr.S,dw.out.2]at this
   exact this))
  clear yY FY IU kr e0 e1 e2 e3 e4 e5
  go_upto_region 4 with fail
  refine wy (ErrX w0 x4 w4 res) 88 [some 11,some 12,some 13,some 14,some 15,some 16,some 17,some 18] [[],[],[1],[2],[3],[],[4,5],[0,6]] [some (.pointer (some ⟨x.R,0,none⟩)),some (.pointer (some ⟨x.R,0,none⟩)),some (.pointer (some ⟨x.R,0,none⟩)),some (.pointer (some ⟨x.R,6,none⟩)),some (.pointer (some ⟨x.S,0,none⟩)),some (.agg #[.int .u8 nk,.int .i64 nn,.string ns,.slice na nl.length nc]),some (.int .i64 (kF res)),some (.tuple #[])] [6,7] (dV w0 p fuel k x4 w4 s1 True res 0) (dV.zero dU.out) ⟨?s0,?s1,?s2,?s3,?s4,?s5,?s6,?s7,trivial⟩ ?fin (λch w9 a9 ny nC=>And.intro ny (nC.run HR4.out))
  case s0 =>
   refine yc (λy => ?_)
   simp only[zS,cv,List.getD_cons_zero,List.getD_cons_succ,Option.getD_some]
   go_simp
   exact⟨rfl,rfl⟩
  case s1 =>
   refine yc (λy => ?_)
   simp only[zS,cv,List.getD_cons_zero,List.getD_cons_succ,Option.getD_some]
   go_simp
   exact⟨rfl,rfl⟩
  case s2 =>
   refine yc (λy => ?_)
   simp only[zS,cv,List.getD_cons_zero,List.getD_cons_succ,Option.getD_some]
   go_simp
   exact⟨rfl,rfl⟩
  case s3 =>
   refine yc (λy => ?_)
   simp only[zS,cv,List.getD_cons_zero,List.getD_cons_succ,Option.getD_some]
   go_simp
   exact⟨rfl,rfl⟩
  case s4 =>
   refine yl 0 (λt y ht hM => ?_)
   obtain⟨x9,aZ,bN⟩:=hM.read ht
   have c6:=bN.cells.1.1
   rw[aZ.R.trans dw.out.1,aZ.S.trans dw.out.2]at c6
   have hrl:=lt_of_block bN.run
   rw[aZ.R.trans dw.out.1]at hrl
   clear hM aZ bN
   simp only[zS,cv,List.getD_cons_zero,List.getD_cons_succ,Option.getD_some]
   go_simp
   exact⟨rfl,rfl⟩
  case s5 =>
   refine yl 0 (λt y ht hM => ?_)
   obtain⟨x9,aZ,bN⟩:=hM.read ht
   obtain⟨⟨n0,n1⟩,n2,n3⟩:=az (aZ.n _ _ _ bY.out)
   have hbl:=lt_of_block (aZ.n _ _ _ bY.out)
   clear hM aZ bN
   simp only[zS,cv,List.getD_cons_zero,List.getD_cons_succ,Option.getD_some]
   go_simp
   exact⟨rfl,rfl⟩
  case s6 =>
   refine yw 0 (λy hM => ?_)
   have HC:=Lib.hid (iD.out y hM)
   clear hM
   unfold eB
   simp only[zS,cv,List.getD_cons_zero,List.getD_cons_succ,Option.getD_some]
   go_simp
   exact iG.kM HC.out
  case s7 =>
   refine yw 1 (λy hM => ?_)
   have HC:=Lib.hid (jf.out y hM)
   clear hM
   unfold eB
   simp only[zS,cv,List.getD_cons_zero,List.getD_cons_succ,Option.getD_some]
   go_simp
   exact iG.kM HC.out
  case fin =>
  intro wf hM
  have HM:=Lib.hid hM.fin
  clear hM
  simp only[zS,Nat.reduceAdd,cv,List.getD_cons_zero,List.getD_cons_succ,Option.getD_some]
  have HQ:=Lib.hid (show dx w0 p fuel k x w res (.returned (.tuple #[])) wf from by
   obtain⟨s2,hs2,x9,aZ,bN⟩:=HM.out.2
   rw[hs2]
   exact⟨rfl,x9,HR4.out.trans aZ,bN⟩)
  go_wp2_with fail
  go_end0
  exact HQ.out
 |false =>
  have iD:=Lib.hid (λy hM=>wX (w0:=w0) (X:=ErrX w0 x4 w4 res) (vok:=True) (p:=p) (fuel:=fuel) (k:=k) (xx:=x4) (wA:=w4) (s1:=s1) (m:=0) (r2:=res) y hM (λx' hr hst _=>by
   have:=yY.out y x' s1 hst (by have h9:=kr.out;rwa[show(false != (nk == 44))=(nk == 44)from by cases(nk == 44) <;> rfl]at h9)
   rw[hr.S,dw.out.2]at this
   exact this))
  clear yY FY IU kr e0 e1 e2 e3 e4 e5
  go_upto_region 5 with fail
  refine wy (ErrX w0 x4 w4 res) 88 [some 19,some 20,some 21,some 22,some 23,some 24,some 25,some 26] [[],[],[1],[2],[3],[],[4,5],[0,6]] [some (.pointer (some ⟨x.R,0,none⟩)),some (.pointer (some ⟨x.R,0,none⟩)),some (.pointer (some ⟨x.R,0,none⟩)),some (.pointer (some ⟨x.R,6,none⟩)),some (.pointer (some ⟨x.S,0,none⟩)),some (.agg #[.int .u8 nk,.int .i64 nn,.string ns,.slice na nl.length nc]),some (.int .i64 (kF res)),some (.tuple #[])] [6,7] (dV w0 p fuel k x4 w4 s1 True res 0) (dV.zero dU.out) ⟨?s0,?s1,?s2,?s3,?s4,?s5,?s6,?s7,trivial⟩ ?fin (λch w9 a9 ny nC=>And.intro ny (nC.run HR4.out))
  case s0 =>
   refine yc (λy => ?_)
   simp only[zS,cv,List.getD_cons_zero,List.getD_cons_succ,Option.getD_some]
   go_simp
   exact⟨rfl,rfl⟩
  case s1 =>
   refine yc (λy => ?_)
   simp only[zS,cv,List.getD_cons_zero,List.getD_cons_succ,Option.getD_some]
   go_simp
   exact⟨rfl,rfl⟩
  case s2 =>
   refine yc (λy => ?_)
   simp only[zS,cv,List.getD_cons_zero,List.getD_cons_succ,Option.getD_some]
   go_simp
   exact⟨rfl,rfl⟩
  case s3 =>
   refine yc (λy => ?_)
   simp only[zS,cv,List.getD_cons_zero,List.getD_cons_succ,Option.getD_some]
   go_simp
   exact⟨rfl,rfl⟩
  case s4 =>
   refine yl 0 (λt y ht hM => ?_)
   obtain⟨x9,aZ,bN⟩:=hM.read ht
   have c6:=bN.cells.1.1
   rw[aZ.R.trans dw.out.1,aZ.S.trans dw.out.2]at c6
   have hrl:=lt_of_block bN.run
   rw[aZ.R.trans dw.out.1]at hrl
   clear hM aZ bN
   simp only[zS,cv,List.getD_cons_zero,List.getD_cons_succ,Option.getD_some]
   go_simp
   exact⟨rfl,rfl⟩
  case s5 =>
   refine yl 0 (λt y ht hM => ?_)
   obtain⟨x9,aZ,bN⟩:=hM.read ht
   obtain⟨⟨n0,n1⟩,n2,n3⟩:=az (aZ.n _ _ _ bY.out)
   have hbl:=lt_of_block (aZ.n _ _ _ bY.out)
   clear hM aZ bN
   simp only[zS,cv,List.getD_cons_zero,List.getD_cons_succ,Option.getD_some]
   go_simp
   exact⟨rfl,rfl⟩
  case s6 =>
   refine yw 0 (λy hM => ?_)
   have HC:=Lib.hid (iD.out y hM)
   clear hM
   unfold eB
   simp only[zS,cv,List.getD_cons_zero,List.getD_cons_succ,Option.getD_some]
   go_simp
   exact iG.kM HC.out
  case s7 =>
   refine yw 1 (λy hM => ?_)
   have HC:=Lib.hid (jf.out y hM)
   clear hM
   unfold eB
   simp only[zS,cv,List.getD_cons_zero,List.getD_cons_succ,Option.getD_some]
   go_simp
   exact iG.kM HC.out
  case fin =>
  intro wf hM
  have HM:=Lib.hid hM.fin
  clear hM
  simp only[zS,Nat.reduceAdd,cv,List.getD_cons_zero,List.getD_cons_succ,Option.getD_some]
  have HQ:=Lib.hid (show dx w0 p fuel k x w res (.returned (.tuple #[])) wf from by
   obtain⟨s2,hs2,x9,aZ,bN⟩:=HM.out.2
   rw[hs2]
   exact⟨rfl,x9,HR4.out.trans aZ,bN⟩)
  go_wp2_with fail
  go_end0
  exact HQ.out
set_option maxRecDepth 100000 in
set_option maxHeartbeats 12800000 in
theorem X4 {w0:World} {p:aB} {fuel k g:Nat} (IH:∀ g',g'<g->uY w0 p fuel k g') (w:World) (x:aM) (s:ai) (res:Except Int ai) (nk nn:Int) (ns:ByteArray) (nv:Value) (nl:List ae) (b:Bool) (hk:nk=55) (h:aG w0 p fuel k w x s) (hno:aL (λ_=>True) w0 (.mk nk nn ns nv nl)) (hex:exec (p.procs.map aN.d) fuel g (.stmt (ae.t (.mk nk nn ns nv nl))) b s=some res) :
 Calls Tryz.prog 88 #[.pointer (some ⟨x.R,0,none⟩),ae.val (.mk nk nn ns nv nl),.bool b] w (dx w0 p fuel k x w res):=by
 subst hk
 have hsh:=qy hex
 rw[ae.t]at hsh
 obtain⟨yZ,rfl⟩:=Xe rfl hsh
 rw[ae.t,ae.ts,ae.ts]at hex
 obtain⟨g',rfl,rf⟩:=Ue hex
 clear hsh hex
 have hkb:=hno.kids yZ (by simp)
 have hrow:=hno.at.row.2.2.2.1
 obtain⟨na,nc,rfl,-,-⟩:=hno.at.form
 obtain⟨kb,ko,nQ,Dy,_,hcc⟩:=hrow.at (i:=0) (by simp)
 simp only[Value.slice.injEq,true_and]at Dy
 obtain⟨rfl,rfl⟩:=Dy
 obtain⟨bk,bn,bs,bv,bl⟩:=yZ
 obtain⟨ba,bc,rfl,-,-⟩:=hkb.at.form
 have d0:=hcc 0 (.int .u8 bk) (by rfl)
 have d1:=hcc 1 (.int .i64 bn) (by rfl)
 have d2:=hcc 2 (.string bs) (by rfl)
 have d3:=hcc 3 (.slice ba bl.length bc) (by rfl)
 simp only[Nat.add_zero,Nat.zero_mul]at d0 d1 d2 d3
 have iC:=Lib.hid (λz (hz:Grow w0 z)=>And.intro (And.intro (cZ d0 hz) (cZ d1 hz)) (And.intro (cZ d2 hz) (cZ d3 hz)))
 clear hcc d0 d1 d2 d3
 generalize hnl:[ae.mk bk bn bs (.slice ba bl.length bc) bl]=nl at *
 have Ji:=Lib.hid (show nl.length=1 from by rw[← hnl];rfl)
 have nu:=Lib.hid (λz x' s' lZ (hz:aG w0 p fuel k z x' s') (he:exec (p.procs.map aN.d) fuel g' (.stmts (turned b (ae.t (.mk bk bn bs (.slice ba bl.length bc) bl)).kids)) b s'=some lZ)=>IH g' (by omega) z x' s' lZ (.mk bk bn bs (.slice ba bl.length bc) bl) b hz hkb he)
 have aj:=Lib.hid (show Grow w (w.alloc (.cells #[.int .u8 55,.int .i64 nn,.string ns,.slice (some ⟨kb,ko,none⟩) nl.length nc] 40))from(Mv.refl _ w).alloc _)
 have bf:=Lib.hid (heap_alloc_new w (.cells #[.int .u8 55,.int .i64 nn,.string ns,.slice (some ⟨kb,ko,none⟩) nl.length nc] 40))
 have jI:=Lib.hid (h.later aj.out)
 have iE:=Lib.hid rf
 clear hno rf h hkb hrow IH hnl
 simp only[ae.val]at nu ⊢
 go_enter Tryz.func88,Tryz.ntmps88
 go_upto_region 1 with fail
 generalize (w.alloc (.cells #[.int .u8 55,.int .i64 nn,.string ns,.slice (some ⟨kb,ko,none⟩) nl.length nc] 40))=w1 at *
 have dD:=Lib.hid (uS w0 p fuel k w1 x s jI.out)
 obtain⟨hbad,hok⟩:=oP iE.out
 have HBAD:=Lib.hid hbad
 have bJ:=Lib.hid hok
 clear iE hbad hok
 obtain⟨⟨n0,n1⟩,n2,n3⟩:=az bf.out
 have hbl:=lt_of_block bf.out
 go_wp2_with fail
 refine dD.out.mono ?_
 clear dD n0 n1 n2 n3 hbl
 intro e w4 hq
 cases hs1:s.step fuel with
 |error n =>
  rw[hs1]at hq
  have hre:=HBAD.out n hs1
  obtain⟨⟨rfl,hn0⟩,hg⟩:=hq
  refine⟨rfl,?_⟩
  rw[hre]
  exact⟨⟨rfl,hn0⟩,(by first|exact hg|exact .of (ax.grow aj.out) hg|exact .of (ax.grow HG2.out) hg|exact .of (ax.grow aA.out) hg|exact .of (ax.grow bA.out) hg|exact .of (ax.grow bG.out) hg|exact .of (ax.grow aO.out) hg|exact .of iV.out hg|exact .of fu.out hg|exact .of dA.out hg|exact .of cK.out hg|exact .of fw.out hg|exact .of HR4.out hg|exact .of HR3.out hg|exact .of HR2.out hg|exact .of HR1.out hg|exact .of HR.out hg|exact .of ((ax.grow aj.out).trans HR.out) hg)⟩
 |ok s1 =>
 rw[hs1]at hq
 have hnext:=bJ.out s1 hs1
 obtain⟨rfl,x4,hr4,mf⟩:=hq
 have mX:=Lib.hid (G6 jI.out hs1)
 have dw:=Lib.hid (And.intro hr4.R hr4.S)
 have HR4:=Lib.hid ((ax.grow aj.out).trans hr4)
 have dU:=Lib.hid mf
 have bY:=Lib.hid (hr4.n _ _ _ bf.out)
 obtain⟨hbad,hok⟩:=oP hnext
 clear HBAD bJ
 have HBAD:=Lib.hid hbad
 have bJ:=Lib.hid hok
 clear hnext hr4 mf hbad hok hs1 jI bf aj
 have iD:=Lib.hid (λy hM=>wX (w0:=w0) (X:=ErrX w0 x4 w4 res) (vok:=True) (p:=p) (fuel:=fuel) (k:=k) (xx:=x4) (wA:=w4) (s1:=s1) (m:=0) (r2:=s1.open ns 3 0) y hM (λx' hr hst _=>by
  have:=MF w0 p fuel k y x' s1 ns 3 0 hst (.inr rfl) mX.out
  rw[hr.S,dw.out.2]at this
  exact this))
 have jf:=Lib.hid (λy hM=>zA (w0:=w0) (p:=p) (fuel:=fuel) (k:=k) (xx:=x4) (wA:=w4) (s1:=s1) (vok:=True) (r2:=s1.open ns 3 0) (res:=res) (m:=0) (λe _ he=>HBAD.out e he) (.pointer (some ⟨x.R,0,none⟩)) y hM)
 go_upto_region 14 with fail
 refine wy (ErrX w0 x4 w4 res) 88 [some 49,some 50,some 51,some 52,some 53,some 54,some 55,some 56,some 57,some 58] [[],[],[1],[2],[3],[],[5],[6],[4,7],[0,8]] [some (.pointer (some ⟨x.R,0,none⟩)),some (.pointer (some ⟨x.R,0,none⟩)),some (.pointer (some ⟨x.R,0,none⟩)),some (.pointer (some ⟨x.R,6,none⟩)),some (.pointer (some ⟨x.S,0,none⟩)),some (.pointer (some ⟨w.heap.size,2,none⟩)),some (.string ns),some (.agg #[.string ns,.int .u8 3,.int .i64 0]),some (.int .i64 (kF (s1.open ns 3 0))),some (.tuple #[])] [8,9] (dV w0 p fuel k x4 w4 s1 True (s1.open ns 3 0) 0) (dV.zero dU.out) ⟨?s0,?s1,?s2,?s3,?s4,?s5,?s6,?s7,?s8,?s9,trivial⟩ ?fin (λch w9 a9 ny nC=>And.intro ny (nC.run HR4.out))
 case s0 =>
  refine yc (λy => ?_)
  simp only[zS,cv,List.getD_cons_zero,List.getD_cons_succ,Option.getD_some]
  go_simp
  exact⟨rfl,rfl⟩
 case s1 =>
  refine yc (λy => ?_)
  simp only[zS,cv,List.getD_cons_zero,List.getD_cons_succ,Option.getD_some]
  go_simp
  exact⟨rfl,rfl⟩
 case s2 =>
  refine yc (λy => ?_)
  simp only[zS,cv,List.getD_cons_zero,List.getD_cons_succ,Option.getD_some]
  go_simp
  exact⟨rfl,rfl⟩
 case s3 =>
  refine yc (λy => ?_)
  simp only[zS,cv,List.getD_cons_zero,List.getD_cons_succ,Option.getD_some]
  go_simp
  exact⟨rfl,rfl⟩
 case s4 =>
  refine yl 0 (λt y ht hM => ?_)
  obtain⟨x9,aZ,bN⟩:=hM.read ht
  have c6:=bN.cells.1.1
  rw[aZ.R.trans dw.out.1,aZ.S.trans dw.out.2]at c6
  have hrl:=lt_of_block bN.run
  rw[aZ.R.trans dw.out.1]at hrl
  clear hM aZ bN
  simp only[zS,cv,List.getD_cons_zero,List.getD_cons_succ,Option.getD_some]
  go_simp
  exact⟨rfl,rfl⟩
 case s5 =>
  refine yc (λy => ?_)
  simp only[zS,cv,List.getD_cons_zero,List.getD_cons_succ,Option.getD_some]
  go_simp
  exact⟨rfl,rfl⟩
 case s6 =>
  refine yl 0 (λt y ht hM => ?_)
  obtain⟨x9,aZ,bN⟩:=hM.read ht
  obtain⟨⟨n0,n1⟩,n2,n3⟩:=az (aZ.n _ _ _ bY.out)
  have hbl:=lt_of_block (aZ.n _ _ _ bY.out)
  clear hM aZ bN
  simp only[zS,cv,List.getD_cons_zero,List.getD_cons_succ,Option.getD_some]
  go_simp
  exact⟨rfl,rfl⟩
 case s7 =>
  refine yc (λy => ?_)
  simp only[zS,cv,List.getD_cons_zero,List.getD_cons_succ,Option.getD_some]
  go_simp
  exact⟨rfl,rfl⟩
 case s8 =>
  refine yw 0 (λy hM => ?_)
  have HC:=Lib.hid (iD.out y hM)
  clear hM
  unfold eB
  simp only[zS,cv,List.getD_cons_zero,List.getD_cons_succ,Option.getD_some]
  go_simp
  exact iG.kM HC.out
 case s9 =>
  refine yw 1 (λy hM => ?_)
  have HC:=Lib.hid (jf.out y hM)
  clear hM
  unfold eB
  simp only[zS,cv,List.getD_cons_zero,List.getD_cons_succ,Option.getD_some]
  go_simp
  exact iG.kM HC.out
 case fin =>
 intro wf hM
 have HM:=Lib.hid hM.fin
 clear hM
 simp only[zS,Nat.reduceAdd,cv,List.getD_cons_zero,List.getD_cons_succ,Option.getD_some]
 obtain⟨-,s2,hs2,x5,fK,dP⟩:=HM.out
 have hnx:=bJ.out s2 hs2
 have gP:=Lib.hid (And.intro (fK.R.trans dw.out.1) (fK.S.trans dw.out.2))
 have fw:=Lib.hid (HR4.out.trans fK)
 have gB:=Lib.hid dP
 have eH:=Lib.hid (fK.n _ _ _ bY.out)
 have HE:=Lib.hid (zK hnx)
 have wI:=Lib.hid (iC.out wf dP.g)
 clear hs2 fK dP hnx HM iD jf dw HR4 dU bY HBAD bJ mX
 obtain⟨⟨n0,n1⟩,n2,n3⟩:=az eH.out
 have hbl:=lt_of_block eH.out
 obtain⟨⟨d0,d1⟩,d2,d3⟩:=wI.out
 have hkl:=World.block_lt_of_cell? wf _ d0
 simp only at hkl
 have hbd:0<nl.length:=by have:=Ji.out;omega
 rcases HE.out with⟨e,hx,hre⟩|⟨s3,hx,hrest⟩
 · have HST:=Lib.hid (nu.out wf x5 s2 _ gB.out hx)
   rw[gP.out.1]at HST
   have df:=Lib.hid hre
   clear hx hre HE
   go_wp2_with fail
   refine HST.out.mono ?_
   rintro e2 w6 ⟨⟨rfl,hn0⟩,hg⟩
   refine⟨rfl,?_⟩
   rw[df.out]
   exact⟨⟨rfl,hn0⟩,(by first|exact hg|exact .of (ax.grow aj.out) hg|exact .of (ax.grow HG2.out) hg|exact .of (ax.grow aA.out) hg|exact .of (ax.grow bA.out) hg|exact .of (ax.grow bG.out) hg|exact .of (ax.grow aO.out) hg|exact .of iV.out hg|exact .of fu.out hg|exact .of dA.out hg|exact .of cK.out hg|exact .of fw.out hg|exact .of HR4.out hg|exact .of HR3.out hg|exact .of HR2.out hg|exact .of HR1.out hg|exact .of HR.out hg|exact .of ((ax.grow aj.out).trans HR.out) hg)⟩
 have HST:=Lib.hid (nu.out wf x5 s2 _ gB.out hx)
 rw[gP.out.1]at HST
 obtain⟨hbad,hok⟩:=oP hrest
 have HBAD:=Lib.hid hbad
 have bJ:=Lib.hid hok
 clear hx hrest hbad hok HE
 go_wp2_with fail
 refine HST.out.mono ?_
 rintro e2 w6 ⟨rfl,x6,eZ,mg⟩
 have dD:=Lib.hid (uS w0 p fuel k w6 x6 s3 mg)
 rw[eZ.R,gP.out.1]at dD
 have iP:=Lib.hid (And.intro (eZ.R.trans gP.out.1) (eZ.S.trans gP.out.2))
 have cK:=Lib.hid (fw.out.trans eZ)
 have ji:=Lib.hid mg
 have jG:=Lib.hid (eZ.n _ _ _ eH.out)
 clear eZ mg HST n0 n1 n2 n3 hbl d0 d1 d2 d3 hkl hbd gP fw gB eH wI iC nu
 go_wp2_with fail
 refine dD.out.mono ?_
 clear dD
 intro e w7 hq
 cases hs1:s3.step fuel with
 |error n =>
  rw[hs1]at hq
  have hre:=HBAD.out n hs1
  obtain⟨⟨rfl,hn0⟩,hg⟩:=hq
  refine⟨rfl,?_⟩
  rw[hre]
  exact⟨⟨rfl,hn0⟩,(by first|exact hg|exact .of (ax.grow aj.out) hg|exact .of (ax.grow HG2.out) hg|exact .of (ax.grow aA.out) hg|exact .of (ax.grow bA.out) hg|exact .of (ax.grow bG.out) hg|exact .of (ax.grow aO.out) hg|exact .of iV.out hg|exact .of fu.out hg|exact .of dA.out hg|exact .of cK.out hg|exact .of fw.out hg|exact .of HR4.out hg|exact .of HR3.out hg|exact .of HR2.out hg|exact .of HR1.out hg|exact .of HR.out hg|exact .of ((ax.grow aj.out).trans HR.out) hg)⟩
 |ok s4 =>
 rw[hs1]at hq
 have hnext:=bJ.out s4 hs1
 obtain⟨rfl,x7,fG,mh⟩:=hq
 have iW:=Lib.hid (And.intro (fG.R.trans iP.out.1) (fG.S.trans iP.out.2))
 have dA:=Lib.hid (cK.out.trans fG)
 have zb:=Lib.hid mh
 have uJ:=Lib.hid (fG.n _ _ _ jG.out)
 have lF:=Lib.hid hnext
 clear HBAD bJ fG mh hnext jG cK ji iP hs1
 have iD:=Lib.hid (λy hM=>wX (w0:=w0) (X:=ErrX w0 x7 w7 res) (vok:=True) (p:=p) (fuel:=fuel) (k:=k) (xx:=x7) (wA:=w7) (s1:=s4) (m:=0) (r2:=res) y hM (λx' hr hst _=>by
  have:=LU w0 p fuel k y x' s4 ns 0 res hst lF.out
  rw[hr.S,iW.out.2]at this
  exact this))
 have jf:=Lib.hid (λy hM=>zA (w0:=w0) (p:=p) (fuel:=fuel) (k:=k) (xx:=x7) (wA:=w7) (s1:=s4) (vok:=True) (r2:=res) (res:=res) (m:=0) (λe _ he=>he) (.pointer (some ⟨x.R,0,none⟩)) y hM)
 go_upto_region 17 with fail
 refine wy (ErrX w0 x7 w7 res) 88 [some 68,some 69,some 70,some 71,some 72,some 73,some 74,some 75,some 76] [[],[],[1],[2],[3],[],[5],[4,6],[0,7]] [some (.pointer (some ⟨x.R,0,none⟩)),some (.pointer (some ⟨x.R,0,none⟩)),some (.pointer (some ⟨x.R,0,none⟩)),some (.pointer (some ⟨x.R,6,none⟩)),some (.pointer (some ⟨x.S,0,none⟩)),some (.pointer (some ⟨w.heap.size,2,none⟩)),some (.string ns),some (.int .i64 (kF res)),some (.tuple #[])] [7,8] (dV w0 p fuel k x7 w7 s4 True res 0) (dV.zero zb.out) ⟨?s0,?s1,?s2,?s3,?s4,?s5,?s6,?s7,?s8,trivial⟩ ?fin (λch w9 a9 ny nC=>And.intro ny (nC.run dA.out))
 case s0 =>
  refine yc (λy => ?_)
  simp only[zS,cv,List.getD_cons_zero,List.getD_cons_succ,Option.getD_some]
  go_simp
  exact⟨rfl,rfl⟩
 case s1 =>
  refine yc (λy => ?_)
  simp only[zS,cv,List.getD_cons_zero,List.getD_cons_succ,Option.getD_some]
  go_simp
  exact⟨rfl,rfl⟩
 case s2 =>
  refine yc (λy => ?_)
  simp only[zS,cv,List.getD_cons_zero,List.getD_cons_succ,Option.getD_some]
  go_simp
  exact⟨rfl,rfl⟩
 case s3 =>
  refine yc (λy => ?_)
  simp only[zS,cv,List.getD_cons_zero,List.getD_cons_succ,Option.getD_some]
  go_simp
  exact⟨rfl,rfl⟩
 case s4 =>
  refine yl 0 (λt y ht hM => ?_)
  obtain⟨x9,aZ,bN⟩:=hM.read ht
  have c6:=bN.cells.1.1
  rw[aZ.R.trans iW.out.1,aZ.S.trans iW.out.2]at c6
  have hrl:=lt_of_block bN.run
  rw[aZ.R.trans iW.out.1]at hrl
  clear hM aZ bN
  simp only[zS,cv,List.getD_cons_zero,List.getD_cons_succ,Option.getD_some]
  go_simp
  exact⟨rfl,rfl⟩
 case s5 =>
  refine yc (λy => ?_)
  simp only[zS,cv,List.getD_cons_zero,List.getD_cons_succ,Option.getD_some]
  go_simp
  exact⟨rfl,rfl⟩
 case s6 =>
  refine yl 0 (λt y ht hM => ?_)
  obtain⟨x9,aZ,bN⟩:=hM.read ht
  obtain⟨⟨n0,n1⟩,n2,n3⟩:=az (aZ.n _ _ _ uJ.out)
  have hbl:=lt_of_block (aZ.n _ _ _ uJ.out)
  clear hM aZ bN
  simp only[zS,cv,List.getD_cons_zero,List.getD_cons_succ,Option.getD_some]
  go_simp
  exact⟨rfl,rfl⟩
 case s7 =>
  refine yw 0 (λy hM => ?_)
  have HC:=Lib.hid (iD.out y hM)
  clear hM
  unfold eB
  simp only[zS,cv,List.getD_cons_zero,List.getD_cons_succ,Option.getD_some]
  go_simp
  exact iG.kM HC.out
 case s8 =>
  refine yw 1 (λy hM => ?_)
  have HC:=Lib.hid (jf.out y hM)
  clear hM
  unfold eB
  simp only[zS,cv,List.getD_cons_zero,List.getD_cons_succ,Option.getD_some]
  go_simp
  exact iG.kM HC.out
 case fin =>
 intro wf hM
 have HM:=Lib.hid hM.fin
 clear hM
 simp only[zS,Nat.reduceAdd,cv,List.getD_cons_zero,List.getD_cons_succ,Option.getD_some]
 have HQ:=Lib.hid (show dx w0 p fuel k x w res (.returned (.tuple #[])) wf from by
  obtain⟨s9,J7,x9,aZ,bN⟩:=HM.out.2
  rw[J7]
  exact⟨rfl,x9,dA.out.trans aZ,bN⟩)
 go_wp2_with fail
 go_end0
 exact HQ.out
theorem VX {w0:World} {p:aB} {fuel k g:Nat} (hp:jm w0 p) (hpb:∀ q∈p.procs,aL (λ_=>True) w0 q.body) (hpl:∀ q∈p.procs,q.params.length<=k) (IH:∀ g',g'<g->uY w0 p fuel k g'):Il w0 p fuel k g:=by
 intro w x s res n b h hno hex
 obtain⟨nk,nn,ns,nv,nl⟩:=n
 have EZ:=hex
 rw[ae.t]at hex
 rcases U0 hex with hk|hk|hk|hk|⟨hk,hkk,hmv⟩
 · exact VV w x s res nk nn ns nv nl b hk h hno (λz hz=>(VR IH z x s res nk nn ns nv nl b hk (h.later hz) hno EZ))
 · exact Xf w x s res nk nn ns nv nl b hk h hno (λz hz=>(UW IH z x s res nk nn ns nv nl b hk (h.later hz) hno EZ))
 · exact X4 IH w x s res nk nn ns nv nl b hk h hno EZ
 · have hc:=λz (hz:Grow w z)=>VU hp hpb hpl IH z x s res nk nn ns nv nl b hk (h.later hz) hno EZ
   rcases hk with hk|hk
   · exact VW w x s res nk nn ns nv nl b hk h hno hc
   · exact Uf w x s res nk nn ns nv nl b hk h hno hc
 · have hsh:=qy hex
   obtain⟨t,ht⟩:=YH hk hsh
   match nl,ht with
   | [.mk kk kn ks kv kl],ht =>
    have e0:jA (.mk nk nn ns (ae.ts [.mk kk kn ks kv kl])) 0 = .mk kk kn ks (ae.ts kl):=by rw[ae.ts,ae.t];rfl
    rw[e0]at hkk hmv
    exact Xg w x s res nk nn ns nv kk kn ks kv kl b hk h hno (by rw[ae.t];exact hsh) hkk hmv
   | [],ht=>simp[ae.ts]at ht
   |_ :: _ :: _,ht=>simp[ae.ts]at ht
theorem X5 {w0:World} {p:aB} {fuel k:Nat} (hp:jm w0 p) (hpb:∀ q∈p.procs,aL (λ_=>True) w0 q.body) (hpl:∀ q∈p.procs,q.params.length<=k):∀ g,Il w0 p fuel k g/\uY w0 p fuel k g:=by
 intro g
 induction g using Nat.strongRecOn with
 |_ g ih=>exact⟨VX hp hpb hpl λg' hg=>(ih g' hg).2,UU λg' hg=>(ih g' hg).1⟩
end Go.Proofs.YtbpodipdfohikaaGreat
