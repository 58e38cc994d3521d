import Derived.Test.YtbpodipdfohikaaGreatL33
set_option linter.unusedSimpArgs false
set_option linter.unusedVariables false
set_option maxRecDepth 100000
set_option maxHeartbeats 25600000
namespace Go.Proofs.YtbpodipdfohikaaGreat
open Go.RowKit Go.Instr
theorem QB {P : List bA} {fuel g : Nat} {k nn : Int} {ns : ByteArray} {l : List Tree} {b : Bool} {s : ah} {res : Except Int ah} (h : exec P fuel g (.stmt (.mk k nn ns l)) b s = some res) : k = 53 \/ k = 54 \/ k = 55 \/ (k = 50 \/ k = 51) \/ ((k = 44 \/ k = 45) /\ (gY (.mk k nn ns l) 0).kind = 2 /\ aI (some (s.step fuel)) (λs => s.move (b != (k == 44)) ns (gY (.mk k nn ns l) 0).name) = some res) := by
  cases g with
  |zero => cases h
  |succ g =>
    have he := nO h
    rw[exec, if_neg (by rw[he]; decide)]at h
    by_cases h1 : k = 53
    · exact .inl h1
    rw[if_neg (show ¬ Tree.kind (.mk k nn ns l) = 53 from h1)]at h
    by_cases h2 : k = 54
    · exact .inr (.inl h2)
    rw[if_neg (show ¬ Tree.kind (.mk k nn ns l) = 54 from h2)]at h
    by_cases h3 : k = 55
    · exact .inr (.inr (.inl h3))
    rw[if_neg (show ¬ Tree.kind (.mk k nn ns l) = 55 from h3)]at h
    by_cases h4 : k = 50 \/ k = 51
    · exact .inr (.inr (.inr (.inl h4)))
    rw[if_neg (show ¬ (Tree.kind (.mk k nn ns l) = 50 \/ Tree.kind (.mk k nn ns l) = 51)from h4)]at h
    by_cases h5 : (k = 44 \/ k = 45) /\ (gY (.mk k nn ns l) 0).kind = 2
    · rw[if_pos (show(Tree.kind (.mk k nn ns l) = 44 \/ Tree.kind (.mk k nn ns l) = 45) /\ (gY (.mk k nn ns l) 0).kind = 2 from h5)]at h
      exact .inr (.inr (.inr (.inr ⟨h5.1, h5.2, h⟩)))
    · rw[if_neg (show ¬ ((Tree.kind (.mk k nn ns l) = 44 \/ Tree.kind (.mk k nn ns l) = 45) /\ (gY (.mk k nn ns l) 0).kind = 2)from h5)]at h
      cases h
theorem RY {k nn : Int} {ns : ByteArray} {nl : List ae} (hk : k = 55) (h : aX (.mk k nn ns (ae.ts nl)) = true) : ∃ bd, nl = [bd] := by
  subst hk
  rw[aX]at h
  match nl with
  | [] => simp[ae.ts]at h
  | [bd] => exact⟨bd, rfl⟩
  |_ :: _ :: _ => simp[ae.ts]at h
theorem PU {P : List bA} {fuel g : Nat} {nn : Int} {ns : ByteArray} {bd : Tree} {b : Bool} {s : ah} {res : Except Int ah} (h : exec P fuel g (.stmt (.mk 55 nn ns [bd])) b s = some res) : ∃ g', g = g' + 1 /\
    aI (some (s.step fuel)) (λs => aI (some (s.open ns 3 0)) λs => aI (exec P fuel g' (.stmts (turned b bd.kids)) b s) λs => aI (some (s.step fuel)) λs => s.close ns 0) = some res := by
  cases g with
  |zero => cases h
  |succ g =>
    refine⟨g, rfl, ?_⟩
    have he := nO h
    rw[exec, if_neg (by rw[he]; decide), if_neg (show ¬ Tree.kind (.mk 55 nn ns [bd]) = 53 from by show ¬ (55 : Int) = 53; decide), if_neg (show ¬ Tree.kind (.mk 55 nn ns [bd]) = 54 from by show ¬ (55 : Int) = 54; decide), if_pos (show Tree.kind (.mk 55 nn ns [bd]) = 55 from rfl)]at h
    exact h
set_option maxRecDepth 100000 in
set_option maxHeartbeats 6400000 in
theorem Rb {w0 : World} {p : az} {fuel k : Nat} (w : World) (x : aK) (s : ah) (res : Except Int ah) (nk nn : Int) (ns : ByteArray) (nv : Value) (nl : List ae) (b : Bool) (hk : nk = 53) (h : aG w0 p fuel k w x s) (hno : aS (λ_ => True) w0 (.mk nk nn ns nv nl))
    (HC : ∀ z, Grow w z -> Calls Tryz.prog 116 #[.pointer (some ⟨x.R, 0, none⟩), ae.val (.mk nk nn ns nv nl), .bool b] z (bZ w0 p fuel k x z res)) :
    Calls Tryz.prog 88 #[.pointer (some ⟨x.R, 0, none⟩), ae.val (.mk nk nn ns nv nl), .bool b] w (bZ w0 p fuel k x w res) := by
  subst hk
  obtain⟨na, nc, rfl, -, -⟩ := hno.at.form
  have nN := Lib.hid HC
  have aj := Lib.hid (show Grow w (w.alloc (.cells #[.int .u8 53, .int .i64 nn, .string ns, .slice na nl.length nc] 40))from(Mv.refl _ w).alloc _)
  have aY := Lib.hid (heap_alloc_new w (.cells #[.int .u8 53, .int .i64 nn, .string ns, .slice na nl.length nc] 40))
  clear hno h HC
  simp only[ae.val]at nN ⊢
  go_enter Tryz.func88, Tryz.ntmps88
  go_upto_region 1 with fail
  generalize (w.alloc (.cells #[.int .u8 53, .int .i64 nn, .string ns, .slice na nl.length nc] 40)) = w1 at *
  obtain⟨⟨n0, n1⟩, n2, n3⟩ := aJ aY.out
  have hbl := lt_of_block aY.out
  have fu := Lib.hid (nN.out _ aj.out)
  go_wp2_with fail
  refine fu.out.mono ?_
  intro e w2 hq
  have HQ := Lib.hid (bZ.of hq (ax.grow aj.out))
  clear hq
  cases res with
  |error n =>
    obtain⟨⟨rfl, hn0⟩, hg⟩ := HQ.out
    refine⟨rfl, ?_⟩
    exact⟨⟨rfl, hn0⟩, (by first|exact hg|exact .of (ax.grow aj.out) hg|exact .of (ax.grow HG2.out) hg|exact .of (ax.grow aA.out) hg|exact .of (ax.grow bB.out) hg|exact .of (ax.grow bI.out) hg|exact .of (ax.grow aT.out) hg|exact .of gH.out hg|exact .of dO.out hg|exact .of cz.out hg|exact .of bO.out hg|exact .of dZ.out hg|exact .of HR4.out hg|exact .of HR3.out hg|exact .of HR2.out hg|exact .of HR1.out hg|exact .of HR.out hg|exact .of ((ax.grow aj.out).trans HR.out) hg)⟩
  |ok s' =>
    obtain⟨rfl, hx⟩ := HQ.out
    go_wp2_with fail
    go_end0
    exact HQ.out
set_option maxRecDepth 100000 in
set_option maxHeartbeats 6400000 in
theorem RZ {w0 : World} {p : az} {fuel k : Nat} (w : World) (x : aK) (s : ah) (res : Except Int ah) (nk nn : Int) (ns : ByteArray) (nv : Value) (nl : List ae) (b : Bool) (hk : nk = 54) (h : aG w0 p fuel k w x s) (hno : aS (λ_ => True) w0 (.mk nk nn ns nv nl))
    (HC : ∀ z, Grow w z -> Calls Tryz.prog 117 #[.pointer (some ⟨x.R, 0, none⟩), ae.val (.mk nk nn ns nv nl), .bool b] z (bZ w0 p fuel k x z res)) :
    Calls Tryz.prog 88 #[.pointer (some ⟨x.R, 0, none⟩), ae.val (.mk nk nn ns nv nl), .bool b] w (bZ w0 p fuel k x w res) := by
  subst hk
  obtain⟨na, nc, rfl, -, -⟩ := hno.at.form
  have nN := Lib.hid HC
  have aj := Lib.hid (show Grow w (w.alloc (.cells #[.int .u8 54, .int .i64 nn, .string ns, .slice na nl.length nc] 40))from(Mv.refl _ w).alloc _)
  have aY := Lib.hid (heap_alloc_new w (.cells #[.int .u8 54, .int .i64 nn, .string ns, .slice na nl.length nc] 40))
  clear hno h HC
  simp only[ae.val]at nN ⊢
  go_enter Tryz.func88, Tryz.ntmps88
  go_upto_region 1 with fail
  generalize (w.alloc (.cells #[.int .u8 54, .int .i64 nn, .string ns, .slice na nl.length nc] 40)) = w1 at *
  obtain⟨⟨n0, n1⟩, n2, n3⟩ := aJ aY.out
  have hbl := lt_of_block aY.out
  have fu := Lib.hid (nN.out _ aj.out)
  go_wp2_with fail
  refine fu.out.mono ?_
  intro e w2 hq
  have HQ := Lib.hid (bZ.of hq (ax.grow aj.out))
  clear hq
  cases res with
  |error n =>
    obtain⟨⟨rfl, hn0⟩, hg⟩ := HQ.out
    refine⟨rfl, ?_⟩
    exact⟨⟨rfl, hn0⟩, (by first|exact hg|exact .of (ax.grow aj.out) hg|exact .of (ax.grow HG2.out) hg|exact .of (ax.grow aA.out) hg|exact .of (ax.grow bB.out) hg|exact .of (ax.grow bI.out) hg|exact .of (ax.grow aT.out) hg|exact .of gH.out hg|exact .of dO.out hg|exact .of cz.out hg|exact .of bO.out hg|exact .of dZ.out hg|exact .of HR4.out hg|exact .of HR3.out hg|exact .of HR2.out hg|exact .of HR1.out hg|exact .of HR.out hg|exact .of ((ax.grow aj.out).trans HR.out) hg)⟩
  |ok s' =>
    obtain⟨rfl, hx⟩ := HQ.out
    go_wp2_with fail
    go_end0
    exact HQ.out
set_option maxRecDepth 100000 in
set_option maxHeartbeats 6400000 in
theorem Rc {w0 : World} {p : az} {fuel k : Nat} (w : World) (x : aK) (s : ah) (res : Except Int ah) (nk nn : Int) (ns : ByteArray) (nv : Value) (nl : List ae) (b : Bool) (hk : nk = 50) (h : aG w0 p fuel k w x s) (hno : aS (λ_ => True) w0 (.mk nk nn ns nv nl))
    (HC : ∀ z, Grow w z -> Calls Tryz.prog 122 #[.pointer (some ⟨x.R, 0, none⟩), ae.val (.mk nk nn ns nv nl), .bool (b != (nk == 51))] z (bZ w0 p fuel k x z res)) :
    Calls Tryz.prog 88 #[.pointer (some ⟨x.R, 0, none⟩), ae.val (.mk nk nn ns nv nl), .bool b] w (bZ w0 p fuel k x w res) := by
  subst hk
  obtain⟨na, nc, rfl, -, -⟩ := hno.at.form
  have nN := Lib.hid HC
  have aj := Lib.hid (show Grow w (w.alloc (.cells #[.int .u8 50, .int .i64 nn, .string ns, .slice na nl.length nc] 40))from(Mv.refl _ w).alloc _)
  have aY := Lib.hid (heap_alloc_new w (.cells #[.int .u8 50, .int .i64 nn, .string ns, .slice na nl.length nc] 40))
  clear hno h HC
  simp only[ae.val]at nN ⊢
  go_enter Tryz.func88, Tryz.ntmps88
  go_upto_region 1 with fail
  generalize (w.alloc (.cells #[.int .u8 50, .int .i64 nn, .string ns, .slice na nl.length nc] 40)) = w1 at *
  obtain⟨⟨n0, n1⟩, n2, n3⟩ := aJ aY.out
  have hbl := lt_of_block aY.out
  have fu := Lib.hid (nN.out _ aj.out)
  cases b
  · go_wp2_with fail
    refine fu.out.mono ?_
    intro e w2 hq
    have HQ := Lib.hid (bZ.of hq (ax.grow aj.out))
    clear hq
    cases res with
    |error n =>
      obtain⟨⟨rfl, hn0⟩, hg⟩ := HQ.out
      refine⟨rfl, ?_⟩
      exact⟨⟨rfl, hn0⟩, (by first|exact hg|exact .of (ax.grow aj.out) hg|exact .of (ax.grow HG2.out) hg|exact .of (ax.grow aA.out) hg|exact .of (ax.grow bB.out) hg|exact .of (ax.grow bI.out) hg|exact .of (ax.grow aT.out) hg|exact .of gH.out hg|exact .of dO.out hg|exact .of cz.out hg|exact .of bO.out hg|exact .of dZ.out hg|exact .of HR4.out hg|exact .of HR3.out hg|exact .of HR2.out hg|exact .of HR1.out hg|exact .of HR.out hg|exact .of ((ax.grow aj.out).trans HR.out) hg)⟩
    |ok s' =>
      obtain⟨rfl, hx⟩ := HQ.out
      go_wp2_with fail
      go_end0
      exact HQ.out
  · go_wp2_with fail
    refine fu.out.mono ?_
    intro e w2 hq
    have HQ := Lib.hid (bZ.of hq (ax.grow aj.out))
    clear hq
    cases res with
    |error n =>
      obtain⟨⟨rfl, hn0⟩, hg⟩ := HQ.out
      refine⟨rfl, ?_⟩
      exact⟨⟨rfl, hn0⟩, (by first|exact hg|exact .of (ax.grow aj.out) hg|exact .of (ax.grow HG2.out) hg|exact .of (ax.grow aA.out) hg|exact .of (ax.grow bB.out) hg|exact .of (ax.grow bI.out) hg|exact .of (ax.grow aT.out) hg|exact .of gH.out hg|exact .of dO.out hg|exact .of cz.out hg|exact .of bO.out hg|exact .of dZ.out hg|exact .of HR4.out hg|exact .of HR3.out hg|exact .of HR2.out hg|exact .of HR1.out hg|exact .of HR.out hg|exact .of ((ax.grow aj.out).trans HR.out) hg)⟩
    |ok s' =>
      obtain⟨rfl, hx⟩ := HQ.out
      go_wp2_with fail
      go_end0
      exact HQ.out
set_option maxRecDepth 100000 in
set_option maxHeartbeats 6400000 in
theorem PV {w0 : World} {p : az} {fuel k : Nat} (w : World) (x : aK) (s : ah) (res : Except Int ah) (nk nn : Int) (ns : ByteArray) (nv : Value) (nl : List ae) (b : Bool) (hk : nk = 51) (h : aG w0 p fuel k w x s) (hno : aS (λ_ => True) w0 (.mk nk nn ns nv nl))
    (HC : ∀ z, Grow w z -> Calls Tryz.prog 122 #[.pointer (some ⟨x.R, 0, none⟩), ae.val (.mk nk nn ns nv nl), .bool (b != (nk == 51))] z (bZ w0 p fuel k x z res)) :
    Calls Tryz.prog 88 #[.pointer (some ⟨x.R, 0, none⟩), ae.val (.mk nk nn ns nv nl), .bool b] w (bZ w0 p fuel k x w res) := by
  subst hk
  obtain⟨na, nc, rfl, -, -⟩ := hno.at.form
  have nN := Lib.hid HC
  have aj := Lib.hid (show Grow w (w.alloc (.cells #[.int .u8 51, .int .i64 nn, .string ns, .slice na nl.length nc] 40))from(Mv.refl _ w).alloc _)
  have aY := Lib.hid (heap_alloc_new w (.cells #[.int .u8 51, .int .i64 nn, .string ns, .slice na nl.length nc] 40))
  clear hno h HC
  simp only[ae.val]at nN ⊢
  go_enter Tryz.func88, Tryz.ntmps88
  go_upto_region 1 with fail
  generalize (w.alloc (.cells #[.int .u8 51, .int .i64 nn, .string ns, .slice na nl.length nc] 40)) = w1 at *
  obtain⟨⟨n0, n1⟩, n2, n3⟩ := aJ aY.out
  have hbl := lt_of_block aY.out
  have fu := Lib.hid (nN.out _ aj.out)
  cases b
  · go_wp2_with fail
    refine fu.out.mono ?_
    intro e w2 hq
    have HQ := Lib.hid (bZ.of hq (ax.grow aj.out))
    clear hq
    cases res with
    |error n =>
      obtain⟨⟨rfl, hn0⟩, hg⟩ := HQ.out
      refine⟨rfl, ?_⟩
      exact⟨⟨rfl, hn0⟩, (by first|exact hg|exact .of (ax.grow aj.out) hg|exact .of (ax.grow HG2.out) hg|exact .of (ax.grow aA.out) hg|exact .of (ax.grow bB.out) hg|exact .of (ax.grow bI.out) hg|exact .of (ax.grow aT.out) hg|exact .of gH.out hg|exact .of dO.out hg|exact .of cz.out hg|exact .of bO.out hg|exact .of dZ.out hg|exact .of HR4.out hg|exact .of HR3.out hg|exact .of HR2.out hg|exact .of HR1.out hg|exact .of HR.out hg|exact .of ((ax.grow aj.out).trans HR.out) hg)⟩
    |ok s' =>
      obtain⟨rfl, hx⟩ := HQ.out
      go_wp2_with fail
      go_end0
      exact HQ.out
  · go_wp2_with fail
    refine fu.out.mono ?_
    intro e w2 hq
    have HQ := Lib.hid (bZ.of hq (ax.grow aj.out))
    clear hq
    cases res with
    |error n =>
      obtain⟨⟨rfl, hn0⟩, hg⟩ := HQ.out
      refine⟨rfl, ?_⟩
      exact⟨⟨rfl, hn0⟩, (by first|exact hg|exact .of (ax.grow aj.out) hg|exact .of (ax.grow HG2.out) hg|exact .of (ax.grow aA.out) hg|exact .of (ax.grow bB.out) hg|exact .of (ax.grow bI.out) hg|exact .of (ax.grow aT.out) hg|exact .of gH.out hg|exact .of dO.out hg|exact .of cz.out hg|exact .of bO.out hg|exact .of dZ.out hg|exact .of HR4.out hg|exact .of HR3.out hg|exact .of HR2.out hg|exact .of HR1.out hg|exact .of HR.out hg|exact .of ((ax.grow aj.out).trans HR.out) hg)⟩
    |ok s' =>
      obtain⟨rfl, hx⟩ := HQ.out
      go_wp2_with fail
      go_end0
      exact HQ.out
set_option maxRecDepth 100000 in
set_option maxHeartbeats 12800000 in
theorem R3 {w0 : World} {p : az} {fuel k : Nat} (w : World) (x : aK) (s : ah) (res : Except Int ah) (nk nn : Int) (ns : ByteArray) (nv : Value) (kk kn : Int) (ks : ByteArray) (kv : Value) (kl : List ae) (b : Bool) (hk : nk = 44 \/ nk = 45) (h : aG w0 p fuel k w x s) (hno : aS (λ_ => True) w0 (.mk nk nn ns nv [.mk kk kn ks kv kl]))
    (hs : aX (ae.t (.mk nk nn ns nv [.mk kk kn ks kv kl])) = true) (hkk : kk = 2) (hex : aI (some (s.step fuel)) (λs => s.move (b != (nk == 44)) ns ks) = some res) :
    Calls Tryz.prog 88 #[.pointer (some ⟨x.R, 0, none⟩), ae.val (.mk nk nn ns nv [.mk kk kn ks kv kl]), .bool b] w (bZ w0 p fuel k x w res) := by
  have vM := Lib.hid (λz x' (s' : ah) (hz : aG w0 p fuel k z x' s') (hr : s'.move (nk == 44) ns ks = some res) => (show Calls Tryz.prog 124 #[.pointer (some ⟨x'.S, 0, none⟩), ae.val (.mk nk nn ns nv [.mk kk kn ks kv kl])] z (dU w0 p fuel k x' z res)from by
    obtain⟨x2, hr2, ho2, h2⟩ := hz.fresh
    have := JO w0 p fuel k z x2 s' nk nn ns nv kk kn ks kv kl res hk h2 ho2 (hno.up hz.g).at hs hkk hr
    rw[hr2.S]at this
    exact this.mono λe w' hq => hq.trans hr2))
  have CJ := Lib.hid (λz x' (s' : ah) (hz : aG w0 p fuel k z x' s') (hr : s'.move (oh nk == 44) ns ks = some res) => (show Calls Tryz.prog 123 #[.pointer (some ⟨x'.S, 0, none⟩), ae.val (.mk nk nn ns nv [.mk kk kn ks kv kl])] z (dU w0 p fuel k x' z res)from by
    obtain⟨x2, hr2, ho2, h2⟩ := hz.fresh
    have := SH w0 p fuel k z x2 s' nk nn ns nv kk kn ks kv kl res hk h2 ho2 (hno.up hz.g).at hs hkk hr
    rw[hr2.S]at this
    exact this.mono λe w' hq => hq.trans hr2))
  generalize hnl : [ae.mk kk kn ks kv kl] = nl at *
  obtain⟨na, nc, rfl, -, -⟩ := hno.at.form
  have aj := Lib.hid (show Grow w (w.alloc (.cells #[.int .u8 nk, .int .i64 nn, .string ns, .slice na nl.length nc] 40))from(Mv.refl _ w).alloc _)
  have aY := Lib.hid (heap_alloc_new w (.cells #[.int .u8 nk, .int .i64 nn, .string ns, .slice na nl.length nc] 40))
  have iw := Lib.hid (h.later aj.out)
  have gu := Lib.hid hex
  have e0 : (nk == 52) = false := by rcases hk with rfl|rfl <;> rfl
  have e1 : (nk == 53) = false := by rcases hk with rfl|rfl <;> rfl
  have e2 : (nk == 54) = false := by rcases hk with rfl|rfl <;> rfl
  have e3 : (nk == 55) = false := by rcases hk with rfl|rfl <;> rfl
  have e4 : (nk == 50) = false := by rcases hk with rfl|rfl <;> rfl
  have e5 : (nk == 51) = false := by rcases hk with rfl|rfl <;> rfl
  have EG := Lib.hid (show(oh nk == 44) = !(nk == 44)from by rcases hk with rfl|rfl <;> rfl)
  clear hno h hex hk hs hnl
  simp only[ae.val]at vM CJ ⊢
  go_enter Tryz.func88, Tryz.ntmps88
  go_upto_region 1 with fail
  generalize (w.alloc (.cells #[.int .u8 nk, .int .i64 nn, .string ns, .slice na nl.length nc] 40)) = w1 at *
  have cK := Lib.hid (rf w0 p fuel k w1 x s iw.out)
  obtain⟨hbad, hok⟩ := mF gu.out
  have HBAD := Lib.hid hbad
  have bF := Lib.hid hok
  clear gu hbad hok
  obtain⟨⟨n0, n1⟩, n2, n3⟩ := aJ aY.out
  have hbl := lt_of_block aY.out
  go_wp2_with fail
  refine cK.out.mono ?_
  clear cK n0 n1 n2 n3 hbl
  intro e w4 hq
  cases hs1 : s.step fuel with
  |error n =>
    rw[hs1]at hq
    have hre := HBAD.out n hs1
    obtain⟨⟨rfl, hn0⟩, hg⟩ := hq
    refine⟨rfl, ?_⟩
    rw[hre]
    exact⟨⟨rfl, hn0⟩, (by first|exact hg|exact .of (ax.grow aj.out) hg|exact .of (ax.grow HG2.out) hg|exact .of (ax.grow aA.out) hg|exact .of (ax.grow bB.out) hg|exact .of (ax.grow bI.out) hg|exact .of (ax.grow aT.out) hg|exact .of gH.out hg|exact .of dO.out hg|exact .of cz.out hg|exact .of bO.out hg|exact .of dZ.out hg|exact .of HR4.out hg|exact .of HR3.out hg|exact .of HR2.out hg|exact .of HR1.out hg|exact .of HR.out hg|exact .of ((ax.grow aj.out).trans HR.out) hg)⟩
  |ok s1 =>
  rw[hs1]at hq
  have hnext := bF.out s1 hs1
  obtain⟨rfl, x4, hr4, jP⟩ := hq
  have kS := Lib.hid (DJ iw.out hs1)
  have bU := Lib.hid (And.intro hr4.R hr4.S)
  have HR4 := Lib.hid ((ax.grow aj.out).trans hr4)
  have gF := Lib.hid jP
  have dE := Lib.hid (hr4.n _ _ _ aY.out)
  have iT := Lib.hid hnext
  clear hnext hr4 jP HBAD bF hs1 iw
  have gU := Lib.hid (λy hM => wu (w0 := w0) (p := p) (fuel := fuel) (k := k) (xx := x4) (wA := w4) (s1 := s1) (vok := True) (r2 := res) (res := res) (m := 0) (λe _ he => he) (.pointer (some ⟨x.R, 0, none⟩)) y hM)
  cases b with
  |true =>
    have gq := Lib.hid (λy hM => uj (w0 := w0) (X := ErrX w0 x4 w4 res) (vok := True) (p := p) (fuel := fuel) (k := k) (xx := x4) (wA := w4) (s1 := s1) (m := 0) (r2 := res) y hM (λx' hr hst _ => by
      have := CJ.out y x' s1 hst (by rw[EG.out]; have h9 := iT.out; rwa[show(true != (nk == 44)) = !(nk == 44)from by cases(nk == 44) <;> rfl]at h9)
      rw[hr.S, bU.out.2]at this
      exact this))
    clear vM CJ EG iT e0 e1 e2 e3 e4 e5
    go_upto_region 4 with fail
    refine wy (ErrX w0 x4 w4 res) 88 [some 11, some 12, some 13, some 14, some 15, some 16, some 17, some 18] [[], [], [1], [2], [3], [], [4, 5], [0, 6]] [some (.pointer (some ⟨x.R, 0, none⟩)), some (.pointer (some ⟨x.R, 0, none⟩)), some (.pointer (some ⟨x.R, 0, none⟩)), some (.pointer (some ⟨x.R, 6, none⟩)), some (.pointer (some ⟨x.S, 0, none⟩)), some (.agg #[.int .u8 nk, .int .i64 nn, .string ns, .slice na nl.length nc]), some (.int .i64 (jf res)), some (.tuple #[])] [6, 7] (dK w0 p fuel k x4 w4 s1 True res 0) (dK.zero gF.out) ⟨?s0, ?s1, ?s2, ?s3, ?s4, ?s5, ?s6, ?s7, trivial⟩ ?fin (λch w9 a9 kY kZ => And.intro kY (kZ.run HR4.out))
    case s0 =>
      refine yc (λy => ?_)
      simp only[zS, cv, List.getD_cons_zero, List.getD_cons_succ, Option.getD_some]
      go_simp
      exact⟨rfl, rfl⟩
    case s1 =>
      refine yc (λy => ?_)
      simp only[zS, cv, List.getD_cons_zero, List.getD_cons_succ, Option.getD_some]
      go_simp
      exact⟨rfl, rfl⟩
    case s2 =>
      refine yc (λy => ?_)
      simp only[zS, cv, List.getD_cons_zero, List.getD_cons_succ, Option.getD_some]
      go_simp
      exact⟨rfl, rfl⟩
    case s3 =>
      refine yc (λy => ?_)
      simp only[zS, cv, List.getD_cons_zero, List.getD_cons_succ, Option.getD_some]
      go_simp
      exact⟨rfl, rfl⟩
    case s4 =>
      refine yl 0 (λt y ht hM => ?_)
      obtain⟨x9, bg, bG⟩ := hM.read ht
      have c6 := bG.cells.1.1
      rw[bg.R.trans bU.out.1, bg.S.trans bU.out.2]at c6
      have hrl := lt_of_block bG.run
      rw[bg.R.trans bU.out.1]at hrl
      clear hM bg bG
      simp only[zS, cv, List.getD_cons_zero, List.getD_cons_succ, Option.getD_some]
      go_simp
      exact⟨rfl, rfl⟩
    case s5 =>
      refine yl 0 (λt y ht hM => ?_)
      obtain⟨x9, bg, bG⟩ := hM.read ht
      obtain⟨⟨n0, n1⟩, n2, n3⟩ := aJ (bg.n _ _ _ dE.out)
      have hbl := lt_of_block (bg.n _ _ _ dE.out)
      clear hM bg bG
      simp only[zS, cv, List.getD_cons_zero, List.getD_cons_succ, Option.getD_some]
      go_simp
      exact⟨rfl, rfl⟩
    case s6 =>
      refine yw 0 (λy hM => ?_)
      have HC := Lib.hid (gq.out y hM)
      clear hM
      unfold dQ
      simp only[zS, cv, List.getD_cons_zero, List.getD_cons_succ, Option.getD_some]
      go_simp
      exact gy.jq HC.out
    case s7 =>
      refine yw 1 (λy hM => ?_)
      have HC := Lib.hid (gU.out y hM)
      clear hM
      unfold dQ
      simp only[zS, cv, List.getD_cons_zero, List.getD_cons_succ, Option.getD_some]
      go_simp
      exact gy.jq HC.out
    case fin =>
    intro wf hM
    have HM := Lib.hid hM.fin
    clear hM
    simp only[zS, Nat.reduceAdd, cv, List.getD_cons_zero, List.getD_cons_succ, Option.getD_some]
    have HQ := Lib.hid (show bZ w0 p fuel k x w res (.returned (.tuple #[])) wf from by
      obtain⟨s2, hs2, x9, bg, bG⟩ := HM.out.2
      rw[hs2]
      exact⟨rfl, x9, HR4.out.trans bg, bG⟩)
    go_wp2_with fail
    go_end0
    exact HQ.out
  |false =>
    have gq := Lib.hid (λy hM => uj (w0 := w0) (X := ErrX w0 x4 w4 res) (vok := True) (p := p) (fuel := fuel) (k := k) (xx := x4) (wA := w4) (s1 := s1) (m := 0) (r2 := res) y hM (λx' hr hst _ => by
      have := vM.out y x' s1 hst (by have h9 := iT.out; rwa[show(false != (nk == 44)) = (nk == 44)from by cases(nk == 44) <;> rfl]at h9)
      rw[hr.S, bU.out.2]at this
      exact this))
    clear vM CJ EG iT e0 e1 e2 e3 e4 e5
    go_upto_region 5 with fail
    refine wy (ErrX w0 x4 w4 res) 88 [some 19, some 20, some 21, some 22, some 23, some 24, some 25, some 26] [[], [], [1], [2], [3], [], [4, 5], [0, 6]] [some (.pointer (some ⟨x.R, 0, none⟩)), some (.pointer (some ⟨x.R, 0, none⟩)), some (.pointer (some ⟨x.R, 0, none⟩)), some (.pointer (some ⟨x.R, 6, none⟩)), some (.pointer (some ⟨x.S, 0, none⟩)), some (.agg #[.int .u8 nk, .int .i64 nn, .string ns, .slice na nl.length nc]), some (.int .i64 (jf res)), some (.tuple #[])] [6, 7] (dK w0 p fuel k x4 w4 s1 True res 0) (dK.zero gF.out) ⟨?s0, ?s1, ?s2, ?s3, ?s4, ?s5, ?s6, ?s7, trivial⟩ ?fin (λch w9 a9 kY kZ => And.intro kY (kZ.run HR4.out))
    case s0 =>
      refine yc (λy => ?_)
      simp only[zS, cv, List.getD_cons_zero, List.getD_cons_succ, Option.getD_some]
      go_simp
      exact⟨rfl, rfl⟩
    case s1 =>
      refine yc (λy => ?_)
      simp only[zS, cv, List.getD_cons_zero, List.getD_cons_succ, Option.getD_some]
      go_simp
      exact⟨rfl, rfl⟩
    case s2 =>
      refine yc (λy => ?_)
      simp only[zS, cv, List.getD_cons_zero, List.getD_cons_succ, Option.getD_some]
      go_simp
      exact⟨rfl, rfl⟩
    case s3 =>
      refine yc (λy => ?_)
      simp only[zS, cv, List.getD_cons_zero, List.getD_cons_succ, Option.getD_some]
      go_simp
      exact⟨rfl, rfl⟩
    case s4 =>
      refine yl 0 (λt y ht hM => ?_)
      obtain⟨x9, bg, bG⟩ := hM.read ht
      have c6 := bG.cells.1.1
      rw[bg.R.trans bU.out.1, bg.S.trans bU.out.2]at c6
      have hrl := lt_of_block bG.run
      rw[bg.R.trans bU.out.1]at hrl
      clear hM bg bG
      simp only[zS, cv, List.getD_cons_zero, List.getD_cons_succ, Option.getD_some]
      go_simp
      exact⟨rfl, rfl⟩
    case s5 =>
      refine yl 0 (λt y ht hM => ?_)
      obtain⟨x9, bg, bG⟩ := hM.read ht
      obtain⟨⟨n0, n1⟩, n2, n3⟩ := aJ (bg.n _ _ _ dE.out)
      have hbl := lt_of_block (bg.n _ _ _ dE.out)
      clear hM bg bG
      simp only[zS, cv, List.getD_cons_zero, List.getD_cons_succ, Option.getD_some]
      go_simp
      exact⟨rfl, rfl⟩
    case s6 =>
      refine yw 0 (λy hM => ?_)
      have HC := Lib.hid (gq.out y hM)
      clear hM
      unfold dQ
      simp only[zS, cv, List.getD_cons_zero, List.getD_cons_succ, Option.getD_some]
      go_simp
      exact gy.jq HC.out
    case s7 =>
      refine yw 1 (λy hM => ?_)
      have HC := Lib.hid (gU.out y hM)
      clear hM
      unfold dQ
      simp only[zS, cv, List.getD_cons_zero, List.getD_cons_succ, Option.getD_some]
      go_simp
      exact gy.jq HC.out
    case fin =>
    intro wf hM
    have HM := Lib.hid hM.fin
    clear hM
    simp only[zS, Nat.reduceAdd, cv, List.getD_cons_zero, List.getD_cons_succ, Option.getD_some]
    have HQ := Lib.hid (show bZ w0 p fuel k x w res (.returned (.tuple #[])) wf from by
      obtain⟨s2, hs2, x9, bg, bG⟩ := HM.out.2
      rw[hs2]
      exact⟨rfl, x9, HR4.out.trans bg, bG⟩)
    go_wp2_with fail
    go_end0
    exact HQ.out
set_option maxRecDepth 100000 in
set_option maxHeartbeats 12800000 in
theorem SK {w0 : World} {p : az} {fuel k g : Nat} (IH : ∀ g', g' < g -> rH w0 p fuel k g') (w : World) (x : aK) (s : ah) (res : Except Int ah) (nk nn : Int) (ns : ByteArray) (nv : Value) (nl : List ae) (b : Bool) (hk : nk = 55) (h : aG w0 p fuel k w x s) (hno : aS (λ_ => True) w0 (.mk nk nn ns nv nl)) (hex : exec (p.procs.map aO.d) fuel g (.stmt (ae.t (.mk nk nn ns nv nl))) b s = some res) :
    Calls Tryz.prog 88 #[.pointer (some ⟨x.R, 0, none⟩), ae.val (.mk nk nn ns nv nl), .bool b] w (bZ w0 p fuel k x w res) := by
  subst hk
  have hsh := nO hex
  rw[ae.t]at hsh
  obtain⟨vN, rfl⟩ := RY rfl hsh
  rw[ae.t, ae.ts, ae.ts]at hex
  obtain⟨g', rfl, oK⟩ := PU hex
  clear hsh hex
  have hkb := hno.kids vN (by simp)
  have hrow := hno.at.row.2.2.2.1
  obtain⟨na, nc, rfl, -, -⟩ := hno.at.form
  obtain⟨kb, ko, mY, Ad, _, hcc⟩ := hrow.at (i := 0) (by simp)
  simp only[Value.slice.injEq, true_and]at Ad
  obtain⟨rfl, rfl⟩ := Ad
  obtain⟨bk, bn, bs, bv, bl⟩ := vN
  obtain⟨ba, bc, rfl, -, -⟩ := hkb.at.form
  have d0 := hcc 0 (.int .u8 bk) (by rfl)
  have d1 := hcc 1 (.int .i64 bn) (by rfl)
  have d2 := hcc 2 (.string bs) (by rfl)
  have d3 := hcc 3 (.slice ba bl.length bc) (by rfl)
  simp only[Nat.add_zero, Nat.zero_mul]at d0 d1 d2 d3
  have pG := Lib.hid (λz (hz : Grow w0 z) => And.intro (And.intro (bW d0 hz) (bW d1 hz)) (And.intro (bW d2 hz) (bW d3 hz)))
  clear hcc d0 d1 d2 d3
  generalize hnl : [ae.mk bk bn bs (.slice ba bl.length bc) bl] = nl at *
  have EX := Lib.hid (show nl.length = 1 from by rw[← hnl]; rfl)
  have kX := Lib.hid (λz x' s' jO (hz : aG w0 p fuel k z x' s') (he : exec (p.procs.map aO.d) fuel g' (.stmts (turned b (ae.t (.mk bk bn bs (.slice ba bl.length bc) bl)).kids)) b s' = some jO) => IH g' (by omega) z x' s' jO (.mk bk bn bs (.slice ba bl.length bc) bl) b hz hkb he)
  have aj := Lib.hid (show Grow w (w.alloc (.cells #[.int .u8 55, .int .i64 nn, .string ns, .slice (some ⟨kb, ko, none⟩) nl.length nc] 40))from(Mv.refl _ w).alloc _)
  have aY := Lib.hid (heap_alloc_new w (.cells #[.int .u8 55, .int .i64 nn, .string ns, .slice (some ⟨kb, ko, none⟩) nl.length nc] 40))
  have iw := Lib.hid (h.later aj.out)
  have gu := Lib.hid oK
  clear hno oK h hkb hrow IH hnl
  simp only[ae.val]at kX ⊢
  go_enter Tryz.func88, Tryz.ntmps88
  go_upto_region 1 with fail
  generalize (w.alloc (.cells #[.int .u8 55, .int .i64 nn, .string ns, .slice (some ⟨kb, ko, none⟩) nl.length nc] 40)) = w1 at *
  have cK := Lib.hid (rf w0 p fuel k w1 x s iw.out)
  obtain⟨hbad, hok⟩ := mF gu.out
  have HBAD := Lib.hid hbad
  have bF := Lib.hid hok
  clear gu hbad hok
  obtain⟨⟨n0, n1⟩, n2, n3⟩ := aJ aY.out
  have hbl := lt_of_block aY.out
  go_wp2_with fail
  refine cK.out.mono ?_
  clear cK n0 n1 n2 n3 hbl
  intro e w4 hq
  cases hs1 : s.step fuel with
  |error n =>
    rw[hs1]at hq
    have hre := HBAD.out n hs1
    obtain⟨⟨rfl, hn0⟩, hg⟩ := hq
    refine⟨rfl, ?_⟩
    rw[hre]
    exact⟨⟨rfl, hn0⟩, (by first|exact hg|exact .of (ax.grow aj.out) hg|exact .of (ax.grow HG2.out) hg|exact .of (ax.grow aA.out) hg|exact .of (ax.grow bB.out) hg|exact .of (ax.grow bI.out) hg|exact .of (ax.grow aT.out) hg|exact .of gH.out hg|exact .of dO.out hg|exact .of cz.out hg|exact .of bO.out hg|exact .of dZ.out hg|exact .of HR4.out hg|exact .of HR3.out hg|exact .of HR2.out hg|exact .of HR1.out hg|exact .of HR.out hg|exact .of ((ax.grow aj.out).trans HR.out) hg)⟩
  |ok s1 =>
  rw[hs1]at hq
  have hnext := bF.out s1 hs1
  obtain⟨rfl, x4, hr4, jP⟩ := hq
  have kS := Lib.hid (DJ iw.out hs1)
  have bU := Lib.hid (And.intro hr4.R hr4.S)
  have HR4 := Lib.hid ((ax.grow aj.out).trans hr4)
  have gF := Lib.hid jP
  have dE := Lib.hid (hr4.n _ _ _ aY.out)
  obtain⟨hbad, hok⟩ := mF hnext
  clear HBAD bF
  have HBAD := Lib.hid hbad
  have bF := Lib.hid hok
  clear hnext hr4 jP hbad hok hs1 iw aY aj
  have gq := Lib.hid (λy hM => uj (w0 := w0) (X := ErrX w0 x4 w4 res) (vok := True) (p := p) (fuel := fuel) (k := k) (xx := x4) (wA := w4) (s1 := s1) (m := 0) (r2 := s1.open ns 3 0) y hM (λx' hr hst _ => by
    have := IK w0 p fuel k y x' s1 ns 3 0 hst (.inr rfl) kS.out
    rw[hr.S, bU.out.2]at this
    exact this))
  have gU := Lib.hid (λy hM => wu (w0 := w0) (p := p) (fuel := fuel) (k := k) (xx := x4) (wA := w4) (s1 := s1) (vok := True) (r2 := s1.open ns 3 0) (res := res) (m := 0) (λe _ he => HBAD.out e he) (.pointer (some ⟨x.R, 0, none⟩)) y hM)
  go_upto_region 14 with fail
  refine wy (ErrX w0 x4 w4 res) 88 [some 49, some 50, some 51, some 52, some 53, some 54, some 55, some 56, some 57, some 58] [[], [], [1], [2], [3], [], [5], [6], [4, 7], [0, 8]] [some (.pointer (some ⟨x.R, 0, none⟩)), some (.pointer (some ⟨x.R, 0, none⟩)), some (.pointer (some ⟨x.R, 0, none⟩)), some (.pointer (some ⟨x.R, 6, none⟩)), some (.pointer (some ⟨x.S, 0, none⟩)), some (.pointer (some ⟨w.heap.size, 2, none⟩)), some (.string ns), some (.agg #[.string ns, .int .u8 3, .int .i64 0]), some (.int .i64 (jf (s1.open ns 3 0))), some (.tuple #[])] [8, 9] (dK w0 p fuel k x4 w4 s1 True (s1.open ns 3 0) 0) (dK.zero gF.out) ⟨?s0, ?s1, ?s2, ?s3, ?s4, ?s5, ?s6, ?s7, ?s8, ?s9, trivial⟩ ?fin (λch w9 a9 kY kZ => And.intro kY (kZ.run HR4.out))
  case s0 =>
    refine yc (λy => ?_)
    simp only[zS, cv, List.getD_cons_zero, List.getD_cons_succ, Option.getD_some]
    go_simp
    exact⟨rfl, rfl⟩
  case s1 =>
    refine yc (λy => ?_)
    simp only[zS, cv, List.getD_cons_zero, List.getD_cons_succ, Option.getD_some]
    go_simp
    exact⟨rfl, rfl⟩
  case s2 =>
    refine yc (λy => ?_)
    simp only[zS, cv, List.getD_cons_zero, List.getD_cons_succ, Option.getD_some]
    go_simp
    exact⟨rfl, rfl⟩
  case s3 =>
    refine yc (λy => ?_)
    simp only[zS, cv, List.getD_cons_zero, List.getD_cons_succ, Option.getD_some]
    go_simp
    exact⟨rfl, rfl⟩
  case s4 =>
    refine yl 0 (λt y ht hM => ?_)
    obtain⟨x9, bg, bG⟩ := hM.read ht
    have c6 := bG.cells.1.1
    rw[bg.R.trans bU.out.1, bg.S.trans bU.out.2]at c6
    have hrl := lt_of_block bG.run
    rw[bg.R.trans bU.out.1]at hrl
    clear hM bg bG
    simp only[zS, cv, List.getD_cons_zero, List.getD_cons_succ, Option.getD_some]
    go_simp
    exact⟨rfl, rfl⟩
  case s5 =>
    refine yc (λy => ?_)
    simp only[zS, cv, List.getD_cons_zero, List.getD_cons_succ, Option.getD_some]
    go_simp
    exact⟨rfl, rfl⟩
  case s6 =>
    refine yl 0 (λt y ht hM => ?_)
    obtain⟨x9, bg, bG⟩ := hM.read ht
    obtain⟨⟨n0, n1⟩, n2, n3⟩ := aJ (bg.n _ _ _ dE.out)
    have hbl := lt_of_block (bg.n _ _ _ dE.out)
    clear hM bg bG
    simp only[zS, cv, List.getD_cons_zero, List.getD_cons_succ, Option.getD_some]
    go_simp
    exact⟨rfl, rfl⟩
  case s7 =>
    refine yc (λy => ?_)
    simp only[zS, cv, List.getD_cons_zero, List.getD_cons_succ, Option.getD_some]
    go_simp
    exact⟨rfl, rfl⟩
  case s8 =>
    refine yw 0 (λy hM => ?_)
    have HC := Lib.hid (gq.out y hM)
    clear hM
    unfold dQ
    simp only[zS, cv, List.getD_cons_zero, List.getD_cons_succ, Option.getD_some]
    go_simp
    exact gy.jq HC.out
  case s9 =>
    refine yw 1 (λy hM => ?_)
    have HC := Lib.hid (gU.out y hM)
    clear hM
    unfold dQ
    simp only[zS, cv, List.getD_cons_zero, List.getD_cons_succ, Option.getD_some]
    go_simp
    exact gy.jq HC.out
  case fin =>
  intro wf hM
  have HM := Lib.hid hM.fin
  clear hM
  simp only[zS, Nat.reduceAdd, cv, List.getD_cons_zero, List.getD_cons_succ, Option.getD_some]
  obtain⟨-, s2, hs2, x5, eP, dC⟩ := HM.out
  have hnx := bF.out s2 hs2
  have eT := Lib.hid (And.intro (eP.R.trans bU.out.1) (eP.S.trans bU.out.2))
  have dZ := Lib.hid (HR4.out.trans eP)
  have eZ := Lib.hid dC
  have iW := Lib.hid (eP.n _ _ _ dE.out)
  have HE := Lib.hid (wJ hnx)
  have tu := Lib.hid (pG.out wf dC.g)
  clear hs2 eP dC hnx HM gq gU bU HR4 gF dE HBAD bF kS
  obtain⟨⟨n0, n1⟩, n2, n3⟩ := aJ iW.out
  have hbl := lt_of_block iW.out
  obtain⟨⟨d0, d1⟩, d2, d3⟩ := tu.out
  have hkl := World.block_lt_of_cell? wf _ d0
  simp only at hkl
  have hbd : 0 < nl.length := by have := EX.out; omega
  rcases HE.out with⟨e, hx, hre⟩|⟨s3, hx, hrest⟩
  · have HST := Lib.hid (kX.out wf x5 s2 _ eZ.out hx)
    rw[eT.out.1]at HST
    have dx := Lib.hid hre
    clear hx hre HE
    go_wp2_with fail
    refine HST.out.mono ?_
    rintro e2 w6 ⟨⟨rfl, hn0⟩, hg⟩
    refine⟨rfl, ?_⟩
    rw[dx.out]
    exact⟨⟨rfl, hn0⟩, (by first|exact hg|exact .of (ax.grow aj.out) hg|exact .of (ax.grow HG2.out) hg|exact .of (ax.grow aA.out) hg|exact .of (ax.grow bB.out) hg|exact .of (ax.grow bI.out) hg|exact .of (ax.grow aT.out) hg|exact .of gH.out hg|exact .of dO.out hg|exact .of cz.out hg|exact .of bO.out hg|exact .of dZ.out hg|exact .of HR4.out hg|exact .of HR3.out hg|exact .of HR2.out hg|exact .of HR1.out hg|exact .of HR.out hg|exact .of ((ax.grow aj.out).trans HR.out) hg)⟩
  have HST := Lib.hid (kX.out wf x5 s2 _ eZ.out hx)
  rw[eT.out.1]at HST
  obtain⟨hbad, hok⟩ := mF hrest
  have HBAD := Lib.hid hbad
  have bF := Lib.hid hok
  clear hx hrest hbad hok HE
  go_wp2_with fail
  refine HST.out.mono ?_
  rintro e2 w6 ⟨rfl, x6, dY, jQ⟩
  have cK := Lib.hid (rf w0 p fuel k w6 x6 s3 jQ)
  rw[dY.R, eT.out.1]at cK
  have gG := Lib.hid (And.intro (dY.R.trans eT.out.1) (dY.S.trans eT.out.2))
  have bO := Lib.hid (dZ.out.trans dY)
  have kg := Lib.hid jQ
  have mf := Lib.hid (dY.n _ _ _ iW.out)
  clear dY jQ HST n0 n1 n2 n3 hbl d0 d1 d2 d3 hkl hbd eT dZ eZ iW tu pG kX
  go_wp2_with fail
  refine cK.out.mono ?_
  clear cK
  intro e w7 hq
  cases hs1 : s3.step fuel with
  |error n =>
    rw[hs1]at hq
    have hre := HBAD.out n hs1
    obtain⟨⟨rfl, hn0⟩, hg⟩ := hq
    refine⟨rfl, ?_⟩
    rw[hre]
    exact⟨⟨rfl, hn0⟩, (by first|exact hg|exact .of (ax.grow aj.out) hg|exact .of (ax.grow HG2.out) hg|exact .of (ax.grow aA.out) hg|exact .of (ax.grow bB.out) hg|exact .of (ax.grow bI.out) hg|exact .of (ax.grow aT.out) hg|exact .of gH.out hg|exact .of dO.out hg|exact .of cz.out hg|exact .of bO.out hg|exact .of dZ.out hg|exact .of HR4.out hg|exact .of HR3.out hg|exact .of HR2.out hg|exact .of HR1.out hg|exact .of HR.out hg|exact .of ((ax.grow aj.out).trans HR.out) hg)⟩
  |ok s4 =>
  rw[hs1]at hq
  have hnext := bF.out s4 hs1
  obtain⟨rfl, x7, eG, jR⟩ := hq
  have gI := Lib.hid (And.intro (eG.R.trans gG.out.1) (eG.S.trans gG.out.2))
  have cz := Lib.hid (bO.out.trans eG)
  have vU := Lib.hid jR
  have qP := Lib.hid (eG.n _ _ _ mf.out)
  have iy := Lib.hid hnext
  clear HBAD bF eG jR hnext mf bO kg gG hs1
  have gq := Lib.hid (λy hM => uj (w0 := w0) (X := ErrX w0 x7 w7 res) (vok := True) (p := p) (fuel := fuel) (k := k) (xx := x7) (wA := w7) (s1 := s4) (m := 0) (r2 := res) y hM (λx' hr hst _ => by
    have := Ic w0 p fuel k y x' s4 ns 0 res hst iy.out
    rw[hr.S, gI.out.2]at this
    exact this))
  have gU := Lib.hid (λy hM => wu (w0 := w0) (p := p) (fuel := fuel) (k := k) (xx := x7) (wA := w7) (s1 := s4) (vok := True) (r2 := res) (res := res) (m := 0) (λe _ he => he) (.pointer (some ⟨x.R, 0, none⟩)) y hM)
  go_upto_region 17 with fail
  refine wy (ErrX w0 x7 w7 res) 88 [some 68, some 69, some 70, some 71, some 72, some 73, some 74, some 75, some 76] [[], [], [1], [2], [3], [], [5], [4, 6], [0, 7]] [some (.pointer (some ⟨x.R, 0, none⟩)), some (.pointer (some ⟨x.R, 0, none⟩)), some (.pointer (some ⟨x.R, 0, none⟩)), some (.pointer (some ⟨x.R, 6, none⟩)), some (.pointer (some ⟨x.S, 0, none⟩)), some (.pointer (some ⟨w.heap.size, 2, none⟩)), some (.string ns), some (.int .i64 (jf res)), some (.tuple #[])] [7, 8] (dK w0 p fuel k x7 w7 s4 True res 0) (dK.zero vU.out) ⟨?s0, ?s1, ?s2, ?s3, ?s4, ?s5, ?s6, ?s7, ?s8, trivial⟩ ?fin (λch w9 a9 kY kZ => And.intro kY (kZ.run cz.out))
  case s0 =>
    refine yc (λy => ?_)
    simp only[zS, cv, List.getD_cons_zero, List.getD_cons_succ, Option.getD_some]
    go_simp
    exact⟨rfl, rfl⟩
  case s1 =>
    refine yc (λy => ?_)
    simp only[zS, cv, List.getD_cons_zero, List.getD_cons_succ, Option.getD_some]
    go_simp
    exact⟨rfl, rfl⟩
  case s2 =>
    refine yc (λy => ?_)
    simp only[zS, cv, List.getD_cons_zero, List.getD_cons_succ, Option.getD_some]
    go_simp
    exact⟨rfl, rfl⟩
  case s3 =>
    refine yc (λy => ?_)
    simp only[zS, cv, List.getD_cons_zero, List.getD_cons_succ, Option.getD_some]
    go_simp
    exact⟨rfl, rfl⟩
  case s4 =>
    refine yl 0 (λt y ht hM => ?_)
    obtain⟨x9, bg, bG⟩ := hM.read ht
    have c6 := bG.cells.1.1
    rw[bg.R.trans gI.out.1, bg.S.trans gI.out.2]at c6
    have hrl := lt_of_block bG.run
    rw[bg.R.trans gI.out.1]at hrl
    clear hM bg bG
    simp only[zS, cv, List.getD_cons_zero, List.getD_cons_succ, Option.getD_some]
    go_simp
    exact⟨rfl, rfl⟩
  case s5 =>
    refine yc (λy => ?_)
    simp only[zS, cv, List.getD_cons_zero, List.getD_cons_succ, Option.getD_some]
    go_simp
    exact⟨rfl, rfl⟩
  case s6 =>
    refine yl 0 (λt y ht hM => ?_)
    obtain⟨x9, bg, bG⟩ := hM.read ht
    obtain⟨⟨n0, n1⟩, n2, n3⟩ := aJ (bg.n _ _ _ qP.out)
    have hbl := lt_of_block (bg.n _ _ _ qP.out)
    clear hM bg bG
    simp only[zS, cv, List.getD_cons_zero, List.getD_cons_succ, Option.getD_some]
    go_simp
    exact⟨rfl, rfl⟩
  case s7 =>
    refine yw 0 (λy hM => ?_)
    have HC := Lib.hid (gq.out y hM)
    clear hM
    unfold dQ
    simp only[zS, cv, List.getD_cons_zero, List.getD_cons_succ, Option.getD_some]
    go_simp
    exact gy.jq HC.out
  case s8 =>
    refine yw 1 (λy hM => ?_)
    have HC := Lib.hid (gU.out y hM)
    clear hM
    unfold dQ
    simp only[zS, cv, List.getD_cons_zero, List.getD_cons_succ, Option.getD_some]
    go_simp
    exact gy.jq HC.out
  case fin =>
  intro wf hM
  have HM := Lib.hid hM.fin
  clear hM
  simp only[zS, Nat.reduceAdd, cv, List.getD_cons_zero, List.getD_cons_succ, Option.getD_some]
  have HQ := Lib.hid (show bZ w0 p fuel k x w res (.returned (.tuple #[])) wf from by
    obtain⟨s9, FY, x9, bg, bG⟩ := HM.out.2
    rw[FY]
    exact⟨rfl, x9, cz.out.trans bg, bG⟩)
  go_wp2_with fail
  go_end0
  exact HQ.out
theorem Re {w0 : World} {p : az} {fuel k g : Nat} (hp : jc w0 p) (hpb : ∀ q ∈ p.procs, aS (λ_ => True) w0 q.body) (hpl : ∀ q ∈ p.procs, q.params.length <= k) (IH : ∀ g', g' < g -> rH w0 p fuel k g') : Ei w0 p fuel k g := by
  intro w x s res n b h hno hex
  obtain⟨nk, nn, ns, nv, nl⟩ := n
  have BL := hex
  rw[ae.t]at hex
  rcases QB hex with hk|hk|hk|hk|⟨hk, hkk, hmv⟩
  · exact Rb w x s res nk nn ns nv nl b hk h hno (λz hz => (Q7 IH z x s res nk nn ns nv nl b hk (h.later hz) hno BL))
  · exact RZ w x s res nk nn ns nv nl b hk h hno (λz hz => (Qx IH z x s res nk nn ns nv nl b hk (h.later hz) hno BL))
  · exact SK IH w x s res nk nn ns nv nl b hk h hno BL
  · have hc := λz (hz : Grow w z) => Ra hp hpb hpl IH z x s res nk nn ns nv nl b hk (h.later hz) hno BL
    rcases hk with hk|hk
    · exact Rc w x s res nk nn ns nv nl b hk h hno hc
    · exact PV w x s res nk nn ns nv nl b hk h hno hc
  · have hsh := nO hex
    obtain⟨t, ht⟩ := Tq hk hsh
    match nl, ht with
    | [.mk kk kn ks kv kl], ht =>
      have e0 : gY (.mk nk nn ns (ae.ts [.mk kk kn ks kv kl])) 0 = .mk kk kn ks (ae.ts kl) := by rw[ae.ts, ae.t]; rfl
      rw[e0]at hkk hmv
      exact R3 w x s res nk nn ns nv kk kn ks kv kl b hk h hno (by rw[ae.t]; exact hsh) hkk hmv
    | [], ht => simp[ae.ts]at ht
    |_ :: _ :: _, ht => simp[ae.ts]at ht
theorem SL {w0 : World} {p : az} {fuel k : Nat} (hp : jc w0 p) (hpb : ∀ q ∈ p.procs, aS (λ_ => True) w0 q.body) (hpl : ∀ q ∈ p.procs, q.params.length <= k) : ∀ g, Ei w0 p fuel k g /\ rH w0 p fuel k g := by
  intro g
  induction g using Nat.strongRecOn with
  |_ g ih => exact⟨Re hp hpb hpl λg' hg => (ih g' hg).2, Qw λg' hg => (ih g' hg).1⟩
end Go.Proofs.YtbpodipdfohikaaGreat
