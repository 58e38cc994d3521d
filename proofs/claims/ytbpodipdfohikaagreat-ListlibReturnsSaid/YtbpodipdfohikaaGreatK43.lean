import Derived.Test.YtbpodipdfohikaaGreatK42
set_option linter.unusedSimpArgs false
set_option linter.unusedVariables false
set_option maxRecDepth 100000
set_option maxHeartbeats 25600000
namespace Go.Proofs.YtbpodipdfohikaaGreat
open Go.RowKit Go.Instr
def xh (b : Bool) : Int := if b then 51 else 50
def xq (s : Bool) : ByteArray := if s then jA else mY
theorem OE (s b : Bool) (A G : List Int) (hA : A.length <= 300) (hG : G.length <= 300) : ∃ R1, oL (exec gz 100000 1022 (.stmts [fG (xh b) (xq s)]) false (s0 A G)) R1 /\
    ((∃ n, R1 = .error n) \/ ∃ x y, R1 = .ok (x, y) /\ (x.length <= 1000 /\ y.length <= 1000) /\ oL (exec gz 100000 1022 (.stmts [fG (xh (!b)) (xq s)]) false (s0 x y)) (.ok (A, G))) := by
  have hA1 : A.length <= 1000 := by omega
  have hG1 : G.length <= 1000 := by omega
  cases s <;> cases b
  ·
    refine⟨_, DI (A := A) (G := G) hA1, .inr ⟨A, G ++ A, ?_, ⟨hA1, by simp; omega⟩, ?_⟩⟩
    · rw[DF _ _ hA1 hG1, if_pos (by omega)]
    · have h := GQ (A := A) (G := G ++ A) hA1
      rcases GN A (G ++ A) hA1 with⟨e, -, hn⟩|⟨B, hB, hu⟩
      · exact absurd (List.suffix_append G A) hn
      · rw[hu]at h
        obtain rfl : G = B := List.append_cancel_right hB
        exact h
  ·
    refine⟨_, GQ (A := A) (G := G) hA1, ?_⟩
    rcases GN A G hA1 with⟨e, he, -⟩|⟨B, rfl, hu⟩
    · exact .inl ⟨e, he⟩
    · simp only[List.length_append]at hG hG1
      refine .inr ⟨A, B, hu, ⟨hA1, by omega⟩, ?_⟩
      have h := DI (A := A) (G := B) hA1
      rw[DF _ _ hA1 (by omega), if_pos (by omega)]at h
      exact h
  ·
    refine⟨_, AB (A := A) (G := G) hA1, .inr ⟨[], G ++ A.reverse ++ [(A.length : Int)], ?_, ⟨by simp, by simp; omega⟩, ?_⟩⟩
    · rw[Az, if_pos (by omega)]
    · have h := Da (A := []) (G := G ++ A.reverse ++ [(A.length : Int)]) (by simp; omega)
      have hu := C9 (A.length : Int) (A ++ G.reverse) (by simp; omega)
      rw[List.reverse_append, List.reverse_reverse]at hu
      rw[hu, if_pos (by simp; omega)]at h
      have e1 : (A ++ G.reverse).take (A.length : Int).toNat = A := by simp
      have e2 : ((A ++ G.reverse).drop (A.length : Int).toNat).reverse = G := by simp
      rw[e1, e2]at h
      exact h
  ·
    refine⟨_, Da (A := A) (G := G) hG1, ?_⟩
    by_cases h0 : A = []
    · subst h0
      rcases List.eq_nil_or_concat G with rfl|⟨R, N, rfl⟩
      · exact .inl ⟨13, rfl⟩
      · rw[List.concat_eq_append]at hG hG1 ⊢
        have hR : R.length <= 299 := by simp at hG; omega
        have hu := C9 N R.reverse (by simp; omega)
        rw[List.reverse_reverse, List.length_reverse]at hu
        by_cases h : 0 <= N /\ N <= R.length
        · rw[if_pos h]at hu
          refine .inr ⟨_, _, hu, ⟨by simp; omega, by simp; omega⟩, ?_⟩
          have hs := AB (A := R.reverse.take N.toNat) (G := (R.reverse.drop N.toNat).reverse) (by simp; omega)
          rw[Az, if_pos (by simp; omega)]at hs
          have e : (R.reverse.drop N.toNat).reverse ++ (R.reverse.take N.toNat).reverse ++ [((R.reverse.take N.toNat).length : Int)] = R ++ [N] := by
            rw[← List.reverse_append, List.take_append_drop, List.reverse_reverse]
            congr 2
            simp
            omega
          rw[e]at hs
          exact hs
        · rw[if_neg h]at hu
          exact .inl ⟨_, hu⟩
    · obtain⟨e, he⟩ := OD A G h0
      exact .inl ⟨e, he⟩
set_option maxRecDepth 100000 in
set_option maxHeartbeats 12800000 in
theorem Pq (va : Option Addr) (ca : Nat) (vb : Option Addr) (cb : Nat) (A G : List Int) (s b : Bool) (w : World) (ha : ay 1 aJ w (.slice va A.length ca) A) (hb : ay 1 aJ w (.slice vb G.length cb) G) :
    Calls Tryz.prog 5 #[.slice va A.length ca, .slice vb G.length cb, .bool s, .bool b] w (eG w true) := by
  have Xy := ha.yS
  have Xz := hb.yS
  by_cases hA : 300 < A.length
  · have d : decide ((300 : Int) < A.length) = true := by simp; omega
    clear ha hb
    go_enter Tryz.func5, Tryz.ntmps5
    go_wp2_with fail
    refine(nU w).mono ?_
    rintro e w1 ⟨rfl, hg⟩
    have HG := Lib.hid hg
    clear hg
    go_wp2_with fail
    go_ret
    exact⟨rfl, HG.out⟩
  by_cases hG : 300 < G.length
  · have d : decide ((300 : Int) < A.length) = false := by simp; omega
    have d2 : decide ((300 : Int) < G.length) = true := by simp; omega
    clear ha hb
    go_enter Tryz.func5, Tryz.ntmps5
    go_wp2_with fail
    refine(nU w).mono ?_
    rintro e w1 ⟨rfl, hg⟩
    have HG := Lib.hid hg
    clear hg
    go_wp2_with fail
    go_ret
    exact⟨rfl, HG.out⟩
  have hkn : ∀ b, xh b = 50 \/ xh b = 51 := by decide
  have hnn : xq s = mY \/ xq s = jA := by cases s; exact .inl rfl; exact .inr rfl
  obtain⟨R1, hE, hR⟩ := OE s b A G (by omega) (by omega)
  have HR1 := Lib.hid (λy (hy : Grow w y) => rq (xh b) (xq s) (.slice va A.length ca) (.slice vb G.length cb) A G R1 y (ha.later hy) (hb.later hy) (hkn b) hnn (by omega) (by omega) hE)
  have d : decide ((300 : Int) < A.length) = false := by simp; omega
  have d2 : decide ((300 : Int) < G.length) = false := by simp; omega
  rcases hR with⟨n, rfl⟩|⟨X, Y, rfl, ⟨hx, hy⟩, hE2⟩
  · clear ha hb hE hkn hnn hA hG
    have key : Calls Tryz.prog 5 #[.slice va A.length ca, .slice vb G.length cb, .bool s, .bool b] w (eG w true) := by
      cases s <;> cases b
      all_goals
        go_enter Tryz.func5, Tryz.ntmps5
        go_wp2_with fail
        refine(nU w).mono ?_
        rintro e w1 ⟨rfl, hg⟩
        have HG := Lib.hid hg
        clear hg
        go_wp2_with fail
        refine(HR1.out w1 HG.out).mono ?_
        rintro e w3 ⟨hn0, rfl, hg⟩
        have aA := Lib.hid (gtr HG.out hg)
        have hne : (n != 0) = true := by simpa using hn0
        clear hg hn0
        go_wp2_with fail
        go_ret
        exact⟨rfl, aA.out⟩
    exact key
  · have HR2 := Lib.hid (λy xa xc ya yc h1 h2 => rq (xh (!b)) (xq s) (.slice xa X.length xc) (.slice ya Y.length yc) X Y _ y h1 h2 (hkn _) hnn hx hy hE2)
    have HA := Lib.hid ha
    have HB := Lib.hid hb
    have CR := Lib.hid (show A.length <= 900000 /\ G.length <= 900000 from⟨by omega, by omega⟩)
    clear ha hb hE hE2 hkn hnn hA hG hx hy
    have key : Calls Tryz.prog 5 #[.slice va A.length ca, .slice vb G.length cb, .bool s, .bool b] w (eG w true) := by
      cases s <;> cases b
      all_goals
        go_enter Tryz.func5, Tryz.ntmps5
        go_wp2_with fail
        refine(nU w).mono ?_
        rintro e w1 ⟨rfl, hg⟩
        have HG := Lib.hid hg
        clear hg
        go_wp2_with fail
        refine(HR1.out w1 HG.out).mono ?_
        rintro e w3 ⟨xa, xc, ya, yc, rfl, h1, h2, hg⟩
        have aA := Lib.hid (gtr HG.out hg)
        have kT := Lib.hid (HR2.out w3 xa xc ya yc h1 h2)
        clear hg h1 h2 HR1 HR2
        go_wp2_with fail
        refine kT.out.mono ?_
        rintro e w4 ⟨ua, uc, Wq, Ws, rfl, h1, h2, hg⟩
        have bz := Lib.hid (gtr aA.out hg)
        have HI1 := Lib.hid (ru ua uc va ca A A w4 h1 (HA.out.later bz.out) CR.out.1 CR.out.1)
        rw[show(A == A) = true from by simp]at HI1
        have HI2 := Lib.hid (λy (hy : Grow w4 y) => ru Wq Ws vb cb G G y (h2.later hy) (HB.out.later (gtr bz.out hy)) CR.out.2 CR.out.2)
        rw[show(G == G) = true from by simp]at HI2
        clear hg h1 h2 kT
        go_wp2_with fail
        refine HI1.out.mono ?_
        rintro e w5 ⟨rfl, hg⟩
        have HI3 := Lib.hid (HI2.out w5 hg)
        have bI := Lib.hid (gtr bz.out hg)
        clear hg HI1 HI2
        go_wp2_with fail
        refine HI3.out.mono ?_
        rintro e w6 ⟨rfl, hg⟩
        have xE := Lib.hid (gtr bI.out hg)
        clear hg
        go_wp2_with fail
        go_ret
        exact⟨rfl, xE.out⟩
    exact key
theorem Oe (a0 : Option Addr) (eB cap0 : Nat) (z0 : List Int) (a1 : Option Addr) (iB gJ : Nat) (z1 : List Int) (a2 a3 : Bool) (w : World) (w0 : iT .i64 w a0 eB cap0 z0) (w1 : iT .i64 w a1 iB gJ z1) :
    Calls Tryz.prog 5 #[.slice a0 eB cap0, .slice a1 iB gJ, .bool a2, .bool a3] w λe w' => e = .returned (.bool true) /\ Below w.heap.size w w' := by
  obtain⟨A, rfl, hA, -⟩ := w0.row
  obtain⟨G, rfl, hG, -⟩ := w1.row
  exact(Pq a0 cap0 a1 gJ A G a2 a3 w hA hG).mono λe w' h => ⟨h.1, DJ h.2⟩
end Go.Proofs.YtbpodipdfohikaaGreat
