import Derived.Test.YtbpodipdfohikaaGreatL06
set_option linter.unusedSimpArgs false
set_option linter.unusedVariables false
set_option maxRecDepth 100000
set_option maxHeartbeats 25600000
namespace Go.Proofs.YtbpodipdfohikaaGreat
open Go.RowKit Go.Instr
theorem nT (l : List Tree) : bz [aN] l = (l.length == 1 && pU l) := by
  match l with
  | [] => rfl
  | [t] => simp[bz, pU]
  |_ :: _ :: _ => simp[bz]
theorem nU (l : List Tree) : bz [aN, aN] l = (l.length == 2 && pU l) := by
  match l with
  | [] => rfl
  | [t] => simp[bz]
  | [t, u] => simp[bz, pU]
  |_ :: _ :: _ :: _ => simp[bz]
theorem nV (l : List Tree) : bz [aN, ed, ed, aN] l = (bz [aN, λ_ => true, λ_ => true, aN] l && ((lN l)[1]?.getD false && (lN l)[2]?.getD false)) := by
  match l with
  | [] => rfl
  | [_] => simp[bz]
  | [_, _] => simp[bz]
  | [_, _, _] => simp[bz]
  | [a, b, c, d] =>
    simp only[bz, DN, List.map_cons, List.map_nil, List.getElem?_cons_succ, List.getElem?_cons_zero, Option.getD_some, Bool.and_true, Bool.true_and]
    cases aN a <;> cases ed b <;> cases ed c <;> cases aN d <;> rfl
  |_ :: _ :: _ :: _ :: _ :: _ => simp[bz]
theorem nP (l : List Tree) : bz [aN, ed, aN] l = (bz [aN, λ_ => true, aN] l && (lN l)[1]?.getD false) := by
  match l with
  | [] => rfl
  | [_] => simp[bz]
  | [_, _] => simp[bz]
  | [a, b, c] =>
    simp only[bz, DN, List.map_cons, List.map_nil, List.getElem?_cons_succ, List.getElem?_cons_zero, Option.getD_some, Bool.and_true, Bool.true_and]
    cases aN a <;> cases ed b <;> cases aN c <;> rfl
  |_ :: _ :: _ :: _ :: _ => simp[bz]
theorem nW (l : List Tree) : bz [ed] l = (l.length == 1 && (lN l)[0]?.getD false) := by
  match l with
  | [] => rfl
  | [t] => simp[bz, DN]
  |_ :: _ :: _ => simp[bz]
set_option maxRecDepth 100000 in
set_option maxHeartbeats 3200000 in
theorem Qc : ∀ (m : Nat) (x : ae), SizeOf.sizeOf x <= m -> ∀ w : World, bJ w x -> Calls Tryz.prog 95 #[x.val] w (fq w (aN x.t)) := by
  intro m
  induction m with
  |zero => intro x hm; cases x; simp at hm
  |succ m ih =>
    intro x hm w hx
    obtain⟨k, n, s, kv, l⟩ := x
    obtain⟨a, cap, rfl, hcap, hlen⟩ := hx.form
    obtain⟨hk1, hk2⟩ := hx.row.1
    have hs := hx.row.2.2.1
    have HX := Lib.hid hx
    have gD := Lib.hid (λ(y : ae) (hy : y ∈ l) (w' : World) (hg : Grow w w') => ih y (by have := qX (k := k) (n := n) (s := s) (kv := .slice a l.length cap) hy; omega) w' ((hx.row.2.2.2.2 y hy).later hg))
    clear ih hm hx
    simp only[ae.val, ae.t]
    by_cases h1 : k = 1
    · subst h1
      have HG := Lib.hid (show Grow w (w.alloc (.cells #[.int .u8 1, .int .i64 n, .string s, .slice a l.length cap] 40))from(Mv.refl _ _).alloc _)
      by_cases hn0 : 0 <= n
      · by_cases hs0 : s.size = 0
        · have hemp := Gr hs0
          cases l with
          |nil =>
            have HR := Lib.hid (show aN (.mk 1 n s (ae.ts [])) = true from by simp[aN, hn0, hs0, ae.ts])
            simp only[List.length_nil]at HG ⊢
            clear hs0
            go_enter Tryz.func95, Tryz.ntmps95
            go_wp2_with fail
            go_ret
            exact⟨aU HR.out.symm, HG.out⟩
          |cons x r =>
            have HR := Lib.hid (show aN (.mk 1 n s (ae.ts (x :: r))) = false from by simp[aN, ae.ts])
            have hl1 : ((r.length + 1 : Nat) == 0) = false := by simp
            simp only[List.length_cons]at HG ⊢
            clear hs0
            go_enter Tryz.func95, Tryz.ntmps95
            go_wp2_with fail
            go_ret
            exact⟨aU HR.out.symm, HG.out⟩
        · have hne := ym (s := s) (by omega)
          have HR := Lib.hid (show aN (.mk 1 n s (ae.ts l)) = false from by simp[aN, hs0])
          clear hs0
          go_enter Tryz.func95, Tryz.ntmps95
          go_wp2_with fail
          go_ret
          exact⟨aU HR.out.symm, HG.out⟩
      · have HR := Lib.hid (show aN (.mk 1 n s (ae.ts l)) = false from by simp[aN, hn0])
        go_enter Tryz.func95, Tryz.ntmps95
        go_wp2_with fail
        go_ret
        exact⟨aU HR.out.symm, HG.out⟩

    by_cases hG : k = 2 \/ k = 4 \/ k = 5
    · have HG := Lib.hid (show Grow w (w.alloc (.cells #[.int .u8 k, .int .i64 n, .string s, .slice a l.length cap] 40))from(Mv.refl _ _).alloc _)
      have HB := Lib.hid (heap_alloc_new w (.cells #[.int .u8 k, .int .i64 n, .string s, .slice a l.length cap] 40))
      have dX := Lib.hid (tQ k n s a l cap (w.alloc (.cells #[.int .u8 k, .int .i64 n, .string s, .slice a l.length cap] 40)) hs)
      have dw := Lib.hid (show dP n s = false -> aN (.mk k n s (ae.ts l)) = false from λh => by rcases hG with rfl|rfl|rfl <;> simp[aN, h])
      have eD := Lib.hid (show dP n s = true -> aN (.mk k n s (ae.ts l)) = l.isEmpty from λh => by rcases hG with rfl|rfl|rfl <;> simp[aN, h, ae.oF])
      rcases hG with rfl|rfl|rfl
      all_goals
        go_enter Tryz.func95, Tryz.ntmps95
        go_wp2_with fail
        refine dX.out.mono ?_
        rintro e w2 ⟨rfl, hg2⟩
        have HG2 := Lib.hid (Mv.trans HG.out hg2 (λ_ e => e.elim))
        have hb2 := ai HB.out hg2
        obtain⟨m0, m1, m2, m3⟩ := fA hb2
        have hlb := lt_of_block hb2
        clear hg2 hb2
        generalize dP n s = pb at *
        cases pb with
        |false =>
          have HR := Lib.hid (dw.out rfl)
          go_wp2_with fail
          go_ret
          exact⟨aU HR.out.symm, HG2.out⟩
        |true =>
          have HR := Lib.hid (eD.out rfl)
          cases l with
          |nil =>
            simp only[List.length_nil]at m3 ⊢
            go_wp2_with fail
            go_ret
            exact⟨aU HR.out.symm, HG2.out⟩
          |cons x r =>
            have hl1 : ((r.length + 1 : Nat) == 0) = false := by simp
            simp only[List.length_cons]at m3 ⊢
            go_wp2_with fail
            go_ret
            exact⟨aU HR.out.symm, HG2.out⟩
    have h2 : k ≠ 2 := by omega
    have h4 : k ≠ 4 := by omega
    have h5 : k ≠ 5 := by omega
    clear hG
    by_cases h3 : k = 3
    · subst h3
      have HG := Lib.hid (show Grow w (w.alloc (.cells #[.int .u8 3, .int .i64 n, .string s, .slice a l.length cap] 40))from(Mv.refl _ _).alloc _)
      have HB := Lib.hid (heap_alloc_new w (.cells #[.int .u8 3, .int .i64 n, .string s, .slice a l.length cap] 40))
      have dX := Lib.hid (tQ 3 n s a l cap (w.alloc (.cells #[.int .u8 3, .int .i64 n, .string s, .slice a l.length cap] 40)) hs)
      have dw := Lib.hid (show dP n s = false -> aN (.mk 3 n s (ae.ts l)) = false from λh => by simp[aN, h])
      have eD := Lib.hid (show dP n s = true -> aN (.mk 3 n s (ae.ts l)) = bz [aN] (ae.ts l)from λh => by simp[aN, h, nT, nU, nV, nP, nW])
      go_enter Tryz.func95, Tryz.ntmps95
      go_wp2_with fail
      refine dX.out.mono ?_
      rintro e w2 ⟨rfl, hg2⟩
      have HG2 := Lib.hid (Mv.trans HG.out hg2 (λ_ e => e.elim))
      have hb2 := ai HB.out hg2
      obtain⟨m0, m1, m2, m3⟩ := fA hb2
      have hlb := lt_of_block hb2
      clear hg2 hb2
      generalize dP n s = pb at *
      cases pb with
      |false =>
        have HR := Lib.hid (dw.out rfl)
        go_wp2_with fail
        go_ret
        exact⟨aU HR.out.symm, HG2.out⟩
      |true =>
        have HR := Lib.hid (eD.out rfl)
        have bE := Lib.hid (HG2.out.alloc (.cells #[.func (.func 95) #[] #[]] 65))
        have HK := Lib.hid (nR 3 n s (.slice a l.length cap) l [95] [aN] (.slice (some ⟨w2.heap.size, 0, none⟩) 1 1) (w2.alloc (.cells #[.func (.func 95) #[] #[]] 65)) (HX.out.later bE.out) (ay.dG (l := [95]) (λ_ => rfl) (heap_alloc_new w2 _) rfl (by simp)) rfl (by decide) (λi hi hk hp w' hg => by
          have hgw := Mv.trans bE.out hg (λ_ e => e.elim)
          have hm := List.getElem_mem hk
          simp only[List.length_cons, List.length_nil]at hi
          skip
          obtain rfl : i = 0 := by omega
          exact gD.out _ hm w' hgw))
        simp only[ae.val]at HK
        go_wp2_with fail
        refine HK.out.mono ?_
        rintro e w3 ⟨rfl, hg3⟩
        have aA := Lib.hid (Mv.trans bE.out hg3 (λ_ e => e.elim))
        clear hg3
        go_wp2_with fail
        go_ret
        exact⟨aU HR.out.symm, aA.out⟩

    by_cases hG : k = 6 \/ k = 7
    · have HG := Lib.hid (show Grow w (w.alloc (.cells #[.int .u8 k, .int .i64 n, .string s, .slice a l.length cap] 40))from(Mv.refl _ _).alloc _)
      have HB := Lib.hid (heap_alloc_new w (.cells #[.int .u8 k, .int .i64 n, .string s, .slice a l.length cap] 40))
      have dX := Lib.hid (tO k n s a l cap (w.alloc (.cells #[.int .u8 k, .int .i64 n, .string s, .slice a l.length cap] 40)))
      have dw := Lib.hid (show dA n s = false -> aN (.mk k n s (ae.ts l)) = false from λh => by rcases hG with rfl|rfl <;> simp[aN, h])
      have eD := Lib.hid (show dA n s = true -> aN (.mk k n s (ae.ts l)) = bz [aN] (ae.ts l)from λh => by rcases hG with rfl|rfl <;> simp[aN, h, nT, nU, nV, nP, nW])
      rcases hG with rfl|rfl
      all_goals
        go_enter Tryz.func95, Tryz.ntmps95
        go_wp2_with fail
        refine dX.out.mono ?_
        rintro e w2 ⟨rfl, hg2⟩
        have HG2 := Lib.hid (Mv.trans HG.out hg2 (λ_ e => e.elim))
        have hb2 := ai HB.out hg2
        obtain⟨m0, m1, m2, m3⟩ := fA hb2
        have hlb := lt_of_block hb2
        clear hg2 hb2
        generalize dA n s = pb at *
        cases pb with
        |false =>
          have HR := Lib.hid (dw.out rfl)
          go_wp2_with fail
          go_ret
          exact⟨aU HR.out.symm, HG2.out⟩
        |true =>
          have HR := Lib.hid (eD.out rfl)
          have bE := Lib.hid (HG2.out.alloc (.cells #[.func (.func 95) #[] #[]] 65))
          have HK := Lib.hid (nR _ n s (.slice a l.length cap) l [95] [aN] (.slice (some ⟨w2.heap.size, 0, none⟩) 1 1) (w2.alloc (.cells #[.func (.func 95) #[] #[]] 65)) (HX.out.later bE.out) (ay.dG (l := [95]) (λ_ => rfl) (heap_alloc_new w2 _) rfl (by simp)) rfl (by decide) (λi hi hk hp w' hg => by
            have hgw := Mv.trans bE.out hg (λ_ e => e.elim)
            have hm := List.getElem_mem hk
            simp only[List.length_cons, List.length_nil]at hi
            skip
            obtain rfl : i = 0 := by omega
            exact gD.out _ hm w' hgw))
          simp only[ae.val]at HK
          go_wp2_with fail
          refine HK.out.mono ?_
          rintro e w3 ⟨rfl, hg3⟩
          have aA := Lib.hid (Mv.trans bE.out hg3 (λ_ e => e.elim))
          clear hg3
          go_wp2_with fail
          go_ret
          exact⟨aU HR.out.symm, aA.out⟩
    have h6 : k ≠ 6 := by omega
    have h7 : k ≠ 7 := by omega
    clear hG
    by_cases hrange : 8 <= k /\ k <= 23
    · obtain⟨h8, h23⟩ := hrange
      have hr1 : (k == 1) = false := by simp; omega
      have hr2 : (k == 2) = false := by simp; omega
      have hr4 : (k == 4) = false := by simp; omega
      have eP : (k == 5) = false := by simp; omega
      have hr3 : (k == 3) = false := by simp; omega
      have dY : (k == 6) = false := by simp; omega
      have eG : (k == 7) = false := by simp; omega
      have HG := Lib.hid (show Grow w (w.alloc (.cells #[.int .u8 k, .int .i64 n, .string s, .slice a l.length cap] 40))from(Mv.refl _ _).alloc _)
      have HB := Lib.hid (heap_alloc_new w (.cells #[.int .u8 k, .int .i64 n, .string s, .slice a l.length cap] 40))
      have dX := Lib.hid (tO k n s a l cap (w.alloc (.cells #[.int .u8 k, .int .i64 n, .string s, .slice a l.length cap] 40)))
      have dw := Lib.hid (show dA n s = false -> aN (.mk k n s (ae.ts l)) = false from λh => by simp[aN, h, show ¬ k = 1 from by omega, show ¬ k = 2 from by omega, show ¬ k = 4 from by omega, show ¬ k = 5 from by omega, show ¬ k = 3 from by omega, show ¬ k = 6 from by omega, show ¬ k = 7 from by omega, h8, h23])
      have eD := Lib.hid (show dA n s = true -> aN (.mk k n s (ae.ts l)) = bz [aN, aN] (ae.ts l)from λh => by simp[aN, h, nT, nU, nV, nP, nW, show ¬ k = 1 from by omega, show ¬ k = 2 from by omega, show ¬ k = 4 from by omega, show ¬ k = 5 from by omega, show ¬ k = 3 from by omega, show ¬ k = 6 from by omega, show ¬ k = 7 from by omega, h8, h23])
      go_enter Tryz.func95, Tryz.ntmps95
      go_wp2_with fail
      refine dX.out.mono ?_
      rintro e w2 ⟨rfl, hg2⟩
      have HG2 := Lib.hid (Mv.trans HG.out hg2 (λ_ e => e.elim))
      have hb2 := ai HB.out hg2
      obtain⟨m0, m1, m2, m3⟩ := fA hb2
      have hlb := lt_of_block hb2
      clear hg2 hb2
      generalize dA n s = pb at *
      cases pb with
      |false =>
        have HR := Lib.hid (dw.out rfl)
        go_wp2_with fail
        go_ret
        exact⟨aU HR.out.symm, HG2.out⟩
      |true =>
        have HR := Lib.hid (eD.out rfl)
        have bE := Lib.hid (HG2.out.alloc (.cells #[.func (.func 95) #[] #[], .func (.func 95) #[] #[]] 65))
        have HK := Lib.hid (nR k n s (.slice a l.length cap) l [95, 95] [aN, aN] (.slice (some ⟨w2.heap.size, 0, none⟩) 2 2) (w2.alloc (.cells #[.func (.func 95) #[] #[], .func (.func 95) #[] #[]] 65)) (HX.out.later bE.out) (ay.dG (l := [95, 95]) (λ_ => rfl) (heap_alloc_new w2 _) rfl (by simp)) rfl (by decide) (λi hi hk hp w' hg => by
          have hgw := Mv.trans bE.out hg (λ_ e => e.elim)
          have hm := List.getElem_mem hk
          simp only[List.length_cons, List.length_nil]at hi
          rcases Nat.lt_or_ge i 1 with h0|h0
          · obtain rfl : i = 0 := by omega
            exact gD.out _ hm w' hgw
          skip
          obtain rfl : i = 1 := by omega
          exact gD.out _ hm w' hgw))
        simp only[ae.val]at HK
        go_wp2_with fail
        refine HK.out.mono ?_
        rintro e w3 ⟨rfl, hg3⟩
        have aA := Lib.hid (Mv.trans bE.out hg3 (λ_ e => e.elim))
        clear hg3
        go_wp2_with fail
        go_ret
        exact⟨aU HR.out.symm, aA.out⟩

    · 
      have hr1 : (k == 1) = false := by simp; omega
      have hr2 : (k == 2) = false := by simp; omega
      have hr4 : (k == 4) = false := by simp; omega
      have eP : (k == 5) = false := by simp; omega
      have hr3 : (k == 3) = false := by simp; omega
      have dY : (k == 6) = false := by simp; omega
      have eG : (k == 7) = false := by simp; omega
      have HG := Lib.hid (show Grow w (w.alloc (.cells #[.int .u8 k, .int .i64 n, .string s, .slice a l.length cap] 40))from(Mv.refl _ _).alloc _)
      have HR := Lib.hid (show aN (.mk k n s (ae.ts l)) = false from by simp[aN, show ¬ k = 1 from by omega, show ¬ k = 2 from by omega, show ¬ k = 4 from by omega, show ¬ k = 5 from by omega, show ¬ k = 3 from by omega, show ¬ k = 6 from by omega, show ¬ k = 7 from by omega, hrange])
      rcases Nat.lt_or_ge k.toNat 8 with hq|hq
      · have hq1 : k < 8 := by omega
        go_enter Tryz.func95, Tryz.ntmps95
        go_wp2_with fail
        go_ret
        exact⟨aU HR.out.symm, HG.out⟩
      · have hq1 : 8 <= k := by omega
        have hq2 : 23 < k := by omega
        go_enter Tryz.func95, Tryz.ntmps95
        go_wp2_with fail
        go_ret
        exact⟨aU HR.out.symm, HG.out⟩
theorem qY (x : ae) (w : World) (h : bJ w x) : Calls Tryz.prog 95 #[x.val] w (fq w (aN x.t)) := Qc _ x (Nat.le_refl _) w h
set_option maxRecDepth 100000 in
set_option maxHeartbeats 1600000 in
theorem wm (x : ae) (w : World) (hx : bJ w x) : Calls Tryz.prog 94 #[x.val] w (fq w (fo x.t)) := by
  obtain⟨k, n, s, kv, l⟩ := x
  obtain⟨a, cap, rfl, hcap, hlen⟩ := hx.form
  obtain⟨hk1, hk2⟩ := hx.row.1
  have HG := Lib.hid (show Grow w (w.alloc (.cells #[.int .u8 k, .int .i64 n, .string s, .slice a l.length cap] 40))from(Mv.refl _ _).alloc _)
  have HE := Lib.hid (qY (.mk k n s (.slice a l.length cap) l) (w.alloc (.cells #[.int .u8 k, .int .i64 n, .string s, .slice a l.length cap] 40)) (hx.later HG.out))
  simp only[ae.val, ae.t]at HE ⊢
  clear hx
  by_cases hk : k = 2 \/ k = 3
  · have HR := Lib.hid (show fo (.mk k n s (ae.ts l)) = aN (.mk k n s (ae.ts l))from by rcases hk with rfl|rfl <;> simp[fo, Tree.kind])
    generalize aN (.mk k n s (ae.ts l)) = bv at *
    rcases hk with rfl|rfl
    all_goals
      go_enter Tryz.func94, Tryz.ntmps94
      go_wp2_with fail
      refine HE.out.mono ?_
      rintro e w2 ⟨rfl, hg2⟩
      have HG2 := Lib.hid (Mv.trans HG.out hg2 (λ_ e => e.elim))
      clear hg2
      go_wp2_with fail
      go_ret
      exact⟨aU HR.out.symm, HG2.out⟩
  · have hr2 : (k == 2) = false := (by simp <;> omega); have hr3 : (k == 3) = false := (by simp <;> omega)
    have HR := Lib.hid (show fo (.mk k n s (ae.ts l)) = false from by simp[fo, Tree.kind, show ¬ k = 2 from by omega, show ¬ k = 3 from by omega])
    go_enter Tryz.func94, Tryz.ntmps94
    go_wp2_with fail
    go_ret
    exact⟨aU HR.out.symm, HG.out⟩
set_option maxRecDepth 100000 in
set_option maxHeartbeats 1600000 in
theorem Hm (x : ae) (w : World) (hx : bJ w x) : Calls Tryz.prog 97 #[x.val] w (fq w (lC x.t)) := by
  obtain⟨k, n, s, kv, l⟩ := x
  obtain⟨a, cap, rfl, hcap, hlen⟩ := hx.form
  obtain⟨hk1, hk2⟩ := hx.row.1
  have HG := Lib.hid (show Grow w (w.alloc (.cells #[.int .u8 k, .int .i64 n, .string s, .slice a l.length cap] 40))from(Mv.refl _ _).alloc _)
  have HE := Lib.hid (qY (.mk k n s (.slice a l.length cap) l) (w.alloc (.cells #[.int .u8 k, .int .i64 n, .string s, .slice a l.length cap] 40)) (hx.later HG.out))
  simp only[ae.val, ae.t]at HE ⊢
  clear hx
  by_cases hk : k = 2
  · have HR := Lib.hid (show lC (.mk k n s (ae.ts l)) = aN (.mk k n s (ae.ts l))from by rcases hk with rfl <;> simp[lC, Tree.kind])
    generalize aN (.mk k n s (ae.ts l)) = bv at *
    rcases hk with rfl
    all_goals
      go_enter Tryz.func97, Tryz.ntmps97
      go_wp2_with fail
      refine HE.out.mono ?_
      rintro e w2 ⟨rfl, hg2⟩
      have HG2 := Lib.hid (Mv.trans HG.out hg2 (λ_ e => e.elim))
      clear hg2
      go_wp2_with fail
      go_ret
      exact⟨aU HR.out.symm, HG2.out⟩
  · have hr2 : (k == 2) = false := (by simp <;> omega)
    have HR := Lib.hid (show lC (.mk k n s (ae.ts l)) = false from by simp[lC, Tree.kind, show ¬ k = 2 from by omega])
    go_enter Tryz.func97, Tryz.ntmps97
    go_wp2_with fail
    go_ret
    exact⟨aU HR.out.symm, HG.out⟩
def Dy (m : Nat) : Prop := ∀ (x : ae), SizeOf.sizeOf x <= m -> ∀ w : World, bJ w x -> Calls Tryz.prog 72 #[x.val] w (fq w (aX x.t))
def Dq (m : Nat) : Prop := ∀ (x : ae), SizeOf.sizeOf x <= m -> ∀ w : World, bJ w x -> Calls Tryz.prog 49 #[x.val] w (fq w (ed x.t))
set_option maxRecDepth 100000 in
set_option maxHeartbeats 1600000 in
theorem Pn (m : Nat) (ih : Dy m) : Dq (m + 1) := by
  intro x hm w hx
  obtain⟨k, n, s, kv, l⟩ := x
  obtain⟨a, cap, rfl, hcap, hlen⟩ := hx.form
  obtain⟨hk1, hk2⟩ := hx.row.1
  have HIS := Lib.hid (λ(y : ae) (hy : y ∈ l) (w' : World) (hg : Grow w w') => ih y (by have := qX (k := k) (n := n) (s := s) (kv := .slice a l.length cap) hy; omega) w' ((hx.row.2.2.2.2 y hy).later hg))
  have HX := Lib.hid hx
  clear ih hm hx
  simp only[ae.val, ae.t]
  by_cases h57 : k = 57
  · subst h57
    have HG := Lib.hid (show Grow w (w.alloc (.cells #[.int .u8 57, .int .i64 n, .string s, .slice a l.length cap] 40))from(Mv.refl _ _).alloc _)
    have HB := Lib.hid (heap_alloc_new w (.cells #[.int .u8 57, .int .i64 n, .string s, .slice a l.length cap] 40))
    have dX := Lib.hid (tO 57 n s a l cap (w.alloc (.cells #[.int .u8 57, .int .i64 n, .string s, .slice a l.length cap] 40)))
    have dw := Lib.hid (show dA n s = false -> ed (.mk 57 n s (ae.ts l)) = false from λh => by simp[ed, h])
    have eD := Lib.hid (show dA n s = true -> ed (.mk 57 n s (ae.ts l)) = (ae.ts l).all aX from λh => by simp[ed, h, Qb])
    go_enter Tryz.func49, Tryz.ntmps49
    go_wp2_with fail
    refine dX.out.mono ?_
    rintro e w2 ⟨rfl, hg2⟩
    have HG2 := Lib.hid (Mv.trans HG.out hg2 (λ_ e => e.elim))
    have hb2 := ai HB.out hg2
    obtain⟨m0, m1, m2, m3⟩ := fA hb2
    have hlb := lt_of_block hb2
    clear hg2 hb2
    generalize dA n s = pb at *

    cases pb with
    |false =>
      have HR := Lib.hid (dw.out rfl)
      go_wp2_with fail
      go_ret
      exact⟨aU HR.out.symm, HG2.out⟩
    |true =>
      have HR := Lib.hid (eD.out rfl)
      have HE := Lib.hid (Dp (.slice a l.length cap) l 72 aX w2 (HX.out.row.2.2.2.1.later HG2.out) (λx hx => (HX.out.row.2.2.2.2 x hx).later HG2.out) (.inl rfl) (λx hx w' hg => HIS.out x hx w' (Mv.trans HG2.out hg (λ_ e => e.elim))))
      go_wp2_with fail
      refine HE.out.mono ?_
      rintro e w3 ⟨rfl, hg3⟩
      have aA := Lib.hid (Mv.trans HG2.out hg3 (λ_ e => e.elim))
      clear hg3
      go_wp2_with fail
      go_ret
      exact⟨aU HR.out.symm, aA.out⟩
  · have XC : (k == 57) = false := by simpa using h57
    have HG := Lib.hid (show Grow w (w.alloc (.cells #[.int .u8 k, .int .i64 n, .string s, .slice a l.length cap] 40))from(Mv.refl _ _).alloc _)
    have HR := Lib.hid (show ed (.mk k n s (ae.ts l)) = false from by simp[ed, h57])
    go_enter Tryz.func49, Tryz.ntmps49
    go_wp2_with fail
    go_ret
    exact⟨aU HR.out.symm, HG.out⟩
set_option maxRecDepth 100000 in
set_option maxHeartbeats 6400000 in
theorem PK (m : Nat) (ih : Dq m) : Dy (m + 1) := by
    intro x hm w hx
    obtain⟨k, n, s, kv, l⟩ := x
    obtain⟨a, cap, rfl, hcap, hlen⟩ := hx.form
    obtain⟨hk1, hk2⟩ := hx.row.1
    have hs := hx.row.2.2.1
    have HX := Lib.hid hx
    have uQ := Lib.hid (λ(y : ae) (hy : y ∈ l) (w' : World) (hg : Grow w w') => ih y (by have := qX (k := k) (n := n) (s := s) (kv := .slice a l.length cap) hy; omega) w' ((hx.row.2.2.2.2 y hy).later hg))
    clear ih hm hx
    simp only[ae.val, ae.t]
    by_cases hG : k = 40 \/ k = 41 \/ k = 42 \/ k = 56
    · have HG := Lib.hid (show Grow w (w.alloc (.cells #[.int .u8 k, .int .i64 n, .string s, .slice a l.length cap] 40))from(Mv.refl _ _).alloc _)
      have HB := Lib.hid (heap_alloc_new w (.cells #[.int .u8 k, .int .i64 n, .string s, .slice a l.length cap] 40))
      have dX := Lib.hid (tO k n s a l cap (w.alloc (.cells #[.int .u8 k, .int .i64 n, .string s, .slice a l.length cap] 40)))
      have dw := Lib.hid (show dA n s = false -> aX (.mk k n s (ae.ts l)) = false from λh => by rcases hG with rfl|rfl|rfl|rfl <;> simp[aX, h])
      have eD := Lib.hid (show dA n s = true -> aX (.mk k n s (ae.ts l)) = bz [fo, aN] (ae.ts l)from λh => by rcases hG with rfl|rfl|rfl|rfl <;> simp[aX, h, nT, nU, nV, nP, nW])
      rcases hG with rfl|rfl|rfl|rfl
      all_goals
        go_enter Tryz.func72, Tryz.ntmps72
        go_wp2_with fail
        refine dX.out.mono ?_
        rintro e w2 ⟨rfl, hg2⟩
        have HG2 := Lib.hid (Mv.trans HG.out hg2 (λ_ e => e.elim))
        have hb2 := ai HB.out hg2
        obtain⟨m0, m1, m2, m3⟩ := fA hb2
        have hlb := lt_of_block hb2
        clear hg2 hb2
        generalize dA n s = pb at *
        cases pb with
        |false =>
          have HR := Lib.hid (dw.out rfl)
          go_wp2_with fail
          go_ret
          exact⟨aU HR.out.symm, HG2.out⟩
        |true =>
          have HR := Lib.hid (eD.out rfl)
          have bE := Lib.hid (HG2.out.alloc (.cells #[.func (.func 94) #[] #[], .func (.func 95) #[] #[]] 65))
          have HK := Lib.hid (nR _ n s (.slice a l.length cap) l [94, 95] [fo, aN] (.slice (some ⟨w2.heap.size, 0, none⟩) 2 2) (w2.alloc (.cells #[.func (.func 94) #[] #[], .func (.func 95) #[] #[]] 65)) (HX.out.later bE.out) (ay.dG (l := [94, 95]) (λ_ => rfl) (heap_alloc_new w2 _) rfl (by simp)) rfl (by decide) (λi hi hk hp w' hg => by
            have hgw := Mv.trans bE.out hg (λ_ e => e.elim)
            have hm := List.getElem_mem hk
            simp only[List.length_cons, List.length_nil]at hi
            rcases Nat.lt_or_ge i 1 with h0|h0
            · obtain rfl : i = 0 := by omega
              exact wm _ w' ((HX.out.row.2.2.2.2 _ hm).later hgw)
            skip
            obtain rfl : i = 1 := by omega
            exact qY _ w' ((HX.out.row.2.2.2.2 _ hm).later hgw)))
          simp only[ae.val]at HK
          go_wp2_with fail
          refine HK.out.mono ?_
          rintro e w3 ⟨rfl, hg3⟩
          have aA := Lib.hid (Mv.trans bE.out hg3 (λ_ e => e.elim))
          clear hg3
          go_wp2_with fail
          go_ret
          exact⟨aU HR.out.symm, aA.out⟩
    have Mc : k ≠ 40 := by omega
    have Md : k ≠ 41 := by omega
    have Me : k ≠ 42 := by omega
    have Mf : k ≠ 56 := by omega
    clear hG
    by_cases h43 : k = 43
    · subst h43
      have HG := Lib.hid (show Grow w (w.alloc (.cells #[.int .u8 43, .int .i64 n, .string s, .slice a l.length cap] 40))from(Mv.refl _ _).alloc _)
      have HB := Lib.hid (heap_alloc_new w (.cells #[.int .u8 43, .int .i64 n, .string s, .slice a l.length cap] 40))
      have dX := Lib.hid (tO 43 n s a l cap (w.alloc (.cells #[.int .u8 43, .int .i64 n, .string s, .slice a l.length cap] 40)))
      have dw := Lib.hid (show dA n s = false -> aX (.mk 43 n s (ae.ts l)) = false from λh => by simp[aX, h])
      have eD := Lib.hid (show dA n s = true -> aX (.mk 43 n s (ae.ts l)) = bz [fo, fo] (ae.ts l)from λh => by simp[aX, h, nT, nU, nV, nP, nW])
      go_enter Tryz.func72, Tryz.ntmps72
      go_wp2_with fail
      refine dX.out.mono ?_
      rintro e w2 ⟨rfl, hg2⟩
      have HG2 := Lib.hid (Mv.trans HG.out hg2 (λ_ e => e.elim))
      have hb2 := ai HB.out hg2
      obtain⟨m0, m1, m2, m3⟩ := fA hb2
      have hlb := lt_of_block hb2
      clear hg2 hb2
      generalize dA n s = pb at *
      cases pb with
      |false =>
        have HR := Lib.hid (dw.out rfl)
        go_wp2_with fail
        go_ret
        exact⟨aU HR.out.symm, HG2.out⟩
      |true =>
        have HR := Lib.hid (eD.out rfl)
        have bE := Lib.hid (HG2.out.alloc (.cells #[.func (.func 94) #[] #[], .func (.func 94) #[] #[]] 65))
        have HK := Lib.hid (nR 43 n s (.slice a l.length cap) l [94, 94] [fo, fo] (.slice (some ⟨w2.heap.size, 0, none⟩) 2 2) (w2.alloc (.cells #[.func (.func 94) #[] #[], .func (.func 94) #[] #[]] 65)) (HX.out.later bE.out) (ay.dG (l := [94, 94]) (λ_ => rfl) (heap_alloc_new w2 _) rfl (by simp)) rfl (by decide) (λi hi hk hp w' hg => by
          have hgw := Mv.trans bE.out hg (λ_ e => e.elim)
          have hm := List.getElem_mem hk
          simp only[List.length_cons, List.length_nil]at hi
          rcases Nat.lt_or_ge i 1 with h0|h0
          · obtain rfl : i = 0 := by omega
            exact wm _ w' ((HX.out.row.2.2.2.2 _ hm).later hgw)
          skip
          obtain rfl : i = 1 := by omega
          exact wm _ w' ((HX.out.row.2.2.2.2 _ hm).later hgw)))
        simp only[ae.val]at HK
        go_wp2_with fail
        refine HK.out.mono ?_
        rintro e w3 ⟨rfl, hg3⟩
        have aA := Lib.hid (Mv.trans bE.out hg3 (λ_ e => e.elim))
        clear hg3
        go_wp2_with fail
        go_ret
        exact⟨aU HR.out.symm, aA.out⟩

    by_cases hG : k = 44 \/ k = 45
    · have HG := Lib.hid (show Grow w (w.alloc (.cells #[.int .u8 k, .int .i64 n, .string s, .slice a l.length cap] 40))from(Mv.refl _ _).alloc _)
      have HB := Lib.hid (heap_alloc_new w (.cells #[.int .u8 k, .int .i64 n, .string s, .slice a l.length cap] 40))
      have dX := Lib.hid (tQ k n s a l cap (w.alloc (.cells #[.int .u8 k, .int .i64 n, .string s, .slice a l.length cap] 40)) hs)
      have dw := Lib.hid (show dP n s = false -> aX (.mk k n s (ae.ts l)) = false from λh => by rcases hG with rfl|rfl <;> simp[aX, h])
      have eD := Lib.hid (show dP n s = true -> aX (.mk k n s (ae.ts l)) = bz [fo] (ae.ts l)from λh => by rcases hG with rfl|rfl <;> simp[aX, h, nT, nU, nV, nP, nW])
      rcases hG with rfl|rfl
      all_goals
        go_enter Tryz.func72, Tryz.ntmps72
        go_wp2_with fail
        refine dX.out.mono ?_
        rintro e w2 ⟨rfl, hg2⟩
        have HG2 := Lib.hid (Mv.trans HG.out hg2 (λ_ e => e.elim))
        have hb2 := ai HB.out hg2
        obtain⟨m0, m1, m2, m3⟩ := fA hb2
        have hlb := lt_of_block hb2
        clear hg2 hb2
        generalize dP n s = pb at *
        cases pb with
        |false =>
          have HR := Lib.hid (dw.out rfl)
          go_wp2_with fail
          go_ret
          exact⟨aU HR.out.symm, HG2.out⟩
        |true =>
          have HR := Lib.hid (eD.out rfl)
          have bE := Lib.hid (HG2.out.alloc (.cells #[.func (.func 94) #[] #[]] 65))
          have HK := Lib.hid (nR _ n s (.slice a l.length cap) l [94] [fo] (.slice (some ⟨w2.heap.size, 0, none⟩) 1 1) (w2.alloc (.cells #[.func (.func 94) #[] #[]] 65)) (HX.out.later bE.out) (ay.dG (l := [94]) (λ_ => rfl) (heap_alloc_new w2 _) rfl (by simp)) rfl (by decide) (λi hi hk hp w' hg => by
            have hgw := Mv.trans bE.out hg (λ_ e => e.elim)
            have hm := List.getElem_mem hk
            simp only[List.length_cons, List.length_nil]at hi
            skip
            obtain rfl : i = 0 := by omega
            exact wm _ w' ((HX.out.row.2.2.2.2 _ hm).later hgw)))
          simp only[ae.val]at HK
          go_wp2_with fail
          refine HK.out.mono ?_
          rintro e w3 ⟨rfl, hg3⟩
          have aA := Lib.hid (Mv.trans bE.out hg3 (λ_ e => e.elim))
          clear hg3
          go_wp2_with fail
          go_ret
          exact⟨aU HR.out.symm, aA.out⟩
    have Mg : k ≠ 44 := by omega
    have h45 : k ≠ 45 := by omega
    clear hG
    by_cases hG : k = 46 \/ k = 47 \/ k = 48 \/ k = 49
    · have HG := Lib.hid (show Grow w (w.alloc (.cells #[.int .u8 k, .int .i64 n, .string s, .slice a l.length cap] 40))from(Mv.refl _ _).alloc _)
      have HB := Lib.hid (heap_alloc_new w (.cells #[.int .u8 k, .int .i64 n, .string s, .slice a l.length cap] 40))
      have dX := Lib.hid (tO k n s a l cap (w.alloc (.cells #[.int .u8 k, .int .i64 n, .string s, .slice a l.length cap] 40)))
      have dw := Lib.hid (show dA n s = false -> aX (.mk k n s (ae.ts l)) = false from λh => by rcases hG with rfl|rfl|rfl|rfl <;> simp[aX, h])
      have eD := Lib.hid (show dA n s = true -> aX (.mk k n s (ae.ts l)) = bz [fo] (ae.ts l)from λh => by rcases hG with rfl|rfl|rfl|rfl <;> simp[aX, h, nT, nU, nV, nP, nW])
      rcases hG with rfl|rfl|rfl|rfl
      all_goals
        go_enter Tryz.func72, Tryz.ntmps72
        go_wp2_with fail
        refine dX.out.mono ?_
        rintro e w2 ⟨rfl, hg2⟩
        have HG2 := Lib.hid (Mv.trans HG.out hg2 (λ_ e => e.elim))
        have hb2 := ai HB.out hg2
        obtain⟨m0, m1, m2, m3⟩ := fA hb2
        have hlb := lt_of_block hb2
        clear hg2 hb2
        generalize dA n s = pb at *
        cases pb with
        |false =>
          have HR := Lib.hid (dw.out rfl)
          go_wp2_with fail
          go_ret
          exact⟨aU HR.out.symm, HG2.out⟩
        |true =>
          have HR := Lib.hid (eD.out rfl)
          have bE := Lib.hid (HG2.out.alloc (.cells #[.func (.func 94) #[] #[]] 65))
          have HK := Lib.hid (nR _ n s (.slice a l.length cap) l [94] [fo] (.slice (some ⟨w2.heap.size, 0, none⟩) 1 1) (w2.alloc (.cells #[.func (.func 94) #[] #[]] 65)) (HX.out.later bE.out) (ay.dG (l := [94]) (λ_ => rfl) (heap_alloc_new w2 _) rfl (by simp)) rfl (by decide) (λi hi hk hp w' hg => by
            have hgw := Mv.trans bE.out hg (λ_ e => e.elim)
            have hm := List.getElem_mem hk
            simp only[List.length_cons, List.length_nil]at hi
            skip
            obtain rfl : i = 0 := by omega
            exact wm _ w' ((HX.out.row.2.2.2.2 _ hm).later hgw)))
          simp only[ae.val]at HK
          go_wp2_with fail
          refine HK.out.mono ?_
          rintro e w3 ⟨rfl, hg3⟩
          have aA := Lib.hid (Mv.trans bE.out hg3 (λ_ e => e.elim))
          clear hg3
          go_wp2_with fail
          go_ret
          exact⟨aU HR.out.symm, aA.out⟩
    have h46 : k ≠ 46 := by omega
    have h47 : k ≠ 47 := by omega
    have h48 : k ≠ 48 := by omega
    have Mh : k ≠ 49 := by omega
    clear hG
    by_cases h50 : k = 50
    · subst h50
      have HG := Lib.hid (show Grow w (w.alloc (.cells #[.int .u8 50, .int .i64 n, .string s, .slice a l.length cap] 40))from(Mv.refl _ _).alloc _)
      have HB := Lib.hid (heap_alloc_new w (.cells #[.int .u8 50, .int .i64 n, .string s, .slice a l.length cap] 40))
      have dX := Lib.hid (tQ 50 n s a l cap (w.alloc (.cells #[.int .u8 50, .int .i64 n, .string s, .slice a l.length cap] 40)) hs)
      have dw := Lib.hid (show dP n s = false -> aX (.mk 50 n s (ae.ts l)) = false from λh => by simp[aX, h])
      have eD := Lib.hid (show dP n s = true -> aX (.mk 50 n s (ae.ts l)) = (decide (l.length <= 8) && (ae.ts l).all lC)from λh => by simp[aX, h, ae.dB])
      go_enter Tryz.func72, Tryz.ntmps72
      go_wp2_with fail
      refine dX.out.mono ?_
      rintro e w2 ⟨rfl, hg2⟩
      have HG2 := Lib.hid (Mv.trans HG.out hg2 (λ_ e => e.elim))
      have hb2 := ai HB.out hg2
      obtain⟨m0, m1, m2, m3⟩ := fA hb2
      have hlb := lt_of_block hb2
      clear hg2 hb2
      generalize dP n s = pb at *
      cases pb with
      |false =>
        have HR := Lib.hid (dw.out rfl)
        go_wp2_with fail
        go_ret
        exact⟨aU HR.out.symm, HG2.out⟩
      |true =>
        by_cases h8 : l.length <= 8
        · have HR := Lib.hid (show aX (.mk 50 n s (ae.ts l)) = (ae.ts l).all lC from by rw[eD.out rfl]; simp[h8])
          have HE := Lib.hid (Dp (.slice a l.length cap) l 97 lC w2 (HX.out.row.2.2.2.1.later HG2.out) (λx hx => (HX.out.row.2.2.2.2 x hx).later HG2.out) (.inr rfl) (λx hx w' hg => Hm x w' ((HX.out.row.2.2.2.2 x hx).later (Mv.trans HG2.out hg (λ_ e => e.elim)))))
          go_wp2_with fail
          refine HE.out.mono ?_
          rintro e w3 ⟨rfl, hg3⟩
          have aA := Lib.hid (Mv.trans HG2.out hg3 (λ_ e => e.elim))
          clear hg3
          go_wp2_with fail
          go_ret
          exact⟨aU HR.out.symm, aA.out⟩
        · have HR := Lib.hid (show aX (.mk 50 n s (ae.ts l)) = false from by rw[eD.out rfl]; simp[h8])
          go_wp2_with fail
          go_ret
          exact⟨aU HR.out.symm, HG2.out⟩

    by_cases ET : k = 51
    · subst ET
      have HG := Lib.hid (show Grow w (w.alloc (.cells #[.int .u8 51, .int .i64 n, .string s, .slice a l.length cap] 40))from(Mv.refl _ _).alloc _)
      have HB := Lib.hid (heap_alloc_new w (.cells #[.int .u8 51, .int .i64 n, .string s, .slice a l.length cap] 40))
      have dX := Lib.hid (tQ 51 n s a l cap (w.alloc (.cells #[.int .u8 51, .int .i64 n, .string s, .slice a l.length cap] 40)) hs)
      have dw := Lib.hid (show dP n s = false -> aX (.mk 51 n s (ae.ts l)) = false from λh => by simp[aX, h])
      have eD := Lib.hid (show dP n s = true -> aX (.mk 51 n s (ae.ts l)) = (decide (l.length <= 8) && (ae.ts l).all lC)from λh => by simp[aX, h, ae.dB])
      go_enter Tryz.func72, Tryz.ntmps72
      go_wp2_with fail
      refine dX.out.mono ?_
      rintro e w2 ⟨rfl, hg2⟩
      have HG2 := Lib.hid (Mv.trans HG.out hg2 (λ_ e => e.elim))
      have hb2 := ai HB.out hg2
      obtain⟨m0, m1, m2, m3⟩ := fA hb2
      have hlb := lt_of_block hb2
      clear hg2 hb2
      generalize dP n s = pb at *
      cases pb with
      |false =>
        have HR := Lib.hid (dw.out rfl)
        go_wp2_with fail
        go_ret
        exact⟨aU HR.out.symm, HG2.out⟩
      |true =>
        by_cases h8 : l.length <= 8
        · have HR := Lib.hid (show aX (.mk 51 n s (ae.ts l)) = (ae.ts l).all lC from by rw[eD.out rfl]; simp[h8])
          have HE := Lib.hid (Dp (.slice a l.length cap) l 97 lC w2 (HX.out.row.2.2.2.1.later HG2.out) (λx hx => (HX.out.row.2.2.2.2 x hx).later HG2.out) (.inr rfl) (λx hx w' hg => Hm x w' ((HX.out.row.2.2.2.2 x hx).later (Mv.trans HG2.out hg (λ_ e => e.elim)))))
          go_wp2_with fail
          refine HE.out.mono ?_
          rintro e w3 ⟨rfl, hg3⟩
          have aA := Lib.hid (Mv.trans HG2.out hg3 (λ_ e => e.elim))
          clear hg3
          go_wp2_with fail
          go_ret
          exact⟨aU HR.out.symm, aA.out⟩
        · have HR := Lib.hid (show aX (.mk 51 n s (ae.ts l)) = false from by rw[eD.out rfl]; simp[h8])
          go_wp2_with fail
          go_ret
          exact⟨aU HR.out.symm, HG2.out⟩

    by_cases hG : k = 52 \/ k = 53
    · have HG := Lib.hid (show Grow w (w.alloc (.cells #[.int .u8 k, .int .i64 n, .string s, .slice a l.length cap] 40))from(Mv.refl _ _).alloc _)
      have HB := Lib.hid (heap_alloc_new w (.cells #[.int .u8 k, .int .i64 n, .string s, .slice a l.length cap] 40))
      have dX := Lib.hid (tO k n s a l cap (w.alloc (.cells #[.int .u8 k, .int .i64 n, .string s, .slice a l.length cap] 40)))
      have dw := Lib.hid (show dA n s = false -> aX (.mk k n s (ae.ts l)) = false from λh => by rcases hG with rfl|rfl <;> simp[aX, h])
      have eD := Lib.hid (show dA n s = true -> aX (.mk k n s (ae.ts l)) = bz [aN, ed, ed, aN] (ae.ts l)from λh => by rcases hG with rfl|rfl <;> simp[aX, h, nT, nU, nV, nP, nW])
      rcases hG with rfl|rfl
      all_goals
        go_enter Tryz.func72, Tryz.ntmps72
        go_wp2_with fail
        refine dX.out.mono ?_
        rintro e w2 ⟨rfl, hg2⟩
        have HG2 := Lib.hid (Mv.trans HG.out hg2 (λ_ e => e.elim))
        have hb2 := ai HB.out hg2
        obtain⟨m0, m1, m2, m3⟩ := fA hb2
        have hlb := lt_of_block hb2
        clear hg2 hb2
        generalize dA n s = pb at *
        cases pb with
        |false =>
          have HR := Lib.hid (dw.out rfl)
          go_wp2_with fail
          go_ret
          exact⟨aU HR.out.symm, HG2.out⟩
        |true =>
          have HR := Lib.hid (eD.out rfl)
          have bE := Lib.hid (HG2.out.alloc (.cells #[.func (.func 95) #[] #[], .func (.func 49) #[] #[], .func (.func 49) #[] #[], .func (.func 95) #[] #[]] 65))
          have HK := Lib.hid (nR _ n s (.slice a l.length cap) l [95, 49, 49, 95] [aN, ed, ed, aN] (.slice (some ⟨w2.heap.size, 0, none⟩) 4 4) (w2.alloc (.cells #[.func (.func 95) #[] #[], .func (.func 49) #[] #[], .func (.func 49) #[] #[], .func (.func 95) #[] #[]] 65)) (HX.out.later bE.out) (ay.dG (l := [95, 49, 49, 95]) (λ_ => rfl) (heap_alloc_new w2 _) rfl (by simp)) rfl (by decide) (λi hi hk hp w' hg => by
            have hgw := Mv.trans bE.out hg (λ_ e => e.elim)
            have hm := List.getElem_mem hk
            simp only[List.length_cons, List.length_nil]at hi
            rcases Nat.lt_or_ge i 1 with h0|h0
            · obtain rfl : i = 0 := by omega
              exact qY _ w' ((HX.out.row.2.2.2.2 _ hm).later hgw)
            rcases Nat.lt_or_ge i 2 with h1|h1
            · obtain rfl : i = 1 := by omega
              exact uQ.out _ hm w' hgw
            rcases Nat.lt_or_ge i 3 with h2|h2
            · obtain rfl : i = 2 := by omega
              exact uQ.out _ hm w' hgw
            skip
            obtain rfl : i = 3 := by omega
            exact qY _ w' ((HX.out.row.2.2.2.2 _ hm).later hgw)))
          simp only[ae.val]at HK
          go_wp2_with fail
          refine HK.out.mono ?_
          rintro e w3 ⟨rfl, hg3⟩
          have aA := Lib.hid (Mv.trans bE.out hg3 (λ_ e => e.elim))
          clear hg3
          go_wp2_with fail
          go_ret
          exact⟨aU HR.out.symm, aA.out⟩
    have Mi : k ≠ 52 := by omega
    have Mj : k ≠ 53 := by omega
    clear hG
    by_cases EU : k = 54
    · subst EU
      have HG := Lib.hid (show Grow w (w.alloc (.cells #[.int .u8 54, .int .i64 n, .string s, .slice a l.length cap] 40))from(Mv.refl _ _).alloc _)
      have HB := Lib.hid (heap_alloc_new w (.cells #[.int .u8 54, .int .i64 n, .string s, .slice a l.length cap] 40))
      have dX := Lib.hid (tQ 54 n s a l cap (w.alloc (.cells #[.int .u8 54, .int .i64 n, .string s, .slice a l.length cap] 40)) hs)
      have dw := Lib.hid (show dP n s = false -> aX (.mk 54 n s (ae.ts l)) = false from λh => by simp[aX, h])
      have eD := Lib.hid (show dP n s = true -> aX (.mk 54 n s (ae.ts l)) = bz [aN, ed, aN] (ae.ts l)from λh => by simp[aX, h, nT, nU, nV, nP, nW])
      go_enter Tryz.func72, Tryz.ntmps72
      go_wp2_with fail
      refine dX.out.mono ?_
      rintro e w2 ⟨rfl, hg2⟩
      have HG2 := Lib.hid (Mv.trans HG.out hg2 (λ_ e => e.elim))
      have hb2 := ai HB.out hg2
      obtain⟨m0, m1, m2, m3⟩ := fA hb2
      have hlb := lt_of_block hb2
      clear hg2 hb2
      generalize dP n s = pb at *
      cases pb with
      |false =>
        have HR := Lib.hid (dw.out rfl)
        go_wp2_with fail
        go_ret
        exact⟨aU HR.out.symm, HG2.out⟩
      |true =>
        have HR := Lib.hid (eD.out rfl)
        have bE := Lib.hid (HG2.out.alloc (.cells #[.func (.func 95) #[] #[], .func (.func 49) #[] #[], .func (.func 95) #[] #[]] 65))
        have HK := Lib.hid (nR 54 n s (.slice a l.length cap) l [95, 49, 95] [aN, ed, aN] (.slice (some ⟨w2.heap.size, 0, none⟩) 3 3) (w2.alloc (.cells #[.func (.func 95) #[] #[], .func (.func 49) #[] #[], .func (.func 95) #[] #[]] 65)) (HX.out.later bE.out) (ay.dG (l := [95, 49, 95]) (λ_ => rfl) (heap_alloc_new w2 _) rfl (by simp)) rfl (by decide) (λi hi hk hp w' hg => by
          have hgw := Mv.trans bE.out hg (λ_ e => e.elim)
          have hm := List.getElem_mem hk
          simp only[List.length_cons, List.length_nil]at hi
          rcases Nat.lt_or_ge i 1 with h0|h0
          · obtain rfl : i = 0 := by omega
            exact qY _ w' ((HX.out.row.2.2.2.2 _ hm).later hgw)
          rcases Nat.lt_or_ge i 2 with h1|h1
          · obtain rfl : i = 1 := by omega
            exact uQ.out _ hm w' hgw
          skip
          obtain rfl : i = 2 := by omega
          exact qY _ w' ((HX.out.row.2.2.2.2 _ hm).later hgw)))
        simp only[ae.val]at HK
        go_wp2_with fail
        refine HK.out.mono ?_
        rintro e w3 ⟨rfl, hg3⟩
        have aA := Lib.hid (Mv.trans bE.out hg3 (λ_ e => e.elim))
        clear hg3
        go_wp2_with fail
        go_ret
        exact⟨aU HR.out.symm, aA.out⟩

    by_cases xB : k = 55
    · subst xB
      have HG := Lib.hid (show Grow w (w.alloc (.cells #[.int .u8 55, .int .i64 n, .string s, .slice a l.length cap] 40))from(Mv.refl _ _).alloc _)
      have HB := Lib.hid (heap_alloc_new w (.cells #[.int .u8 55, .int .i64 n, .string s, .slice a l.length cap] 40))
      have dX := Lib.hid (tQ 55 n s a l cap (w.alloc (.cells #[.int .u8 55, .int .i64 n, .string s, .slice a l.length cap] 40)) hs)
      have dw := Lib.hid (show dP n s = false -> aX (.mk 55 n s (ae.ts l)) = false from λh => by simp[aX, h])
      have eD := Lib.hid (show dP n s = true -> aX (.mk 55 n s (ae.ts l)) = bz [ed] (ae.ts l)from λh => by simp[aX, h, nT, nU, nV, nP, nW])
      go_enter Tryz.func72, Tryz.ntmps72
      go_wp2_with fail
      refine dX.out.mono ?_
      rintro e w2 ⟨rfl, hg2⟩
      have HG2 := Lib.hid (Mv.trans HG.out hg2 (λ_ e => e.elim))
      have hb2 := ai HB.out hg2
      obtain⟨m0, m1, m2, m3⟩ := fA hb2
      have hlb := lt_of_block hb2
      clear hg2 hb2
      generalize dP n s = pb at *
      cases pb with
      |false =>
        have HR := Lib.hid (dw.out rfl)
        go_wp2_with fail
        go_ret
        exact⟨aU HR.out.symm, HG2.out⟩
      |true =>
        have HR := Lib.hid (eD.out rfl)
        have bE := Lib.hid (HG2.out.alloc (.cells #[.func (.func 49) #[] #[]] 65))
        have HK := Lib.hid (nR 55 n s (.slice a l.length cap) l [49] [ed] (.slice (some ⟨w2.heap.size, 0, none⟩) 1 1) (w2.alloc (.cells #[.func (.func 49) #[] #[]] 65)) (HX.out.later bE.out) (ay.dG (l := [49]) (λ_ => rfl) (heap_alloc_new w2 _) rfl (by simp)) rfl (by decide) (λi hi hk hp w' hg => by
          have hgw := Mv.trans bE.out hg (λ_ e => e.elim)
          have hm := List.getElem_mem hk
          simp only[List.length_cons, List.length_nil]at hi
          skip
          obtain rfl : i = 0 := by omega
          exact uQ.out _ hm w' hgw))
        simp only[ae.val]at HK
        go_wp2_with fail
        refine HK.out.mono ?_
        rintro e w3 ⟨rfl, hg3⟩
        have aA := Lib.hid (Mv.trans bE.out hg3 (λ_ e => e.elim))
        clear hg3
        go_wp2_with fail
        go_ret
        exact⟨aU HR.out.symm, aA.out⟩

    have XD : (k == 40) = false := by simp; omega
    have XE : (k == 41) = false := by simp; omega
    have XF : (k == 42) = false := by simp; omega
    have XG : (k == 43) = false := by simp; omega
    have XH : (k == 44) = false := by simp; omega
    have XJ : (k == 45) = false := by simp; omega
    have XK : (k == 46) = false := by simp; omega
    have XL : (k == 47) = false := by simp; omega
    have XM : (k == 48) = false := by simp; omega
    have XN : (k == 49) = false := by simp; omega
    have XO : (k == 50) = false := by simp; omega
    have XP : (k == 51) = false := by simp; omega
    have XQ : (k == 52) = false := by simp; omega
    have XR : (k == 53) = false := by simp; omega
    have XT : (k == 54) = false := by simp; omega
    have XU : (k == 55) = false := by simp; omega
    have XV : (k == 56) = false := by simp; omega
    have HG := Lib.hid (show Grow w (w.alloc (.cells #[.int .u8 k, .int .i64 n, .string s, .slice a l.length cap] 40))from(Mv.refl _ _).alloc _)
    have HR := Lib.hid (show aX (.mk k n s (ae.ts l)) = false from by simp[aX, Mc, Md, Me, h43, Mg, h45, h46, h47, h48, Mh, h50, ET, Mi, Mj, EU, xB, Mf])
    clear Mc Md Me h43 Mg h45 h46 h47 h48 Mh h50 ET Mi Mj EU xB Mf
    go_enter Tryz.func72, Tryz.ntmps72
    go_wp2_with fail
    go_ret
    exact⟨aU HR.out.symm, HG.out⟩
theorem Aw : ∀ m : Nat, Dy m /\ Dq m
  |0 => ⟨λx hm => by cases x; simp at hm, λx hm => by cases x; simp at hm⟩
  |m + 1 => ⟨PK m (Aw m).2, Pn m (Aw m).1⟩
theorem Qd (x : ae) (w : World) (h : bJ w x) : Calls Tryz.prog 72 #[x.val] w (fq w (aX x.t)) := (Aw _).1 x (Nat.le_refl _) w h
theorem PL (x : ae) (w : World) (h : bJ w x) : Calls Tryz.prog 49 #[x.val] w (fq w (ed x.t)) := (Aw _).2 x (Nat.le_refl _) w h
end Go.Proofs.YtbpodipdfohikaaGreat
