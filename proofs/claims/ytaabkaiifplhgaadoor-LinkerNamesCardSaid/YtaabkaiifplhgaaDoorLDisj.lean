/- layout.Frame.Disjoint. -/
import Derived.Test.YtaabkaiifplhgaaDoorLApart
import Derived.Deep.AppendLies
namespace Go.Proofs.YtaabkaiifplhgaaDoor
set_option linter.unusedSimpArgs false
set_option linter.unusedVariables false
open Go.RowKit

attribute [local go_sem ↓] run_appOp

theorem Tryd.infoSpan : (Tryd.prog.info? 106).map (fun i => (i.zero, i.size, i.bytes)) = some (some (.agg #[.int .i64 0, .int .i64 0]), 2, 16) := by kernel_rfl

/-- an append of one span -/
theorem app_span (v : Value) (x : Sp) (xs : List Sp) (base : Nat) (w : World) (hrow : SpRow w base v xs) (hb : base ≤ w.heap.size) (hlen : xs.length ≤ 4398046511104) :
    ∃ a' c' w2, (AppOK Tryd.prog 104 104 v (.slice (some ⟨w.heap.size, 0, none⟩) 1 1) (w.alloc (.cells #[.int .i64 x.1, .int .i64 x.2] 106)) ∧
        appV Tryd.prog 104 104 v (.slice (some ⟨w.heap.size, 0, none⟩) 1 1) (w.alloc (.cells #[.int .i64 x.1, .int .i64 x.2] 106)) = .slice a' (xs.length + 1) c' ∧ appW Tryd.prog 104 104 v (.slice (some ⟨w.heap.size, 0, none⟩) 1 1) (w.alloc (.cells #[.int .i64 x.1, .int .i64 x.2] 106)) = w2) ∧
      SpRow w2 base (.slice a' (xs.length + 1) c') (xs ++ [x]) ∧ Mv (fun b => v.ownBlock = some b) w w2 ∧ (∀ g, (Value.slice a' (xs.length + 1) c').ownBlock = some g → v.ownBlock = some g ∨ w.heap.size ≤ g) := by
  obtain ⟨i0, hi, hz0, hz1, hz2⟩ := info_parts Tryd.infoSpan
  obtain ⟨v', w2, hr, hown1, hgrow, _, hnew⟩ := run_append_own2 (P := Tryd.prog) (w.alloc (.cells #[.int .i64 x.1, .int .i64 x.2] 106)) base 104 104 106 i0 (.agg #[.int .i64 0, .int .i64 0]) 2 16 Tryd.underlying104 hi hz0 hz1 hz2 rfl (by decide) v _ _ (hrow.alloc _) ⟨w.heap.size, 0, none⟩ 1 1 [.int .i64 x.1, .int .i64 x.2] rfl
    (World.news_of_block (cs := #[.int .i64 x.1, .int .i64 x.2]) (t := 106) (fr := (0, 0)) (heap_alloc_new w _)) (by simp [Value.oneCell']) (by unfold maxLen; omega) (by omega) (by simp; omega)
  have hform : ∃ a' c', v' = .slice a' (xs.length + 1) c' := by
    rcases hown1.2 with ⟨_, h0⟩ | ⟨g, cap, cur, rfl, _⟩
    · omega
    · exact ⟨_, _, rfl⟩
  obtain ⟨a', c', rfl⟩ := hform
  obtain ⟨hok, hv, hw2⟩ := app_of hr
  refine ⟨a', c', w2, ⟨hok, hv, hw2⟩, ?_, ((Mv.refl _ _).alloc _).grown hgrow (fun k hk => .inl hk), fun g hg => ?_⟩
  · rw [SpRow, spFlat_append]; simpa using hown1
  · rcases hnew g hg with h1 | h1
    · exact .inl h1
    · exact .inr (by simp at h1; omega)

def spStep (p : List Sp × List Sp) (s : SlotD) : Option (List Sp × List Sp) :=
  if s.kind = 1 then some (p.1 ++ [(s.at', 1)], p.2) else if s.kind = 2 then some (p.1 ++ [(s.at', s.len)], p.2) else if s.kind = 3 then some (p.1, p.2 ++ [(s.at', 1)]) else none
def spansTo (l : List SlotD) (k : Nat) : Option (List Sp × List Sp) := (l.take k).foldlM spStep ([], [])
def disjB (l : List SlotD) (cells stacks : Int) : Bool := match spansTo l l.length with
  | none => false
  | some p => apartB p.1 0 cells && apartB p.2 1 stacks

theorem spansTo_succ (l : List SlotD) (k : Nat) (h : k < l.length) : spansTo l (k + 1) = (spansTo l k).bind fun p => spStep p l[k] := by
  unfold spansTo
  rw [List.take_succ_eq_append_getElem h, List.foldlM_append]
  simp
theorem spansTo_none (l : List SlotD) : ∀ (d k : Nat), k + d ≤ l.length → spansTo l k = none → spansTo l (k + d) = none
  | 0, _, _, h => h
  | d + 1, k, hk, h => by
    have := spansTo_none l d (k + 1) (by omega) (by rw [spansTo_succ l k (by omega), h]; rfl)
    rwa [show k + 1 + d = k + (d + 1) by omega] at this

structure SpPair (w w1 : World) (cv sv : Value) (cs ss : List Sp) : Prop where
  g : Grow w1 w
  c : SpRow w w1.heap.size cv cs
  s : SpRow w w1.heap.size sv ss
  d : ∀ g, cv.ownBlock = some g → sv.ownBlock ≠ some g

theorem SpRow.stay {w w' : World} {base : Nat} {v : Value} {l : List Sp} {O : Nat → Prop} (h : SpRow w base v l) (hm : Mv O w w') (hO : ∀ g, v.ownBlock = some g → ¬ O g) : SpRow w' base v l := by
  refine ⟨h.1, ?_⟩
  rcases h.2 with h1 | ⟨g, cap, cur, rfl, hb, hg, rest⟩
  · exact .inl h1
  · exact .inr ⟨g, cap, cur, rfl, hb, by rw [hm.block g (lt_of_block hg) (hO g rfl)]; exact hg, rest⟩

theorem SpRow.slice {w : World} {base : Nat} {v : Value} {l : List Sp} (h : SpRow w base v l) : ∃ a c, v = .slice a l.length c := by
  rcases h.2 with ⟨rfl, hl⟩ | ⟨g, cap, cur, rfl, _⟩
  · exact ⟨none, 0, by rw [hl]⟩
  · exact ⟨_, _, rfl⟩

theorem SpPair.addC {w w1 w2 : World} {cv sv cv2 : Value} {cs cs2 ss : List Sp} (h : SpPair w w1 cv sv cs ss) (h2 : SpRow w2 w1.heap.size cv2 cs2) (hm : Mv (fun b => cv.ownBlock = some b) w w2) (hn : ∀ g, cv2.ownBlock = some g → cv.ownBlock = some g ∨ w.heap.size ≤ g) : SpPair w2 w1 cv2 sv cs2 ss := by
  refine ⟨h.g.trans hm (fun x e => .inr (h.c.lt x e).1), h2, h.s.stay hm (fun g hg e => h.d g e hg), fun g hg e => ?_⟩
  rcases hn g hg with h3 | h3
  · exact h.d g h3 e
  · have := (h.s.lt g e).2; omega
theorem SpPair.addS {w w1 w2 : World} {cv sv sv2 : Value} {cs ss ss2 : List Sp} (h : SpPair w w1 cv sv cs ss) (h2 : SpRow w2 w1.heap.size sv2 ss2) (hm : Mv (fun b => sv.ownBlock = some b) w w2) (hn : ∀ g, sv2.ownBlock = some g → sv.ownBlock = some g ∨ w.heap.size ≤ g) : SpPair w2 w1 cv sv2 cs ss2 := by
  refine ⟨h.g.trans hm (fun x e => .inr (h.s.lt x e).1), h.c.stay hm (fun g hg e => h.d g hg e), h2, fun g hg e => ?_⟩
  rcases hn g e with h3 | h3
  · exact h.d g hg h3
  · have := (h.c.lt g hg).2; omega
theorem SpPair.alloc {w w1 : World} {cv sv : Value} {cs ss : List Sp} (h : SpPair w w1 cv sv cs ss) (o : Obj) : SpPair (w.alloc o) w1 cv sv cs ss := ⟨h.g.alloc o, h.c.alloc o, h.s.alloc o, h.d⟩

set_option maxRecDepth 100000 in
set_option maxHeartbeats 3200000 in
theorem disjoint_any (fv : Value) (l : List SlotD) (cells stacks : Int) (w : World) (h : RowAt 4 SlotD.cells w fv l) (hfew : l.length ≤ 4398046511104) :
    Calls Tryd.prog 37 #[.agg #[fv, .int .i64 cells, .int .i64 stacks]] w fun e w' => e = .returned (.bool (disjB l cells stacks)) ∧ Grow w w' := by
  obtain ⟨fa, fcap, rfl, hfcap, hflen⟩ := h.form
  have HR := Lib.hid h
  have hg0 : Grow w (w.alloc (.cells #[.slice fa l.length fcap, .int .i64 cells, .int .i64 stacks] 25)) := (Mv.refl _ _).alloc _
  have hbox := heap_alloc_new w (.cells #[.slice fa l.length fcap, .int .i64 cells, .int .i64 stacks] 25)
  have HG0 := Lib.hid hg0
  have HBOX := Lib.hid hbox
  clear h hg0 hbox
  go_enter Tryd.func37, Tryd.ntmps37
  go_wp2_with fail
  have hsz1 : w.heap.size < (w.alloc (.cells #[.slice fa l.length fcap, .int .i64 cells, .int .i64 stacks] 25)).heap.size := by simp
  generalize w.alloc (.cells #[.slice fa l.length fcap, .int .i64 cells, .int .i64 stacks] 25) = w1 at *
  go_loopw [3, 4, 10] (fun cv sv t wr => ∃ (k : Nat) (cs ss : List Sp), t = .int .i64 k ∧ k ≤ l.length ∧ spansTo l k = some (cs, ss) ∧ cs.length ≤ k ∧ ss.length ≤ k ∧ SpPair wr w1 cv sv cs ss) (fun _ _ t _ => l.length - (intOf t).toNat)
  case atStart => exact ⟨0, [], [], rfl, Nat.zero_le _, rfl, Nat.le_refl _, Nat.le_refl _, Mv.refl _ _, World.ownsRow_nil _ _ _ _, World.ownsRow_nil _ _ _ _, by simp [Value.ownBlock]⟩
  obtain ⟨k, cs, ss, rfl, hk, hsk, hcl, hsl, hp⟩ := hrel
  have HSK := Lib.hid hsk
  clear hsk
  by_cases hlt : k < l.length
  · obtain ⟨b, off, cap', e, _, hcc⟩ := (HR.out.later (Mv.trans HG0.out hp.g (fun _ e => e.elim))).at hlt
    simp only [Value.slice.injEq, true_and] at e
    obtain ⟨rfl, rfl⟩ := e
    have c0 := hcc 0 _ rfl
    have c1 := hcc 1 _ rfl
    have c2 := hcc 2 _ rfl
    have c3 := hcc 3 _ rfl
    simp only [Nat.add_zero] at c0
    have hbl : b < wr.heap.size := World.block_lt_of_cell? wr _ c0
    have HS := Lib.hid (spansTo_succ l k hlt)
    have HNN := Lib.hid (fun hn => spansTo_none l (l.length - (k + 1)) (k + 1) (by omega) hn)
    generalize hx : l[k] = x at *
    obtain ⟨xs, xk, xl, xt⟩ := x
    simp only at c0 c1 c2 c3
    clear hcc hx
    by_cases hk1 : xk = 1
    · subst hk1
      have hpa := hp.alloc (.cells #[.string xs, .int .u8 1, .int .i64 xl, .int .i64 xt] 75)
      obtain ⟨a', c', w2, ⟨hok, hv, hw⟩, hrow2, hmv2, hnew2⟩ := app_span _ (xt, 1) _ _ _ hpa.c hpa.g.size (by omega)
      rw [World.size_alloc] at hok hv hw
      have HP2 := Lib.hid (hpa.addC hrow2 hmv2 hnew2)
      have HSP := Lib.hid (show spansTo l (k + 1) = some (cs ++ [(xt, 1)], ss) from by rw [HS.out, HSK.out]; simp [spStep])
      obtain ⟨va, vc, hvf⟩ := hp.c.slice
      subst hvf
      clear hp hpa hrow2 hmv2 hnew2
      go_wp2_with fail
      go_roundw
      case rel => exact ⟨k + 1, _, _, by go_num, by omega, HSP.out, by first | omega | (simp; omega), by first | omega | (simp; omega), by simpa using HP2.out⟩
      case measure => simp [intOf]; omega
    · have n1 : (xk == 1) = false := by simpa using hk1
      by_cases hk2 : xk = 2
      · subst hk2
        have hpa := hp.alloc (.cells #[.string xs, .int .u8 2, .int .i64 xl, .int .i64 xt] 75)
        obtain ⟨a', c', w2, ⟨hok, hv, hw⟩, hrow2, hmv2, hnew2⟩ := app_span _ (xt, xl) _ _ _ hpa.c hpa.g.size (by omega)
        rw [World.size_alloc] at hok hv hw
        have HP2 := Lib.hid (hpa.addC hrow2 hmv2 hnew2)
        have HSP := Lib.hid (show spansTo l (k + 1) = some (cs ++ [(xt, xl)], ss) from by rw [HS.out, HSK.out]; simp [spStep])
        obtain ⟨va, vc, hvf⟩ := hp.c.slice
        subst hvf
        clear hp hpa hrow2 hmv2 hnew2
        go_wp2_with fail
        go_roundw
        case rel => exact ⟨k + 1, _, _, by go_num, by omega, HSP.out, by first | omega | (simp; omega), by first | omega | (simp; omega), by simpa using HP2.out⟩
        case measure => simp [intOf]; omega
      · have n2 : (xk == 2) = false := by simpa using hk2
        by_cases hk3 : xk = 3
        · subst hk3
          have hpa := hp.alloc (.cells #[.string xs, .int .u8 3, .int .i64 xl, .int .i64 xt] 75)
          obtain ⟨a', c', w2, ⟨hok, hv, hw⟩, hrow2, hmv2, hnew2⟩ := app_span _ (xt, 1) _ _ _ hpa.s hpa.g.size (by omega)
          rw [World.size_alloc] at hok hv hw
          have HP2 := Lib.hid (hpa.addS hrow2 hmv2 hnew2)
          have HSP := Lib.hid (show spansTo l (k + 1) = some (cs, ss ++ [(xt, 1)]) from by rw [HS.out, HSK.out]; simp [spStep])
          obtain ⟨va, vc, hvf⟩ := hp.s.slice
          subst hvf
          clear hp hpa hrow2 hmv2 hnew2
          go_wp2_with fail
          go_roundw
          case rel => exact ⟨k + 1, _, _, by go_num, by omega, HSP.out, by first | omega | (simp; omega), by first | omega | (simp; omega), by simpa using HP2.out⟩
          case measure => simp [intOf]; omega
        · have n3 : (xk == 3) = false := by simpa using hk3
          have HF := Lib.hid (show disjB l cells stacks = false from by
            have h1 : spansTo l (k + 1) = none := by rw [HS.out, HSK.out]; simp [spStep, hk1, hk2, hk3]
            have h2 := HNN.out h1
            rw [show k + 1 + (l.length - (k + 1)) = l.length by omega] at h2
            simp [disjB, h2])
          have HGG := Lib.hid (Mv.trans HG0.out hp.g (fun _ e => e.elim))
          clear hk1 hk2 hk3 hp
          go_wp2_with fail
          go_ret
          exact ⟨ret_bool (by rw [HF.out]), HGG.out.alloc _⟩
  · obtain rfl : k = l.length := by omega
    have HDJ := Lib.hid (show disjB l cells stacks = (apartB cs 0 cells && apartB ss 1 stacks) from by simp [disjB, HSK.out])
    have hbr : wr.heap[w.heap.size]? = some (.cells #[.slice fa l.length fcap, .int .i64 cells, .int .i64 stacks] 25 (0, 0)) := by
      rw [hp.g.block _ hsz1 (fun h => h)]; exact HBOX.out
    have b1 : wr.cell? ⟨w.heap.size, 1, none⟩ = some (.int .i64 cells) := by simp [World.cell?, hbr]
    have hszr := hp.g.size
    have HBR := Lib.hid hbr
    have HP := Lib.hid hp
    have HA1 := Lib.hid (apart_any _ _ cs 0 cells wr hp.c (by omega))
    obtain ⟨ca, cc, hcf⟩ := hp.c.slice
    obtain ⟨sa, sc, hsf⟩ := hp.s.slice
    subst hcf
    subst hsf
    clear hbr hp
    go_wp2_with fail
    refine HA1.out.mono ?_
    rintro e w2 ⟨rfl, hm2⟩
    have hgr2 : Grow w w2 := (Mv.trans HG0.out HP.out.g (fun _ e => e.elim)).trans hm2 (fun x e => .inr (by have := (HP.out.c.lt x e).1; have := HG0.out.size; omega))
    have hne : Value.ownBlock (.slice ca cs.length cc) ≠ some w.heap.size := fun e => by have := (HP.out.c.lt _ e).1; omega
    have b2 : w2.cell? ⟨w.heap.size, 2, none⟩ = some (.int .i64 stacks) := by
      have h1 : w2.heap[w.heap.size]? = wr.heap[w.heap.size]? := hm2.block _ (by omega) hne
      simp [World.cell?, h1, HBR.out]
    have HA2 := Lib.hid (apart_any _ _ ss 1 stacks w2 (HP.out.s.stay hm2 (fun g hg e => HP.out.d g e hg)) (by omega))
    have HS2 := Lib.hid (show ∀ x, Value.ownBlock (.slice sa ss.length sc) = some x → w.heap.size ≤ x from fun x e => by have := (HP.out.s.lt x e).1; have := HG0.out.size; omega)
    have HGR2 := Lib.hid hgr2
    generalize apartB cs 0 cells = q at *
    clear hm2 hgr2 hne b1
    cases q
    · go_wp2_with fail
      go_ret
      exact ⟨ret_bool (by rw [HDJ.out]; rfl), HGR2.out⟩
    · go_wp2_with fail
      refine HA2.out.mono ?_
      rintro e w3 ⟨rfl, hm3⟩
      have HGR3 := Lib.hid (show Grow w w3 from HGR2.out.trans hm3 (fun x e => .inr (HS2.out x e)))
      clear hm3
      go_wp2_with fail
      go_ret
      exact ⟨ret_bool (by rw [HDJ.out]; rfl), HGR3.out⟩

end Go.Proofs.YtaabkaiifplhgaaDoor
