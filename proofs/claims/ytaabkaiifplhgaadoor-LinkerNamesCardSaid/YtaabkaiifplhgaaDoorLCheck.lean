/- object.framed, object.Check. -/
import Derived.Test.YtaabkaiifplhgaaDoorLDisj
namespace Go.Proofs.YtaabkaiifplhgaaDoor
set_option linter.unusedSimpArgs false
set_option linter.unusedVariables false
open Go.RowKit

def SlotD.okB (s : SlotD) : Bool := decide (s.name.size ≤ 255) && (if s.kind = 2 then decide (1 ≤ s.len) && decide (s.len ≤ 16) else s.len == 0)
def numsB (c s : Int) : Bool := decide (0 ≤ c) && (decide (c ≤ 16384) && (decide (0 ≤ s) && decide (s ≤ 16384)))
def framB (l : List SlotD) (c s : Int) : Bool := numsB c s && (l.all SlotD.okB && disjB l c s)

theorem all_false {l : List SlotD} {k : Nat} (h : k < l.length) (hf : l[k].okB = false) : l.all SlotD.okB = false := by
  apply Bool.eq_false_iff.2
  intro hall
  have := List.all_eq_true.1 hall l[k] (List.getElem_mem h)
  rw [hf] at this; cases this
theorem all_snoc {l : List SlotD} {k : Nat} (h : k < l.length) (h1 : (l.take k).all SlotD.okB = true) (h2 : l[k].okB = true) : (l.take (k + 1)).all SlotD.okB = true := by
  rw [List.take_succ_eq_append_getElem h, List.all_append, h1]
  simp [h2]

set_option maxRecDepth 100000 in
set_option maxHeartbeats 3200000 in
theorem framed_any (fv : Value) (l : List SlotD) (cells stacks : Int) (w : World) (h : RowAt 4 SlotD.cells w fv l) (hfew : l.length ≤ 4398046511104) (hnm : ∀ s ∈ l, s.name.size ≤ 9223372036854775807) :
    Calls Tryd.prog 24 #[.agg #[fv, .int .i64 cells, .int .i64 stacks]] w fun e w' => e = .returned (.bool (framB l cells stacks)) ∧ Grow w w' := by
  obtain ⟨fa, fcap, rfl, hfcap, hflen⟩ := h.form
  have HR := Lib.hid h
  have HNM := Lib.hid hnm
  have HFB := Lib.hid (show framB l cells stacks = (numsB cells stacks && (l.all SlotD.okB && disjB l cells stacks)) from rfl)
  have hg0 : Grow w (w.alloc (.cells #[.slice fa l.length fcap, .int .i64 cells, .int .i64 stacks] 25)) := (Mv.refl _ _).alloc _
  have hbox := heap_alloc_new w (.cells #[.slice fa l.length fcap, .int .i64 cells, .int .i64 stacks] 25)
  have HG0 := Lib.hid hg0
  have HBOX := Lib.hid hbox
  clear h hg0 hbox hnm
  by_cases hnum : (0 ≤ cells ∧ cells ≤ 16384) ∧ 0 ≤ stacks ∧ stacks ≤ 16384
  · obtain ⟨⟨q1, q2⟩, q3, q4⟩ := hnum
    have HNB := Lib.hid (show numsB cells stacks = true from by simp [numsB, q1, q2, q3, q4])
    go_enter Tryd.func24, Tryd.ntmps24
    go_wp2_with fail
    have hsz1 : w.heap.size < (w.alloc (.cells #[.slice fa l.length fcap, .int .i64 cells, .int .i64 stacks] 25)).heap.size := by simp
    generalize w.alloc (.cells #[.slice fa l.length fcap, .int .i64 cells, .int .i64 stacks] 25) = w1 at *
    go_loopw [26] (fun t wr => ∃ k : Nat, t = .int .i64 k ∧ k ≤ l.length ∧ Grow w1 wr ∧ (l.take k).all SlotD.okB = true) (fun t _ => l.length - (intOf t).toNat)
    case atStart => exact ⟨0, rfl, Nat.zero_le _, Mv.refl _ _, rfl⟩
    obtain ⟨k, rfl, hk, hg, hall⟩ := hrel
    have HG := Lib.hid hg
    have HALL := Lib.hid hall
    have HGR := Lib.hid (Mv.trans HG0.out hg (fun _ e => e.elim))
    clear hall
    by_cases hlt : k < l.length
    · obtain ⟨b, off, cap', e, _, hcc⟩ := (HR.out.later HGR.out).at hlt
      simp only [Value.slice.injEq, true_and] at e
      obtain ⟨rfl, rfl⟩ := e
      have c0 := hcc 0 _ rfl
      have c1 := hcc 1 _ rfl
      have c2 := hcc 2 _ rfl
      have c3 := hcc 3 _ rfl
      simp only [Nat.add_zero] at c0
      have hbl : b < wr.heap.size := World.block_lt_of_cell? wr _ c0
      have HAF := Lib.hid (all_false hlt)
      have HAS := Lib.hid (all_snoc hlt HALL.out)
      have hsn := HNM.out l[k] (List.getElem_mem hlt)
      generalize hx : l[k] = x at *
      obtain ⟨xs, xk, xl, xt⟩ := x
      simp only at c0 c1 c2 c3 hsn
      clear hcc hx hg
      have HOK := Lib.hid (show SlotD.okB ⟨xs, xk, xl, xt⟩ = (decide (xs.size ≤ 255) && (if xk = 2 then decide (1 ≤ xl) && decide (xl ≤ 16) else xl == 0)) from rfl)
      by_cases hok : SlotD.okB ⟨xs, xk, xl, xt⟩ = true
      · have HAS2 := Lib.hid (HAS.out hok)
        rw [HOK.out] at hok
        have s255 : xs.size ≤ 255 := by simp at hok; exact hok.1
        clear HAF HAS
        by_cases h2 : xk = 2
        · subst h2
          obtain ⟨g1, g2⟩ : 1 ≤ xl ∧ xl ≤ 16 := by simpa [s255] using hok
          clear hok
          go_wp2_with fail
          go_roundw
          case rel => exact ⟨k + 1, by go_num, by omega, HG.out.alloc _, HAS2.out⟩
          case measure => simp [intOf]; omega
        · have n2 : (xk == 2) = false := by simpa using h2
          have n2' : (xk != 2) = true := by simpa using h2
          obtain rfl : xl = 0 := by simpa [s255, h2] using hok
          clear hok h2
          go_wp2_with fail
          go_roundw
          case rel => exact ⟨k + 1, by go_num, by omega, HG.out.alloc _, HAS2.out⟩
          case measure => simp [intOf]; omega
      · have hok2 : SlotD.okB ⟨xs, xk, xl, xt⟩ = false := by simpa using hok
        have HF := Lib.hid (show framB l cells stacks = false from by rw [HFB.out, HAF.out hok2]; simp)
        rw [HOK.out] at hok2
        clear hok HAF HAS
        by_cases s255 : xs.size ≤ 255
        · by_cases h2 : xk = 2
          · subst h2
            have hbad : xl < 1 ∨ 16 < xl := by simp [s255] at hok2; omega
            clear hok2
            rcases hbad with hbad | hbad
            · go_wp2_with fail
              go_ret
              exact ⟨ret_bool (by rw [HF.out]), HGR.out.alloc _⟩
            · have : ¬ xl < 1 := by omega
              go_wp2_with fail
              go_ret
              exact ⟨ret_bool (by rw [HF.out]), HGR.out.alloc _⟩
          · have n2 : (xk == 2) = false := by simpa using h2
            have n2' : (xk != 2) = true := by simpa using h2
            have n0 : (xl != 0) = true := by simpa [s255, h2] using hok2
            clear hok2 h2
            go_wp2_with fail
            go_ret
            exact ⟨ret_bool (by rw [HF.out]), HGR.out.alloc _⟩
        · clear hok2
          go_wp2_with fail
          go_ret
          exact ⟨ret_bool (by rw [HF.out]), HGR.out.alloc _⟩
    · obtain rfl : k = l.length := by omega
      have hbr : wr.heap[w.heap.size]? = some (.cells #[.slice fa l.length fcap, .int .i64 cells, .int .i64 stacks] 25 (0, 0)) := by
        rw [hg.block _ hsz1 (fun h => h)]; exact HBOX.out
      have b0 : wr.cell? ⟨w.heap.size, 0, none⟩ = some (.slice fa l.length fcap) := by simp [World.cell?, hbr]
      have b1 : wr.cell? ⟨w.heap.size, 1, none⟩ = some (.int .i64 cells) := by simp [World.cell?, hbr]
      have b2 : wr.cell? ⟨w.heap.size, 2, none⟩ = some (.int .i64 stacks) := by simp [World.cell?, hbr]
      have HD := Lib.hid (disjoint_any _ l cells stacks wr (HR.out.later HGR.out) hfew)
      have HF := Lib.hid (show framB l cells stacks = disjB l cells stacks from by
        have := HALL.out
        rw [List.take_length] at this
        rw [HFB.out, HNB.out, this]; simp)
      clear hbr hg
      go_wp2_with fail
      refine HD.out.mono ?_
      rintro e w2 ⟨rfl, hm2⟩
      have HGR2 := Lib.hid (Mv.trans HGR.out hm2 (fun _ e => e.elim))
      clear hm2
      go_wp2_with fail
      go_ret
      exact ⟨ret_bool (by rw [HF.out]), HGR2.out⟩
  · have HF := Lib.hid (show framB l cells stacks = false from by
      rw [HFB.out]
      have : numsB cells stacks = false := by
        apply Bool.eq_false_iff.2
        intro h
        simp [numsB] at h
        exact hnum ⟨⟨h.1, h.2.1⟩, h.2.2⟩
      rw [this]; rfl)
    by_cases q1 : cells < 0
    · go_enter Tryd.func24, Tryd.ntmps24
      go_wp2_with fail
      go_ret
      exact ⟨ret_bool (by rw [HF.out]), HG0.out⟩
    · by_cases q2 : 16384 < cells
      · go_enter Tryd.func24, Tryd.ntmps24
        go_wp2_with fail
        go_ret
        exact ⟨ret_bool (by rw [HF.out]), HG0.out⟩
      · by_cases q3 : stacks < 0
        · clear hnum
          go_enter Tryd.func24, Tryd.ntmps24
          go_wp2_with fail
          go_ret
          exact ⟨ret_bool (by rw [HF.out]), HG0.out⟩
        · have q4 : 16384 < stacks := by omega
          clear hnum
          go_enter Tryd.func24, Tryd.ntmps24
          go_wp2_with fail
          go_ret
          exact ⟨ret_bool (by rw [HF.out]), HG0.out⟩

end Go.Proofs.YtaabkaiifplhgaaDoor
