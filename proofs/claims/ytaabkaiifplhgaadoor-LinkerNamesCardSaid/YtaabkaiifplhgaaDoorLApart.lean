/- layout.apart: spans are sorted and walked. -/
import Derived.Test.YtaabkaiifplhgaaDoorLPiece
import Derived.Shelf.SlSortCmp.WholeK
import Derived.Shelf.SlSortCmp.NoneTotal
namespace Go.Proofs.YtaabkaiifplhgaaDoor
set_option linter.unusedSimpArgs false
set_option linter.unusedVariables false
open Go.RowKit Go.Lib Go.Sort

abbrev Sp := Int × Int
def spCells (x : Sp) : List Value := [.int .i64 x.1, .int .i64 x.2]
def spCmp (x y : Sp) : Int := Lib.compareInt x.1 y.1

set_option maxHeartbeats 1000000 in
theorem spClosure (x y : Sp) (W : World) : Calls Tryd.prog 73 #[.agg #[.int .i64 x.1, .int .i64 x.2], .agg #[.int .i64 y.1, .int .i64 y.2]] W fun e w' => e = .returned (.int .i64 (Lib.compareInt x.1 y.1)) ∧ ∃ q os', w' = grow (W.drewN q) os' := by
  have hcon := fun W' => Tryd.cmp_Compare_int x.1 y.1 W'
  generalize Lib.compareInt x.1 y.1 = r at hcon ⊢
  go_enter Tryd.func73, Tryd.ntmps73
  go_wp2_with (go_at_call 74; refine (hcon _).mono ?_; rintro e w' ⟨rfl, rfl⟩)
  go_ret
  exact ⟨rfl, 0, _, by rw [alloc_eq_grow, alloc_eq_grow, grow_grow]; rfl⟩

theorem spCmpLays (blk off size : Nat) (w : World) : CmpLays Tryd.prog 73 #[] spCells 2 spCmp blk off size w := fun _ _ _ _ x y => spClosure x y _

theorem spLt (x y : Sp) : ltOf spCmp x y = decide (x.1 < y.1) := by
  unfold ltOf spCmp Lib.compareInt
  by_cases h1 : x.1 < y.1
  · simp [h1]
  · by_cases h2 : y.1 < x.1 <;> simp [h1, h2]
theorem spSwo : SWO (ltOf spCmp) where
  irrefl x := by rw [spLt]; simp
  trans x y z h1 h2 := by rw [spLt] at *; simp at *; omega
  ntrans x y z h1 h2 := by rw [spLt] at *; simp at *; omega

/-- the spans, sorted as the library does it -/
def spSort (l : List Sp) : List Sp := (pdq (ltOf spCmp) l.toArray 0 l.length (Lib.bitLen l.length) true true).toList

/-- a row of spans that the call owns -/
def spFlat : List Sp → List Value
  | [] => []
  | x :: l => .int .i64 x.1 :: .int .i64 x.2 :: spFlat l
theorem spFlat_len : ∀ l : List Sp, (spFlat l).length = l.length * 2
  | [] => rfl
  | x :: l => by simp [spFlat, spFlat_len l]; omega
theorem spFlat_at : ∀ (l : List Sp) (i : Nat) (h : i < l.length), (spFlat l)[i * 2]? = some (.int .i64 l[i].1) ∧ (spFlat l)[i * 2 + 1]? = some (.int .i64 l[i].2)
  | [], i, h => by simp at h
  | x :: l, 0, h => by simp [spFlat]
  | x :: l, i + 1, h => by
    have := spFlat_at l i (by simpa using h)
    rw [show (i + 1) * 2 = i * 2 + 1 + 1 by omega, show i * 2 + 1 + 1 + 1 = (i * 2 + 1) + 1 + 1 by omega]
    simp only [spFlat, List.getElem?_cons_succ, List.getElem_cons_succ]
    exact this
theorem spFlat_append (a : List Sp) (x : Sp) : spFlat (a ++ [x]) = spFlat a ++ [.int .i64 x.1, .int .i64 x.2] := by
  induction a with
  | nil => rfl
  | cons y a ih => simp [spFlat, ih]

abbrev SpRow (w : World) (base : Nat) (v : Value) (l : List Sp) : Prop := w.ownsRow base 106 2 v l.length (spFlat l)

theorem SpRow.holds {w : World} {base g cap n : Nat} {l : List Sp} (h : SpRow w base (.slice (some ⟨g, 0, none⟩) n cap) l) : HoldsK spCells 2 w g 0 l.toArray ∧ g < w.heap.size := by
  rcases h.2 with ⟨e, _⟩ | ⟨g', cap', cur, e, _, hg, hnc, hcm, hcs, htake⟩
  · simp at e
  · simp only [Value.slice.injEq, Option.some.injEq, Addr.mk.injEq, and_true] at e
    obtain ⟨rfl, _, _⟩ := e
    refine ⟨fun j hj => ?_, lt_of_block hg⟩
    simp only [size_flatK, List.size_toArray] at hj
    rw [get_flatK _ _ _ _ (by simpa using hj)]
    have hjl : j / 2 < l.length := by omega
    have hget : (spFlat l)[j]? = some ((spCells (l.toArray[j / 2]!))[j % 2]!) := by
      have h1 := spFlat_at l (j / 2) hjl
      have h2 : l.toArray[j / 2]! = l[j / 2] := by simp [hjl]
      rw [h2]
      rcases Nat.mod_two_eq_zero_or_one j with h3 | h3
      · rw [h3]
        have h4 := h1.1
        rw [show j / 2 * 2 = j by omega] at h4
        exact h4
      · rw [h3]
        have h4 := h1.2
        rw [show j / 2 * 2 + 1 = j by omega] at h4
        exact h4
    have hcur : cur[j]? = some ((spCells (l.toArray[j / 2]!))[j % 2]!) := by
      rw [← hget, ← htake, List.getElem?_take, if_pos (by omega)]; simp
    constructor
    · simp only [World.cell?, hg, Option.isSome_none, Bool.false_eq_true, if_false, Nat.zero_add]; exact hcur
    · simp [World.frozen?, hg]

set_option maxHeartbeats 1000000 in
/-- the sort -/
theorem sort_spans (base : Nat) (v : Value) (l : List Sp) (w : World) (h : SpRow w base v l) (hsz : l.length < 4611686018427387904) :
    Calls Tryd.prog 72 #[v, .func (.func 73) #[] #[]] w fun e w' => e = .returned (.tuple #[]) ∧ RowAt 2 spCells w' v (spSort l) ∧ Mv (fun b => v.ownBlock = some b) w w' := by
  have eg : ∀ args w, (callFunc 73 args).run Tryd.prog w = .ok (.enter 73 args) w := enters_of Tryd.func73 (by kernel_rfl) rfl
  have hlen : (spSort l).length = l.length := by
    have hp := (pdq_sorts (ltOf spCmp) spSwo l.toArray 0 l.length (Lib.bitLen l.length) true true (Nat.zero_le _) (by simp) (Or.inl rfl)).1.1
    simpa [spSort] using hp
  rcases h.2 with ⟨rfl, hl⟩ | ⟨g, cap, cur, rfl, hb, hg, hnc, hcm, hcs, htake⟩
  · obtain rfl : l = [] := List.eq_nil_of_length_eq_zero hl
    have hcon := AnyF.slices_SortFunc_none Tryd.sortSpan none 0 (.func (.func 73) #[] #[]) w
    change Calls Tryd.prog 72 _ _ _ at hcon
    refine hcon.mono ?_
    rintro e w' ⟨rfl, rfl⟩
    have h0 : spSort [] = [] := List.eq_nil_of_length_eq_zero (by simpa using hlen)
    rw [h0]
    exact ⟨rfl, RowAt.nil _ _ _, Mv.refl _ _⟩
  · obtain ⟨hH, hblk⟩ := SpRow.holds h
    have hcon := AnyQ.slices_SortFunc_eq Tryd.sortSpan 2 Tryd.isAgg106 Tryd.sizeOf106 spCells (fun _ => rfl) (fun x v hv => by simp [spCells] at hv; rcases hv with rfl | rfl <;> rfl) spCmp spSwo 73 #[] g 0 cap l.toArray w eg (spCmpLays g 0 _ w) hH hblk (by simpa using hsz)
    change Calls Tryd.prog 72 _ _ _ at hcon
    simp only [List.size_toArray] at hcon
    refine hcon.mono ?_
    rintro e w' ⟨rfl, n, os, rfl⟩
    have hH2 := holdsK_sortWorldK_c spCells 2 w g 0 l.toArray (pdq (ltOf spCmp) l.toArray 0 l.length (Lib.bitLen l.length) true true) n os hH hblk (by have := hlen; simp only [spSort, Array.length_toList] at this; simpa using this)
    refine ⟨rfl, ⟨some ⟨g, 0, none⟩, cap, by rw [hlen], by rw [hlen]; exact hnc, by rw [hlen]; omega, fun i x hx => ⟨g, 0, rfl, fun j u hu => ?_⟩⟩, ?_⟩
    · have hi := (List.getElem?_eq_some_iff.1 hx).1
      have hj : j < 2 := by
        have := (List.getElem?_eq_some_iff.1 hu).1
        simpa [spCells] using this
      have hc := (hH2.cell (i := i) (c := j) (by simpa [spSort] using hi) hj).1
      rw [hc]
      have h1 : (pdq (ltOf spCmp) l.toArray 0 l.length (Lib.bitLen l.length) true true)[i]! = x := by
        have : (pdq (ltOf spCmp) l.toArray 0 l.length (Lib.bitLen l.length) true true)[i]? = some x := by simpa [spSort] using hx
        simp [getElem!_def, this]
      rw [h1]
      simp [getElem!_def, hu]
    · refine ⟨rfl, rfl, rfl, size_sortWorldK_c spCells 2 w g 0 n _ os, fun b hb hne => ?_⟩
      have hbg : g ≠ b := fun e => hne (by simp [Value.ownBlock, e])
      show (w.heap.modify g _ ++ os)[b]? = _
      rw [Array.getElem?_append_left (by simpa using hb), Array.getElem?_modify, if_neg hbg]

/-- walking the spans -/
def apLoop (first count : Int) : Int → List Sp → Bool
  | _, [] => true
  | used, x :: r => if x.1 < first then false
    else if wrap64 (x.1 - first) < used ∨ count ≤ wrap64 (x.1 - first) ∨ x.2 < 1 ∨ wrap64 (count - wrap64 (x.1 - first)) < x.2 then false
    else apLoop first count (wrap64 (wrap64 (x.1 - first) + x.2)) r
def apartB (l : List Sp) (first count : Int) : Bool := apLoop first count 0 (spSort l)

set_option maxRecDepth 100000 in
set_option maxHeartbeats 3200000 in
theorem apart_any (base : Nat) (v : Value) (l : List Sp) (first count : Int) (w : World) (h : SpRow w base v l) (hsz : l.length < 4611686018427387904) :
    Calls Tryd.prog 49 #[v, .int .i64 first, .int .i64 count] w fun e w' => e = .returned (.bool (apartB l first count)) ∧ Mv (fun b => v.ownBlock = some b) w w' := by
  have HS := Lib.hid (sort_spans base v l w h hsz)
  obtain ⟨va, vc, rfl⟩ : ∃ a c, v = .slice a l.length c := by
    rcases h.2 with ⟨rfl, hl⟩ | ⟨g, cap, cur, rfl, _⟩
    · exact ⟨none, 0, by rw [hl]⟩
    · exact ⟨_, _, rfl⟩
  clear h
  go_enter Tryd.func49, Tryd.ntmps49
  go_wp2_with fail
  refine HS.out.mono ?_
  rintro e w1 ⟨rfl, hrow, hm⟩
  have HB := Lib.hid (show apartB l first count = apLoop first count 0 (spSort l) from rfl)
  generalize spSort l = sl at *
  obtain ⟨a, cap, hv, hcap, hlen⟩ := hrow.form
  have HR := Lib.hid hrow
  have HM := Lib.hid hm
  simp only [Value.slice.injEq, true_and] at hv
  obtain ⟨rfl, hll, rfl⟩ := hv
  rw [hll] at HR HM ⊢
  clear hrow hm hll HS hsz
  go_wp2_with fail
  go_loopw [7, 15] (fun u t wr => ∃ (k : Nat) (used : Int), u = .int .i64 used ∧ t = .int .i64 k ∧ k ≤ sl.length ∧ Grow w1 wr ∧ apartB l first count = apLoop first count used (sl.drop k)) (fun _ t _ => sl.length - (intOf t).toNat)
  case atStart => exact ⟨0, 0, rfl, rfl, Nat.zero_le _, Mv.refl _ _, HB.out⟩
  obtain ⟨k, used, rfl, rfl, hk, hg, hap⟩ := hrel
  have HG := Lib.hid hg
  have HAP := Lib.hid hap
  have HMM := Lib.hid (Mv.trans HM.out hg (fun _ e => e.elim))
  clear hap
  by_cases hlt : k < sl.length
  · obtain ⟨b, off, cap', e, _, hcc⟩ := (HR.out.later hg).at hlt
    simp only [Value.slice.injEq, true_and] at e
    obtain ⟨rfl, rfl⟩ := e
    have c0 := hcc 0 _ rfl
    have c1 := hcc 1 _ rfl
    simp only [Nat.add_zero] at c0
    have hbl : b < wr.heap.size := World.block_lt_of_cell? wr _ c0
    have HD := Lib.hid (show sl.drop k = sl[k] :: sl.drop (k + 1) from (List.getElem_cons_drop hlt).symm)
    generalize hx : sl[k] = x at *
    obtain ⟨xa, xn⟩ := x
    simp only at c0 c1
    clear hcc hx hg
    by_cases h1 : xa < first
    · have HF := Lib.hid (show apartB l first count = false from by rw [HAP.out, HD.out]; simp only [apLoop]; rw [if_pos h1])
      go_wp2_with fail
      go_ret
      exact ⟨ret_bool (by rw [HF.out]), HMM.out.alloc _⟩
    · have HST := Lib.hid (show apartB l first count = (if wrap64 (xa - first) < used ∨ count ≤ wrap64 (xa - first) ∨ xn < 1 ∨ wrap64 (count - wrap64 (xa - first)) < xn then false else apLoop first count (wrap64 (wrap64 (xa - first) + xn)) (sl.drop (k + 1))) from by
        rw [HAP.out, HD.out]; simp only [apLoop]; rw [if_neg h1])
      generalize hsk : wrap64 (xa - first) = skip at *
      by_cases hbad : skip < used ∨ count ≤ skip ∨ xn < 1 ∨ wrap64 (count - skip) < xn
      · have HF := Lib.hid (show apartB l first count = false from by rw [HST.out, if_pos hbad])
        by_cases b1 : skip < used
        · go_wp2_with fail
          go_ret
          exact ⟨ret_bool (by rw [HF.out]), HMM.out.alloc _⟩
        · by_cases b2 : count ≤ skip
          · go_wp2_with fail
            go_ret
            exact ⟨ret_bool (by rw [HF.out]), HMM.out.alloc _⟩
          · by_cases b3 : xn < 1
            · clear hbad
              go_wp2_with fail
              go_ret
              exact ⟨ret_bool (by rw [HF.out]), HMM.out.alloc _⟩
            · have b4 : wrap64 (count - skip) < xn := by omega
              clear hbad
              go_wp2_with fail
              go_ret
              exact ⟨ret_bool (by rw [HF.out]), HMM.out.alloc _⟩
      · have HF := Lib.hid (show apartB l first count = apLoop first count (wrap64 (skip + xn)) (sl.drop (k + 1)) from by rw [HST.out, if_neg hbad])
        have b1 : ¬ skip < used := fun e => hbad (.inl e)
        have b2 : ¬ count ≤ skip := fun e => hbad (.inr (.inl e))
        have b3 : ¬ xn < 1 := fun e => hbad (.inr (.inr (.inl e)))
        have b4 : ¬ wrap64 (count - skip) < xn := fun e => hbad (.inr (.inr (.inr e)))
        clear hbad
        go_wp2_with fail
        go_roundw
        case rel => exact ⟨k + 1, wrap64 (skip + xn), rfl, by go_num, by omega, HG.out.alloc _, HF.out⟩
        case measure => simp [intOf]; omega
  · obtain rfl : k = sl.length := by omega
    have HF := Lib.hid (show apartB l first count = true from by rw [HAP.out, List.drop_length]; rfl)
    go_wp2_with fail
    go_ret
    exact ⟨ret_bool (by rw [HF.out]), HMM.out.mono (fun x e => .inl (by cases va with | none => simp [Value.ownBlock] at e | some a => simpa [Value.ownBlock] using e))⟩

end Go.Proofs.YtaabkaiifplhgaaDoor
