/- JournalRuns: the model's cut. -/
import Derived.Test.YtlcbfjcfkknmgaaMo
namespace Go.Proofs.Ytlcbfjcfkknmgaa
open Go.RowKit

attribute [local go_sem ↓] run_appOp

/-- the model cut to n, with or without the log -/
def MS.cutU (s : MS) (u : Bool) (n : Nat) : MS := ⟨s.ms.take n, if u then s.log ++ (s.ms.drop n).reverse else s.log, s.out⟩

theorem MS.cutU_true (s : MS) (n : Nat) : s.cutU true n = s.cut n := rfl
theorem MS.cutU_false (s : MS) (n : Nat) : s.cutU false n = s.forget n := rfl

/-- how many numbers the model holds -/
def mlen (M : Nat) (w : World) : Nat := match w.cell? ⟨M, 0, none⟩ with
  | some (.slice _ n _) => n
  | _ => 0
theorem Mo.mlen {M X : Nat} {w0 w : World} {lv gv ov : Value} {s : MS} (h : Mo M X w0 lv gv ov s w) : mlen M w = s.ms.length := by
  obtain ⟨a, c, rfl⟩ := row_form h.lr
  simp [Ytlcbfjcfkknmgaa.mlen, (m_cell h.m).1]
theorem MSt.mlen {M X : Nat} {w0 w : World} {s : MS} (h : MSt M X w0 s w) : Ytlcbfjcfkknmgaa.mlen M w = s.ms.length := by
  obtain ⟨lv, gv, ov, h⟩ := h
  exact h.mlen

/-- the last number of a row -/
theorem row_last {w : World} {base n : Nat} {v : Value} {xs : List Int} (h : w.ownsRow base 3 1 v xs.length (xs.map (Value.int .i64))) (hn : xs.length = n + 1) :
    ∃ g c, v = .slice (some ⟨g, 0, none⟩) (n + 1) c ∧ n + 1 ≤ c ∧ g < w.heap.size ∧ ∀ j, j < xs.length → w.cell? ⟨g, j, none⟩ = some (.int .i64 (xs.getD j 0)) := by
  rcases h.2 with ⟨_, h0⟩ | ⟨g, cap, cur, rfl, hb, hg, hnc, hcm, hcs, htake⟩
  · omega
  · refine ⟨g, cap, by rw [hn], by omega, lt_of_block hg, fun j hj => ?_⟩
    have := h.cellAt j (by omega)
    rw [this]
    simp [List.getD, hj]

/-- the model's numbers without the last one, copied -/
theorem Mo.shrink {M X : Nat} {w0 w : World} {lv gv ov : Value} {s : MS} {n : Nat} (h : Mo M X w0 lv gv ov s w) (hn : s.ms.length = n + 1) (hlen : n ≤ 100000) :
    ∃ g c a' c' w2, lv = .slice (some ⟨g, 0, none⟩) (n + 1) c ∧ n + 1 ≤ c ∧ (AppOK Try.prog 30 30 (.slice (some ⟨w.heap.size, 0, none⟩) 0 0) (.slice (some ⟨g, 0, none⟩) n c) (w.alloc (.cells #[] 3)).drew ∧
        appV Try.prog 30 30 (.slice (some ⟨w.heap.size, 0, none⟩) 0 0) (.slice (some ⟨g, 0, none⟩) n c) (w.alloc (.cells #[] 3)).drew = .slice a' n c' ∧ appW Try.prog 30 30 (.slice (some ⟨w.heap.size, 0, none⟩) 0 0) (.slice (some ⟨g, 0, none⟩) n c) (w.alloc (.cells #[] 3)).drew = w2) ∧
      (w2.cell? ⟨M, 0, none⟩ = some lv ∧ w2.cell? ⟨M, 1, none⟩ = some gv ∧ w2.cell? ⟨X, 0, none⟩ = some ov ∧ w2.frozen? ⟨M, 0, none⟩ = false ∧ M < w2.heap.size ∧ X < w2.heap.size) ∧ Hid (MSt M X w0 ⟨s.ms.take n, s.log, s.out⟩ (w2.setCell ⟨M, 0, none⟩ (.slice a' n c'))) := by
  obtain ⟨g, c, hv, hc, hg, hcells⟩ := row_last h.lr hn
  obtain ⟨i0, hi, hz0, hz1, hz2⟩ := info_parts Try.info3
  have hsz := h.mv.size
  have hem : (w.alloc (.cells #[] 3)).drew.ownsRow w0.heap.size 3 1 (.slice (some ⟨w.heap.size, 0, none⟩) 0 0) 0 [] := by
    have := World.ownsRow_lit (base := w0.heap.size) (e := 3) (size := 1) w #[] 0 (by omega) (Nat.zero_le _) rfl
    exact this.drew
  obtain ⟨v', w2, hr, hown, hgrow, _, hnew⟩ := run_append_own2 (P := Try.prog) (w.alloc (.cells #[] 3)).drew w0.heap.size 30 30 3 i0 (.int .i64 0) 1 8 Try.underlying30 hi hz0 hz1 hz2 rfl (by decide) _ 0 [] hem ⟨g, 0, none⟩ n c ((s.ms.take n).map (Value.int .i64)) (by simp; omega)
    (fun j u hj => by
      have hjl := (List.getElem?_eq_some_iff.1 hj).1
      simp only [List.length_map, List.length_take] at hjl
      have h1 := hcells j (by omega)
      have h2 : u = .int .i64 (s.ms.getD j 0) := by
        rw [List.getElem?_map, List.getElem?_take, if_pos (by omega)] at hj
        rw [List.getElem?_eq_getElem (by omega)] at hj
        simp at hj
        rw [← hj]
        simp [List.getD, show j < s.ms.length by omega]
      subst h2
      rw [← h1]
      have hadd : (⟨g, 0, none⟩ : Addr).add j = ⟨g, j, none⟩ := by unfold Addr.add; split <;> simp_all
      rw [hadd]
      exact World.cell?_of_block (w := w) (w' := (w.alloc (.cells #[] 3)).drew) (a := ⟨g, j, none⟩) (Below.heap_alloc w (.cells #[] 3) g hg)) (fun u hu => by obtain ⟨x, _, rfl⟩ := List.mem_map.1 hu; rfl) (by unfold maxLen; omega) (by omega) (by simp; omega)
  simp only [Nat.zero_add, List.nil_append] at hown
  obtain ⟨a', c', rfl⟩ := row_form hown
  obtain ⟨hok, hv2, hw2⟩ := app_of hr
  have hlt : (s.ms.take n).length = n := by simp; omega
  have hmv : Mv (fun b => lv.ownBlock = some b) w w2 := ((Mv.refl _ _).alloc _).drew.grown hgrow (fun k hk => .inr (by simp [Value.ownBlock] at hk; omega))
  have h3 := h.setL (xs2 := s.ms.take n) (by rw [hlt]; exact hown) hmv (fun k hk => .inr (by
    rcases hnew k hk with h1 | h1
    · simp [Value.ownBlock] at h1; omega
    · simp at h1; omega))
  exact ⟨g, c, a', c', w2, hv, hc, ⟨hok, hv2, hw2⟩, h3.1, Lib.hid h3.2⟩

theorem MS.cutU_step (s : MS) (n : Nat) (h : n < s.ms.length) : s.cutU true n = ⟨(s.cutU true (n + 1)).ms.take n, (s.cutU true (n + 1)).log ++ [s.ms[n]], (s.cutU true (n + 1)).out⟩ := by
  have h5 : s.ms.drop n = s.ms[n] :: s.ms.drop (n + 1) := (List.getElem_cons_drop h).symm
  simp only [MS.cutU, if_true, List.take_take]
  rw [h5, List.reverse_cons, List.append_assoc, Nat.min_eq_left (by omega)]
theorem MS.cutU_step' (s : MS) (n : Nat) : s.cutU false n = ⟨(s.cutU false (n + 1)).ms.take n, (s.cutU false (n + 1)).log, (s.cutU false (n + 1)).out⟩ := by
  simp only [MS.cutU, List.take_take, Bool.false_eq_true, if_false]
  rw [Nat.min_eq_left (by omega)]
theorem MS.cutU_all (s : MS) (u : Bool) : s.cutU u s.ms.length = s := by cases u <;> simp [MS.cutU]
theorem MS.cutU_len (s : MS) (u : Bool) (n : Nat) (h : n ≤ s.ms.length) : (s.cutU u n).ms.length = n := by simp [MS.cutU]; omega
theorem MS.cutU_log (s : MS) (u : Bool) (n : Nat) : (s.cutU u n).log.length ≤ s.ms.length + s.log.length := by cases u <;> simp [MS.cutU] <;> omega

set_option maxRecDepth 100000 in
set_option maxHeartbeats 1600000 in
theorem cut_forget (M X : Nat) (w0 : World) (s : MS) (k : Nat) (w : World) (h : MSt M X w0 s w) (hk : k ≤ s.ms.length) (hlen : s.ms.length + s.log.length ≤ 1000) :
    Calls Try.prog 56 #[.pointer (some ⟨M, 0, none⟩), .int .i64 k, .bool false] w fun e w' => e = .returned (.tuple #[]) ∧ MSt M X w0 (s.cutU false k) w' := by
  have H := Lib.hid h
  clear h
  go_enter Try.func56, Try.ntmps56
  go_wp2_with fail
  go_loopw [] (fun wr => ∃ m, k ≤ m ∧ m ≤ s.ms.length ∧ MSt M X w0 (s.cutU false m) wr) (fun wr => mlen M wr)
  case atStart => exact ⟨s.ms.length, hk, Nat.le_refl _, by rw [s.cutU_all]; exact H.out⟩
  case round =>
    obtain ⟨m, hm1, hm2, lv, gv, ov, hmo⟩ := hrel
    have hl := s.cutU_len false m hm2
    by_cases hlt : k < m
    · obtain ⟨n, rfl⟩ : ∃ n, m = n + 1 := ⟨m - 1, by omega⟩
      have hn2 := s.cutU_log false (n + 1)
      have HJL := Lib.hid hmo.mlen
      have HLE := Lib.hid hl
      obtain ⟨g, c, a', c', w2, rfl, hc, ⟨hok, hv, hw⟩, ⟨x1, x2, x3, x4, x5, x6⟩, HF⟩ := hmo.shrink hl (by omega)
      have c0 := (m_cell hmo.m).1
      have hMl := lt_of_block hmo.m
      have HST := Lib.hid (show MSt M X w0 (s.cutU false n) (w2.setCell ⟨M, 0, none⟩ (.slice a' n c')) from by rw [s.cutU_step']; exact HF.out)
      clear hmo hl hn2 HF
      go_wp2_with fail
      go_region
      go_wp2_with fail
      go_roundw
      case rel => exact ⟨n, by omega, by omega, HST.out⟩
      case measure => rw [HST.out.mlen, HJL.out, HLE.out, s.cutU_len false n (by omega)]; omega
    · obtain rfl : m = k := by omega
      obtain ⟨a1, c1, hlv⟩ := row_form hmo.lr
      subst hlv
      have c0 := (m_cell hmo.m).1
      rw [hl] at c0
      have HM := Lib.hid hmo
      clear hmo hl
      go_wp2_with fail
      go_end0
      exact ⟨rfl, _, _, _, HM.out⟩

set_option maxRecDepth 100000 in
set_option maxHeartbeats 1600000 in
theorem cut_undo (M X : Nat) (w0 : World) (s : MS) (k : Nat) (w : World) (h : MSt M X w0 s w) (hk : k ≤ s.ms.length) (hlen : s.ms.length + s.log.length ≤ 1000) :
    Calls Try.prog 56 #[.pointer (some ⟨M, 0, none⟩), .int .i64 k, .bool true] w fun e w' => e = .returned (.tuple #[]) ∧ MSt M X w0 (s.cutU true k) w' := by
  have H := Lib.hid h
  clear h
  go_enter Try.func56, Try.ntmps56
  go_wp2_with fail
  go_loopw [] (fun wr => ∃ m, k ≤ m ∧ m ≤ s.ms.length ∧ MSt M X w0 (s.cutU true m) wr) (fun wr => mlen M wr)
  case atStart => exact ⟨s.ms.length, hk, Nat.le_refl _, by rw [s.cutU_all]; exact H.out⟩
  case round =>
    obtain ⟨m, hm1, hm2, lv, gv, ov, hmo⟩ := hrel
    have hl := s.cutU_len true m hm2
    by_cases hlt : k < m
    · obtain ⟨n, rfl⟩ : ∃ n, m = n + 1 := ⟨m - 1, by omega⟩
      have hn2 := s.cutU_log true (n + 1)
      have HJL := Lib.hid hmo.mlen
      have HLE := Lib.hid hl
      obtain ⟨g, c, hlv, hc, hg, hcells⟩ := row_last hmo.lr hl
      subst hlv
      have cx := hcells n (by omega)
      have hx : (s.cutU true (n + 1)).ms.getD n 0 = s.ms[n] := by simp [MS.cutU, List.getD, show n < s.ms.length by omega]
      rw [hx] at cx
      obtain ⟨c0, c1⟩ := m_cell hmo.m
      have hMl := lt_of_block hmo.m
      obtain ⟨ga, gc, hgv⟩ := row_form hmo.gr
      obtain ⟨a1, b1, w2, ⟨hok, hv, hw⟩, ⟨x1, x2, x3, x4, x5, x6⟩, HF⟩ := hmo.appG (x := s.ms[n]) (.inl rfl) (by omega)
      subst hgv
      obtain ⟨lv2, gv2, ov2, hmo2⟩ := HF.out
      obtain ⟨g2, c2, a', c', w3, rfl, hc2, ⟨hok2, hv2, hw2⟩, ⟨y1, y2, y3, y4, y5, y6⟩, HF2⟩ := hmo2.shrink hl (by omega)
      have d0 := (m_cell hmo2.m).1
      have hMl2 := lt_of_block hmo2.m
      have HST := Lib.hid (show MSt M X w0 (s.cutU true n) (w3.setCell ⟨M, 0, none⟩ (.slice a' n c')) from by rw [s.cutU_step n (by omega)]; exact HF2.out)
      generalize (s.cutU true (n + 1)).log.length = gl at *
      generalize hww : w2.setCell ⟨M, 1, none⟩ (.slice a1 (gl + 1) b1) = w4 at *
      have HWW := Lib.hid hww
      clear hmo hmo2 hl hn2 HF HF2 hcells hx hww
      go_wp2_with fail
      go_region
      rw [HWW.out]
      clear c0 c1 cx hok hv hw x1 x2 x3 x4 x5 x6
      go_wp2_with fail
      go_region
      go_wp2_with fail
      go_roundw
      case rel => exact ⟨n, by omega, by omega, HST.out⟩
      case measure => rw [HST.out.mlen, HJL.out, HLE.out, s.cutU_len true n (by omega)]; omega
    · obtain rfl : m = k := by omega
      obtain ⟨a1, c1, hlv⟩ := row_form hmo.lr
      subst hlv
      have c0 := (m_cell hmo.m).1
      rw [hl] at c0
      have HM := Lib.hid hmo
      clear hmo hl
      go_wp2_with fail
      go_end0
      exact ⟨rfl, _, _, _, HM.out⟩

end Go.Proofs.Ytlcbfjcfkknmgaa
