/- JournalRuns: the walk of the law. -/
import Derived.Test.YtlcbfjcfkknmgaaMrun
namespace Go.Proofs.Ytlcbfjcfkknmgaa
open Go.RowKit

attribute [local go_sem ↓] run_appOp

theorem mruns_all (M X : Nat) (W w0 : World) (hW : Old W w0) (hWs : W.heap.size ≤ w0.heap.size) : ∀ f, MRuns M X W w0 f := by
  intro f
  induction f with
  | zero => intro v s w ht; exact ht.elim
  | succ f ih => exact mrun_step M X W w0 f hW hWs ih

theorem runs_all (J R : Nat) (W : World) (hR : W.heap.size ≤ R) : ∀ f, Runs J R W f := by
  intro f
  induction f with
  | zero => intro v s fs el w1 O1 ht; exact ht.elim
  | succ f ih => exact run_step J R W f hR ih

set_option maxRecDepth 100000 in
set_option maxHeartbeats 3200000 in
/-- the model runs the whole program as one transaction -/
theorem mrun_top (M X B : Nat) (W w0 : World) (f : Nat) (v : Value) (s : MS) (w1 : World) (ih : MRuns M X W w0 f) (ht : Tree W f v) (hlen : s.ms.length + s.log.length + cnt W f v ≤ 900) (hlen2 : s.out.length + cnt W f v ≤ 900)
    (hB : w1.heap[B]? = some (.cells #[.int .i64 5, .int .i64 0, v] 55 (0, 0))) (h : MSt M X w0 s w1) :
    Calls Try.prog 34 #[.pointer (some ⟨M, 0, none⟩), .slice (some ⟨B, 0, none⟩) 1 1, .pointer (some ⟨X, 0, none⟩)] w1 fun e w' => e = .returned (.tuple #[.int .i64 0, .bool true]) ∧ MSt M X w0 (mtry s (mrun W f v s)) w' := by
  obtain ⟨ka, kn, kc, rfl⟩ := ht.form
  have HT := Lib.hid ht
  have HB := Lib.hid hB
  have H0 := Lib.hid h
  have IH := Lib.hid ih
  clear ht hB h ih
  go_enter Try.func34, Try.ntmps34
  go_wp2_with fail
  go_loopw [8] (fun i wr => (i = .int .i64 0 ∧ w1 = wr) ∨ (i = .int .i64 1 ∧ MSt M X w0 (mtry s (mrun W f (.slice ka kn kc) s)) wr)) (fun i _ => 1 - (intOf i).toNat)
  case atStart => exact .inl ⟨rfl, rfl⟩
  rcases hrel with ⟨rfl, rfl⟩ | ⟨rfl, hst⟩
  · have c0 : w1.cell? ⟨B, 0, none⟩ = some (.int .i64 5) := by simp [World.cell?, HB.out]
    have c1 : w1.cell? ⟨B, 1, none⟩ = some (.int .i64 0) := o_cell1 HB.out
    have c2 : w1.cell? ⟨B, 2, none⟩ = some (.slice ka kn kc) := o_cell2 HB.out
    have hBl := lt_of_block HB.out
    obtain ⟨lv, gv, ov, hmo⟩ := H0.out
    have hmo1 := hmo.later (w' := w1.alloc (.cells #[.int .i64 5, .int .i64 0, .slice ka kn kc] 55)) ((Mv.refl _ _).alloc _)
    obtain ⟨la, lc, ga, gc, oa, oc, rfl, rfl, rfl, m0, x0, hMl, hXl⟩ := hmo.know
    have HIH := Lib.hid (IH.out _ s _ HT.out (by omega) (by omega) ⟨_, _, _, hmo1⟩)
    have HSZ := Lib.hid (mrun_size W f (.slice ka kn kc) s)
    clear hmo hmo1
    generalize hr : mrun W f (.slice ka kn kc) s = r at *
    clear hr
    go_wp2_with fail
    refine HIH.out.mono ?_
    obtain ⟨u, x⟩ := r
    have hsz := HSZ.out
    simp only at hsz
    cases x with
    | none =>
      rintro e w2 ⟨rfl, lv2, gv2, ov2, hmo2⟩
      simp only [errOf, okOf, Option.getD_none, Option.isNone_none]
      obtain ⟨la2, lc2, ga2, gc2, oa2, oc2, rfl, rfl, rfl, m2, x2, hMl2, hXl2⟩ := hmo2.know
      obtain ⟨a', c', w3, ⟨hok, hv, hw⟩, ⟨y1, y2, y3, y4, y5, y6⟩, HF⟩ := hmo2.appO (x := 0) (.inr rfl) (by simp only; omega)
      clear hmo2 m0 x0 c0 c1 c2
      go_wp2_with fail
      go_roundw
      case rel => exact .inr ⟨rfl, HF.out⟩
      case measure => simp [intOf]
    | some x =>
      rintro e w2 ⟨rfl, hst⟩
      simp only [errOf, okOf, Option.getD_some, Option.isNone_some]
      by_cases h3 : s.ms.length ≤ u.ms.length
      · have hcut := cut_undo M X w0 u s.ms.length w2 hst h3 (by omega)
        rw [u.cutU_true] at hcut
        have HCUT := Lib.hid hcut
        obtain ⟨lv2, gv2, ov2, hmo2⟩ := hst
        obtain ⟨la2, lc2, ga2, gc2, oa2, oc2, rfl, rfl, rfl, m2, x2, hMl2, hXl2⟩ := hmo2.know
        clear hmo2 m0 x0 c0 c1 c2 hcut
        go_wp2_with fail
        refine HCUT.out.mono ?_
        rintro e w3 ⟨rfl, lv3, gv3, ov3, hmo3⟩
        obtain ⟨la3, lc3, ga3, gc3, oa3, oc3, rfl, rfl, rfl, m3, x3, hMl3, hXl3⟩ := hmo3.know
        obtain ⟨a', c', w4, ⟨hok, hv, hw⟩, ⟨y1, y2, y3, y4, y5, y6⟩, HF⟩ := hmo3.appO (x := x) (.inr rfl) (by simp only [MS.cut]; omega)
        clear hmo3 m2 x2
        go_wp2_with fail
        go_roundw
        case rel => exact .inr ⟨rfl, HF.out⟩
        case measure => simp [intOf]
      · have hcut := cut_undo M X w0 u u.ms.length w2 hst (Nat.le_refl _) (by omega)
        have hce : u.cutU true u.ms.length = u.cut s.ms.length := by
          rw [u.cutU_true]
          simp only [MS.cut]
          rw [List.take_length, List.drop_length, List.take_of_length_le (by omega), List.drop_of_length_le (by omega)]
        rw [hce] at hcut
        clear hce
        have HCUT := Lib.hid hcut
        obtain ⟨lv2, gv2, ov2, hmo2⟩ := hst
        obtain ⟨la2, lc2, ga2, gc2, oa2, oc2, rfl, rfl, rfl, m2, x2, hMl2, hXl2⟩ := hmo2.know
        clear hmo2 m0 x0 c0 c1 c2 hcut
        go_wp2_with fail
        refine HCUT.out.mono ?_
        rintro e w3 ⟨rfl, lv3, gv3, ov3, hmo3⟩
        obtain ⟨la3, lc3, ga3, gc3, oa3, oc3, rfl, rfl, rfl, m3, x3, hMl3, hXl3⟩ := hmo3.know
        obtain ⟨a', c', w4, ⟨hok, hv, hw⟩, ⟨y1, y2, y3, y4, y5, y6⟩, HF⟩ := hmo3.appO (x := x) (.inr rfl) (by simp only [MS.cut]; omega)
        clear hmo3 m2 x2
        go_wp2_with fail
        go_roundw
        case rel => exact .inr ⟨rfl, HF.out⟩
        case measure => simp [intOf]
  · have HST := Lib.hid hst
    clear hst
    go_wp2_with fail
    go_ret2
    exact ⟨rfl, HST.out⟩

set_option maxHeartbeats 800000 in
theorem act_32 (J R rb lb : Nat) (W : World) (f : Nat) (kv : Value) (s : MS) (fs : List Value) (el : List (Nat × Obj)) (hR : W.heap.size ≤ R) (hruns : Runs J R W f) (ht : Tree W f kv)
    (hlen : s.ms.length + s.log.length + cnt W f kv ≤ 1000) (hlen2 : s.out.length + cnt W f kv ≤ 1000) (hfn : Fns el R s.ms fs) (e1 : (rb, Obj.cells #[.pointer (some ⟨R, 0, none⟩)] 45 (0, 0)) ∈ el) (e2 : (lb, Obj.cells #[kv] 22 (0, 0)) ∈ el) (w1 : World) (O1 : Nat → Prop)
    (h : St J (RnE NoP J R W s.log s.out el) w1 O1 fs false w1) :
    Calls Try.prog 32 #[.pointer (some ⟨rb, 0, none⟩), .pointer (some ⟨lb, 0, none⟩)] w1 (ActPost J (RunOk J R W (mrun W f kv s) el) (RunFail J R W (mrun W f kv s) el) (fun _ _ _ => False) w1 O1) := by
  obtain ⟨lv, ov, -, hn⟩ := h.user
  have hx := cell_of_one (hn.ex _ e1).1
  have ho := cell_of_one (hn.ex _ e2).1
  have HP := Lib.hid (hruns kv s fs el w1 O1 ht hlen hlen2 hfn h)
  have HSZ := Lib.hid (mrun_size W f kv s)
  obtain ⟨ka, kn, kc, rfl⟩ := ht.form
  clear h hruns ht hn
  generalize hr : mrun W f _ s = r at *
  clear hr
  go_enter Try.func32, Try.ntmps32
  go_wp2_with fail
  refine HP.out.mono ?_
  rintro e w2 ⟨he, hran⟩
  have HA := Lib.hid (act_of J R W r el w1 w2 O1 e hR (by have := HSZ.out; omega) he hran)
  clear hran
  obtain ⟨t, x⟩ := r
  cases x with
  | none =>
    obtain rfl := he
    go_wp2_with fail
    go_end0
    exact HA.out
  | some x =>
    obtain rfl := he
    exact ⟨rfl, HA.out⟩

end Go.Proofs.Ytlcbfjcfkknmgaa
