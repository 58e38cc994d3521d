/- JournalRuns: the model's Run. -/
import Derived.Test.YtlcbfjcfkknmgaaMcut
namespace Go.Proofs.Ytlcbfjcfkknmgaa
open Go.RowKit

attribute [local go_sem ↓] run_appOp

def errOf (r : Option Int) : Int := r.getD 0
def okOf (r : Option Int) : Bool := r.isNone

/-- what a run of the model leaves -/
def MRan (M X : Nat) (w0 : World) (r : MS × Option Int) (e : Ending) (w : World) : Prop := e = .returned (.tuple #[.int .i64 (errOf r.2), .bool (okOf r.2)]) ∧ MSt M X w0 r.1 w

def MRuns (M X : Nat) (W w0 : World) (f : Nat) : Prop :=
  ∀ (v : Value) (s : MS) (w : World), Tree W f v → s.ms.length + s.log.length + cnt W f v ≤ 1000 → s.out.length + cnt W f v ≤ 1000 → MSt M X w0 s w →
    Calls Try.prog 34 #[.pointer (some ⟨M, 0, none⟩), v, .pointer (some ⟨X, 0, none⟩)] w (MRan M X w0 (mrun W f v s))

theorem Mv.drewN {O : Nat → Prop} {a w : World} (h : Mv O a w) (n : Nat) : Mv O a (w.drewN n) := ⟨h.os, h.tape, h.output, h.size, h.block⟩

theorem Mo.old {M X : Nat} {W w0 w : World} {lv gv ov : Value} {s : MS} (h : Mo M X w0 lv gv ov s w) (hW : Old W w0) (hs : W.heap.size ≤ w0.heap.size) : Old W w := fun b hb => by
  rw [h.mv.block b (by omega) (fun h => h)]; exact hW b hb

/-- what is known of the model for a walk -/
theorem Mo.know {M X : Nat} {w0 w : World} {lv gv ov : Value} {s : MS} (h : Mo M X w0 lv gv ov s w) :
    ∃ la lc ga gc oa oc, lv = .slice la s.ms.length lc ∧ gv = .slice ga s.log.length gc ∧ ov = .slice oa s.out.length oc ∧ w.cell? ⟨M, 0, none⟩ = some lv ∧ w.cell? ⟨X, 0, none⟩ = some ov ∧ M < w.heap.size ∧ X < w.heap.size := by
  obtain ⟨la, lc, h1⟩ := row_form h.lr
  obtain ⟨ga, gc, h2⟩ := row_form h.gr
  obtain ⟨oa, oc, h3⟩ := row_form h.our
  exact ⟨la, lc, ga, gc, oa, oc, h1, h2, h3, (m_cell h.m).1, cell_of_one h.x, lt_of_block h.m, lt_of_block h.x⟩

set_option maxRecDepth 100000 in
set_option maxHeartbeats 3200000 in
theorem mrun_step (M X : Nat) (W w0 : World) (f : Nat) (hW : Old W w0) (hWs : W.heap.size ≤ w0.heap.size) (ih : MRuns M X W w0 f) : MRuns M X W w0 (f + 1) := by
  intro v s w1 ht hlen hlen2 h
  obtain ⟨hin, hkids⟩ := ht
  obtain ⟨a, cap, hv, hlenl⟩ := hin.form
  have hce : cnt W (f + 1) v = cntTo W f (ops W v) (ops W v).length := by unfold cntTo; rw [List.take_length]; rfl
  have hme : mrun W (f + 1) v s = mlist (mrun W f) (ops W v) s := rfl
  rw [hce] at hlen hlen2
  rw [hme]
  generalize hl : ops W v = l at *
  subst hv
  have H0 := Lib.hid h
  have HIN := Lib.hid hin
  have HK := Lib.hid hkids
  have IH := Lib.hid ih
  have HW := Lib.hid hW
  clear h hin hkids ih hl hce hme hW
  go_enter Try.func34, Try.ntmps34
  go_wp2_with fail
  go_loopw [8] (fun i wr => ∃ k : Nat, i = .int .i64 k ∧ k ≤ l.length ∧ ∃ t, mlist (mrun W f) (l.take k) s = (t, none) ∧ MSt M X w0 t wr) (fun i _ => l.length - (intOf i).toNat)
  case atStart => exact ⟨0, rfl, Nat.zero_le _, s, rfl, H0.out⟩
  obtain ⟨k, rfl, hk, t, hmt, lv, gv, ov, hmo⟩ := hrel
  have hbd := mlist_bd W f l k s t hmt
  have hca := cntTo_all W f l k
  have HMT := Lib.hid hmt
  clear hmt
  by_cases hlt : k < l.length
  · obtain ⟨b, off, cap', e, hb, c0, c1, c2⟩ := HIN.out.at (hmo.old HW.out hWs) hlt
    simp only [Value.slice.injEq, true_and] at e
    obtain ⟨rfl, rfl⟩ := e
    have hs := cntTo_succ W f l k hlt
    have hca1 := cntTo_all W f l (k + 1)
    have hbl : b < wr.heap.size := World.block_lt_of_cell? wr _ c0
    have htk := HK.out l[k] (List.getElem_mem hlt)
    have HSN := Lib.hid (mlist_snoc (mrun W f) l k hlt s t HMT.out)
    have HFL := Lib.hid (fun u e => mlist_fail (mrun W f) l k hlt s t u e HMT.out)
    generalize hok : l[k] = o at *
    obtain ⟨kd, n, kv⟩ := o
    simp only at c0 c1 c2 htk hs
    obtain ⟨ka, kn, kc, rfl⟩ := htk.form
    have HT := Lib.hid htk
    have HS := Lib.hid hs
    have hcc : cntTo W f l k + 1 + cnt W f (.slice ka kn kc) ≤ cntTo W f l l.length := by omega
    have hmo1 := hmo.later (w' := wr.alloc (.cells #[.int .i64 kd, .int .i64 n, .slice ka kn kc] 55)) ((Mv.refl _ _).alloc _)
    obtain ⟨la, lc, ga, gc, oa, oc, rfl, rfl, rfl, m0, x0, hMl, hXl⟩ := hmo.know
    clear htk hs hok hca1
    by_cases h1 : kd = 1
    · subst h1
      have HMS := Lib.hid (show mstep (mrun W f) ⟨1, n, .slice ka kn kc⟩ t = (t.push n, none) from by simp [mstep])
      obtain ⟨a', c', w2, ⟨hok, hv, hw⟩, ⟨x1, x2, x3, x4, x5, x6⟩, HF⟩ := hmo1.appL (x := n) (.inl rfl) (by omega)
      rw [World.size_alloc] at hok hv hw
      clear hmo hmo1
      go_wp2_with fail
      go_region
      go_wp2_with fail
      go_roundw
      case rel => exact ⟨k + 1, by go_num, by omega, t.push n, by rw [HSN.out, HMS.out], HF.out⟩
      case measure => simp [intOf]; omega
    · have h1b : (kd == 1) = false := by simpa using h1
      by_cases h6 : kd = 6
      · subst h6
        have HMS := Lib.hid (show mstep (mrun W f) ⟨6, n, .slice ka kn kc⟩ t = (t.push (wrap64 (-1000000 - n)), none) from by simp [mstep])
        obtain ⟨a', c', w2, ⟨hok, hv, hw⟩, ⟨x1, x2, x3, x4, x5, x6⟩, HF⟩ := hmo1.appL (x := wrap64 (-1000000 - n)) (.inl rfl) (by omega)
        rw [World.size_alloc] at hok hv hw
        clear hmo hmo1 h1 h1b
        go_wp2_with fail
        go_region
        go_wp2_with fail
        go_roundw
        case rel => exact ⟨k + 1, by go_num, by omega, t.push (wrap64 (-1000000 - n)), by rw [HSN.out, HMS.out], HF.out⟩
        case measure => simp [intOf]; omega
      · have h6b : (kd == 6) = false := by simpa using h6
        by_cases h23 : kd = 2 ∨ kd = 3
        · rcases h23 with hkd | hkd
          · subst hkd
            have HMS := Lib.hid (mstep_2 (mrun W f) ⟨2, n, .slice ka kn kc⟩ t rfl)
            by_cases hneg : n < 0
            · have hd1 : decide (n < 0) = true := by simpa using hneg
              have HEN := Lib.hid (show ((t.rew n).say (t.err n)) = t.say 2 from by simp [MS.rew, MS.err, hneg])
              have HMO := Lib.hid hmo1
              clear hmo hmo1
              go_wp2_with fail
              go_quiet (fail)
              generalize hwq : World.drewN _ _ = wq at *
              have hmo2 : Mo M X w0 (.slice la t.ms.length lc) (.slice ga t.log.length gc) (.slice oa t.out.length oc) t wq := by rw [← hwq]; exact HMO.out.later ((Mv.refl _ _).drewN _)
              obtain ⟨la2, lc2, ga2, gc2, oa2, oc2, -, -, -, m2, x2, hMl2, hXl2⟩ := hmo2.know
              obtain ⟨a', c', w3, ⟨hok, hv, hw⟩, ⟨y1, y2, y3, y4, y5, y6⟩, HF⟩ := hmo2.appO (x := 2) (.inr rfl) (by omega)
              clear hmo2 hwq m0 x0 c0 c1 c2
              go_wp2_with fail
              go_roundw
              case rel => exact ⟨k + 1, by go_num, by omega, t.say 2, by rw [HSN.out, HMS.out, HEN.out], HF.out⟩
              case measure => simp [intOf]; omega
            · have hd1 : decide (n < 0) = false := by simpa using hneg
              by_cases hbig : (t.ms.length : Int) < n
              · have hd2 : decide ((t.ms.length : Int) < n) = true := by simpa using hbig
                have HEN := Lib.hid (show ((t.rew n).say (t.err n)) = t.say 2 from by simp [MS.rew, MS.err, hbig])
                have HMO := Lib.hid hmo1
                clear hmo hmo1
                go_wp2_with fail
                go_quiet (fail)
                generalize hwq : World.drewN _ _ = wq at *
                have hmo2 : Mo M X w0 (.slice la t.ms.length lc) (.slice ga t.log.length gc) (.slice oa t.out.length oc) t wq := by rw [← hwq]; exact HMO.out.later ((Mv.refl _ _).drewN _)
                obtain ⟨la2, lc2, ga2, gc2, oa2, oc2, -, -, -, m2, x2, hMl2, hXl2⟩ := hmo2.know
                obtain ⟨a', c', w3, ⟨hok, hv, hw⟩, ⟨y1, y2, y3, y4, y5, y6⟩, HF⟩ := hmo2.appO (x := 2) (.inr rfl) (by omega)
                clear hmo2 hwq m0 x0 c0 c1 c2
                go_wp2_with fail
                go_roundw
                case rel => exact ⟨k + 1, by go_num, by omega, t.say 2, by rw [HSN.out, HMS.out, HEN.out], HF.out⟩
                case measure => simp [intOf]; omega
              · have hd2 : decide ((t.ms.length : Int) < n) = false := by simpa using hbig
                obtain ⟨q, rfl⟩ : ∃ q : Nat, n = q := ⟨n.toNat, by omega⟩
                have HEN := Lib.hid (show ((t.rew q).say (t.err q)) = (t.cutU true q).say 0 from by simp only [MS.rew, MS.err]; rw [if_neg (by omega), if_neg (by omega)]; rfl)
                have HMO := Lib.hid hmo1
                have hobn : (wr.alloc (.cells #[.int .i64 2, .int .i64 q, .slice ka kn kc] 55)).heap[wr.heap.size]? = some (.cells #[.int .i64 2, .int .i64 q, .slice ka kn kc] 55 (0, 0)) := heap_alloc_new wr _
                have HOB := Lib.hid hobn
                clear hmo hmo1 hobn
                go_wp2_with fail
                go_quiet (fail)
                generalize hwq : World.drewN _ _ = wq at *
                have hmo2 : Mo M X w0 (.slice la t.ms.length lc) (.slice ga t.log.length gc) (.slice oa t.out.length oc) t wq := by rw [← hwq]; exact HMO.out.later ((Mv.refl _ _).drewN _)
                have hob2 : wq.heap[wr.heap.size]? = some (.cells #[.int .i64 2, .int .i64 q, .slice ka kn kc] 55 (0, 0)) := by rw [← hwq]; exact HOB.out
                have o1 := o_cell1 hob2
                have o0 : wq.cell? ⟨wr.heap.size, 0, none⟩ = some (.int .i64 2) := by simp [World.cell?, hob2]
                obtain ⟨la2, lc2, ga2, gc2, oa2, oc2, -, -, -, m2, x2, hMl2, hXl2⟩ := hmo2.know
                have HCUT := Lib.hid (cut_undo M X w0 t q wq ⟨_, _, _, hmo2⟩ (by omega) (by omega))
                clear hmo2 hwq m0 x0 c0 c1 c2 hob2
                go_wp2_with fail
                refine HCUT.out.mono ?_
                rintro e w3 ⟨rfl, lv3, gv3, ov3, hmo3⟩
                obtain ⟨la3, lc3, ga3, gc3, oa3, oc3, rfl, rfl, rfl, m3, x3, hMl3, hXl3⟩ := hmo3.know
                obtain ⟨a', c', w4, ⟨hok, hv, hw⟩, ⟨y1, y2, y3, y4, y5, y6⟩, HF⟩ := hmo3.appO (x := 0) (.inr rfl) (by simp only [MS.cutU]; omega)
                clear hmo3 m2 x2
                go_wp2_with fail
                go_roundw
                case rel => exact ⟨k + 1, by go_num, by omega, (t.cutU true q).say 0, by rw [HSN.out, HMS.out, HEN.out], HF.out⟩
                case measure => simp [intOf]; omega
          · subst hkd
            have HMS := Lib.hid (mstep_3 (mrun W f) ⟨3, n, .slice ka kn kc⟩ t rfl)
            by_cases hneg : n < 0
            · have hd1 : decide (n < 0) = true := by simpa using hneg
              have HEN := Lib.hid (show ((t.forg n).say (t.err n)) = t.say 2 from by simp [MS.forg, MS.err, hneg])
              have HMO := Lib.hid hmo1
              clear hmo hmo1
              go_wp2_with fail
              go_quiet (fail)
              generalize hwq : World.drewN _ _ = wq at *
              have hmo2 : Mo M X w0 (.slice la t.ms.length lc) (.slice ga t.log.length gc) (.slice oa t.out.length oc) t wq := by rw [← hwq]; exact HMO.out.later ((Mv.refl _ _).drewN _)
              obtain ⟨la2, lc2, ga2, gc2, oa2, oc2, -, -, -, m2, x2, hMl2, hXl2⟩ := hmo2.know
              obtain ⟨a', c', w3, ⟨hok, hv, hw⟩, ⟨y1, y2, y3, y4, y5, y6⟩, HF⟩ := hmo2.appO (x := 2) (.inr rfl) (by omega)
              clear hmo2 hwq m0 x0 c0 c1 c2
              go_wp2_with fail
              go_roundw
              case rel => exact ⟨k + 1, by go_num, by omega, t.say 2, by rw [HSN.out, HMS.out, HEN.out], HF.out⟩
              case measure => simp [intOf]; omega
            · have hd1 : decide (n < 0) = false := by simpa using hneg
              by_cases hbig : (t.ms.length : Int) < n
              · have hd2 : decide ((t.ms.length : Int) < n) = true := by simpa using hbig
                have HEN := Lib.hid (show ((t.forg n).say (t.err n)) = t.say 2 from by simp [MS.forg, MS.err, hbig])
                have HMO := Lib.hid hmo1
                clear hmo hmo1
                go_wp2_with fail
                go_quiet (fail)
                generalize hwq : World.drewN _ _ = wq at *
                have hmo2 : Mo M X w0 (.slice la t.ms.length lc) (.slice ga t.log.length gc) (.slice oa t.out.length oc) t wq := by rw [← hwq]; exact HMO.out.later ((Mv.refl _ _).drewN _)
                obtain ⟨la2, lc2, ga2, gc2, oa2, oc2, -, -, -, m2, x2, hMl2, hXl2⟩ := hmo2.know
                obtain ⟨a', c', w3, ⟨hok, hv, hw⟩, ⟨y1, y2, y3, y4, y5, y6⟩, HF⟩ := hmo2.appO (x := 2) (.inr rfl) (by omega)
                clear hmo2 hwq m0 x0 c0 c1 c2
                go_wp2_with fail
                go_roundw
                case rel => exact ⟨k + 1, by go_num, by omega, t.say 2, by rw [HSN.out, HMS.out, HEN.out], HF.out⟩
                case measure => simp [intOf]; omega
              · have hd2 : decide ((t.ms.length : Int) < n) = false := by simpa using hbig
                obtain ⟨q, rfl⟩ : ∃ q : Nat, n = q := ⟨n.toNat, by omega⟩
                have HEN := Lib.hid (show ((t.forg q).say (t.err q)) = (t.cutU false q).say 0 from by simp only [MS.forg, MS.err]; rw [if_neg (by omega), if_neg (by omega)]; rfl)
                have HMO := Lib.hid hmo1
                have hobn : (wr.alloc (.cells #[.int .i64 3, .int .i64 q, .slice ka kn kc] 55)).heap[wr.heap.size]? = some (.cells #[.int .i64 3, .int .i64 q, .slice ka kn kc] 55 (0, 0)) := heap_alloc_new wr _
                have HOB := Lib.hid hobn
                clear hmo hmo1 hobn
                go_wp2_with fail
                go_quiet (fail)
                generalize hwq : World.drewN _ _ = wq at *
                have hmo2 : Mo M X w0 (.slice la t.ms.length lc) (.slice ga t.log.length gc) (.slice oa t.out.length oc) t wq := by rw [← hwq]; exact HMO.out.later ((Mv.refl _ _).drewN _)
                have hob2 : wq.heap[wr.heap.size]? = some (.cells #[.int .i64 3, .int .i64 q, .slice ka kn kc] 55 (0, 0)) := by rw [← hwq]; exact HOB.out
                have o1 := o_cell1 hob2
                have o0 : wq.cell? ⟨wr.heap.size, 0, none⟩ = some (.int .i64 3) := by simp [World.cell?, hob2]
                obtain ⟨la2, lc2, ga2, gc2, oa2, oc2, -, -, -, m2, x2, hMl2, hXl2⟩ := hmo2.know
                have HCUT := Lib.hid (cut_forget M X w0 t q wq ⟨_, _, _, hmo2⟩ (by omega) (by omega))
                clear hmo2 hwq m0 x0 c0 c1 c2 hob2
                go_wp2_with fail
                refine HCUT.out.mono ?_
                rintro e w3 ⟨rfl, lv3, gv3, ov3, hmo3⟩
                obtain ⟨la3, lc3, ga3, gc3, oa3, oc3, rfl, rfl, rfl, m3, x3, hMl3, hXl3⟩ := hmo3.know
                obtain ⟨a', c', w4, ⟨hok, hv, hw⟩, ⟨y1, y2, y3, y4, y5, y6⟩, HF⟩ := hmo3.appO (x := 0) (.inr rfl) (by simp only [MS.cutU]; omega)
                clear hmo3 m2 x2
                go_wp2_with fail
                go_roundw
                case rel => exact ⟨k + 1, by go_num, by omega, (t.cutU false q).say 0, by rw [HSN.out, HMS.out, HEN.out], HF.out⟩
                case measure => simp [intOf]; omega
        · have h2b : (kd == 2) = false := by simpa using fun e => h23 (.inl e)
          have h3b : (kd == 3) = false := by simpa using fun e => h23 (.inr e)
          by_cases h4 : kd = 4
          · subst h4
            have HMS := Lib.hid (show mstep (mrun W f) ⟨4, n, .slice ka kn kc⟩ t = (t, some (wantE n)) from by simp [mstep])
            have HFIN := Lib.hid (show ∀ e, e = Ending.returned (.tuple #[.int .i64 (wantE n), .bool false]) → MRan M X w0 (mlist (mrun W f) l s) e (wr.alloc (.cells #[.int .i64 4, .int .i64 n, .slice ka kn kc] 55)) from fun e he => by
              rw [HFL.out t (wantE n) HMS.out]
              exact ⟨he, _, _, _, hmo1⟩)
            clear hmo hmo1 h1 h1b h6 h6b h23 h2b h3b
            by_cases hn0 : n = 0
            · subst hn0
              go_wp2_with fail
              go_ret2
              exact HFIN.out _ rfl
            · have hnb : (n == 0) = false := by simpa using hn0
              have hwe : wantE n = n := by simp [wantE, hn0]
              rw [hwe] at HFIN
              clear hwe hn0
              go_wp2_with fail
              go_ret2
              exact HFIN.out _ rfl
          · have h4b : (kd == 4) = false := by simpa using h4
            by_cases h5 : kd = 5
            · subst h5
              have HMS := Lib.hid (show mstep (mrun W f) ⟨5, n, .slice ka kn kc⟩ t = (mtry t (mrun W f (.slice ka kn kc) t), none) from by simp [mstep])
              have HIH := Lib.hid (IH.out _ t _ HT.out (by omega) (by omega) ⟨_, _, _, hmo1⟩)
              have HSZ := Lib.hid (mrun_size W f (.slice ka kn kc) t)
              clear hmo hmo1 h1 h1b h6 h6b h23 h2b h3b h4 h4b
              generalize hr : mrun W f (.slice ka kn kc) t = r at *
              clear hr
              go_wp2_with fail
              refine HIH.out.mono ?_
              obtain ⟨u, x⟩ := r
              have hsz := HSZ.out
              simp only at hsz
              cases x with
              | none =>
                rintro e w2 ⟨rfl, lv2, gv2, ov2, hmo2⟩
                simp only [errOf, okOf, Option.getD_none, Option.isNone_none]
                obtain ⟨la2, lc2, ga2, gc2, oa2, oc2, rfl, rfl, rfl, m2, x2, hMl2, hXl2⟩ := hmo2.know
                obtain ⟨a', c', w3, ⟨hok, hv, hw⟩, ⟨y1, y2, y3, y4, y5, y6⟩, HF⟩ := hmo2.appO (x := 0) (.inr rfl) (by simp only; omega)
                clear hmo2 m0 x0 c0 c1 c2
                go_wp2_with fail
                go_roundw
                case rel => exact ⟨k + 1, by go_num, by omega, u.say 0, by rw [HSN.out, HMS.out]; rfl, HF.out⟩
                case measure => simp [intOf]; omega
              | some x =>
                rintro e w2 ⟨rfl, hst⟩
                simp only [errOf, okOf, Option.getD_some, Option.isNone_some]
                by_cases h3 : t.ms.length ≤ u.ms.length
                · have hcut := cut_undo M X w0 u t.ms.length w2 hst h3 (by omega)
                  rw [u.cutU_true] at hcut
                  have HCUT := Lib.hid hcut
                  obtain ⟨lv2, gv2, ov2, hmo2⟩ := hst
                  obtain ⟨la2, lc2, ga2, gc2, oa2, oc2, rfl, rfl, rfl, m2, x2, hMl2, hXl2⟩ := hmo2.know
                  clear hmo2 m0 x0 c0 c1 c2 hcut
                  go_wp2_with fail
                  refine HCUT.out.mono ?_
                  rintro e w3 ⟨rfl, lv3, gv3, ov3, hmo3⟩
                  obtain ⟨la3, lc3, ga3, gc3, oa3, oc3, rfl, rfl, rfl, m3, x3, hMl3, hXl3⟩ := hmo3.know
                  obtain ⟨a', c', w4, ⟨hok, hv, hw⟩, ⟨y1, y2, y3, y4, y5, y6⟩, HF⟩ := hmo3.appO (x := x) (.inr rfl) (by simp only [MS.cut]; omega)
                  clear hmo3 m2 x2
                  go_wp2_with fail
                  go_roundw
                  case rel => exact ⟨k + 1, by go_num, by omega, (u.cut t.ms.length).say x, by rw [HSN.out, HMS.out]; rfl, HF.out⟩
                  case measure => simp [intOf]; omega
                · have hcut := cut_undo M X w0 u u.ms.length w2 hst (Nat.le_refl _) (by omega)
                  have hce : u.cutU true u.ms.length = u.cut t.ms.length := by
                    rw [u.cutU_true]
                    simp only [MS.cut]
                    rw [List.take_length, List.drop_length, List.take_of_length_le (by omega), List.drop_of_length_le (by omega)]
                  rw [hce] at hcut
                  clear hce
                  have HCUT := Lib.hid hcut
                  obtain ⟨lv2, gv2, ov2, hmo2⟩ := hst
                  obtain ⟨la2, lc2, ga2, gc2, oa2, oc2, rfl, rfl, rfl, m2, x2, hMl2, hXl2⟩ := hmo2.know
                  clear hmo2 m0 x0 c0 c1 c2 hcut
                  go_wp2_with fail
                  refine HCUT.out.mono ?_
                  rintro e w3 ⟨rfl, lv3, gv3, ov3, hmo3⟩
                  obtain ⟨la3, lc3, ga3, gc3, oa3, oc3, rfl, rfl, rfl, m3, x3, hMl3, hXl3⟩ := hmo3.know
                  obtain ⟨a', c', w4, ⟨hok, hv, hw⟩, ⟨y1, y2, y3, y4, y5, y6⟩, HF⟩ := hmo3.appO (x := x) (.inr rfl) (by simp only [MS.cut]; omega)
                  clear hmo3 m2 x2
                  go_wp2_with fail
                  go_roundw
                  case rel => exact ⟨k + 1, by go_num, by omega, (u.cut t.ms.length).say x, by rw [HSN.out, HMS.out]; rfl, HF.out⟩
                  case measure => simp [intOf]; omega
            · have h5b : (kd == 5) = false := by simpa using h5
              have h2 : kd ≠ 2 := fun e => h23 (.inl e)
              have h3 : kd ≠ 3 := fun e => h23 (.inr e)
              have HMS := Lib.hid (show mstep (mrun W f) ⟨kd, n, .slice ka kn kc⟩ t = (t, none) from by simp [mstep, h1, h2, h3, h4, h5, h6])
              have HMO := Lib.hid (show MSt M X w0 t _ from ⟨_, _, _, hmo1⟩)
              clear h1 h2 h3 h4 h5 h6 h23 hmo hmo1
              go_wp2_with fail
              go_roundw
              case rel => exact ⟨k + 1, by go_num, by omega, t, by rw [HSN.out, HMS.out], HMO.out⟩
              case measure => simp [intOf]; omega
  · obtain rfl : k = l.length := by omega
    have hmt := HMT.out
    rw [List.take_length] at hmt
    have HRN := Lib.hid (show ∀ e, e = Ending.returned (.tuple #[.int .i64 0, .bool true]) → MRan M X w0 (mlist (mrun W f) l s) e wr from fun e he => by
      rw [hmt]; exact ⟨he, _, _, _, hmo⟩)
    clear hmt hmo HMT
    go_wp2_with fail
    go_ret2
    exact HRN.out _ rfl

end Go.Proofs.Ytlcbfjcfkknmgaa
