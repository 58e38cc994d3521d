/- LinkerReaches: the walk. -/
import Derived.Test.YtaabkaiifplhgaaDoorLReach
namespace Go.Proofs.YtaabkaiifplhgaaDoor
set_option linter.unusedSimpArgs false
set_option linter.unusedVariables false
open Go.RowKit Go.Instr

attribute [local go_sem ↓] run_appOp

set_option maxRecDepth 100000 in
set_option maxHeartbeats 8000000 in
theorem reaches_walk (o : ObjV) (pv : Value) (procs : List ObjV) (w : World) (ht : TabOk w) (ho : ObjAt w o) (hp : ObjsAt w pv procs) (hsm : ∀ x ∈ procs, ObjSm x.d) :
    Calls Tryd.prog 8 #[o.val, pv] w fun e w' => e = .returned (.bool true) ∧ Grow w w' := by
  have HSM := Lib.hid hsm
  clear hsm
  obtain ⟨pa, pcap, rfl, hpcap, hplen⟩ := hp.row.form
  obtain ⟨y1, y2, y3, y4, y5, y6, y7, y8, ⟨hy1, hy2, hy3, hy4⟩, ⟨hccap, hclen⟩, -, -⟩ := ho.slices
  have HO := Lib.hid ho
  have HP := Lib.hid hp
  have HT := Lib.hid ht
  clear ho hp ht
  obtain ⟨d', qv, sv, cv, rv⟩ := o
  simp only at hy1 hy2 hy3 hy4 hccap hclen
  subst hy1 hy2 hy3 hy4
  have hg0 : Grow w (w.alloc (.cells #[.string d'.name, .slice y1 d'.params.length y2, .slice y3 d'.slots.length y4, .int .i64 d'.cells, .int .i64 d'.stacks, .slice y5 d'.code.length y6, .slice y7 d'.refs.length y8] 31)) := (Mv.refl _ _).alloc _
  have hb0 := heap_alloc_new w (.cells #[.string d'.name, .slice y1 d'.params.length y2, .slice y3 d'.slots.length y4, .int .i64 d'.cells, .int .i64 d'.stacks, .slice y5 d'.code.length y6, .slice y7 d'.refs.length y8] 31)
  have HG0 := Lib.hid hg0
  have HB0 := Lib.hid hb0
  clear hg0 hb0
  go_enter Tryd.func8, Tryd.ntmps8
  go_wp2_with fail
  refine (awake_any _ (HT.out.later HG0.out)).mono ?_
  rintro e w1 ⟨rfl, hg1⟩
  have hb1 : w1.heap[w.heap.size]? = some (.cells #[.string d'.name, .slice y1 d'.params.length y2, .slice y3 d'.slots.length y4, .int .i64 d'.cells, .int .i64 d'.stacks, .slice y5 d'.code.length y6, .slice y7 d'.refs.length y8] 31 (0, 0)) := by
    rw [hg1.block _ (by simp) (fun h => h)]; exact HB0.out
  have HG1 := Lib.hid (Mv.trans HG0.out hg1 (fun _ e => e.elim))
  have HB1 := Lib.hid hb1
  obtain ⟨⟨o0, o1, o2, o3⟩, o4, o5, o6⟩ := obj_cells hb1
  have hl1 := lt_of_block hb1
  clear hg1 hb1 HG0 HB0
  go_wp2_with fail
  refine (few_any ⟨d', .slice y1 d'.params.length y2, .slice y3 d'.slots.length y4, .slice y5 d'.code.length y6, .slice y7 d'.refs.length y8⟩ _ procs _ (HO.out.later HG1.out) (HP.out.later HG1.out)).mono ?_
  rintro e w2 ⟨rfl, hg2⟩
  clear o0 o1 o2 o3 o4 o5 o6
  cases hfb : fewB d' (procs.map (·.d)) with
  | false =>
    have HG2 := Lib.hid (Mv.trans HG1.out hg2 (fun _ e => e.elim))
    simp only [hfb, oneB, Bool.false_eq_true, if_false]
    clear hg2
    go_wp2_with fail
    go_ret
    exact ⟨rfl, HG2.out⟩
  | true =>
  have HFB := Lib.hid hfb
  simp only [hfb, oneB, if_true]
  have hb2 : w2.heap[w.heap.size]? = some (.cells #[.string d'.name, .slice y1 d'.params.length y2, .slice y3 d'.slots.length y4, .int .i64 d'.cells, .int .i64 d'.stacks, .slice y5 d'.code.length y6, .slice y7 d'.refs.length y8] 31 (0, 0)) := by
    rw [hg2.block _ hl1 (fun h => h)]; exact HB1.out
  have HG2 := Lib.hid (Mv.trans HG1.out hg2 (fun _ e => e.elim))
  have HB2 := Lib.hid hb2
  have hl2 := lt_of_block hb2
  have h8 := (few_split HFB.out).1
  rw [List.length_map] at h8
  have hm80 := (few_split HFB.out).2.1.1
  clear hg2 hb2 HG1 HB1 hl1 hfb
  obtain ⟨⟨o0, o1, o2, o3⟩, o4, o5, o6⟩ := obj_cells HB2.out
  go_wp2_with fail
  refine (link_any ⟨d', .slice y1 d'.params.length y2, .slice y3 d'.slots.length y4, .slice y5 d'.code.length y6, .slice y7 d'.refs.length y8⟩ _ procs w2 (HT.out.later HG2.out) (HO.out.later HG2.out) (HP.out.later HG2.out) (few_self HFB.out)).mono ?_
  rintro e w4 ⟨cv4, sv4, rfl, hg4, hc4, hs4⟩
  obtain ⟨ca, cc, rfl, hccap4, -⟩ := hc4.form
  obtain ⟨sa, sc, rfl, hscap4, -⟩ := hs4.form
  have HRP := Lib.hid (fun h => reaches_plain (main := d') (procs := (procs.map (·.d))) h)
  have HSB := Lib.hid (reachL_sub d' (procs.map (·.d)))
  simp only
  have hb4 := keep_at HB2.out hg4
  generalize linkD d' (procs.map (·.d)) = L at *
  obtain ⟨Lc, Lm, Ls, Ly, Le⟩ := L
  simp only at hc4 hs4 HRP hccap4 hscap4 ⊢
  have HX5 := Lib.hid (heap_alloc_new w4 (.cells #[.slice ca Lc.length cc, .int .i64 Lm, .int .i64 Ls] 36))
  have HB5 := Lib.hid (alloc_keep hb4 (.cells #[.slice ca Lc.length cc, .int .i64 Lm, .int .i64 Ls] 36))
  have HG5 := Lib.hid (Mv.trans HG2.out (hg4.alloc (.cells #[.slice ca Lc.length cc, .int .i64 Lm, .int .i64 Ls] 36)) (fun _ e => e.elim))
  have hl4 := lt_of_block hb4
  clear o0 o1 o2 o3 o4 o5 o6 hc4 hs4 hg4 hb4 hscap4
  by_cases he : Le = 0
  case neg =>
    have he2 : (Le != 0) = true := by simpa using he
    go_wp2_with fail
    go_ret
    exact ⟨rfl, HG5.out⟩
  subst he
  obtain ⟨⟨hp1, hp2⟩, ⟨hp3, hp4, hp5⟩, hp6⟩ := HRP.out rfl
  have HP1 := Lib.hid hp1
  have HP2 := Lib.hid hp2
  have HP3 := Lib.hid (And.intro hp3 (And.intro hp4 hp5))
  have HP6 := Lib.hid hp6
  clear hp1 hp2 hp3 hp4 hp5 hp6
  obtain ⟨⟨p0, p1, p2, p3⟩, p4, p5, p6⟩ := obj_cells HB5.out
  have hl5 := lt_of_block HB5.out
  have hlX := lt_of_block HX5.out
  have HRA := Lib.hid (reach_any ⟨d', .slice y1 d'.params.length y2, .slice y3 d'.slots.length y4, .slice y5 d'.code.length y6, .slice y7 d'.refs.length y8⟩ _ procs (w4.alloc (.cells #[.slice ca Lc.length cc, .int .i64 Lm, .int .i64 Ls] 36)) (HO.out.later HG5.out) (HP.out.later HG5.out) (by omega) HSM.out)
  go_wp2_with fail
  clear p0 p1 p2 p3 p4 p5 p6
  generalize w4.alloc (.cells #[.slice ca Lc.length cc, .int .i64 Lm, .int .i64 Ls] 36) = w5 at *
  generalize w4.heap.size = X at *
  refine HRA.out.mono ?_
  rintro e w6 ⟨v6, R, rfl, hR, hra, hg6⟩
  obtain ⟨ra, rc, hrf, hrcap, hrlen⟩ := hra.row.form
  subst hrf
  have hR16 : R.length ≤ procs.length := by
    have h1 := congrArg List.length hR
    have h2 := HSB.out.length_le
    simp at h1 h2
    omega
  have HFR := Lib.hid (show FewO d' (R.map (·.d)) from few_sub HFB.out (by simp; omega) (fun o ho => HSB.out.subset (by rw [← hR]; exact ho)))
  have HSR := Lib.hid (show ∀ x ∈ R, ObjSm x.d from fun x hx => by
    have h1 : x.d ∈ (procs.map (·.d)) := HSB.out.subset (by rw [← hR]; exact List.mem_map.2 ⟨x, hx, rfl⟩)
    obtain ⟨y, hy, e⟩ := List.mem_map.1 h1
    rw [← e]; exact HSM.out y hy)
  have HRA6 := Lib.hid hra
  have HR := Lib.hid hR
  have HG6 := Lib.hid (Mv.trans HG5.out hg6 (fun _ e => e.elim))
  have HX6 := Lib.hid (keep_at HX5.out hg6)
  have HB6 := Lib.hid (keep_at HB5.out hg6)
  clear hra hR hg6 HRA HX5 HB5
  obtain ⟨⟨p0, p1, p2, p3⟩, p4, p5, p6⟩ := obj_cells HB6.out
  have HLK := link_any ⟨d', .slice y1 d'.params.length y2, .slice y3 d'.slots.length y4, .slice y5 d'.code.length y6, .slice y7 d'.refs.length y8⟩ _ R w6 (HT.out.later HG6.out) (HO.out.later HG6.out) HRA6.out HFR.out
  simp only at HLK
  rw [show R.map (·.d) = reachL d' (procs.map (·.d)) from HR.out] at HLK
  generalize hM : linkD d' (reachL d' (procs.map (·.d))) = M at HLK HP1 HP3
  clear hM
  obtain ⟨Mc, Mm, Ms, My, Me⟩ := M
  simp only at HP1 HP3
  obtain rfl : Me = 0 := HP1.out
  have HLK := Lib.hid HLK
  go_wp2_with fail
  refine HLK.out.mono ?_
  rintro e w7 ⟨cv7, sv7, rfl, hg7, hc7, hs7⟩
  obtain ⟨da, dc, rfl, hdcap, -⟩ := hc7.form
  obtain ⟨ta, tc, rfl, htcap, -⟩ := hs7.form
  simp only at hdcap htcap ⊢
  have HY8 := Lib.hid (heap_alloc_new w7 (.cells #[.slice da Mc.length dc, .int .i64 Mm, .int .i64 Ms] 36))
  have HX8 := Lib.hid (alloc_keep (keep_at HX6.out hg7) (.cells #[.slice da Mc.length dc, .int .i64 Mm, .int .i64 Ms] 36))
  have HB8 := Lib.hid (alloc_keep (keep_at HB6.out hg7) (.cells #[.slice da Mc.length dc, .int .i64 Mm, .int .i64 Ms] 36))
  have HG8 := Lib.hid (Mv.trans HG6.out (hg7.alloc (.cells #[.slice da Mc.length dc, .int .i64 Mm, .int .i64 Ms] 36)) (fun _ e => e.elim))
  have HR8 := Lib.hid (HRA6.out.later (hg7.alloc (.cells #[.slice da Mc.length dc, .int .i64 Mm, .int .i64 Ms] 36)))
  obtain ⟨⟨q0, q1, q2, q3⟩, q4, q5, q6⟩ := obj_cells HB8.out
  have hl8 := lt_of_block HB8.out
  have hl7 := lt_of_block (keep_at HB6.out hg7)
  clear hc7 hs7 hg7 p0 p1 p2 p3 p4 p5 p6 HLK HX6 HB6
  have HUN := undefined_any ⟨d', .slice y1 d'.params.length y2, .slice y3 d'.slots.length y4, .slice y5 d'.code.length y6, .slice y7 d'.refs.length y8⟩ _ R (w7.alloc (.cells #[.slice da Mc.length dc, .int .i64 Mm, .int .i64 Ms] 36)) (HO.out.later HG8.out) HR8.out HFR.out.refs
  simp only at HUN
  rw [show R.map (·.d) = reachL d' (procs.map (·.d)) from HR.out, HP2.out] at HUN
  have HUN := Lib.hid HUN
  go_wp2_with fail
  clear q0 q1 q2 q3 q4 q5 q6
  generalize w7.alloc (.cells #[.slice da Mc.length dc, .int .i64 Mm, .int .i64 Ms] 36) = w8 at *
  generalize w7.heap.size = Y at *
  refine HUN.out.mono ?_
  rintro e w9 ⟨v9, rfl, hu9, hg9⟩
  obtain ⟨ua, uc, huf, -, -⟩ := hu9.form
  rw [List.length_nil] at huf
  subst huf
  have hY9 := keep_at HY8.out hg9
  have hX9 := keep_at HX8.out hg9
  have hB9 := keep_at HB8.out hg9
  obtain ⟨i0, i1, i2, -⟩ := img_cells hX9
  obtain ⟨j0, j1, j2, -⟩ := img_cells hY9
  obtain ⟨⟨q0, q1, q2, q3⟩, q4, q5, q6⟩ := obj_cells hB9
  have hlX9 := lt_of_block hX9
  have hlY9 := lt_of_block hY9
  have hlB9 := lt_of_block hB9
  have HG9 := Lib.hid (Mv.trans HG8.out hg9 (fun _ e => e.elim))
  have HRB := reach_any ⟨d', .slice y1 d'.params.length y2, .slice y3 d'.slots.length y4, .slice y5 d'.code.length y6, .slice y7 d'.refs.length y8⟩ _ R w9 (HO.out.later HG9.out) (HR8.out.later hg9) (by omega) HSR.out
  simp only at HRB
  rw [show R.map (·.d) = reachL d' (procs.map (·.d)) from HR.out] at HRB
  have HRB := Lib.hid HRB
  obtain ⟨hle1, hle2, hle3⟩ := HP3.out
  clear hu9 hg9 hX9 hY9 hB9 HUN
  go_wp2_with fail
  refine HRB.out.mono ?_
  rintro e w10 ⟨v10, R2, rfl, hR2, hra2, hg10⟩
  obtain ⟨sa', sc', hsf, -, -⟩ := hra2.row.form
  have hlen : R2.length = R.length := by
    have h1 := congrArg List.length hR2
    have h2 := congrArg List.length HR.out
    have h3 := HP6.out
    simp at h1 h2
    omega
  rw [hlen] at hsf
  subst hsf
  have HG10 := Lib.hid (Mv.trans HG9.out hg10 (fun _ e => e.elim))
  clear hR2 hra2 hg10 hlen
  go_wp2_with fail
  go_ret
  exact ⟨rfl, HG10.out⟩

end Go.Proofs.YtaabkaiifplhgaaDoor
