/- LinkerOrder: the walk. -/
import Derived.Test.YtaabkaiifplhgaaDoorLAwake
import Derived.Test.YtaabkaiifplhgaaDoorLOrdF
import Derived.Test.YtaabkaiifplhgaaDoorRel
namespace Go.Proofs.YtaabkaiifplhgaaDoor
set_option linter.unusedSimpArgs false
set_option linter.unusedVariables false
open Go.RowKit Go.Instr

attribute [local go_sem ↓] run_appOp

set_option maxRecDepth 100000 in
set_option maxHeartbeats 8000000 in
theorem order_walk (o : ObjV) (pv : Value) (procs : List ObjV) (w : World) (ht : TabOk w) (ho : ObjAt w o) (hp : ObjsAt w pv procs) :
    Calls Tryd.prog 4 #[o.val, pv] w fun e w' => e = .returned (.bool true) ∧ Grow w w' := by
  obtain ⟨pa, pcap, rfl, hpcap, hplen⟩ := hp.row.form
  obtain ⟨y1, y2, y3, y4, y5, y6, y7, y8, ⟨hy1, hy2, hy3, hy4⟩, ⟨hccap, hclen⟩, -, -⟩ := ho.slices
  have HO := Lib.hid ho
  have HP := Lib.hid hp
  have HT := Lib.hid ht
  clear ho hp ht
  obtain ⟨d', qv, sv, cv, rv⟩ := o
  simp only at hy1 hy2 hy3 hy4 hccap hclen
  subst hy1 hy2 hy3 hy4
  have hg0 : Grow w (w.alloc (.cells #[.string d'.name, .slice y1 d'.params.length y2, .slice y3 d'.slots.length y4, .int .i64 d'.cells, .int .i64 d'.stacks, .slice y5 d'.code.length y6, .slice y7 d'.refs.length y8] 31)) := (Mv.refl _ _).alloc _
  have hb0 := heap_alloc_new w (.cells #[.string d'.name, .slice y1 d'.params.length y2, .slice y3 d'.slots.length y4, .int .i64 d'.cells, .int .i64 d'.stacks, .slice y5 d'.code.length y6, .slice y7 d'.refs.length y8] 31)
  have HG0 := Lib.hid hg0
  have HB0 := Lib.hid hb0
  clear hg0 hb0
  go_enter Tryd.func4, Tryd.ntmps4
  go_wp2_with fail
  refine (awake_any _ (HT.out.later HG0.out)).mono ?_
  rintro e w1 ⟨rfl, hg1⟩
  have hb1 : w1.heap[w.heap.size]? = some (.cells #[.string d'.name, .slice y1 d'.params.length y2, .slice y3 d'.slots.length y4, .int .i64 d'.cells, .int .i64 d'.stacks, .slice y5 d'.code.length y6, .slice y7 d'.refs.length y8] 31 (0, 0)) := by
    rw [hg1.block _ (by simp) (fun h => h)]; exact HB0.out
  have HG1 := Lib.hid (Mv.trans HG0.out hg1 (fun _ e => e.elim))
  have HB1 := Lib.hid hb1
  obtain ⟨⟨o0, o1, o2, o3⟩, o4, o5, o6⟩ := obj_cells hb1
  have hl1 := lt_of_block hb1
  clear hg1 hb1 HG0 HB0
  go_wp2_with fail
  refine (few_any ⟨d', .slice y1 d'.params.length y2, .slice y3 d'.slots.length y4, .slice y5 d'.code.length y6, .slice y7 d'.refs.length y8⟩ _ procs _ (HO.out.later HG1.out) (HP.out.later HG1.out)).mono ?_
  rintro e w2 ⟨rfl, hg2⟩
  clear o0 o1 o2 o3 o4 o5 o6
  cases hfb : fewB d' (procs.map (·.d)) with
  | false =>
    have HG2 := Lib.hid (Mv.trans HG1.out hg2 (fun _ e => e.elim))
    simp only [hfb, oneB, Bool.false_eq_true, if_false]
    clear hg2
    go_wp2_with fail
    go_ret
    exact ⟨rfl, HG2.out⟩
  | true =>
  have HFB := Lib.hid hfb
  simp only [hfb, oneB, if_true]
  have hb2 : w2.heap[w.heap.size]? = some (.cells #[.string d'.name, .slice y1 d'.params.length y2, .slice y3 d'.slots.length y4, .int .i64 d'.cells, .int .i64 d'.stacks, .slice y5 d'.code.length y6, .slice y7 d'.refs.length y8] 31 (0, 0)) := by
    rw [hg2.block _ hl1 (fun h => h)]; exact HB1.out
  have HG2 := Lib.hid (Mv.trans HG1.out hg2 (fun _ e => e.elim))
  have HB2 := Lib.hid hb2
  have hl2 := lt_of_block hb2
  have h8 := (few_split HFB.out).1
  rw [List.length_map] at h8
  have hm80 := (few_split HFB.out).2.1.1
  clear hg2 hb2 HG1 HB1 hl1 hfb
  go_wp2_with fail
  go_loopw [5, 6] (fun bv t wr => ∃ k : Nat, t = .int .i64 ((procs.length : Int) - 1 - k) ∧ k ≤ procs.length ∧ ObjRow wr w2.heap.size bv (procs.reverse.take k) ∧ Grow w2 wr) (fun _ t _ => (intOf t + 1).toNat)
  case atStart => exact ⟨0, by go_num, Nat.zero_le _, World.ownsRow_nil _ _ _ _, Mv.refl _ _⟩
  obtain ⟨k, rfl, hk, hrow, hgr⟩ := hrel
  have HROW := Lib.hid hrow
  have HGR := Lib.hid hgr
  have hgw := Mv.trans HG2.out hgr (fun _ e => e.elim)
  have hszr := hgr.size
  have hrl : (procs.reverse.take k).length = k := by simp; omega
  obtain ⟨ba, bc, hbv⟩ := row_slice hrow
  rw [hrl] at hbv
  subst hbv
  by_cases hlt : k < procs.length
  · obtain ⟨j, hj⟩ : ∃ j : Nat, (procs.length : Int) - 1 - k = j := ⟨procs.length - 1 - k, by omega⟩
    have hjl : j < procs.length := by omega
    obtain ⟨b, off, cap', e, _, hcc⟩ := (HP.out.row.later hgw).at hjl
    simp only [Value.slice.injEq, true_and] at e
    obtain ⟨rfl, rfl⟩ := e
    have c0 := hcc 0 _ rfl
    have c1 := hcc 1 _ rfl
    have c2 := hcc 2 _ rfl
    have c3 := hcc 3 _ rfl
    have c4 := hcc 4 _ rfl
    have c5 := hcc 5 _ rfl
    have c6 := hcc 6 _ rfl
    simp only [Nat.add_zero] at c0
    have hbl : b < wr.heap.size := World.block_lt_of_cell? wr _ c0
    have hxo := HP.out.each procs[j] (List.getElem_mem hjl)
    have HTS := Lib.hid (show procs.reverse.take (k + 1) = procs.reverse.take k ++ [procs[j]] from by
      rw [List.take_succ_eq_append_getElem (by simp; omega), List.getElem_reverse]
      have : procs.length - 1 - k = j := by omega
      simp only [this])
    generalize hx : procs[j] = x at HTS hxo c0 c1 c2 c3 c4 c5 c6
    obtain ⟨z1, z2, z3, z4, z5, z6, xra, xrcap, ⟨hz1, hz2, hz3, hxrv⟩, -, -, -⟩ := hxo.slices
    obtain ⟨xd, xqv, xsv, xcv, xrv⟩ := x
    simp only at c0 c1 c2 c3 c4 c5 c6 hz1 hz2 hz3 hxrv
    subst hz1 hz2 hz3 hxrv
    have hbx := heap_alloc_new wr (.cells #[.string xd.name, .slice z1 xd.params.length z2, .slice z3 xd.slots.length z4, .int .i64 xd.cells, .int .i64 xd.stacks, .slice z5 xd.code.length z6, .slice xra xd.refs.length xrcap] 31)
    have hga : Grow w (wr.alloc (.cells #[.string xd.name, .slice z1 xd.params.length z2, .slice z3 xd.slots.length z4, .int .i64 xd.cells, .int .i64 xd.stacks, .slice z5 xd.code.length z6, .slice xra xd.refs.length xrcap] 31)) := hgw.alloc _
    obtain ⟨a', c', y, ⟨hok, hv, hw⟩, hrow2, hmv2, -⟩ := app_objs _ (procs.reverse.take k) [(⟨xd, .slice z1 xd.params.length z2, .slice z3 xd.slots.length z4, .slice z5 xd.code.length z6, .slice xra xd.refs.length xrcap⟩ : ObjV)] wr.heap.size 0 1 w2.heap.size _ (hrow.alloc (.cells #[.string xd.name, .slice z1 xd.params.length z2, .slice z3 xd.slots.length z4, .int .i64 xd.cells, .int .i64 xd.stacks, .slice z5 xd.code.length z6, .slice xra xd.refs.length xrcap] 31)) (RowAt.ofBlock (l := [(⟨xd, .slice z1 xd.params.length z2, .slice z3 xd.slots.length z4, .slice z5 xd.code.length z6, .slice xra xd.refs.length xrcap⟩ : ObjV)]) (fun _ => rfl) hbx rfl (by simp)) (fun o ho => by simp at ho; subst ho; exact hxo.later hga) (by simp; omega) (by simp; omega)
    have HRW2 := Lib.hid hrow2
    have HMV2 := Lib.hid ((hgr.alloc (.cells #[.string xd.name, .slice z1 xd.params.length z2, .slice z3 xd.slots.length z4, .int .i64 xd.cells, .int .i64 xd.stacks, .slice z5 xd.code.length z6, .slice xra xd.refs.length xrcap] 31)).trans hmv2 (fun x e => .inr (by have := (hrow.lt x (by simpa using e)).1; omega)))
    simp only [hrl, List.length_cons, List.length_nil, Nat.zero_add] at hok hv hw HRW2
    have i1 : IntKind.i64.wrap ((j : Int) - 1) = (j : Int) - 1 := IntWalk.i64_in _ (by omega)
    clear hcc hx hxo hrow hgr hbx hga hrow2 hmv2
    rw [hj]
    go_wp2_with fail
    go_roundw
    case rel => exact ⟨k + 1, by go_num, by omega, by rw [HTS.out]; exact HRW2.out, HMV2.out⟩
    case measure => simp [intOf] <;> omega
  obtain rfl : k = procs.length := by omega
  have hta : procs.reverse.take procs.length = procs.reverse := List.take_of_length_le (by simp)
  rw [hta] at hrow
  have HBO := Lib.hid (ObjRow.objs hrow (fun o ho => (HP.out.each o (List.mem_reverse.1 ho)).later hgw))
  have hb3 : wr.heap[w.heap.size]? = some (.cells #[.string d'.name, .slice y1 d'.params.length y2, .slice y3 d'.slots.length y4, .int .i64 d'.cells, .int .i64 d'.stacks, .slice y5 d'.code.length y6, .slice y7 d'.refs.length y8] 31 (0, 0)) := by
    rw [hgr.block _ hl2 (fun h => h)]; exact HB2.out
  have HB3 := Lib.hid hb3
  have HG3 := Lib.hid hgw
  have hl3 := lt_of_block hb3
  obtain ⟨⟨o0, o1, o2, o3⟩, o4, o5, o6⟩ := obj_cells hb3
  have hm1 : (procs.length : Int) - 1 - (procs.length : Int) = -1 := by omega
  rw [hm1]
  clear hrow hgr hgw hta hb3 HROW HGR HG2 HB2 hl2 hrl hm1
  go_wp2_with fail
  refine (link_any ⟨d', .slice y1 d'.params.length y2, .slice y3 d'.slots.length y4, .slice y5 d'.code.length y6, .slice y7 d'.refs.length y8⟩ _ procs wr (HT.out.later HG3.out) (HO.out.later HG3.out) (HP.out.later HG3.out) (few_self HFB.out)).mono ?_
  rintro e w4 ⟨cv4, sv4, rfl, hg4, hc4, hs4⟩
  obtain ⟨ca, cc, rfl, hccap4, -⟩ := hc4.form
  obtain ⟨sa, sc, rfl, hscap4, -⟩ := hs4.form
  simp only
  have hb4 : w4.heap[w.heap.size]? = some (.cells #[.string d'.name, .slice y1 d'.params.length y2, .slice y3 d'.slots.length y4, .int .i64 d'.cells, .int .i64 d'.stacks, .slice y5 d'.code.length y6, .slice y7 d'.refs.length y8] 31 (0, 0)) := by
    rw [hg4.block _ hl3 (fun h => h)]; exact HB3.out
  have HEI := Lib.hid (err_rev_iff d' (procs.map (·.d)))
  have HOP := Lib.hid (fun h => order_plain (main := d') (procs := procs.map (·.d)) h)
  rw [List.length_map] at HOP
  have hrv : (procs.map (·.d)).reverse = procs.reverse.map (·.d) := List.map_reverse.symm
  rw [hrv] at HEI HOP
  have HC4 := Lib.hid hc4
  have HS4 := Lib.hid hs4
  have hGB := hg4.alloc (.cells #[.slice ca (linkD d' (procs.map (·.d))).code.length cc, .int .i64 (linkD d' (procs.map (·.d))).mem, .int .i64 (linkD d' (procs.map (·.d))).stacks] 36)
  have HG5 := Lib.hid (Mv.trans HG3.out hGB (fun _ e => e.elim))
  have HBO5 := Lib.hid (HBO.out.later hGB)
  have HB5 := Lib.hid (alloc_keep hb4 (.cells #[.slice ca (linkD d' (procs.map (·.d))).code.length cc, .int .i64 (linkD d' (procs.map (·.d))).mem, .int .i64 (linkD d' (procs.map (·.d))).stacks] 36))
  have HX5 := Lib.hid (heap_alloc_new w4 (.cells #[.slice ca (linkD d' (procs.map (·.d))).code.length cc, .int .i64 (linkD d' (procs.map (·.d))).mem, .int .i64 (linkD d' (procs.map (·.d))).stacks] 36))
  have HGA := Lib.hid ((Mv.refl (fun _ => False) w4).alloc (.cells #[.slice ca (linkD d' (procs.map (·.d))).code.length cc, .int .i64 (linkD d' (procs.map (·.d))).mem, .int .i64 (linkD d' (procs.map (·.d))).stacks] 36))
  clear o0 o1 o2 o3 o4 o5 o6
  obtain ⟨⟨o0, o1, o2, o3⟩, o4, o5, o6⟩ := obj_cells hb4
  have hl4 := lt_of_block hb4
  generalize linkD d' (procs.map (·.d)) = L at *
  clear hc4 hs4 hg4 hb4 hGB HG3 HB3 hl3 hrv
  obtain ⟨Lc, Lm, Ls, Ly, Le⟩ := L
  simp only at HEI HOP HC4 HS4 HG5 HBO5 HB5 HX5 HGA hccap4 hscap4 ⊢
  go_wp2_with fail
  generalize w4.alloc (.cells #[.slice ca Lc.length cc, .int .i64 Lm, .int .i64 Ls] 36) = w5 at *
  refine (link_any ⟨d', .slice y1 d'.params.length y2, .slice y3 d'.slots.length y4, .slice y5 d'.code.length y6, .slice y7 d'.refs.length y8⟩ _ procs.reverse w5 (HT.out.later HG5.out) (HO.out.later HG5.out) HBO5.out (few_sub HFB.out (by simp; omega) (fun o ho => by
    obtain ⟨x, hx, rfl⟩ := List.mem_map.1 ho
    exact List.mem_map.2 ⟨x, List.mem_reverse.1 hx, rfl⟩))).mono ?_
  rintro e w6 ⟨cv6, sv6, rfl, hg6, hc6, hs6⟩
  obtain ⟨da, dc, rfl, hccap6, -⟩ := hc6.form
  obtain ⟨ta, tc, rfl, hscap6, -⟩ := hs6.form
  simp only
  generalize linkD d' (procs.reverse.map (·.d)) = M at *
  obtain ⟨Mc, Mm, Ms, My, Me⟩ := M
  simp only at HEI HOP hc6 hs6 hccap6 hscap6 ⊢
  have hGB := hg6.alloc (.cells #[.slice da Mc.length dc, .int .i64 Mm, .int .i64 Ms] 36)
  have HG7 := Lib.hid (Mv.trans HG5.out hGB (fun _ e => e.elim))
  clear o0 o1 o2 o3 o4 o5 o6
  by_cases he : Le = 0
  case neg =>
    have hf : Me ≠ 0 := fun e => he (HEI.out.2 e)
    have he2 : (Le != 0) = true := by simpa using he
    have he3 : (Le == 0) = false := by simpa using he
    have hf3 : (Me == 0) = false := by simpa using hf
    clear hccap6 hscap6 hc6 hs6 hg6 hGB
    go_wp2_with fail
    go_ret
    exact ⟨rfl, HG7.out⟩
  subst he
  obtain rfl : Me = 0 := HEI.out.1 rfl
  obtain ⟨⟨⟨h1, h2⟩, h3, h4⟩, ⟨h5, h6⟩, HNM, HCD⟩ := HOP.out rfl
  subst h1 h2
  have HNM := Lib.hid HNM
  have HCD := Lib.hid HCD
  have hX7 : (w6.alloc (.cells #[.slice da Mc.length dc, .int .i64 Lm, .int .i64 Ls] 36)).heap[w4.heap.size]? = some (.cells #[.slice ca Lc.length cc, .int .i64 Lm, .int .i64 Ls] 36 (0, 0)) := by
    rw [hGB.block _ (lt_of_block HX5.out) (fun h => h)]; exact HX5.out
  have hX10 := heap_alloc_new w6 (.cells #[.slice da Mc.length dc, .int .i64 Lm, .int .i64 Ls] 36)
  have hB7 : (w6.alloc (.cells #[.slice da Mc.length dc, .int .i64 Lm, .int .i64 Ls] 36)).heap[w.heap.size]? = some (.cells #[.string d'.name, .slice y1 d'.params.length y2, .slice y3 d'.slots.length y4, .int .i64 d'.cells, .int .i64 d'.stacks, .slice y5 d'.code.length y6, .slice y7 d'.refs.length y8] 31 (0, 0)) := by
    rw [hGB.block _ (lt_of_block HB5.out) (fun h => h)]; exact HB5.out
  have HRC := Lib.hid (HC4.out.later (Mv.trans HGA.out hGB (fun _ e => e.elim)))
  have HRS := Lib.hid (HS4.out.later (Mv.trans HGA.out hGB (fun _ e => e.elim)))
  have HRD := Lib.hid (hc6.later ((Mv.refl (fun _ => False) w6).alloc (.cells #[.slice da Mc.length dc, .int .i64 Lm, .int .i64 Ls] 36)))
  have HRT := Lib.hid (hs6.later ((Mv.refl (fun _ => False) w6).alloc (.cells #[.slice da Mc.length dc, .int .i64 Lm, .int .i64 Ls] 36)))
  have hl45 : w4.heap.size < w6.heap.size := Nat.lt_of_lt_of_le (lt_of_block HX5.out) hg6.size
  have hl06 : w.heap.size < w6.heap.size := Nat.lt_of_lt_of_le (lt_of_block HB5.out) hg6.size
  have e0 : w6.cell? ⟨w4.heap.size, 0, none⟩ = some (.slice ca Lc.length cc) := by
    have := hg6.block _ (lt_of_block HX5.out) (fun h => h); simp [World.cell?, this, HX5.out]
  have e1 : w6.cell? ⟨w4.heap.size, 1, none⟩ = some (.int .i64 Lm) := by
    have := hg6.block _ (lt_of_block HX5.out) (fun h => h); simp [World.cell?, this, HX5.out]
  have e2 : w6.cell? ⟨w4.heap.size, 2, none⟩ = some (.int .i64 Ls) := by
    have := hg6.block _ (lt_of_block HX5.out) (fun h => h); simp [World.cell?, this, HX5.out]
  have e5 : w6.cell? ⟨w.heap.size, 5, none⟩ = some (.slice y5 d'.code.length y6) := by
    have := hg6.block _ (lt_of_block HB5.out) (fun h => h); simp [World.cell?, this, HB5.out]
  have HX7 := Lib.hid hX7
  have HX10 := Lib.hid hX10
  have hLy : Ly.length = procs.length := h5
  have hMy : My.length = procs.length := h6
  clear hc6 hs6 hg6 hGB hX7 hX10 hB7 HOP HC4 HS4 HGA HX5 HB5 h5 h6
  rw [h3] at hccap4 HX7 e0 h4 ⊢
  rw [hLy] at hscap4 ⊢
  rw [hMy] at hscap6 ⊢
  have hq : d'.code.length ≤ Mc.length := h4
  go_wp2_with fail
  generalize w6.alloc (.cells #[.slice da Mc.length dc, .int .i64 Lm, .int .i64 Ls] 36) = w7 at *
  clear e0 e1 e2 e5
  go_loopw [14] (fun t wr => ∃ k : Nat, t = .int .i64 k ∧ k ≤ procs.length ∧ Grow w7 wr) (fun t _ => procs.length - (intOf t).toNat)
  case atStart => exact ⟨0, rfl, Nat.zero_le _, Mv.refl _ _⟩
  obtain ⟨k, rfl, hk, hgr⟩ := hrel
  have HGR := Lib.hid hgr
  clear hgr
  by_cases hlt : k < procs.length
  · obtain ⟨j, hj⟩ : ∃ j : Nat, (procs.length : Int) - 1 - k = j := ⟨procs.length - 1 - k, by omega⟩
    have hjl : j < procs.length := by omega
    have hkL : k < Ly.length := by omega
    have hjM : j < My.length := by omega
    obtain ⟨b, off, cap', e, _, hcc⟩ := (HRS.out.later HGR.out).at hkL
    rw [hLy] at e
    simp only [Value.slice.injEq, true_and] at e
    obtain ⟨rfl, rfl⟩ := e
    obtain ⟨b2, off2, cap2, e, _, hcc2⟩ := (HRT.out.later HGR.out).at hjM
    rw [hMy] at e
    simp only [Value.slice.injEq, true_and] at e
    obtain ⟨rfl, rfl⟩ := e
    have p0 := hcc 0 _ rfl
    have q0 := hcc2 0 _ rfl
    simp only [Nat.add_zero] at p0 q0
    have hnm := HNM.out k hlt Ly[k] My[j] (List.getElem?_eq_getElem hkL) (by rw [show procs.length - 1 - k = j by omega]; exact List.getElem?_eq_getElem hjM)
    rw [← hnm] at q0
    have hbl : b < wr.heap.size := World.block_lt_of_cell? wr _ p0
    have hbl2 : b2 < wr.heap.size := World.block_lt_of_cell? wr _ q0
    generalize Ly[k].name = nm at *
    have i1 : IntKind.i64.wrap ((procs.length : Int) - 1) = (procs.length : Int) - 1 := IntWalk.i64_in _ (by omega)
    have i2 : IntKind.i64.wrap ((procs.length : Int) - 1 - (k : Int)) = (j : Int) := by rw [hj]; exact IntWalk.i64_in _ (by omega)
    clear hcc hcc2 hnm
    go_wp2_with fail
    go_region
    go_wp2_with fail
    go_roundw
    case rel => exact ⟨k + 1, by go_num, by omega, HGR.out.drew⟩
    case measure => simp [intOf]; omega
  obtain rfl : k = procs.length := by omega
  obtain ⟨w8, rfl⟩ : ∃ w8 : World, w8 = wr := ⟨_, rfl⟩
  go_wp2_with fail
  go_loopw [15] (fun t wr => ∃ k : Nat, t = .int .i64 k ∧ k ≤ d'.code.length ∧ Grow w7 wr) (fun t _ => d'.code.length - (intOf t).toNat)
  case atStart => exact ⟨0, rfl, Nat.zero_le _, HGR.out⟩
  obtain ⟨k, rfl, hk2, hgr⟩ := hrel
  clear HGR
  have HGR := Lib.hid hgr
  have hX7 : wr.heap[w4.heap.size]? = some (.cells #[.slice ca Mc.length cc, .int .i64 Lm, .int .i64 Ls] 36 (0, 0)) := by
    rw [hgr.block _ (lt_of_block HX7.out) (fun h => h)]; exact HX7.out
  have hX10 : wr.heap[w6.heap.size]? = some (.cells #[.slice da Mc.length dc, .int .i64 Lm, .int .i64 Ls] 36 (0, 0)) := by
    rw [hgr.block _ (lt_of_block HX10.out) (fun h => h)]; exact HX10.out
  obtain ⟨x0, x1, x2, -⟩ := img_cells hX7
  obtain ⟨v0, v1, v2, -⟩ := img_cells hX10
  have hlx := lt_of_block hX7
  have hlv := lt_of_block hX10
  by_cases hlt : k < d'.code.length
  · have hkL : k < Lc.length := by omega
    have hkM : k < Mc.length := by omega
    obtain ⟨b, off, cap', e, _, _⟩ := (HRC.out.later hgr).at hkL
    rw [h3] at e
    simp only [Value.slice.injEq, true_and] at e
    obtain ⟨rfl, rfl⟩ := e
    obtain ⟨b2, off2, cap2, e, _, _⟩ := (HRD.out.later hgr).at hkM
    simp only [Value.slice.injEq, true_and] at e
    obtain ⟨rfl, rfl⟩ := e
    obtain ⟨⟨p0, p1, p2⟩, p3, p4, hbl⟩ := (HRC.out.later hgr).ins hkL
    obtain ⟨⟨q0, q1, q2⟩, q3, q4, hbl2⟩ := (HRD.out.later hgr).ins hkM
    have hup := HCD.out k hlt Lc[k] Mc[k] (List.getElem?_eq_getElem hkL) (List.getElem?_eq_getElem hkM)
    generalize Lc[k] = x at *
    generalize Mc[k] = y at *
    obtain ⟨xo, xa, xb, xc, xd⟩ := x
    obtain ⟨yo, ya, yb, yc, yd⟩ := y
    obtain ⟨g1, ⟨g2, g3, g4⟩, g5⟩ := hup
    simp only at g1 g2 g3 g4 g5 p0 p1 p2 p3 p4 q0 q1 q2 q3 q4
    subst g1 g2 g3 g4
    clear hX7 hX10 hgr
    go_wp2_with fail
    rcases (show xo = 30 ∨ xo = 31 ∨ (xo ≠ 30 ∧ xo ≠ 31) by omega) with rfl | rfl | ⟨hn1, hn2⟩
    · go_region
      all_goals
        go_wp2_with fail
        go_roundw
        case rel => exact ⟨k + 1, by go_num, by omega, by repeat (first | exact HGR.out | refine Mv.drew ?_ | refine Mv.alloc ?_ _ | refine Mv.setCell ?_ (.inr (by have := HGR.out.size; simp; omega)) _)⟩
        case measure => simp [intOf]; omega
    · go_region
      all_goals
        go_wp2_with fail
        go_roundw
        case rel => exact ⟨k + 1, by go_num, by omega, by repeat (first | exact HGR.out | refine Mv.drew ?_ | refine Mv.alloc ?_ _ | refine Mv.setCell ?_ (.inr (by have := HGR.out.size; simp; omega)) _)⟩
        case measure => simp [intOf]; omega
    · obtain rfl := g5 hn1 hn2
      have hb1 : (xo == 30) = false := by simpa using hn1
      have hb2 : (xo == 31) = false := by simpa using hn2
      clear g5
      go_region
      all_goals
        go_wp2_with fail
        go_roundw
        case rel => exact ⟨k + 1, by go_num, by omega, by repeat (first | exact HGR.out | refine Mv.drew ?_ | refine Mv.alloc ?_ _ | refine Mv.setCell ?_ (.inr (by have := HGR.out.size; simp; omega)) _)⟩
        case measure => simp [intOf]; omega
  · obtain rfl : k = d'.code.length := by omega
    have HGW := Lib.hid (Mv.trans HG7.out hgr (fun _ e => e.elim))
    clear hX7 hX10 hgr
    go_wp2_with fail
    go_ret
    exact ⟨rfl, HGW.out⟩

end Go.Proofs.YtaabkaiifplhgaaDoor
