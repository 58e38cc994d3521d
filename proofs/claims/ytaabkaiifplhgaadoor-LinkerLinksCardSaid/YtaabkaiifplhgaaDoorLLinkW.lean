/- LinkerLinks: the walk. -/
import Derived.Test.YtaabkaiifplhgaaDoorLRef5
namespace Go.Proofs.YtaabkaiifplhgaaDoor
set_option linter.unusedSimpArgs false
set_option linter.unusedVariables false
open Go.RowKit Go.Instr

attribute [local go_sem ↓] run_appOp

set_option maxRecDepth 100000 in
set_option maxHeartbeats 8000000 in
theorem links_walk (o : ObjV) (pv : Value) (procs : List ObjV) (w : World) (ht : TabOk w) (ho : ObjAt w o) (hp : ObjsAt w pv procs) :
    Calls Tryd.prog 3 #[o.val, pv] w fun e w' => e = .returned (.bool true) ∧ Grow w w' := by
  obtain ⟨pa, pcap, rfl, hpcap, hplen⟩ := hp.row.form
  obtain ⟨y1, y2, y3, y4, y5, y6, y7, y8, ⟨hy1, hy2, hy3, hy4⟩, ⟨hccap, hclen⟩, -, -⟩ := ho.slices
  have HO := Lib.hid ho
  have HP := Lib.hid hp
  have HT := Lib.hid ht
  clear ho hp ht
  obtain ⟨d', qv, sv, cv, rv⟩ := o
  simp only at hy1 hy2 hy3 hy4 hccap hclen
  subst hy1 hy2 hy3 hy4
  have hg0 : Grow w (w.alloc (.cells #[.string d'.name, .slice y1 d'.params.length y2, .slice y3 d'.slots.length y4, .int .i64 d'.cells, .int .i64 d'.stacks, .slice y5 d'.code.length y6, .slice y7 d'.refs.length y8] 31)) := (Mv.refl _ _).alloc _
  have hb0 := heap_alloc_new w (.cells #[.string d'.name, .slice y1 d'.params.length y2, .slice y3 d'.slots.length y4, .int .i64 d'.cells, .int .i64 d'.stacks, .slice y5 d'.code.length y6, .slice y7 d'.refs.length y8] 31)
  have HG0 := Lib.hid hg0
  have HB0 := Lib.hid hb0
  clear hg0 hb0
  go_enter Tryd.func3, Tryd.ntmps3
  go_wp2_with fail
  refine (awake_any _ (HT.out.later HG0.out)).mono ?_
  rintro e w1 ⟨rfl, hg1⟩
  have hb1 : w1.heap[w.heap.size]? = some (.cells #[.string d'.name, .slice y1 d'.params.length y2, .slice y3 d'.slots.length y4, .int .i64 d'.cells, .int .i64 d'.stacks, .slice y5 d'.code.length y6, .slice y7 d'.refs.length y8] 31 (0, 0)) := by
    rw [hg1.block _ (by simp) (fun h => h)]; exact HB0.out
  have HG1 := Lib.hid (Mv.trans HG0.out hg1 (fun _ e => e.elim))
  have HB1 := Lib.hid hb1
  obtain ⟨⟨o0, o1, o2, o3⟩, o4, o5, o6⟩ := obj_cells hb1
  have hl1 := lt_of_block hb1
  clear hg1 hb1 HG0 HB0
  go_wp2_with fail
  refine (few_any ⟨d', .slice y1 d'.params.length y2, .slice y3 d'.slots.length y4, .slice y5 d'.code.length y6, .slice y7 d'.refs.length y8⟩ _ procs _ (HO.out.later HG1.out) (HP.out.later HG1.out)).mono ?_
  rintro e w2 ⟨rfl, hg2⟩
  clear o0 o1 o2 o3 o4 o5 o6
  cases hfb : fewB d' (procs.map (·.d)) with
  | false =>
    have HG2 := Lib.hid (Mv.trans HG1.out hg2 (fun _ e => e.elim))
    simp only [hfb, oneB, Bool.false_eq_true, if_false]
    clear hg2
    go_wp2_with fail
    go_ret
    exact ⟨rfl, HG2.out⟩
  | true =>
  have HFB := Lib.hid hfb
  simp only [hfb, oneB, if_true]
  have hb2 : w2.heap[w.heap.size]? = some (.cells #[.string d'.name, .slice y1 d'.params.length y2, .slice y3 d'.slots.length y4, .int .i64 d'.cells, .int .i64 d'.stacks, .slice y5 d'.code.length y6, .slice y7 d'.refs.length y8] 31 (0, 0)) := by
    rw [hg2.block _ hl1 (fun h => h)]; exact HB1.out
  have HG2 := Lib.hid (Mv.trans HG1.out hg2 (fun _ e => e.elim))
  have HB2 := Lib.hid hb2
  have hl2 := lt_of_block hb2
  have h8 := (few_split HFB.out).1
  rw [List.length_map] at h8
  have hm80 := (few_split HFB.out).2.1.1
  clear hg2 hb2 HG1 HB1 hl1 hfb
  obtain ⟨⟨o0, o1, o2, o3⟩, o4, o5, o6⟩ := obj_cells HB2.out
  go_wp2_with fail
  refine (link_any ⟨d', .slice y1 d'.params.length y2, .slice y3 d'.slots.length y4, .slice y5 d'.code.length y6, .slice y7 d'.refs.length y8⟩ _ procs w2 (HT.out.later HG2.out) (HO.out.later HG2.out) (HP.out.later HG2.out) (few_self HFB.out)).mono ?_
  rintro e w4 ⟨cv4, sv4, rfl, hg4, hc4, hs4⟩
  obtain ⟨ca, cc, rfl, hccap4, -⟩ := hc4.form
  obtain ⟨sa, sc, rfl, hscap4, -⟩ := hs4.form
  have HLW := Lib.hid (fun (e : Int) (he : e ≠ 0) (h : e = (if d'.chk ≠ 0 then d'.chk else firstErr (procs.map (·.d)))) => (show linkD d' (procs.map (·.d)) = ⟨[], 0, 0, [], e⟩ from by
    have h1 : linkErr d' (procs.map (·.d)) = e := by
      unfold linkErr
      by_cases hd : d'.chk ≠ 0
      · rw [if_pos hd]; rw [if_pos hd] at h; exact h.symm
      · rw [if_neg hd]; rw [if_neg hd] at h; rw [if_pos (by rw [← h]; exact he)]; exact h.symm
    rw [linkD_err (by rw [h1]; exact he), h1]))
  have HLR := Lib.hid (fun (hm : d'.chk = 0) (h : ∀ o ∈ (procs.map (·.d)), o.chk = 0) => rlink_eq (main := d') (procs := (procs.map (·.d))) hm h)
  simp only
  have hb4 := grow_at HB2.out hg4
  generalize linkD d' (procs.map (·.d)) = L at *
  obtain ⟨Lc, Lm, Ls, Ly, Le⟩ := L
  simp only at hc4 hs4 HLW HLR hccap4 hscap4 ⊢
  have hX5 := heap_alloc_new w4 (.cells #[.slice ca Lc.length cc, .int .i64 Lm, .int .i64 Ls] 36)
  have hb5 := alloc_keep hb4 (.cells #[.slice ca Lc.length cc, .int .i64 Lm, .int .i64 Ls] 36)
  have hG5 := hg4.alloc (.cells #[.slice ca Lc.length cc, .int .i64 Lm, .int .i64 Ls] 36)
  have hga := (Mv.refl (fun _ => False) w4).alloc (.cells #[.slice ca Lc.length cc, .int .i64 Lm, .int .i64 Ls] 36)
  have HX5 := Lib.hid hX5
  have HB5 := Lib.hid hb5
  have HG5 := Lib.hid (Mv.trans HG2.out hG5 (fun _ e => e.elim))
  have HC5 := Lib.hid (hc4.later hga)
  have HS5 := Lib.hid (hs4.later hga)
  have hl4 := lt_of_block hb4
  obtain ⟨⟨p0, p1, p2, p3⟩, p4, p5, p6⟩ := obj_cells hb5
  have hl5 := lt_of_block hb5
  clear o0 o1 o2 o3 o4 o5 o6 hc4 hs4 hg4 hb4 hX5 hb5 hG5 hga
  go_wp2_with fail
  have HCK := Lib.hid (check_any ⟨d', .slice y1 d'.params.length y2, .slice y3 d'.slots.length y4, .slice y5 d'.code.length y6, .slice y7 d'.refs.length y8⟩ (w4.alloc (.cells #[.slice ca Lc.length cc, .int .i64 Lm, .int .i64 Ls] 36)) (HT.out.later HG5.out) (HO.out.later HG5.out))
  clear p0 p1 p2 p3 p4 p5 p6
  have hlX := lt_of_block HX5.out
  have hX4 : w4.heap.size < (w4.alloc (.cells #[.slice ca Lc.length cc, .int .i64 Lm, .int .i64 Ls] 36)).heap.size := by simp
  generalize w4.alloc (.cells #[.slice ca Lc.length cc, .int .i64 Lm, .int .i64 Ls] 36) = w5 at *
  generalize hx4 : w4.heap.size = X at *
  refine HCK.out.mono ?_
  rintro e w6 ⟨rfl, hg6⟩
  simp only
  have HG6 := Lib.hid (Mv.trans HG5.out hg6 (fun _ e => e.elim))
  have HX6 := Lib.hid (grow_at HX5.out hg6)
  have HB6 := Lib.hid (grow_at HB5.out hg6)
  have HC6 := Lib.hid (HC5.out.later hg6)
  have HS6 := Lib.hid (HS5.out.later hg6)
  clear hg6 HCK
  go_wp2_with fail
  go_loopw [8, 9] (fun wv t wr => ∃ (k : Nat) (e : Int), wv = .int .i64 e ∧ t = .int .i64 k ∧ k ≤ procs.length ∧ (e = 0 → d'.chk = 0 ∧ ∀ j (hj : j < procs.length), j < k → procs[j].d.chk = 0) ∧ (e ≠ 0 → e = (if d'.chk ≠ 0 then d'.chk else firstErr (procs.map (·.d)))) ∧ Grow w6 wr) (fun _ t _ => procs.length - (intOf t).toNat)
  case atStart => exact ⟨0, _, rfl, rfl, Nat.zero_le _, fun h => ⟨h, fun j _ hj => by omega⟩, fun h => (if_pos h).symm, Mv.refl _ _⟩
  obtain ⟨k, e, rfl, rfl, hk, hz, hnz, hgr⟩ := hrel
  have HZ := Lib.hid hz
  have HNZ := Lib.hid hnz
  have HGR := Lib.hid hgr
  have HGW := Lib.hid (Mv.trans HG6.out hgr (fun _ e => e.elim))
  have hXr := grow_at HX6.out hgr
  have hBr := grow_at HB6.out hgr
  have HXr := Lib.hid hXr
  have HBr := Lib.hid hBr
  have hlXr := lt_of_block hXr
  have hlBr := lt_of_block hBr
  clear hz hnz hXr hBr
  by_cases he : e = 0
  case neg =>
    have HLL := Lib.hid (HLW.out e he (HNZ.out he))
    have heq := HLL.out
    simp only [ImgD.mk.injEq] at heq
    obtain ⟨rfl, rfl, rfl, rfl, rfl⟩ := heq
    have he2 : (Le != 0) = true := by simpa using he
    have he3 : (Le == 0) = false := by simpa using he
    obtain ⟨x0, x1, x2, -⟩ := img_cells HXr.out
    have HSM := Lib.hid (same_eq (.slice ca 0 cc) (.slice none 0 0) [] 0 0 wr (HC6.out.later hgr) (RowAt.nil _ _ _))
    clear hgr
    by_cases hlt : k < procs.length
    · go_wp2_with fail
      refine HSM.out.mono ?_
      rintro e w7 ⟨rfl, hg7⟩
      have HG7 := Lib.hid (Mv.trans HGW.out hg7 (fun _ e => e.elim))
      clear hg7
      go_wp2_with fail
      go_ret
      exact ⟨rfl, HG7.out⟩
    · go_wp2_with fail
      refine HSM.out.mono ?_
      rintro e w7 ⟨rfl, hg7⟩
      have HG7 := Lib.hid (Mv.trans HGW.out hg7 (fun _ e => e.elim))
      clear hg7
      go_wp2_with fail
      go_ret
      exact ⟨rfl, HG7.out⟩
  subst he
  by_cases hlt : k < procs.length
  · obtain ⟨b, off, cap', e, _, hcc⟩ := (HP.out.row.later HGW.out).at hlt
    simp only [Value.slice.injEq, true_and] at e
    obtain ⟨rfl, rfl⟩ := e
    have c0 := hcc 0 _ rfl
    have c1 := hcc 1 _ rfl
    have c2 := hcc 2 _ rfl
    have c3 := hcc 3 _ rfl
    have c4 := hcc 4 _ rfl
    have c5 := hcc 5 _ rfl
    have c6 := hcc 6 _ rfl
    simp only [Nat.add_zero] at c0
    have hbl : b < wr.heap.size := World.block_lt_of_cell? wr _ c0
    have hxo := (HP.out.each procs[k] (List.getElem_mem hlt)).later HGW.out
    have HCK := Lib.hid (check_any procs[k] wr (HT.out.later HGW.out) hxo)
    have HFE := Lib.hid (show procs[k].d.chk ≠ 0 → procs[k].d.chk = (if d'.chk ≠ 0 then d'.chk else firstErr (procs.map (·.d))) from fun h => by
      rw [if_neg (by simp [(HZ.out rfl).1])]
      have := firstErr_at (procs.map (·.d)) k (by simpa using hlt) (fun j hj => by simpa using (HZ.out rfl).2 j (by omega) hj) (by simpa using h)
      simpa using this.symm)
    have HZ2 := Lib.hid (show procs[k].d.chk = 0 → d'.chk = 0 ∧ ∀ j (hj : j < procs.length), j < k + 1 → procs[j].d.chk = 0 from fun h => ⟨(HZ.out rfl).1, fun j hj hjk => by
      rcases Nat.lt_or_ge j k with h1 | h1
      · exact (HZ.out rfl).2 j hj h1
      · obtain rfl : j = k := by omega
        exact h⟩)
    generalize hx : procs[k] = x at HCK HFE HZ2 hxo c0 c1 c2 c3 c4 c5 c6
    obtain ⟨z1, z2, z3, z4, z5, z6, xra, xrcap, ⟨hz1, hz2, hz3, hxrv⟩, -, -, -⟩ := hxo.slices
    obtain ⟨xd, xqv, xsv, xcv, xrv⟩ := x
    simp only at c0 c1 c2 c3 c4 c5 c6 hz1 hz2 hz3 hxrv HFE HZ2
    subst hz1 hz2 hz3 hxrv
    clear hcc hx hxo HZ HNZ
    go_wp2_with fail
    refine HCK.out.mono ?_
    rintro e w7 ⟨rfl, hg7⟩
    simp only
    have HG7 := Lib.hid (Mv.trans HGR.out hg7 (fun _ e => e.elim))
    clear hg7 HCK c0 c1 c2 c3 c4 c5 c6
    go_wp2_with fail
    go_roundw
    case rel => exact ⟨k + 1, _, rfl, by go_num, by omega, HZ2.out, HFE.out, HG7.out⟩
    case measure => simp [intOf]; omega
  obtain rfl : k = procs.length := by omega
  obtain ⟨hz1, hz2⟩ := HZ.out rfl
  have hz3 : ∀ o ∈ (procs.map (·.d)), o.chk = 0 := fun o ho => by
    obtain ⟨x, hx, rfl⟩ := List.mem_map.1 ho
    obtain ⟨j, hj, rfl⟩ := List.mem_iff_getElem.1 hx
    exact hz2 j hj hj
  have HRL := Lib.hid (HLR.out hz1 hz3)
  have HF1 := Lib.hid (chk_frame hz1)
  have HF2 := Lib.hid (fun o ho => chk_frame (hz3 o ho))
  have hmr80 := (few_split HFB.out).2.1.2
  have HPR := Lib.hid (show ∀ o ∈ procs, o.d.refs.length ≤ 100000 from fun o ho => Nat.le_trans ((few_split HFB.out).2.2 _ (List.mem_map.2 ⟨o, ho, rfl⟩)).2 (by omega))
  clear hz1 hz2 hz3 HZ HNZ HLR HLW
  obtain ⟨⟨p0, p1, p2, p3⟩, p4, p5, p6⟩ := obj_cells HBr.out
  have HPL := Lib.hid (plain_any ⟨d', .slice y1 d'.params.length y2, .slice y3 d'.slots.length y4, .slice y5 d'.code.length y6, .slice y7 d'.refs.length y8⟩ wr (HO.out.later HGW.out) (by simp only; omega))
  go_wp2_with fail
  refine HPL.out.mono ?_
  rintro e w7 ⟨r, ⟨rfl, hrd, hrc⟩, hrr, -, hg7⟩
  obtain ⟨rd, rcv, rrv⟩ := r
  simp only at hrd hrc hrr
  subst hrd hrc
  have HG7 := Lib.hid (Mv.trans HGW.out hg7 (fun _ e => e.elim))
  have HGR7 := Lib.hid (Mv.trans HGR.out hg7 (fun _ e => e.elim))
  have HM7 := Lib.hid (show RObjAt w7 ⟨rd, .slice y5 rd.code.length y6, rrv⟩ from ⟨(HO.out.later HG7.out).code, hrr⟩)
  obtain ⟨ra, rc, hrf, -, -⟩ := hrr.form
  subst hrf
  clear hg7 hrr HPL p0 p1 p2 p3 p4 p5 p6 HGW HGR
  go_wp2_with fail
  refine (plains_any _ procs w7 (HP.out.later HG7.out) (by omega) HPR.out).mono ?_
  rintro e w8 ⟨v8, rs, rfl, hrs, hro, hg8⟩
  obtain ⟨va, vc, hvf, -, -⟩ := hro.row.form
  have HRK := rlink_any ⟨rd, .slice y5 rd.code.length y6, .slice ra rd.refs.length rc⟩ v8 rs w8 (HM7.out.later hg8) hro (by rw [hrs]; exact few_self HFB.out) HF1.out (by rw [hrs]; exact HF2.out)
  simp only at HRK
  rw [hrs, HRL.out] at HRK
  have HRK := Lib.hid HRK
  have HG8 := Lib.hid (Mv.trans HG7.out hg8 (fun _ e => e.elim))
  have HGR8 := Lib.hid (Mv.trans HGR7.out hg8 (fun _ e => e.elim))
  have hrl : rs.length = procs.length := by simpa using congrArg List.length hrs
  rw [hrl] at hvf
  subst hvf
  clear hrs hro hg8 hrl HG7 HGR7
  go_wp2_with fail
  refine HRK.out.mono ?_
  rintro e w9 ⟨cv9, sv9, rfl, hg9, hc9, hs9⟩
  obtain ⟨da, dc, rfl, hdcap, -⟩ := hc9.form
  obtain ⟨ta, tc, rfl, htcap, -⟩ := hs9.form
  simp only at hc9 hs9 hdcap htcap ⊢
  have hga := (Mv.refl (fun _ => False) w9).alloc (.cells #[.slice da Lc.length dc, .int .i64 Lm, .int .i64 Ls] 36)
  have HGA := Lib.hid (Mv.trans (Mv.trans HGR8.out hg9 (fun _ e => e.elim)) hga (fun _ e => e.elim))
  have HGZ := Lib.hid (Mv.trans (Mv.trans HG8.out hg9 (fun _ e => e.elim)) hga (fun _ e => e.elim))
  have HY := Lib.hid (heap_alloc_new w9 (.cells #[.slice da Lc.length dc, .int .i64 Lm, .int .i64 Ls] 36))
  have HC9 := Lib.hid (hc9.later hga)
  have HS9 := Lib.hid (hs9.later hga)
  have hX9 := grow_at HX6.out (Mv.trans HGR8.out hg9 (fun _ e => e.elim))
  have hX10 := grow_at hX9 hga
  obtain ⟨x0, x1, x2, -⟩ := img_cells hX9
  have hlx := lt_of_block hX9
  have HX10 := Lib.hid hX10
  have HSM := Lib.hid (same_eq (.slice ca Lc.length cc) (.slice da Lc.length dc) Lc Lm Ls (w9.alloc (.cells #[.slice da Lc.length dc, .int .i64 Lm, .int .i64 Ls] 36)) (HC6.out.later HGA.out) HC9.out)
  clear hg9 hga hc9 hs9 hX9 hX10 HG8 HGR8 HRK
  go_wp2_with fail
  clear x0 x1 x2
  generalize w9.alloc (.cells #[.slice da Lc.length dc, .int .i64 Lm, .int .i64 Ls] 36) = w10 at *
  refine HSM.out.mono ?_
  rintro e w11 ⟨rfl, hg11⟩
  have HG11 := Lib.hid (Mv.trans HGZ.out hg11 (fun _ e => e.elim))
  have HS11 := Lib.hid (HS9.out.later hg11)
  have HT11 := Lib.hid ((HS6.out.later HGA.out).later hg11)
  clear hg11 HSM HGZ HGA
  go_wp2_with fail
  go_loopw [13] (fun t wr => ∃ k : Nat, t = .int .i64 k ∧ k ≤ Ly.length ∧ Grow w11 wr) (fun t _ => Ly.length - (intOf t).toNat)
  case atStart => exact ⟨0, rfl, Nat.zero_le _, Mv.refl _ _⟩
  obtain ⟨k, rfl, hk, hgr⟩ := hrel
  have HGR := Lib.hid hgr
  clear hgr
  obtain ⟨-, -, -, -, hLyl⟩ := HS11.out.form
  by_cases hlt : k < Ly.length
  · obtain ⟨b, off, cap', e, _, hcc⟩ := (HT11.out.later HGR.out).at hlt
    simp only [Value.slice.injEq, true_and] at e
    obtain ⟨rfl, rfl⟩ := e
    obtain ⟨b2, off2, cap2, e, _, hcc2⟩ := (HS11.out.later HGR.out).at hlt
    simp only [Value.slice.injEq, true_and] at e
    obtain ⟨rfl, rfl⟩ := e
    have p0 := hcc 0 _ rfl
    have q0 := hcc2 0 _ rfl
    have p1 := hcc 1 _ rfl
    have q1 := hcc2 1 _ rfl
    simp only [Nat.add_zero] at p0 q0
    have hbl : b < wr.heap.size := World.block_lt_of_cell? wr _ p0
    have hbl2 : b2 < wr.heap.size := World.block_lt_of_cell? wr _ q0
    generalize Ly[k] = y at *
    obtain ⟨yn, ya⟩ := y
    simp only at p0 p1 q0 q1
    clear hcc hcc2
    go_wp2_with fail
    go_region
    go_wp2_with fail
    go_roundw
    case rel => exact ⟨k + 1, by go_num, by omega, HGR.out.drew⟩
    case measure => simp [intOf]; omega
  obtain rfl : k = Ly.length := by omega
  have HGF := Lib.hid (Mv.trans HG11.out HGR.out (fun _ e => e.elim))
  go_wp2_with fail
  go_ret
  exact ⟨rfl, HGF.out⟩

end Go.Proofs.YtaabkaiifplhgaaDoor
