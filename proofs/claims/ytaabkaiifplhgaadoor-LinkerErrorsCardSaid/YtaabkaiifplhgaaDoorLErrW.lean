/- LinkerErrors: the walk. -/
import Derived.Test.YtaabkaiifplhgaaDoorLAwake
import Derived.Test.YtaabkaiifplhgaaDoorRel
namespace Go.Proofs.YtaabkaiifplhgaaDoor
set_option linter.unusedSimpArgs false
set_option linter.unusedVariables false
open Go.RowKit Go.Instr

attribute [local go_sem ↓] run_appOp

/-- what is known of the operations of 'Link(main, append(append([]Object{}, procs...), x)...)' -/
def YApp (n0 : Nat) (mv pv xv e17 e18 : Value) (procs : List ObjV) (x : ObjV) (err : Int) : Nat → List Value → World → Prop
  | 0, [v], _ => v = mv
  | 1, [v], w => ∃ g, v = .slice (some ⟨g, 0, none⟩) 0 0 ∧ n0 ≤ g ∧ w.heap[g]? = some (.cells #[] 31 (0, 0))
  | 2, [v], _ => v = pv
  | 3, [v], w => ObjRow w n0 v procs
  | 4, [v], _ => v = xv
  | 5, [v], w => ∃ g, v = .slice (some ⟨g, 0, none⟩) 1 1 ∧ n0 ≤ g ∧ w.heap[g]? = some (.cells #[.string x.d.name, x.pv, x.sv, .int .i64 x.d.cells, .int .i64 x.d.stacks, x.cv, x.rv] 31 (0, 0))
  | 6, [v], w => ObjRow w n0 v (procs ++ [x])
  | 7, [v], _ => ∃ a n c m s a' n' c', v = .tuple #[.agg #[.slice a n c, .int .i64 m, .int .i64 s], .slice a' n' c', .int .i64 err]
  | 8, [v], _ => ∃ a n c m s a' n' c', v = .tuple #[.agg #[.slice a n c, .int .i64 m, .int .i64 s], .slice a' n' c', .int .i64 err]
  | 9, [v], _ => ∃ a n c m s, v = .agg #[.slice a n c, .int .i64 m, .int .i64 s]
  | 10, [v], _ => ∃ a n c, v = .slice a n c
  | 11, [v], _ => v = .int .i64 err
  | 12, [v], w => ∃ g c0 c1 c2, v = .pointer (some ⟨g, 0, none⟩) ∧ n0 ≤ g ∧ w.heap[g]? = some (.cells #[c0, c1, c2] 36 (0, 0))
  | 14, [v], _ => ∃ a n c, v = .slice a n c
  | 15, [v], _ => v = .int .i64 err
  | 17, [v], _ => v = e17
  | 18, [v], _ => v = e18
  | _, _, _ => True

section
variable {n0 : Nat} {mv pv xv e17 e18 : Value} {procs : List ObjV} {x : ObjV} {err : Int} {w w' : World}
/-- what a step leaves: blocks of which nothing is known but their kind -/
theorem YApp.keep {O : Nat → Prop} (hm : Mv O w w') (hO : ∀ b, O b → ∃ c, w.heap[b]? = some (.cells c 31 (0, 0))) : ∀ j l, j ≠ 1 → j ≠ 3 → j ≠ 5 → j ≠ 6 → YApp n0 mv pv xv e17 e18 procs x err j l w → YApp n0 mv pv xv e17 e18 procs x err j l w' := by
  intro j l h1 h3 h5 h6 h
  unfold YApp at h ⊢
  split at h <;> first | exact h | (simp_all; done) | skip
  obtain ⟨g, c0, c1, c2, e, hn, hg⟩ := h
  refine ⟨g, c0, c1, c2, e, hn, ?_⟩
  rw [hm.block g (lt_of_block hg) (fun ho => ?_)]
  · exact hg
  · obtain ⟨c, hc⟩ := hO g ho
    rw [hg] at hc
    simp at hc
theorem YApp.grow (hm : Grow w w') : ∀ j l, YApp n0 mv pv xv e17 e18 procs x err j l w → YApp n0 mv pv xv e17 e18 procs x err j l w' := by
  intro j l h
  unfold YApp at h ⊢
  split at h <;> first | exact h | skip
  · obtain ⟨g, e, hn, hg⟩ := h
    exact ⟨g, e, hn, by rw [hm.block g (lt_of_block hg) (fun h => h)]; exact hg⟩
  · exact row_keep h hm (fun _ _ e => e)
  · obtain ⟨g, e, hn, hg⟩ := h
    exact ⟨g, e, hn, by rw [hm.block g (lt_of_block hg) (fun h => h)]; exact hg⟩
  · exact row_keep h hm (fun _ _ e => e)
  · obtain ⟨g, c0, c1, c2, e, hn, hg⟩ := h
    exact ⟨g, c0, c1, c2, e, hn, by rw [hm.block g (lt_of_block hg) (fun h => h)]; exact hg⟩
theorem row_kind {base : Nat} {v : Value} {l : List ObjV} (h : ObjRow w base v l) : ∀ b, v.ownBlock = some b → ∃ c, w.heap[b]? = some (.cells c 31 (0, 0)) := by
  intro b hb
  rcases h.2 with ⟨rfl, _⟩ | ⟨g, cap, cur, rfl, _, hg, _⟩
  · simp [Value.ownBlock] at hb
  · simp [Value.ownBlock] at hb; subst hb; exact ⟨cur, hg⟩
theorem row_base {base base' : Nat} {v : Value} {l : List ObjV} (h : ObjRow w base v l) (hb : base' ≤ base) : ObjRow w base' v l := by
  refine ⟨h.1, ?_⟩
  rcases h.2 with h1 | ⟨g, cap, cur, e, hg, rest⟩
  · exact .inl h1
  · exact .inr ⟨g, cap, cur, e, Nat.le_trans hb hg, rest⟩
theorem rol_ok (order : List Nat) (ks : List (List Nat)) (k6 : Nat) (h : ((List.range order.length).all fun j => j == k6 || (ks.getD j []).contains k6 || (order.getD j 99 != 1 && order.getD j 99 != 3 && order.getD j 99 != 5 && order.getD j 99 != 6)) = true) : ∀ j, j ≠ k6 → k6 ∉ ks.getD j [] → order.getD j 99 ≠ 1 ∧ order.getD j 99 ≠ 3 ∧ order.getD j 99 ≠ 5 ∧ order.getD j 99 ≠ 6 := by
  intro j hj hk
  rcases Nat.lt_or_ge j order.length with hl | hl
  · have := List.all_eq_true.1 h j (List.mem_range.2 hl)
    simp only [Bool.or_eq_true, beq_iff_eq, List.contains_iff_mem, Bool.and_eq_true, bne_iff_ne] at this
    rcases this with (h1 | h1) | h1
    · exact absurd h1 hj
    · exact absurd h1 hk
    · exact ⟨h1.1.1.1, h1.1.1.2, h1.1.2, h1.2⟩
  · have : order.getD j 99 = 99 := by simp [List.getD, List.getElem?_eq_none hl]
    rw [this]; decide
/-- a store into an image's block -/
theorem YApp.img {X : Nat} {c : Array Value} {d0 d1 d2 : Value} (hm : Mv (fun b => b = X) w w') (hX : w.heap[X]? = some (.cells c 36 (0, 0))) (hX' : w'.heap[X]? = some (.cells #[d0, d1, d2] 36 (0, 0))) : ∀ j l, YApp n0 mv pv xv e17 e18 procs x err j l w → YApp n0 mv pv xv e17 e18 procs x err j l w' := by
  intro j l h
  have hne : ∀ g (cs : Array Value), w.heap[g]? = some (.cells cs 31 (0, 0)) → ¬ g = X := fun g cs hg e => by
    subst e
    rw [hX] at hg
    simp at hg
  unfold YApp at h ⊢
  split at h <;> first | exact h | skip
  · obtain ⟨g, e, hn, hg⟩ := h
    exact ⟨g, e, hn, by rw [hm.block g (lt_of_block hg) (hne g _ hg)]; exact hg⟩
  · exact row_keep h hm (fun g hg e => by obtain ⟨c, hc⟩ := row_kind h g hg; exact hne g c hc e)
  · obtain ⟨g, e, hn, hg⟩ := h
    exact ⟨g, e, hn, by rw [hm.block g (lt_of_block hg) (hne g _ hg)]; exact hg⟩
  · exact row_keep h hm (fun g hg e => by obtain ⟨c, hc⟩ := row_kind h g hg; exact hne g c hc e)
  · obtain ⟨g, c0, c1, c2, e, hn, hg⟩ := h
    by_cases hgX : g = X
    · subst hgX; exact ⟨g, d0, d1, d2, e, hn, hX'⟩
    · exact ⟨g, c0, c1, c2, e, hn, by rw [hm.block g (lt_of_block hg) hgX]; exact hg⟩
end

set_option maxRecDepth 100000 in
set_option maxHeartbeats 8000000 in
theorem errors_walk (o : ObjV) (pv : Value) (procs : List ObjV) (kk : Int) (w : World) (ht : TabOk w) (ho : ObjAt w o) (hp : ObjsAt w pv procs) (hk0 : 0 ≤ kk) (hk1 : kk ≤ 255) :
    Calls Tryd.prog 6 #[o.val, pv, .int .u8 kk] w fun e w' => e = .returned (.bool true) ∧ Grow w w' := by
  obtain ⟨pa, pcap, rfl, hpcap, hplen⟩ := hp.row.form
  obtain ⟨y1, y2, y3, y4, y5, y6, y7, y8, ⟨hy1, hy2, hy3, hy4⟩, -, -, -⟩ := ho.slices
  have HO := Lib.hid ho
  have HP := Lib.hid hp
  have HT := Lib.hid ht
  clear ho hp ht
  obtain ⟨d', qv, sv, cv, rv⟩ := o
  simp only at hy1 hy2 hy3 hy4
  subst hy1 hy2 hy3 hy4
  have hg0 : Grow w (w.alloc (.cells #[.string d'.name, .slice y1 d'.params.length y2, .slice y3 d'.slots.length y4, .int .i64 d'.cells, .int .i64 d'.stacks, .slice y5 d'.code.length y6, .slice y7 d'.refs.length y8] 31)) := (Mv.refl _ _).alloc _
  have hb0 := heap_alloc_new w (.cells #[.string d'.name, .slice y1 d'.params.length y2, .slice y3 d'.slots.length y4, .int .i64 d'.cells, .int .i64 d'.stacks, .slice y5 d'.code.length y6, .slice y7 d'.refs.length y8] 31)
  have HG0 := Lib.hid hg0
  have HB0 := Lib.hid hb0
  clear hg0 hb0
  go_enter Tryd.func6, Tryd.ntmps6
  go_wp2_with fail
  refine (awake_any _ (HT.out.later HG0.out)).mono ?_
  rintro e w1 ⟨rfl, hg1⟩
  have hb1 : w1.heap[w.heap.size]? = some (.cells #[.string d'.name, .slice y1 d'.params.length y2, .slice y3 d'.slots.length y4, .int .i64 d'.cells, .int .i64 d'.stacks, .slice y5 d'.code.length y6, .slice y7 d'.refs.length y8] 31 (0, 0)) := by
    rw [hg1.block _ (by simp) (fun h => h)]; exact HB0.out
  have HG1 := Lib.hid (Mv.trans HG0.out hg1 (fun _ e => e.elim))
  have HB1 := Lib.hid hb1
  obtain ⟨⟨o0, o1, o2, o3⟩, o4, o5, o6⟩ := obj_cells hb1
  have hl1 := lt_of_block hb1
  clear hg1 hb1 HG0 HB0
  go_wp2_with fail
  refine (few_any ⟨d', .slice y1 d'.params.length y2, .slice y3 d'.slots.length y4, .slice y5 d'.code.length y6, .slice y7 d'.refs.length y8⟩ _ procs _ (HO.out.later HG1.out) (HP.out.later HG1.out)).mono ?_
  rintro e w2 ⟨rfl, hg2⟩
  clear o0 o1 o2 o3 o4 o5 o6
  cases hfb : fewB d' (procs.map (·.d)) with
  | false =>
    have HG2 := Lib.hid (Mv.trans HG1.out hg2 (fun _ e => e.elim))
    simp only [hfb, oneB, Bool.false_eq_true, if_false]
    clear hg2
    go_wp2_with fail
    go_ret
    exact ⟨rfl, HG2.out⟩
  | true =>
  have HFB := Lib.hid hfb
  simp only [hfb, oneB, if_true]
  have hb2 : w2.heap[w.heap.size]? = some (.cells #[.string d'.name, .slice y1 d'.params.length y2, .slice y3 d'.slots.length y4, .int .i64 d'.cells, .int .i64 d'.stacks, .slice y5 d'.code.length y6, .slice y7 d'.refs.length y8] 31 (0, 0)) := by
    rw [hg2.block _ hl1 (fun h => h)]; exact HB1.out
  have HG2 := Lib.hid (Mv.trans HG1.out hg2 (fun _ e => e.elim))
  have HB2 := Lib.hid hb2
  obtain ⟨⟨o0, o1, o2, o3⟩, o4, o5, o6⟩ := obj_cells hb2
  have hl2 := lt_of_block hb2
  clear hg2 hb2 HG1 HB1 hl1 hfb
  by_cases hn : procs.length = 0
  · go_wp2_with fail
    go_ret
    exact ⟨rfl, HG2.out⟩
  have h8 := (few_split HFB.out).1
  rw [List.length_map] at h8
  go_wp2_with fail
  refine (link_any ⟨d', .slice y1 d'.params.length y2, .slice y3 d'.slots.length y4, .slice y5 d'.code.length y6, .slice y7 d'.refs.length y8⟩ _ procs _ (HT.out.later HG2.out) (HO.out.later HG2.out) (HP.out.later HG2.out) (few_self HFB.out)).mono ?_
  rintro e w3 ⟨cv3, sv3, rfl, hg3, hrc3, hrs3⟩
  obtain ⟨xa, xc, rfl, -⟩ := hrc3.form
  obtain ⟨xb, xe, rfl, -⟩ := hrs3.form
  have HLK := Lib.hid (show linkD d' (procs.map (·.d)) = linkD d' (procs.map (·.d)) from rfl)
  have HEP := Lib.hid (fun i hi h => errs_plain (main := d') (procs := procs.map (·.d)) i hi h)
  simp only
  generalize linkD d' (procs.map (·.d)) = L3 at *
  have hb3 : w3.heap[w.heap.size]? = some (.cells #[.string d'.name, .slice y1 d'.params.length y2, .slice y3 d'.slots.length y4, .int .i64 d'.cells, .int .i64 d'.stacks, .slice y5 d'.code.length y6, .slice y7 d'.refs.length y8] 31 (0, 0)) := by
    rw [hg3.block _ hl2 (fun h => h)]; exact HB2.out
  have HG3 := Lib.hid (Mv.trans HG2.out hg3 (fun _ e => e.elim))
  have HB3 := Lib.hid hb3
  clear hrc3 hrs3 o0 o1 o2 o3 o4 o5 o6 hg3 HG2 HB2 hl2 HLK
  obtain ⟨Lc, Lm, Ls, Ly, Le⟩ := L3
  simp only at HEP ⊢
  by_cases he : Le ≠ 0
  · have he2 : (Le != 0) = true := by simpa using he
    clear hb3
    go_wp2_with fail
    go_ret
    exact ⟨rfl, HG3.out.alloc _⟩
  obtain rfl : Le = 0 := by omega
  obtain ⟨m, rfl⟩ : ∃ m : Nat, kk = m := ⟨kk.toNat, by omega⟩
  have hi : m % procs.length < procs.length := Nat.mod_lt _ (by omega)
  have hrem : (m : Int).tmod (procs.length : Int) = ((m % procs.length : Nat) : Int) := (Int.ofNat_tmod m procs.length).symm
  generalize m % procs.length = i at *
  have hnz : ¬ ((procs.length : Int) = 0) := by omega
  obtain ⟨b, off, cap', e, _, hcc⟩ := (HP.out.row.later HG3.out).at hi
  simp only [Value.slice.injEq, true_and] at e
  obtain ⟨rfl, rfl⟩ := e
  have c0 := hcc 0 _ rfl
  have c1 := hcc 1 _ rfl
  have c2 := hcc 2 _ rfl
  have c3 := hcc 3 _ rfl
  have c4 := hcc 4 _ rfl
  have c5 := hcc 5 _ rfl
  have c6 := hcc 6 _ rfl
  simp only [Nat.add_zero] at c0
  have hbl : b < w3.heap.size := World.block_lt_of_cell? w3 _ c0
  have hxo := HP.out.each procs[i] (List.getElem_mem hi)
  have HXO := Lib.hid hxo
  have him : i < (procs.map (·.d)).length := by simpa using hi
  have hgd : (procs.map (·.d))[i] = procs[i].d := by simp
  have HER := Lib.hid (by have := HEP.out i him rfl; rw [hgd] at this; exact this)
  have HXM := Lib.hid (List.getElem_mem hi)
  generalize hx : procs[i] = x at HXM HER HXO hxo c0 c1 c2 c3 c4 c5 c6
  have HXE := Lib.hid hx
  obtain ⟨z1, z2, z3, z4, z5, z6, xra, xrcap, ⟨hz1, hz2, hz3, hxrv⟩, -, -, -⟩ := hxo.slices
  obtain ⟨xd, xqv, xsv, xcv, xrv⟩ := x
  simp only at c0 c1 c2 c3 c4 c5 c6 hz1 hz2 hz3 hxrv HER
  subst hz1 hz2 hz3 hxrv
  clear hcc hx hxo him hgd HEP hb3
  go_wp2_with fail
  have hg3a : Grow w (w3.alloc (.cells #[.slice xa Lc.length xc, .int .i64 Lm, .int .i64 Ls] 36)) := HG3.out.alloc _
  have hb3a := alloc_keep HB3.out (.cells #[.slice xa Lc.length xc, .int .i64 Lm, .int .i64 Ls] 36)
  generalize w3.alloc (.cells #[.slice xa Lc.length xc, .int .i64 Lm, .int .i64 Ls] 36) = w3a at *
  clear c0 c1 c2 c3 c4 c5 c6
  refine (link_any ⟨xd, .slice z1 xd.params.length z2, .slice z3 xd.slots.length z4, .slice z5 xd.code.length z6, .slice xra xd.refs.length xrcap⟩ _ procs _ (HT.out.later hg3a) (HXO.out.later hg3a) (HP.out.later hg3a) (few_all HFB.out (.inr (List.mem_map.2 ⟨_, HXM.out, rfl⟩)) (by simp; omega) (fun o ho => .inr ⟨o, ho, rfl, rfl⟩))).mono ?_
  rintro e w4 ⟨cv4, sv4, rfl, hg4, hrc4, hrs4⟩
  have he4 := HER.out.1
  simp only at hrc4 hrs4 ⊢
  generalize linkD xd (procs.map (·.d)) = L4 at *
  obtain ⟨qc, qm, qs, qy, qe⟩ := L4
  obtain ⟨qa, qb, rfl, -⟩ := hrc4.form
  obtain ⟨qf, qg, rfl, -⟩ := hrs4.form
  simp only at he4
  subst he4
  have hb4 : w4.heap[w.heap.size]? = some (.cells #[.string d'.name, .slice y1 d'.params.length y2, .slice y3 d'.slots.length y4, .int .i64 d'.cells, .int .i64 d'.stacks, .slice y5 d'.code.length y6, .slice y7 d'.refs.length y8] 31 (0, 0)) := by
    rw [hg4.block _ (lt_of_block hb3a) (fun h => h)]; exact hb3a
  have hg4w := Mv.trans hg3a hg4 (fun _ e => e.elim)
  have HG4 := Lib.hid hg4w
  have HB4 := Lib.hid hb4
  clear hrc4 hrs4 hg4 hg3a hb3a hg4w hb4
  go_wp2_with fail
  -- REGIONS
  have hG5 := HG4.out.alloc (.cells #[.slice qa qc.length qb, .int .i64 qm, .int .i64 qs] 36)
  have hB5 := alloc_keep HB4.out (.cells #[.slice qa qc.length qb, .int .i64 qm, .int .i64 qs] 36)
  generalize w4.alloc (.cells #[.slice qa qc.length qb, .int .i64 qm, .int .i64 qs] 36) = w5 at *
  have HSXL := Lib.hid (fun (x : World) (hx : Mv (fun b => w5.heap.size ≤ b) w5.drew x) => (show w5.heap.size ≤ x.heap.size from hx.size))
  have HGXL := Lib.hid (fun (x : World) (hx : Mv (fun b => w5.heap.size ≤ b) w5.drew x) => (show Grow w x from Mv.trans (Mv.drew hG5) hx (fun b hb => .inr (by have := (hG5).size; omega))))
  have HBXL := Lib.hid (fun (x : World) (hx : Mv (fun b => w5.heap.size ≤ b) w5.drew x) => (show x.heap[w.heap.size]? = some (.cells #[.string d'.name, .slice y1 d'.params.length y2, .slice y3 d'.slots.length y4, .int .i64 d'.cells, .int .i64 d'.stacks, .slice y5 d'.code.length y6, .slice y7 d'.refs.length y8] 31 (0, 0)) from by rw [hx.block _ (lt_of_block hB5) (by have := lt_of_block hB5; omega)]; exact hB5))
  refine wp_region_steps (by kernel_rfl) 124 [some 60, some 61, some 62, some 63, some 64, some 65, some 66, some 67, some 59, some 68, some 69, some 70, some 14, none, some 15, some 16] [[], [], [], [1, 2], [], [4], [3, 5, 3], [0, 6, 6], [7], [8], [8], [8], [], [12, 9, 7, 0, 1, 2, 3, 4, 5, 6, 7, 8, 9, 12], [10, 13, 0, 1, 2, 3, 4, 5, 6, 7, 8, 9, 10, 12, 13], [11, 14, 0, 1, 2, 3, 4, 5, 6, 7, 8, 9, 10, 11, 12, 13, 14]] [[], [], [], [1, 2], [], [4], [3, 5], [0, 6], [7], [8], [8], [8], [], [12, 9], [10], [11]] [[0], [1], [2], [3], [4], [5], [6], [7], [8], [9], [10], [11], [12], [13], [14], [15]] [[], [6], [], [6], [], [6]] rfl (by kernel_rfl) (Mv (fun b => w5.heap.size ≤ b)) (fun _ => Mv.refl _ _) (fun x y z h1 h2 => h1.trans h2 (fun _ e => .inl e))
    (fun j => YApp (w5.heap.size) (.agg #[.string d'.name, .slice y1 d'.params.length y2, .slice y3 d'.slots.length y4, .int .i64 d'.cells, .int .i64 d'.stacks, .slice y5 d'.code.length y6, .slice y7 d'.refs.length y8]) (.slice (some ⟨b, off, none⟩) procs.length pcap) (.agg #[.string d'.name, .slice y1 d'.params.length y2, .slice y3 d'.slots.length y4, .int .i64 d'.cells, .int .i64 d'.stacks, .slice y5 d'.code.length y6, .slice y7 d'.refs.length y8]) (.int .i64 i) (.pointer (some ⟨b, off + i * 7, none⟩)) procs ⟨d', .slice y1 d'.params.length y2, .slice y3 d'.slots.length y4, .slice y5 d'.code.length y6, .slice y7 d'.refs.length y8⟩ 3 ([0, 1, 2, 3, 4, 5, 6, 7, 8, 9, 10, 11, 12, 13, 14, 15].getD j 99)) ?steps ?done
  case steps =>
    refine ⟨?s0, ?s1, ?s2, ?s3, ?s4, ?s5, ?s6, ?s7, ?s8, ?s9, ?s10, ?s11, ?s12, ?s13, ?s14, ?s15, trivial⟩
    case s0 =>
      intro vs x hx hY
      obtain ⟨⟨o0, o1, o2, o3⟩, o4, o5, o6⟩ := obj_cells (HBXL.out x hx)
      clear hY
      unfold Gives
      simp only [actL, Act.put, List.getD_cons_zero, List.getD_cons_succ, List.setIfInBounds_toArray, List.set_cons_zero, List.set_cons_succ]
      go_simp
      exact ⟨Mv.refl _ _, rfl, fun _ _ _ _ h => h⟩
    case s1 =>
      intro vs x hx hY
      clear hY
      unfold Gives
      simp only [actL, Act.put, List.getD_cons_zero, List.getD_cons_succ, List.setIfInBounds_toArray, List.set_cons_zero, List.set_cons_succ]
      go_simp
      exact ⟨(Mv.refl _ _).alloc _, ⟨x.heap.size, rfl, HSXL.out x hx, heap_alloc_new x _⟩, fun j l _ _ h => YApp.grow ((Mv.refl _ _).alloc _) _ l h⟩
    case s2 =>
      intro vs x hx hY
      clear hY
      unfold Gives
      simp only [actL, Act.put, List.getD_cons_zero, List.getD_cons_succ, List.setIfInBounds_toArray, List.set_cons_zero, List.set_cons_succ]
      go_simp
      exact ⟨Mv.refl _ _, rfl, fun _ _ _ _ h => h⟩
    case s3 =>
      intro vs x hx hY
      obtain ⟨g, (h1 : vs 1 = _), hg0, hg⟩ := hY 1 (by simp) (by simp)
      have h2 : vs 2 = .slice (some ⟨b, off, none⟩) procs.length pcap := hY 2 (by simp) (by simp)
      obtain ⟨a', c', y, ⟨hok, hv, hw⟩, hrow, hgr⟩ := app_objs0 procs g b off pcap x hg (HP.out.row.later (HGXL.out x hx)) (fun o ho => (HP.out.each o ho).later (HGXL.out x hx)) (by omega)
      clear hY
      unfold Gives
      simp only [actL, Act.put, List.getD_cons_zero, List.getD_cons_succ, List.setIfInBounds_toArray, List.set_cons_zero, List.set_cons_succ, h1, h2]
      go_simp
      exact ⟨hgr.mono (fun _ e => e.elim), row_base hrow hg0, fun j l _ _ h => YApp.grow hgr _ l h⟩
    case s4 =>
      intro vs x hx hY
      obtain ⟨⟨o0, o1, o2, o3⟩, o4, o5, o6⟩ := obj_cells (HBXL.out x hx)
      clear hY
      unfold Gives
      simp only [actL, Act.put, List.getD_cons_zero, List.getD_cons_succ, List.setIfInBounds_toArray, List.set_cons_zero, List.set_cons_succ]
      go_simp
      exact ⟨Mv.refl _ _, rfl, fun _ _ _ _ h => h⟩
    case s5 =>
      intro vs x hx hY
      have h4 : vs 4 = .agg #[.string d'.name, .slice y1 d'.params.length y2, .slice y3 d'.slots.length y4, .int .i64 d'.cells, .int .i64 d'.stacks, .slice y5 d'.code.length y6, .slice y7 d'.refs.length y8] := hY 4 (by simp) (by simp)
      clear hY
      unfold Gives
      simp only [actL, Act.put, List.getD_cons_zero, List.getD_cons_succ, List.setIfInBounds_toArray, List.set_cons_zero, List.set_cons_succ, h4]
      go_simp
      exact ⟨(Mv.refl _ _).alloc _, ⟨x.heap.size, rfl, HSXL.out x hx, heap_alloc_new x _⟩, fun j l _ _ h => YApp.grow ((Mv.refl _ _).alloc _) _ l h⟩
    case s6 =>
      intro vs x hx hY
      have h3 : ObjRow x (w5.heap.size) (vs 3) procs := hY 3 (by simp) (by simp)
      obtain ⟨g, (h5 : vs 5 = _), hg0, hg⟩ := hY 5 (by simp) (by simp)
      obtain ⟨a3, c3, h3e⟩ := row_slice h3
      rw [h3e] at h3
      have hs := HSXL.out x hx
      obtain ⟨a', c', y, ⟨hok, hv, hw⟩, hrow, hmv, -⟩ := app_objs _ procs [⟨d', .slice y1 d'.params.length y2, .slice y3 d'.slots.length y4, .slice y5 d'.code.length y6, .slice y7 d'.refs.length y8⟩] g 0 1 _ x h3 (RowAt.ofBlock (l := [(⟨d', .slice y1 d'.params.length y2, .slice y3 d'.slots.length y4, .slice y5 d'.code.length y6, .slice y7 d'.refs.length y8⟩ : ObjV)]) (fun _ => rfl) hg rfl (by simp)) (fun o ho => by simp at ho; subst ho; exact HO.out.later (HGXL.out x hx)) hs (by simp; omega)
      simp only [List.length_cons, List.length_nil, Nat.zero_add] at hok hv hw hrow
      have hrl := rol_ok [0, 1, 2, 3, 4, 5, 6, 7, 8, 9, 10, 11, 12, 13, 14, 15] [[], [6], [], [6], [], [6]] 6 (by decide)
      have hkind := row_kind h3
      have hlt3 := h3.lt
      clear hY h3
      unfold Gives
      simp only [actL, Act.put, List.getD_cons_zero, List.getD_cons_succ, List.setIfInBounds_toArray, List.set_cons_zero, List.set_cons_succ, h3e, h5]
      go_simp
      exact ⟨hmv.mono (fun b e => .inl (hlt3 b e).1), hrow, fun j l hj hk h => by
        obtain ⟨r1, r3, r5, r6⟩ := hrl j hj hk
        exact YApp.keep hmv hkind _ l r1 r3 r5 r6 h⟩
    case s7 =>
      intro vs x hx hY
      have h0 : vs 0 = .agg #[.string d'.name, .slice y1 d'.params.length y2, .slice y3 d'.slots.length y4, .int .i64 d'.cells, .int .i64 d'.stacks, .slice y5 d'.code.length y6, .slice y7 d'.refs.length y8] := hY 0 (by simp) (by simp)
      have h6 : ObjRow x (w5.heap.size) (vs 6) (procs ++ [⟨d', .slice y1 d'.params.length y2, .slice y3 d'.slots.length y4, .slice y5 d'.code.length y6, .slice y7 d'.refs.length y8⟩]) := hY 6 (by simp) (by simp)
      have hgx := HGXL.out x hx
      have hlk := link_any ⟨d', .slice y1 d'.params.length y2, .slice y3 d'.slots.length y4, .slice y5 d'.code.length y6, .slice y7 d'.refs.length y8⟩ (vs 6) (procs ++ [⟨d', .slice y1 d'.params.length y2, .slice y3 d'.slots.length y4, .slice y5 d'.code.length y6, .slice y7 d'.refs.length y8⟩]) x (HT.out.later hgx) (HO.out.later hgx) (h6.objs (fun o ho => by
        rcases List.mem_append.1 ho with ho | ho
        · exact (HP.out.each o ho).later hgx
        · simp at ho; subst ho; exact HO.out.later (HGXL.out x hx))) (few_all HFB.out (.inl rfl) (by simp; omega) (fun o ho => by
        rw [List.map_append] at ho
        rcases List.mem_append.1 ho with ho | ho
        · exact .inr ⟨o, ho, rfl, rfl⟩
        · simp at ho; rw [ho]; exact .inl ⟨rfl, rfl⟩))
      have herr : (linkD d' ((procs ++ [(⟨d', .slice y1 d'.params.length y2, .slice y3 d'.slots.length y4, .slice y5 d'.code.length y6, .slice y7 d'.refs.length y8⟩ : ObjV)]).map (·.d))).err = 3 := by rw [List.map_append]; exact HER.out.2.1
      simp only at hlk
      generalize linkD d' ((procs ++ [(⟨d', .slice y1 d'.params.length y2, .slice y3 d'.slots.length y4, .slice y5 d'.code.length y6, .slice y7 d'.refs.length y8⟩ : ObjV)]).map (·.d)) = LL at hlk herr
      obtain ⟨lc, lm, ls, ly, le⟩ := LL
      simp only at herr
      subst herr
      have HLK := Lib.hid hlk
      clear hY hlk h6
      unfold Gives
      simp only [actL, Act.put, List.getD_cons_zero, List.getD_cons_succ, List.setIfInBounds_toArray, List.set_cons_zero, List.set_cons_succ, h0]
      go_simp
      refine HLK.out.mono ?_
      rintro e y ⟨cv, sv, rfl, hgr, hc, hs⟩
      obtain ⟨ca, cc, rfl, -⟩ := hc.form
      obtain ⟨sa, sc, rfl, -⟩ := hs.form
      exact ⟨_, rfl, hgr.mono (fun _ e => e.elim), ⟨_, _, _, _, _, _, _, _, rfl⟩, fun j l _ _ h => YApp.grow hgr _ l h⟩
    case s8 =>
      intro vs x hx hY
      obtain ⟨a1, n1, c1, m1, s1, a2, n2, c2, (h7 : vs 7 = _)⟩ := hY 7 (by simp) (by simp)
      clear hY
      unfold Gives
      simp only [actL, Act.put, List.getD_cons_zero, List.getD_cons_succ, List.setIfInBounds_toArray, List.set_cons_zero, List.set_cons_succ, h7]
      go_simp
      exact ⟨Mv.refl _ _, ⟨_, _, _, _, _, _, _, _, rfl⟩, fun _ _ _ _ h => h⟩
    case s9 =>
      intro vs x hx hY
      obtain ⟨a1, n1, c1, m1, s1, a2, n2, c2, (h8 : vs 8 = _)⟩ := hY 8 (by simp) (by simp)
      clear hY
      unfold Gives
      simp only [actL, Act.put, List.getD_cons_zero, List.getD_cons_succ, List.setIfInBounds_toArray, List.set_cons_zero, List.set_cons_succ, h8]
      go_simp
      exact ⟨Mv.refl _ _, ⟨_, _, _, _, _, rfl⟩, fun _ _ _ _ h => h⟩
    case s10 =>
      intro vs x hx hY
      obtain ⟨a1, n1, c1, m1, s1, a2, n2, c2, (h8 : vs 8 = _)⟩ := hY 8 (by simp) (by simp)
      clear hY
      unfold Gives
      simp only [actL, Act.put, List.getD_cons_zero, List.getD_cons_succ, List.setIfInBounds_toArray, List.set_cons_zero, List.set_cons_succ, h8]
      go_simp
      exact ⟨Mv.refl _ _, ⟨_, _, _, rfl⟩, fun _ _ _ _ h => h⟩
    case s11 =>
      intro vs x hx hY
      obtain ⟨a1, n1, c1, m1, s1, a2, n2, c2, (h8 : vs 8 = _)⟩ := hY 8 (by simp) (by simp)
      clear hY
      unfold Gives
      simp only [actL, Act.put, List.getD_cons_zero, List.getD_cons_succ, List.setIfInBounds_toArray, List.set_cons_zero, List.set_cons_succ, h8]
      go_simp
      exact ⟨Mv.refl _ _, rfl, fun _ _ _ _ h => h⟩
    case s12 =>
      intro vs x hx hY
      clear hY
      unfold Gives
      simp only [actL, Act.put, List.getD_cons_zero, List.getD_cons_succ, List.setIfInBounds_toArray, List.set_cons_zero, List.set_cons_succ]
      go_simp
      exact ⟨(Mv.refl _ _).alloc _, ⟨x.heap.size, _, _, _, rfl, HSXL.out x hx, heap_alloc_new x _⟩, fun j l _ _ h => YApp.grow ((Mv.refl _ _).alloc _) _ l h⟩
    case s13 =>
      intro vs x hx hY
      obtain ⟨g, i0, i1, i2, (h12 : vs 12 = _), hg0, hg⟩ := hY 12 (by simp) (by simp)
      obtain ⟨a1, n1, c1, m1, s1, (h9 : vs 9 = _)⟩ := hY 9 (by simp) (by simp)
      clear hY
      obtain ⟨g0, g1, g2, gz⟩ := img_cells hg
      obtain ⟨hY6, hmv6⟩ := set3 hg (.slice a1 n1 c1) (.int .i64 m1) (.int .i64 s1)
      unfold Gives
      simp only [actL, Act.put, List.getD_cons_zero, List.getD_cons_succ, List.setIfInBounds_toArray, List.set_cons_zero, List.set_cons_succ, h12, h9]
      go_simp
      exact ⟨hmv6.mono (fun b e => .inl (by omega)), trivial, fun j l _ _ h => YApp.img hmv6 hg hY6 _ l h⟩
    case s14 =>
      intro vs x hx hY
      obtain ⟨a1, n1, c1, (h10 : vs 10 = _)⟩ := hY 10 (by simp) (by simp)
      clear hY
      unfold Gives
      simp only [actL, Act.put, List.getD_cons_zero, List.getD_cons_succ, List.setIfInBounds_toArray, List.set_cons_zero, List.set_cons_succ, h10]
      go_simp
      exact ⟨Mv.refl _ _, ⟨_, _, _, rfl⟩, fun _ _ _ _ h => h⟩
    case s15 =>
      intro vs x hx hY
      have h11 : vs 11 = .int .i64 3 := hY 11 (by simp) (by simp)
      clear hY
      unfold Gives
      simp only [actL, Act.put, List.getD_cons_zero, List.getD_cons_succ, List.setIfInBounds_toArray, List.set_cons_zero, List.set_cons_succ, h11]
      go_simp
      exact ⟨Mv.refl _ _, rfl, fun _ _ _ _ h => h⟩
  case done =>
  intro vs w6 hx hY
  have h15 : vs 15 = .int .i64 3 := hY 15 (by decide) rfl
  have hgx := HGXL.out w6 hx
  have hbx := HBXL.out w6 hx
  clear hY
  simp only [List.length_cons, List.length_nil, Nat.zero_add, Nat.reduceAdd]
  rw [show List.range 16 = [0, 1, 2, 3, 4, 5, 6, 7, 8, 9, 10, 11, 12, 13, 14, 15] from rfl]
  simp only [actL, Act.put, List.getD_cons_zero, List.getD_cons_succ, List.setIfInBounds_toArray, List.set_cons_zero, List.set_cons_succ, h15]
  clear HSXL HGXL HBXL hx hG5 hB5 h15
  go_wp2_with fail
  have hG6 := hgx
  have hB6 := hbx
  clear hgx hbx
  have HSXL := Lib.hid (fun (x : World) (hx : Mv (fun b => w6.heap.size ≤ b) w6.drew x) => (show w6.heap.size ≤ x.heap.size from hx.size))
  have HGXL := Lib.hid (fun (x : World) (hx : Mv (fun b => w6.heap.size ≤ b) w6.drew x) => (show Grow w x from Mv.trans (Mv.drew hG6) hx (fun b hb => .inr (by have := (hG6).size; omega))))
  have HBXL := Lib.hid (fun (x : World) (hx : Mv (fun b => w6.heap.size ≤ b) w6.drew x) => (show x.heap[w.heap.size]? = some (.cells #[.string d'.name, .slice y1 d'.params.length y2, .slice y3 d'.slots.length y4, .int .i64 d'.cells, .int .i64 d'.stacks, .slice y5 d'.code.length y6, .slice y7 d'.refs.length y8] 31 (0, 0)) from by rw [hx.block _ (lt_of_block hB6) (by have := lt_of_block hB6; omega)]; exact hB6))
  have HROW := Lib.hid (fun (x : World) (hx : Mv (fun b => w6.heap.size ≤ b) w6.drew x) => (HP.out.row.later (HGXL.out x hx)).at' hi)
  refine wp_region_steps (by kernel_rfl) 124 [some 72, some 73, some 74, some 75, some 76, some 77, some 78, some 79, some 80, some 81, some 82, some 71, some 83, some 84, some 85, some 17, none, some 18, some 19] [[], [], [], [1, 2], [], [], [4, 5], [6], [7], [3, 8, 3], [0, 9, 9], [10], [11], [11], [11], [], [15, 12, 10, 0, 1, 2, 3, 4, 5, 6, 7, 8, 9, 10, 11, 12, 15], [13, 16, 0, 1, 2, 3, 4, 5, 6, 7, 8, 9, 10, 11, 12, 13, 15, 16], [14, 17, 0, 1, 2, 3, 4, 5, 6, 7, 8, 9, 10, 11, 12, 13, 14, 15, 16, 17]] [[], [], [], [1, 2], [], [], [4, 5], [6], [7], [3, 8], [0, 9], [10], [11], [11], [11], [], [15, 12], [13], [14]] [[0], [1], [2], [3], [4], [5], [6], [7], [8], [9], [10], [11], [12], [13], [14], [15], [16], [17], [18]] [[], [9], [], [9], [], [], [], [], [9]] rfl (by kernel_rfl) (Mv (fun b => w6.heap.size ≤ b)) (fun _ => Mv.refl _ _) (fun x y z h1 h2 => h1.trans h2 (fun _ e => .inl e))
    (fun j => YApp (w6.heap.size) (.agg #[.string d'.name, .slice y1 d'.params.length y2, .slice y3 d'.slots.length y4, .int .i64 d'.cells, .int .i64 d'.stacks, .slice y5 d'.code.length y6, .slice y7 d'.refs.length y8]) (.slice (some ⟨b, off, none⟩) procs.length pcap) (.agg #[.string xd.name, .slice z1 xd.params.length z2, .slice z3 xd.slots.length z4, .int .i64 xd.cells, .int .i64 xd.stacks, .slice z5 xd.code.length z6, .slice xra xd.refs.length xrcap]) (.int .i64 i) (.pointer (some ⟨b, off + i * 7, none⟩)) procs ⟨xd, .slice z1 xd.params.length z2, .slice z3 xd.slots.length z4, .slice z5 xd.code.length z6, .slice xra xd.refs.length xrcap⟩ 22 ([0, 1, 2, 3, 2, 17, 18, 4, 5, 6, 7, 8, 9, 10, 11, 12, 13, 14, 15].getD j 99)) ?steps ?done
  case steps =>
    refine ⟨?s0, ?s1, ?s2, ?s3, ?s4, ?s5, ?s6, ?s7, ?s8, ?s9, ?s10, ?s11, ?s12, ?s13, ?s14, ?s15, ?s16, ?s17, ?s18, trivial⟩
    case s0 =>
      intro vs x hx hY
      obtain ⟨⟨o0, o1, o2, o3⟩, o4, o5, o6⟩ := obj_cells (HBXL.out x hx)
      clear hY
      unfold Gives
      simp only [actL, Act.put, List.getD_cons_zero, List.getD_cons_succ, List.setIfInBounds_toArray, List.set_cons_zero, List.set_cons_succ]
      go_simp
      exact ⟨Mv.refl _ _, rfl, fun _ _ _ _ h => h⟩
    case s1 =>
      intro vs x hx hY
      clear hY
      unfold Gives
      simp only [actL, Act.put, List.getD_cons_zero, List.getD_cons_succ, List.setIfInBounds_toArray, List.set_cons_zero, List.set_cons_succ]
      go_simp
      exact ⟨(Mv.refl _ _).alloc _, ⟨x.heap.size, rfl, HSXL.out x hx, heap_alloc_new x _⟩, fun j l _ _ h => YApp.grow ((Mv.refl _ _).alloc _) _ l h⟩
    case s2 =>
      intro vs x hx hY
      clear hY
      unfold Gives
      simp only [actL, Act.put, List.getD_cons_zero, List.getD_cons_succ, List.setIfInBounds_toArray, List.set_cons_zero, List.set_cons_succ]
      go_simp
      exact ⟨Mv.refl _ _, rfl, fun _ _ _ _ h => h⟩
    case s3 =>
      intro vs x hx hY
      obtain ⟨g, (h1 : vs 1 = _), hg0, hg⟩ := hY 1 (by simp) (by simp)
      have h2 : vs 2 = .slice (some ⟨b, off, none⟩) procs.length pcap := hY 2 (by simp) (by simp)
      obtain ⟨a', c', y, ⟨hok, hv, hw⟩, hrow, hgr⟩ := app_objs0 procs g b off pcap x hg (HP.out.row.later (HGXL.out x hx)) (fun o ho => (HP.out.each o ho).later (HGXL.out x hx)) (by omega)
      clear hY
      unfold Gives
      simp only [actL, Act.put, List.getD_cons_zero, List.getD_cons_succ, List.setIfInBounds_toArray, List.set_cons_zero, List.set_cons_succ, h1, h2]
      go_simp
      exact ⟨hgr.mono (fun _ e => e.elim), row_base hrow hg0, fun j l _ _ h => YApp.grow hgr _ l h⟩
    case s4 =>
      intro vs x hx hY
      clear hY
      unfold Gives
      simp only [actL, Act.put, List.getD_cons_zero, List.getD_cons_succ, List.setIfInBounds_toArray, List.set_cons_zero, List.set_cons_succ]
      go_simp
      exact ⟨Mv.refl _ _, rfl, fun _ _ _ _ h => h⟩
    case s5 =>
      intro vs x hx hY
      clear hY
      unfold Gives
      simp only [actL, Act.put, List.getD_cons_zero, List.getD_cons_succ, List.setIfInBounds_toArray, List.set_cons_zero, List.set_cons_succ]
      go_simp
      exact ⟨Mv.refl _ _, rfl, fun _ _ _ _ h => h⟩
    case s6 =>
      intro vs x hx hY
      have h4 : vs 4 = .slice (some ⟨b, off, none⟩) procs.length pcap := hY 4 (by simp) (by simp)
      have h5 : vs 5 = .int .i64 i := hY 5 (by simp) (by simp)
      clear hY
      unfold Gives
      simp only [actL, Act.put, List.getD_cons_zero, List.getD_cons_succ, List.setIfInBounds_toArray, List.set_cons_zero, List.set_cons_succ, h4, h5]
      go_simp
      exact ⟨Mv.refl _ _, rfl, fun _ _ _ _ h => h⟩
    case s7 =>
      intro vs x hx hY
      have h6 : vs 6 = .pointer (some ⟨b, off + i * 7, none⟩) := hY 6 (by simp) (by simp)
      have hcc := HROW.out x hx
      have c0 := hcc 0 _ rfl
      have c1 := hcc 1 _ rfl
      have c2 := hcc 2 _ rfl
      have c3 := hcc 3 _ rfl
      have c4 := hcc 4 _ rfl
      have c5 := hcc 5 _ rfl
      have c6 := hcc 6 _ rfl
      rw [HXE.out] at c0 c1 c2 c3 c4 c5 c6
      simp only [Nat.add_zero] at c0
      clear hY hcc
      unfold Gives
      simp only [actL, Act.put, List.getD_cons_zero, List.getD_cons_succ, List.setIfInBounds_toArray, List.set_cons_zero, List.set_cons_succ, h6]
      go_simp
      exact ⟨Mv.refl _ _, rfl, fun _ _ _ _ h => h⟩
    case s8 =>
      intro vs x hx hY
      have h4 : vs 7 = .agg #[.string xd.name, .slice z1 xd.params.length z2, .slice z3 xd.slots.length z4, .int .i64 xd.cells, .int .i64 xd.stacks, .slice z5 xd.code.length z6, .slice xra xd.refs.length xrcap] := hY 7 (by simp) (by simp)
      clear hY
      unfold Gives
      simp only [actL, Act.put, List.getD_cons_zero, List.getD_cons_succ, List.setIfInBounds_toArray, List.set_cons_zero, List.set_cons_succ, h4]
      go_simp
      exact ⟨(Mv.refl _ _).alloc _, ⟨x.heap.size, rfl, HSXL.out x hx, heap_alloc_new x _⟩, fun j l _ _ h => YApp.grow ((Mv.refl _ _).alloc _) _ l h⟩
    case s9 =>
      intro vs x hx hY
      have h3 : ObjRow x (w6.heap.size) (vs 3) procs := hY 3 (by simp) (by simp)
      obtain ⟨g, (h5 : vs 8 = _), hg0, hg⟩ := hY 8 (by simp) (by simp)
      obtain ⟨a3, c3, h3e⟩ := row_slice h3
      rw [h3e] at h3
      have hs := HSXL.out x hx
      obtain ⟨a', c', y, ⟨hok, hv, hw⟩, hrow, hmv, -⟩ := app_objs _ procs [⟨xd, .slice z1 xd.params.length z2, .slice z3 xd.slots.length z4, .slice z5 xd.code.length z6, .slice xra xd.refs.length xrcap⟩] g 0 1 _ x h3 (RowAt.ofBlock (l := [(⟨xd, .slice z1 xd.params.length z2, .slice z3 xd.slots.length z4, .slice z5 xd.code.length z6, .slice xra xd.refs.length xrcap⟩ : ObjV)]) (fun _ => rfl) hg rfl (by simp)) (fun o ho => by simp at ho; subst ho; exact HXO.out.later (HGXL.out x hx)) hs (by simp; omega)
      simp only [List.length_cons, List.length_nil, Nat.zero_add] at hok hv hw hrow
      have hrl := rol_ok [0, 1, 2, 3, 2, 17, 18, 4, 5, 6, 7, 8, 9, 10, 11, 12, 13, 14, 15] [[], [9], [], [9], [], [], [], [], [9]] 9 (by decide)
      have hkind := row_kind h3
      have hlt3 := h3.lt
      clear hY h3
      unfold Gives
      simp only [actL, Act.put, List.getD_cons_zero, List.getD_cons_succ, List.setIfInBounds_toArray, List.set_cons_zero, List.set_cons_succ, h3e, h5]
      go_simp
      exact ⟨hmv.mono (fun b e => .inl (hlt3 b e).1), hrow, fun j l hj hk h => by
        obtain ⟨r1, r3, r5, r6⟩ := hrl j hj hk
        exact YApp.keep hmv hkind _ l r1 r3 r5 r6 h⟩
    case s10 =>
      intro vs x hx hY
      have h0 : vs 0 = .agg #[.string d'.name, .slice y1 d'.params.length y2, .slice y3 d'.slots.length y4, .int .i64 d'.cells, .int .i64 d'.stacks, .slice y5 d'.code.length y6, .slice y7 d'.refs.length y8] := hY 0 (by simp) (by simp)
      have h6 : ObjRow x (w6.heap.size) (vs 9) (procs ++ [⟨xd, .slice z1 xd.params.length z2, .slice z3 xd.slots.length z4, .slice z5 xd.code.length z6, .slice xra xd.refs.length xrcap⟩]) := hY 9 (by simp) (by simp)
      have hgx := HGXL.out x hx
      have hlk := link_any ⟨d', .slice y1 d'.params.length y2, .slice y3 d'.slots.length y4, .slice y5 d'.code.length y6, .slice y7 d'.refs.length y8⟩ (vs 9) (procs ++ [⟨xd, .slice z1 xd.params.length z2, .slice z3 xd.slots.length z4, .slice z5 xd.code.length z6, .slice xra xd.refs.length xrcap⟩]) x (HT.out.later hgx) (HO.out.later hgx) (h6.objs (fun o ho => by
        rcases List.mem_append.1 ho with ho | ho
        · exact (HP.out.each o ho).later hgx
        · simp at ho; subst ho; exact HXO.out.later (HGXL.out x hx))) (few_all HFB.out (.inl rfl) (by simp; omega) (fun o ho => by
        rw [List.map_append] at ho
        rcases List.mem_append.1 ho with ho | ho
        · exact .inr ⟨o, ho, rfl, rfl⟩
        · simp at ho; rw [ho]; exact .inr ⟨xd, List.mem_map.2 ⟨_, HXM.out, rfl⟩, rfl, rfl⟩))
      have herr : (linkD d' ((procs ++ [(⟨xd, .slice z1 xd.params.length z2, .slice z3 xd.slots.length z4, .slice z5 xd.code.length z6, .slice xra xd.refs.length xrcap⟩ : ObjV)]).map (·.d))).err = 22 := by rw [List.map_append]; exact HER.out.2.2.1
      simp only at hlk
      generalize linkD d' ((procs ++ [(⟨xd, .slice z1 xd.params.length z2, .slice z3 xd.slots.length z4, .slice z5 xd.code.length z6, .slice xra xd.refs.length xrcap⟩ : ObjV)]).map (·.d)) = LL at hlk herr
      obtain ⟨lc, lm, ls, ly, le⟩ := LL
      simp only at herr
      subst herr
      have HLK := Lib.hid hlk
      clear hY hlk h6
      unfold Gives
      simp only [actL, Act.put, List.getD_cons_zero, List.getD_cons_succ, List.setIfInBounds_toArray, List.set_cons_zero, List.set_cons_succ, h0]
      go_simp
      refine HLK.out.mono ?_
      rintro e y ⟨cv, sv, rfl, hgr, hc, hs⟩
      obtain ⟨ca, cc, rfl, -⟩ := hc.form
      obtain ⟨sa, sc, rfl, -⟩ := hs.form
      exact ⟨_, rfl, hgr.mono (fun _ e => e.elim), ⟨_, _, _, _, _, _, _, _, rfl⟩, fun j l _ _ h => YApp.grow hgr _ l h⟩
    case s11 =>
      intro vs x hx hY
      obtain ⟨a1, n1, c1, m1, s1, a2, n2, c2, (h7 : vs 10 = _)⟩ := hY 10 (by simp) (by simp)
      clear hY
      unfold Gives
      simp only [actL, Act.put, List.getD_cons_zero, List.getD_cons_succ, List.setIfInBounds_toArray, List.set_cons_zero, List.set_cons_succ, h7]
      go_simp
      exact ⟨Mv.refl _ _, ⟨_, _, _, _, _, _, _, _, rfl⟩, fun _ _ _ _ h => h⟩
    case s12 =>
      intro vs x hx hY
      obtain ⟨a1, n1, c1, m1, s1, a2, n2, c2, (h8 : vs 11 = _)⟩ := hY 11 (by simp) (by simp)
      clear hY
      unfold Gives
      simp only [actL, Act.put, List.getD_cons_zero, List.getD_cons_succ, List.setIfInBounds_toArray, List.set_cons_zero, List.set_cons_succ, h8]
      go_simp
      exact ⟨Mv.refl _ _, ⟨_, _, _, _, _, rfl⟩, fun _ _ _ _ h => h⟩
    case s13 =>
      intro vs x hx hY
      obtain ⟨a1, n1, c1, m1, s1, a2, n2, c2, (h8 : vs 11 = _)⟩ := hY 11 (by simp) (by simp)
      clear hY
      unfold Gives
      simp only [actL, Act.put, List.getD_cons_zero, List.getD_cons_succ, List.setIfInBounds_toArray, List.set_cons_zero, List.set_cons_succ, h8]
      go_simp
      exact ⟨Mv.refl _ _, ⟨_, _, _, rfl⟩, fun _ _ _ _ h => h⟩
    case s14 =>
      intro vs x hx hY
      obtain ⟨a1, n1, c1, m1, s1, a2, n2, c2, (h8 : vs 11 = _)⟩ := hY 11 (by simp) (by simp)
      clear hY
      unfold Gives
      simp only [actL, Act.put, List.getD_cons_zero, List.getD_cons_succ, List.setIfInBounds_toArray, List.set_cons_zero, List.set_cons_succ, h8]
      go_simp
      exact ⟨Mv.refl _ _, rfl, fun _ _ _ _ h => h⟩
    case s15 =>
      intro vs x hx hY
      clear hY
      unfold Gives
      simp only [actL, Act.put, List.getD_cons_zero, List.getD_cons_succ, List.setIfInBounds_toArray, List.set_cons_zero, List.set_cons_succ]
      go_simp
      exact ⟨(Mv.refl _ _).alloc _, ⟨x.heap.size, _, _, _, rfl, HSXL.out x hx, heap_alloc_new x _⟩, fun j l _ _ h => YApp.grow ((Mv.refl _ _).alloc _) _ l h⟩
    case s16 =>
      intro vs x hx hY
      obtain ⟨g, i0, i1, i2, (h12 : vs 15 = _), hg0, hg⟩ := hY 15 (by simp) (by simp)
      obtain ⟨a1, n1, c1, m1, s1, (h9 : vs 12 = _)⟩ := hY 12 (by simp) (by simp)
      clear hY
      obtain ⟨g0, g1, g2, gz⟩ := img_cells hg
      obtain ⟨hY6, hmv6⟩ := set3 hg (.slice a1 n1 c1) (.int .i64 m1) (.int .i64 s1)
      unfold Gives
      simp only [actL, Act.put, List.getD_cons_zero, List.getD_cons_succ, List.setIfInBounds_toArray, List.set_cons_zero, List.set_cons_succ, h12, h9]
      go_simp
      exact ⟨hmv6.mono (fun b e => .inl (by omega)), trivial, fun j l _ _ h => YApp.img hmv6 hg hY6 _ l h⟩
    case s17 =>
      intro vs x hx hY
      obtain ⟨a1, n1, c1, (h10 : vs 13 = _)⟩ := hY 13 (by simp) (by simp)
      clear hY
      unfold Gives
      simp only [actL, Act.put, List.getD_cons_zero, List.getD_cons_succ, List.setIfInBounds_toArray, List.set_cons_zero, List.set_cons_succ, h10]
      go_simp
      exact ⟨Mv.refl _ _, ⟨_, _, _, rfl⟩, fun _ _ _ _ h => h⟩
    case s18 =>
      intro vs x hx hY
      have h11 : vs 14 = .int .i64 22 := hY 14 (by simp) (by simp)
      clear hY
      unfold Gives
      simp only [actL, Act.put, List.getD_cons_zero, List.getD_cons_succ, List.setIfInBounds_toArray, List.set_cons_zero, List.set_cons_succ, h11]
      go_simp
      exact ⟨Mv.refl _ _, rfl, fun _ _ _ _ h => h⟩
  case done =>
  intro vs w7 hx hY
  have h15 : vs 18 = .int .i64 22 := hY 18 (by decide) rfl
  have hgx := HGXL.out w7 hx
  have hbx := HBXL.out w7 hx
  clear hY
  simp only [List.length_cons, List.length_nil, Nat.zero_add, Nat.reduceAdd]
  rw [show List.range 19 = [0, 1, 2, 3, 4, 5, 6, 7, 8, 9, 10, 11, 12, 13, 14, 15, 16, 17, 18] from rfl]
  simp only [actL, Act.put, List.getD_cons_zero, List.getD_cons_succ, List.setIfInBounds_toArray, List.set_cons_zero, List.set_cons_succ, h15]
  clear HSXL HGXL HBXL HROW hx hG6 hB6 h15
  have hcc := (HP.out.row.later hgx).at' hi
  have c0 := hcc 0 _ rfl
  have c1 := hcc 1 _ rfl
  have c2 := hcc 2 _ rfl
  have c3 := hcc 3 _ rfl
  have c4 := hcc 4 _ rfl
  have c5 := hcc 5 _ rfl
  have c6 := hcc 6 _ rfl
  rw [HXE.out] at c0 c1 c2 c3 c4 c5 c6
  simp only [Nat.add_zero] at c0
  clear hcc
  have hbl7 : b < w7.heap.size := World.block_lt_of_cell? w7 _ c0
  have hG7 := Lib.hid hgx
  have hB7 := Lib.hid hbx
  clear hgx hbx
  go_wp2_with fail
  have hG8 := hG7.out.alloc (.cells #[.string xd.name, .slice z1 xd.params.length z2, .slice z3 xd.slots.length z4, .int .i64 16385, .int .i64 xd.stacks, .slice z5 xd.code.length z6, .slice xra xd.refs.length xrcap] 31)
  have hM := alloc_keep hB7.out (.cells #[.string xd.name, .slice z1 xd.params.length z2, .slice z3 xd.slots.length z4, .int .i64 16385, .int .i64 xd.stacks, .slice z5 xd.code.length z6, .slice xra xd.refs.length xrcap] 31)
  have hB8' := heap_alloc_new w7 (.cells #[.string xd.name, .slice z1 xd.params.length z2, .slice z3 xd.slots.length z4, .int .i64 16385, .int .i64 xd.stacks, .slice z5 xd.code.length z6, .slice xra xd.refs.length xrcap] 31)
  have hsz8 : w7.heap.size < (w7.alloc (.cells #[.string xd.name, .slice z1 xd.params.length z2, .slice z3 xd.slots.length z4, .int .i64 16385, .int .i64 xd.stacks, .slice z5 xd.code.length z6, .slice xra xd.refs.length xrcap] 31)).heap.size := by simp
  clear c0 c1 c2 c3 c4 c5 c6
  generalize w7.alloc (.cells #[.string xd.name, .slice z1 xd.params.length z2, .slice z3 xd.slots.length z4, .int .i64 16385, .int .i64 xd.stacks, .slice z5 xd.code.length z6, .slice xra xd.refs.length xrcap] 31) = w8 at *
  have HSXL := Lib.hid (fun (x : World) (hx : Mv (fun b => w8.heap.size ≤ b) w8.drew x) => (show w8.heap.size ≤ x.heap.size from hx.size))
  have HGXL := Lib.hid (fun (x : World) (hx : Mv (fun b => w8.heap.size ≤ b) w8.drew x) => (show Grow w x from Mv.trans (Mv.drew hG8) hx (fun b hb => .inr (by have := (hG8).size; omega))))
  have HBXL := Lib.hid (fun (x : World) (hx : Mv (fun b => w8.heap.size ≤ b) w8.drew x) => (show x.heap[w.heap.size]? = some (.cells #[.string d'.name, .slice y1 d'.params.length y2, .slice y3 d'.slots.length y4, .int .i64 d'.cells, .int .i64 d'.stacks, .slice y5 d'.code.length y6, .slice y7 d'.refs.length y8] 31 (0, 0)) from by rw [hx.block _ (lt_of_block hM) (by have := lt_of_block hM; omega)]; exact hM))
  have HBAD := Lib.hid (fun (x : World) (hx : Mv (fun b => w8.heap.size ≤ b) w8.drew x) => (show x.heap[w7.heap.size]? = some (.cells #[.string xd.name, .slice z1 xd.params.length z2, .slice z3 xd.slots.length z4, .int .i64 16385, .int .i64 xd.stacks, .slice z5 xd.code.length z6, .slice xra xd.refs.length xrcap] 31 (0, 0)) from by rw [hx.block _ (lt_of_block hB8') (by omega)]; exact hB8'))
  have HBO := Lib.hid (show ObjAt w ⟨{ xd with cells := 16385 }, .slice z1 xd.params.length z2, .slice z3 xd.slots.length z4, .slice z5 xd.code.length z6, .slice xra xd.refs.length xrcap⟩ from ⟨⟨HXO.out.ok.name, HXO.out.ok.params, HXO.out.ok.slots, by simp [In64], HXO.out.ok.stacks, HXO.out.ok.code, HXO.out.ok.refs, HXO.out.ok.few⟩, HXO.out.params, HXO.out.slots, HXO.out.code, HXO.out.refs⟩)
  refine wp_region_steps (by kernel_rfl) 124 [some 93, some 94, some 95, some 96, some 97, some 98, some 99, some 100, some 92, some 101, some 102, some 103, some 21, none, some 22, some 23] [[], [], [], [1, 2], [], [4], [3, 5, 3], [0, 6, 6], [7], [8], [8], [8], [], [12, 9, 7, 0, 1, 2, 3, 4, 5, 6, 7, 8, 9, 12], [10, 13, 0, 1, 2, 3, 4, 5, 6, 7, 8, 9, 10, 12, 13], [11, 14, 0, 1, 2, 3, 4, 5, 6, 7, 8, 9, 10, 11, 12, 13, 14]] [[], [], [], [1, 2], [], [4], [3, 5], [0, 6], [7], [8], [8], [8], [], [12, 9], [10], [11]] [[0], [1], [2], [3], [4], [5], [6], [7], [8], [9], [10], [11], [12], [13], [14], [15]] [[], [6], [], [6], [], [6]] rfl (by kernel_rfl) (Mv (fun b => w8.heap.size ≤ b)) (fun _ => Mv.refl _ _) (fun x y z h1 h2 => h1.trans h2 (fun _ e => .inl e))
    (fun j => YApp (w8.heap.size) (.agg #[.string d'.name, .slice y1 d'.params.length y2, .slice y3 d'.slots.length y4, .int .i64 d'.cells, .int .i64 d'.stacks, .slice y5 d'.code.length y6, .slice y7 d'.refs.length y8]) (.slice (some ⟨b, off, none⟩) procs.length pcap) (.agg #[.string xd.name, .slice z1 xd.params.length z2, .slice z3 xd.slots.length z4, .int .i64 16385, .int .i64 xd.stacks, .slice z5 xd.code.length z6, .slice xra xd.refs.length xrcap]) (.int .i64 i) (.pointer (some ⟨b, off + i * 7, none⟩)) procs ⟨{ xd with cells := 16385 }, .slice z1 xd.params.length z2, .slice z3 xd.slots.length z4, .slice z5 xd.code.length z6, .slice xra xd.refs.length xrcap⟩ 3 ([0, 1, 2, 3, 4, 5, 6, 7, 8, 9, 10, 11, 12, 13, 14, 15].getD j 99)) ?steps ?done
  case steps =>
    refine ⟨?s0, ?s1, ?s2, ?s3, ?s4, ?s5, ?s6, ?s7, ?s8, ?s9, ?s10, ?s11, ?s12, ?s13, ?s14, ?s15, trivial⟩
    case s0 =>
      intro vs x hx hY
      obtain ⟨⟨o0, o1, o2, o3⟩, o4, o5, o6⟩ := obj_cells (HBXL.out x hx)
      clear hY
      unfold Gives
      simp only [actL, Act.put, List.getD_cons_zero, List.getD_cons_succ, List.setIfInBounds_toArray, List.set_cons_zero, List.set_cons_succ]
      go_simp
      exact ⟨Mv.refl _ _, rfl, fun _ _ _ _ h => h⟩
    case s1 =>
      intro vs x hx hY
      clear hY
      unfold Gives
      simp only [actL, Act.put, List.getD_cons_zero, List.getD_cons_succ, List.setIfInBounds_toArray, List.set_cons_zero, List.set_cons_succ]
      go_simp
      exact ⟨(Mv.refl _ _).alloc _, ⟨x.heap.size, rfl, HSXL.out x hx, heap_alloc_new x _⟩, fun j l _ _ h => YApp.grow ((Mv.refl _ _).alloc _) _ l h⟩
    case s2 =>
      intro vs x hx hY
      clear hY
      unfold Gives
      simp only [actL, Act.put, List.getD_cons_zero, List.getD_cons_succ, List.setIfInBounds_toArray, List.set_cons_zero, List.set_cons_succ]
      go_simp
      exact ⟨Mv.refl _ _, rfl, fun _ _ _ _ h => h⟩
    case s3 =>
      intro vs x hx hY
      obtain ⟨g, (h1 : vs 1 = _), hg0, hg⟩ := hY 1 (by simp) (by simp)
      have h2 : vs 2 = .slice (some ⟨b, off, none⟩) procs.length pcap := hY 2 (by simp) (by simp)
      obtain ⟨a', c', y, ⟨hok, hv, hw⟩, hrow, hgr⟩ := app_objs0 procs g b off pcap x hg (HP.out.row.later (HGXL.out x hx)) (fun o ho => (HP.out.each o ho).later (HGXL.out x hx)) (by omega)
      clear hY
      unfold Gives
      simp only [actL, Act.put, List.getD_cons_zero, List.getD_cons_succ, List.setIfInBounds_toArray, List.set_cons_zero, List.set_cons_succ, h1, h2]
      go_simp
      exact ⟨hgr.mono (fun _ e => e.elim), row_base hrow hg0, fun j l _ _ h => YApp.grow hgr _ l h⟩
    case s4 =>
      intro vs x hx hY
      obtain ⟨⟨o0, o1, o2, o3⟩, o4, o5, o6⟩ := obj_cells (HBAD.out x hx)
      clear hY
      unfold Gives
      simp only [actL, Act.put, List.getD_cons_zero, List.getD_cons_succ, List.setIfInBounds_toArray, List.set_cons_zero, List.set_cons_succ]
      go_simp
      exact ⟨Mv.refl _ _, rfl, fun _ _ _ _ h => h⟩
    case s5 =>
      intro vs x hx hY
      have h4 : vs 4 = .agg #[.string xd.name, .slice z1 xd.params.length z2, .slice z3 xd.slots.length z4, .int .i64 16385, .int .i64 xd.stacks, .slice z5 xd.code.length z6, .slice xra xd.refs.length xrcap] := hY 4 (by simp) (by simp)
      clear hY
      unfold Gives
      simp only [actL, Act.put, List.getD_cons_zero, List.getD_cons_succ, List.setIfInBounds_toArray, List.set_cons_zero, List.set_cons_succ, h4]
      go_simp
      exact ⟨(Mv.refl _ _).alloc _, ⟨x.heap.size, rfl, HSXL.out x hx, heap_alloc_new x _⟩, fun j l _ _ h => YApp.grow ((Mv.refl _ _).alloc _) _ l h⟩
    case s6 =>
      intro vs x hx hY
      have h3 : ObjRow x (w8.heap.size) (vs 3) procs := hY 3 (by simp) (by simp)
      obtain ⟨g, (h5 : vs 5 = _), hg0, hg⟩ := hY 5 (by simp) (by simp)
      obtain ⟨a3, c3, h3e⟩ := row_slice h3
      rw [h3e] at h3
      have hs := HSXL.out x hx
      obtain ⟨a', c', y, ⟨hok, hv, hw⟩, hrow, hmv, -⟩ := app_objs _ procs [⟨{ xd with cells := 16385 }, .slice z1 xd.params.length z2, .slice z3 xd.slots.length z4, .slice z5 xd.code.length z6, .slice xra xd.refs.length xrcap⟩] g 0 1 _ x h3 (RowAt.ofBlock (l := [(⟨{ xd with cells := 16385 }, .slice z1 xd.params.length z2, .slice z3 xd.slots.length z4, .slice z5 xd.code.length z6, .slice xra xd.refs.length xrcap⟩ : ObjV)]) (fun _ => rfl) hg rfl (by simp)) (fun o ho => by simp at ho; subst ho; exact HBO.out.later (HGXL.out x hx)) hs (by simp; omega)
      simp only [List.length_cons, List.length_nil, Nat.zero_add] at hok hv hw hrow
      have hrl := rol_ok [0, 1, 2, 3, 4, 5, 6, 7, 8, 9, 10, 11, 12, 13, 14, 15] [[], [6], [], [6], [], [6]] 6 (by decide)
      have hkind := row_kind h3
      have hlt3 := h3.lt
      clear hY h3
      unfold Gives
      simp only [actL, Act.put, List.getD_cons_zero, List.getD_cons_succ, List.setIfInBounds_toArray, List.set_cons_zero, List.set_cons_succ, h3e, h5]
      go_simp
      exact ⟨hmv.mono (fun b e => .inl (hlt3 b e).1), hrow, fun j l hj hk h => by
        obtain ⟨r1, r3, r5, r6⟩ := hrl j hj hk
        exact YApp.keep hmv hkind _ l r1 r3 r5 r6 h⟩
    case s7 =>
      intro vs x hx hY
      have h0 : vs 0 = .agg #[.string d'.name, .slice y1 d'.params.length y2, .slice y3 d'.slots.length y4, .int .i64 d'.cells, .int .i64 d'.stacks, .slice y5 d'.code.length y6, .slice y7 d'.refs.length y8] := hY 0 (by simp) (by simp)
      have h6 : ObjRow x (w8.heap.size) (vs 6) (procs ++ [⟨{ xd with cells := 16385 }, .slice z1 xd.params.length z2, .slice z3 xd.slots.length z4, .slice z5 xd.code.length z6, .slice xra xd.refs.length xrcap⟩]) := hY 6 (by simp) (by simp)
      have hgx := HGXL.out x hx
      have hlk := link_any ⟨d', .slice y1 d'.params.length y2, .slice y3 d'.slots.length y4, .slice y5 d'.code.length y6, .slice y7 d'.refs.length y8⟩ (vs 6) (procs ++ [⟨{ xd with cells := 16385 }, .slice z1 xd.params.length z2, .slice z3 xd.slots.length z4, .slice z5 xd.code.length z6, .slice xra xd.refs.length xrcap⟩]) x (HT.out.later hgx) (HO.out.later hgx) (h6.objs (fun o ho => by
        rcases List.mem_append.1 ho with ho | ho
        · exact (HP.out.each o ho).later hgx
        · simp at ho; subst ho; exact HBO.out.later (HGXL.out x hx))) (few_all HFB.out (.inl rfl) (by simp; omega) (fun o ho => by
        rw [List.map_append] at ho
        rcases List.mem_append.1 ho with ho | ho
        · exact .inr ⟨o, ho, rfl, rfl⟩
        · simp at ho; rw [ho]; exact .inr ⟨xd, List.mem_map.2 ⟨_, HXM.out, rfl⟩, rfl, rfl⟩))
      have herr : (linkD d' ((procs ++ [(⟨{ xd with cells := 16385 }, .slice z1 xd.params.length z2, .slice z3 xd.slots.length z4, .slice z5 xd.code.length z6, .slice xra xd.refs.length xrcap⟩ : ObjV)]).map (·.d))).err = 3 := by rw [List.map_append]; exact HER.out.2.2.2.2
      simp only at hlk
      generalize linkD d' ((procs ++ [(⟨{ xd with cells := 16385 }, .slice z1 xd.params.length z2, .slice z3 xd.slots.length z4, .slice z5 xd.code.length z6, .slice xra xd.refs.length xrcap⟩ : ObjV)]).map (·.d)) = LL at hlk herr
      obtain ⟨lc, lm, ls, ly, le⟩ := LL
      simp only at herr
      subst herr
      have HLK := Lib.hid hlk
      clear hY hlk h6
      unfold Gives
      simp only [actL, Act.put, List.getD_cons_zero, List.getD_cons_succ, List.setIfInBounds_toArray, List.set_cons_zero, List.set_cons_succ, h0]
      go_simp
      refine HLK.out.mono ?_
      rintro e y ⟨cv, sv, rfl, hgr, hc, hs⟩
      obtain ⟨ca, cc, rfl, -⟩ := hc.form
      obtain ⟨sa, sc, rfl, -⟩ := hs.form
      exact ⟨_, rfl, hgr.mono (fun _ e => e.elim), ⟨_, _, _, _, _, _, _, _, rfl⟩, fun j l _ _ h => YApp.grow hgr _ l h⟩
    case s8 =>
      intro vs x hx hY
      obtain ⟨a1, n1, c1, m1, s1, a2, n2, c2, (h7 : vs 7 = _)⟩ := hY 7 (by simp) (by simp)
      clear hY
      unfold Gives
      simp only [actL, Act.put, List.getD_cons_zero, List.getD_cons_succ, List.setIfInBounds_toArray, List.set_cons_zero, List.set_cons_succ, h7]
      go_simp
      exact ⟨Mv.refl _ _, ⟨_, _, _, _, _, _, _, _, rfl⟩, fun _ _ _ _ h => h⟩
    case s9 =>
      intro vs x hx hY
      obtain ⟨a1, n1, c1, m1, s1, a2, n2, c2, (h8 : vs 8 = _)⟩ := hY 8 (by simp) (by simp)
      clear hY
      unfold Gives
      simp only [actL, Act.put, List.getD_cons_zero, List.getD_cons_succ, List.setIfInBounds_toArray, List.set_cons_zero, List.set_cons_succ, h8]
      go_simp
      exact ⟨Mv.refl _ _, ⟨_, _, _, _, _, rfl⟩, fun _ _ _ _ h => h⟩
    case s10 =>
      intro vs x hx hY
      obtain ⟨a1, n1, c1, m1, s1, a2, n2, c2, (h8 : vs 8 = _)⟩ := hY 8 (by simp) (by simp)
      clear hY
      unfold Gives
      simp only [actL, Act.put, List.getD_cons_zero, List.getD_cons_succ, List.setIfInBounds_toArray, List.set_cons_zero, List.set_cons_succ, h8]
      go_simp
      exact ⟨Mv.refl _ _, ⟨_, _, _, rfl⟩, fun _ _ _ _ h => h⟩
    case s11 =>
      intro vs x hx hY
      obtain ⟨a1, n1, c1, m1, s1, a2, n2, c2, (h8 : vs 8 = _)⟩ := hY 8 (by simp) (by simp)
      clear hY
      unfold Gives
      simp only [actL, Act.put, List.getD_cons_zero, List.getD_cons_succ, List.setIfInBounds_toArray, List.set_cons_zero, List.set_cons_succ, h8]
      go_simp
      exact ⟨Mv.refl _ _, rfl, fun _ _ _ _ h => h⟩
    case s12 =>
      intro vs x hx hY
      clear hY
      unfold Gives
      simp only [actL, Act.put, List.getD_cons_zero, List.getD_cons_succ, List.setIfInBounds_toArray, List.set_cons_zero, List.set_cons_succ]
      go_simp
      exact ⟨(Mv.refl _ _).alloc _, ⟨x.heap.size, _, _, _, rfl, HSXL.out x hx, heap_alloc_new x _⟩, fun j l _ _ h => YApp.grow ((Mv.refl _ _).alloc _) _ l h⟩
    case s13 =>
      intro vs x hx hY
      obtain ⟨g, i0, i1, i2, (h12 : vs 12 = _), hg0, hg⟩ := hY 12 (by simp) (by simp)
      obtain ⟨a1, n1, c1, m1, s1, (h9 : vs 9 = _)⟩ := hY 9 (by simp) (by simp)
      clear hY
      obtain ⟨g0, g1, g2, gz⟩ := img_cells hg
      obtain ⟨hY6, hmv6⟩ := set3 hg (.slice a1 n1 c1) (.int .i64 m1) (.int .i64 s1)
      unfold Gives
      simp only [actL, Act.put, List.getD_cons_zero, List.getD_cons_succ, List.setIfInBounds_toArray, List.set_cons_zero, List.set_cons_succ, h12, h9]
      go_simp
      exact ⟨hmv6.mono (fun b e => .inl (by omega)), trivial, fun j l _ _ h => YApp.img hmv6 hg hY6 _ l h⟩
    case s14 =>
      intro vs x hx hY
      obtain ⟨a1, n1, c1, (h10 : vs 10 = _)⟩ := hY 10 (by simp) (by simp)
      clear hY
      unfold Gives
      simp only [actL, Act.put, List.getD_cons_zero, List.getD_cons_succ, List.setIfInBounds_toArray, List.set_cons_zero, List.set_cons_succ, h10]
      go_simp
      exact ⟨Mv.refl _ _, ⟨_, _, _, rfl⟩, fun _ _ _ _ h => h⟩
    case s15 =>
      intro vs x hx hY
      have h11 : vs 11 = .int .i64 3 := hY 11 (by simp) (by simp)
      clear hY
      unfold Gives
      simp only [actL, Act.put, List.getD_cons_zero, List.getD_cons_succ, List.setIfInBounds_toArray, List.set_cons_zero, List.set_cons_succ, h11]
      go_simp
      exact ⟨Mv.refl _ _, rfl, fun _ _ _ _ h => h⟩
  case done =>
  intro vs w9 hx hY
  have h15 : vs 15 = .int .i64 3 := hY 15 (by decide) rfl
  have hgx := HGXL.out w9 hx
  have hbx := HBXL.out w9 hx
  clear hY
  simp only [List.length_cons, List.length_nil, Nat.zero_add, Nat.reduceAdd]
  rw [show List.range 16 = [0, 1, 2, 3, 4, 5, 6, 7, 8, 9, 10, 11, 12, 13, 14, 15] from rfl]
  simp only [actL, Act.put, List.getD_cons_zero, List.getD_cons_succ, List.setIfInBounds_toArray, List.set_cons_zero, List.set_cons_succ, h15]
  obtain ⟨⟨o0, o1, o2, o3⟩, o4, o5, o6⟩ := obj_cells (HBAD.out w9 hx)
  have hlb := lt_of_block (HBAD.out w9 hx)
  have HCK := Lib.hid (check_any ⟨{ xd with cells := 16385 }, .slice z1 xd.params.length z2, .slice z3 xd.slots.length z4, .slice z5 xd.code.length z6, .slice xra xd.refs.length xrcap⟩ w9 (HT.out.later hgx) (HBO.out.later hgx))
  rw [HER.out.2.2.2.1] at HCK
  have HG9 := Lib.hid hgx
  clear HSXL HGXL HBXL HBAD hx hG8 hB8' hM h15 hgx hbx
  go_wp2_with fail
  refine HCK.out.mono ?_
  rintro e w10 ⟨rfl, hg10⟩
  have HG10 := Lib.hid (Mv.trans HG9.out hg10 (fun _ e => e.elim))
  clear hg10
  go_wp2_with fail
  go_ret
  exact ⟨rfl, HG10.out⟩

end Go.Proofs.YtaabkaiifplhgaaDoor
