/- LinkerMisses: the walk. -/
import Derived.Test.YtaabkaiifplhgaaDoorLAwake
import Derived.Test.YtaabkaiifplhgaaDoorRel
namespace Go.Proofs.YtaabkaiifplhgaaDoor
set_option linter.unusedSimpArgs false
set_option linter.unusedVariables false
open Go.RowKit Go.Instr

attribute [local go_sem ↓] run_appOp

section
variable {α : Type} {n : Nat} {f : α → List Value} {w : World} {b off cap : Nat} {l : List α}
theorem RowAt.take (h : RowAt n f w (.slice (some ⟨b, off, none⟩) l.length cap) l) (k : Nat) (hk : k ≤ l.length) : RowAt n f w (.slice (some ⟨b, off, none⟩) k cap) (l.take k) := by
  obtain ⟨a, c, e, h2, h3, h4⟩ := h
  simp only [Value.slice.injEq, true_and] at e
  obtain ⟨rfl, rfl⟩ := e
  refine ⟨_, cap, by rw [List.length_take, Nat.min_eq_left hk], by rw [List.length_take]; omega, by rw [List.length_take]; omega, fun i x hx => ?_⟩
  rw [List.getElem?_take] at hx
  split at hx
  · exact h4 i x hx
  · cases hx
theorem RowAt.drop (h : RowAt n f w (.slice (some ⟨b, off, none⟩) l.length cap) l) (k : Nat) (hk : k ≤ l.length) : RowAt n f w (.slice (some ⟨b, off + k * n, none⟩) (l.length - k) (cap - k)) (l.drop k) := by
  obtain ⟨a, c, e, h2, h3, h4⟩ := h
  simp only [Value.slice.injEq, true_and] at e
  obtain ⟨rfl, rfl⟩ := e
  refine ⟨_, cap - k, by rw [List.length_drop], by rw [List.length_drop]; omega, by rw [List.length_drop]; omega, fun i x hx => ?_⟩
  rw [List.getElem?_drop] at hx
  obtain ⟨b', off', e, hc⟩ := h4 (k + i) x hx
  simp only [Option.some.injEq, Addr.mk.injEq, and_true] at e
  obtain ⟨rfl, rfl⟩ := e
  refine ⟨b, off + k * n, rfl, fun j u hu => ?_⟩
  have := hc j u hu
  rw [show off + k * n + i * n + j = off + (k + i) * n + j by rw [Nat.add_mul]; omega]
  exact this
end

set_option maxRecDepth 100000 in
set_option maxHeartbeats 8000000 in
theorem misses_walk (o : ObjV) (pv : Value) (procs : List ObjV) (kk : Int) (w : World) (ht : TabOk w) (ho : ObjAt w o) (hp : ObjsAt w pv procs) (hk0 : 0 ≤ kk) (hk1 : kk ≤ 255) :
    Calls Tryd.prog 5 #[o.val, pv, .int .u8 kk] w fun e w' => e = .returned (.bool true) ∧ Grow w w' := by
  obtain ⟨pa, pcap, rfl, hpcap, hplen⟩ := hp.row.form
  obtain ⟨y1, y2, y3, y4, y5, y6, y7, y8, ⟨hy1, hy2, hy3, hy4⟩, -, -, -⟩ := ho.slices
  have HO := Lib.hid ho
  have HP := Lib.hid hp
  have HT := Lib.hid ht
  clear ho hp ht
  obtain ⟨d', qv, sv, cv, rv⟩ := o
  simp only at hy1 hy2 hy3 hy4
  subst hy1 hy2 hy3 hy4
  have hg0 : Grow w (w.alloc (.cells #[.string d'.name, .slice y1 d'.params.length y2, .slice y3 d'.slots.length y4, .int .i64 d'.cells, .int .i64 d'.stacks, .slice y5 d'.code.length y6, .slice y7 d'.refs.length y8] 31)) := (Mv.refl _ _).alloc _
  have hb0 := heap_alloc_new w (.cells #[.string d'.name, .slice y1 d'.params.length y2, .slice y3 d'.slots.length y4, .int .i64 d'.cells, .int .i64 d'.stacks, .slice y5 d'.code.length y6, .slice y7 d'.refs.length y8] 31)
  have HG0 := Lib.hid hg0
  have HB0 := Lib.hid hb0
  clear hg0 hb0
  go_enter Tryd.func5, Tryd.ntmps5
  go_wp2_with fail
  refine (awake_any _ (HT.out.later HG0.out)).mono ?_
  rintro e w1 ⟨rfl, hg1⟩
  have hb1 : w1.heap[w.heap.size]? = some (.cells #[.string d'.name, .slice y1 d'.params.length y2, .slice y3 d'.slots.length y4, .int .i64 d'.cells, .int .i64 d'.stacks, .slice y5 d'.code.length y6, .slice y7 d'.refs.length y8] 31 (0, 0)) := by
    rw [hg1.block _ (by simp) (fun h => h)]; exact HB0.out
  have HG1 := Lib.hid (Mv.trans HG0.out hg1 (fun _ e => e.elim))
  have HB1 := Lib.hid hb1
  obtain ⟨⟨o0, o1, o2, o3⟩, o4, o5, o6⟩ := obj_cells hb1
  have hl1 := lt_of_block hb1
  clear hg1 hb1 HG0 HB0
  go_wp2_with fail
  refine (few_any ⟨d', .slice y1 d'.params.length y2, .slice y3 d'.slots.length y4, .slice y5 d'.code.length y6, .slice y7 d'.refs.length y8⟩ _ procs _ (HO.out.later HG1.out) (HP.out.later HG1.out)).mono ?_
  rintro e w2 ⟨rfl, hg2⟩
  clear o0 o1 o2 o3 o4 o5 o6
  cases hfb : fewB d' (procs.map (·.d)) with
  | false =>
    have HG2 := Lib.hid (Mv.trans HG1.out hg2 (fun _ e => e.elim))
    simp only [hfb, oneB, Bool.false_eq_true, if_false]
    clear hg2
    go_wp2_with fail
    go_ret
    exact ⟨rfl, HG2.out⟩
  | true =>
  have HFB := Lib.hid hfb
  simp only [hfb, oneB, if_true]
  have hb2 : w2.heap[w.heap.size]? = some (.cells #[.string d'.name, .slice y1 d'.params.length y2, .slice y3 d'.slots.length y4, .int .i64 d'.cells, .int .i64 d'.stacks, .slice y5 d'.code.length y6, .slice y7 d'.refs.length y8] 31 (0, 0)) := by
    rw [hg2.block _ hl1 (fun h => h)]; exact HB1.out
  have HG2 := Lib.hid (Mv.trans HG1.out hg2 (fun _ e => e.elim))
  have HB2 := Lib.hid hb2
  obtain ⟨⟨o0, o1, o2, o3⟩, o4, o5, o6⟩ := obj_cells hb2
  have hl2 := lt_of_block hb2
  clear hg2 hb2 HG1 HB1 hl1 hfb
  by_cases hn : procs.length = 0
  · go_wp2_with fail
    go_ret
    exact ⟨rfl, HG2.out⟩
  have h8 := (few_split HFB.out).1
  rw [List.length_map] at h8
  go_wp2_with fail
  refine (link_any ⟨d', .slice y1 d'.params.length y2, .slice y3 d'.slots.length y4, .slice y5 d'.code.length y6, .slice y7 d'.refs.length y8⟩ _ procs _ (HT.out.later HG2.out) (HO.out.later HG2.out) (HP.out.later HG2.out) (few_self HFB.out)).mono ?_
  rintro e w3 ⟨cv3, sv3, rfl, hg3, hrc3, hrs3⟩
  obtain ⟨xa, xc, rfl, -⟩ := hrc3.form
  obtain ⟨xb, xe, rfl, -⟩ := hrs3.form
  have HLK := Lib.hid (show linkD d' (procs.map (·.d)) = linkD d' (procs.map (·.d)) from rfl)
  have HEP := Lib.hid (fun i hi h => miss_plain (main := d') (procs := procs.map (·.d)) i hi h)
  simp only
  generalize linkD d' (procs.map (·.d)) = L3 at *
  have hb3 : w3.heap[w.heap.size]? = some (.cells #[.string d'.name, .slice y1 d'.params.length y2, .slice y3 d'.slots.length y4, .int .i64 d'.cells, .int .i64 d'.stacks, .slice y5 d'.code.length y6, .slice y7 d'.refs.length y8] 31 (0, 0)) := by
    rw [hg3.block _ hl2 (fun h => h)]; exact HB2.out
  have HG3 := Lib.hid (Mv.trans HG2.out hg3 (fun _ e => e.elim))
  have HB3 := Lib.hid hb3
  clear hrc3 hrs3 o0 o1 o2 o3 o4 o5 o6 hg3 HG2 HB2 hl2 HLK
  obtain ⟨Lc, Lm, Ls, Ly, Le⟩ := L3
  simp only at HEP ⊢
  by_cases he : Le ≠ 0
  · have he2 : (Le != 0) = true := by simpa using he
    clear hb3
    go_wp2_with fail
    go_ret
    exact ⟨rfl, HG3.out.alloc _⟩
  obtain rfl : Le = 0 := by omega
  obtain ⟨m, rfl⟩ : ∃ m : Nat, kk = m := ⟨kk.toNat, by omega⟩
  have hi : m % procs.length < procs.length := Nat.mod_lt _ (by omega)
  have hrem : (m : Int).tmod (procs.length : Int) = ((m % procs.length : Nat) : Int) := (Int.ofNat_tmod m procs.length).symm
  generalize m % procs.length = i at *
  have hnz : ¬ ((procs.length : Int) = 0) := by omega
  obtain ⟨b, off, cap', e, _, hcc⟩ := (HP.out.row.later HG3.out).at hi
  simp only [Value.slice.injEq, true_and] at e
  obtain ⟨rfl, rfl⟩ := e
  have c0 := hcc 0 _ rfl
  have c1 := hcc 1 _ rfl
  have c2 := hcc 2 _ rfl
  have c3 := hcc 3 _ rfl
  have c4 := hcc 4 _ rfl
  have c5 := hcc 5 _ rfl
  have c6 := hcc 6 _ rfl
  simp only [Nat.add_zero] at c0
  have hbl : b < w3.heap.size := World.block_lt_of_cell? w3 _ c0
  have hxo := HP.out.each procs[i] (List.getElem_mem hi)
  have HXO := Lib.hid hxo
  have him : i < (procs.map (·.d)).length := by simpa using hi
  have hgd : (procs.map (·.d))[i] = procs[i].d := by simp
  have HER := Lib.hid (by have := HEP.out i him rfl; rw [hgd] at this; exact this)
  have HXM := Lib.hid (List.getElem_mem hi)
  generalize hx : procs[i] = x at HXM HER HXO hxo c0 c1 c2 c3 c4 c5 c6
  have HXE := Lib.hid hx
  obtain ⟨z1, z2, z3, z4, z5, z6, xra, xrcap, ⟨hz1, hz2, hz3, hxrv⟩, -, -, -⟩ := hxo.slices
  obtain ⟨xd, xqv, xsv, xcv, xrv⟩ := x
  simp only at c0 c1 c2 c3 c4 c5 c6 hz1 hz2 hz3 hxrv HER
  subst hz1 hz2 hz3 hxrv
  clear hcc hx hxo him hgd HEP hb3 c1 c2 c3 c4 c5 c6 HXM HXO
  have hrm : (procs.map (·.d)).take i ++ (procs.map (·.d)).drop (i + 1) = (procs.take i ++ procs.drop (i + 1)).map (·.d) := by rw [List.map_append, List.map_take, List.map_drop]
  rw [hrm] at HER
  have hG4 := HG3.out.alloc (.cells #[.slice xa Lc.length xc, .int .i64 Lm, .int .i64 Ls] 36)
  have hB4 := alloc_keep HB3.out (.cells #[.slice xa Lc.length xc, .int .i64 Lm, .int .i64 Ls] 36)
  have hb4 : b < (w3.alloc (.cells #[.slice xa Lc.length xc, .int .i64 Lm, .int .i64 Ls] 36)).heap.size := by simp; omega
  clear HG3 HB3 hbl c0
  go_wp2_with fail
  generalize w3.alloc (.cells #[.slice xa Lc.length xc, .int .i64 Lm, .int .i64 Ls] 36) = w4 at *
  have hG5 : Grow w (w4.alloc (.cells #[] 31)).drew := (hG4.alloc _).drew
  have hin : i ≤ procs.length := by omega
  have hlt : (procs.take i).length = i := by simp; omega
  have hld : (procs.drop (i + 1)).length = procs.length - (i + 1) := by simp
  have hrT := (HP.out.row.later hG5).take i hin
  obtain ⟨a5, c5, w5, ⟨hok5, hv5, hw5⟩, hrow5, hgr5⟩ := app_objs0 (procs.take i) w4.heap.size b off pcap (w4.alloc (.cells #[] 31)).drew (heap_alloc_new w4 _) (by rw [hlt]; exact hrT) (fun o ho => (HP.out.each o (List.mem_of_mem_take ho)).later hG5) (by omega)
  have hG5' := Mv.trans hG5 hgr5 (fun _ e => e.elim)
  obtain ⟨off', hif, hrD⟩ : ∃ off', (if pcap = i + 1 then some (⟨b, off, none⟩ : Addr) else some ⟨b, off + (i + 1) * 7, none⟩) = some ⟨b, off', none⟩ ∧ RowAt 7 ObjV.cells w5 (.slice (some ⟨b, off', none⟩) (procs.length - (i + 1)) (pcap - (i + 1))) (procs.drop (i + 1)) := by
    by_cases hcap : pcap = i + 1
    · have hnil : procs.drop (i + 1) = [] := List.drop_eq_nil_of_le (by omega)
      have h0 : procs.length - (i + 1) = 0 := by omega
      refine ⟨off, by simp [hcap], ?_⟩
      rw [hnil, h0]
      exact ⟨_, _, rfl, by simp, by simp, fun i x hx => by simp at hx⟩
    · exact ⟨_, by simp [hcap], (HP.out.row.later hG5').drop (i + 1) (by omega)⟩
  obtain ⟨a6, c6, w6, ⟨hok6, hv6, hw6⟩, hrow6, hmv6, -⟩ := app_objs _ (procs.take i) (procs.drop (i + 1)) b off' (pcap - (i + 1)) _ w5 hrow5 (by rw [hld]; exact hrD) (fun o ho => (HP.out.each o (List.mem_of_mem_drop ho)).later hG5') (by have := hgr5.size; simp at this; omega) (by omega)
  have HG6 := Lib.hid (hG5'.trans hmv6 (fun x e => .inr (by have := (hrow5.lt x e).1; have := hG4.size; omega)))
  have HB6 := Lib.hid (show w6.heap[w.heap.size]? = some (.cells #[.string d'.name, .slice y1 d'.params.length y2, .slice y3 d'.slots.length y4, .int .i64 d'.cells, .int .i64 d'.stacks, .slice y5 d'.code.length y6, .slice y7 d'.refs.length y8] 31 (0, 0)) from by
    have hl := lt_of_block hB4
    rw [hmv6.block _ (by have := hgr5.size; simp at this; omega) (fun e => by have := (hrow5.lt _ e).1; omega), hgr5.block _ (by simp; omega) (fun h => h), show (w4.alloc (.cells #[] 31)).drew.heap[w.heap.size]? = w4.heap[w.heap.size]? from Below.heap_alloc _ _ _ hl]; exact hB4)
  simp only [hlt, hld] at hok5 hv5 hw5 hok6 hv6 hw6 hrow6
  have HR6 := Lib.hid (ObjRow.objs hrow6 (fun o ho => (HP.out.each o (by
    rcases List.mem_append.1 ho with ho | ho
    · exact List.mem_of_mem_take ho
    · exact List.mem_of_mem_drop ho)).later HG6.out))
  have HFW := Lib.hid (few_sub (l := (procs.take i ++ procs.drop (i + 1)).map (·.d)) HFB.out (by simp; omega) (fun o ho => by
    obtain ⟨x, hx, rfl⟩ := List.mem_map.1 ho
    refine List.mem_map.2 ⟨x, ?_, rfl⟩
    rcases List.mem_append.1 hx with hx | hx
    · exact List.mem_of_mem_take hx
    · exact List.mem_of_mem_drop hx))
  clear hrow5 hrow6 hmv6 hgr5 hrT hrD hG5 hG5'
  have i1 : IntKind.i64.wrap ((i : Int) + 1) = (i : Int) + 1 := IntWalk.i64_in _ (by omega)
  go_region
  clear hok5 hv5 hw5 hok6 hv6 hw6 i1 hif hG4 hB4 hb4 hlt hld
  generalize hrs : procs.take i ++ procs.drop (i + 1) = rest at *
  obtain ⟨⟨o0, o1, o2, o3⟩, o4, o5, o6⟩ := obj_cells HB6.out
  have hl6 := lt_of_block HB6.out
  go_wp2_with fail
  refine (link_any ⟨d', .slice y1 d'.params.length y2, .slice y3 d'.slots.length y4, .slice y5 d'.code.length y6, .slice y7 d'.refs.length y8⟩ _ rest w6 (HT.out.later HG6.out) (HO.out.later HG6.out) HR6.out HFW.out).mono ?_
  rintro e w7 ⟨cv7, sv7, rfl, hg7, hc7, hs7⟩
  obtain ⟨qa, qb, rfl, -⟩ := hc7.form
  obtain ⟨qf, qg, rfl, -⟩ := hs7.form
  simp only
  generalize linkD d' (rest.map (·.d)) = L7 at *
  obtain ⟨qc, qm, qs, qy, qe⟩ := L7
  simp only at HER ⊢
  have hb7 : w7.heap[w.heap.size]? = some (.cells #[.string d'.name, .slice y1 d'.params.length y2, .slice y3 d'.slots.length y4, .int .i64 d'.cells, .int .i64 d'.stacks, .slice y5 d'.code.length y6, .slice y7 d'.refs.length y8] 31 (0, 0)) := by
    rw [hg7.block _ hl6 (fun h => h)]; exact HB6.out
  have HG7 := Lib.hid ((Mv.trans HG6.out hg7 (fun _ e => e.elim)).alloc (.cells #[.slice qa qc.length qb, .int .i64 qm, .int .i64 qs] 36))
  have HR7 := Lib.hid (HR6.out.later (hg7.alloc (.cells #[.slice qa qc.length qb, .int .i64 qm, .int .i64 qs] 36)))
  have hl7 := lt_of_block hb7
  clear hc7 hs7 hg7 o0 o1 o2 o3 o4 o5 o6
  obtain ⟨⟨o0, o1, o2, o3⟩, o4, o5, o6⟩ := obj_cells hb7
  clear hb7
  go_wp2_with fail
  refine (undefined_any ⟨d', .slice y1 d'.params.length y2, .slice y3 d'.slots.length y4, .slice y5 d'.code.length y6, .slice y7 d'.refs.length y8⟩ _ rest _ (HO.out.later HG7.out) HR7.out HFW.out.refs).mono ?_
  rintro e w8 ⟨uv, rfl, hrow8, hg8⟩
  have HG8 := Lib.hid (Mv.trans HG7.out hg8 (fun _ e => e.elim))
  clear hg8 o0 o1 o2 o3 o4 o5 o6
  simp only at hrow8
  obtain ⟨ua, uc, rfl, hucap, -⟩ := hrow8.form
  have hER := HER.out
  clear HER
  by_cases hU : undefL d'.refs (rest.map (·.d)) = []
  · obtain rfl := hER.1 hU
    have hU0 : (undefL d'.refs (rest.map (·.d))).length = 0 := by rw [hU]; rfl
    rw [hU0]
    clear hrow8 hER hucap
    go_wp2_with fail
    go_ret
    exact ⟨rfl, HG8.out⟩
  · obtain ⟨rfl, hU1⟩ := hER.2 hU
    rw [hU1] at hrow8 hucap ⊢
    obtain ⟨ub, uoff, uc', e, _, huc⟩ := hrow8.at (i := 0) (by simp)
    simp only [Value.slice.injEq, true_and] at e
    obtain ⟨rfl, rfl⟩ := e
    have u0 := huc 0 _ rfl
    simp only [Nat.zero_mul, Nat.add_zero, List.getElem_cons_zero, encStr_data] at u0
    have hub : ub < w8.heap.size := World.block_lt_of_cell? w8 _ u0
    have hcc := (HP.out.row.later HG8.out).at' hi
    have c0 := hcc 0 _ rfl
    rw [HXE.out] at c0
    simp only [Nat.add_zero] at c0
    have hbl8 : b < w8.heap.size := World.block_lt_of_cell? w8 _ c0
    simp only [List.length_cons, List.length_nil, Nat.zero_add] at hucap ⊢
    clear hcc huc hrow8 hER hU hU1
    go_wp2_with fail
    go_region
    go_wp2_with fail
    go_ret
    exact ⟨rfl, HG8.out.drew⟩

end Go.Proofs.YtaabkaiifplhgaaDoor
