/- The law's plain, plains, same. -/
import Derived.Test.YtaabkaiifplhgaaDoorLRef1
import Derived.Test.YtaabkaiifplhgaaDoorLAwake
namespace Go.Proofs.YtaabkaiifplhgaaDoor
set_option linter.unusedSimpArgs false
set_option linter.unusedVariables false
open Go.RowKit Go.Instr

attribute [local go_sem ↓] run_appOp

/-- the state of plain's loop: wb is the world before it, X the block of what is made -/
structure PlnSt (X : Nat) (wb wr : World) (d' : ObjD) (y5 : Option Addr) (y6 : Nat) (rv : Value) (l : List RefD) : Prop where
  mv : Mv (fun b => b = X) wb wr
  out : wr.heap[X]? = some (.cells #[.string d'.name, .int .i64 d'.cells, .int .i64 d'.stacks, .slice y5 d'.code.length y6, rv] 48 (0, 0))
  row : RRefRow wr wb.heap.size rv l
theorem PlnSt.put {X : Nat} {wb wr w2 : World} {d' : ObjD} {y5 : Option Addr} {y6 : Nat} {rv v2 : Value} {l l2 : List RefD} (h : PlnSt X wb wr d' y5 y6 rv l) (hX : X < wb.heap.size) (hm : Mv (fun b => rv.ownBlock = some b) wr w2) (hrow : RRefRow w2 wb.heap.size v2 l2) : PlnSt X wb (w2.setCell ⟨X, 4, none⟩ v2) d' y5 y6 v2 l2 := by
  have hXr : X < wr.heap.size := Nat.lt_of_lt_of_le hX h.mv.size
  have hi2 : w2.heap[X]? = some (.cells #[.string d'.name, .int .i64 d'.cells, .int .i64 d'.stacks, .slice y5 d'.code.length y6, rv] 48 (0, 0)) := by
    rw [hm.block X hXr (fun e => by have := (h.row.lt X e).1; omega)]; exact h.out
  refine ⟨(h.mv.trans hm (fun x e => .inr (h.row.lt x e).1)).setCell (p := ⟨X, 4, none⟩) (.inl rfl) v2, ?_, ?_⟩
  · have := block_setCell (p := ⟨X, 4, none⟩) hi2 rfl v2
    simpa using this
  · exact row_keep hrow ((Mv.refl (fun b => b = X) w2).setCell (p := ⟨X, 4, none⟩) (.inl rfl) v2) (fun g hg e => by have := (hrow.lt g hg).1; omega)

theorem robj_cells {w : World} {X : Nat} {a b c d e : Value} {t : TypeId} (h : w.heap[X]? = some (.cells #[a, b, c, d, e] t (0, 0))) : ((w.cell? ⟨X, 0, none⟩ = some a ∧ w.cell? ⟨X, 1, none⟩ = some b ∧ w.cell? ⟨X, 2, none⟩ = some c) ∧ w.cell? ⟨X, 3, none⟩ = some d ∧ w.cell? ⟨X, 4, none⟩ = some e) ∧ ∀ i, w.frozen? ⟨X, i, none⟩ = false := by
  refine ⟨by simp [World.cell?, h], fun i => by simp [World.frozen?, h]⟩

set_option maxRecDepth 100000 in
set_option maxHeartbeats 8000000 in
theorem plain_any (o : ObjV) (w : World) (ho : ObjAt w o) (hrl : o.d.refs.length ≤ 100000) :
    Calls Tryd.prog 15 #[o.val] w fun e w' => ∃ r : RObjV, (e = .returned r.val ∧ r.d = o.d ∧ r.cv = o.cv) ∧ RowAt 2 RefD.cells w' r.rv r.d.refs ∧ (∀ g, r.rv.ownBlock = some g → w.heap.size ≤ g ∧ g < w'.heap.size) ∧ Grow w w' := by
  obtain ⟨y1, y2, y3, y4, y5, y6, y7, y8, ⟨hy1, hy2, hy3, hy4⟩, ⟨hccap, hclen⟩, hrcap, hrlen⟩ := ho.slices
  have HO := Lib.hid ho
  clear ho
  obtain ⟨d', qv, sv, cv, rv⟩ := o
  simp only at hy1 hy2 hy3 hy4 hrcap hrlen hccap hclen hrl
  subst hy1 hy2 hy3 hy4
  have HGB := Lib.hid (show Grow w (((w.alloc (.cells #[.string d'.name, .slice y1 d'.params.length y2, .slice y3 d'.slots.length y4, .int .i64 d'.cells, .int .i64 d'.stacks, .slice y5 d'.code.length y6, .slice y7 d'.refs.length y8] 31)).alloc (.cells #[.string ⟨#[]⟩, .int .i64 0, .int .i64 0, .slice none 0 0, .slice none 0 0] 48)).alloc (.cells #[.string d'.name, .int .i64 d'.cells, .int .i64 d'.stacks, .slice y5 d'.code.length y6, .slice none 0 0] 48)) from ((((Mv.refl _ _).alloc _).alloc _).alloc _))
  have HB0 := Lib.hid (alloc_keep (alloc_keep (heap_alloc_new w (.cells #[.string d'.name, .slice y1 d'.params.length y2, .slice y3 d'.slots.length y4, .int .i64 d'.cells, .int .i64 d'.stacks, .slice y5 d'.code.length y6, .slice y7 d'.refs.length y8] 31)) (.cells #[.string ⟨#[]⟩, .int .i64 0, .int .i64 0, .slice none 0 0, .slice none 0 0] 48)) (.cells #[.string d'.name, .int .i64 d'.cells, .int .i64 d'.stacks, .slice y5 d'.code.length y6, .slice none 0 0] 48))
  have hz := alloc_keep (heap_alloc_new (w.alloc (.cells #[.string d'.name, .slice y1 d'.params.length y2, .slice y3 d'.slots.length y4, .int .i64 d'.cells, .int .i64 d'.stacks, .slice y5 d'.code.length y6, .slice y7 d'.refs.length y8] 31)) (.cells #[.string ⟨#[]⟩, .int .i64 0, .int .i64 0, .slice none 0 0, .slice none 0 0] 48)) (.cells #[.string d'.name, .int .i64 d'.cells, .int .i64 d'.stacks, .slice y5 d'.code.length y6, .slice none 0 0] 48)
  have hx := heap_alloc_new ((w.alloc (.cells #[.string d'.name, .slice y1 d'.params.length y2, .slice y3 d'.slots.length y4, .int .i64 d'.cells, .int .i64 d'.stacks, .slice y5 d'.code.length y6, .slice y7 d'.refs.length y8] 31)).alloc (.cells #[.string ⟨#[]⟩, .int .i64 0, .int .i64 0, .slice none 0 0, .slice none 0 0] 48)) (.cells #[.string d'.name, .int .i64 d'.cells, .int .i64 d'.stacks, .slice y5 d'.code.length y6, .slice none 0 0] 48)
  simp only [World.size_alloc] at hz hx
  have HZ := Lib.hid hz
  have HX := Lib.hid hx
  have hsz : (((w.alloc (.cells #[.string d'.name, .slice y1 d'.params.length y2, .slice y3 d'.slots.length y4, .int .i64 d'.cells, .int .i64 d'.stacks, .slice y5 d'.code.length y6, .slice y7 d'.refs.length y8] 31)).alloc (.cells #[.string ⟨#[]⟩, .int .i64 0, .int .i64 0, .slice none 0 0, .slice none 0 0] 48)).alloc (.cells #[.string d'.name, .int .i64 d'.cells, .int .i64 d'.stacks, .slice y5 d'.code.length y6, .slice none 0 0] 48)).heap.size = w.heap.size + 1 + 1 + 1 := by simp
  clear hz hx
  go_enter Tryd.func15, Tryd.ntmps15
  go_wp2_with fail
  generalize (((w.alloc (.cells #[.string d'.name, .slice y1 d'.params.length y2, .slice y3 d'.slots.length y4, .int .i64 d'.cells, .int .i64 d'.stacks, .slice y5 d'.code.length y6, .slice y7 d'.refs.length y8] 31)).alloc (.cells #[.string ⟨#[]⟩, .int .i64 0, .int .i64 0, .slice none 0 0, .slice none 0 0] 48)).alloc (.cells #[.string d'.name, .int .i64 d'.cells, .int .i64 d'.stacks, .slice y5 d'.code.length y6, .slice none 0 0] 48)) = wb at *
  have hXl : w.heap.size + 1 + 1 < wb.heap.size := by omega
  have hBl : w.heap.size < wb.heap.size := by omega
  have hZl : w.heap.size + 1 < wb.heap.size := by omega
  clear hsz
  go_loopw [4] (fun t wr => ∃ (k : Nat) (rv : Value), t = .int .i64 k ∧ k ≤ d'.refs.length ∧ PlnSt (w.heap.size + 1 + 1) wb wr d' y5 y6 rv (d'.refs.take k)) (fun t _ => d'.refs.length - (intOf t).toNat)
  case atStart => exact ⟨0, .slice none 0 0, rfl, Nat.zero_le _, Mv.refl _ _, HX.out, World.ownsRow_nil _ _ _ _⟩
  obtain ⟨k, rv, rfl, hk, hst⟩ := hrel
  have HST := Lib.hid hst
  have hgw := HGB.out.trans hst.mv (fun x e => .inr (by omega))
  have hszr := hst.mv.size
  have htl : (d'.refs.take k).length = k := by simp; omega
  obtain ⟨na, nc, hrv⟩ := row_slice hst.row
  rw [htl] at hrv
  subst hrv
  have hbr : wr.heap[w.heap.size]? = some (.cells #[.string d'.name, .slice y1 d'.params.length y2, .slice y3 d'.slots.length y4, .int .i64 d'.cells, .int .i64 d'.stacks, .slice y5 d'.code.length y6, .slice y7 d'.refs.length y8] 31 (0, 0)) := by
    rw [hst.mv.block _ hBl (by omega)]; exact HB0.out
  obtain ⟨⟨o0, o1, o2, o3⟩, o4, o5, o6⟩ := obj_cells hbr
  obtain ⟨⟨⟨u0, u1, u2⟩, u3, u4⟩, uz⟩ := robj_cells hst.out
  have hlb := lt_of_block hbr
  have hlX := lt_of_block hst.out
  by_cases hlt : k < d'.refs.length
  · obtain ⟨b, off, cap', e, _, hcc⟩ := (HO.out.refs.later hgw).at hlt
    simp only [Value.slice.injEq, true_and] at e
    obtain ⟨rfl, rfl⟩ := e
    have c0 := hcc 0 _ rfl
    have c1 := hcc 1 _ rfl
    simp only [Nat.add_zero] at c0
    have hbl : b < wr.heap.size := World.block_lt_of_cell? wr _ c0
    have HTS := Lib.hid (show d'.refs.take (k + 1) = d'.refs.take k ++ [d'.refs[k]] from List.take_succ_eq_append_getElem hlt)
    generalize d'.refs[k] = r at *
    obtain ⟨ra, rs⟩ := r
    simp only at c0 c1
    have hrowd : RRefRow wr.drew wb.heap.size (.slice na k nc) (d'.refs.take k) := hst.row
    obtain ⟨a', c', w2, ⟨hok, hv, hw⟩, hrow2, hmv2, -⟩ := app_rref (.slice na k nc) ⟨ra, rs⟩ _ _ wr.drew hrowd hszr (by rw [htl]; omega)
    simp only [htl] at hok hv hw hrow2
    have hok2 : AppOK Tryd.prog 46 46 (.slice na k nc) (.slice (some ⟨wr.heap.size, 0, none⟩) 1 1) (wr.alloc (.cells #[.int .i64 ra, .string rs] 81)).drew := hok
    have hv2 : appV Tryd.prog 46 46 (.slice na k nc) (.slice (some ⟨wr.heap.size, 0, none⟩) 1 1) (wr.alloc (.cells #[.int .i64 ra, .string rs] 81)).drew = .slice a' (k + 1) c' := hv
    have hw2 : appW Tryd.prog 46 46 (.slice na k nc) (.slice (some ⟨wr.heap.size, 0, none⟩) 1 1) (wr.alloc (.cells #[.int .i64 ra, .string rs] 81)).drew = w2 := hw
    have hmv : Mv (fun b => (Value.slice na k nc).ownBlock = some b) wr w2 := (Mv.refl _ _).drew.trans hmv2 (fun _ e => .inl e)
    have HST2 := Lib.hid (hst.put hXl hmv hrow2)
    have hX2 : w2.heap[w.heap.size + 1 + 1]? = some (.cells #[.string d'.name, .int .i64 d'.cells, .int .i64 d'.stacks, .slice y5 d'.code.length y6, .slice na k nc] 48 (0, 0)) := by
      rw [hmv.block _ hlX (fun e => by have := (hst.row.lt _ e).1; omega)]; exact hst.out
    obtain ⟨⟨⟨s0, s1, s2⟩, s3, s4⟩, sz⟩ := robj_cells hX2
    clear hok hv hw hcc hst hrowd hrow2 hmv2 hmv hX2 hbr hgw
    go_wp2_with fail
    go_region
    go_wp2_with fail
    go_roundw
    case rel => exact ⟨k + 1, _, by go_num, by omega, by rw [HTS.out]; exact HST2.out⟩
    case measure => simp [intOf]; omega
  obtain rfl : k = d'.refs.length := by omega
  have hta : d'.refs.take d'.refs.length = d'.refs := List.take_length
  have hrow := hst.row
  rw [hta] at hrow
  have hZ9 : wr.heap[w.heap.size + 1]? = some (.cells #[.string ⟨#[]⟩, .int .i64 0, .int .i64 0, .slice none 0 0, .slice none 0 0] 48 (0, 0)) := by
    rw [hst.mv.block _ hZl (by omega)]; exact HZ.out
  obtain ⟨⟨⟨q0, q1, q2⟩, q3, q4⟩, qz⟩ := robj_cells hZ9
  obtain ⟨hY6, hmv6⟩ := set5 hZ9 (.string d'.name) (.int .i64 d'.cells) (.int .i64 d'.stacks) (.slice y5 d'.code.length y6) (.slice na d'.refs.length nc)
  have HRR := Lib.hid (rowAt_of_owns (f := RefD.cells) (n := 2) (fun _ => rfl) (row_keep hrow hmv6 (fun g hg e => by have := (hrow.lt g hg).1; omega)))
  have HGW := Lib.hid (hgw.trans hmv6 (fun x e => .inr (by omega)))
  have HON := Lib.hid (fun g (hg : (Value.slice na d'.refs.length nc).ownBlock = some g) => (show w.heap.size ≤ g ∧ g < _ from ⟨by have := (hrow.lt g hg).1; omega, Nat.lt_of_lt_of_le (hrow.lt g hg).2 hmv6.size⟩))
  have HY6 := Lib.hid hY6
  clear hst hrow hZ9 hY6 hmv6 hgw hbr
  go_wp2_with fail
  obtain ⟨⟨⟨k0, k1, k2⟩, k3, k4⟩, -⟩ := robj_cells HY6.out
  refine bodyPost_ret (v := .agg #[.string d'.name, .int .i64 d'.cells, .int .i64 d'.stacks, .slice y5 d'.code.length y6, .slice na d'.refs.length nc]) ?_ rfl ⟨⟨d', .slice y5 d'.code.length y6, .slice na d'.refs.length nc⟩, ⟨rfl, rfl, rfl⟩, HRR.out, HON.out, HGW.out⟩
  simp [results, Tryd.results15, go_sem, k0, k1, k2, k3, k4]

theorem RowAt.stay {α : Type} {n : Nat} {f : α → List Value} {w w' : World} {v : Value} {l : List α} {O : Nat → Prop} (h : RowAt n f w v l) (hm : Mv O w w') (hO : ∀ g, v.ownBlock = some g → ¬ O g) : RowAt n f w' v l := by
  obtain ⟨a, cap, rfl, h2, h3, h4⟩ := h
  refine ⟨a, cap, rfl, h2, h3, fun i x hx => ?_⟩
  obtain ⟨b, off, rfl, hc⟩ := h4 i x hx
  refine ⟨b, off, rfl, fun j u hu => ?_⟩
  have h5 := hc j u hu
  rw [← h5]
  exact World.cell?_of_block (w := w) (w' := w') (hm.block _ (World.block_lt_of_cell? w _ h5) (hO b (by simp [Value.ownBlock])))

/-- the state of plains' loop -/
structure PlsSt (w wr : World) (v : Value) (rs : List RObjV) (ds : List ObjD) : Prop where
  map : rs.map RObjV.d = ds
  row : RObjRow wr w.heap.size v rs
  each : ∀ o ∈ rs, RowAt 5 Ins.cells w o.cv o.d.code ∧ RowAt 2 RefD.cells wr o.rv o.d.refs ∧ ∀ g, o.rv.ownBlock = some g → v.ownBlock ≠ some g ∧ g < wr.heap.size
  g : Grow w wr

theorem PlsSt.app {w wr w2 : World} {v : Value} {rs : List RObjV} {ds : List ObjD} (h : PlsSt w wr v rs ds) (r : RObjV) (hg : Grow wr w2) (hr : RowAt 2 RefD.cells w2 r.rv r.d.refs) (hn : ∀ g, r.rv.ownBlock = some g → wr.heap.size ≤ g ∧ g < w2.heap.size) (hc : RowAt 5 Ins.cells w r.cv r.d.code) (hl : rs.length ≤ 1000000) :
    ∃ a' c' w3, (AppOK Tryd.prog 50 50 v (.slice (some ⟨w2.heap.size, 0, none⟩) 1 1) (w2.alloc (.cells #[.string r.d.name, .int .i64 r.d.cells, .int .i64 r.d.stacks, r.cv, r.rv] 48)) ∧
        appV Tryd.prog 50 50 v (.slice (some ⟨w2.heap.size, 0, none⟩) 1 1) (w2.alloc (.cells #[.string r.d.name, .int .i64 r.d.cells, .int .i64 r.d.stacks, r.cv, r.rv] 48)) = .slice a' (rs.length + 1) c' ∧ appW Tryd.prog 50 50 v (.slice (some ⟨w2.heap.size, 0, none⟩) 1 1) (w2.alloc (.cells #[.string r.d.name, .int .i64 r.d.cells, .int .i64 r.d.stacks, r.cv, r.rv] 48)) = w3) ∧
      PlsSt w w3 (.slice a' (rs.length + 1) c') (rs ++ [r]) (ds ++ [r.d]) := by
  have hgw : Grow w w2 := Mv.trans h.g hg (fun _ e => e.elim)
  obtain ⟨a', c', w3, hok, hrow3, hmv3, hnew3⟩ := app_robj v r rs w.heap.size w2 (row_keep h.row hg (fun _ _ e => e)) ⟨w2, hc.later hgw, hr⟩ hgw.size hl
  refine ⟨a', c', w3, hok, ⟨by rw [List.map_append, h.map]; rfl, hrow3, fun o ho => ?_, hgw.trans hmv3 (fun x e => .inr (h.row.lt x e).1)⟩⟩
  have hvl : ∀ g, v.ownBlock = some g → g < wr.heap.size := fun g hg => (h.row.lt g hg).2
  rcases List.mem_append.1 ho with ho | ho
  · obtain ⟨h1, h2, h3⟩ := h.each o ho
    refine ⟨h1, (h2.later hg).stay hmv3 (fun g hg' => (h3 g hg').1), fun g hg' => ⟨fun e => ?_, ?_⟩⟩
    · rcases hnew3 g e with h4 | h4
      · exact (h3 g hg').1 h4
      · have := (h3 g hg').2
        have := hg.size
        omega
    · have := (h3 g hg').2
      have := hg.size
      have := hmv3.size
      omega
  · simp at ho
    subst ho
    refine ⟨hc, hr.stay hmv3 (fun g hg' e => by have := (hn g hg').1; have := hvl g e; omega), fun g hg' => ⟨fun e => ?_, ?_⟩⟩
    · rcases hnew3 g e with h4 | h4
      · have := (hn g hg').1
        have := hvl g h4
        omega
      · have := (hn g hg').2
        omega
    · have := (hn g hg').2
      have := hmv3.size
      omega
theorem PlsSt.objs {w wr : World} {v : Value} {rs : List RObjV} {ds : List ObjD} (h : PlsSt w wr v rs ds) : RObjsAt wr v rs := ⟨rowAt_of_owns (fun _ => rfl) h.row, fun o ho => ⟨(h.each o ho).1.later h.g, (h.each o ho).2.1⟩⟩

theorem RObjRow.objs {w : World} {base : Nat} {v : Value} {l : List RObjV} (h : RObjRow w base v l) (he : ∀ o ∈ l, RObjAt w o) : RObjsAt w v l := ⟨rowAt_of_owns (fun _ => rfl) h, he⟩

set_option maxRecDepth 100000 in
set_option maxHeartbeats 8000000 in
theorem plains_any (pv : Value) (procs : List ObjV) (w : World) (hp : ObjsAt w pv procs) (hpl : procs.length ≤ 100000) (hrl : ∀ o ∈ procs, o.d.refs.length ≤ 100000) :
    Calls Tryd.prog 16 #[pv] w fun e w' => ∃ v rs, e = .returned v ∧ rs.map RObjV.d = procs.map (·.d) ∧ RObjsAt w' v rs ∧ Grow w w' := by
  obtain ⟨pa, pcap, rfl, hpcap, hplen⟩ := hp.row.form
  have HP := Lib.hid hp
  have HRL := Lib.hid hrl
  clear hp hrl
  go_enter Tryd.func16, Tryd.ntmps16
  go_wp2_with fail
  go_loopw [3, 4] (fun v t wr => ∃ (k : Nat) (rs : List RObjV), t = .int .i64 k ∧ k ≤ procs.length ∧ PlsSt w wr v rs ((procs.map (·.d)).take k)) (fun _ t _ => procs.length - (intOf t).toNat)
  case atStart => exact ⟨0, [], rfl, Nat.zero_le _, rfl, World.ownsRow_nil _ _ _ _, by simp, Mv.refl _ _⟩
  obtain ⟨k, rs, rfl, hk, hst⟩ := hrel
  have hsl : rs.length = k := by
    have := congrArg List.length hst.map
    simp at this; omega
  obtain ⟨va, vc, hv⟩ := row_slice hst.row
  rw [hsl] at hv
  subst hv
  have HST := Lib.hid hst
  have hszr := hst.g.size
  by_cases hlt : k < procs.length
  · obtain ⟨b, off, cap', e, _, hcc⟩ := (HP.out.row.later hst.g).at hlt
    simp only [Value.slice.injEq, true_and] at e
    obtain ⟨rfl, rfl⟩ := e
    have c0 := hcc 0 _ rfl
    have c1 := hcc 1 _ rfl
    have c2 := hcc 2 _ rfl
    have c3 := hcc 3 _ rfl
    have c4 := hcc 4 _ rfl
    have c5 := hcc 5 _ rfl
    have c6 := hcc 6 _ rfl
    simp only [Nat.add_zero] at c0
    have hbl : b < wr.heap.size := World.block_lt_of_cell? wr _ c0
    have hxo := HP.out.each procs[k] (List.getElem_mem hlt)
    have HXC := Lib.hid hxo.code
    have HPA := Lib.hid (plain_any procs[k] wr (hxo.later hst.g) (HRL.out _ (List.getElem_mem hlt)))
    have HTS := Lib.hid (show (procs.map (·.d)).take (k + 1) = (procs.map (·.d)).take k ++ [procs[k].d] from by
      rw [List.take_succ_eq_append_getElem (by simpa using hlt)]; simp)
    generalize procs[k] = x at *
    obtain ⟨z1, z2, z3, z4, z5, z6, xra, xrcap, ⟨hz1, hz2, hz3, hxrv⟩, -, -, -⟩ := hxo.slices
    obtain ⟨xd, xqv, xsv, xcv, xrv⟩ := x
    simp only at c0 c1 c2 c3 c4 c5 c6 hz1 hz2 hz3 hxrv
    subst hz1 hz2 hz3 hxrv
    clear hcc hxo hst
    go_wp2_with fail
    refine HPA.out.mono ?_
    rintro e w2 ⟨r, ⟨rfl, hrd, hrc⟩, hrr, hnew, hg2⟩
    obtain ⟨a', c', w3, ⟨hok, hv, hw⟩, hst3⟩ := HST.out.app r hg2 hrr hnew (by rw [hrd, hrc]; exact HXC.out) (by omega)
    rw [hrd, ← HTS.out] at hst3
    have HST3 := Lib.hid hst3
    obtain ⟨a3, c3', hr3, -⟩ := hrr.form
    obtain ⟨rd, rcv, rrv⟩ := r
    simp only at hrd hrc hr3 hok hv hw HST3
    subst hrd hrc hr3
    simp only [hsl] at hok hv hw HST3
    clear hst3 hrr hnew hg2
    go_wp2_with fail
    go_roundw
    case rel => exact ⟨k + 1, _, by go_num, by omega, HST3.out⟩
    case measure => simp [intOf]; omega
  obtain rfl : k = procs.length := by omega
  have hta : (procs.map (·.d)).take procs.length = procs.map (·.d) := List.take_of_length_le (by simp)
  rw [hta] at hst
  clear HST
  have HST := Lib.hid hst
  clear hst
  go_wp2_with fail
  go_ret
  exact ⟨_, rfl, rs, HST.out.map, HST.out.objs, HST.out.g⟩

set_option maxRecDepth 100000 in
set_option maxHeartbeats 8000000 in
/-- two images that hold the same -/
theorem same_eq (cv dv : Value) (code : List Ins) (mem stk : Int) (w : World) (h1 : RowAt 5 Ins.cells w cv code) (h2 : RowAt 5 Ins.cells w dv code) :
    Calls Tryd.prog 13 #[.agg #[cv, .int .i64 mem, .int .i64 stk], .agg #[dv, .int .i64 mem, .int .i64 stk]] w fun e w' => e = .returned (.int .i64 1) ∧ Grow w w' := by
  obtain ⟨a1, c1, rfl, hc1, hl1⟩ := h1.form
  obtain ⟨a2, c2, rfl, hc2, hl2⟩ := h2.form
  have H1 := Lib.hid h1
  have H2 := Lib.hid h2
  have HGB := Lib.hid (show Grow w ((w.alloc (.cells #[.slice a1 code.length c1, .int .i64 mem, .int .i64 stk] 36)).alloc (.cells #[.slice a2 code.length c2, .int .i64 mem, .int .i64 stk] 36)) from ((Mv.refl _ _).alloc _).alloc _)
  have hx := alloc_keep (heap_alloc_new w (.cells #[.slice a1 code.length c1, .int .i64 mem, .int .i64 stk] 36)) (.cells #[.slice a2 code.length c2, .int .i64 mem, .int .i64 stk] 36)
  have hy := heap_alloc_new (w.alloc (.cells #[.slice a1 code.length c1, .int .i64 mem, .int .i64 stk] 36)) (.cells #[.slice a2 code.length c2, .int .i64 mem, .int .i64 stk] 36)
  rw [World.size_alloc] at hy
  have HX := Lib.hid hx
  have HY := Lib.hid hy
  clear h1 h2 hx hy
  go_enter Tryd.func13, Tryd.ntmps13
  go_wp2_with fail
  generalize (w.alloc (.cells #[.slice a1 code.length c1, .int .i64 mem, .int .i64 stk] 36)).alloc (.cells #[.slice a2 code.length c2, .int .i64 mem, .int .i64 stk] 36) = w1 at *
  go_loopw [5] (fun t wr => ∃ k : Nat, t = .int .i64 k ∧ k ≤ code.length ∧ Grow w1 wr) (fun t _ => code.length - (intOf t).toNat)
  case atStart => exact ⟨0, rfl, Nat.zero_le _, Mv.refl _ _⟩
  obtain ⟨k, rfl, hk, hgr⟩ := hrel
  have HGR := Lib.hid hgr
  have hgw := Mv.trans HGB.out hgr (fun _ e => e.elim)
  have hX : wr.heap[w.heap.size]? = some (.cells #[.slice a1 code.length c1, .int .i64 mem, .int .i64 stk] 36 (0, 0)) := by
    rw [hgr.block _ (lt_of_block HX.out) (fun h => h)]; exact HX.out
  have hY : wr.heap[w.heap.size + 1]? = some (.cells #[.slice a2 code.length c2, .int .i64 mem, .int .i64 stk] 36 (0, 0)) := by
    rw [hgr.block _ (lt_of_block HY.out) (fun h => h)]; exact HY.out
  obtain ⟨x0, x1, x2, -⟩ := img_cells hX
  obtain ⟨u0, u1, u2, -⟩ := img_cells hY
  have hlx := lt_of_block hX
  have hly := lt_of_block hY
  by_cases hlt : k < code.length
  · obtain ⟨b, off, cap', e, _, _⟩ := (H1.out.later hgw).at hlt
    simp only [Value.slice.injEq, true_and] at e
    obtain ⟨rfl, rfl⟩ := e
    obtain ⟨b2, off2, cap2, e, _, _⟩ := (H2.out.later hgw).at hlt
    simp only [Value.slice.injEq, true_and] at e
    obtain ⟨rfl, rfl⟩ := e
    obtain ⟨⟨p0, p1, p2⟩, p3, p4, hbl⟩ := (H1.out.later hgw).ins hlt
    obtain ⟨⟨q0, q1, q2⟩, q3, q4, hbl2⟩ := (H2.out.later hgw).ins hlt
    generalize code[k] = x at *
    obtain ⟨xo, xa, xb, xc, xd⟩ := x
    simp only at p0 p1 p2 p3 p4 q0 q1 q2 q3 q4
    clear hX hY hgr hgw
    go_wp2_with fail
    go_region
    go_wp2_with fail
    go_roundw
    case rel => exact ⟨k + 1, by go_num, by omega, HGR.out.drew⟩
    case measure => simp [intOf]; omega
  · obtain rfl : k = code.length := by omega
    clear hX hY hgr
    have HGW := Lib.hid hgw
    clear hgw
    go_wp2_with fail
    go_ret
    exact ⟨rfl, HGW.out⟩

end Go.Proofs.YtaabkaiifplhgaaDoor
