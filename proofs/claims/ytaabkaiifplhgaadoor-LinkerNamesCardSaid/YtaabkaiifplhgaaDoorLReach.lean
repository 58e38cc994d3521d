/- linker.Reachable: the reachable procedures, copied. -/
import Derived.Test.YtaabkaiifplhgaaDoorLClone
import Derived.Test.YtaabkaiifplhgaaDoorLReachP
import Derived.Deep.LoopGhost
namespace Go.Proofs.YtaabkaiifplhgaaDoor
set_option linter.unusedSimpArgs false
set_option linter.unusedVariables false
open Go.RowKit Go.Instr

attribute [local go_sem ↓] run_appOp

theorem ObjAt.stay {w w' : World} {o : ObjV} {O : Nat → Prop} (h : ObjAt w o) (hm : Mv O w w') (hO : ∀ u ∈ o.cells, ∀ g, u.ownBlock = some g → ¬ O g) : ObjAt w' o :=
  ⟨h.ok, h.params.stay hm (hO _ (by simp [ObjV.cells])), h.slots.stay hm (hO _ (by simp [ObjV.cells])), h.code.stay hm (hO _ (by simp [ObjV.cells])), h.refs.stay hm (hO _ (by simp [ObjV.cells]))⟩

/-- the list that is handed back, on the way -/
structure RlSt (w wr : World) (v : Value) (L : List ObjV) : Prop where
  row : ObjRow wr w.heap.size v L
  each : ∀ o ∈ L, ObjAt wr o ∧ ∀ u ∈ o.cells, ∀ g, u.ownBlock = some g → v.ownBlock ≠ some g ∧ g < wr.heap.size
  g : Grow w wr
theorem RlSt.grow {w wr w2 : World} {v : Value} {L : List ObjV} (h : RlSt w wr v L) (hg : Grow wr w2) : RlSt w w2 v L :=
  ⟨row_keep h.row hg (fun _ _ e => e), fun o ho => ⟨(h.each o ho).1.later hg, fun u hu g hgu => ⟨((h.each o ho).2 u hu g hgu).1, Nat.lt_of_lt_of_le ((h.each o ho).2 u hu g hgu).2 hg.size⟩⟩, Mv.trans h.g hg (fun _ e => e.elim)⟩
theorem RlSt.app {w wr w2 : World} {v : Value} {L : List ObjV} (h : RlSt w wr v L) (r : ObjV) (hg : Grow wr w2) (hr : ObjAt w2 r) (hn : ∀ u ∈ r.cells, ∀ g, u.ownBlock = some g → wr.heap.size ≤ g ∧ g < w2.heap.size) (hl : L.length ≤ 100000) :
    ∃ a' c' w3, (AppOK Tryd.prog 32 32 v (.slice (some ⟨w2.heap.size, 0, none⟩) 1 1) (w2.alloc (.cells #[.string r.d.name, r.pv, r.sv, .int .i64 r.d.cells, .int .i64 r.d.stacks, r.cv, r.rv] 31)) ∧
        appV Tryd.prog 32 32 v (.slice (some ⟨w2.heap.size, 0, none⟩) 1 1) (w2.alloc (.cells #[.string r.d.name, r.pv, r.sv, .int .i64 r.d.cells, .int .i64 r.d.stacks, r.cv, r.rv] 31)) = .slice a' (L.length + 1) c' ∧ appW Tryd.prog 32 32 v (.slice (some ⟨w2.heap.size, 0, none⟩) 1 1) (w2.alloc (.cells #[.string r.d.name, r.pv, r.sv, .int .i64 r.d.cells, .int .i64 r.d.stacks, r.cv, r.rv] 31)) = w3) ∧
      RlSt w w3 (.slice a' (L.length + 1) c') (L ++ [r]) := by
  have hga : Grow w2 (w2.alloc (.cells #[.string r.d.name, r.pv, r.sv, .int .i64 r.d.cells, .int .i64 r.d.stacks, r.cv, r.rv] 31)) := (Mv.refl _ _).alloc _
  have hgw : Grow w (w2.alloc (.cells #[.string r.d.name, r.pv, r.sv, .int .i64 r.d.cells, .int .i64 r.d.stacks, r.cv, r.rv] 31)) := Mv.trans (Mv.trans h.g hg (fun _ e => e.elim)) hga (fun _ e => e.elim)
  have hrow2 : ObjRow (w2.alloc (.cells #[.string r.d.name, r.pv, r.sv, .int .i64 r.d.cells, .int .i64 r.d.stacks, r.cv, r.rv] 31)) w.heap.size v L := row_keep (row_keep h.row hg (fun _ _ e => e)) hga (fun _ _ e => e)
  obtain ⟨a', c', w3, hok, hrow3, hmv3, hnew3⟩ := app_objs v L [r] w2.heap.size 0 1 w.heap.size _ hrow2 (RowAt.ofBlock (l := [r]) (fun _ => rfl) (heap_alloc_new w2 _) rfl (by simp)) (fun o ho => by simp at ho; subst ho; exact hr.later hga) hgw.size (by simp; omega)
  have hsz : w2.heap.size < (w2.alloc (.cells #[.string r.d.name, r.pv, r.sv, .int .i64 r.d.cells, .int .i64 r.d.stacks, r.cv, r.rv] 31)).heap.size := by simp
  refine ⟨a', c', w3, by simpa using hok, ⟨by simpa using hrow3, fun o ho => ?_, hgw.trans hmv3 (fun x e => .inr (h.row.lt x e).1)⟩⟩
  have hvl : ∀ g, v.ownBlock = some g → g < wr.heap.size := fun g hg => (h.row.lt g hg).2
  simp only [List.length_cons, List.length_nil, Nat.zero_add] at hnew3
  generalize w2.alloc (.cells #[.string r.d.name, r.pv, r.sv, .int .i64 r.d.cells, .int .i64 r.d.stacks, r.cv, r.rv] 31) = wa at *
  rcases List.mem_append.1 ho with ho | ho
  · obtain ⟨h1, h2⟩ := h.each o ho
    refine ⟨((h1.later hg).later hga).stay hmv3 (fun u hu g hg' => (h2 u hu g hg').1), fun u hu g hg' => ⟨fun e => ?_, ?_⟩⟩
    · rcases hnew3 g e with h4 | h4
      · exact (h2 u hu g hg').1 h4
      · have := (h2 u hu g hg').2
        have := hg.size
        omega
    · have := (h2 u hu g hg').2
      have := hg.size
      have := hmv3.size
      omega
  · simp at ho
    subst ho
    refine ⟨(hr.later hga).stay hmv3 (fun u hu g hg' e => by have := (hn u hu g hg').1; have := hvl g e; omega), fun u hu g hg' => ⟨fun e => ?_, ?_⟩⟩
    · rcases hnew3 g e with h4 | h4
      · have := (hn u hu g hg').1
        have := hvl g h4
        omega
      · have := (hn u hu g hg').2
        omega
    · have := (hn u hu g hg').2
      have := hmv3.size
      omega

/-- what is handed back -/
def Reached (w : World) (D : List ObjD) (e : Ending) (w' : World) : Prop := ∃ v L, e = .returned v ∧ L.map ObjV.d = D ∧ ObjsAt w' v L ∧ Grow w w'

/-- main, or a procedure -/
def qobj (o : ObjV) (procs : List ObjV) : Option Nat → ObjV
  | none => o
  | some i => procs.getD i o
theorem qobj_refs {o : ObjV} {procs : List ObjV} {B : List Bool} (hl : B.length = procs.length) {q : Option Nat} (h : ActB B q) : refsOf o.d (procs.map (·.d)) q = (qobj o procs q).d.refs := by
  cases q with
  | none => rfl
  | some i =>
    have hi : i < procs.length := by rw [← hl]; exact (List.getElem?_eq_some_iff.1 h).1
    simp [refsOf, qobj, hi, List.getD]
theorem qobj_at {w : World} {o : ObjV} {pv : Value} {procs : List ObjV} (ho : ObjAt w o) (hp : ObjsAt w pv procs) (q : Option Nat) : ObjAt w (qobj o procs q) := by
  cases q with
  | none => exact ho
  | some i =>
    simp only [qobj, List.getD]
    cases h : procs[i]? with
    | none => exact ho
    | some x => exact hp.each x (List.mem_of_getElem? h)

/-- what waits and what is marked, in memory: since wm only new memory has turned -/
structure RSt (o : ObjV) (procs : List ObjV) (wm wr : World) (qv : Value) (Pd : Option Nat → Prop) (Q : List (Option Nat)) (B : List Bool) : Prop where
  bfs : Bfs o.d (procs.map (·.d)) Pd B
  q : QAt 7 ObjV.cells wr (wm.heap.size + 1) qv (Q.map (qobj o procs))
  bits : BitsAt wr wm.heap.size 4 B
  g : Grow wm wr

theorem Tryd.infoBool : (Tryd.prog.info? 4).map (fun i => (i.zero, i.size, i.bytes)) = some (some (.bool false), 1, 1) := by kernel_rfl
theorem run_bits (n : Nat) (w : World) (hn : n ≤ 1000000) : (Instr.makeSlice 85 (.int .i64 n) (.int .i64 n)).run Tryd.prog w = .ok (.slice (some ⟨w.heap.size, 0, none⟩) n n) (w.alloc (.cells (Array.replicate n (.bool false)) 4)) := by
  obtain ⟨i0, hi, hz0, hz1, hz2⟩ := info_parts Tryd.infoBool
  have := run_make (P := Tryd.prog) w 85 4 i0 _ Tryd.underlying85 hi hz0 .i64 .i64 n n (by omega) (Int.le_refl _) (by rw [hz2]; omega) (by omega)
  have hm : madeCells (Value.bool false).cells (n * i0.size) = Array.replicate n (.bool false) := by
    rw [hz1, Nat.mul_one]
    apply Array.ext
    · simp [madeCells]
    · intro j h1 h2
      simp [madeCells, Value.cells, Nat.mod_one]
  simp only [Int.toNat_natCast] at this
  rw [hm] at this
  exact this

set_option maxRecDepth 100000 in
set_option maxHeartbeats 16000000 in
theorem reach_any (o : ObjV) (pv : Value) (procs : List ObjV) (w : World) (ho : ObjAt w o) (hp : ObjsAt w pv procs) (hpl : procs.length ≤ 1000) (hsm : ∀ x ∈ procs, ObjSm x.d) :
    Calls Tryd.prog 19 #[o.val, pv] w (Reached w (reachL o.d (procs.map (·.d)))) := by
  obtain ⟨pa, pcap, rfl, hpcap, hplen⟩ := hp.row.form
  obtain ⟨y1, y2, y3, y4, y5, y6, y7, y8, ⟨hy1, hy2, hy3, hy4⟩, -, -, -⟩ := ho.slices
  have HO := Lib.hid ho
  have HP := Lib.hid hp
  have HSM := Lib.hid hsm
  clear ho hp hsm
  obtain ⟨d', qv0, sv0, cv0, rv0⟩ := o
  simp only at hy1 hy2 hy3 hy4
  subst hy1 hy2 hy3 hy4
  have HG1 := Lib.hid (show Grow w ((w.alloc (.cells #[.string d'.name, .slice y1 d'.params.length y2, .slice y3 d'.slots.length y4, .int .i64 d'.cells, .int .i64 d'.stacks, .slice y5 d'.code.length y6, .slice y7 d'.refs.length y8] 31)).alloc (.map #[] 0)) from ((Mv.refl _ _).alloc _).alloc _)
  have HM1 := Lib.hid (alloc_keep (heap_alloc_new w (.cells #[.string d'.name, .slice y1 d'.params.length y2, .slice y3 d'.slots.length y4, .int .i64 d'.cells, .int .i64 d'.stacks, .slice y5 d'.code.length y6, .slice y7 d'.refs.length y8] 31)) (.map #[] 0))
  have hmp := MapAt.new Value.string (w.alloc (.cells #[.string d'.name, .slice y1 d'.params.length y2, .slice y3 d'.slots.length y4, .int .i64 d'.cells, .int .i64 d'.stacks, .slice y5 d'.code.length y6, .slice y7 d'.refs.length y8] 31))
  rw [World.size_alloc] at hmp
  have HMP := Lib.hid hmp
  clear hmp
  have hmm := @run_makeMap Tryd.prog
  go_enter Tryd.func19, Tryd.ntmps19
  go_wp2_with fail
  clear hmm
  generalize (w.alloc (.cells #[.string d'.name, .slice y1 d'.params.length y2, .slice y3 d'.slots.length y4, .int .i64 d'.cells, .int .i64 d'.stacks, .slice y5 d'.code.length y6, .slice y7 d'.refs.length y8] 31)).alloc (.map #[] 0) = w1 at *
  go_loopw [23] (fun t wr => ∃ k : Nat, t = .int .i64 k ∧ k ≤ procs.length ∧ Mv (fun b => b = w.heap.size + 1) w1 wr ∧ MapAt Value.string wr (w.heap.size + 1) (firstTo (procs.map (·.d)) k)) (fun t _ => procs.length - (intOf t).toNat)
  case atStart => exact ⟨0, rfl, Nat.zero_le _, Mv.refl _ _, HMP.out⟩
  obtain ⟨k, rfl, hk, hg, hmp⟩ := hrel
  have HG := Lib.hid hg
  have HMQ := Lib.hid hmp
  have hgw : Grow w wr := HG1.out.trans hg (fun x e => .inr (by omega))
  have HGW := Lib.hid hgw
  clear hg hgw
  by_cases hlt : k < procs.length
  · obtain ⟨b, off, cap', e, _, hcc⟩ := (HP.out.row.later HGW.out).at hlt
    simp only [Value.slice.injEq, true_and] at e
    obtain ⟨rfl, rfl⟩ := e
    have c0 := hcc 0 _ rfl
    have c1 := hcc 1 _ rfl
    have c2 := hcc 2 _ rfl
    have c3 := hcc 3 _ rfl
    have c4 := hcc 4 _ rfl
    have c5 := hcc 5 _ rfl
    have c6 := hcc 6 _ rfl
    simp only [Nat.add_zero] at c0
    have hbl : b < wr.heap.size := World.block_lt_of_cell? wr _ c0
    have hxo := HP.out.each procs[k] (List.getElem_mem hlt)
    have HFS := Lib.hid (show firstTo (procs.map (·.d)) (k + 1) = if (mget (firstTo (procs.map (·.d)) k) procs[k].d.name).isSome then firstTo (procs.map (·.d)) k else mset procs[k].d.name (.int .i64 k) (firstTo (procs.map (·.d)) k) from by rw [firstTo_succ _ k (by simpa using hlt)]; simp)
    generalize procs[k] = x at HFS hxo c0 c1 c2 c3 c4 c5 c6
    obtain ⟨z1, z2, z3, z4, z5, z6, xra, xrcap, ⟨hz1, hz2, hz3, hxrv⟩, -, -, -⟩ := hxo.slices
    obtain ⟨xd, xqv, xsv, xcv, xrv⟩ := x
    simp only at c0 c1 c2 c3 c4 c5 c6 hz1 hz2 hz3 hxrv HFS
    subst hz1 hz2 hz3 hxrv
    have hmpa := hmp.keep (w' := wr.alloc (.cells #[.string xd.name, .slice z1 xd.params.length z2, .slice z3 xd.slots.length z4, .int .i64 xd.cells, .int .i64 xd.stacks, .slice z5 xd.code.length z6, .slice xra xd.refs.length xrcap] 31)) (Below.heap_alloc _ _ _ hmp.lt)
    obtain ⟨gj, hgj⟩ := firstTo_int (procs.map (·.d)) k (by simpa using hk) xd.name
    have hl := run_get_ok Tryd.strLaw Tryd.underlying68 xd.name (.int .i64 0) Tryd.zeroInt hmpa
    rw [hgj] at hl
    have HMPA := Lib.hid hmpa
    have HGA := Lib.hid (HG.out.alloc (.cells #[.string xd.name, .slice z1 xd.params.length z2, .slice z3 xd.slots.length z4, .int .i64 xd.cells, .int .i64 xd.stacks, .slice z5 xd.code.length z6, .slice xra xd.refs.length xrcap] 31))
    cases hq : (mget (firstTo (procs.map (·.d)) k) xd.name).isSome with
    | true =>
      rw [hq] at hl HFS
      clear hcc hxo hmp hmpa hgj hq
      go_wp2_with fail
      go_roundw
      case rel => exact ⟨k + 1, by go_num, by omega, HGA.out, by rw [HFS.out]; exact HMPA.out⟩
      case measure => simp [intOf]; omega
    | false =>
      rw [hq] at hl HFS
      obtain ⟨w6, hup, hmp6, hmv6⟩ := run_set Tryd.strLaw Tryd.underlying68 xd.name (.int .i64 k) hmpa
      have HMP6 := Lib.hid hmp6
      have HMV6 := Lib.hid (HGA.out.trans hmv6 (fun x e => .inl e))
      clear hcc hxo hmp hmpa hgj hq hmp6 hmv6
      go_wp2_with fail
      go_roundw
      case rel => exact ⟨k + 1, by go_num, by omega, HMV6.out, by rw [HFS.out]; exact HMP6.out⟩
      case measure => simp [intOf]; omega
  obtain rfl : k = procs.length := by omega
  obtain ⟨wm, rfl⟩ : ∃ wm : World, wm = wr := ⟨_, rfl⟩
  have hM : wm.heap[w.heap.size]? = some (.cells #[.string d'.name, .slice y1 d'.params.length y2, .slice y3 d'.slots.length y4, .int .i64 d'.cells, .int .i64 d'.stacks, .slice y5 d'.code.length y6, .slice y7 d'.refs.length y8] 31 (0, 0)) := by
    rw [HG.out.block _ (lt_of_block HM1.out) (by omega)]; exact HM1.out
  have hmR : w.heap.size + 1 < wm.heap.size := hmp.lt
  have HMK := Lib.hid hmp
  have hmk := run_bits procs.length wm (by omega)
  obtain ⟨⟨o0, o1, o2, o3⟩, o4, o5, o6⟩ := obj_cells hM
  have hlM := lt_of_block hM
  have HB0 := Lib.hid (show BitsAt ((wm.alloc (.cells (Array.replicate procs.length (.bool false)) 4)).alloc (.cells #[.string d'.name, .slice y1 d'.params.length y2, .slice y3 d'.slots.length y4, .int .i64 d'.cells, .int .i64 d'.stacks, .slice y5 d'.code.length y6, .slice y7 d'.refs.length y8] 31)) wm.heap.size 4 (List.replicate procs.length false) from by
    unfold BitsAt
    rw [show ((List.replicate procs.length false).map Value.bool).toArray = Array.replicate procs.length (.bool false) by simp]
    exact alloc_keep (heap_alloc_new wm _) _)
  have HQ0 := Lib.hid (show QAt 7 ObjV.cells ((wm.alloc (.cells (Array.replicate procs.length (.bool false)) 4)).alloc (.cells #[.string d'.name, .slice y1 d'.params.length y2, .slice y3 d'.slots.length y4, .int .i64 d'.cells, .int .i64 d'.stacks, .slice y5 d'.code.length y6, .slice y7 d'.refs.length y8] 31)) (wm.heap.size + 1) (.slice (some ⟨wm.heap.size + 1, 0, none⟩) 1 1) [⟨d', .slice y1 d'.params.length y2, .slice y3 d'.slots.length y4, .slice y5 d'.code.length y6, .slice y7 d'.refs.length y8⟩] from by
    have h := heap_alloc_new (wm.alloc (.cells (Array.replicate procs.length (.bool false)) 4)) (.cells #[.string d'.name, .slice y1 d'.params.length y2, .slice y3 d'.slots.length y4, .int .i64 d'.cells, .int .i64 d'.stacks, .slice y5 d'.code.length y6, .slice y7 d'.refs.length y8] 31)
    rw [World.size_alloc] at h
    exact QAt.one (fun _ => rfl) h rfl (Nat.le_refl _))
  have HGm := Lib.hid (show Grow wm ((wm.alloc (.cells (Array.replicate procs.length (.bool false)) 4)).alloc (.cells #[.string d'.name, .slice y1 d'.params.length y2, .slice y3 d'.slots.length y4, .int .i64 d'.cells, .int .i64 d'.stacks, .slice y5 d'.code.length y6, .slice y7 d'.refs.length y8] 31)) from ((Mv.refl _ _).alloc _).alloc _)
  clear hM hmp
  go_wp2_with fail
  generalize (wm.alloc (.cells (Array.replicate procs.length (.bool false)) 4)).alloc (.cells #[.string d'.name, .slice y1 d'.params.length y2, .slice y3 d'.slots.length y4, .int .i64 d'.cells, .int .i64 d'.stacks, .slice y5 d'.code.length y6, .slice y7 d'.refs.length y8] 31) = w3 at *
  clear o0 o1 o2 o3 o4 o5 o6 hmk
  go_loopg [11] (procs.length + 1) (fun g qv wr => ∃ (Q : List (Option Nat)) (B : List Bool), RSt ⟨d', .slice y1 d'.params.length y2, .slice y3 d'.slots.length y4, .slice y5 d'.code.length y6, .slice y7 d'.refs.length y8⟩ procs wm wr qv (· ∈ Q) Q B ∧ g = Q.length + (procs.length - cnt B) ∧ g ≤ procs.length + 1)
  case atStart =>
    refine ⟨[none], List.replicate procs.length false, ⟨?_, HQ0.out, HB0.out, HGm.out⟩, ?_, Nat.le_refl _⟩
    · have := Bfs.start d' (procs.map (·.d))
      rw [List.length_map] at this
      exact this.mono (fun q hq => by simp at hq; subst hq; trivial) (fun q hq => .inl (by simp; exact hq))
    · simp [cnt, List.countP_replicate]; omega
  case round =>
  obtain ⟨Q, B, hst, hgk, hgn⟩ := hrel
  have HST := Lib.hid hst
  have HBL := Lib.hid (show B.length = procs.length from by rw [hst.bfs.len, List.length_map])
  have HGK := Lib.hid hgk
  have HGw := Lib.hid (Mv.trans HGW.out hst.g (fun _ e => e.elim))
  obtain ⟨-, qb, qo, qc, hqv, ⟨hqb, hqbl⟩, hqc, -, -⟩ := hst.q
  rw [List.length_map] at hqv hqc
  have hwmr := hst.g.size
  subst hqv
  cases Q with
  | nil =>
    have HRI := Lib.hid (fun j => reach_iff hst.bfs.sound ((hst.bfs.mono (Pd' := fun _ => False) (fun q hq => hq.elim) (fun q hq => by simp at hq)).done) j)
    have HBT := Lib.hid hst.bits
    have hbbl := lt_of_block hst.bits
    clear hst hgk
    rw [List.length_nil]
    obtain ⟨wf, rfl⟩ : ∃ wf : World, wf = wr := ⟨_, rfl⟩
    go_wp2_with fail
    go_loopw [17, 91] (fun lv t wr => ∃ (k : Nat) (L : List ObjV), t = .int .i64 k ∧ k ≤ procs.length ∧ L.map ObjV.d = (reachTo d' (procs.map (·.d)) k).filterMap ((procs.map (·.d))[·]?) ∧ L.length ≤ k ∧ RlSt wf wr lv L) (fun _ t _ => procs.length - (intOf t).toNat)
    case atStart => exact ⟨0, [], rfl, Nat.zero_le _, by simp [reachTo], Nat.le_refl _, World.ownsRow_nil _ _ _ _, fun o ho => by simp at ho, Mv.refl _ _⟩
    obtain ⟨k, L, rfl, hk, hL, hLk, hrl⟩ := hrel
    have HL := Lib.hid hL
    have HRL := Lib.hid hrl
    have HGz := Lib.hid (Mv.trans HGw.out hrl.g (fun _ e => e.elim))
    have hbtr := HBT.out.keep (w' := wr) (hrl.g.block _ hbbl (fun h => h))
    have hszr := hrl.g.size
    have hbbr : wm.heap.size < wr.heap.size := Nat.lt_of_lt_of_le hbbl hszr
    obtain ⟨la, lc, hlv⟩ := row_slice hrl.row
    subst hlv
    clear hL
    by_cases hlt : k < procs.length
    · obtain ⟨b, off, cap', e, _, hcc⟩ := (HP.out.row.later HGz.out).at hlt
      simp only [Value.slice.injEq, true_and] at e
      obtain ⟨rfl, rfl⟩ := e
      have c0 := hcc 0 _ rfl
      have c1 := hcc 1 _ rfl
      have c2 := hcc 2 _ rfl
      have c3 := hcc 3 _ rfl
      have c4 := hcc 4 _ rfl
      have c5 := hcc 5 _ rfl
      have c6 := hcc 6 _ rfl
      simp only [Nat.add_zero] at c0
      have hbl : b < wr.heap.size := World.block_lt_of_cell? wr _ c0
      have hxo := HP.out.each procs[k] (List.getElem_mem hlt)
      have hxs := HSM.out procs[k] (List.getElem_mem hlt)
      have HFS := Lib.hid (show (reachTo d' (procs.map (·.d)) (k + 1)).filterMap ((procs.map (·.d))[·]?) = (reachTo d' (procs.map (·.d)) k).filterMap ((procs.map (·.d))[·]?) ++ if reachB d' (procs.map (·.d)) k then [procs[k].d] else [] from by
        rw [reachTo_succ, List.filterMap_append]
        congr 1
        split
        · simp [hlt]
        · simp)
      generalize procs[k] = x at HFS hxo hxs c0 c1 c2 c3 c4 c5 c6
      obtain ⟨z1, z2, z3, z4, z5, z6, xra, xrcap, ⟨hz1, hz2, hz3, hxrv⟩, -, -, -⟩ := hxo.slices
      obtain ⟨xd, xqv, xsv, xcv, xrv⟩ := x
      simp only at c0 c1 c2 c3 c4 c5 c6 hz1 hz2 hz3 hxrv HFS hxs
      subst hz1 hz2 hz3 hxrv
      have hkB : k < B.length := by rw [HBL.out]; exact hlt
      have hbk := hbtr.cell hkB
      have HRB := Lib.hid (show reachB d' (procs.map (·.d)) k = B[k] from by
        have h1 := HRI.out k
        rw [List.getElem?_eq_getElem hkB] at h1
        cases hb : B[k] with
        | true => rw [hb] at h1; exact reachB_iff.2 (h1.1 rfl)
        | false =>
          rw [hb] at h1
          cases hr : reachB d' (procs.map (·.d)) k with
          | false => rfl
          | true => have := h1.2 (reachB_iff.1 hr); simp at this)
      have HGA := Lib.hid (hrl.grow ((Mv.refl _ _).alloc (.cells #[.string xd.name, .slice z1 xd.params.length z2, .slice z3 xd.slots.length z4, .int .i64 xd.cells, .int .i64 xd.stacks, .slice z5 xd.code.length z6, .slice xra xd.refs.length xrcap] 31)))
      have hga : Grow w (wr.alloc (.cells #[.string xd.name, .slice z1 xd.params.length z2, .slice z3 xd.slots.length z4, .int .i64 xd.cells, .int .i64 xd.stacks, .slice z5 xd.code.length z6, .slice xra xd.refs.length xrcap] 31)) := HGz.out.alloc _
      have HCL := Lib.hid (lclone_any ⟨xd, .slice z1 xd.params.length z2, .slice z3 xd.slots.length z4, .slice z5 xd.code.length z6, .slice xra xd.refs.length xrcap⟩ (wr.alloc (.cells #[.string xd.name, .slice z1 xd.params.length z2, .slice z3 xd.slots.length z4, .int .i64 xd.cells, .int .i64 xd.stacks, .slice z5 xd.code.length z6, .slice xra xd.refs.length xrcap] 31)) (hxo.later hga) hxs)
      cases hb : B[k] with
      | false =>
        rw [hb] at hbk HRB
        clear hcc hxo hxs hbtr hrl hga hb
        go_wp2_with fail
        go_roundw
        case rel => exact ⟨k + 1, L, by go_num, by omega, by rw [HFS.out, HRB.out, HL.out]; simp, by omega, HGA.out⟩
        case measure => simp [intOf]; omega
      | true =>
        rw [hb] at hbk HRB
        clear hcc hxo hxs hbtr hrl hga hb
        go_wp2_with fail
        refine HCL.out.mono ?_
        rintro e w5 ⟨o', ⟨rfl, hod⟩, hoa, hon, hg5⟩
        obtain ⟨a', c', w6, ⟨hok, hv, hw⟩, hrl6⟩ := HGA.out.app o' hg5 hoa hon (by omega)
        have HR6 := Lib.hid hrl6
        have HOD := Lib.hid hod
        obtain ⟨v1, v2, v3, v4, v5, v6, v7, v8, ⟨hv1, hv2, hv3, hv4⟩, -, -, -⟩ := hoa.slices
        obtain ⟨yd, yqv, ysv, ycv, yrv⟩ := o'
        simp only at hv1 hv2 hv3 hv4 hok hv hw HOD
        subst hv1 hv2 hv3 hv4
        clear hod hoa hon hg5 hrl6 c0 c1 c2 c3 c4 c5 c6 hbk
        go_wp2_with fail
        go_roundw
        case rel => exact ⟨k + 1, _, by go_num, by omega, by rw [HFS.out, HRB.out, List.map_append, HL.out, List.map_cons, List.map_nil, ← HOD.out]; simp, by simp; omega, HR6.out⟩
        case measure => simp [intOf]; omega
    obtain rfl : k = procs.length := by omega
    have HOB := Lib.hid (show ObjsAt wr (.slice la L.length lc) L from ⟨rowAt_of_owns (fun _ => rfl) hrl.row, fun o ho => (hrl.each o ho).1⟩)
    have HRE := Lib.hid (show L.map ObjV.d = reachL d' (procs.map (·.d)) from by
      rw [HL.out]; unfold reachL reachIx; rw [List.length_map])
    clear hbtr hrl
    go_wp2_with fail
    go_ret
    exact ⟨_, L, rfl, HRE.out, HOB.out, HGz.out⟩
  | cons x r =>
  rw [List.length_cons] at hqc
  have hst2 := hst.q
  rw [List.map_cons] at hst2
  have hcc := hst2.1.at' (i := 0) (by simp)
  simp only [Nat.zero_mul, Nat.add_zero, List.getElem_cons_zero] at hcc
  have c0 := hcc 0 _ rfl
  have c1 := hcc 1 _ rfl
  have c2 := hcc 2 _ rfl
  have c3 := hcc 3 _ rfl
  have c4 := hcc 4 _ rfl
  have c5 := hcc 5 _ rfl
  have c6 := hcc 6 _ rfl
  simp only [Nat.add_zero] at c0
  have hpop := QAt.pop (b := qb) (off := qo) (cap := qc) (l := r.map (qobj ⟨d', .slice y1 d'.params.length y2, .slice y3 d'.slots.length y4, .slice y5 d'.code.length y6, .slice y7 d'.refs.length y8⟩ procs)) (x := qobj ⟨d', .slice y1 d'.params.length y2, .slice y3 d'.slots.length y4, .slice y5 d'.code.length y6, .slice y7 d'.refs.length y8⟩ procs x) (by simpa using hst2)
  rw [List.length_map] at hpop
  obtain ⟨qo', hif, hpop2⟩ : ∃ qo', (if qc = 1 then some (⟨qb, qo, none⟩ : Addr) else some ⟨qb, qo + 7, none⟩) = some ⟨qb, qo', none⟩ ∧ QAt 7 ObjV.cells wr (wm.heap.size + 1) (.slice (some ⟨qb, qo', none⟩) r.length (qc - 1)) (r.map (qobj ⟨d', .slice y1 d'.params.length y2, .slice y3 d'.slots.length y4, .slice y5 d'.code.length y6, .slice y7 d'.refs.length y8⟩ procs)) := by
    by_cases h1 : qc = 1
    · simp only [if_pos h1] at hpop ⊢; exact ⟨qo, rfl, hpop⟩
    · simp only [if_neg h1] at hpop ⊢; exact ⟨qo + 7, rfl, hpop⟩
  have HPOP := Lib.hid hpop2
  have hact := hst.bfs.act x (by simp)
  have HXR := Lib.hid (qobj_refs HBL.out hact (o := ⟨d', .slice y1 d'.params.length y2, .slice y3 d'.slots.length y4, .slice y5 d'.code.length y6, .slice y7 d'.refs.length y8⟩))
  have hxo := qobj_at HO.out HP.out x
  generalize qobj ⟨d', .slice y1 d'.params.length y2, .slice y3 d'.slots.length y4, .slice y5 d'.code.length y6, .slice y7 d'.refs.length y8⟩ procs x = ov at HXR hxo c0 c1 c2 c3 c4 c5 c6
  obtain ⟨z1, z2, z3, z4, z5, z6, xra, xrcap, ⟨hz1, hz2, hz3, hxrv⟩, -, hxrc, hxrl⟩ := hxo.slices
  obtain ⟨xd, xqv, xsv, xcv, xrv⟩ := ov
  simp only at c0 c1 c2 c3 c4 c5 c6 hz1 hz2 hz3 hxrv HXR hxrc hxrl
  subst hz1 hz2 hz3 hxrv
  have HXRW := Lib.hid hxo.refs
  have HACT := Lib.hid hact
  have HSI := Lib.hid (show RSt ⟨d', .slice y1 d'.params.length y2, .slice y3 d'.slots.length y4, .slice y5 d'.code.length y6, .slice y7 d'.refs.length y8⟩ procs wm (wr.alloc (.cells #[.string xd.name, .slice z1 xd.params.length z2, .slice z3 xd.slots.length z4, .int .i64 xd.cells, .int .i64 xd.stacks, .slice z5 xd.code.length z6, .slice xra xd.refs.length xrcap] 31)) (.slice (some ⟨qb, qo', none⟩) r.length (qc - 1)) (fun q => q ∈ r ∨ q = x) r B from
    ⟨HST.out.bfs.mono (fun q hq => HST.out.bfs.act q (by rcases hq with hq | rfl; exact List.mem_cons_of_mem _ hq; exact List.mem_cons_self)) (fun q hq => .inl (by rcases List.mem_cons.1 hq with rfl | hq; exact .inr rfl; exact .inl hq)),
      HPOP.out.keep (O := fun _ => False) ((Mv.refl _ _).alloc _) (fun _ _ e => e), HST.out.bits.keep (Below.heap_alloc _ _ _ (lt_of_block HST.out.bits)), HST.out.g.alloc _⟩)
  clear hcc hst2 hpop hpop2 hxo hst hgk hact
  rw [List.length_cons]
  go_wp2_with fail
  clear c0 c1 c2 c3 c4 c5 c6 hif
  generalize wr.alloc (.cells #[.string xd.name, .slice z1 xd.params.length z2, .slice z3 xd.slots.length z4, .int .i64 xd.cells, .int .i64 xd.stacks, .slice z5 xd.code.length z6, .slice xra xd.refs.length xrcap] 31) = wi at *
  go_loopw [11, 59] (fun qv t wr => ∃ (k : Nat) (Q' : List (Option Nat)) (B' : List Bool), t = .int .i64 k ∧ k ≤ xd.refs.length ∧ RSt ⟨d', .slice y1 d'.params.length y2, .slice y3 d'.slots.length y4, .slice y5 d'.code.length y6, .slice y7 d'.refs.length y8⟩ procs wm wr qv (fun q => q ∈ Q' ∨ q = x) Q' B' ∧ (∀ j, Edge (procs.map (·.d)) (xd.refs.take k) j → B'[j]? = some true) ∧ Q'.length + (procs.length - cnt B') ≤ r.length + (procs.length - cnt B)) (fun _ t _ => xd.refs.length - (intOf t).toNat)
  case atStart => exact ⟨0, r, B, rfl, Nat.zero_le _, HSI.out, fun j hj => by obtain ⟨r, hr, _⟩ := hj; simp at hr, Nat.le_refl _⟩
  obtain ⟨k, Q', B', rfl, hk, hst, hed, hms⟩ := hrel
  have HS := Lib.hid hst
  have HED := Lib.hid hed
  have HMS := Lib.hid hms
  have HBL' := Lib.hid (show B'.length = procs.length from by rw [hst.bfs.len, List.length_map])
  have HGi := Lib.hid (Mv.trans HGW.out hst.g (fun _ e => e.elim))
  have HQL := Lib.hid (show Q'.length ≤ procs.length + 1 from by have := HGK.out; rw [List.length_cons] at this; omega)
  obtain ⟨-, pb, po, pc, hqv, ⟨hpb, hpbl⟩, hpc, -, -⟩ := hst.q
  rw [List.length_map] at hqv hpc
  have hwmi := hst.g.size
  have hbbl := lt_of_block hst.bits
  have hbth := hst.bits.thaw
  subst hqv
  clear hed hms
  by_cases hlt : k < xd.refs.length
  · obtain ⟨b, off, cap', e, _, hcc⟩ := (HXRW.out.later HGi.out).at hlt
    simp only [Value.slice.injEq, true_and] at e
    obtain ⟨rfl, rfl⟩ := e
    have e0 := hcc 0 _ rfl
    have e1 := hcc 1 _ rfl
    simp only [Nat.add_zero] at e0
    have hbl : b < wr.heap.size := World.block_lt_of_cell? wr _ e0
    have HTS := Lib.hid (show xd.refs.take (k + 1) = xd.refs.take k ++ [xd.refs[k]] from List.take_succ_eq_append_getElem hlt)
    have HIN := Lib.hid (List.getElem_mem hlt)
    generalize xd.refs[k] = rr at HTS HIN e0 e1
    obtain ⟨ra, rs⟩ := rr
    simp only at e0 e1
    have hmpi := (HMK.out.keep (w' := wr) (hst.g.block _ hmR (fun h => h))).keep (w' := wr.alloc (.cells #[.int .i64 ra, .string rs] 66)) (Below.heap_alloc _ _ _ (by omega))
    have hl := run_get_ok Tryd.strLaw Tryd.underlying68 rs (.int .i64 0) Tryd.zeroInt hmpi
    have hfg := firstTo_get (procs.map (·.d)) rs
    rw [List.length_map] at hfg
    rw [hfg] at hl
    have HGA := Lib.hid (show RSt ⟨d', .slice y1 d'.params.length y2, .slice y3 d'.slots.length y4, .slice y5 d'.code.length y6, .slice y7 d'.refs.length y8⟩ procs wm (wr.alloc (.cells #[.int .i64 ra, .string rs] 66)) (.slice (some ⟨pb, po, none⟩) Q'.length pc) (fun q => q ∈ Q' ∨ q = x) Q' B' from
      ⟨hst.bfs, hst.q.keep (O := fun _ => False) ((Mv.refl _ _).alloc _) (fun _ _ e => e), hst.bits.keep (Below.heap_alloc _ _ _ (lt_of_block hst.bits)), hst.g.alloc _⟩)
    by_cases hf : 0 ≤ findI (procs.map (·.d)) rs
    · obtain ⟨j, hj⟩ : ∃ j : Nat, findI (procs.map (·.d)) rs = j := ⟨(findI (procs.map (·.d)) rs).toNat, by omega⟩
      obtain ⟨hjl, -⟩ := findI_at hj
      rw [List.length_map] at hjl
      rw [if_pos hf, hj] at hl
      simp only [Option.getD_some, Option.isSome_some] at hl
      have hbj := hst.bits.cell (j := j) (by rw [HBL'.out]; exact hjl)
      cases hb : B'[j]'(by rw [HBL'.out]; exact hjl) with
      | true =>
        rw [hb] at hbj
        have HED2 := Lib.hid (show ∀ j', Edge (procs.map (·.d)) (xd.refs.take (k + 1)) j' → B'[j']? = some true from fun j' ⟨r', hr', hf'⟩ => by
          rw [HTS.out] at hr'
          rcases List.mem_append.1 hr' with hr' | hr'
          · exact HED.out j' ⟨r', hr', hf'⟩
          · simp at hr'
            subst hr'
            simp only at hf'
            rw [hj] at hf'
            obtain rfl : j = j' := by omega
            rw [List.getElem?_eq_getElem (by rw [HBL'.out]; exact hjl), hb])
        clear hcc hst hmpi hfg hf hj hb
        go_wp2_with fail
        go_roundw
        case rel => exact ⟨k + 1, Q', B', by go_num, by omega, HGA.out, HED2.out, HMS.out⟩
        case measure => simp [intOf]; omega
      | false =>
        rw [hb] at hbj
        have hbs : B'[j]? = some false := by rw [List.getElem?_eq_getElem (by rw [HBL'.out]; exact hjl), hb]
        have hrj : Reach d' (procs.map (·.d)) j := hst.bfs.reach (q := x) (hst.bfs.act x (.inr rfl)) (by rw [HXR.out]; exact ⟨_, HIN.out, hj⟩)
        obtain ⟨b2, off2, cap2, e, _, hcc2⟩ := HP.out.row.at hjl
        simp only [Value.slice.injEq, true_and] at e
        obtain ⟨rfl, rfl⟩ := e
        have hb2 : b2 < w.heap.size := World.block_lt_of_cell? w _ (hcc2 0 _ rfl)
        have hb3 : b2 < wr.heap.size := by omega
        have hb4 : ¬ b2 = wm.heap.size := by omega
        have hcc3 := (HP.out.row.later HGi.out).at' hjl
        have c0 := hcc3 0 _ rfl
        have c1 := hcc3 1 _ rfl
        have c2 := hcc3 2 _ rfl
        have c3 := hcc3 3 _ rfl
        have c4 := hcc3 4 _ rfl
        have c5 := hcc3 5 _ rfl
        have c6 := hcc3 6 _ rfl
        simp only [Nat.add_zero] at c0
        have hyo := HP.out.each procs[j] (List.getElem_mem hjl)
        have HYQ := Lib.hid (show qobj ⟨d', .slice y1 d'.params.length y2, .slice y3 d'.slots.length y4, .slice y5 d'.code.length y6, .slice y7 d'.refs.length y8⟩ procs (some j) = procs[j] from by simp [qobj, List.getD, hjl])
        generalize procs[j] = yv at HYQ hyo c0 c1 c2 c3 c4 c5 c6
        obtain ⟨v1, v2, v3, v4, v5, v6, v7, v8, ⟨hv1, hv2, hv3, hv4⟩, -, -, -⟩ := hyo.slices
        obtain ⟨yd, yqv, ysv, ycv, yrv⟩ := yv
        simp only at c0 c1 c2 c3 c4 c5 c6 hv1 hv2 hv3 hv4
        subst hv1 hv2 hv3 hv4
        have hmvC : Mv (fun b => b = wm.heap.size) wr (((wr.setCell ⟨wm.heap.size, j, none⟩ (.bool true)).alloc (.cells #[.int .i64 ra, .string rs] 66)).alloc (.cells #[.string yd.name, .slice v1 yd.params.length v2, .slice v3 yd.slots.length v4, .int .i64 yd.cells, .int .i64 yd.stacks, .slice v5 yd.code.length v6, .slice v7 yd.refs.length v8] 31)) := (((Mv.refl (fun b => b = wm.heap.size) wr).setCell (p := ⟨wm.heap.size, j, none⟩) (.inl rfl) _).alloc _).alloc _
        have hqC := hst.q.keep hmvC (fun g hg e => by simp [Value.ownBlock] at hg; omega)
        have hsrc := heap_alloc_new ((wr.setCell ⟨wm.heap.size, j, none⟩ (.bool true)).alloc (.cells #[.int .i64 ra, .string rs] 66)) (.cells #[.string yd.name, .slice v1 yd.params.length v2, .slice v3 yd.slots.length v4, .int .i64 yd.cells, .int .i64 yd.stacks, .slice v5 yd.code.length v6, .slice v7 yd.refs.length v8] 31)
        rw [World.size_alloc, World.size_setCell] at hsrc
        obtain ⟨v', w2, ⟨hok, hv, hw⟩, hq2, hmv2⟩ := app_queue Tryd.elemObj (fun _ => rfl) _ (⟨yd, .slice v1 yd.params.length v2, .slice v3 yd.slots.length v4, .slice v5 yd.code.length v6, .slice v7 yd.refs.length v8⟩ : ObjV) (Q'.map (qobj ⟨d', .slice y1 d'.params.length y2, .slice y3 d'.slots.length y4, .slice y5 d'.code.length y6, .slice y7 d'.refs.length y8⟩ procs)) (wm.heap.size + 1) (wr.heap.size + 1) 0 1 _ hqC (RowAt.ofBlock (l := [(⟨yd, .slice v1 yd.params.length v2, .slice v3 yd.slots.length v4, .slice v5 yd.code.length v6, .slice v7 yd.refs.length v8⟩ : ObjV)]) (fun _ => rfl) hsrc rfl (by simp)) (obj_one hyo) (by simp; omega) (by rw [List.length_map]; have := HQL.out; omega)
        have hbC : BitsAt (((wr.setCell ⟨wm.heap.size, j, none⟩ (.bool true)).alloc (.cells #[.int .i64 ra, .string rs] 66)).alloc (.cells #[.string yd.name, .slice v1 yd.params.length v2, .slice v3 yd.slots.length v4, .int .i64 yd.cells, .int .i64 yd.stacks, .slice v5 yd.code.length v6, .slice v7 yd.refs.length v8] 31)) wm.heap.size 4 (B'.set j true) := by
          have h1 := hst.bits.set j true
          exact alloc_keep (alloc_keep h1 _) _
        have HS2 := Lib.hid (show RSt ⟨d', .slice y1 d'.params.length y2, .slice y3 d'.slots.length y4, .slice y5 d'.code.length y6, .slice y7 d'.refs.length y8⟩ procs wm w2 v' (fun q => q ∈ Q' ++ [some j] ∨ q = x) (Q' ++ [some j]) (B'.set j true) from
          ⟨(hst.bfs.mark hrj).mono (fun q hq => (hst.bfs.mark hrj).act q (by
              rcases hq with hq | rfl
              · rcases List.mem_append.1 hq with hq | hq
                · exact .inl (.inl hq)
                · exact .inr (by simpa using hq)
              · exact .inl (.inr rfl))) (fun q hq => .inl (by
              rcases hq with (hq | rfl) | rfl
              · exact .inl (List.mem_append_left _ hq)
              · exact .inr rfl
              · exact .inl (by simp))),
            by rw [List.map_append, List.map_cons, List.map_nil, HYQ.out]; exact hq2,
            hbC.keep (hmv2.block _ (lt_of_block hbC) (fun e => by simp [Value.ownBlock] at e; omega)),
            (hst.g.trans hmvC (fun y e => .inr (by omega))).trans hmv2 (fun y e => .inr (by simp [Value.ownBlock] at e; omega))⟩)
        have HED2 := Lib.hid (show ∀ j', Edge (procs.map (·.d)) (xd.refs.take (k + 1)) j' → (B'.set j true)[j']? = some true from fun j' ⟨r', hr', hf'⟩ => by
          rw [HTS.out] at hr'
          rw [set_true (by rw [HBL'.out]; exact hjl)]
          rcases List.mem_append.1 hr' with hr' | hr'
          · exact .inl (HED.out j' ⟨r', hr', hf'⟩)
          · simp at hr'
            subst hr'
            simp only at hf'
            rw [hj] at hf'
            exact .inr (by omega))
        have HMS2 := Lib.hid (show (Q' ++ [some j]).length + (procs.length - cnt (B'.set j true)) ≤ r.length + (procs.length - cnt B) from by
          have h1 := cnt_set hbs
          have h2 := cnt_le (B'.set j true)
          rw [List.length_set, HBL'.out] at h2
          have := HMS.out
          simp only [List.length_append, List.length_cons, List.length_nil]
          omega)
        obtain ⟨-, pb2, po2, pc2, hv2, -, -, -, -⟩ := hq2
        have hv3 : v' = .slice (some ⟨pb2, po2, none⟩) (Q'.length + 1) pc2 := by simpa using hv2
        subst hv3
        clear hcc hst hmpi hfg hf hj hb hbs hrj hcc2 hcc3 hyo hmvC hqC hsrc hmv2 hbC hv2
        go_wp2_with fail
        go_roundw
        case rel => exact ⟨k + 1, _, _, by go_num, by omega, HS2.out, HED2.out, HMS2.out⟩
        case measure => simp [intOf]; omega
    · rw [if_neg hf] at hl
      simp only [Option.getD_none, Option.isSome_none] at hl
      have HED2 := Lib.hid (show ∀ j', Edge (procs.map (·.d)) (xd.refs.take (k + 1)) j' → B'[j']? = some true from fun j' ⟨r', hr', hf'⟩ => by
        rw [HTS.out] at hr'
        rcases List.mem_append.1 hr' with hr' | hr'
        · exact HED.out j' ⟨r', hr', hf'⟩
        · simp at hr'
          subst hr'
          simp only at hf'
          rw [hf'] at hf
          omega)
      clear hcc hst hmpi hfg hf
      go_wp2_with fail
      go_roundw
      case rel => exact ⟨k + 1, Q', B', by go_num, by omega, HGA.out, HED2.out, HMS.out⟩
      case measure => simp [intOf]; omega
  obtain rfl : k = xd.refs.length := by omega
  have HS2 := Lib.hid (show RSt ⟨d', .slice y1 d'.params.length y2, .slice y3 d'.slots.length y4, .slice y5 d'.code.length y6, .slice y7 d'.refs.length y8⟩ procs wm wr (.slice (some ⟨pb, po, none⟩) Q'.length pc) (· ∈ Q') Q' B' from
    ⟨hst.bfs.mono (fun q hq => hst.bfs.act q (.inl hq)) (fun q hq => by
      rcases hq with hq | rfl
      · exact .inl hq
      · refine .inr fun j hj => HED.out j ?_
        rw [List.take_length]
        rw [HXR.out] at hj
        exact hj), hst.q, hst.bits, hst.g⟩)
  have HMZ := Lib.hid (show Q'.length + (procs.length - cnt B') < gk from by have h1 := HGK.out; have h2 := HMS.out; rw [List.length_cons] at h1; omega)
  clear hst hbth
  go_wp2_with fail
  go_roundg (Q'.length + (procs.length - cnt B'))
  case measure => exact HMZ.out
  case rel => exact ⟨Q', B', HS2.out, rfl, by have := HMZ.out; omega⟩

end Go.Proofs.YtaabkaiifplhgaaDoor
