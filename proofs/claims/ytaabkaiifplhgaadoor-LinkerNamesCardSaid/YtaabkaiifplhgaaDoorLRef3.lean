/- The reference's move. -/
import Derived.Test.YtaabkaiifplhgaaDoorLRef2
import Derived.Test.YtaabkaiifplhgaaDoorYC
import Derived.Deep.CutRange
import Derived.Deep.DeepCutAuto
import Derived.Deep.CutBlock
namespace Go.Proofs.YtaabkaiifplhgaaDoor
set_option linter.unusedSimpArgs false
set_option linter.unusedVariables false
open Go.RowKit Go.Instr

attribute [local go_sem ↓] run_appOp

/-- where a name starts, by the reference -/
def stI (main : ObjD) (procs : List ObjD) (s : ByteArray) : Int := startAt main procs (findI procs s).toNat
def moveAt (st : ByteArray → Int) (i : Nat) (refs : List RefD) (x : Ins) : Ins := refs.foldl (fun y r => if r.at' = (i : Int) then { y with a := st r.name } else y) x
def moveTo (st : ByteArray → Int) (base : Int) (code : List Ins) (refs : List RefD) (k : Nat) : List Ins := (List.range k).filterMap fun i => (code[i]?).map fun x => moveAt st i refs (shiftI base x)
def moveL (main : ObjD) (procs : List ObjD) (o : ObjD) (base : Int) : List Ins := moveTo (stI main procs) base o.code o.refs o.code.length

theorem moveTo_succ (st : ByteArray → Int) (base : Int) (code : List Ins) (refs : List RefD) (k : Nat) (h : k < code.length) : moveTo st base code refs (k + 1) = moveTo st base code refs k ++ [moveAt st k refs (shiftI base code[k])] := by
  unfold moveTo; rw [List.range_succ, List.filterMap_append]; simp [h]
theorem moveTo_len (st : ByteArray → Int) (base : Int) (code : List Ins) (refs : List RefD) : ∀ k, k ≤ code.length → (moveTo st base code refs k).length = k := by
  intro k
  induction k with
  | zero => intro _; rfl
  | succ k ih => intro hk; rw [moveTo_succ _ _ _ _ _ (by omega), List.length_append, ih (by omega)]; rfl
theorem moveAt_succ (st : ByteArray → Int) (i : Nat) (refs : List RefD) (x : Ins) (j : Nat) (h : j < refs.length) : moveAt st i (refs.take (j + 1)) x = if refs[j].at' = (i : Int) then { moveAt st i (refs.take j) x with a := st refs[j].name } else moveAt st i (refs.take j) x := by
  unfold moveAt; rw [List.take_succ_eq_append_getElem h, List.foldl_append]; rfl
theorem findFrom_lt (procs : List ObjD) (s : ByteArray) : ∀ (f i : Nat), i + f = procs.length → findFrom procs s f i ≤ procs.length := by
  intro f
  induction f with
  | zero => intro i h; simp only [findFrom]; omega
  | succ f ih =>
    intro i h
    simp only [findFrom, List.getElem?_eq_getElem (show i < procs.length by omega)]
    split
    · omega
    · exact ih (i + 1) (by omega)
theorem findI_le (procs : List ObjD) (s : ByteArray) : findI procs s ≤ procs.length := findFrom_lt procs s procs.length 0 (by omega)

theorem ins_cells {w : World} {X : Nat} {a b c d e : Value} {t : TypeId} (h : w.heap[X]? = some (.cells #[a, b, c, d, e] t (0, 0))) : ((w.cell? ⟨X, 0, none⟩ = some a ∧ w.cell? ⟨X, 1, none⟩ = some b ∧ w.cell? ⟨X, 2, none⟩ = some c) ∧ w.cell? ⟨X, 3, none⟩ = some d ∧ w.cell? ⟨X, 4, none⟩ = some e) ∧ ∀ i, w.frozen? ⟨X, i, none⟩ = false := robj_cells h

theorem ins_base {base base' : Nat} {w : World} {v : Value} {l : List Ins} (h : InsRow w base v l) (hb : base' ≤ base) : InsRow w base' v l := by
  refine ⟨h.1, ?_⟩
  rcases h.2 with h1 | ⟨g, cap, cur, e, hg, rest⟩
  · exact .inl h1
  · exact .inr ⟨g, cap, cur, e, Nat.le_trans hb hg, rest⟩
/-- an instruction's block, its first operand whatever -/
def Shp (X : Nat) (yo yb yc yd : Int) (x : World) : Prop := ∃ a : Value, x.heap[X]? = some (.cells #[.int .u8 yo, a, .int .i64 yb, .int .i64 yc, .int .i64 yd] 57 (0, 0))
def TX (X : Nat) (yo yb yc yd : Int) (x y : World) : Prop := Mv (fun b => b = X) x y ∧ (Shp X yo yb yc yd x → Shp X yo yb yc yd y)
theorem TX.refl (X : Nat) (yo yb yc yd : Int) (x : World) : TX X yo yb yc yd x x := ⟨Mv.refl _ _, fun h => h⟩
theorem TX.trans {X : Nat} {yo yb yc yd : Int} (x y z : World) (h : TX X yo yb yc yd x y) (k : TX X yo yb yc yd y z) : TX X yo yb yc yd x z := ⟨h.1.trans k.1 (fun _ e => .inl e), fun hs => k.2 (h.2 hs)⟩
theorem TX.grow {X : Nat} {yo yb yc yd : Int} {x y : World} (h : Grow x y) : TX X yo yb yc yd x y := ⟨h.mono (fun _ e => e.elim), fun ⟨a, ha⟩ => ⟨a, by rw [h.block X (lt_of_block ha) (fun h => h)]; exact ha⟩⟩

set_option maxRecDepth 100000 in
set_option maxHeartbeats 8000000 in
theorem move_any (m o : RObjV) (pv : Value) (procs : List RObjV) (base : Int) (w : World) (hm : RObjAt w m) (hp : RObjsAt w pv procs) (ho : RObjAt w o) (hmc : m.d.code.length ≤ 1000000) (hpl : procs.length ≤ 1000) (hpc : ∀ x ∈ procs, x.d.code.length ≤ 1000000) (hoc : o.d.code.length ≤ 500000) (hor : o.d.refs.length ≤ 500000) :
    Calls Tryd.prog 28 #[m.val, pv, o.val, .int .i64 base] w fun e w' => ∃ v, e = .returned v ∧ InsRow w' w.heap.size v (moveL m.d (procs.map (·.d)) o.d base) ∧ Grow w w' := by
  obtain ⟨pa, pcap, rfl, hpcap, hplen⟩ := hp.row.form
  obtain ⟨a3, c3, a4, c4, ⟨hy3, hy4⟩, -, -, -⟩ := hm.slices
  obtain ⟨b3, e3, b4, e4, ⟨hz3, hz4⟩, ⟨hccap, hclen⟩, hrcap, hrlen⟩ := ho.slices
  have HM := Lib.hid hm
  have HP := Lib.hid hp
  have HO := Lib.hid ho
  have HPC := Lib.hid hpc
  have HML := Lib.hid (show moveL m.d (procs.map (·.d)) o.d base = moveTo (stI m.d (procs.map (·.d))) base o.d.code o.d.refs o.d.code.length from rfl)
  have HSI := Lib.hid (fun s => show stI m.d (procs.map (·.d)) s = startAt m.d (procs.map (·.d)) (findI (procs.map (·.d)) s).toNat from rfl)
  clear hm hp ho hpc
  obtain ⟨m', mcv, mrv⟩ := m
  obtain ⟨o', ocv, orv⟩ := o
  simp only at hy3 hy4 hz3 hz4 hccap hclen hrcap hrlen hmc hoc hor HML HSI
  subst hy3 hy4 hz3 hz4
  have HG1 := Lib.hid (show Grow w ((w.alloc (.cells #[.string m'.name, .int .i64 m'.cells, .int .i64 m'.stacks, .slice a3 m'.code.length c3, .slice a4 m'.refs.length c4] 48)).alloc (.cells #[.string o'.name, .int .i64 o'.cells, .int .i64 o'.stacks, .slice b3 o'.code.length e3, .slice b4 o'.refs.length e4] 48)) from ((Mv.refl _ _).alloc _).alloc _)
  have HMB := Lib.hid (alloc_keep (heap_alloc_new w (.cells #[.string m'.name, .int .i64 m'.cells, .int .i64 m'.stacks, .slice a3 m'.code.length c3, .slice a4 m'.refs.length c4] 48)) (.cells #[.string o'.name, .int .i64 o'.cells, .int .i64 o'.stacks, .slice b3 o'.code.length e3, .slice b4 o'.refs.length e4] 48))
  have hob := heap_alloc_new (w.alloc (.cells #[.string m'.name, .int .i64 m'.cells, .int .i64 m'.stacks, .slice a3 m'.code.length c3, .slice a4 m'.refs.length c4] 48)) (.cells #[.string o'.name, .int .i64 o'.cells, .int .i64 o'.stacks, .slice b3 o'.code.length e3, .slice b4 o'.refs.length e4] 48)
  rw [World.size_alloc] at hob
  have HOB := Lib.hid hob
  clear hob
  generalize stI m' (procs.map (·.d)) = st at *
  go_enter Tryd.func28, Tryd.ntmps28
  go_wp2_with fail
  generalize ((w.alloc (.cells #[.string m'.name, .int .i64 m'.cells, .int .i64 m'.stacks, .slice a3 m'.code.length c3, .slice a4 m'.refs.length c4] 48)).alloc (.cells #[.string o'.name, .int .i64 o'.cells, .int .i64 o'.stacks, .slice b3 o'.code.length e3, .slice b4 o'.refs.length e4] 48)) = w1 at *
  go_loopw [9, 10] (fun v t wr => ∃ k : Nat, t = .int .i64 k ∧ k ≤ o'.code.length ∧ InsRow wr w1.heap.size v (moveTo st base o'.code o'.refs k) ∧ Grow w1 wr) (fun _ t _ => o'.code.length - (intOf t).toNat)
  case atStart => exact ⟨0, rfl, Nat.zero_le _, World.ownsRow_nil _ _ _ _, Mv.refl _ _⟩
  obtain ⟨k, rfl, hk, hrow, hgr⟩ := hrel
  have hml := moveTo_len st base o'.code o'.refs k hk
  obtain ⟨va, vc, hv⟩ := row_slice hrow
  rw [hml] at hv
  subst hv
  have HROW := Lib.hid hrow
  have HGR := Lib.hid hgr
  have hgw := Mv.trans HG1.out hgr (fun _ e => e.elim)
  have HGW := Lib.hid hgw
  have hmb : wr.heap[w.heap.size]? = some (.cells #[.string m'.name, .int .i64 m'.cells, .int .i64 m'.stacks, .slice a3 m'.code.length c3, .slice a4 m'.refs.length c4] 48 (0, 0)) := by
    rw [hgr.block _ (lt_of_block HMB.out) (fun h => h)]; exact HMB.out
  have hob : wr.heap[w.heap.size + 1]? = some (.cells #[.string o'.name, .int .i64 o'.cells, .int .i64 o'.stacks, .slice b3 o'.code.length e3, .slice b4 o'.refs.length e4] 48 (0, 0)) := by
    rw [hgr.block _ (lt_of_block HOB.out) (fun h => h)]; exact HOB.out
  have hlm := lt_of_block hmb
  have hlo := lt_of_block hob
  obtain ⟨⟨⟨x0, x1, x2⟩, x3, x4⟩, -⟩ := robj_cells hob
  by_cases hlt : k < o'.code.length
  · obtain ⟨b, off, cap', e, _, _⟩ := (HO.out.code.later hgw).at hlt
    simp only [Value.slice.injEq, true_and] at e
    obtain ⟨rfl, rfl⟩ := e
    obtain ⟨⟨p0, p1, p2⟩, p3, p4, hbl⟩ := (HO.out.code.later hgw).ins hlt
    have HMS := Lib.hid (moveTo_succ st base o'.code o'.refs k hlt)
    generalize o'.code[k] = xx at *
    obtain ⟨xo, xa, xb, xc, xd⟩ := xx
    simp only at p0 p1 p2 p3 p4
    clear hrow hgr hgw
    generalize hsh : shiftI base ⟨xo, xa, xb, xc, xd⟩ = s at *
    obtain ⟨so, sa, sb, sc, sd⟩ := s
    go_upto_block 2 with fail
    go_cut [11] (fun p wc => p = .pointer (some ⟨wr.heap.size, 0, none⟩) ∧ wc = wr.alloc (.cells #[.int .u8 so, .int .i64 sa, .int .i64 sb, .int .i64 sc, .int .i64 sd] 57))
    case first =>
      rcases (show xo = 22 ∨ xo = 25 ∨ xo = 23 ∨ xo = 24 ∨ xo = 26 ∨ xo = 27 ∨ ((xo ≠ 22 ∧ xo ≠ 25 ∧ xo ≠ 23) ∧ xo ≠ 24 ∧ xo ≠ 26 ∧ xo ≠ 27) by omega) with rfl | rfl | rfl | rfl | rfl | rfl | ⟨⟨n1, n2, n3⟩, n4, n5, n6⟩
      case inr.inr.inr.inr.inr.inr =>
        have m1 : (xo == 22) = false := by simpa using n1
        have m2 : (xo == 25) = false := by simpa using n2
        have m3 : (xo == 23) = false := by simpa using n3
        have m4 : (xo == 24) = false := by simpa using n4
        have m5 : (xo == 26) = false := by simpa using n5
        have m6 : (xo == 27) = false := by simpa using n6
        simp [shiftI, movB, isJ, isL, m1, m2, m3, m4, m5, m6] at hsh
        obtain ⟨rfl, rfl, rfl, rfl, rfl⟩ := hsh
        go_wp2_with fail
        go_meet
        case rel => exact ⟨rfl, rfl⟩
      all_goals
        simp [shiftI, movB, isJ, isL, Ins.retarget, Ins.target, tgA, tgB] at hsh
        obtain ⟨rfl, rfl, rfl, rfl, rfl⟩ := hsh
        go_wp2_with fail
        go_meet
        case rel => exact ⟨rfl, rfl⟩
    case rest =>
      obtain ⟨rfl, rfl⟩ := hcut
      have hbx := heap_alloc_new wr (.cells #[.int .u8 so, .int .i64 sa, .int .i64 sb, .int .i64 sc, .int .i64 sd] 57)
      have HG2 := Lib.hid (HGW.out.alloc (.cells #[.int .u8 so, .int .i64 sa, .int .i64 sb, .int .i64 sc, .int .i64 sd] 57))
      have HR2 := Lib.hid (HROW.out.alloc (.cells #[.int .u8 so, .int .i64 sa, .int .i64 sb, .int .i64 sc, .int .i64 sd] 57))
      have HGR2 := Lib.hid (HGR.out.alloc (.cells #[.int .u8 so, .int .i64 sa, .int .i64 sb, .int .i64 sc, .int .i64 sd] 57))
      have hmb2 := alloc_keep hmb (.cells #[.int .u8 so, .int .i64 sa, .int .i64 sb, .int .i64 sc, .int .i64 sd] 57)
      have hob2 := alloc_keep hob (.cells #[.int .u8 so, .int .i64 sa, .int .i64 sb, .int .i64 sc, .int .i64 sd] 57)
      have HBX := Lib.hid hbx
      have HMB2 := Lib.hid hmb2
      have HOB2 := Lib.hid hob2
      obtain ⟨wo, rfl⟩ : ∃ wo : World, wo = wr := ⟨_, rfl⟩
      have hszw : wo.heap.size < (wo.alloc (.cells #[.int .u8 so, .int .i64 sa, .int .i64 sb, .int .i64 sc, .int .i64 sd] 57)).heap.size := by simp
      clear hbx hmb2 hob2 hmb hob x0 x1 x2 x3 x4 p0 p1 p2 p3 p4
      generalize wo.alloc (.cells #[.int .u8 so, .int .i64 sa, .int .i64 sb, .int .i64 sc, .int .i64 sd] 57) = w2 at *
      have HM0 := Lib.hid (show moveAt st k (o'.refs.take 0) ⟨so, sa, sb, sc, sd⟩ = ⟨so, sa, sb, sc, sd⟩ from rfl)
      go_wp2_with fail
      go_loopw [12] (fun t wr => ∃ j : Nat, t = .int .i64 j ∧ j ≤ o'.refs.length ∧ Mv (fun b => b = wo.heap.size) w2 wr ∧ wr.heap[wo.heap.size]? = some (.cells #[.int .u8 (moveAt st k (o'.refs.take j) ⟨so, sa, sb, sc, sd⟩).op, .int .i64 (moveAt st k (o'.refs.take j) ⟨so, sa, sb, sc, sd⟩).a, .int .i64 (moveAt st k (o'.refs.take j) ⟨so, sa, sb, sc, sd⟩).b, .int .i64 (moveAt st k (o'.refs.take j) ⟨so, sa, sb, sc, sd⟩).c, .int .i64 (moveAt st k (o'.refs.take j) ⟨so, sa, sb, sc, sd⟩).d] 57 (0, 0))) (fun t _ => o'.refs.length - (intOf t).toNat)
      case atStart => exact ⟨0, rfl, Nat.zero_le _, Mv.refl _ _, HBX.out⟩
      obtain ⟨j, rfl, hj, hmv, hX⟩ := hrel
      have HMV := Lib.hid hmv
      have hgw2 : Grow w wr := HG2.out.trans hmv (fun x e => .inr (by omega))
      have hob3 : wr.heap[w.heap.size + 1]? = some (.cells #[.string o'.name, .int .i64 o'.cells, .int .i64 o'.stacks, .slice (some ⟨b, off, none⟩) o'.code.length e3, .slice b4 o'.refs.length e4] 48 (0, 0)) := by
        rw [hmv.block _ (lt_of_block HOB2.out) (by omega)]; exact HOB2.out
      have hmb3 : wr.heap[w.heap.size]? = some (.cells #[.string m'.name, .int .i64 m'.cells, .int .i64 m'.stacks, .slice a3 m'.code.length c3, .slice a4 m'.refs.length c4] 48 (0, 0)) := by
        rw [hmv.block _ (lt_of_block HMB2.out) (by omega)]; exact HMB2.out
      obtain ⟨⟨⟨x0, x1, x2⟩, x3, x4⟩, -⟩ := robj_cells hob3
      have hlo3 := lt_of_block hob3
      by_cases hlt2 : j < o'.refs.length
      · obtain ⟨rb, roff, rcap, e, _, hcc⟩ := (HO.out.refs.later hgw2).at hlt2
        simp only [Value.slice.injEq, true_and] at e
        obtain ⟨rfl, rfl⟩ := e
        have r0 := hcc 0 _ rfl
        have r1 := hcc 1 _ rfl
        simp only [Nat.add_zero] at r0
        have hrb : rb < wr.heap.size := World.block_lt_of_cell? wr _ r0
        have HMA := Lib.hid (moveAt_succ st k o'.refs ⟨so, sa, sb, sc, sd⟩ j hlt2)
        have HRR := Lib.hid (fun (x : World) (hx : Grow w x) => (HO.out.refs.later hx).at' hlt2)
        generalize o'.refs[j] = r at *
        obtain ⟨ra, rs⟩ := r
        simp only at r0 r1
        generalize moveAt st k (o'.refs.take j) ⟨so, sa, sb, sc, sd⟩ = y at *
        obtain ⟨yo, ya, yb, yc, yd⟩ := y
        simp only at hX HMA
        have HX := Lib.hid hX
        clear hcc
        by_cases hat : ra = (k : Int)
        · subst hat
          rw [if_pos rfl] at HMA
          have hlX := lt_of_block hX
          have HMBX := Lib.hid (fun (x : World) (hx : TX wo.heap.size yo yb yc yd wr.drew x) => (show x.heap[w.heap.size]? = some (.cells #[.string m'.name, .int .i64 m'.cells, .int .i64 m'.stacks, .slice a3 m'.code.length c3, .slice a4 m'.refs.length c4] 48 (0, 0)) from by rw [hx.1.block _ (lt_of_block hmb3) (by omega)]; exact hmb3))
          have HOBX := Lib.hid (fun (x : World) (hx : TX wo.heap.size yo yb yc yd wr.drew x) => (show x.heap[w.heap.size + 1]? = some (.cells #[.string o'.name, .int .i64 o'.cells, .int .i64 o'.stacks, .slice (some ⟨b, off, none⟩) o'.code.length e3, .slice (some ⟨rb, roff, none⟩) o'.refs.length e4] 48 (0, 0)) from by rw [hx.1.block _ (lt_of_block hob3) (by omega)]; exact hob3))
          have HGX := Lib.hid (fun (x : World) (hx : TX wo.heap.size yo yb yc yd wr.drew x) => (show Grow w x from hgw2.drew.trans hx.1 (fun b e => .inr (by omega))))
          have HSX := Lib.hid (fun (x : World) (hx : TX wo.heap.size yo yb yc yd wr.drew x) => hx.2 ⟨_, hX⟩)
          clear hX hmv hgw2 hob3 hmb3
          go_upto_region 19 with fail
          clear x0 x1 x2 x3 x4 r0 r1
          refine wp_region_steps (by kernel_rfl) 77 [some 60, some 61, some 62, some 63, some 64, some 65, some 66, some 67, some 68, some 69, some 70, some 71, none] [[], [], [], [], [3], [], [4, 5], [6], [7], [2, 8], [0, 1, 9, 9], [0, 1, 2, 3, 4, 5, 6, 7, 8, 9, 10], [11, 10, 10, 0, 1, 2, 3, 4, 5, 6, 7, 8, 9, 10]] [[], [], [], [], [3], [], [4, 5], [6], [7], [2, 8], [0, 1, 9], [], [11, 10]] [[0], [1], [2], [3], [4], [5], [6], [7], [8], [9], [10], [11], [12]] [] rfl (by kernel_rfl) (TX wo.heap.size yo yb yc yd) (TX.refl _ _ _ _ _) TX.trans (YC [some (.agg #[.string m'.name, .int .i64 m'.cells, .int .i64 m'.stacks, .slice a3 m'.code.length c3, .slice a4 m'.refs.length c4]), some (.slice pa procs.length pcap), some (.slice pa procs.length pcap), some (.pointer (some ⟨w.heap.size + 1, 4, none⟩)), some (.slice (some ⟨rb, roff, none⟩) o'.refs.length e4), some (.int .i64 j), some (.pointer (some ⟨rb, roff + j * 2, none⟩)), some (.pointer (some ⟨rb, roff + j * 2 + 1, none⟩)), some (.string rs), some (.int .i64 (findI (procs.map (·.d)) rs)), some (.int .i64 (startAt m' (procs.map (·.d)) (findI (procs.map (·.d)) rs).toNat)), some (.pointer (some ⟨wo.heap.size, 1, none⟩)), none] 12 (fun _ x => x.heap[wo.heap.size]? = some (.cells #[.int .u8 yo, .int .i64 (startAt m' (procs.map (·.d)) (findI (procs.map (·.d)) rs).toNat), .int .i64 yb, .int .i64 yc, .int .i64 yd] 57 (0, 0)))) ?steps ?done
          case steps =>
            refine ⟨?s0, ?s1, ?s2, ?s3, ?s4, ?s5, ?s6, ?s7, ?s8, ?s9, ?s10, ?s11, ?s12, trivial⟩
            case s0 =>
              intro vs x hx hY
              obtain ⟨⟨⟨q0, q1, q2⟩, q3, q4⟩, -⟩ := robj_cells (HMBX.out x hx)
              clear hY
              unfold Gives
              simp only [actL, Act.put, List.getD_cons_zero, List.getD_cons_succ, List.setIfInBounds_toArray, List.set_cons_zero, List.set_cons_succ]
              go_simp
              exact ⟨TX.refl _ _ _ _ _ x, yc_mk (by decide) rfl rfl, by intros; assumption⟩
            case s1 =>
              intro vs x hx hY
              clear hY
              unfold Gives
              simp only [actL, Act.put, List.getD_cons_zero, List.getD_cons_succ, List.setIfInBounds_toArray, List.set_cons_zero, List.set_cons_succ]
              go_simp
              exact ⟨TX.refl _ _ _ _ _ x, yc_mk (by decide) rfl rfl, by intros; assumption⟩
            case s2 =>
              intro vs x hx hY
              clear hY
              unfold Gives
              simp only [actL, Act.put, List.getD_cons_zero, List.getD_cons_succ, List.setIfInBounds_toArray, List.set_cons_zero, List.set_cons_succ]
              go_simp
              exact ⟨TX.refl _ _ _ _ _ x, yc_mk (by decide) rfl rfl, by intros; assumption⟩
            case s3 =>
              intro vs x hx hY
              clear hY
              unfold Gives
              simp only [actL, Act.put, List.getD_cons_zero, List.getD_cons_succ, List.setIfInBounds_toArray, List.set_cons_zero, List.set_cons_succ]
              go_simp
              exact ⟨TX.refl _ _ _ _ _ x, yc_mk (by decide) rfl rfl, by intros; assumption⟩
            case s4 =>
              intro vs x hx hY
              have h3 : vs 3 = .pointer (some ⟨w.heap.size + 1, 4, none⟩) := yc_get (hY 3 (by simp) (by simp)) (by decide) rfl
              obtain ⟨⟨⟨q0, q1, q2⟩, q3, q4⟩, -⟩ := robj_cells (HOBX.out x hx)
              clear hY
              unfold Gives
              simp only [actL, Act.put, List.getD_cons_zero, List.getD_cons_succ, List.setIfInBounds_toArray, List.set_cons_zero, List.set_cons_succ, h3]
              go_simp
              exact ⟨TX.refl _ _ _ _ _ x, yc_mk (by decide) rfl rfl, by intros; assumption⟩
            case s5 =>
              intro vs x hx hY
              clear hY
              unfold Gives
              simp only [actL, Act.put, List.getD_cons_zero, List.getD_cons_succ, List.setIfInBounds_toArray, List.set_cons_zero, List.set_cons_succ]
              go_simp
              exact ⟨TX.refl _ _ _ _ _ x, yc_mk (by decide) rfl rfl, by intros; assumption⟩
            case s6 =>
              intro vs x hx hY
              have h4 : vs 4 = .slice (some ⟨rb, roff, none⟩) o'.refs.length e4 := yc_get (hY 4 (by simp) (by simp)) (by decide) rfl
              have h5 : vs 5 = .int .i64 j := yc_get (hY 5 (by simp) (by simp)) (by decide) rfl
              clear hY
              unfold Gives
              simp only [actL, Act.put, List.getD_cons_zero, List.getD_cons_succ, List.setIfInBounds_toArray, List.set_cons_zero, List.set_cons_succ, h4, h5]
              go_simp
              exact ⟨TX.refl _ _ _ _ _ x, yc_mk (by decide) rfl rfl, by intros; assumption⟩
            case s7 =>
              intro vs x hx hY
              have h6 : vs 6 = .pointer (some ⟨rb, roff + j * 2, none⟩) := yc_get (hY 6 (by simp) (by simp)) (by decide) rfl
              clear hY
              unfold Gives
              simp only [actL, Act.put, List.getD_cons_zero, List.getD_cons_succ, List.setIfInBounds_toArray, List.set_cons_zero, List.set_cons_succ, h6]
              go_simp
              exact ⟨TX.refl _ _ _ _ _ x, yc_mk (by decide) rfl rfl, by intros; assumption⟩
            case s8 =>
              intro vs x hx hY
              have h7 : vs 7 = .pointer (some ⟨rb, roff + j * 2 + 1, none⟩) := yc_get (hY 7 (by simp) (by simp)) (by decide) rfl
              have q1 := HRR.out x (HGX.out x hx) 1 _ rfl
              clear hY
              unfold Gives
              simp only [actL, Act.put, List.getD_cons_zero, List.getD_cons_succ, List.setIfInBounds_toArray, List.set_cons_zero, List.set_cons_succ, h7]
              go_simp
              exact ⟨TX.refl _ _ _ _ _ x, yc_mk (by decide) rfl rfl, by intros; assumption⟩
            case s9 =>
              intro vs x hx hY
              have h2 : vs 2 = .slice pa procs.length pcap := yc_get (hY 2 (by simp) (by simp)) (by decide) rfl
              have h8 : vs 8 = .string rs := yc_get (hY 8 (by simp) (by simp)) (by decide) rfl
              have HF := Lib.hid (find_any (.slice pa procs.length pcap) procs rs x (HP.out.later (HGX.out x hx)))
              clear hY
              unfold Gives
              simp only [actL, Act.put, List.getD_cons_zero, List.getD_cons_succ, List.setIfInBounds_toArray, List.set_cons_zero, List.set_cons_succ, h2, h8]
              go_simp
              refine HF.out.mono ?_
              rintro e y ⟨rfl, rfl⟩
              exact ⟨_, rfl, TX.refl _ _ _ _ _ x, yc_mk (by decide) rfl rfl, by intros; assumption⟩
            case s10 =>
              intro vs x hx hY
              have h0 : vs 0 = .agg #[.string m'.name, .int .i64 m'.cells, .int .i64 m'.stacks, .slice a3 m'.code.length c3, .slice a4 m'.refs.length c4] := yc_get (hY 0 (by simp) (by simp)) (by decide) rfl
              have h1 : vs 1 = .slice pa procs.length pcap := yc_get (hY 1 (by simp) (by simp)) (by decide) rfl
              have h9 : vs 9 = .int .i64 (findI (procs.map (·.d)) rs) := yc_get (hY 9 (by simp) (by simp)) (by decide) rfl
              have HF := Lib.hid (start_any ⟨m', .slice a3 m'.code.length c3, .slice a4 m'.refs.length c4⟩ (.slice pa procs.length pcap) procs (findI (procs.map (·.d)) rs) x (HM.out.later (HGX.out x hx)) (HP.out.later (HGX.out x hx)) (by have := findI_le (procs.map (·.d)) rs; simpa using this) hmc hpl HPC.out)
              clear hY
              unfold Gives
              simp only [actL, Act.put, List.getD_cons_zero, List.getD_cons_succ, List.setIfInBounds_toArray, List.set_cons_zero, List.set_cons_succ, h0, h1, h9]
              go_simp
              refine HF.out.mono ?_
              rintro e y ⟨rfl, hg⟩
              exact ⟨_, rfl, TX.grow hg, yc_mk (by decide) rfl rfl, by intro j l; intros; exact yc_keep (fun l h => by rw [hg.block _ (lt_of_block h) (fun h => h)]; exact h) j l (by assumption)⟩
            case s11 =>
              intro vs x hx hY
              clear hY
              unfold Gives
              simp only [actL, Act.put, List.getD_cons_zero, List.getD_cons_succ, List.setIfInBounds_toArray, List.set_cons_zero, List.set_cons_succ]
              go_simp
              exact ⟨TX.refl _ _ _ _ _ x, yc_mk (by decide) rfl rfl, by intros; assumption⟩
            case s12 =>
              intro vs x hx hY
              have h11 : vs 11 = .pointer (some ⟨wo.heap.size, 1, none⟩) := yc_get (hY 11 (by simp) (by simp)) (by decide) rfl
              have h10 : vs 10 = .int .i64 (startAt m' (procs.map (·.d)) (findI (procs.map (·.d)) rs).toNat) := yc_get (hY 10 (by simp) (by simp)) (by decide) rfl
              obtain ⟨a0, ha⟩ := HSX.out x hx
              obtain ⟨⟨⟨q0, q1, q2⟩, q3, q4⟩, qz⟩ := ins_cells ha
              clear hY
              unfold Gives
              simp only [actL, Act.put, List.getD_cons_zero, List.getD_cons_succ, List.setIfInBounds_toArray, List.set_cons_zero, List.set_cons_succ, h11, h10]
              go_simp
              have hb := block_setCell (p := ⟨wo.heap.size, 1, none⟩) ha rfl (.int .i64 (startAt m' (procs.map (·.d)) (findI (procs.map (·.d)) rs).toNat))
              have hb2 : (x.setCell ⟨wo.heap.size, 1, none⟩ (.int .i64 (startAt m' (procs.map (·.d)) (findI (procs.map (·.d)) rs).toNat))).heap[wo.heap.size]? = some (.cells #[.int .u8 yo, .int .i64 (startAt m' (procs.map (·.d)) (findI (procs.map (·.d)) rs).toNat), .int .i64 yb, .int .i64 yc, .int .i64 yd] 57 (0, 0)) := by simpa using hb
              exact ⟨⟨(Mv.refl (fun b => b = wo.heap.size) x).setCell (p := ⟨wo.heap.size, 1, none⟩) (.inl rfl) _, fun _ => ⟨_, hb2⟩⟩, yc_at hb2, by intro j l hj; intros; exact yc_self j l hj (by assumption)⟩
          case done =>
          intro vs wx hx hY
          simp only [List.length_cons, List.length_nil, Nat.zero_add, Nat.reduceAdd]
          rw [show List.range 13 = [0, 1, 2, 3, 4, 5, 6, 7, 8, 9, 10, 11, 12] from rfl]
          have h0 : vs 0 = .agg #[.string m'.name, .int .i64 m'.cells, .int .i64 m'.stacks, .slice a3 m'.code.length c3, .slice a4 m'.refs.length c4] := yc_get (hY 0 (by decide) rfl) (by decide) rfl
          have h1 : vs 1 = .slice pa procs.length pcap := yc_get (hY 1 (by decide) rfl) (by decide) rfl
          have h2 : vs 2 = .slice pa procs.length pcap := yc_get (hY 2 (by decide) rfl) (by decide) rfl
          have h3 : vs 3 = .pointer (some ⟨w.heap.size + 1, 4, none⟩) := yc_get (hY 3 (by decide) rfl) (by decide) rfl
          have h4 : vs 4 = .slice (some ⟨rb, roff, none⟩) o'.refs.length e4 := yc_get (hY 4 (by decide) rfl) (by decide) rfl
          have h5 : vs 5 = .int .i64 j := yc_get (hY 5 (by decide) rfl) (by decide) rfl
          have h6 : vs 6 = .pointer (some ⟨rb, roff + j * 2, none⟩) := yc_get (hY 6 (by decide) rfl) (by decide) rfl
          have h7 : vs 7 = .pointer (some ⟨rb, roff + j * 2 + 1, none⟩) := yc_get (hY 7 (by decide) rfl) (by decide) rfl
          have h8 : vs 8 = .string rs := yc_get (hY 8 (by decide) rfl) (by decide) rfl
          have h9 : vs 9 = .int .i64 (findI (procs.map (·.d)) rs) := yc_get (hY 9 (by decide) rfl) (by decide) rfl
          have h10 : vs 10 = .int .i64 (startAt m' (procs.map (·.d)) (findI (procs.map (·.d)) rs).toNat) := yc_get (hY 10 (by decide) rfl) (by decide) rfl
          have h11 : vs 11 = .pointer (some ⟨wo.heap.size, 1, none⟩) := yc_get (hY 11 (by decide) rfl) (by decide) rfl
          have hk := yc_of (hY 12 (by decide) rfl)
          simp only [actL, Act.put, List.getD_cons_zero, List.getD_cons_succ, List.setIfInBounds_toArray, List.set_cons_zero, List.set_cons_succ, h0, h1, h2, h3, h4, h5, h6, h7, h8, h9, h10, h11]
          clear hY h0 h1 h2 h3 h4 h5 h6 h7 h8 h9 h10 h11
          have HXX := Lib.hid hx
          have HKK := Lib.hid hk
          clear hx hk
          go_wp2_with fail
          go_roundw
          case rel => exact ⟨j + 1, by go_num, by omega, HMV.out.drew.trans HXX.out.1 (fun _ e => .inl e), by rw [HMA.out, HSI.out]; exact HKK.out⟩
          case measure => simp [intOf]; omega
        · rw [if_neg hat] at HMA
          have hat2 : (ra == (k : Int)) = false := by simpa using hat
          clear hX hmv hgw2 hob3 hmb3
          go_wp2_with fail
          go_roundw
          case rel => exact ⟨j + 1, by go_num, by omega, HMV.out, by rw [HMA.out]; exact HX.out⟩
          case measure => simp [intOf]; omega
      obtain rfl : j = o'.refs.length := by omega
      have hta : o'.refs.take o'.refs.length = o'.refs := List.take_length
      rw [hta] at hX
      have hrow3 := row_keep HR2.out hmv (fun g hg e => by have := (HROW.out.lt g hg).2; omega)
      obtain ⟨a', c', w3, ⟨hok, hvv, hw⟩, hrow4, hmv4, -⟩ := app_ins _ (moveAt st k o'.refs ⟨so, sa, sb, sc, sd⟩) _ _ wr hrow3 (by have := HGR2.out.size; have := hmv.size; omega) (by rw [hml]; omega)
      have HREL := Lib.hid (show InsRow w3 w1.heap.size (.slice a' (k + 1) c') (moveTo st base o'.code o'.refs (k + 1)) ∧ Grow w1 w3 from by
        rw [HMS.out]
        rw [hml] at hrow4
        exact ⟨hrow4, (HGR2.out.trans hmv (fun x e => .inr (by have := HGR.out.size; omega))).trans hmv4 (fun x e => .inr (HROW.out.lt x e).1)⟩)
      generalize moveAt st k o'.refs ⟨so, sa, sb, sc, sd⟩ = y at *
      obtain ⟨yo, ya, yb, yc, yd⟩ := y
      simp only [hml] at hX hok hvv hw
      obtain ⟨⟨⟨q0, q1, q2⟩, q3, q4⟩, -⟩ := ins_cells hX
      have hlX := lt_of_block hX
      clear hX hmv hgw2 hob3 hmb3 hta hrow3 hrow4 hmv4
      go_wp2_with fail
      go_roundw
      case rel => exact ⟨k + 1, by go_num, by omega, HREL.out.1, HREL.out.2⟩
      case measure => simp [intOf]; omega
  obtain rfl : k = o'.code.length := by omega
  have HRW := Lib.hid (ins_base hrow HG1.out.size)
  clear hrow hgr hmb hob
  go_wp2_with fail
  go_ret
  exact ⟨_, rfl, by rw [HML.out]; exact HRW.out, HGW.out⟩

end Go.Proofs.YtaabkaiifplhgaaDoor
