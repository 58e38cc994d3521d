/- The reference's Reachable: rounds of marks. -/
import Derived.Test.YtaabkaiifplhgaaDoorLReach
namespace Go.Proofs.YtaabkaiifplhgaaDoor
set_option linter.unusedSimpArgs false
set_option linter.unusedVariables false
open Go.RowKit Go.Instr

attribute [local go_sem ↓] run_appOp

def ixC (i : Nat) : List Value := [.int .i64 i]
theorem Tryd.infoInt : (Tryd.prog.info? 3).map (fun i => (i.zero, i.size, i.bytes)) = some (some (.int .i64 0), 1, 8) := by kernel_rfl
theorem Tryd.elemInt : Elem Tryd.prog 63 3 1 8 := Elem.of Tryd.underlying63 Tryd.infoInt rfl (by decide) (by decide)

/-- the marks ahead of the i-th step of a round: main is step 0 -/
def preTo (main : ObjD) (procs : List ObjD) (B : List Bool) : Nat → List Bool
  | 0 => B
  | i + 1 => roundTo main procs B i
theorem preTo_len (main : ObjD) (procs : List ObjD) (B : List Bool) (i : Nat) : (preTo main procs B i).length = B.length := by
  cases i with
  | zero => rfl
  | succ i => exact roundTo_len _ _ _ _

/-- what is handed back -/
def Indexed (w : World) (l : List Nat) (e : Ending) (w' : World) : Prop := ∃ v, e = .returned v ∧ RowAt 1 ixC w' v l ∧ Grow w w'
theorem mark_neg {B : List Bool} {j : Int} (h : ¬ 0 ≤ j) : mark B j = B := if_neg h
theorem mark_nat (B : List Bool) (j : Nat) : mark B (j : Int) = B.set j true := by unfold mark; rw [if_pos (by omega)]; simp

set_option maxRecDepth 100000 in
set_option maxHeartbeats 16000000 in
theorem rreach_any (m : RObjV) (pv : Value) (procs : List RObjV) (w : World) (hm : RObjAt w m) (hp : RObjsAt w pv procs) (hpl : procs.length ≤ 1000) :
    Calls Tryd.prog 20 #[m.val, pv] w (Indexed w (reachIx m.d (procs.map (·.d)))) := by
  obtain ⟨pa, pcap, rfl, hpcap, hplen⟩ := hp.row.form
  obtain ⟨a3, c3, a4, c4, ⟨hy3, hy4⟩, -, -, hrl⟩ := hm.slices
  have HP := Lib.hid hp
  have HM := Lib.hid hm
  clear hm hp
  obtain ⟨m', mcv, mrv⟩ := m
  simp only at hy3 hy4 hrl
  subst hy3 hy4
  have hmk := run_bits procs.length (w.alloc (.cells #[.string m'.name, .int .i64 m'.cells, .int .i64 m'.stacks, .slice a3 m'.code.length c3, .slice a4 m'.refs.length c4] 48)) (by omega)
  rw [World.size_alloc] at hmk
  have HG1 := Lib.hid (show Grow w ((w.alloc (.cells #[.string m'.name, .int .i64 m'.cells, .int .i64 m'.stacks, .slice a3 m'.code.length c3, .slice a4 m'.refs.length c4] 48)).alloc (.cells (Array.replicate procs.length (.bool false)) 4)) from ((Mv.refl _ _).alloc _).alloc _)
  have HM1 := Lib.hid (alloc_keep (heap_alloc_new w (.cells #[.string m'.name, .int .i64 m'.cells, .int .i64 m'.stacks, .slice a3 m'.code.length c3, .slice a4 m'.refs.length c4] 48)) (.cells (Array.replicate procs.length (.bool false)) 4))
  have HB1 := Lib.hid (show BitsAt ((w.alloc (.cells #[.string m'.name, .int .i64 m'.cells, .int .i64 m'.stacks, .slice a3 m'.code.length c3, .slice a4 m'.refs.length c4] 48)).alloc (.cells (Array.replicate procs.length (.bool false)) 4)) (w.heap.size + 1) 4 (rounds m' (procs.map (·.d)) 0) from by
    unfold BitsAt rounds
    rw [List.length_map, show ((List.replicate procs.length false).map Value.bool).toArray = Array.replicate procs.length (.bool false) by simp]
    have h := heap_alloc_new (w.alloc (.cells #[.string m'.name, .int .i64 m'.cells, .int .i64 m'.stacks, .slice a3 m'.code.length c3, .slice a4 m'.refs.length c4] 48)) (.cells (Array.replicate procs.length (.bool false)) 4)
    rwa [World.size_alloc] at h)
  go_enter Tryd.func20, Tryd.ntmps20
  go_wp2_with fail
  clear hmk
  generalize (w.alloc (.cells #[.string m'.name, .int .i64 m'.cells, .int .i64 m'.stacks, .slice a3 m'.code.length c3, .slice a4 m'.refs.length c4] 48)).alloc (.cells (Array.replicate procs.length (.bool false)) 4) = w1 at *
  go_loopw [6] (fun t wr => ∃ r : Nat, t = .int .i64 r ∧ r ≤ procs.length + 1 ∧ BitsAt wr (w.heap.size + 1) 4 (rounds m' (procs.map (·.d)) r) ∧ Mv (fun b => b = w.heap.size + 1) w1 wr) (fun t _ => procs.length + 1 - (intOf t).toNat)
  case atStart => exact ⟨0, rfl, Nat.zero_le _, HB1.out, Mv.refl _ _⟩
  obtain ⟨r, rfl, hr, hbt, hmv⟩ := hrel
  have HBO := Lib.hid hbt
  have HMO := Lib.hid hmv
  clear hbt hmv
  by_cases hlr : r ≤ procs.length
  · have HBL0 := Lib.hid (show (rounds m' (procs.map (·.d)) r).length = procs.length from by rw [rounds_len, List.length_map])
    have HNX := Lib.hid (show rounds m' (procs.map (·.d)) (r + 1) = preTo m' (procs.map (·.d)) (rounds m' (procs.map (·.d)) r) (procs.length + 1) from by simp only [rounds, preTo, List.length_map])
    generalize rounds m' (procs.map (·.d)) r = B at *
    obtain ⟨wa, rfl⟩ : ∃ wa : World, wa = wr := ⟨_, rfl⟩
    go_wp2_with fail
    go_loopw [7] (fun t wr => ∃ i : Nat, t = .int .i64 ((i : Int) - 1) ∧ i ≤ procs.length + 1 ∧ BitsAt wr (w.heap.size + 1) 4 (preTo m' (procs.map (·.d)) B i) ∧ Mv (fun b => b = w.heap.size + 1) wa wr) (fun t _ => (procs.length + 1) - (intOf t + 1).toNat)
    case atStart => exact ⟨0, by go_num, Nat.zero_le _, HBO.out, Mv.refl _ _⟩
    obtain ⟨i, rfl, hi, hbt, hmv⟩ := hrel
    have HBI := Lib.hid hbt
    have HMI := Lib.hid hmv
    have hMI := HMO.out.trans hmv (fun y e => .inl e)
    have HMB := Lib.hid (show wr.heap[w.heap.size]? = some (.cells #[.string m'.name, .int .i64 m'.cells, .int .i64 m'.stacks, .slice a3 m'.code.length c3, .slice a4 m'.refs.length c4] 48 (0, 0)) from (hMI.block _ (lt_of_block HM1.out) (by omega)).trans HM1.out)
    have HGI := Lib.hid (HG1.out.trans hMI (fun y e => .inr (by omega)))
    have hlM := lt_of_block HMB.out
    have hlB := lt_of_block hbt
    have HBLi := Lib.hid (show (preTo m' (procs.map (·.d)) B i).length = procs.length from by rw [preTo_len]; exact HBL0.out)
    clear hbt hmv hMI
    by_cases hli : i ≤ procs.length
    · obtain ⟨⟨⟨x0, x1, x2⟩, x3, x4⟩, -⟩ := robj_cells HMB.out
      rcases Nat.eq_zero_or_pos i with rfl | hi0
      · have HXR := Lib.hid HM.out.refs
        simp only at HXR
        have HGi := Lib.hid (HGI.out.alloc (.cells #[.string m'.name, .int .i64 m'.cells, .int .i64 m'.stacks, .slice a3 m'.code.length c3, .slice a4 m'.refs.length c4] 48))
        have HXi := Lib.hid (heap_alloc_new wr (.cells #[.string m'.name, .int .i64 m'.cells, .int .i64 m'.stacks, .slice a3 m'.code.length c3, .slice a4 m'.refs.length c4] 48))
        have HBi := Lib.hid (show BitsAt (wr.alloc (.cells #[.string m'.name, .int .i64 m'.cells, .int .i64 m'.stacks, .slice a3 m'.code.length c3, .slice a4 m'.refs.length c4] 48)) (w.heap.size + 1) 4 (markRefs (procs.map (·.d)) B (m'.refs.take 0)) from HBI.out.keep (Below.heap_alloc _ _ _ hlB))
        have HMi := Lib.hid (HMI.out.alloc (.cells #[.string m'.name, .int .i64 m'.cells, .int .i64 m'.stacks, .slice a3 m'.code.length c3, .slice a4 m'.refs.length c4] 48))
        have hsz : wr.heap.size < (wr.alloc (.cells #[.string m'.name, .int .i64 m'.cells, .int .i64 m'.stacks, .slice a3 m'.code.length c3, .slice a4 m'.refs.length c4] 48)).heap.size := by simp
        have HBL := HBLi
        simp only [preTo] at HBL
        obtain ⟨Bx, hBx⟩ : ∃ Bx, Bx = B := ⟨_, rfl⟩
        have HNI := Lib.hid (show preTo m' (procs.map (·.d)) B 1 = markRefs (procs.map (·.d)) Bx m'.refs from by rw [hBx]; rfl)
        rw [← hBx] at HBi HBL
        rw [show (((0 : Nat) : Int) - 1) = -1 from rfl]
        clear hBx
        go_wp2_with fail
        clear x0 x1 x2 x3 x4
        generalize hX : wr.heap.size = X at *
        generalize wr.alloc (.cells #[.string m'.name, .int .i64 m'.cells, .int .i64 m'.stacks, .slice a3 m'.code.length c3, .slice a4 m'.refs.length c4] 48) = wi at *
        obtain ⟨wz, rfl⟩ : ∃ wz : World, wz = wr := ⟨_, rfl⟩
        go_loopw [9] (fun t wr => ∃ k : Nat, t = .int .i64 k ∧ k ≤ m'.refs.length ∧ BitsAt wr (w.heap.size + 1) 4 (markRefs (procs.map (·.d)) Bx (m'.refs.take k)) ∧ Mv (fun b => b = w.heap.size + 1) wi wr) (fun t _ => m'.refs.length - (intOf t).toNat)
        case atStart => exact ⟨0, rfl, Nat.zero_le _, HBi.out, Mv.refl _ _⟩
        obtain ⟨k, rfl, hk, hbt, hmv⟩ := hrel
        have hXr : wr.heap[X]? = _ := (hmv.block _ (lt_of_block HXi.out) (by omega)).trans HXi.out
        obtain ⟨⟨⟨x0, x1, x2⟩, x3, x4⟩, -⟩ := robj_cells hXr
        have hlX := lt_of_block hXr
        have HBT := Lib.hid hbt
        have HMV := Lib.hid hmv
        have HGr := Lib.hid (HGi.out.trans hmv (fun y e => .inr (by omega)))
        have hlb := lt_of_block hbt
        have hbth := hbt.thaw
        by_cases hlt : k < m'.refs.length
        · obtain ⟨b, off, cap', e, _, hcc⟩ := (HXR.out.later HGr.out).at hlt
          simp only [Value.slice.injEq, true_and] at e
          obtain ⟨rfl, rfl⟩ := e
          have e1 := hcc 1 _ rfl
          have hbl : b < wr.heap.size := World.block_lt_of_cell? wr _ e1
          have HMS := Lib.hid (markRefs_snoc (procs.map (·.d)) Bx m'.refs k hlt)
          have HFD := Lib.hid (find_any (.slice pa procs.length pcap) procs m'.refs[k].name wr (HP.out.later HGr.out))
          generalize m'.refs[k] = rr at HMS HFD e1
          obtain ⟨ra', rs⟩ := rr
          simp only at e1 HMS HFD
          clear hcc hXr hbt hmv
          go_wp2_with fail
          refine HFD.out.mono ?_
          rintro e w' ⟨rfl, rfl⟩
          by_cases hf : 0 ≤ findI (procs.map (·.d)) rs
          · obtain ⟨j, hj⟩ : ∃ j : Nat, findI (procs.map (·.d)) rs = j := ⟨(findI (procs.map (·.d)) rs).toNat, by omega⟩
            obtain ⟨hjl, -⟩ := findI_at hj
            rw [List.length_map] at hjl
            rw [hj] at HMS ⊢
            rw [mark_nat] at HMS
            have hlen : (markRefs (procs.map (·.d)) Bx (m'.refs.take k)).length = procs.length := by rw [markRefs_len]; exact HBL.out
            obtain ⟨bv, hcj⟩ : ∃ bv, wr.cell? ⟨w.heap.size + 1, j, none⟩ = some (.bool bv) := ⟨_, HBT.out.cell (j := j) (by rw [hlen]; exact hjl)⟩
            have HB2 := Lib.hid (HBT.out.set j true)
            have HM2 := Lib.hid (HMV.out.setCell (p := ⟨w.heap.size + 1, j, none⟩) (.inl rfl) (.bool true))
            clear hf hj hlen
            go_wp2_with fail
            go_roundw
            case rel => exact ⟨k + 1, by go_num, by omega, by rw [HMS.out]; exact HB2.out, HM2.out⟩
            case measure => simp [intOf]; omega
          · rw [mark_neg hf] at HMS
            go_wp2_with fail
            go_roundw
            case rel => exact ⟨k + 1, by go_num, by omega, by rw [HMS.out]; exact HBT.out, HMV.out⟩
            case measure => simp [intOf]; omega
        obtain rfl : k = m'.refs.length := by omega
        rw [List.take_length] at hbt
        have HBE := Lib.hid hbt
        have HME := Lib.hid hmv
        clear hXr hbt hmv hbth HBT HMV
        go_wp2_with fail
        go_roundw
        case rel => exact ⟨1, by go_num, by omega, by rw [HNI.out]; exact HBE.out, HMi.out.trans HME.out (fun y e => .inl e)⟩
        case measure => simp [intOf]
      · obtain ⟨p, rfl⟩ : ∃ p, i = p + 1 := ⟨i - 1, by omega⟩
        have hpi : (((p + 1 : Nat) : Int) - 1) = (p : Int) := by omega
        rw [hpi]
        have hlp : p < procs.length := by omega
        have HPP := Lib.hid (show (procs.map (·.d))[p]? = some procs[p].d from by simp [hlp])
        simp only [preTo] at HBI HBLi
        have hpB : p < (roundTo m' (procs.map (·.d)) B p).length := by rw [HBLi.out]; exact hlp
        have hcp := HBI.out.cell hpB
        have HNI := Lib.hid (show preTo m' (procs.map (·.d)) B (p + 1 + 1) = if (roundTo m' (procs.map (·.d)) B p)[p]'hpB = true then markRefs (procs.map (·.d)) (roundTo m' (procs.map (·.d)) B p) procs[p].d.refs else roundTo m' (procs.map (·.d)) B p from by
          simp only [preTo, roundTo, HPP.out]
          rw [List.getElem?_eq_getElem hpB]
          simp)
        obtain ⟨pb, po, cap', e, _, hcc⟩ := (HP.out.row.later HGI.out).at hlp
        simp only [Value.slice.injEq, true_and] at e
        obtain ⟨rfl, rfl⟩ := e
        have u0 := hcc 0 _ rfl
        have u1 := hcc 1 _ rfl
        have u2 := hcc 2 _ rfl
        have u3 := hcc 3 _ rfl
        have u4 := hcc 4 _ rfl
        simp only [Nat.add_zero] at u0
        have hbl : pb < wr.heap.size := World.block_lt_of_cell? wr _ u0
        have hxo := HP.out.each procs[p] (List.getElem_mem hlp)
        generalize procs[p] = x at HNI hxo u0 u1 u2 u3 u4
        obtain ⟨b3, e3, b4, e4, ⟨hz3, hz4⟩, -, -, hxl⟩ := hxo.slices
        obtain ⟨xd, xcv, xrv⟩ := x
        simp only at u0 u1 u2 u3 u4 hz3 hz4 HNI hxl
        subst hz3 hz4
        have hpi2 : (-1 : Int) < p := by omega
        cases hb : (roundTo m' (procs.map (·.d)) B p)[p]'hpB with
        | false =>
          rw [hb] at hcp HNI
          have HB2 := Lib.hid (HBI.out.keep (w' := wr.alloc (.cells #[.string m'.name, .int .i64 m'.cells, .int .i64 m'.stacks, .slice a3 m'.code.length c3, .slice a4 m'.refs.length c4] 48)) (Below.heap_alloc _ _ _ hlB))
          have HM2 := Lib.hid (HMI.out.alloc (.cells #[.string m'.name, .int .i64 m'.cells, .int .i64 m'.stacks, .slice a3 m'.code.length c3, .slice a4 m'.refs.length c4] 48))
          clear hcc hxo hb hpi
          go_wp2_with fail
          go_roundw
          case rel => exact ⟨p + 1 + 1, by go_num, by omega, by rw [HNI.out, if_neg (by simp)]; exact HB2.out, HM2.out⟩
          case measure => simp [intOf]; omega
        | true =>
          rw [hb] at hcp HNI
          have HXR := Lib.hid hxo.refs
          simp only at HXR
          have HGi := Lib.hid (HGI.out.alloc (.cells #[.string xd.name, .int .i64 xd.cells, .int .i64 xd.stacks, .slice b3 xd.code.length e3, .slice b4 xd.refs.length e4] 48))
          have HXi := Lib.hid (heap_alloc_new wr (.cells #[.string xd.name, .int .i64 xd.cells, .int .i64 xd.stacks, .slice b3 xd.code.length e3, .slice b4 xd.refs.length e4] 48))
          obtain ⟨Bx, hBx⟩ : ∃ Bx, Bx = roundTo m' (procs.map (·.d)) B p := ⟨_, rfl⟩
          have HBi := Lib.hid (show BitsAt (wr.alloc (.cells #[.string xd.name, .int .i64 xd.cells, .int .i64 xd.stacks, .slice b3 xd.code.length e3, .slice b4 xd.refs.length e4] 48)) (w.heap.size + 1) 4 (markRefs (procs.map (·.d)) Bx (xd.refs.take 0)) from by rw [hBx]; exact HBI.out.keep (Below.heap_alloc _ _ _ hlB))
          have HMi := Lib.hid (HMI.out.alloc (.cells #[.string xd.name, .int .i64 xd.cells, .int .i64 xd.stacks, .slice b3 xd.code.length e3, .slice b4 xd.refs.length e4] 48))
          have hsz : wr.heap.size < (wr.alloc (.cells #[.string xd.name, .int .i64 xd.cells, .int .i64 xd.stacks, .slice b3 xd.code.length e3, .slice b4 xd.refs.length e4] 48)).heap.size := by simp
          have HBL := Lib.hid (show Bx.length = procs.length from by rw [hBx]; exact HBLi.out)
          have HNJ := Lib.hid (show preTo m' (procs.map (·.d)) B (p + 1 + 1) = markRefs (procs.map (·.d)) Bx xd.refs from by rw [HNI.out, if_pos rfl, hBx])
          clear hcc hb hpi hBx hxo
          go_wp2_with fail
          clear x0 x1 x2 x3 x4 u0 u1 u2 u3 u4 hcp
          generalize hX : wr.heap.size = X at *
          generalize wr.alloc (.cells #[.string xd.name, .int .i64 xd.cells, .int .i64 xd.stacks, .slice b3 xd.code.length e3, .slice b4 xd.refs.length e4] 48) = wi at *
          obtain ⟨wz, rfl⟩ : ∃ wz : World, wz = wr := ⟨_, rfl⟩
          go_loopw [9] (fun t wr => ∃ k : Nat, t = .int .i64 k ∧ k ≤ xd.refs.length ∧ BitsAt wr (w.heap.size + 1) 4 (markRefs (procs.map (·.d)) Bx (xd.refs.take k)) ∧ Mv (fun b => b = w.heap.size + 1) wi wr) (fun t _ => xd.refs.length - (intOf t).toNat)
          case atStart => exact ⟨0, rfl, Nat.zero_le _, HBi.out, Mv.refl _ _⟩
          obtain ⟨k, rfl, hk, hbt, hmv⟩ := hrel
          have hXr : wr.heap[X]? = _ := (hmv.block _ (lt_of_block HXi.out) (by omega)).trans HXi.out
          obtain ⟨⟨⟨x0, x1, x2⟩, x3, x4⟩, -⟩ := robj_cells hXr
          have hlX := lt_of_block hXr
          have HBT := Lib.hid hbt
          have HMV := Lib.hid hmv
          have HGr := Lib.hid (HGi.out.trans hmv (fun y e => .inr (by omega)))
          have hlb := lt_of_block hbt
          have hbth := hbt.thaw
          by_cases hlt : k < xd.refs.length
          · obtain ⟨b, off, cap', e, _, hcc⟩ := (HXR.out.later HGr.out).at hlt
            simp only [Value.slice.injEq, true_and] at e
            obtain ⟨rfl, rfl⟩ := e
            have e1 := hcc 1 _ rfl
            have hbl : b < wr.heap.size := World.block_lt_of_cell? wr _ e1
            have HMS := Lib.hid (markRefs_snoc (procs.map (·.d)) Bx xd.refs k hlt)
            have HFD := Lib.hid (find_any (.slice (some ⟨pb, po, none⟩) procs.length pcap) procs xd.refs[k].name wr (HP.out.later HGr.out))
            generalize xd.refs[k] = rr at HMS HFD e1
            obtain ⟨ra', rs⟩ := rr
            simp only at e1 HMS HFD
            clear hcc hXr hbt hmv
            go_wp2_with fail
            refine HFD.out.mono ?_
            rintro e w' ⟨rfl, rfl⟩
            by_cases hf : 0 ≤ findI (procs.map (·.d)) rs
            · obtain ⟨j, hj⟩ : ∃ j : Nat, findI (procs.map (·.d)) rs = j := ⟨(findI (procs.map (·.d)) rs).toNat, by omega⟩
              obtain ⟨hjl, -⟩ := findI_at hj
              rw [List.length_map] at hjl
              rw [hj] at HMS ⊢
              rw [mark_nat] at HMS
              have hlen : (markRefs (procs.map (·.d)) Bx (xd.refs.take k)).length = procs.length := by rw [markRefs_len]; exact HBL.out
              obtain ⟨bv, hcj⟩ : ∃ bv, wr.cell? ⟨w.heap.size + 1, j, none⟩ = some (.bool bv) := ⟨_, HBT.out.cell (j := j) (by rw [hlen]; exact hjl)⟩
              have HB2 := Lib.hid (HBT.out.set j true)
              have HM2 := Lib.hid (HMV.out.setCell (p := ⟨w.heap.size + 1, j, none⟩) (.inl rfl) (.bool true))
              clear hf hj hlen
              go_wp2_with fail
              go_roundw
              case rel => exact ⟨k + 1, by go_num, by omega, by rw [HMS.out]; exact HB2.out, HM2.out⟩
              case measure => simp [intOf]; omega
            · rw [mark_neg hf] at HMS
              go_wp2_with fail
              go_roundw
              case rel => exact ⟨k + 1, by go_num, by omega, by rw [HMS.out]; exact HBT.out, HMV.out⟩
              case measure => simp [intOf]; omega
          obtain rfl : k = xd.refs.length := by omega
          rw [List.take_length] at hbt
          have HBE := Lib.hid hbt
          have HME := Lib.hid hmv
          clear hXr hbt hmv hbth HBT HMV
          go_wp2_with fail
          go_roundw
          case rel => exact ⟨p + 1 + 1, by go_num, by omega, by rw [HNJ.out]; exact HBE.out, HMi.out.trans HME.out (fun y e => .inl e)⟩
          case measure => simp [intOf]; omega
    · obtain rfl : i = procs.length + 1 := by omega
      have HBE := Lib.hid (show BitsAt wr (w.heap.size + 1) 4 (rounds m' (procs.map (·.d)) (r + 1)) from by rw [HNX.out]; exact HBI.out)
      have HME := Lib.hid (HMO.out.trans HMI.out (fun y e => .inl e))
      go_wp2_with fail
      go_roundw
      case rel => exact ⟨r + 1, by go_num, by omega, HBE.out, HME.out⟩
      case measure => simp [intOf]; omega
  obtain rfl : r = procs.length + 1 := by omega
  have HRI := Lib.hid (fun j => (by have := rounds_all m' (procs.map (·.d)) j; rw [List.length_map] at this; exact this))
  have HBL0 := Lib.hid (show (rounds m' (procs.map (·.d)) (procs.length + 1)).length = procs.length from by rw [rounds_len, List.length_map])
  generalize rounds m' (procs.map (·.d)) (procs.length + 1) = B at *
  have HGF := Lib.hid (HG1.out.trans HMO.out (fun y e => .inr (by omega)))
  have hlB := lt_of_block HBO.out
  obtain ⟨wf, rfl⟩ : ∃ wf : World, wf = wr := ⟨_, rfl⟩
  go_wp2_with fail
  go_loopw [11, 12] (fun lv t wr => ∃ k : Nat, t = .int .i64 k ∧ k ≤ procs.length ∧ wr.ownsRow wf.heap.size 3 1 lv (reachTo m' (procs.map (·.d)) k).length (flat ixC (reachTo m' (procs.map (·.d)) k)) ∧ Grow wf wr) (fun _ t _ => procs.length - (intOf t).toNat)
  case atStart => exact ⟨0, rfl, Nat.zero_le _, by simp only [reachTo, List.range_zero, List.filter_nil]; exact World.ownsRow_nil _ _ _ _, Mv.refl _ _⟩
  obtain ⟨k, rfl, hk, hrow, hgr⟩ := hrel
  have HROW := Lib.hid hrow
  have HGR := Lib.hid hgr
  have hszr := hgr.size
  have hbtr := HBO.out.keep (w' := wr) (hgr.block _ hlB (fun h => h))
  have hbbr : w.heap.size + 1 < wr.heap.size := Nat.lt_of_lt_of_le hlB hszr
  have hll := reachTo_len m' (procs.map (·.d)) k
  obtain ⟨la, lc, hlv⟩ := row_slice hrow
  subst hlv
  by_cases hlt : k < procs.length
  · have hkB : k < B.length := by rw [HBL0.out]; exact hlt
    have hbk := hbtr.cell hkB
    have HRB := Lib.hid (show reachB m' (procs.map (·.d)) k = B[k] from by
      have h1 := HRI.out k
      rw [List.getElem?_eq_getElem hkB] at h1
      cases hb : B[k] with
      | true => rw [hb] at h1; exact reachB_iff.2 (h1.1 rfl)
      | false =>
        rw [hb] at h1
        cases hr : reachB m' (procs.map (·.d)) k with
        | false => rfl
        | true => have := h1.2 (reachB_iff.1 hr); simp at this)
    have HTS := Lib.hid (reachTo_succ m' (procs.map (·.d)) k)
    generalize reachTo m' (procs.map (·.d)) k = T at *
    cases hb : B[k] with
    | false =>
      rw [hb] at hbk HRB
      clear hbtr hrow hgr hb
      go_wp2_with fail
      go_roundw
      case rel => exact ⟨k + 1, by go_num, by omega, by rw [HTS.out, HRB.out, if_neg (by simp), List.append_nil]; exact HROW.out, HGR.out⟩
      case measure => simp [intOf]; omega
    | true =>
      rw [hb] at hbk HRB
      have hsrc := heap_alloc_new wr (.cells #[.int .i64 k] 3)
      have hga := (Mv.refl (fun _ => False) wr).alloc (.cells #[.int .i64 k] 3)
      obtain ⟨a', c', w2, ⟨hok, hv, hw⟩, hrow2, hmv2, -⟩ := app_gen Tryd.elemInt (f := ixC) (fun _ => rfl) _ _ T [k] wf.heap.size _ (row_keep hrow hga (fun _ _ e => e)) (RowAt.ofBlock (l := [k]) (fun _ => rfl) hsrc rfl (by simp)) (by simp [ixC, Value.oneCell']) (by simp; omega) (by simp; omega)
      have HR2 := Lib.hid hrow2
      have HG2 := Lib.hid ((hgr.alloc (.cells #[.int .i64 k] 3)).trans hmv2 (fun y e => .inr (hrow.lt y e).1))
      simp only [List.length_cons, List.length_nil, Nat.zero_add] at hok hv hw
      clear hbtr hrow hgr hb hsrc hga hrow2 hmv2
      go_wp2_with fail
      go_roundw
      case rel => exact ⟨k + 1, by go_num, by omega, by rw [HTS.out, HRB.out, if_pos rfl]; exact HR2.out, HG2.out⟩
      case measure => simp [intOf]; omega
  obtain rfl : k = procs.length := by omega
  have HRW := Lib.hid (show RowAt 1 ixC wr (.slice la (reachTo m' (procs.map (·.d)) procs.length).length lc) (reachIx m' (procs.map (·.d))) from by
    have := rowAt_of_owns (f := ixC) (n := 1) (fun _ => rfl) hrow
    unfold reachIx
    rw [List.length_map]
    exact this)
  have HGZ := Lib.hid (Mv.trans HGF.out hgr (fun _ e => e.elim))
  clear hbtr hrow hgr
  go_wp2_with fail
  go_ret
  exact ⟨_, rfl, HRW.out, HGZ.out⟩

end Go.Proofs.YtaabkaiifplhgaaDoor
