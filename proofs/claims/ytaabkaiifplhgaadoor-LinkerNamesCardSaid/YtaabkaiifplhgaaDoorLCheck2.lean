/- object.Check. -/
import Derived.Test.YtaabkaiifplhgaaDoorLCheck
namespace Go.Proofs.YtaabkaiifplhgaaDoor
set_option linter.unusedSimpArgs false
set_option linter.unusedVariables false
open Go.RowKit

def agreeB (v : VarD) (s : SlotD) : Bool := (s.name == v.name) && ((s.kind == v.kind) && (s.len == v.len))
def agreeTo (ps : List VarD) (ss : List SlotD) (k : Nat) : Bool := (List.range k).all fun i => match ps[i]?, ss[i]? with
  | some v, some s => agreeB v s
  | _, _ => true
theorem agreeTo_succ (ps : List VarD) (ss : List SlotD) (k : Nat) (h : k < ps.length) (h2 : k < ss.length) : agreeTo ps ss (k + 1) = (agreeTo ps ss k && agreeB ps[k] ss[k]) := by
  unfold agreeTo
  rw [List.range_succ, List.all_append]
  simp [h, h2]
theorem agreeTo_false (ps : List VarD) (ss : List SlotD) (k n : Nat) (hkn : k < n) (h : k < ps.length) (h2 : k < ss.length) (hf : agreeB ps[k] ss[k] = false) : agreeTo ps ss n = false := by
  unfold agreeTo
  apply Bool.eq_false_iff.2
  intro hall
  have := List.all_eq_true.1 hall k (by simp; exact hkn)
  rw [List.getElem?_eq_getElem h, List.getElem?_eq_getElem h2] at this
  simp only at this
  rw [hf] at this; cases this

/-- the error of an object -/
def ObjD.chk (o : ObjD) : Int := if (o.headB && framB o.slots o.cells o.stacks) = false then 3 else if o.slots.length < o.params.length then 20 else if agreeTo o.params o.slots o.params.length = false then 20 else (pchk o.code o.refs).2

set_option maxRecDepth 100000 in
set_option maxHeartbeats 4000000 in
theorem check_any (o : ObjV) (w : World) (ht : TabOk w) (h : ObjAt w o) : Calls Tryd.prog 12 #[o.val] w fun e w' => e = .returned (.int .i64 o.d.chk) ∧ Grow w w' := by
  have HT := Lib.hid ht
  have HO := Lib.hid h
  obtain ⟨pa, pcap, hpv, hpcap, hplen⟩ := h.params.form
  obtain ⟨sa, scap, hsv, hscap, hslen⟩ := h.slots.form
  obtain ⟨ca, ccap, hcv, hccap, hclen⟩ := h.code.form
  obtain ⟨ra, rcap, hrv, hrcap, hrlen⟩ := h.refs.form
  clear ht h
  obtain ⟨⟨s, ps, ss, cl, st, co, rf⟩, pv, sv, cv, rv⟩ := o
  simp only at hpv hsv hcv hrv hplen hslen hclen hrlen hpcap hscap hccap hrcap
  subst hpv hsv hcv hrv
  have HCH := Lib.hid (show ObjD.chk ⟨s, ps, ss, cl, st, co, rf⟩ = (if (ObjD.headB ⟨s, ps, ss, cl, st, co, rf⟩ && framB ss cl st) = false then 3 else if ss.length < ps.length then 20 else if agreeTo ps ss ps.length = false then 20 else (pchk co rf).2) from rfl)
  have hg0 : Grow w (w.alloc (.cells #[.string s, .slice pa ps.length pcap, .slice sa ss.length scap, .int .i64 cl, .int .i64 st, .slice ca co.length ccap, .slice ra rf.length rcap] 31)) := (Mv.refl _ _).alloc _
  have hbox := heap_alloc_new w (.cells #[.string s, .slice pa ps.length pcap, .slice sa ss.length scap, .int .i64 cl, .int .i64 st, .slice ca co.length ccap, .slice ra rf.length rcap] 31)
  have HH := Lib.hid (headed_any _ _ (HO.out.later hg0))
  have HG0 := Lib.hid hg0
  have HBOX := Lib.hid hbox
  clear hg0 hbox
  go_enter Tryd.func12, Tryd.ntmps12
  go_wp2_with fail
  have hsz1 : w.heap.size < (w.alloc (.cells #[.string s, .slice pa ps.length pcap, .slice sa ss.length scap, .int .i64 cl, .int .i64 st, .slice ca co.length ccap, .slice ra rf.length rcap] 31)).heap.size := by simp
  generalize w.alloc (.cells #[.string s, .slice pa ps.length pcap, .slice sa ss.length scap, .int .i64 cl, .int .i64 st, .slice ca co.length ccap, .slice ra rf.length rcap] 31) = w1 at *
  refine HH.out.mono ?_
  rintro e w2 ⟨rfl, hm2⟩
  have hbr : w2.heap[w.heap.size]? = some (.cells #[.string s, .slice pa ps.length pcap, .slice sa ss.length scap, .int .i64 cl, .int .i64 st, .slice ca co.length ccap, .slice ra rf.length rcap] 31 (0, 0)) := by
    rw [hm2.block _ hsz1 (fun h => h)]; exact HBOX.out
  have hsz2 : w.heap.size < w2.heap.size := by have := hm2.size; omega
  have HG2 := Lib.hid (Mv.trans HG0.out hm2 (fun _ e => e.elim))
  have HB2 := Lib.hid hbr
  generalize ObjD.headB ⟨s, ps, ss, cl, st, co, rf⟩ = hq at *
  cases hq
  · clear hm2 hbr
    go_wp2_with fail
    go_ret
    exact ⟨ret_int (by rw [HCH.out]; simp), HG2.out⟩
  have b2 : w2.cell? ⟨w.heap.size, 2, none⟩ = some (.slice sa ss.length scap) := by simp [World.cell?, hbr]
  have b3 : w2.cell? ⟨w.heap.size, 3, none⟩ = some (.int .i64 cl) := by simp [World.cell?, hbr]
  have b4 : w2.cell? ⟨w.heap.size, 4, none⟩ = some (.int .i64 st) := by simp [World.cell?, hbr]
  have HFR := Lib.hid (framed_any _ ss cl st w2 (HO.out.later HG2.out).slots HO.out.ok.few (fun x hx => (HO.out.ok.slots x hx).1))
  clear hm2 hbr
  go_wp2_with fail
  refine HFR.out.mono ?_
  rintro e w3 ⟨rfl, hm3⟩
  have hbr : w3.heap[w.heap.size]? = some (.cells #[.string s, .slice pa ps.length pcap, .slice sa ss.length scap, .int .i64 cl, .int .i64 st, .slice ca co.length ccap, .slice ra rf.length rcap] 31 (0, 0)) := by
    rw [hm3.block _ hsz2 (fun h => h)]; exact HB2.out
  have hsz3 : w.heap.size < w3.heap.size := by have := hm3.size; omega
  have HG3 := Lib.hid (Mv.trans HG2.out hm3 (fun _ e => e.elim))
  have HB3 := Lib.hid hbr
  generalize framB ss cl st = fq at *
  cases fq
  · clear hm3 hbr b2 b3 b4
    go_wp2_with fail
    go_ret
    exact ⟨ret_int (by rw [HCH.out]; simp), HG3.out⟩
  have d1 : w3.cell? ⟨w.heap.size, 1, none⟩ = some (.slice pa ps.length pcap) := by simp [World.cell?, hbr]
  have d2 : w3.cell? ⟨w.heap.size, 2, none⟩ = some (.slice sa ss.length scap) := by simp [World.cell?, hbr]
  clear hm3 hbr b2 b3 b4
  by_cases hsl : ss.length < ps.length
  · go_wp2_with fail
    go_ret
    exact ⟨ret_int (by rw [HCH.out]; simp [hsl]), HG3.out⟩
  have HCH2 := Lib.hid (show ObjD.chk ⟨s, ps, ss, cl, st, co, rf⟩ = (if agreeTo ps ss ps.length = false then 20 else (pchk co rf).2) from by rw [HCH.out, if_neg (by simp), if_neg hsl])
  go_wp2_with fail
  clear d1 d2
  go_loopw [28] (fun t wr => ∃ k : Nat, t = .int .i64 k ∧ k ≤ ps.length ∧ Grow w3 wr ∧ agreeTo ps ss k = true) (fun t _ => ps.length - (intOf t).toNat)
  case atStart => exact ⟨0, rfl, Nat.zero_le _, Mv.refl _ _, rfl⟩
  obtain ⟨k, rfl, hk, hg, hag⟩ := hrel
  have HG := Lib.hid hg
  have HAG := Lib.hid hag
  have HGR := Lib.hid (Mv.trans HG3.out hg (fun _ e => e.elim))
  have hbr : wr.heap[w.heap.size]? = some (.cells #[.string s, .slice pa ps.length pcap, .slice sa ss.length scap, .int .i64 cl, .int .i64 st, .slice ca co.length ccap, .slice ra rf.length rcap] 31 (0, 0)) := by
    rw [hg.block _ hsz3 (fun h => h)]; exact HB3.out
  have hszr : w.heap.size < wr.heap.size := by have := hg.size; omega
  clear hag hg
  by_cases hlt : k < ps.length
  · have hks : k < ss.length := by omega
    obtain ⟨b, off, cap', e, _, hcc⟩ := (HO.out.params.later HGR.out).at hlt
    simp only [Value.slice.injEq, true_and] at e
    obtain ⟨rfl, rfl⟩ := e
    have c0 := hcc 0 _ rfl
    have c1 := hcc 1 _ rfl
    have c2 := hcc 2 _ rfl
    simp only [Nat.add_zero] at c0
    obtain ⟨b', off', cap'', e, _, hcc'⟩ := (HO.out.slots.later HGR.out).at hks
    simp only [Value.slice.injEq, true_and] at e
    obtain ⟨rfl, rfl⟩ := e
    have e0 := hcc' 0 _ rfl
    have e1 := hcc' 1 _ rfl
    have e2 := hcc' 2 _ rfl
    have e3 := hcc' 3 _ rfl
    simp only [Nat.add_zero] at e0
    have hbl : b < wr.heap.size := World.block_lt_of_cell? wr _ c0
    have hbl' : b' < wr.heap.size := World.block_lt_of_cell? wr _ e0
    have d2 : wr.cell? ⟨w.heap.size, 2, none⟩ = some (.slice (some ⟨b', off', none⟩) ss.length scap) := by simp [World.cell?, hbr]
    have HAS := Lib.hid (agreeTo_succ ps ss k hlt hks)
    have HAF := Lib.hid (agreeTo_false ps ss k ps.length hlt hlt hks)
    simp only at c0 c1 c2 e0 e1 e2 e3
    generalize hvx : ps[k] = v at *
    generalize hsx : ss[k] = sl at *
    obtain ⟨vs, vk, vl⟩ := v
    obtain ⟨xs, xk, xl, xt⟩ := sl
    simp only at c0 c1 c2 e0 e1 e2 e3
    have HBE := Lib.hid (beq_bytes xs vs)
    have HAB := Lib.hid (show agreeB ⟨vs, vk, vl⟩ ⟨xs, xk, xl, xt⟩ = ((xs == vs) && ((xk == vk) && (xl == vl))) from rfl)
    clear hcc hcc' hvx hsx hbr
    by_cases n1 : (xs.toList == vs.toList) = true
    · have m1 : (xs.toList != vs.toList) = false := by simp [bne, n1]
      by_cases n2 : xk = vk
      · have m2 : (xk != vk) = false := by simp [n2]
        by_cases n3 : xl = vl
        · have m3 : (xl != vl) = false := by simp [n3]
          have HOK := Lib.hid (show agreeTo ps ss (k + 1) = true from by rw [HAS.out, HAG.out, HAB.out, ← HBE.out, n1]; simp [n2, n3])
          clear n2 n3
          go_wp2_with fail
          go_roundw
          case rel => exact ⟨k + 1, by go_num, by omega, (HG.out.alloc _).alloc _, HOK.out⟩
          case measure => simp [intOf]; omega
        · have m3 : (xl != vl) = true := by simpa using n3
          have HF := Lib.hid (show ObjD.chk ⟨s, ps, ss, cl, st, co, rf⟩ = 20 from by rw [HCH2.out, if_pos (HAF.out (by rw [HAB.out]; simp [n3]))])
          clear n2 n3
          go_wp2_with fail
          go_ret
          exact ⟨ret_int (by rw [HF.out]), (HGR.out.alloc _).alloc _⟩
      · have m2 : (xk != vk) = true := by simpa using n2
        have HF := Lib.hid (show ObjD.chk ⟨s, ps, ss, cl, st, co, rf⟩ = 20 from by rw [HCH2.out, if_pos (HAF.out (by rw [HAB.out]; simp [n2]))])
        clear n2
        go_wp2_with fail
        go_ret
        exact ⟨ret_int (by rw [HF.out]), (HGR.out.alloc _).alloc _⟩
    · have n1' : (xs.toList == vs.toList) = false := by simpa using n1
      have m1 : (xs.toList != vs.toList) = true := by simp [bne, n1']
      have HF := Lib.hid (show ObjD.chk ⟨s, ps, ss, cl, st, co, rf⟩ = 20 from by rw [HCH2.out, if_pos (HAF.out (by rw [HAB.out, ← HBE.out, n1']; rfl))])
      clear n1
      go_wp2_with fail
      go_ret
      exact ⟨ret_int (by rw [HF.out]), (HGR.out.alloc _).alloc _⟩
  · obtain rfl : k = ps.length := by omega
    have d5 : wr.cell? ⟨w.heap.size, 5, none⟩ = some (.slice ca co.length ccap) := by simp [World.cell?, hbr]
    have d6 : wr.cell? ⟨w.heap.size, 6, none⟩ = some (.slice ra rf.length rcap) := by simp [World.cell?, hbr]
    have HF := Lib.hid (show ObjD.chk ⟨s, ps, ss, cl, st, co, rf⟩ = (pchk co rf).2 from by rw [HCH2.out, HAG.out, if_neg (by simp)])
    have HPC := Lib.hid (pcheck_any _ _ co rf wr (HT.out.later HGR.out) (HO.out.code.later HGR.out) (HO.out.refs.later HGR.out) (fun x hx => (HO.out.ok.code x hx).1))
    clear hbr
    go_wp2_with fail
    refine HPC.out.mono ?_
    rintro e w5 ⟨rfl, hm5⟩
    have HGR5 := Lib.hid (Mv.trans HGR.out hm5 (fun _ e => e.elim))
    clear hm5
    go_wp2_with fail
    go_ret
    exact ⟨ret_int (by rw [HF.out]), HGR5.out⟩

end Go.Proofs.YtaabkaiifplhgaaDoor
