/- stmtgen.Check. -/
import Derived.Test.YtaabkaiifplhgaaDoorLPart
namespace Go.Proofs.YtaabkaiifplhgaaDoor
set_option linter.unusedSimpArgs false
set_option linter.unusedVariables false
open Go.RowKit Go.Instr

/-- the indexes that references name -/
def listedTo (refs : List RefD) (k : Nat) : List (Int × Value) := (refs.take k).foldl (fun m r => mset r.at' (.bool true) m) []
def listedB (refs : List RefD) (i : Int) : Bool := (mget (listedTo refs refs.length) i).isSome

theorem listedTo_succ (refs : List RefD) (k : Nat) (h : k < refs.length) : listedTo refs (k + 1) = mset refs[k].at' (.bool true) (listedTo refs k) := by
  unfold listedTo
  rw [List.take_succ_eq_append_getElem h, List.foldl_append]
  rfl
theorem listed_true (refs : List RefD) : ∀ (k : Nat), k ≤ refs.length → ∀ p ∈ listedTo refs k, p.2 = .bool true := by
  intro k
  induction k with
  | zero => intro _ p hp; simp [listedTo] at hp
  | succ k ih => intro hk p hp; rw [listedTo_succ refs k (by omega)] at hp; exact mset_true _ _ (ih (by omega)) p hp

def pchkEnd (code : List Ins) (refs : List RefD) (next : Nat) : Int × Int := if next < refs.length then ((code.length : Int), 6) else (-1, 0)
/-- the first wrong instruction, and the error -/
def pchkFrom (code : List Ins) (refs : List RefD) : Nat → Nat → Nat → Int × Int
  | 0, _, next => pchkEnd code refs next
  | f + 1, i, next => match code[i]? with
    | none => pchkEnd code refs next
    | some x =>
      if x.validB = false ∨ x.op = 32 ∨ x.op = 33 ∨ x.op = 34 then ((i : Int), 3)
      else if movB x.op = true ∧ partB code i = false then ((i : Int), 23)
      else if x.op ≠ 30 ∧ x.op ≠ 31 then (if listedB refs i then ((i : Int), 6) else pchkFrom code refs f (i + 1) next)
      else if x.a ≠ 0 ∨ next = refs.length ∨ (refs[next]?.map RefD.at') ≠ some (i : Int) then ((i : Int), 6) else pchkFrom code refs f (i + 1) (next + 1)
def pchk (code : List Ins) (refs : List RefD) : Int × Int := pchkFrom code refs code.length 0 0

theorem mov_not (op : Int) (h : movB op = true) : op ≠ 30 ∧ op ≠ 31 := by
  constructor
  · rintro rfl; revert h; decide
  · rintro rfl; revert h; decide

theorem TabOk.keep {O : Nat → Prop} {w w' : World} (h : TabOk w) (hm : Mv O w w') (hO : ∀ b, O b → w.heap.size ≤ b) : TabOk w' := h.later (hm.mono fun x hx => .inr (hO x hx))

theorem Tryd.intLaw : KeyLaw Tryd.prog 3 (Value.int .i64) (.int .i64) := int_law Tryd.underlying3

set_option maxRecDepth 100000 in
set_option maxHeartbeats 3200000 in
theorem pcheck_any (cv rv : Value) (code : List Ins) (refs : List RefD) (w : World) (ht : TabOk w) (hc : RowAt 5 Ins.cells w cv code) (hr : RowAt 2 RefD.cells w rv refs) (hop : ∀ x ∈ code, 0 ≤ x.op ∧ x.op ≤ 255) :
    Calls Tryd.prog 25 #[.agg #[cv, rv]] w fun e w' => e = .returned (.tuple #[.int .i64 (pchk code refs).1, .int .i64 (pchk code refs).2]) ∧ Grow w w' := by
  obtain ⟨ca, ccap, rfl, hccap, hclen⟩ := hc.form
  obtain ⟨ra, rcap, rfl, hrcap, hrlen⟩ := hr.form
  have hmm := @run_makeMap Tryd.prog
  have HT := Lib.hid ht
  have HC := Lib.hid hc
  have HR := Lib.hid hr
  have HOP := Lib.hid hop
  have hmap0 : MapAt (Value.int .i64) ((w.alloc (.cells #[.slice ca code.length ccap, .slice ra refs.length rcap] 29)).alloc (.map #[] 0)) (w.heap.size + 1) [] := by
    have := MapAt.new (Value.int .i64) (w.alloc (.cells #[.slice ca code.length ccap, .slice ra refs.length rcap] 29))
    simpa using this
  have hbox0 : ((w.alloc (.cells #[.slice ca code.length ccap, .slice ra refs.length rcap] 29)).alloc (.map #[] 0)).heap[w.heap.size]? = some (.cells #[.slice ca code.length ccap, .slice ra refs.length rcap] 29 (0, 0)) := by
    rw [Below.heap_alloc _ _ _ (by simp)]; exact heap_alloc_new w _
  have hgw : Mv (fun b => b = w.heap.size + 1) w ((w.alloc (.cells #[.slice ca code.length ccap, .slice ra refs.length rcap] 29)).alloc (.map #[] 0)) := ((Mv.refl _ _).alloc _).alloc _
  have HMAP := Lib.hid hmap0
  have HBOX := Lib.hid hbox0
  have HGW := Lib.hid hgw
  clear ht hc hr hop hmap0 hbox0 hgw
  go_enter Tryd.func25, Tryd.ntmps25
  go_wp2_with fail
  have hsz1 : w.heap.size + 1 < ((w.alloc (.cells #[.slice ca code.length ccap, .slice ra refs.length rcap] 29)).alloc (.map #[] 0)).heap.size := by simp
  generalize (w.alloc (.cells #[.slice ca code.length ccap, .slice ra refs.length rcap] 29)).alloc (.map #[] 0) = w1 at *
  go_loopw [14] (fun t wr => ∃ k : Nat, t = .int .i64 k ∧ k ≤ refs.length ∧ Mv (fun b => b = w.heap.size + 1) w1 wr ∧ MapAt (Value.int .i64) wr (w.heap.size + 1) (listedTo refs k)) (fun t _ => refs.length - (intOf t).toNat)
  case atStart => exact ⟨0, rfl, Nat.zero_le _, Mv.refl _ _, HMAP.out⟩
  obtain ⟨k, rfl, hk, hg, hmp⟩ := hrel
  have hgw2 := HGW.out.trans hg (fun x e => .inl e)
  have hgr : Grow w wr := hgw2.mono (fun x e => .inr (by omega))
  have hszr := hg.size
  have hbxr : wr.heap[w.heap.size]? = some (.cells #[.slice ca code.length ccap, .slice ra refs.length rcap] 29 (0, 0)) := by
    rw [hg.block _ (by omega) (by omega)]; exact HBOX.out
  have HG := Lib.hid hg
  have HGR := Lib.hid hgr
  have HMP := Lib.hid hmp
  have HBX := Lib.hid hbxr
  by_cases hlt : k < refs.length
  · obtain ⟨b, off, cap', e, _, hcc⟩ := (HR.out.later hgr).at hlt
    simp only [Value.slice.injEq, true_and] at e
    obtain ⟨rfl, rfl⟩ := e
    have c0 := hcc 0 _ rfl
    have c1 := hcc 1 _ rfl
    simp only [Nat.add_zero] at c0
    have hbl : b < wr.heap.size := World.block_lt_of_cell? wr _ c0
    have HS := Lib.hid (listedTo_succ refs k hlt)
    generalize hx : refs[k] = x at *
    obtain ⟨xa, xs⟩ := x
    simp only at c0 c1
    obtain ⟨w2, hup, hmp2, hmv2⟩ := run_set Tryd.intLaw Tryd.underlying92 xa (.bool true) (hmp.keep (w' := wr.alloc (.cells #[.int .i64 xa, .string xs] 66)) (Below.heap_alloc _ _ _ hmp.lt))
    have HMP2 := Lib.hid hmp2
    have HMV2 := Lib.hid hmv2
    clear hcc hx hmp hmp2 hmv2 hg hgr hgw2 hbxr
    go_wp2_with fail
    go_roundw
    case rel => exact ⟨k + 1, by go_num, by omega, (HG.out.alloc _).trans HMV2.out (fun x e => .inl e), by rw [HS.out]; exact HMP2.out⟩
    case measure => simp [intOf]; omega
  · obtain rfl : k = refs.length := by omega
    have p0 : wr.cell? ⟨w.heap.size, 0, none⟩ = some (.slice ca code.length ccap) := by simp [World.cell?, hbxr]
    have hbl0 : w.heap.size < wr.heap.size := by omega
    clear hmp hg hgr hgw2 hbxr
    go_wp2_with fail
    clear p0
    obtain ⟨wo, rfl⟩ : ∃ wo : World, wo = wr := ⟨_, rfl⟩
    go_loopw [7, 25] (fun nx t wr => ∃ i next : Nat, nx = .int .i64 next ∧ t = .int .i64 i ∧ i ≤ code.length ∧ next ≤ refs.length ∧ Mv (fun b => b = w.heap.size + 1) w1 wr ∧ MapAt (Value.int .i64) wr (w.heap.size + 1) (listedTo refs refs.length) ∧ pchk code refs = pchkFrom code refs (code.length - i) i next) (fun _ t _ => code.length - (intOf t).toNat)
    case atStart => exact ⟨0, 0, rfl, rfl, Nat.zero_le _, Nat.zero_le _, HG.out, HMP.out, rfl⟩
    obtain ⟨i, next, rfl, rfl, hi, hnx, hg, hmp, hpc⟩ := hrel
    have hgw2 := HGW.out.trans hg (fun x e => .inl e)
    have hgr : Grow w wr := hgw2.mono (fun x e => .inr (by omega))
    have hszr2 := hg.size
    have hbxr : wr.heap[w.heap.size]? = some (.cells #[.slice ca code.length ccap, .slice ra refs.length rcap] 29 (0, 0)) := by
      rw [hg.block _ (by omega) (by omega)]; exact HBOX.out
    have HPC := Lib.hid hpc
    clear hpc
    by_cases hlt : i < code.length
    · obtain ⟨b, off, cap', e, _, _⟩ := (HC.out.later hgr).at hlt
      simp only [Value.slice.injEq, true_and] at e
      obtain ⟨rfl, rfl⟩ := e
      obtain ⟨⟨c0, c1, c2⟩, c3, c4, hbl⟩ := (HC.out.later hgr).ins hlt
      have hob := HOP.out code[i] (List.getElem_mem hlt)
      have HST := Lib.hid (show pchkFrom code refs (code.length - i) i next = (if code[i].validB = false ∨ code[i].op = 32 ∨ code[i].op = 33 ∨ code[i].op = 34 then ((i : Int), 3)
        else if movB code[i].op = true ∧ partB code i = false then ((i : Int), 23)
        else if code[i].op ≠ 30 ∧ code[i].op ≠ 31 then (if listedB refs i then ((i : Int), 6) else pchkFrom code refs (code.length - (i + 1)) (i + 1) next)
        else if code[i].a ≠ 0 ∨ next = refs.length ∨ (refs[next]?.map RefD.at') ≠ some (i : Int) then ((i : Int), 6) else pchkFrom code refs (code.length - (i + 1)) (i + 1) (next + 1)) from by
          rw [show code.length - i = (code.length - (i + 1)) + 1 by omega]
          simp only [pchkFrom, List.getElem?_eq_getElem hlt])
      have HV := Lib.hid (fun w ht => valid_any code[i] w ht hob.1 hob.2)
      have HTB := Lib.hid (HT.out.later (hgr.alloc (.cells #[.int .u8 code[i].op, .int .i64 code[i].a, .int .i64 code[i].b, .int .i64 code[i].c, .int .i64 code[i].d] 57)))
      generalize hx : code[i] = x at *
      obtain ⟨xo, xa, xb, xc, xd⟩ := x
      simp only at c0 c1 c2 c3 c4 hob
      have HGG := Lib.hid hg
      have HGRR := Lib.hid hgr
      have HMPP := Lib.hid hmp
      have hbl0r : w.heap.size < wr.heap.size := by omega
      have HBXR := Lib.hid hbxr
      clear hx hg hgr hgw2 hmp hbxr
      go_wp2_with fail
      refine (HV.out _ HTB.out).mono ?_
      rintro e w2 ⟨rfl, hm2⟩
      obtain ⟨hc2, hf2⟩ := gcell hm2
      have hs2 := hm2.size
      simp only [World.size_alloc] at hs2
      -- what is known behind Valid
      have hg2 : Mv (fun b => b = w.heap.size + 1) w1 w2 := (HGG.out.alloc _).trans hm2 (fun _ e => e.elim)
      have hb2 : w2.heap[w.heap.size]? = some (.cells #[.slice (some ⟨b, off, none⟩) code.length ccap, .slice ra refs.length rcap] 29 (0, 0)) := by
        rw [hm2.block _ (by simp; omega) (fun h => h), Below.heap_alloc _ _ _ hbl0r]; exact HBXR.out
      have p0 : w2.cell? ⟨w.heap.size, 0, none⟩ = some (.slice (some ⟨b, off, none⟩) code.length ccap) := by simp [World.cell?, hb2]
      have p1 : w2.cell? ⟨w.heap.size, 1, none⟩ = some (.slice ra refs.length rcap) := by simp [World.cell?, hb2]
      have x0 : w2.cell? ⟨wr.heap.size, 0, none⟩ = some (.int .u8 xo) := by rw [hc2 _ _ (by simp), new_cell]; rfl
      have x1 : w2.cell? ⟨wr.heap.size, 1, none⟩ = some (.int .i64 xa) := by rw [hc2 _ _ (by simp), new_cell]; rfl
      have hgr2 : Grow w w2 := Mv.trans (HGRR.out.alloc _) hm2 (fun _ e => e.elim)
      have hmp2 : MapAt (Value.int .i64) w2 (w.heap.size + 1) (listedTo refs refs.length) := HMPP.out.keep (by rw [hm2.block _ (by simp; omega) (fun h => h), Below.heap_alloc _ _ _ (by omega)])
      have HG2 := Lib.hid hg2
      have HGR2 := Lib.hid hgr2
      have HMP2 := Lib.hid hmp2
      have hX2 : wr.heap.size < w2.heap.size := by omega
      generalize Ins.validB ⟨xo, xa, xb, xc, xd⟩ = vq at *
      clear hm2 hc2 hf2 hg2 hb2 hgr2 hmp2 c0 c1 c2 c3 c4
      by_cases hbad : vq = false ∨ xo = 32 ∨ xo = 33 ∨ xo = 34
      · have HFIN := Lib.hid (show pchk code refs = ((i : Int), 3) from by rw [HPC.out, HST.out, if_pos hbad])
        cases vq
        · go_wp2_with fail
          go_ret2
          exact ⟨by rw [HFIN.out]; rfl, HGR2.out⟩
        · rcases hbad with h | h | h | h
          · cases h
          all_goals
            subst h
            go_wp2_with fail
            go_ret2
            exact ⟨by rw [HFIN.out]; rfl, HGR2.out⟩
      · have HB0 := Lib.hid hbad
        cases vq
        · exact (hbad (.inl rfl)).elim
        have n32 : (xo == 32) = false := by simpa using fun e => hbad (.inr (.inl e))
        have n33 : (xo == 33) = false := by simpa using fun e => hbad (.inr (.inr (.inl e)))
        have n34 : (xo == 34) = false := by simpa using fun e => hbad (.inr (.inr (.inr e)))
        clear hbad
        go_wp2_with fail
        refine (moves_any xo _).mono ?_
        rintro e w' ⟨rfl, rfl⟩
        have HMQ := Lib.hid (mov_not xo)
        generalize hmq : movB xo = mq at *
        cases mq
        · have HNM := Lib.hid (show ¬ (false = true ∧ partB code i = false) from by simp)
          by_cases hcall : xo ≠ 30 ∧ xo ≠ 31
          · have HNC := Lib.hid hcall
            have n30 : (xo != 30) = true := by simpa using hcall.1
            have n31 : (xo != 31) = true := by simpa using hcall.2
            clear hcall HMQ
            have hl := run_get Tryd.intLaw Tryd.underlying92 (i : Int) (.bool false) Tryd.zeroBool HMP2.out
            have hl2 : (lookup 92 (.map (some (w.heap.size + 1))) (.int .i64 (i : Int)) false).run Tryd.prog w2 = .ok (.bool (listedB refs i)) w2 := by
              rw [hl]; exact congrArg (fun v => Result.ok v w2) (mget_true (i : Int) (listedTo refs refs.length) 0 (listed_true refs refs.length (Nat.le_refl _)))
            have HLI := Lib.hid (show listedB refs i = listedB refs i from rfl)
            clear hl
            generalize hq : listedB refs (i : Int) = lq at *
            cases lq
            · go_wp2_with fail
              go_roundw
              case rel => exact ⟨i + 1, next, rfl, by go_num, by omega, hnx, HG2.out, HMP2.out, by rw [HPC.out, HST.out, if_neg HB0.out, if_neg (by simp), if_pos HNC.out, if_neg (by simp)]⟩
              case measure => simp [intOf]; omega
            · have HFIN := Lib.hid (show pchk code refs = ((i : Int), 6) from by rw [HPC.out, HST.out, if_neg HB0.out, if_neg (by simp), if_pos HNC.out, if_pos (by simp)])
              go_wp2_with fail
              go_ret2
              exact ⟨by rw [HFIN.out]; rfl, HGR2.out⟩
          · have HNC := Lib.hid hcall
            have HCL := Lib.hid (show pchk code refs = (if xa ≠ 0 ∨ next = refs.length ∨ (refs[next]?.map RefD.at') ≠ some (i : Int) then ((i : Int), 6) else pchkFrom code refs (code.length - (i + 1)) (i + 1) (next + 1)) from by
              rw [HPC.out, HST.out, if_neg HB0.out, if_neg (by simp), if_neg hcall])
            have hop3 : xo = 30 ∨ xo = 31 := by omega
            clear hcall HMQ hmq n32 n33 n34
            by_cases ha : xa = 0
            · subst ha
              by_cases hne : next = refs.length
              · have HFIN := Lib.hid (show pchk code refs = ((i : Int), 6) from by rw [HCL.out, if_pos (.inr (.inl hne))])
                have hnb : ((next : Int) == (refs.length : Int)) = true := by simp [hne]
                have HNE := Lib.hid hne
                clear hne
                rcases hop3 with rfl | rfl
                all_goals
                  go_wp2_with fail
                  go_ret2
                  exact ⟨by rw [HFIN.out]; rfl, HGR2.out⟩
              · have hnl : next < refs.length := by omega
                have hnb : ((next : Int) == (refs.length : Int)) = false := by simpa using fun e => hne (by omega)
                obtain ⟨rb, roff, rcap', e, _, hcc⟩ := (HR.out.later HGR2.out).at hnl
                simp only [Value.slice.injEq, true_and] at e
                obtain ⟨rfl, rfl⟩ := e
                have r0 := hcc 0 _ rfl
                simp only [Nat.add_zero] at r0
                have hrbl : rb < w2.heap.size := World.block_lt_of_cell? w2 _ r0
                have hgt : (refs[next]?.map RefD.at') = some refs[next].at' := by rw [List.getElem?_eq_getElem hnl]; rfl
                rw [hgt] at HCL
                generalize refs[next].at' = ra at *
                clear hcc hgt hne
                by_cases hra : ra = i
                · have hrb : (ra != (i : Int)) = false := by simp [hra]
                  have HFIN := Lib.hid (show pchk code refs = pchkFrom code refs (code.length - (i + 1)) (i + 1) (next + 1) from by rw [HCL.out, if_neg (by rw [hra]; simp; omega)])
                  clear hra
                  rcases hop3 with rfl | rfl
                  all_goals
                    go_wp2_with fail
                    go_roundw
                    case rel => exact ⟨i + 1, next + 1, by go_num, by go_num, by omega, by omega, HG2.out, HMP2.out, HFIN.out⟩
                    case measure => simp [intOf]; omega
                · have hrb : (ra != (i : Int)) = true := by simpa using hra
                  have HFIN := Lib.hid (show pchk code refs = ((i : Int), 6) from by rw [HCL.out, if_pos (.inr (.inr (by simpa using hra)))])
                  clear hra
                  rcases hop3 with rfl | rfl
                  all_goals
                    go_wp2_with fail
                    go_ret2
                    exact ⟨by rw [HFIN.out]; rfl, HGR2.out⟩
            · have hab : (xa != 0) = true := by simpa using ha
              have HFIN := Lib.hid (show pchk code refs = ((i : Int), 6) from by rw [HCL.out, if_pos (.inl ha)])
              clear ha
              rcases hop3 with rfl | rfl
              all_goals
                go_wp2_with fail
                go_ret2
                exact ⟨by rw [HFIN.out]; rfl, HGR2.out⟩
        · have HPART := Lib.hid (partners_any _ code i w2 (HC.out.later HGR2.out) hlt)
          obtain ⟨m30, m31⟩ := HMQ.out rfl
          have n30 : (xo != 30) = true := by simpa using m30
          have n31 : (xo != 31) = true := by simpa using m31
          have HNC := Lib.hid (show xo ≠ 30 ∧ xo ≠ 31 from ⟨m30, m31⟩)
          clear m30 m31 HMQ
          go_wp2_with fail
          refine HPART.out.mono ?_
          rintro e w3 ⟨rfl, hm3⟩
          have hg3 := HG2.out.trans hm3 (fun _ e => e.elim)
          have hgr3 := Mv.trans HGR2.out hm3 (fun _ e => e.elim)
          have hs3 := hm3.size
          have hmp3 : MapAt (Value.int .i64) w3 (w.heap.size + 1) (listedTo refs refs.length) := HMP2.out.keep (hm3.block _ (by omega) (fun h => h))
          have y0 : w3.cell? ⟨wr.heap.size, 0, none⟩ = some (.int .u8 xo) := by rw [(gcell hm3).1 _ _ hX2]; exact x0
          have HG3 := Lib.hid hg3
          have HGR3 := Lib.hid hgr3
          have HMP3 := Lib.hid hmp3
          have hX3 : wr.heap.size < w3.heap.size := by omega
          clear hm3 hg3 hgr3 hmp3 x0 x1 p0 p1
          generalize hpq : partB code i = pq at *
          cases pq
          · have HFIN := Lib.hid (show pchk code refs = ((i : Int), 23) from by rw [HPC.out, HST.out, if_neg HB0.out, if_pos (by simp)])
            go_wp2_with fail
            go_ret2
            exact ⟨by rw [HFIN.out]; rfl, HGR3.out⟩
          · have HNM := Lib.hid (show ¬ (true = true ∧ true = false) from by simp)
            have hl := run_get Tryd.intLaw Tryd.underlying92 (i : Int) (.bool false) Tryd.zeroBool HMP3.out
            have hl2 : (lookup 92 (.map (some (w.heap.size + 1))) (.int .i64 (i : Int)) false).run Tryd.prog w3 = .ok (.bool (listedB refs i)) w3 := by
              rw [hl]; exact congrArg (fun v => Result.ok v w3) (mget_true (i : Int) (listedTo refs refs.length) 0 (listed_true refs refs.length (Nat.le_refl _)))
            have HLI := Lib.hid (show listedB refs i = listedB refs i from rfl)
            clear hl
            generalize hq : listedB refs (i : Int) = lq at *
            cases lq
            · go_wp2_with fail
              go_roundw
              case rel => exact ⟨i + 1, next, rfl, by go_num, by omega, hnx, HG3.out, HMP3.out, by rw [HPC.out, HST.out, if_neg HB0.out, if_neg (by simp), if_pos HNC.out, if_neg (by simp)]⟩
              case measure => simp [intOf]; omega
            · have HFIN := Lib.hid (show pchk code refs = ((i : Int), 6) from by rw [HPC.out, HST.out, if_neg HB0.out, if_neg (by simp), if_pos HNC.out, if_pos (by simp)])
              go_wp2_with fail
              go_ret2
              exact ⟨by rw [HFIN.out]; rfl, HGR3.out⟩
    · obtain rfl : i = code.length := by omega
      have p0 : wr.cell? ⟨w.heap.size, 0, none⟩ = some (.slice ca code.length ccap) := by simp [World.cell?, hbxr]
      have p1 : wr.cell? ⟨w.heap.size, 1, none⟩ = some (.slice ra refs.length rcap) := by simp [World.cell?, hbxr]
      have HGRR := Lib.hid hgr
      have HFIN := Lib.hid (show pchk code refs = pchkEnd code refs next from by rw [HPC.out, Nat.sub_self]; rfl)
      clear hmp hg hgr hgw2 hbxr
      by_cases hnl : next < refs.length
      · have HF2 := Lib.hid (show pchk code refs = ((code.length : Int), 6) from by rw [HFIN.out, pchkEnd, if_pos hnl])
        go_wp2_with fail
        go_ret2
        exact ⟨by rw [HF2.out]; rfl, HGRR.out⟩
      · have HF2 := Lib.hid (show pchk code refs = (-1, 0) from by rw [HFIN.out, pchkEnd, if_neg hnl])
        go_wp2_with fail
        go_ret2
        exact ⟨by rw [HF2.out]; rfl, HGRR.out⟩

end Go.Proofs.YtaabkaiifplhgaaDoor
