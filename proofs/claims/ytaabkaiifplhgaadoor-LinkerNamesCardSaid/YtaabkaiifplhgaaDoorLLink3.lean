/- linker.Link: the walk where nothing is wrong. -/
import Derived.Test.YtaabkaiifplhgaaDoorLLink2
namespace Go.Proofs.YtaabkaiifplhgaaDoor
set_option linter.unusedSimpArgs false
set_option linter.unusedVariables false
open Go.RowKit Go.Instr

attribute [local go_sem ↓] run_appOp

/-- the state of Link's first loop: wb is the world behind the making of the map at R -/
structure LkSt (R : Nat) (wb wr : World) (sv : Value) (m : List (ByteArray × Value)) (syms : List SymD) : Prop where
  mv : Mv (fun b => b = R) wb wr
  map : MapAt Value.string wr R m
  row : SymRow wr wb.heap.size sv syms

theorem LkSt.alloc {R : Nat} {wb wr : World} {sv : Value} {m : List (ByteArray × Value)} {syms : List SymD} (h : LkSt R wb wr sv m syms) (o : Obj) : LkSt R wb (wr.alloc o) sv m syms :=
  ⟨h.mv.alloc o, h.map.keep (Below.heap_alloc _ _ _ h.map.lt), h.row.alloc o⟩
theorem LkSt.upd {R : Nat} {wb wr w2 : World} {sv : Value} {m m2 : List (ByteArray × Value)} {syms : List SymD} (h : LkSt R wb wr sv m syms) (hR : R < wb.heap.size) (hm : MapAt Value.string w2 R m2) (hv : Mv (fun b => b = R) wr w2) : LkSt R wb w2 sv m2 syms :=
  ⟨h.mv.trans hv (fun x e => .inl e), hm, row_keep h.row hv (fun g hg e => by have := (h.row.lt g hg).1; omega)⟩
theorem LkSt.app {R : Nat} {wb wr w2 : World} {sv sv2 : Value} {m : List (ByteArray × Value)} {syms syms2 : List SymD} (h : LkSt R wb wr sv m syms) (hR : R < wb.heap.size) (h2 : SymRow w2 wb.heap.size sv2 syms2) (hv : Mv (fun b => sv.ownBlock = some b) wr w2) : LkSt R wb w2 sv2 m syms2 :=
  ⟨h.mv.trans hv (fun x e => .inr (h.row.lt x e).1), h.map.keep (hv.block R (Nat.lt_of_lt_of_le hR h.mv.size) (fun e => by have := (h.row.lt R e).1; omega)), h2⟩

theorem obj_cells {w : World} {X : Nat} {a b c d e f g : Value} (h : w.heap[X]? = some (.cells #[a, b, c, d, e, f, g] 31 (0, 0))) : (w.cell? ⟨X, 0, none⟩ = some a ∧ w.cell? ⟨X, 1, none⟩ = some b ∧ w.cell? ⟨X, 2, none⟩ = some c ∧ w.cell? ⟨X, 3, none⟩ = some d) ∧ w.cell? ⟨X, 4, none⟩ = some e ∧ w.cell? ⟨X, 5, none⟩ = some f ∧ w.cell? ⟨X, 6, none⟩ = some g := by
  simp [World.cell?, h]

theorem set12 {w : World} {X : Nat} {a b c : Value} {t : TypeId} (h : w.heap[X]? = some (.cells #[a, b, c] t (0, 0))) (q r : Value) :
    ((w.setCell ⟨X, 1, none⟩ q).setCell ⟨X, 2, none⟩ r).heap[X]? = some (.cells #[a, q, r] t (0, 0)) ∧ Mv (fun b => b = X) w ((w.setCell ⟨X, 1, none⟩ q).setCell ⟨X, 2, none⟩ r) := by
  constructor
  · have h2 := block_setCell (p := ⟨X, 1, none⟩) h rfl q
    have h3 := block_setCell (p := ⟨X, 2, none⟩) h2 rfl r
    simpa using h3
  · exact ((Mv.refl (fun b => b = X) w).setCell (p := ⟨X, 1, none⟩) (.inl rfl) q).setCell (p := ⟨X, 2, none⟩) (.inl rfl) r

/-- the state of Link's second loop: wc is the world behind the sizes, X the image's block -/
structure Lk2 (X : Nat) (w wc wr : World) (mem stk : Int) (code : List Ins) (cv : Value) : Prop where
  mv : Mv (fun b => b = X) wc wr
  img : wr.heap[X]? = some (.cells #[cv, .int .i64 mem, .int .i64 stk] 36 (0, 0))
  row : InsRow wr w.heap.size cv code
  new : ∀ g, cv.ownBlock = some g → wc.heap.size ≤ g

theorem Lk2.alloc {X : Nat} {w wc wr : World} {mem stk : Int} {code : List Ins} {cv : Value} (h : Lk2 X w wc wr mem stk code cv) (o : Obj) : Lk2 X w wc (wr.alloc o) mem stk code cv :=
  ⟨h.mv.alloc o, by rw [Below.heap_alloc _ _ _ (lt_of_block h.img)]; exact h.img, h.row.alloc o, h.new⟩
theorem Lk2.put {X : Nat} {w wc wr w2 : World} {mem stk : Int} {code code2 : List Ins} {cv v2 : Value} (h : Lk2 X w wc wr mem stk code cv) (hX : X < wc.heap.size) (hm : Mv (fun b => cv.ownBlock = some b) wr w2) (hrow : InsRow w2 w.heap.size v2 code2) (hn : ∀ g, v2.ownBlock = some g → cv.ownBlock = some g ∨ wr.heap.size ≤ g) :
    Lk2 X w wc (w2.setCell ⟨X, 0, none⟩ v2) mem stk code2 v2 := by
  have hXr : X < wr.heap.size := Nat.lt_of_lt_of_le hX h.mv.size
  have hnew : ∀ g, v2.ownBlock = some g → wc.heap.size ≤ g := fun g hg => by
    rcases hn g hg with h1 | h1
    · exact h.new g h1
    · exact Nat.le_trans h.mv.size h1
  have hi2 : w2.heap[X]? = some (.cells #[cv, .int .i64 mem, .int .i64 stk] 36 (0, 0)) := by
    rw [hm.block X hXr (fun e => by have := h.new X e; omega)]; exact h.img
  refine ⟨(h.mv.trans hm (fun x e => .inr (h.new x e))).setCell (p := ⟨X, 0, none⟩) (.inl rfl) v2, ?_, ?_, hnew⟩
  · have := block_setCell (p := ⟨X, 0, none⟩) hi2 rfl v2
    simpa using this
  · exact row_keep hrow ((Mv.refl (fun b => b = X) w2).setCell (p := ⟨X, 0, none⟩) (.inl rfl) v2) (fun g hg e => by have := hnew g hg; omega)

set_option maxRecDepth 100000 in
set_option maxHeartbeats 8000000 in
theorem link_ok (o : ObjV) (pv : Value) (procs : List ObjV) (w : World) (ht : TabOk w) (ho : ObjAt w o) (hp : ObjsAt w pv procs) (hfew : FewO o.d (procs.map (·.d))) (herr : linkErr o.d (procs.map (·.d)) = 0) :
    Calls Tryd.prog 11 #[o.val, pv] w (Linked w (linkD o.d (procs.map (·.d)))) := by
  obtain ⟨pa, pcap, rfl, hpcap, hplen⟩ := hp.row.form
  obtain ⟨y1, y2, y3, y4, y5, y6, y7, y8, ⟨hy1, hy2, hy3, hy4⟩, ⟨hccap, hclen⟩, hrcap, hrlen⟩ := ho.slices
  have hmm := @run_makeMap Tryd.prog
  obtain ⟨hmc, hpc, -⟩ := linkErr_zero herr
  obtain ⟨⟨hq1, hq2⟩, hq3, hq4⟩ := chk_frame hmc
  have HMR := Lib.hid (chk_refs hmc)
  have HPC := Lib.hid hpc
  have hg0 : Grow w ((w.alloc (.cells #[.string o.d.name, o.pv, o.sv, .int .i64 o.d.cells, .int .i64 o.d.stacks, o.cv, o.rv] 31)).alloc (.cells #[.slice none 0 0, .int .i64 0, .int .i64 0] 36)) := ((Mv.refl _ _).alloc _).alloc _
  have HLK := Lib.hid (linkable_any o _ procs _ (ht.later hg0) (ho.later hg0) (hp.later hg0) hfew.refs)
  have hbI := heap_alloc_new (w.alloc (.cells #[.string o.d.name, o.pv, o.sv, .int .i64 o.d.cells, .int .i64 o.d.stacks, o.cv, o.rv] 31)) (.cells #[.slice none 0 0, .int .i64 0, .int .i64 0] 36)
  rw [World.size_alloc] at hbI
  have hbO : ((w.alloc (.cells #[.string o.d.name, o.pv, o.sv, .int .i64 o.d.cells, .int .i64 o.d.stacks, o.cv, o.rv] 31)).alloc (.cells #[.slice none 0 0, .int .i64 0, .int .i64 0] 36)).heap[w.heap.size]? = some (.cells #[.string o.d.name, o.pv, o.sv, .int .i64 o.d.cells, .int .i64 o.d.stacks, o.cv, o.rv] 31 (0, 0)) := by
    rw [Below.heap_alloc _ _ _ (by simp)]; exact heap_alloc_new w _
  have HBI := Lib.hid hbI
  have HBO := Lib.hid hbO
  have HG0 := Lib.hid hg0
  have HFW := Lib.hid hfew
  have HO := Lib.hid ho
  have HP := Lib.hid hp
  have hmcode := hfew.mc
  have hpl := hfew.refs.p
  rw [List.length_map] at hpl
  have HBD := Lib.hid (fun k hk => startAt_le o.d (procs.map (·.d)) hfew k hk)
  have HMXC := Lib.hid (fun k hk => maxTo_bd ObjD.cells (procs.map (·.d)) (fun x hx => (chk_frame (hpc x hx)).1) k hk)
  have HMXS := Lib.hid (fun k hk => maxTo_bd ObjD.stacks (procs.map (·.d)) (fun x hx => (chk_frame (hpc x hx)).2) k hk)
  have HLD := Lib.hid (show linkD o.d (procs.map (·.d)) = if tooBig o.d (procs.map (·.d)) then ⟨[], 0, 0, [], 5⟩ else ⟨codeTo o.d (procs.map (·.d)) (startsTo o.d (procs.map (·.d)) procs.length) procs.length, memOf o.d (procs.map (·.d)), stacksOf o.d (procs.map (·.d)), symsTo o.d (procs.map (·.d)) procs.length, 0⟩ from by
    unfold linkD; rw [if_neg (by simp [herr]), List.length_map])
  rw [herr] at HLK
  clear ho hp hfew ht hg0 hbI hbO hmc hpc herr
  have HS0 := Lib.hid (show startAt o.d (procs.map (·.d)) 0 = o.d.code.length + 1 from by simp [startAt])
  generalize hod : o.d = d at *
  obtain ⟨d', qv, sv, cv, rv⟩ := o
  simp only at hod hy1 hy2 hy3 hy4 hrcap hrlen hccap hclen HG0 HLK HBI HBO HO
  subst hod
  subst hy1 hy2 hy3 hy4
  go_enter Tryd.func11, Tryd.ntmps11
  go_wp2_with fail
  refine HLK.out.mono ?_
  rintro e w2 ⟨rfl, hm2⟩
  have hs2 := hm2.size
  simp only [World.size_alloc] at hs2
  have hI2 : w2.heap[w.heap.size + 1]? = some (.cells #[.slice none 0 0, .int .i64 0, .int .i64 0] 36 (0, 0)) := by
    rw [hm2.block _ (by simp) (fun h => h)]; exact HBI.out
  have hO2 : w2.heap[w.heap.size]? = some (.cells #[.string d'.name, .slice y1 d'.params.length y2, .slice y3 d'.slots.length y4, .int .i64 d'.cells, .int .i64 d'.stacks, .slice y5 d'.code.length y6, .slice y7 d'.refs.length y8] 31 (0, 0)) := by
    rw [hm2.block _ (by simp; omega) (fun h => h)]; exact HBO.out
  have e3 : w2.cell? ⟨w.heap.size, 3, none⟩ = some (.int .i64 d'.cells) := by simp [World.cell?, hO2]
  have e4 : w2.cell? ⟨w.heap.size, 4, none⟩ = some (.int .i64 d'.stacks) := by simp [World.cell?, hO2]
  have e5 : w2.cell? ⟨w.heap.size, 5, none⟩ = some (.slice y5 d'.code.length y6) := by simp [World.cell?, hO2]
  have hlt0 : w.heap.size < w2.heap.size := by omega
  have hlt1 : w.heap.size + 1 < w2.heap.size := by omega
  have HI2 := Lib.hid hI2
  have HO2 := Lib.hid hO2
  have HGR2 := Lib.hid (Mv.trans HG0.out hm2 (fun _ e => e.elim))
  have hmap0 : MapAt Value.string ((w2.alloc (.cells #[.slice none 0 0, .int .i64 (d'.cells + 80), .int .i64 (1 + d'.stacks)] 36)).alloc (.map #[] 0)) (w2.heap.size + 1) [] := by
    have := MapAt.new Value.string (w2.alloc (.cells #[.slice none 0 0, .int .i64 (d'.cells + 80), .int .i64 (1 + d'.stacks)] 36))
    simpa using this
  have hM : ((w2.alloc (.cells #[.slice none 0 0, .int .i64 (d'.cells + 80), .int .i64 (1 + d'.stacks)] 36)).alloc (.map #[] 0)).heap[w2.heap.size]? = some (.cells #[.slice none 0 0, .int .i64 (d'.cells + 80), .int .i64 (1 + d'.stacks)] 36 (0, 0)) := by
    rw [Below.heap_alloc _ _ _ (by simp)]; exact heap_alloc_new w2 _
  have hgb : Grow w2 ((w2.alloc (.cells #[.slice none 0 0, .int .i64 (d'.cells + 80), .int .i64 (1 + d'.stacks)] 36)).alloc (.map #[] 0)) := ((Mv.refl _ _).alloc _).alloc _
  have HMAP0 := Lib.hid hmap0
  have HMI := Lib.hid hM
  have HGB := Lib.hid hgb
  have hbound0 := HBD.out 0 (Nat.zero_le _)
  rw [HS0.out] at hbound0
  clear hm2 hI2 hO2 hmap0 hM hgb
  go_wp2_with fail
  have hszb : w2.heap.size + 1 < ((w2.alloc (.cells #[.slice none 0 0, .int .i64 (d'.cells + 80), .int .i64 (1 + d'.stacks)] 36)).alloc (.map #[] 0)).heap.size := by simp
  generalize (w2.alloc (.cells #[.slice none 0 0, .int .i64 (d'.cells + 80), .int .i64 (1 + d'.stacks)] 36)).alloc (.map #[] 0) = wb at *
  clear e3 e4 e5
  go_loopw [9, 10, 11, 13, 44] (fun sz mc ms sy t wr => ∃ k : Nat, sz = .int .i64 (startAt d' (procs.map (·.d)) k) ∧ mc = .int .i64 (maxTo ObjD.cells (procs.map (·.d)) k) ∧ ms = .int .i64 (maxTo ObjD.stacks (procs.map (·.d)) k) ∧ t = .int .i64 k ∧ k ≤ procs.length ∧ LkSt (w2.heap.size + 1) wb wr sy (startsTo d' (procs.map (·.d)) k) (symsTo d' (procs.map (·.d)) k)) (fun _ _ _ _ t _ => procs.length - (intOf t).toNat)
  case atStart => exact ⟨0, by rw [HS0.out]; go_num, rfl, rfl, rfl, Nat.zero_le _, Mv.refl _ _, HMAP0.out, World.ownsRow_nil _ _ _ _⟩
  obtain ⟨k, rfl, rfl, rfl, rfl, hk, hst⟩ := hrel
  have HST := Lib.hid hst
  have hgr : Grow w wr := (Mv.trans (Mv.trans HGR2.out HGB.out (fun _ e => e.elim) |>.mono (O1 := fun b => b = w2.heap.size + 1) (fun _ e => e.elim)) hst.mv (fun x e => .inl e)).mono (fun x e => .inr (by omega))
  have hszr := hst.mv.size
  have hbk := HBD.out k (by simpa using hk)
  have hmxc := HMXC.out k (by simpa using hk)
  have hmxs := HMXS.out k (by simpa using hk)
  have hsl : (symsTo d' (procs.map (·.d)) k).length ≤ procs.length := by rw [symsTo_len d' (procs.map (·.d)) k (by simpa using hk)]; exact hk
  by_cases hlt : k < procs.length
  · obtain ⟨b, off, cap', e, _, hcc⟩ := (HP.out.row.later hgr).at hlt
    simp only [Value.slice.injEq, true_and] at e
    obtain ⟨rfl, rfl⟩ := e
    have c0 := hcc 0 _ rfl
    have c1 := hcc 1 _ rfl
    have c2 := hcc 2 _ rfl
    have c3 := hcc 3 _ rfl
    have c4 := hcc 4 _ rfl
    have c5 := hcc 5 _ rfl
    have c6 := hcc 6 _ rfl
    simp only [Nat.add_zero] at c0
    have hbl : b < wr.heap.size := World.block_lt_of_cell? wr _ c0
    have hxo := HP.out.each procs[k] (List.getElem_mem hlt)
    have hkm : k < (procs.map (·.d)).length := by simpa using hlt
    have hgd : (procs.map (·.d))[k] = procs[k].d := by simp
    have hxf := chk_frame (HPC.out procs[k].d (List.mem_map.2 ⟨procs[k], List.getElem_mem hlt, rfl⟩))
    have hxc := HFW.out.pc procs[k].d (List.mem_map.2 ⟨procs[k], List.getElem_mem hlt, rfl⟩)
    have HSA := Lib.hid (by have := startAt_succ d' (procs.map (·.d)) k hkm; rw [hgd] at this; exact this)
    have HXC := Lib.hid (by have := maxTo_succ ObjD.cells (procs.map (·.d)) k hkm; rw [hgd] at this; exact this)
    have HXS := Lib.hid (by have := maxTo_succ ObjD.stacks (procs.map (·.d)) k hkm; rw [hgd] at this; exact this)
    have HSM := Lib.hid (by have := startsTo_succ d' (procs.map (·.d)) k hkm; rw [hgd] at this; exact this)
    have HSY := Lib.hid (by have := symsTo_succ d' (procs.map (·.d)) k hkm; rw [hgd] at this; exact this)
    generalize hx : procs[k] = x at *
    obtain ⟨z1, z2, z3, z4, z5, z6, xra, xrcap, ⟨hz1, hz2, hz3, hxrv⟩, ⟨hz5, hz6⟩, hxrcap, hxrlen⟩ := hxo.slices
    obtain ⟨xd, xqv, xsv, xcv, xrv⟩ := x
    simp only at c0 c1 c2 c3 c4 c5 c6 hz1 hz2 hz3 hxrv hxrlen hxrcap hz5 hz6 hxf hxc
    subst hz1 hz2 hz3 hxrv
    generalize startAt d' (procs.map (·.d)) k = sk at *
    generalize maxTo ObjD.cells (procs.map (·.d)) k = ck at *
    generalize maxTo ObjD.stacks (procs.map (·.d)) k = tk at *
    generalize symsTo d' (procs.map (·.d)) k = sy at *
    generalize startsTo d' (procs.map (·.d)) k = mk at *
    have hsta := hst.alloc (.cells #[.string xd.name, .slice z1 xd.params.length z2, .slice z3 xd.slots.length z4, .int .i64 xd.cells, .int .i64 xd.stacks, .slice z5 xd.code.length z6, .slice xra xd.refs.length xrcap] 31)
    obtain ⟨w3, hup, hmp3, hmv3⟩ := run_set Tryd.strLaw Tryd.underlying68 xd.name (.int .i64 sk) hsta.map
    have hst3 := hsta.upd hszb hmp3 hmv3
    have hY3 : w3.heap[wr.heap.size]? = some (.cells #[.string xd.name, .slice z1 xd.params.length z2, .slice z3 xd.slots.length z4, .int .i64 xd.cells, .int .i64 xd.stacks, .slice z5 xd.code.length z6, .slice xra xd.refs.length xrcap] 31 (0, 0)) := by
      rw [hmv3.block _ (by simp) (by omega)]; exact heap_alloc_new wr _
    have hs3 := hmv3.size
    simp only [World.size_alloc] at hs3
    obtain ⟨a', c', w4, ⟨hok, hv, hw⟩, hrow4, hmv4, -⟩ := app_sym _ ⟨xd.name, sk⟩ sy _ w3 hst3.row (by have := hst3.mv.size; omega) (by omega)
    have hst4 := hst3.app hszb hrow4 hmv4
    have hY4 : w4.heap[wr.heap.size]? = some (.cells #[.string xd.name, .slice z1 xd.params.length z2, .slice z3 xd.slots.length z4, .int .i64 xd.cells, .int .i64 xd.stacks, .slice z5 xd.code.length z6, .slice xra xd.refs.length xrcap] 31 (0, 0)) := by
      rw [hmv4.block _ (by omega) (fun e => by have := (hst.row.lt _ e).2; omega)]; exact hY3
    have f0 : w3.cell? ⟨wr.heap.size, 0, none⟩ = some (.string xd.name) := by simp [World.cell?, hY3]
    have f3 : w4.cell? ⟨wr.heap.size, 3, none⟩ = some (.int .i64 xd.cells) := by simp [World.cell?, hY4]
    have f4 : w4.cell? ⟨wr.heap.size, 4, none⟩ = some (.int .i64 xd.stacks) := by simp [World.cell?, hY4]
    have f5 : w4.cell? ⟨wr.heap.size, 5, none⟩ = some (.slice z5 xd.code.length z6) := by simp [World.cell?, hY4]
    obtain ⟨sa, sc, hsv⟩ := row_slice hst.row
    subst hsv
    have HST4 := Lib.hid hst4
    have hY3l : wr.heap.size < w3.heap.size := by omega
    obtain ⟨⟨hx1, hx2⟩, hx3, hx4⟩ := hxf
    clear hcc hx hxo hst hsta hmp3 hmv3 hst3 hY3 hrow4 hmv4 hst4 hY4 hgr hgd hkm
    go_wp2_with fail
    · go_roundw
      case rel => exact ⟨k + 1, by rw [HSA.out]; go_num, by rw [HXC.out], by rw [HXS.out], by go_num, by omega, by rw [HSM.out, HSY.out]; exact HST4.out⟩
      case measure => simp [intOf]; omega
  have hke : k = procs.length := by omega
  subst hke
  have hlx : w2.heap.size < wb.heap.size := by omega
  have hX : wr.heap[w2.heap.size]? = some (.cells #[.slice none 0 0, .int .i64 (d'.cells + 80), .int .i64 (1 + d'.stacks)] 36 (0, 0)) := by
    rw [HST.out.mv.block _ hlx (by omega)]; exact HMI.out
  have hY : wr.heap[w.heap.size + 1]? = some (.cells #[.slice none 0 0, .int .i64 0, .int .i64 0] 36 (0, 0)) := by
    rw [HST.out.mv.block _ (by have := HGB.out.size; omega) (by omega), HGB.out.block _ hlt1 (fun h => h)]; exact HI2.out
  have hO : wr.heap[w.heap.size]? = some (.cells #[.string d'.name, .slice y1 d'.params.length y2, .slice y3 d'.slots.length y4, .int .i64 d'.cells, .int .i64 d'.stacks, .slice y5 d'.code.length y6, .slice y7 d'.refs.length y8] 31 (0, 0)) := by
    rw [HST.out.mv.block _ (by have := HGB.out.size; omega) (by omega), HGB.out.block _ hlt0 (fun h => h)]; exact HO2.out
  obtain ⟨x0, x1, x2, xz⟩ := img_cells hX
  have HTB := Lib.hid (show tooBig d' (procs.map (·.d)) = (decide (65536 < startAt d' (procs.map (·.d)) procs.length) || (decide (16384 < d'.cells + 80 + 101 * maxTo ObjD.cells (procs.map (·.d)) procs.length) || decide (16384 < 1 + d'.stacks + 101 * maxTo ObjD.stacks (procs.map (·.d)) procs.length))) from by
    unfold tooBig memOf stacksOf; rw [List.length_map])
  have HMEM := Lib.hid (show memOf d' (procs.map (·.d)) = d'.cells + 80 + 101 * maxTo ObjD.cells (procs.map (·.d)) procs.length from by unfold memOf; rw [List.length_map])
  have HSTK := Lib.hid (show stacksOf d' (procs.map (·.d)) = 1 + d'.stacks + 101 * maxTo ObjD.stacks (procs.map (·.d)) procs.length from by unfold stacksOf; rw [List.length_map])
  generalize hmcv : maxTo ObjD.cells (procs.map (·.d)) procs.length = mc at *
  generalize hmsv : maxTo ObjD.stacks (procs.map (·.d)) procs.length = ms at *
  obtain ⟨hX5, hmv5⟩ := set12 hX (.int .i64 (d'.cells + 80 + 101 * mc)) (.int .i64 (1 + d'.stacks + 101 * ms))
  have hY5 : ((wr.setCell ⟨w2.heap.size, 1, none⟩ (.int .i64 (d'.cells + 80 + 101 * mc))).setCell ⟨w2.heap.size, 2, none⟩ (.int .i64 (1 + d'.stacks + 101 * ms))).heap[w.heap.size + 1]? = some (.cells #[.slice none 0 0, .int .i64 0, .int .i64 0] 36 (0, 0)) := by
    rw [hmv5.block _ (lt_of_block hY) (by omega)]; exact hY
  have hO5 : ((wr.setCell ⟨w2.heap.size, 1, none⟩ (.int .i64 (d'.cells + 80 + 101 * mc))).setCell ⟨w2.heap.size, 2, none⟩ (.int .i64 (1 + d'.stacks + 101 * ms))).heap[w.heap.size]? = some (.cells #[.string d'.name, .slice y1 d'.params.length y2, .slice y3 d'.slots.length y4, .int .i64 d'.cells, .int .i64 d'.stacks, .slice y5 d'.code.length y6, .slice y7 d'.refs.length y8] 31 (0, 0)) := by
    rw [hmv5.block _ (lt_of_block hO) (by omega)]; exact hO
  obtain ⟨j0, j1, j2, jz⟩ := img_cells hY5
  obtain ⟨⟨o0, o1, o2, o3⟩, o4, o5, o6⟩ := obj_cells hO5
  obtain ⟨u0, u1, u2, uz⟩ := img_cells hX5
  have HX5 := Lib.hid hX5
  have HMV5 := Lib.hid hmv5
  have HY5 := Lib.hid hY5
  have HO5 := Lib.hid hO5
  have HGRR := Lib.hid hgr
  have hbig : ¬ (65536 : Int) < startAt d' (procs.map (·.d)) procs.length := by
    have : procs.length * 82 ≤ 16 * 82 := Nat.mul_le_mul_right _ hpl
    omega
  clear hX hY hO hX5 hmv5 hst hgr hmcv hmsv hY5 hO5
  by_cases hA : (16384 : Int) < d'.cells + 80 + 101 * mc
  · obtain ⟨hY6, hmv6⟩ := set3 HY5.out (.slice none 0 0) (.int .i64 0) (.int .i64 0)
    have HLE := Lib.hid (show linkD d' (procs.map (·.d)) = ⟨[], 0, 0, [], 5⟩ from by rw [HLD.out, if_pos (by rw [HTB.out]; simp [hA])])
    have HY6 := Lib.hid hY6
    have HMV6 := Lib.hid hmv6
    clear hY6 hmv6
    go_wp2_with fail
    have hgr5 := HGRR.out.trans HMV5.out (fun x e => .inr (by omega))
    have hY6 := HY6.out
    have hmv6 := HMV6.out
    obtain ⟨k0, k1, k2, -⟩ := img_cells hY6
    refine bodyPost_ret (v := .tuple #[.agg #[.slice none 0 0, .int .i64 0, .int .i64 0], .slice none 0 0, .int .i64 5]) ?_ rfl ⟨.slice none 0 0, .slice none 0 0, by rw [HLE.out], ?_, by rw [HLE.out]; exact RowAt.nil _ _ _, by rw [HLE.out]; exact RowAt.nil _ _ _⟩
    · simp [results, Tryd.results11, go_sem, k0, k1, k2]
    · exact hgr5.trans hmv6 (fun x e => .inr (by omega))
  by_cases hB : (16384 : Int) < 1 + d'.stacks + 101 * ms
  · obtain ⟨hY6, hmv6⟩ := set3 HY5.out (.slice none 0 0) (.int .i64 0) (.int .i64 0)
    have HLE := Lib.hid (show linkD d' (procs.map (·.d)) = ⟨[], 0, 0, [], 5⟩ from by rw [HLD.out, if_pos (by rw [HTB.out]; simp [hB])])
    have HY6 := Lib.hid hY6
    have HMV6 := Lib.hid hmv6
    clear hY6 hmv6
    go_wp2_with fail
    have hgr5 := HGRR.out.trans HMV5.out (fun x e => .inr (by omega))
    have hY6 := HY6.out
    have hmv6 := HMV6.out
    obtain ⟨k0, k1, k2, -⟩ := img_cells hY6
    refine bodyPost_ret (v := .tuple #[.agg #[.slice none 0 0, .int .i64 0, .int .i64 0], .slice none 0 0, .int .i64 5]) ?_ rfl ⟨.slice none 0 0, .slice none 0 0, by rw [HLE.out], ?_, by rw [HLE.out]; exact RowAt.nil _ _ _, by rw [HLE.out]; exact RowAt.nil _ _ _⟩
    · simp [results, Tryd.results11, go_sem, k0, k1, k2]
    · exact hgr5.trans hmv6 (fun x e => .inr (by omega))
  have hg5 := HGRR.out.trans HMV5.out (fun x e => .inr (by omega))
  have hmap5 := HST.out.map.keep (HMV5.out.block _ HST.out.map.lt (by omega))
  have hsym5 := row_keep HST.out.row HMV5.out (fun g hg e => by have := (HST.out.row.lt g hg).1; omega)
  have HG5 := Lib.hid hg5
  have HMAP5 := Lib.hid hmap5
  have HSYM5 := Lib.hid hsym5
  have HLE := Lib.hid (show linkD d' (procs.map (·.d)) = ⟨codeTo d' (procs.map (·.d)) (startsTo d' (procs.map (·.d)) procs.length) procs.length, memOf d' (procs.map (·.d)), stacksOf d' (procs.map (·.d)), symsTo d' (procs.map (·.d)) procs.length, 0⟩ from by rw [HLD.out, if_neg (by rw [HTB.out]; simp [hA, hB]; omega)])
  clear hg5 hmap5 hsym5
  go_wp2_with fail
  have HL5 := Lib.hid (show Lk2 w2.heap.size w ((wr.setCell ⟨w2.heap.size, 1, none⟩ (.int .i64 (d'.cells + 80 + 101 * mc))).setCell ⟨w2.heap.size, 2, none⟩ (.int .i64 (1 + d'.stacks + 101 * ms))) ((wr.setCell ⟨w2.heap.size, 1, none⟩ (.int .i64 (d'.cells + 80 + 101 * mc))).setCell ⟨w2.heap.size, 2, none⟩ (.int .i64 (1 + d'.stacks + 101 * ms))) (d'.cells + 80 + 101 * mc) (1 + d'.stacks + 101 * ms) [] (.slice none 0 0) from ⟨Mv.refl _ _, HX5.out, World.ownsRow_nil _ _ _ _, by simp [Value.ownBlock]⟩)
  clear x0 x1 x2 xz
  have hsz5 : wr.heap.size ≤ ((wr.setCell ⟨w2.heap.size, 1, none⟩ (.int .i64 (d'.cells + 80 + 101 * mc))).setCell ⟨w2.heap.size, 2, none⟩ (.int .i64 (1 + d'.stacks + 101 * ms))).heap.size := HMV5.out.size
  clear HMV5
  generalize ((wr.setCell ⟨w2.heap.size, 1, none⟩ (.int .i64 (d'.cells + 80 + 101 * mc))).setCell ⟨w2.heap.size, 2, none⟩ (.int .i64 (1 + d'.stacks + 101 * ms))) = w5 at *
  have hX5l : w2.heap.size < w5.heap.size := by omega
  refine (place_any ⟨d', .slice y1 d'.params.length y2, .slice y3 d'.slots.length y4, .slice y5 d'.code.length y6, .slice y7 d'.refs.length y8⟩ (.slice none 0 0) [] (w2.heap.size + 1) (startsTo d' (procs.map (·.d)) procs.length) w w5 HG5.out HO.out (World.ownsRow_nil _ _ _ _) HMAP5.out (by simp [Value.ownBlock]) (by omega) (startsTo_int _ _ _) (by simp; omega) HMR.out (by have := HFW.out.refs.m; simp only; omega)).mono ?_
  rintro e w6 ⟨v6, rfl, hg6, hrow6, hmv6, hnew6⟩
  have HL6 := Lib.hid (HL5.out.put hX5l hmv6 hrow6 hnew6)
  obtain ⟨va, vc, hv6⟩ := row_slice hrow6
  subst hv6
  have hX6 : w6.heap[w2.heap.size]? = some (.cells #[.slice none 0 0, .int .i64 (d'.cells + 80 + 101 * mc), .int .i64 (1 + d'.stacks + 101 * ms)] 36 (0, 0)) := by
    rw [hmv6.block _ hX5l (by simp [Value.ownBlock])]; exact HX5.out
  have hpl6 := placeL_len [] d' (startsTo d' (procs.map (·.d)) procs.length)
  obtain ⟨a8, c8, w8, ⟨hok8, hv8, hw8⟩, hrow8, hmv8, hnew8⟩ := app_ins _ ⟨34, 0, 0, 0, 0⟩ _ _ _ HL6.out.row (by have := HL6.out.mv.size; have := HG5.out.size; omega) (by rw [hpl6]; simp; omega)
  have HL8 := Lib.hid (HL6.out.put hX5l hmv8 hrow8 hnew8)
  have hX8 : w8.heap[w2.heap.size]? = some (.cells #[.slice va (placeL [] d' (startsTo d' (procs.map (·.d)) procs.length)).length vc, .int .i64 (d'.cells + 80 + 101 * mc), .int .i64 (1 + d'.stacks + 101 * ms)] 36 (0, 0)) := by
    rw [hmv8.block _ (lt_of_block HL6.out.img) (fun e => by have := HL6.out.new _ e; omega)]; exact HL6.out.img
  obtain ⟨p0, p1, p2, pz⟩ := img_cells hX6
  obtain ⟨q0, q1, q2, qz⟩ := img_cells hX8
  have HC0 := Lib.hid (show codeTo d' (procs.map (·.d)) (startsTo d' (procs.map (·.d)) procs.length) 0 = placeL [] d' (startsTo d' (procs.map (·.d)) procs.length) ++ [⟨34, 0, 0, 0, 0⟩] from rfl)
  have HCS := Lib.hid (fun k hk => codeTo_succ d' (procs.map (·.d)) (startsTo d' (procs.map (·.d)) procs.length) k hk)
  have HCN := Lib.hid (fun k hk => codeTo_len d' (procs.map (·.d)) (startsTo d' (procs.map (·.d)) procs.length) k hk)
  have HIM := Lib.hid (startsTo_int d' (procs.map (·.d)) procs.length)
  generalize startsTo d' (procs.map (·.d)) procs.length = sm at *
  generalize placeL [] d' sm = pl at *
  simp only [World.size_setCell] at hok8 hv8 hw8
  clear hpl6 hg6 hrow6 hmv6 hnew6 hX6 hrow8 hmv8 hnew8 hX8 j0 j1 j2 jz o0 o1 o2 o3 o4 o5 o6 u0 u1 u2 uz
  go_wp2_with fail
  have HL9 := Lib.hid HL8.out
  clear p0 p1 p2 pz q0 q1 q2 qz hok8 hv8 hw8
  generalize w8.setCell ⟨w2.heap.size, 0, none⟩ (.slice a8 (pl.length + 1) c8) = w9 at *
  have hL9 := HL9.out
  go_loopw [116] (fun t wr => ∃ (k : Nat) (cv : Value), t = .int .i64 k ∧ k ≤ procs.length ∧ Lk2 w2.heap.size w w5 wr (d'.cells + 80 + 101 * mc) (1 + d'.stacks + 101 * ms) (codeTo d' (procs.map (·.d)) sm k) cv) (fun t _ => procs.length - (intOf t).toNat)
  case atStart => exact ⟨0, _, rfl, Nat.zero_le _, by rw [HC0.out]; exact HL9.out⟩
  obtain ⟨k, cv, rfl, hk, hst⟩ := hrel
  have HST2 := Lib.hid hst
  have hgw : Grow w wr := HG5.out.trans hst.mv (fun x e => .inr (by omega))
  have hszr := hst.mv.size
  obtain ⟨na, nc, hcv⟩ := row_slice hst.row
  subst hcv
  by_cases hlt : k < procs.length
  · obtain ⟨b, off, cap', e, _, hcc⟩ := (HP.out.row.later hgw).at hlt
    simp only [Value.slice.injEq, true_and] at e
    obtain ⟨rfl, rfl⟩ := e
    have c0 := hcc 0 _ rfl
    have c1 := hcc 1 _ rfl
    have c2 := hcc 2 _ rfl
    have c3 := hcc 3 _ rfl
    have c4 := hcc 4 _ rfl
    have c5 := hcc 5 _ rfl
    have c6 := hcc 6 _ rfl
    simp only [Nat.add_zero] at c0
    have hbl : b < wr.heap.size := World.block_lt_of_cell? wr _ c0
    have hxo := HP.out.each procs[k] (List.getElem_mem hlt)
    have HXO := Lib.hid hxo
    have hkm : k < (procs.map (·.d)).length := by simpa using hlt
    have hgd : (procs.map (·.d))[k] = procs[k].d := by simp
    have HXR := Lib.hid (chk_refs (HPC.out procs[k].d (List.mem_map.2 ⟨procs[k], List.getElem_mem hlt, rfl⟩)))
    have hxc := HFW.out.pc procs[k].d (List.mem_map.2 ⟨procs[k], List.getElem_mem hlt, rfl⟩)
    have hxr := HFW.out.refs.r procs[k].d (List.mem_map.2 ⟨procs[k], List.getElem_mem hlt, rfl⟩)
    have HSC := Lib.hid (by have := HCS.out k hkm; rw [hgd] at this; exact this)
    have hcn := HCN.out k (by omega)
    have hbk2 := HBD.out k (by omega)
    generalize hx : procs[k] = x at *
    obtain ⟨z1, z2, z3, z4, z5, z6, xra, xrcap, ⟨hz1, hz2, hz3, hxrv⟩, ⟨hz5, hz6⟩, hxrcap, hxrlen⟩ := hxo.slices
    obtain ⟨xd, xqv, xsv, xcv, xrv⟩ := x
    simp only at c0 c1 c2 c3 c4 c5 c6 hz1 hz2 hz3 hxrv hxrlen hxrcap hz5 hz6 hxc hxr HXR
    subst hz1 hz2 hz3 hxrv
    have hclb : (codeTo d' (procs.map (·.d)) sm k).length ≤ 2000 := by rw [hcn]; omega
    generalize codeTo d' (procs.map (·.d)) sm k = ck at *
    -- the box of the object
    have hL1 := hst.alloc (.cells #[.string xd.name, .slice z1 xd.params.length z2, .slice z3 xd.slots.length z4, .int .i64 xd.cells, .int .i64 xd.stacks, .slice z5 xd.code.length z6, .slice xra xd.refs.length xrcap] 31)
    have hbx1 := heap_alloc_new wr (.cells #[.string xd.name, .slice z1 xd.params.length z2, .slice z3 xd.slots.length z4, .int .i64 xd.cells, .int .i64 xd.stacks, .slice z5 xd.code.length z6, .slice xra xd.refs.length xrcap] 31)
    -- the start
    obtain ⟨a3, c3', w3, ⟨hok3, hv3, hw3⟩, hrow3, hmv3, hnew3⟩ := app_ins _ ⟨32, (ck.length : Int) + xd.code.length + 1, 0, 0, 0⟩ _ _ _ hL1.row (by have := hL1.mv.size; have := HG5.out.size; omega) (by omega)
    have hL3 := hL1.put hX5l hmv3 hrow3 hnew3
    have hX3 : w3.heap[w2.heap.size]? = some (.cells #[.slice na ck.length nc, .int .i64 (d'.cells + 80 + 101 * mc), .int .i64 (1 + d'.stacks + 101 * ms)] 36 (0, 0)) := by
      rw [hmv3.block _ (lt_of_block hL1.img) (fun e => by have := hL1.new _ e; omega)]; exact hL1.img
    have hbx3 : (w3.setCell ⟨w2.heap.size, 0, none⟩ (.slice a3 (ck.length + 1) c3')).heap[wr.heap.size]? = some (.cells #[.string xd.name, .slice z1 xd.params.length z2, .slice z3 xd.slots.length z4, .int .i64 xd.cells, .int .i64 xd.stacks, .slice z5 xd.code.length z6, .slice xra xd.refs.length xrcap] 31 (0, 0)) := by
      rw [Below.heap_setCell _ _ _ _ (by simp; omega), hmv3.block _ (lt_of_block hbx1) (fun e => by have := (hst.row.lt _ e).2; omega)]; exact hbx1
    obtain ⟨r0, r1, r2, rz⟩ := img_cells hst.img
    obtain ⟨⟨s0, s1, s2, s3⟩, s4, s5, s6⟩ := obj_cells hbx1
    obtain ⟨t0, t1, t2, tz⟩ := img_cells hX3
    obtain ⟨⟨f0, f1, f2, f3⟩, f4, f5, f6⟩ := obj_cells hbx3
    have hL1i := img_cells hL1.img
    obtain ⟨g0, g1, g2, gz⟩ := hL1i
    have HL3 := Lib.hid hL3
    have HX3 := Lib.hid hX3
    have HBX3 := Lib.hid hbx3
    clear hcc hx hxo hst hL1 hbx1 hrow3 hmv3 hnew3 hL3 hX3 hbx3 hgd hkm hcn
    simp only [World.size_setCell, World.size_alloc] at hok3 hv3 hw3
    go_wp2_with fail
    clear c0 c1 c2 c3 c4 c5 c6 r0 r1 r2 rz s0 s1 s2 s3 s4 s5 s6 t0 t1 t2 tz f0 f1 f2 f3 f4 f5 f6 g0 g1 g2 gz hok3 hv3 hw3
    clear HX3 HBX3
    generalize w3.setCell ⟨w2.heap.size, 0, none⟩ (.slice a3 (ck.length + 1) c3') = w4 at *
    refine (place_any ⟨xd, .slice z1 xd.params.length z2, .slice z3 xd.slots.length z4, .slice z5 xd.code.length z6, .slice xra xd.refs.length xrcap⟩ (.slice a3 (ck.length + 1) c3') (ck ++ [⟨32, (ck.length : Int) + xd.code.length + 1, 0, 0, 0⟩]) (w2.heap.size + 1) sm w w4 (HG5.out.trans HL3.out.mv (fun x e => .inr (by omega))) HXO.out HL3.out.row (HMAP5.out.keep (HL3.out.mv.block _ HMAP5.out.lt (by omega))) (fun e => by have := HL3.out.new _ e; have := HMAP5.out.lt; omega) (by omega) HIM.out (by simp; omega) HXR.out (by simp only; omega)).mono ?_
    rintro e w7 ⟨v7, rfl, hg7, hrow7, hmv7, hnew7⟩
    have hL7 := HL3.out.put hX5l hmv7 hrow7 hnew7
    obtain ⟨va, vc, hv7⟩ := row_slice hrow7
    subst hv7
    have hX7 : w7.heap[w2.heap.size]? = some (.cells #[.slice a3 (ck.length + 1) c3', .int .i64 (d'.cells + 80 + 101 * mc), .int .i64 (1 + d'.stacks + 101 * ms)] 36 (0, 0)) := by
      rw [hmv7.block _ (lt_of_block HL3.out.img) (fun e => by have := HL3.out.new _ e; omega)]; exact HL3.out.img
    have hpl7 := placeL_len (ck ++ [⟨32, (ck.length : Int) + xd.code.length + 1, 0, 0, 0⟩]) xd sm
    obtain ⟨a8', c8', w8', ⟨hok8, hv8, hw8⟩, hrow8, hmv8, hnew8⟩ := app_ins _ ⟨33, ck.length, 0, 0, 0⟩ _ _ _ hL7.row (by have := hL7.mv.size; have := HG5.out.size; omega) (by rw [hpl7]; simp; omega)
    have HL8' := Lib.hid (hL7.put hX5l hmv8 hrow8 hnew8)
    have hX8 : w8'.heap[w2.heap.size]? = some (.cells #[.slice va (placeL (ck ++ [⟨32, (ck.length : Int) + xd.code.length + 1, 0, 0, 0⟩]) xd sm).length vc, .int .i64 (d'.cells + 80 + 101 * mc), .int .i64 (1 + d'.stacks + 101 * ms)] 36 (0, 0)) := by
      rw [hmv8.block _ (lt_of_block hL7.img) (fun e => by have := hL7.new _ e; omega)]; exact hL7.img
    obtain ⟨p0, p1, p2, pz⟩ := img_cells hX7
    obtain ⟨q0, q1, q2, qz⟩ := img_cells hX8
    simp only [World.size_setCell] at hok8 hv8 hw8
    clear hpl7
    generalize placeL (ck ++ [⟨32, (ck.length : Int) + xd.code.length + 1, 0, 0, 0⟩]) xd sm = pl7 at *
    clear hg7 hrow7 hmv7 hnew7 hX7 hrow8 hmv8 hnew8 hX8 hL7
    go_wp2_with fail
    go_roundw
    case rel => exact ⟨k + 1, _, by go_num, by omega, by rw [HSC.out]; exact HL8'.out⟩
    case measure => simp [intOf]; omega
  obtain rfl : k = procs.length := by omega
  have hY9 : wr.heap[w.heap.size + 1]? = some (.cells #[.slice none 0 0, .int .i64 0, .int .i64 0] 36 (0, 0)) := by
    rw [hst.mv.block _ (lt_of_block HY5.out) (by omega)]; exact HY5.out
  obtain ⟨hY6, hmv6⟩ := set3 hY9 (.slice na (codeTo d' (procs.map (·.d)) sm procs.length).length nc) (.int .i64 (d'.cells + 80 + 101 * mc)) (.int .i64 (1 + d'.stacks + 101 * ms))
  have hsym9 := row_keep HSYM5.out hst.mv (fun g hg e => by have := (HST.out.row.lt g hg).1; omega)
  have hYl : w.heap.size + 1 < wb.heap.size := by have := HGB.out.size; omega
  have HSY9 := Lib.hid (row_keep hsym9 hmv6 (fun g hg e => by have := (HST.out.row.lt g hg).1; omega))
  have HCD9 := Lib.hid (row_keep hst.row hmv6 (fun g hg e => by have := hst.new g hg; omega))
  have HGW := Lib.hid (hgw.trans hmv6 (fun x e => .inr (by omega)))
  obtain ⟨p0, p1, p2, pz⟩ := img_cells hst.img
  obtain ⟨q0, q1, q2, qz⟩ := img_cells hY9
  have HY6 := Lib.hid hY6
  clear hst hY9 hY6 hmv6 hsym9 hgw
  generalize codeTo d' (procs.map (·.d)) sm procs.length = cd at *
  go_wp2_with fail
  obtain ⟨k0, k1, k2, -⟩ := img_cells HY6.out
  refine bodyPost_ret (v := .tuple #[.agg #[.slice na cd.length nc, .int .i64 (d'.cells + 80 + 101 * mc), .int .i64 (1 + d'.stacks + 101 * ms)], u13, .int .i64 0]) ?_ rfl ⟨.slice na cd.length nc, u13, by rw [HLE.out, HMEM.out, HSTK.out], HGW.out, by rw [HLE.out]; exact rowAt_of_owns (fun _ => rfl) HCD9.out, by rw [HLE.out]; exact rowAt_of_owns (fun _ => rfl) HSY9.out⟩
  simp [results, Tryd.results11, go_sem, k0, k1, k2]

end Go.Proofs.YtaabkaiifplhgaaDoor
