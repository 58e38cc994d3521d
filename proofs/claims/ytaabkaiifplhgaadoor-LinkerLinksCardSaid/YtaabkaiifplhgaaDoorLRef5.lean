/- The reference's Link: the walk. -/
import Derived.Test.YtaabkaiifplhgaaDoorLRef4
import Derived.Test.YtaabkaiifplhgaaDoorLRefP
import Derived.Test.YtaabkaiifplhgaaDoorRelZ
import Derived.Test.YtaabkaiifplhgaaDoorLAwake
namespace Go.Proofs.YtaabkaiifplhgaaDoor
set_option linter.unusedSimpArgs false
set_option linter.unusedVariables false
open Go.RowKit Go.Instr

attribute [local go_sem ↓] run_appOp

abbrev RSymRow (w : World) (base : Nat) (v : Value) (l : List SymD) : Prop := w.ownsRow base 54 2 v l.length (flat SymD.cells l)
theorem Tryd.infoRSym : (Tryd.prog.info? 54).map (fun i => (i.zero, i.size, i.bytes)) = some (some (.agg #[.string ⟨#[]⟩, .int .i64 0]), 2, 24) := by kernel_rfl
theorem app_rsym (v : Value) (x : SymD) (xs : List SymD) (base : Nat) (w : World) (hrow : RSymRow w base v xs) (hb : base ≤ w.heap.size) (hlen : xs.length ≤ 1000000) :
    ∃ a' c' w2, (AppOK Tryd.prog 43 43 v (.slice (some ⟨w.heap.size, 0, none⟩) 1 1) (w.alloc (.cells #[.string x.name, .int .i64 x.at'] 54)) ∧
        appV Tryd.prog 43 43 v (.slice (some ⟨w.heap.size, 0, none⟩) 1 1) (w.alloc (.cells #[.string x.name, .int .i64 x.at'] 54)) = .slice a' (xs.length + 1) c' ∧ appW Tryd.prog 43 43 v (.slice (some ⟨w.heap.size, 0, none⟩) 1 1) (w.alloc (.cells #[.string x.name, .int .i64 x.at'] 54)) = w2) ∧
      RSymRow w2 base (.slice a' (xs.length + 1) c') (xs ++ [x]) ∧ Mv (fun b => v.ownBlock = some b) w w2 ∧ (∀ g, (Value.slice a' (xs.length + 1) c').ownBlock = some g → v.ownBlock = some g ∨ w.heap.size ≤ g) := by
  obtain ⟨i0, hi, hz0, hz1, hz2⟩ := info_parts Tryd.infoRSym
  obtain ⟨v', w2, hr, hown1, hgrow, _, hnew⟩ := run_append_own2 (P := Tryd.prog) (w.alloc (.cells #[.string x.name, .int .i64 x.at'] 54)) base 43 43 54 i0 (.agg #[.string ⟨#[]⟩, .int .i64 0]) 2 24 Tryd.underlying43 hi hz0 hz1 hz2 rfl (by decide) v _ _ (hrow.alloc _) ⟨w.heap.size, 0, none⟩ 1 1 x.cells rfl
    (World.news_of_block (cs := #[.string x.name, .int .i64 x.at']) (t := 54) (fr := (0, 0)) (heap_alloc_new w _)) (by simp [Value.oneCell', SymD.cells]) (by unfold maxLen; omega) (by omega) (by simp; omega)
  have hform : ∃ a' c', v' = .slice a' (xs.length + 1) c' := by
    rcases hown1.2 with ⟨_, h0⟩ | ⟨g, cap, cur, rfl, _⟩
    · omega
    · exact ⟨_, _, rfl⟩
  obtain ⟨a', c', rfl⟩ := hform
  obtain ⟨hok, hv, hw2⟩ := app_of hr
  refine ⟨a', c', w2, ⟨hok, hv, hw2⟩, ?_, ((Mv.refl _ _).alloc _).grown hgrow (fun k hk => .inl hk), fun g hg => ?_⟩
  · rw [RSymRow, flat_append]; simpa [flat] using hown1
  · rcases hnew g hg with h1 | h1
    · exact .inl h1
    · exact .inr (by simp at h1; omega)

/-- the blocks of rows of other elements are others -/
theorem kinds_apart {α β : Type} {f : α → List Value} {h : β → List Value} {n m e e' base base' : Nat} {w : World} {v v' : Value} {l : List α} {l' : List β} (h1 : w.ownsRow base e n v l.length (flat f l)) (h2 : w.ownsRow base' e' m v' l'.length (flat h l')) (he : e ≠ e') : ∀ g, v.ownBlock = some g → ¬ v'.ownBlock = some g := by
  intro g hg hg'
  rcases h1.2 with ⟨rfl, _⟩ | ⟨g1, c1, u1, rfl, _, hb1, _⟩
  · simp [Value.ownBlock] at hg
  · rcases h2.2 with ⟨rfl, _⟩ | ⟨g2, c2, u2, rfl, _, hb2, _⟩
    · simp [Value.ownBlock] at hg'
    · simp [Value.ownBlock] at hg hg'
      subst hg hg'
      rw [hb1] at hb2
      simp only [Option.some.injEq, Obj.cells.injEq] at hb2
      exact he hb2.2.1

theorem Tryd.elemIns : Elem Tryd.prog 26 57 5 40 := Elem.of Tryd.underlying26 Tryd.infoIns rfl (by decide) (by decide)
theorem ins_one {l : List Ins} : ∀ x ∈ l, ∀ u ∈ x.cells, u.oneCell' = true := by
  intro x _ u hu
  simp [Ins.cells] at hu
  rcases hu with rfl | rfl | rfl | rfl | rfl <;> rfl
/-- what is known of the operations of 'im.Code = append(im.Code, move(..)...)' -/
def YMv (n X : Nat) (cv mainv pv kv pp xv skv s1 : Value) (base nb : Nat) (mem stk : Value) (ck Lm : List Ins) : Nat → List Value → World → Prop
  | 0, [v], _ => v = .pointer (some ⟨X, 0, none⟩)
  | 1, [v], _ => v = cv
  | 2, [v], _ => v = mainv
  | 3, [v], _ => v = pv
  | 4, [v], _ => v = pv
  | 5, [v], _ => v = kv
  | 6, [v], _ => v = pp
  | 7, [v], _ => v = xv
  | 8, [v], _ => v = skv
  | 9, [v], _ => v = s1
  | 10, [v], w => InsRow w n v Lm
  | 11, [v], w => InsRow w base v (ck ++ Lm) ∧ ∀ g, v.ownBlock = some g → nb ≤ g
  | 12, [v], _ => v = .pointer (some ⟨X, 0, none⟩)
  | 13, [v], w => w.heap[X]? = some (.cells #[v, mem, stk] 36 (0, 0))
  | _, _, _ => True
section
variable {n X : Nat} {cv mainv pv kv pp xv skv s1 : Value} {base nb : Nat} {mem stk : Value} {ck Lm : List Ins} {x y : World}
theorem YMv.grow (hm : Grow x y) : ∀ j l, YMv n X cv mainv pv kv pp xv skv s1 base nb mem stk ck Lm j l x → YMv n X cv mainv pv kv pp xv skv s1 base nb mem stk ck Lm j l y := by
  intro j l h
  unfold YMv at h ⊢
  split at h <;> first | exact h | skip
  · exact row_keep h hm (fun _ _ e => e)
  · exact ⟨row_keep h.1 hm (fun _ _ e => e), h.2⟩
  · rw [hm.block X (lt_of_block h) (fun e => e)]; exact h
theorem YMv.const : ∀ j l, j ≠ 10 → j ≠ 11 → j ≠ 13 → YMv n X cv mainv pv kv pp xv skv s1 base nb mem stk ck Lm j l x → YMv n X cv mainv pv kv pp xv skv s1 base nb mem stk ck Lm j l y := by
  intro j l h10 h11 h13 h
  unfold YMv at h ⊢
  split at h <;> first | exact h | (simp_all; done)
theorem YMv.set (hm : Mv (fun b => b = X) x y) (hX : X < nb) : ∀ j l, j ≠ 10 → j ≠ 13 → YMv n X cv mainv pv kv pp xv skv s1 base nb mem stk ck Lm j l x → YMv n X cv mainv pv kv pp xv skv s1 base nb mem stk ck Lm j l y := by
  intro j l h10 h13 h
  unfold YMv at h ⊢
  split at h <;> first | exact h | (simp_all; done) | skip
  exact ⟨row_keep h.1 hm (fun g hg e => by have := h.2 g hg; omega), h.2⟩
theorem zmv_grow {c : Array Value} {f : List Ins} {v : Value} {b0 : Nat} (hm : Grow x y) : ∀ z, (if z = 0 then x.heap[X]? = some (.cells c 36 (0, 0)) else InsRow x b0 v f) → (if z = 0 then y.heap[X]? = some (.cells c 36 (0, 0)) else InsRow y b0 v f) := by
  intro z h
  split
  · rename_i hz
    rw [if_pos hz] at h
    rw [hm.block X (lt_of_block h) (fun e => e)]; exact h
  · rename_i hz
    rw [if_neg hz] at h
    exact row_keep h hm (fun _ _ e => e)
theorem zmv_app {c : Array Value} {f : List Ins} {v : Value} {b0 : Nat} (hm : Mv (fun b => v.ownBlock = some b) x y) (hX : ¬ v.ownBlock = some X) : ∀ z, z < 2 → z ≠ 1 → (if z = 0 then x.heap[X]? = some (.cells c 36 (0, 0)) else InsRow x b0 v f) → (if z = 0 then y.heap[X]? = some (.cells c 36 (0, 0)) else InsRow y b0 v f) := by
  intro z hz h1 h
  obtain rfl : z = 0 := by omega
  simp only [if_true] at h ⊢
  rw [hm.block X (lt_of_block h) hX]; exact h
end

theorem grow_at {w w' : World} {b : Nat} {x : Obj} (h : w.heap[b]? = some x) (hm : Grow w w') : w'.heap[b]? = some x := by rw [hm.block b (lt_of_block h) (fun e => e)]; exact h

/-- the state of the last loop: since wc only the image's block X and new memory have turned -/
structure Lk3 (X : Nat) (w wc wr : World) (mem stk : Int) (code : List Ins) (cv : Value) (syms : List SymD) (sv : Value) : Prop where
  lk : Lk2 X w wc wr mem stk code cv
  sy : RSymRow wr wc.heap.size sv syms
theorem Lk3.grow {X : Nat} {w wc wr w2 : World} {mem stk : Int} {code : List Ins} {cv : Value} {syms : List SymD} {sv : Value} (h : Lk3 X w wc wr mem stk code cv syms sv) (hm : Grow wr w2) : Lk3 X w wc w2 mem stk code cv syms sv :=
  ⟨⟨h.lk.mv.trans hm (fun _ e => e.elim), by rw [hm.block _ (lt_of_block h.lk.img) (fun e => e)]; exact h.lk.img, row_keep h.lk.row hm (fun _ _ e => e), h.lk.new⟩, row_keep h.sy hm (fun _ _ e => e)⟩
theorem Lk3.sym {X : Nat} {w wc wr w2 : World} {mem stk : Int} {code : List Ins} {cv : Value} {syms syms2 : List SymD} {sv sv2 : Value} (h : Lk3 X w wc wr mem stk code cv syms sv) (hX : X < wc.heap.size) (hm : Mv (fun b => sv.ownBlock = some b) wr w2) (hrow : RSymRow w2 wc.heap.size sv2 syms2) : Lk3 X w wc w2 mem stk code cv syms2 sv2 :=
  ⟨⟨h.lk.mv.trans hm (fun x e => .inr (h.sy.lt x e).1), by rw [hm.block _ (lt_of_block h.lk.img) (fun e => by have := (h.sy.lt _ e).1; omega)]; exact h.lk.img, row_keep h.lk.row hm (kinds_apart h.lk.row h.sy (by decide)), h.lk.new⟩, hrow⟩
theorem Lk3.put {X : Nat} {w wc wr w2 : World} {mem stk : Int} {code code2 : List Ins} {cv v2 : Value} {syms : List SymD} {sv : Value} (h : Lk3 X w wc wr mem stk code cv syms sv) (hX : X < wc.heap.size) (hm : Mv (fun b => cv.ownBlock = some b) wr w2) (hrow : InsRow w2 w.heap.size v2 code2) (hn : ∀ g, v2.ownBlock = some g → cv.ownBlock = some g ∨ wr.heap.size ≤ g) : Lk3 X w wc (w2.setCell ⟨X, 0, none⟩ v2) mem stk code2 v2 syms sv :=
  ⟨h.lk.put hX hm hrow hn, row_keep (row_keep h.sy hm (fun g hg e => kinds_apart h.lk.row h.sy (by decide) g e hg)) ((Mv.refl (fun b => b = X) w2).setCell (p := ⟨X, 0, none⟩) (.inl rfl) v2) (fun g hg e => by have := (h.sy.lt g hg).1; omega)⟩

set_option maxRecDepth 100000 in
set_option maxHeartbeats 16000000 in
theorem rlink_any (m : RObjV) (pv : Value) (procs : List RObjV) (w : World) (hm : RObjAt w m) (hp : RObjsAt w pv procs) (hfew : FewO m.d (procs.map (·.d))) (hmf : (0 ≤ m.d.cells ∧ m.d.cells ≤ 16384) ∧ 0 ≤ m.d.stacks ∧ m.d.stacks ≤ 16384) (hpf : ∀ o ∈ (procs.map (·.d)), (0 ≤ o.cells ∧ o.cells ≤ 16384) ∧ 0 ≤ o.stacks ∧ o.stacks ≤ 16384) :
    Calls Tryd.prog 14 #[m.val, pv] w (Linked w (rlinkD m.d (procs.map (·.d)))) := by
  obtain ⟨pa, pcap, rfl, hpcap, hplen⟩ := hp.row.form
  obtain ⟨a3, c3, a4, c4, ⟨hy3, hy4⟩, ⟨hccap, hclen⟩, -, -⟩ := hm.slices
  have HP := Lib.hid hp
  have HM := Lib.hid hm
  have HFW := Lib.hid hfew
  have hmcode := hfew.mc
  have hmrefs := hfew.refs.m
  have hpl := hfew.refs.p
  rw [List.length_map] at hpl
  have HPCO := Lib.hid (show ∀ x ∈ procs, x.d.code.length ≤ 80 from fun x hx => hfew.pc _ (List.mem_map.2 ⟨x, hx, rfl⟩))
  have HPRE := Lib.hid (show ∀ x ∈ procs, x.d.refs.length ≤ 80 from fun x hx => hfew.refs.r _ (List.mem_map.2 ⟨x, hx, rfl⟩))
  have HBD := Lib.hid (fun k hk => startAt_le m.d (procs.map (·.d)) hfew k hk)
  have HMXC := Lib.hid (fun k hk => maxTo_bd ObjD.cells (procs.map (·.d)) (fun x hx => (hpf x hx).1) k hk)
  have HMXS := Lib.hid (fun k hk => maxTo_bd ObjD.stacks (procs.map (·.d)) (fun x hx => (hpf x hx).2) k hk)
  have HPF := Lib.hid hpf
  have HRL := Lib.hid (show rlinkD m.d (procs.map (·.d)) = if rbadTo m.d (procs.map (·.d)) procs.length = true then ⟨[], 0, 0, [], 3⟩ else if rdupB (procs.map (·.d)) = true then ⟨[], 0, 0, [], 22⟩ else if 0 < (undTo (procs.map (·.d)) (m.d :: (procs.map (·.d))) (procs.length + 1)).length then ⟨[], 0, 0, [], 6⟩ else if tooBig m.d (procs.map (·.d)) = true then ⟨[], 0, 0, [], 5⟩ else ⟨rcodeTo m.d (procs.map (·.d)) procs.length, memOf m.d (procs.map (·.d)), stacksOf m.d (procs.map (·.d)), symsTo m.d (procs.map (·.d)) procs.length, 0⟩ from by unfold rlinkD; rw [List.length_map])
  have HUN := Lib.hid (fun (x : World) (hx : Grow w x) => rundef_any m (.slice pa procs.length pcap) procs x (hm.later hx) (hp.later hx) hpl hmrefs HPRE.out)
  obtain ⟨⟨hq1, hq2⟩, hq3, hq4⟩ := hmf
  obtain ⟨m', mcv, mrv⟩ := m
  simp only at hy3 hy4 hccap hclen hmcode hmrefs HBD HRL HUN hq1 hq2 hq3 hq4
  subst hy3 hy4
  clear hm hp hfew hpf
  have hg1 : Grow w (((w.alloc (.cells #[.string m'.name, .int .i64 m'.cells, .int .i64 m'.stacks, .slice a3 m'.code.length c3, .slice a4 m'.refs.length c4] 48)).alloc (.cells #[.slice none 0 0, .int .i64 0, .int .i64 0] 36)).alloc (.cells #[.slice none 0 0, .int .i64 0, .int .i64 0] 36)) := (((Mv.refl _ _).alloc _).alloc _).alloc _
  have hbM : (((w.alloc (.cells #[.string m'.name, .int .i64 m'.cells, .int .i64 m'.stacks, .slice a3 m'.code.length c3, .slice a4 m'.refs.length c4] 48)).alloc (.cells #[.slice none 0 0, .int .i64 0, .int .i64 0] 36)).alloc (.cells #[.slice none 0 0, .int .i64 0, .int .i64 0] 36)).heap[w.heap.size]? = some (.cells #[.string m'.name, .int .i64 m'.cells, .int .i64 m'.stacks, .slice a3 m'.code.length c3, .slice a4 m'.refs.length c4] 48 (0, 0)) := alloc_keep (alloc_keep (heap_alloc_new w _) _) _
  have hbR : (((w.alloc (.cells #[.string m'.name, .int .i64 m'.cells, .int .i64 m'.stacks, .slice a3 m'.code.length c3, .slice a4 m'.refs.length c4] 48)).alloc (.cells #[.slice none 0 0, .int .i64 0, .int .i64 0] 36)).alloc (.cells #[.slice none 0 0, .int .i64 0, .int .i64 0] 36)).heap[w.heap.size + 1]? = some (.cells #[.slice none 0 0, .int .i64 0, .int .i64 0] 36 (0, 0)) := by
    have h := heap_alloc_new (w.alloc (.cells #[.string m'.name, .int .i64 m'.cells, .int .i64 m'.stacks, .slice a3 m'.code.length c3, .slice a4 m'.refs.length c4] 48)) (.cells #[.slice none 0 0, .int .i64 0, .int .i64 0] 36)
    rw [World.size_alloc] at h
    exact alloc_keep h _
  have hbN : (((w.alloc (.cells #[.string m'.name, .int .i64 m'.cells, .int .i64 m'.stacks, .slice a3 m'.code.length c3, .slice a4 m'.refs.length c4] 48)).alloc (.cells #[.slice none 0 0, .int .i64 0, .int .i64 0] 36)).alloc (.cells #[.slice none 0 0, .int .i64 0, .int .i64 0] 36)).heap[w.heap.size + 1 + 1]? = some (.cells #[.slice none 0 0, .int .i64 0, .int .i64 0] 36 (0, 0)) := by
    have h := heap_alloc_new ((w.alloc (.cells #[.string m'.name, .int .i64 m'.cells, .int .i64 m'.stacks, .slice a3 m'.code.length c3, .slice a4 m'.refs.length c4] 48)).alloc (.cells #[.slice none 0 0, .int .i64 0, .int .i64 0] 36)) (.cells #[.slice none 0 0, .int .i64 0, .int .i64 0] 36)
    rw [World.size_alloc, World.size_alloc] at h
    exact h
  obtain ⟨⟨⟨x0, x1, x2⟩, x3, x4⟩, -⟩ := robj_cells hbM
  have HG1 := Lib.hid hg1
  have HBM := Lib.hid hbM
  have HBR := Lib.hid hbR
  have HBN := Lib.hid hbN
  clear hg1 hbM hbR hbN
  go_enter Tryd.func14, Tryd.ntmps14
  go_wp2_with fail
  clear x0 x1 x2 x3 x4
  generalize (((w.alloc (.cells #[.string m'.name, .int .i64 m'.cells, .int .i64 m'.stacks, .slice a3 m'.code.length c3, .slice a4 m'.refs.length c4] 48)).alloc (.cells #[.slice none 0 0, .int .i64 0, .int .i64 0] 36)).alloc (.cells #[.slice none 0 0, .int .i64 0, .int .i64 0] 36)) = w1 at *
  have HB0 := Lib.hid (show (!m'.name.toList.isEmpty) = rbadTo m' (procs.map (·.d)) 0 from by simp [rbadTo, emp_eq])
  go_loopw [8, 9] (fun bv t wr => ∃ k : Nat, t = .int .i64 k ∧ k ≤ procs.length ∧ bv = .bool (rbadTo m' (procs.map (·.d)) k) ∧ wr = w1) (fun _ t _ => procs.length - (intOf t).toNat)
  case atStart => exact ⟨0, rfl, Nat.zero_le _, by rw [← HB0.out], rfl⟩
  obtain ⟨k, rfl, hk, rfl, rfl⟩ := hrel
  by_cases hlt : k < procs.length
  · obtain ⟨b, off, cap', e, _, hcc⟩ := (HP.out.row.later HG1.out).at hlt
    simp only [Value.slice.injEq, true_and] at e
    obtain ⟨rfl, rfl⟩ := e
    have q0 := hcc 0 _ rfl
    simp only [Nat.add_zero] at q0
    have hbl : b < wr.heap.size := World.block_lt_of_cell? wr _ q0
    have HBS := Lib.hid (by have := rbadTo_succ m' (procs.map (·.d)) k (by simpa using hlt); simp only [List.getElem_map] at this; exact this)
    have HEM := Lib.hid (emp_eq procs[k].d.name)
    generalize procs[k].d.name = xn at *
    generalize rbadTo m' (procs.map (·.d)) k = bk at *
    clear hcc
    cases bk with
    | true =>
      go_wp2_with fail
      go_roundw
      case rel => exact ⟨k + 1, by go_num, by omega, by rw [HBS.out]; rfl, by trivial⟩
      case measure => simp [intOf]; omega
    | false =>
      go_wp2_with fail
      go_roundw
      case rel => exact ⟨k + 1, by go_num, by omega, by rw [HBS.out, ← HEM.out]; rfl, by trivial⟩
      case measure => simp [intOf]; omega
  obtain rfl : k = procs.length := by omega
  have HBB := Lib.hid (show rbadTo m' (procs.map (·.d)) procs.length = rbadTo m' (procs.map (·.d)) procs.length from rfl)
  generalize hbb : rbadTo m' (procs.map (·.d)) procs.length = bb at *
  cases bb with
  | true =>
    have HLE := Lib.hid (show rlinkD m' (procs.map (·.d)) = ⟨[], 0, 0, [], 3⟩ from by rw [HRL.out]; rw [if_pos rfl])
    obtain ⟨i0, i1, i2, iz⟩ := img_cells (HBR.out)
    obtain ⟨j0, j1, j2, -⟩ := img_cells (HBN.out)
    obtain ⟨hI3, hmv3⟩ := set3 (HBR.out) (.slice none 0 0) (.int .i64 0) (.int .i64 0)
    have HI3 := Lib.hid hI3
    have HMV3 := Lib.hid hmv3
    have HGW := Lib.hid (HG1.out)
    clear hI3 hmv3
    go_wp2_with fail
    have hI3 := HI3.out
    have hmv3 := HMV3.out
    generalize ((wr.setCell ⟨w.heap.size + 1, 0, none⟩ (.slice none 0 0)).setCell ⟨w.heap.size + 1, 1, none⟩ (.int .i64 0)).setCell ⟨w.heap.size + 1, 2, none⟩ (.int .i64 0) = w9 at *
    obtain ⟨k0, k1, k2, -⟩ := img_cells hI3
    refine bodyPost_ret (v := .tuple #[.agg #[.slice none 0 0, .int .i64 0, .int .i64 0], .slice none 0 0, .int .i64 3]) ?_ rfl ⟨.slice none 0 0, .slice none 0 0, by rw [HLE.out], ?_, by rw [HLE.out]; exact RowAt.nil _ _ _, by rw [HLE.out]; exact RowAt.nil _ _ _⟩
    · simp [results, Tryd.results14, go_sem, k0, k1, k2]
    · exact HGW.out.trans hmv3 (fun x e => .inr (by omega))
  | false =>
  clear hbb HBB
  have hlR := lt_of_block HBR.out
  have hlM := lt_of_block HBM.out
  have hlN := lt_of_block HBN.out
  obtain ⟨w1, rfl⟩ : ∃ w1 : World, w1 = wr := ⟨_, rfl⟩
  go_wp2_with fail
  go_loopw [10] (fun t wr => ∃ k : Nat, t = .int .i64 k ∧ k ≤ procs.length ∧ (∀ j, j < k → rdup (procs.map (·.d)) j = false) ∧ wr = w1) (fun t _ => procs.length - (intOf t).toNat)
  case atStart => exact ⟨0, rfl, Nat.zero_le _, fun j hj => by omega, rfl⟩
  obtain ⟨k, rfl, hk, hnd, rfl⟩ := hrel
  have HND := Lib.hid hnd
  clear hnd
  by_cases hlt : k < procs.length
  · obtain ⟨b, off, cap', e, _, hcc⟩ := (HP.out.row.later HG1.out).at hlt
    simp only [Value.slice.injEq, true_and] at e
    obtain ⟨rfl, rfl⟩ := e
    have q0 := hcc 0 _ rfl
    simp only [Nat.add_zero] at q0
    have hbl : b < wr.heap.size := World.block_lt_of_cell? wr _ q0
    have HRD := Lib.hid (show rdup (procs.map (·.d)) k = decide (findI (procs.map (·.d)) procs[k].d.name < k) from by unfold rdup; simp [hlt])
    have HFI := Lib.hid (find_any (.slice (some ⟨b, off, none⟩) procs.length pcap) procs procs[k].d.name wr (HP.out.later HG1.out))
    generalize procs[k].d.name = xn at *
    clear hcc
    go_wp2_with fail
    refine HFI.out.mono ?_
    rintro e w' ⟨rfl, rfl⟩
    by_cases hfi : findI (procs.map (·.d)) xn < (k : Int)
    · have HDB := Lib.hid (show rdupB (procs.map (·.d)) = true from List.any_eq_true.2 ⟨k, List.mem_range.2 (by simpa using hlt), by rw [HRD.out]; simpa using hfi⟩)
      have HLE := Lib.hid (show rlinkD m' (procs.map (·.d)) = ⟨[], 0, 0, [], 22⟩ from by rw [HRL.out]; rw [if_neg (by simp), if_pos HDB.out])
      obtain ⟨i0, i1, i2, iz⟩ := img_cells (HBR.out)
      obtain ⟨j0, j1, j2, -⟩ := img_cells (HBN.out)
      obtain ⟨hI3, hmv3⟩ := set3 (HBR.out) (.slice none 0 0) (.int .i64 0) (.int .i64 0)
      have HI3 := Lib.hid hI3
      have HMV3 := Lib.hid hmv3
      have HGW := Lib.hid (HG1.out)
      clear hI3 hmv3
      go_wp2_with fail
      have hI3 := HI3.out
      have hmv3 := HMV3.out
      generalize ((wr.setCell ⟨w.heap.size + 1, 0, none⟩ (.slice none 0 0)).setCell ⟨w.heap.size + 1, 1, none⟩ (.int .i64 0)).setCell ⟨w.heap.size + 1, 2, none⟩ (.int .i64 0) = w9 at *
      obtain ⟨k0, k1, k2, -⟩ := img_cells hI3
      refine bodyPost_ret (v := .tuple #[.agg #[.slice none 0 0, .int .i64 0, .int .i64 0], .slice none 0 0, .int .i64 22]) ?_ rfl ⟨.slice none 0 0, .slice none 0 0, by rw [HLE.out], ?_, by rw [HLE.out]; exact RowAt.nil _ _ _, by rw [HLE.out]; exact RowAt.nil _ _ _⟩
      · simp [results, Tryd.results14, go_sem, k0, k1, k2]
      · exact HGW.out.trans hmv3 (fun x e => .inr (by omega))
    · go_wp2_with fail
      go_roundw
      case rel => exact ⟨k + 1, by go_num, by omega, fun j hj => by
        rcases Nat.lt_or_ge j k with h | h
        · exact HND.out j h
        · obtain rfl : j = k := by omega
          rw [HRD.out]; simpa using hfi, by trivial⟩
      case measure => simp [intOf]; omega
  obtain rfl : k = procs.length := by omega
  have HDB := Lib.hid (show rdupB (procs.map (·.d)) = false from List.any_eq_false.2 fun j hj => by rw [HND.out j (by simpa using hj)]; simp)
  obtain ⟨⟨⟨x0, x1, x2⟩, x3, x4⟩, -⟩ := robj_cells HBM.out
  go_wp2_with fail
  refine (HUN.out wr HG1.out).mono ?_
  rintro e w2 ⟨v, rfl, hrow, hg2⟩
  obtain ⟨ua, uc, rfl, hucap, hulen⟩ := hrow.form
  clear hrow x0 x1 x2 x3 x4
  have hM2 := grow_at HBM.out hg2
  have hR2 := grow_at HBR.out hg2
  have hN2 := grow_at HBN.out hg2
  have HG2 := Lib.hid (Mv.trans HG1.out hg2 (fun _ e => e.elim))
  have HM2 := Lib.hid hM2
  have HR2 := Lib.hid hR2
  have HN2 := Lib.hid hN2
  have hlR2 := lt_of_block hR2
  have hlM2 := lt_of_block hM2
  have hlN2 := lt_of_block hN2
  clear hg2 hM2 hR2 hN2
  generalize hUU : undTo (procs.map (·.d)) (m' :: (procs.map (·.d))) (procs.length + 1) = U at *
  have HUU := Lib.hid hUU
  clear hUU
  by_cases hU : 0 < U.length
  · have HLE := Lib.hid (show rlinkD m' (procs.map (·.d)) = ⟨[], 0, 0, [], 6⟩ from by rw [HRL.out]; rw [if_neg (by simp), if_neg (by rw [HDB.out]; simp), if_pos hU])
    obtain ⟨i0, i1, i2, iz⟩ := img_cells (HR2.out)
    obtain ⟨j0, j1, j2, -⟩ := img_cells (HN2.out)
    obtain ⟨hI3, hmv3⟩ := set3 (HR2.out) (.slice none 0 0) (.int .i64 0) (.int .i64 0)
    have HI3 := Lib.hid hI3
    have HMV3 := Lib.hid hmv3
    have HGW := Lib.hid (HG2.out)
    clear hI3 hmv3
    go_wp2_with fail
    have hI3 := HI3.out
    have hmv3 := HMV3.out
    generalize ((w2.setCell ⟨w.heap.size + 1, 0, none⟩ (.slice none 0 0)).setCell ⟨w.heap.size + 1, 1, none⟩ (.int .i64 0)).setCell ⟨w.heap.size + 1, 2, none⟩ (.int .i64 0) = w9 at *
    obtain ⟨k0, k1, k2, -⟩ := img_cells hI3
    refine bodyPost_ret (v := .tuple #[.agg #[.slice none 0 0, .int .i64 0, .int .i64 0], .slice none 0 0, .int .i64 6]) ?_ rfl ⟨.slice none 0 0, .slice none 0 0, by rw [HLE.out], ?_, by rw [HLE.out]; exact RowAt.nil _ _ _, by rw [HLE.out]; exact RowAt.nil _ _ _⟩
    · simp [results, Tryd.results14, go_sem, k0, k1, k2]
    · exact HGW.out.trans hmv3 (fun x e => .inr (by omega))
  go_wp2_with fail
  go_loopw [11, 12, 13] (fun cx sx t wr => ∃ k : Nat, cx = .int .i64 (maxTo ObjD.cells (procs.map (·.d)) k) ∧ sx = .int .i64 (maxTo ObjD.stacks (procs.map (·.d)) k) ∧ t = .int .i64 k ∧ k ≤ procs.length ∧ Grow w2 wr) (fun _ _ t _ => procs.length - (intOf t).toNat)
  case atStart => exact ⟨0, rfl, rfl, rfl, Nat.zero_le _, Mv.refl _ _⟩
  obtain ⟨k, rfl, rfl, rfl, hk, hgr⟩ := hrel
  have HGR := Lib.hid hgr
  have hmxc := HMXC.out k (by simpa using hk)
  have hmxs := HMXS.out k (by simpa using hk)
  by_cases hlt : k < procs.length
  · obtain ⟨b, off, cap', e, _, hcc⟩ := (HP.out.row.later (Mv.trans HG2.out hgr (fun _ e => e.elim))).at hlt
    simp only [Value.slice.injEq, true_and] at e
    obtain ⟨rfl, rfl⟩ := e
    have q1 := hcc 1 _ rfl
    have q2 := hcc 2 _ rfl
    have hbl : b < wr.heap.size := World.block_lt_of_cell? wr _ q1
    have HXC := Lib.hid (by have := maxTo_succ ObjD.cells (procs.map (·.d)) k (by simpa using hlt); simp only [List.getElem_map] at this; exact this)
    have HXS := Lib.hid (by have := maxTo_succ ObjD.stacks (procs.map (·.d)) k (by simpa using hlt); simp only [List.getElem_map] at this; exact this)
    generalize procs[k].d.cells = xc at *
    generalize procs[k].d.stacks = xs at *
    generalize maxTo ObjD.cells (procs.map (·.d)) k = ck at *
    generalize maxTo ObjD.stacks (procs.map (·.d)) k = sk at *
    clear hcc hgr
    go_wp2_with fail
    go_region
    all_goals
      go_wp2_with fail
      go_roundw
      case rel => exact ⟨k + 1, by rw [HXC.out], by rw [HXS.out], by go_num, by omega, HGR.out.drew⟩
      case measure => simp [intOf]; omega
  obtain rfl : k = procs.length := by omega
  have hM3 := grow_at HM2.out hgr
  have hR3 := grow_at HR2.out hgr
  have hN3 := grow_at HN2.out hgr
  obtain ⟨⟨⟨x0, x1, x2⟩, x3, x4⟩, -⟩ := robj_cells hM3
  have HG3 := Lib.hid (Mv.trans HG2.out hgr (fun _ e => e.elim))
  have HTB := Lib.hid (show tooBig m' (procs.map (·.d)) = (decide (65536 < startAt m' (procs.map (·.d)) procs.length) || (decide (16384 < m'.cells + 101 * maxTo ObjD.cells (procs.map (·.d)) procs.length + 80) || decide (16384 < 1 + m'.stacks + 101 * maxTo ObjD.stacks (procs.map (·.d)) procs.length))) from by
    have e : m'.cells + 101 * maxTo ObjD.cells (procs.map (·.d)) procs.length + 80 = m'.cells + 80 + 101 * maxTo ObjD.cells (procs.map (·.d)) procs.length := by omega
    unfold tooBig memOf stacksOf; rw [List.length_map, e])
  have HMEM := Lib.hid (show memOf m' (procs.map (·.d)) = m'.cells + 101 * maxTo ObjD.cells (procs.map (·.d)) procs.length + 80 from by unfold memOf; rw [List.length_map]; omega)
  have HSTK := Lib.hid (show stacksOf m' (procs.map (·.d)) = 1 + m'.stacks + 101 * maxTo ObjD.stacks (procs.map (·.d)) procs.length from by unfold stacksOf; rw [List.length_map])
  generalize maxTo ObjD.cells (procs.map (·.d)) procs.length = mc at *
  generalize maxTo ObjD.stacks (procs.map (·.d)) procs.length = ms at *
  have hM4 := alloc_keep hM3 (.cells #[.slice none 0 0, .int .i64 (m'.cells + 101 * mc + 80), .int .i64 (1 + m'.stacks + 101 * ms)] 36)
  have hR4 := alloc_keep hR3 (.cells #[.slice none 0 0, .int .i64 (m'.cells + 101 * mc + 80), .int .i64 (1 + m'.stacks + 101 * ms)] 36)
  have hN4 := alloc_keep hN3 (.cells #[.slice none 0 0, .int .i64 (m'.cells + 101 * mc + 80), .int .i64 (1 + m'.stacks + 101 * ms)] 36)
  have hX4 := heap_alloc_new wr (.cells #[.slice none 0 0, .int .i64 (m'.cells + 101 * mc + 80), .int .i64 (1 + m'.stacks + 101 * ms)] 36)
  have HG4 := Lib.hid (HG3.out.alloc (.cells #[.slice none 0 0, .int .i64 (m'.cells + 101 * mc + 80), .int .i64 (1 + m'.stacks + 101 * ms)] 36))
  obtain ⟨⟨⟨y0, y1, y2⟩, y3, y4⟩, -⟩ := robj_cells hM4
  have HST := Lib.hid (start_any ⟨m', .slice a3 m'.code.length c3, .slice a4 m'.refs.length c4⟩ (.slice pa procs.length pcap) procs (procs.length : Int) (wr.alloc (.cells #[.slice none 0 0, .int .i64 (m'.cells + 101 * mc + 80), .int .i64 (1 + m'.stacks + 101 * ms)] 36)) (HM.out.later HG4.out) (HP.out.later HG4.out) (Int.le_refl _) (by simp only; omega) (by omega) (fun x hx => by have := HPCO.out x hx; omega))
  simp only [Int.toNat_natCast] at HST
  have hlX := lt_of_block hX4
  have HM4 := Lib.hid hM4
  have HR4 := Lib.hid hR4
  have HN4 := Lib.hid hN4
  have HX4 := Lib.hid hX4
  have hszr := HG3.out.size
  have hlR3 := lt_of_block hR3
  have hlM3 := lt_of_block hM3
  have hlN3 := lt_of_block hN3
  clear hM3 hR3 hN3 hM4 hR4 hN4 hX4 hgr
  go_wp2_with fail
  refine HST.out.mono ?_
  rintro e w5 ⟨rfl, hg5⟩
  have hM5 := grow_at HM4.out hg5
  have hR5 := grow_at HR4.out hg5
  have hN5 := grow_at HN4.out hg5
  have hX5 := grow_at HX4.out hg5
  have HG5 := Lib.hid (Mv.trans HG4.out hg5 (fun _ e => e.elim))
  have HM5 := Lib.hid hM5
  have HR5 := Lib.hid hR5
  have HN5 := Lib.hid hN5
  have HX5 := Lib.hid hX5
  have hlX5 := lt_of_block hX5
  have hlM5 := lt_of_block hM5
  have hlR5 := lt_of_block hR5
  have hlN5 := lt_of_block hN5
  obtain ⟨u0, u1, u2, uz⟩ := img_cells hX5
  obtain ⟨⟨⟨z0, z1, z2⟩, z3, z4⟩, -⟩ := robj_cells hM5
  clear hg5 hM5 hR5 hN5 hX5 x0 x1 x2 x3 x4 y0 y1 y2 y3 y4 HM4 HR4 HN4 HX4 HST
  have hbs := HBD.out procs.length (by simp)
  have hbig : ¬ (65536 : Int) < startAt m' (procs.map (·.d)) procs.length := by
    have : procs.length * 82 ≤ 16 * 82 := Nat.mul_le_mul_right _ hpl
    omega
  by_cases hA : (16384 : Int) < (m'.cells + 101 * mc + 80)
  · have HLE := Lib.hid (show rlinkD m' (procs.map (·.d)) = ⟨[], 0, 0, [], 5⟩ from by rw [HRL.out]; rw [if_neg (by simp), if_neg (by rw [HDB.out]; simp), if_neg hU, if_pos (by rw [HTB.out]; simp [hA])])
    obtain ⟨i0, i1, i2, iz⟩ := img_cells (HR5.out)
    obtain ⟨j0, j1, j2, -⟩ := img_cells (HN5.out)
    obtain ⟨hI3, hmv3⟩ := set3 (HR5.out) (.slice none 0 0) (.int .i64 0) (.int .i64 0)
    have HI3 := Lib.hid hI3
    have HMV3 := Lib.hid hmv3
    have HGW := Lib.hid (HG5.out)
    clear hI3 hmv3
    go_wp2_with fail
    have hI3 := HI3.out
    have hmv3 := HMV3.out
    generalize ((w5.setCell ⟨w.heap.size + 1, 0, none⟩ (.slice none 0 0)).setCell ⟨w.heap.size + 1, 1, none⟩ (.int .i64 0)).setCell ⟨w.heap.size + 1, 2, none⟩ (.int .i64 0) = w9 at *
    obtain ⟨k0, k1, k2, -⟩ := img_cells hI3
    refine bodyPost_ret (v := .tuple #[.agg #[.slice none 0 0, .int .i64 0, .int .i64 0], .slice none 0 0, .int .i64 5]) ?_ rfl ⟨.slice none 0 0, .slice none 0 0, by rw [HLE.out], ?_, by rw [HLE.out]; exact RowAt.nil _ _ _, by rw [HLE.out]; exact RowAt.nil _ _ _⟩
    · simp [results, Tryd.results14, go_sem, k0, k1, k2]
    · exact HGW.out.trans hmv3 (fun x e => .inr (by omega))
  by_cases hB : (16384 : Int) < (1 + m'.stacks + 101 * ms)
  · have HLE := Lib.hid (show rlinkD m' (procs.map (·.d)) = ⟨[], 0, 0, [], 5⟩ from by rw [HRL.out]; rw [if_neg (by simp), if_neg (by rw [HDB.out]; simp), if_neg hU, if_pos (by rw [HTB.out]; simp [hB])])
    obtain ⟨i0, i1, i2, iz⟩ := img_cells (HR5.out)
    obtain ⟨j0, j1, j2, -⟩ := img_cells (HN5.out)
    obtain ⟨hI3, hmv3⟩ := set3 (HR5.out) (.slice none 0 0) (.int .i64 0) (.int .i64 0)
    have HI3 := Lib.hid hI3
    have HMV3 := Lib.hid hmv3
    have HGW := Lib.hid (HG5.out)
    clear hI3 hmv3
    go_wp2_with fail
    have hI3 := HI3.out
    have hmv3 := HMV3.out
    generalize ((w5.setCell ⟨w.heap.size + 1, 0, none⟩ (.slice none 0 0)).setCell ⟨w.heap.size + 1, 1, none⟩ (.int .i64 0)).setCell ⟨w.heap.size + 1, 2, none⟩ (.int .i64 0) = w9 at *
    obtain ⟨k0, k1, k2, -⟩ := img_cells hI3
    refine bodyPost_ret (v := .tuple #[.agg #[.slice none 0 0, .int .i64 0, .int .i64 0], .slice none 0 0, .int .i64 5]) ?_ rfl ⟨.slice none 0 0, .slice none 0 0, by rw [HLE.out], ?_, by rw [HLE.out]; exact RowAt.nil _ _ _, by rw [HLE.out]; exact RowAt.nil _ _ _⟩
    · simp [results, Tryd.results14, go_sem, k0, k1, k2]
    · exact HGW.out.trans hmv3 (fun x e => .inr (by omega))
  have HLE := Lib.hid (show rlinkD m' (procs.map (·.d)) = ⟨rcodeTo m' (procs.map (·.d)) procs.length, memOf m' (procs.map (·.d)), stacksOf m' (procs.map (·.d)), symsTo m' (procs.map (·.d)) procs.length, 0⟩ from by rw [HRL.out, if_neg (by simp), if_neg (by rw [HDB.out]; simp), if_neg hU, if_neg (by rw [HTB.out]; simp [hA, hB]; omega)])
  have HMV0 := Lib.hid (move_any ⟨m', .slice a3 m'.code.length c3, .slice a4 m'.refs.length c4⟩ ⟨m', .slice a3 m'.code.length c3, .slice a4 m'.refs.length c4⟩ (.slice pa procs.length pcap) procs 0 w5 (HM.out.later HG5.out) (HP.out.later HG5.out) (HM.out.later HG5.out) (by simp only; omega) (by omega) (fun x hx => by have := HPCO.out x hx; omega) (by simp only; omega) (by simp only; omega))
  clear HRL HTB
  go_wp2_with fail
  refine HMV0.out.mono ?_
  rintro e w6 ⟨v6, rfl, hrow6, hg6⟩
  have hml := moveL_len m' (procs.map (·.d)) m' 0
  obtain ⟨va, vc, hv6⟩ := row_slice hrow6
  subst hv6
  obtain ⟨a8, c8, w8, ⟨hok8, hv8, hw8⟩, hrow8, hmv8, hnew8⟩ := app_ins _ ⟨34, 0, 0, 0, 0⟩ _ _ w6 hrow6 hg6.size (by rw [hml]; omega)
  have hmv58 : Mv (fun b => (Value.slice none 0 0).ownBlock = some b) w5 w8 := (hg6.trans hmv8 (fun x e => .inr (hrow6.lt x e).1)).mono (fun _ e => e.elim)
  have hL8 := Lk2.put (show Lk2 wr.heap.size w w5 w5 (m'.cells + 101 * mc + 80) (1 + m'.stacks + 101 * ms) [] (.slice none 0 0) from ⟨Mv.refl _ _, HX5.out, World.ownsRow_nil _ _ _ _, by simp [Value.ownBlock]⟩) hlX5 hmv58 (ins_base hrow8 HG5.out.size) (fun g hg => .inr (by
    rcases hnew8 g hg with h | h
    · exact (hrow6.lt g h).1
    · have := hg6.size; omega))
  have hX8 : w8.heap[wr.heap.size]? = some (.cells #[.slice none 0 0, .int .i64 (m'.cells + 101 * mc + 80), .int .i64 (1 + m'.stacks + 101 * ms)] 36 (0, 0)) := by rw [hmv58.block _ hlX5 (by simp [Value.ownBlock])]; exact HX5.out
  obtain ⟨p0, p1, p2, pz⟩ := img_cells hX8
  have hlX8 := lt_of_block hX8
  have HL9 := Lib.hid (show Lk3 wr.heap.size w w5 _ (m'.cells + 101 * mc + 80) (1 + m'.stacks + 101 * ms) (rcodeTo m' (procs.map (·.d)) 0) _ (symsTo m' (procs.map (·.d)) 0) (.slice none 0 0) from ⟨hL8, World.ownsRow_nil _ _ _ _⟩)
  clear hrow6 hg6 hmv58 hL8 hX8 hrow8 hmv8 hnew8 hml u0 u1 u2 uz
  generalize moveL m' (procs.map (·.d)) m' 0 = L0 at *
  go_wp2_with fail
  clear p0 p1 p2 pz hok8 hv8 hw8 z0 z1 z2 z3 z4
  generalize w8.setCell ⟨wr.heap.size, 0, none⟩ (.slice a8 (L0.length + 1) c8) = w9 at *
  clear HMV0 HUN HG4
  clear HGR HG3
  generalize wr.heap.size = X at *
  obtain ⟨wold, rfl⟩ : ∃ wold : World, wold = wr := ⟨_, rfl⟩
  go_loopw [15, 16] (fun sy t wr => ∃ (k : Nat) (cv : Value), t = .int .i64 k ∧ k ≤ procs.length ∧ Lk3 X w w5 wr (m'.cells + 101 * mc + 80) (1 + m'.stacks + 101 * ms) (rcodeTo m' (procs.map (·.d)) k) cv (symsTo m' (procs.map (·.d)) k) sy) (fun _ t _ => procs.length - (intOf t).toNat)
  case atStart => exact ⟨0, _, rfl, Nat.zero_le _, HL9.out⟩
  obtain ⟨k, cv, rfl, hk, hst⟩ := hrel
  have hgw : Grow w wr := HG5.out.trans hst.lk.mv (fun x e => .inr (by omega))
  have hMr : wr.heap[w.heap.size]? = some (.cells #[.string m'.name, .int .i64 m'.cells, .int .i64 m'.stacks, .slice a3 m'.code.length c3, .slice a4 m'.refs.length c4] 48 (0, 0)) := by rw [hst.lk.mv.block _ hlM5 (by omega)]; exact HM5.out
  have hszr5 := hst.lk.mv.size
  have hcn := rcodeTo_len m' (procs.map (·.d)) k (by simpa using hk)
  have hsl := symsTo_len m' (procs.map (·.d)) k (by simpa using hk)
  have hbk := HBD.out k (by simpa using hk)
  obtain ⟨na, nc, hcv⟩ := row_slice hst.lk.row
  subst hcv
  obtain ⟨sa, sc, hsv⟩ := row_slice hst.sy
  subst hsv
  have HST := Lib.hid hst
  by_cases hlt : k < procs.length
  · have hxo := HP.out.each procs[k] (List.getElem_mem hlt)
    obtain ⟨b3, e3, b4, e4, ⟨hz3, hz4⟩, ⟨hzc, hzl⟩, hrc2, hrl2⟩ := hxo.slices
    have hxc := HPCO.out procs[k] (List.getElem_mem hlt)
    have hxr := HPRE.out procs[k] (List.getElem_mem hlt)
    have HSC := Lib.hid (by have := rcodeTo_succ m' (procs.map (·.d)) k (by simpa using hlt); simp only [List.getElem_map] at this; exact this)
    have HSY := Lib.hid (by have := symsTo_succ m' (procs.map (·.d)) k (by simpa using hlt); simp only [List.getElem_map] at this; exact this)
    obtain ⟨b, off, cap', e, _, _⟩ := (HP.out.row.later hgw).at hlt
    simp only [Value.slice.injEq, true_and] at e
    obtain ⟨rfl, rfl⟩ := e
    have HROWX := Lib.hid (fun (x : World) (hx : Grow w x) => (HP.out.row.later hx).at' hlt)
    have HXO := Lib.hid hxo
    generalize procs[k] = x at *
    obtain ⟨xd, xcv, xrv⟩ := x
    simp only at hz3 hz4 hzc hzl hrc2 hrl2 hxc hxr HSC HSY
    subst hz3 hz4
    have HSTA := Lib.hid (start_any ⟨m', .slice a3 m'.code.length c3, .slice a4 m'.refs.length c4⟩ (.slice (some ⟨b, off, none⟩) procs.length pcap) procs (k : Int) wr (HM.out.later hgw) (HP.out.later hgw) (by omega) (by simp only; omega) (by omega) (fun x hx => by have := HPCO.out x hx; omega))
    simp only [Int.toNat_natCast] at HSTA
    generalize startAt m' (procs.map (·.d)) k = sk at *
    generalize rcodeTo m' (procs.map (·.d)) k = ck at *
    generalize symsTo m' (procs.map (·.d)) k = sy at *
    have hclb : ck.length ≤ 2000 := by omega
    have hslb : sy.length ≤ 16 := by omega
    have hskb : sk ≤ 2000 := by omega
    obtain ⟨⟨⟨y0, y1, y2⟩, y3, y4⟩, -⟩ := robj_cells hMr
    have hlMr := lt_of_block hMr
    clear hMr hxo hst hcn hsl hbk
    go_wp2_with fail
    refine HSTA.out.mono ?_
    rintro e w11 ⟨rfl, hg11⟩
    have hst11 := HST.out.grow hg11
    have hgw11 := Mv.trans hgw hg11 (fun _ e => e.elim)
    obtain ⟨a12, c12, w12, ⟨hok12, hv12, hw12⟩, hrow12, hmv12, -⟩ := app_rsym _ ⟨xd.name, sk⟩ _ _ w11 hst11.sy hst11.lk.mv.size (by omega)
    have hst12 := hst11.sym hlX5 hmv12 hrow12
    have hgw12 : Grow w w12 := HG5.out.trans hst12.lk.mv (fun x e => .inr (by omega))
    have q0 := HROWX.out w11 hgw11 0 _ rfl
    simp only [Nat.add_zero] at q0
    have hbl11 := World.block_lt_of_cell? w11 _ q0
    have r3 := HROWX.out w12 hgw12 3 _ rfl
    have hbl12 := World.block_lt_of_cell? w12 _ r3
    have hrowd : InsRow w12.drew w.heap.size (.slice na ck.length nc) ck := hst12.lk.row
    obtain ⟨a13, c13, w13, ⟨hok13, hv13, hw13⟩, hrow13, hmv13d, hnew13⟩ := app_ins (.slice na ck.length nc) ⟨32, (sk : Int) + xd.code.length + 1, 0, 0, 0⟩ _ _ w12.drew hrowd hgw12.size (by omega)
    have hok : AppOK Tryd.prog 26 26 (.slice na ck.length nc) (.slice (some ⟨w12.heap.size, 0, none⟩) 1 1) (w12.alloc (.cells #[.int .u8 32, .int .i64 ((sk : Int) + xd.code.length + 1), .int .i64 0, .int .i64 0, .int .i64 0] 57)).drew := hok13
    have hv : appV Tryd.prog 26 26 (.slice na ck.length nc) (.slice (some ⟨w12.heap.size, 0, none⟩) 1 1) (w12.alloc (.cells #[.int .u8 32, .int .i64 ((sk : Int) + xd.code.length + 1), .int .i64 0, .int .i64 0, .int .i64 0] 57)).drew = .slice a13 (ck.length + 1) c13 := hv13
    have hw : appW Tryd.prog 26 26 (.slice na ck.length nc) (.slice (some ⟨w12.heap.size, 0, none⟩) 1 1) (w12.alloc (.cells #[.int .u8 32, .int .i64 ((sk : Int) + xd.code.length + 1), .int .i64 0, .int .i64 0, .int .i64 0] 57)).drew = w13 := hw13
    have hmv13 : Mv (fun b => (Value.slice na ck.length nc).ownBlock = some b) w12 w13 := (Mv.refl _ _).drew.trans hmv13d (fun _ e => .inl e)
    have HST14 := Lib.hid (hst12.put hlX5 hmv13 hrow13 hnew13)
    have hX13 : w13.heap[X]? = some (.cells #[.slice na ck.length nc, .int .i64 (m'.cells + 101 * mc + 80), .int .i64 (1 + m'.stacks + 101 * ms)] 36 (0, 0)) := by rw [hmv13.block _ (lt_of_block hst12.lk.img) (fun e => by have := hst12.lk.new _ e; omega)]; exact hst12.lk.img
    obtain ⟨p0, p1, p2, pz⟩ := img_cells hst12.lk.img
    obtain ⟨s0, s1, s2, sz⟩ := img_cells hX13
    have hlX12 := lt_of_block hst12.lk.img
    have hlX13 := lt_of_block hX13
    clear hok13 hv13 hw13 hrow13 hmv13d hnew13 hmv13 hX13 hrowd hst11 hst12 hrow12 hmv12 hg11 hgw hgw11 hgw12 y0 y1 y2 y3 y4 HSTA HST
    go_wp2_with fail
    go_region
    go_wp2_with fail
    clear q0 r3 hok hv hw p0 p1 p2 pz s0 s1 s2 sz hok12 hv12 hw12 hbl11 hbl12 hlX12 hlX13
    generalize w13.setCell ⟨X, 0, none⟩ (.slice a13 (ck.length + 1) c13) = w14 at *
    have hst14 := HST14.out
    have hgw14 : Grow w w14 := HG5.out.trans hst14.lk.mv (fun x e => .inr (by omega))
    have hsz14 := hst14.lk.mv.size
    have HNEW := Lib.hid (fun g (hg : (Value.slice a13 (ck.length + 1) c13).ownBlock = some g) => hst14.lk.new g hg)
    have HGX := Lib.hid (fun (x : World) (hx : Mv (fun b => b = X ∨ (Value.slice a13 (ck.length + 1) c13).ownBlock = some b) w14.drew x) => (show Grow w x from Mv.trans (Mv.drew hgw14) hx (fun g hg => .inr (by
      rcases hg with rfl | hg
      · omega
      · have := HNEW.out g hg; omega))))
    have HMX := Lib.hid (fun (x : World) (hx : Mv (fun b => b = X ∨ (Value.slice a13 (ck.length + 1) c13).ownBlock = some b) w14.drew x) => (show x.heap[w.heap.size]? = some (.cells #[.string m'.name, .int .i64 m'.cells, .int .i64 m'.stacks, .slice a3 m'.code.length c3, .slice a4 m'.refs.length c4] 48 (0, 0)) from by
      have h14 : w14.heap[w.heap.size]? = some (.cells #[.string m'.name, .int .i64 m'.cells, .int .i64 m'.stacks, .slice a3 m'.code.length c3, .slice a4 m'.refs.length c4] 48 (0, 0)) := by rw [hst14.lk.mv.block _ hlM5 (by omega)]; exact HM5.out
      rw [hx.block _ (lt_of_block h14) (fun e => by
        rcases e with e | e
        · omega
        · have := HNEW.out _ e; omega)]
      exact h14))
    have HSX := Lib.hid (fun (x : World) (hx : Mv (fun b => b = X ∨ (Value.slice a13 (ck.length + 1) c13).ownBlock = some b) w14.drew x) => (show w14.heap.size ≤ x.heap.size from hx.size))
    clear hst14
    refine wp_region_stepsZ (by kernel_rfl) 176 [some 154, some 155, some 156, some 157, some 158, some 159, some 160, some 161, some 162, some 163, some 164, some 165, some 166, none] [[], [0], [], [], [], [], [4, 5], [6], [], [8], [2, 3, 7, 9], [1, 10, 10], [0, 1, 2, 3, 4, 5, 6, 7, 8, 9, 10, 11], [12, 11, 11, 0, 1, 2, 3, 4, 5, 6, 7, 8, 9, 10, 11]] [[], [0], [], [], [], [], [4, 5], [6], [], [8], [2, 3, 7, 9], [1, 10], [], [12, 11]] [[0], [1], [2], [3], [4], [5], [6], [7], [8], [9], [10], [11], [12], [11]] [[], [], [], [], [], [], [], [], [], [], [11], [], [], []] rfl (by kernel_rfl) (Mv (fun b => b = X ∨ (Value.slice a13 (ck.length + 1) c13).ownBlock = some b)) (fun _ => Mv.refl _ _) (fun x y z h1 h2 => h1.trans h2 (fun _ e => .inl e)) (YMv w14.heap.size X (.slice a13 (ck.length + 1) c13) (.agg #[.string m'.name, .int .i64 m'.cells, .int .i64 m'.stacks, .slice a3 m'.code.length c3, .slice a4 m'.refs.length c4]) (.slice (some ⟨b, off, none⟩) procs.length pcap) (.int .i64 k) (.pointer (some ⟨b, off + k * 5, none⟩)) (.agg #[.string xd.name, .int .i64 xd.cells, .int .i64 xd.stacks, .slice b3 xd.code.length e3, .slice b4 xd.refs.length e4]) (.int .i64 sk) (.int .i64 (sk + 1)) w.heap.size w5.heap.size (.int .i64 (m'.cells + 101 * mc + 80)) (.int .i64 (1 + m'.stacks + 101 * ms)) (ck ++ [(⟨32, (sk : Int) + xd.code.length + 1, 0, 0, 0⟩ : Ins)]) (moveL m' (procs.map (·.d)) xd (sk + 1))) (fun z x => if z = 0 then x.heap[X]? = some (.cells #[.slice a13 (ck.length + 1) c13, .int .i64 (m'.cells + 101 * mc + 80), .int .i64 (1 + m'.stacks + 101 * ms)] 36 (0, 0)) else InsRow x w.heap.size (.slice a13 (ck.length + 1) c13) (ck ++ [(⟨32, (sk : Int) + xd.code.length + 1, 0, 0, 0⟩ : Ins)])) [[13], [11]] ?z0 ?steps ?done
    case z0 =>
      intro z hz
      have hst14 := HST14.out
      match z, hz with
      | 0, _ => exact hst14.lk.img
      | 1, _ => exact hst14.lk.row
    case steps =>
      refine ⟨?s0, ?s1, ?s2, ?s3, ?s4, ?s5, ?s6, ?s7, ?s8, ?s9, ?s10, ?s11, ?s12, ?s13, trivial⟩
      case s0 =>
        intro vs x hx hY hZ
        clear hY hZ
        unfold Gives
        simp only [actL, Act.put, List.getD_cons_zero, List.getD_cons_succ, List.setIfInBounds_toArray, List.set_cons_zero, List.set_cons_succ]
        go_simp
        exact ⟨Mv.refl _ _, by intros; assumption, rfl, by intros; assumption⟩
      case s1 =>
        intro vs x hx hY hZ
        have h0 : vs 0 = .pointer (some ⟨X, 0, none⟩) := hY 0 (by simp) (by simp)
        have hX := hZ 0 (by decide) (by simp)
        simp only [if_true] at hX
        obtain ⟨p0, p1, p2, pz⟩ := img_cells hX
        clear hY hZ hX
        unfold Gives
        simp only [actL, Act.put, List.getD_cons_zero, List.getD_cons_succ, List.setIfInBounds_toArray, List.set_cons_zero, List.set_cons_succ, h0]
        go_simp
        exact ⟨Mv.refl _ _, by intros; assumption, rfl, by intros; assumption⟩
      case s2 =>
        intro vs x hx hY hZ
        obtain ⟨⟨⟨y0, y1, y2⟩, y3, y4⟩, -⟩ := robj_cells (HMX.out x hx)
        clear hY hZ
        unfold Gives
        simp only [actL, Act.put, List.getD_cons_zero, List.getD_cons_succ, List.setIfInBounds_toArray, List.set_cons_zero, List.set_cons_succ]
        go_simp
        exact ⟨Mv.refl _ _, by intros; assumption, rfl, by intros; assumption⟩
      case s3 =>
        intro vs x hx hY hZ
        clear hY hZ
        unfold Gives
        simp only [actL, Act.put, List.getD_cons_zero, List.getD_cons_succ, List.setIfInBounds_toArray, List.set_cons_zero, List.set_cons_succ]
        go_simp
        exact ⟨Mv.refl _ _, by intros; assumption, rfl, by intros; assumption⟩
      case s4 =>
        intro vs x hx hY hZ
        clear hY hZ
        unfold Gives
        simp only [actL, Act.put, List.getD_cons_zero, List.getD_cons_succ, List.setIfInBounds_toArray, List.set_cons_zero, List.set_cons_succ]
        go_simp
        exact ⟨Mv.refl _ _, by intros; assumption, rfl, by intros; assumption⟩
      case s5 =>
        intro vs x hx hY hZ
        clear hY hZ
        unfold Gives
        simp only [actL, Act.put, List.getD_cons_zero, List.getD_cons_succ, List.setIfInBounds_toArray, List.set_cons_zero, List.set_cons_succ]
        go_simp
        exact ⟨Mv.refl _ _, by intros; assumption, rfl, by intros; assumption⟩
      case s6 =>
        intro vs x hx hY hZ
        have h4 : vs 4 = .slice (some ⟨b, off, none⟩) procs.length pcap := hY 4 (by simp) (by simp)
        have h5 : vs 5 = .int .i64 k := hY 5 (by simp) (by simp)
        clear hY hZ
        unfold Gives
        simp only [actL, Act.put, List.getD_cons_zero, List.getD_cons_succ, List.setIfInBounds_toArray, List.set_cons_zero, List.set_cons_succ, h4, h5]
        go_simp
        exact ⟨Mv.refl _ _, by intros; assumption, rfl, by intros; assumption⟩
      case s7 =>
        intro vs x hx hY hZ
        have h6 : vs 6 = .pointer (some ⟨b, off + k * 5, none⟩) := hY 6 (by simp) (by simp)
        have hcc := HROWX.out x (HGX.out x hx)
        have q0 := hcc 0 _ rfl
        have q1 := hcc 1 _ rfl
        have q2 := hcc 2 _ rfl
        have q3 := hcc 3 _ rfl
        have q4 := hcc 4 _ rfl
        simp only [Nat.add_zero] at q0
        clear hY hZ hcc
        unfold Gives
        simp only [actL, Act.put, List.getD_cons_zero, List.getD_cons_succ, List.setIfInBounds_toArray, List.set_cons_zero, List.set_cons_succ, h6]
        go_simp
        exact ⟨Mv.refl _ _, by intros; assumption, rfl, by intros; assumption⟩
      case s8 =>
        intro vs x hx hY hZ
        clear hY hZ
        unfold Gives
        simp only [actL, Act.put, List.getD_cons_zero, List.getD_cons_succ, List.setIfInBounds_toArray, List.set_cons_zero, List.set_cons_succ]
        go_simp
        exact ⟨Mv.refl _ _, by intros; assumption, rfl, by intros; assumption⟩
      case s9 =>
        intro vs x hx hY hZ
        have h8 : vs 8 = .int .i64 sk := hY 8 (by simp) (by simp)
        have i1 : IntKind.i64.wrap ((sk : Int) + 1) = (sk : Int) + 1 := IntWalk.i64_in _ (by omega)
        clear hY hZ
        unfold Gives
        simp only [actL, Act.put, List.getD_cons_zero, List.getD_cons_succ, List.setIfInBounds_toArray, List.set_cons_zero, List.set_cons_succ, h8]
        go_simp
        exact ⟨Mv.refl _ _, by intros; assumption, rfl, by intros; assumption⟩
      case s10 =>
        intro vs x hx hY hZ
        have h2 : vs 2 = .agg #[.string m'.name, .int .i64 m'.cells, .int .i64 m'.stacks, .slice a3 m'.code.length c3, .slice a4 m'.refs.length c4] := hY 2 (by simp) (by simp)
        have h3 : vs 3 = .slice (some ⟨b, off, none⟩) procs.length pcap := hY 3 (by simp) (by simp)
        have h7 : vs 7 = .agg #[.string xd.name, .int .i64 xd.cells, .int .i64 xd.stacks, .slice b3 xd.code.length e3, .slice b4 xd.refs.length e4] := hY 7 (by simp) (by simp)
        have h9 : vs 9 = .int .i64 (sk + 1) := hY 9 (by simp) (by simp)
        have HF := Lib.hid (move_any ⟨m', .slice a3 m'.code.length c3, .slice a4 m'.refs.length c4⟩ ⟨xd, .slice b3 xd.code.length e3, .slice b4 xd.refs.length e4⟩ (.slice (some ⟨b, off, none⟩) procs.length pcap) procs (sk + 1) x (HM.out.later (HGX.out x hx)) (HP.out.later (HGX.out x hx)) (HXO.out.later (HGX.out x hx)) (by simp only; omega) (by omega) (fun x hx => by have := HPCO.out x hx; omega) (by simp only; omega) (by simp only; omega))
        have hs14 := HSX.out x hx
        clear hY hZ
        unfold Gives
        simp only [actL, Act.put, List.getD_cons_zero, List.getD_cons_succ, List.setIfInBounds_toArray, List.set_cons_zero, List.set_cons_succ, h2, h3, h7, h9]
        go_simp
        refine HF.out.mono ?_
        rintro e y ⟨v, rfl, hrow, hg⟩
        refine ⟨v, rfl, hg.mono (fun _ e => e.elim), ?_, ins_base hrow hs14, ?_⟩
        · intro z; intros; exact zmv_grow hg z (by assumption)
        · intro j l; intros; exact YMv.grow hg j l (by assumption)
      case s11 =>
        intro vs x hx hY hZ
        have h1 : vs 1 = .slice a13 (ck.length + 1) c13 := hY 1 (by simp) (by simp)
        have h10 : InsRow x w14.heap.size (vs 10) (moveL m' (procs.map (·.d)) xd (sk + 1)) := hY 10 (by simp) (by simp)
        obtain ⟨a10, c10, h10e⟩ := row_slice h10
        rw [h10e] at h10
        have hr1 := hZ 1 (by decide) (by simp)
        simp only [Nat.reduceEqDiff, if_false, Nat.one_ne_zero] at hr1
        have hml := moveL_len m' (procs.map (·.d)) xd (sk + 1)
        obtain ⟨a', c', y, ⟨hok, hv, hw⟩, hrow, hmv, hnew⟩ := app_gen Tryd.elemIns (fun _ => rfl) (.slice a13 (ck.length + 1) c13) (.slice a10 (moveL m' (procs.map (·.d)) xd (sk + 1)).length c10) (ck ++ [(⟨32, (sk : Int) + xd.code.length + 1, 0, 0, 0⟩ : Ins)]) (moveL m' (procs.map (·.d)) xd (sk + 1)) w.heap.size x hr1 (rowAt_of_owns (fun _ => rfl) h10) ins_one (HGX.out x hx).size (by rw [hml]; simp; omega)
        rw [show (ck ++ [(⟨32, (sk : Int) + xd.code.length + 1, 0, 0, 0⟩ : Ins)]).length + (moveL m' (procs.map (·.d)) xd (sk + 1)).length = ck.length + 1 + (moveL m' (procs.map (·.d)) xd (sk + 1)).length by simp] at hv hrow hnew
        have hs14 := HSX.out x hx
        generalize (moveL m' (procs.map (·.d)) xd (sk + 1)) = Lm at *
        clear hY hZ h10 hml hr1
        unfold Gives
        simp only [actL, Act.put, List.getD_cons_zero, List.getD_cons_succ, List.setIfInBounds_toArray, List.set_cons_zero, List.set_cons_succ, h1, h10e]
        go_simp
        refine ⟨hmv.mono (fun b e => .inl (.inr e)), ?_, ⟨hrow, fun g hg => ?_⟩, ?_⟩
        · intro z hz h1; intros; exact zmv_app hmv (fun e => by have := HNEW.out _ e; omega) z hz (fun e => h1 (by subst e; decide)) (by assumption)
        · rcases hnew g hg with h | h
          · exact HNEW.out g h
          · omega
        · intro j l hj hk hwj hkk h; exact YMv.const j l (by rintro rfl; exact hk (by decide)) hj (by rintro rfl; exact hwj (by decide)) h
      case s12 =>
        intro vs x hx hY hZ
        clear hY hZ
        unfold Gives
        simp only [actL, Act.put, List.getD_cons_zero, List.getD_cons_succ, List.setIfInBounds_toArray, List.set_cons_zero, List.set_cons_succ]
        go_simp
        exact ⟨Mv.refl _ _, by intros; assumption, rfl, by intros; assumption⟩
      case s13 =>
        intro vs x hx hY hZ
        have h12 : vs 12 = .pointer (some ⟨X, 0, none⟩) := hY 12 (by simp) (by simp)
        obtain ⟨h11, hn11⟩ : InsRow x w.heap.size (vs 11) ((ck ++ [(⟨32, (sk : Int) + xd.code.length + 1, 0, 0, 0⟩ : Ins)]) ++ (moveL m' (procs.map (·.d)) xd (sk + 1))) ∧ ∀ g, (vs 11).ownBlock = some g → w5.heap.size ≤ g := hY 11 (by simp) (by simp)
        have hX := hZ 0 (by decide) (by simp)
        simp only [if_true] at hX
        obtain ⟨p0, p1, p2, pz⟩ := img_cells hX
        have hlX := lt_of_block hX
        have hb := block_setCell (p := ⟨X, 0, none⟩) hX rfl (vs 11)
        have hb2 : (x.setCell ⟨X, 0, none⟩ (vs 11)).heap[X]? = some (.cells #[vs 11, .int .i64 (m'.cells + 101 * mc + 80), .int .i64 (1 + m'.stacks + 101 * ms)] 36 (0, 0)) := by simpa using hb
        obtain ⟨a11, c11, h11e⟩ := row_slice h11
        have hm13 := (Mv.refl (fun b => b = X) x).setCell (p := ⟨X, 0, none⟩) (.inl rfl) (vs 11)
        clear hY hZ hX hb h11
        have hb3 : (x.setCell ⟨X, 0, none⟩ (.slice a11 ((ck ++ [(⟨32, (sk : Int) + xd.code.length + 1, 0, 0, 0⟩ : Ins)]) ++ (moveL m' (procs.map (·.d)) xd (sk + 1))).length c11)).heap[X]? = some (.cells #[vs 11, .int .i64 (m'.cells + 101 * mc + 80), .int .i64 (1 + m'.stacks + 101 * ms)] 36 (0, 0)) := by rw [← h11e]; exact hb2
        rw [h11e] at hb2 hm13
        have hlen : ((ck ++ [(⟨32, (sk : Int) + xd.code.length + 1, 0, 0, 0⟩ : Ins)]) ++ (moveL m' (procs.map (·.d)) xd (sk + 1))).length = ((ck ++ [(⟨32, (sk : Int) + xd.code.length + 1, 0, 0, 0⟩ : Ins)]) ++ (moveL m' (procs.map (·.d)) xd (sk + 1))).length := rfl
        generalize ((ck ++ [(⟨32, (sk : Int) + xd.code.length + 1, 0, 0, 0⟩ : Ins)]) ++ (moveL m' (procs.map (·.d)) xd (sk + 1))).length = nn at h11e hb2 hb3 hm13
        clear hlen
        unfold Gives
        simp only [actL, Act.put, List.getD_cons_zero, List.getD_cons_succ, List.setIfInBounds_toArray, List.set_cons_zero, List.set_cons_succ, h12, h11e]
        go_simp
        refine ⟨hm13.mono (fun b e => .inl (.inl e)), ?_, by first | exact hb3 | exact hb2 | (simp only [List.map, upd, h11e]; exact hb2), ?_⟩
        · intro z hz h1 h2; exfalso
          match z, hz with
          | 0, _ => exact h1 (by decide)
          | 1, _ => have := h2 11 (by decide); simp at this
        · intro j l hj hk hwj hkk h; exact YMv.set hm13 hlX5 j l (by rintro rfl; have := hkk 11 (by decide); simp at this) hj h
    case done =>
    intro vs w15 hx hY hZ
    obtain ⟨h11, hn11⟩ : InsRow w15 w.heap.size (vs 11) ((ck ++ [(⟨32, (sk : Int) + xd.code.length + 1, 0, 0, 0⟩ : Ins)]) ++ (moveL m' (procs.map (·.d)) xd (sk + 1))) ∧ ∀ g, (vs 11).ownBlock = some g → w5.heap.size ≤ g := hY 11 (by decide) rfl
    have h13 : w15.heap[X]? = some (.cells #[vs 11, .int .i64 (m'.cells + 101 * mc + 80), .int .i64 (1 + m'.stacks + 101 * ms)] 36 (0, 0)) := hY 13 (by decide) rfl
    clear hY hZ
    simp only [List.length_cons, List.length_nil, Nat.zero_add, Nat.reduceAdd]
    rw [show List.range 14 = [0, 1, 2, 3, 4, 5, 6, 7, 8, 9, 10, 11, 12, 13] from rfl]
    simp only [actL, Act.put, List.getD_cons_zero, List.getD_cons_succ, List.setIfInBounds_toArray, List.set_cons_zero, List.set_cons_succ]
    generalize vs 11 = v11 at *
    have hst15 : Lk3 X w w5 w15 (m'.cells + 101 * mc + 80) (1 + m'.stacks + 101 * ms) ((ck ++ [(⟨32, (sk : Int) + xd.code.length + 1, 0, 0, 0⟩ : Ins)]) ++ (moveL m' (procs.map (·.d)) xd (sk + 1))) v11 (sy ++ [⟨xd.name, sk⟩]) (.slice a12 (sy.length + 1) c12) := by
      have hst14 := HST14.out
      refine ⟨⟨?_, h13, h11, hn11⟩, ?_⟩
      · exact (Mv.drew hst14.lk.mv).trans hx (fun g hg => by
          rcases hg with rfl | hg
          · exact .inl rfl
          · exact .inr (HNEW.out g hg))
      · have hsd : RSymRow w14.drew w5.heap.size (.slice a12 (sy.length + 1) c12) (sy ++ [⟨xd.name, sk⟩]) := hst14.sy
        exact row_keep hsd hx (fun g hg e => by
          rcases e with rfl | e
          · have := (hst14.sy.lt _ hg).1; omega
          · exact kinds_apart hst14.lk.row hst14.sy (by decide) g e hg)
    obtain ⟨a15, c15, hv15⟩ := row_slice h11
    have hml := moveL_len m' (procs.map (·.d)) xd (sk + 1)
    subst hv15
    obtain ⟨a16, c16, w16, ⟨hok16, hv16, hw16⟩, hrow16, hmv16, hnew16⟩ := app_ins _ ⟨33, (sk : Int), 0, 0, 0⟩ _ _ w15 hst15.lk.row (by have := hst15.lk.mv.size; have := HG5.out.size; omega) (by simp [hml]; omega)
    have HST16 := Lib.hid (hst15.put hlX5 hmv16 hrow16 hnew16)
    have hX16 : w16.heap[X]? = some (.cells #[.slice a15 ((ck ++ [(⟨32, (sk : Int) + xd.code.length + 1, 0, 0, 0⟩ : Ins)]) ++ (moveL m' (procs.map (·.d)) xd (sk + 1))).length c15, .int .i64 (m'.cells + 101 * mc + 80), .int .i64 (1 + m'.stacks + 101 * ms)] 36 (0, 0)) := by rw [hmv16.block _ (lt_of_block hst15.lk.img) (fun e => by have := hst15.lk.new _ e; omega)]; exact hst15.lk.img
    obtain ⟨p0, p1, p2, pz⟩ := img_cells h13
    obtain ⟨s0, s1, s2, sz⟩ := img_cells hX16
    have hlX15 := lt_of_block h13
    have hlX16 := lt_of_block hX16
    clear hst15 hrow16 hmv16 hnew16 hX16 h11 h13 hn11 hx hml HGX HMX HSX HNEW HST14
    generalize hcc2 : (ck ++ [(⟨32, (sk : Int) + xd.code.length + 1, 0, 0, 0⟩ : Ins)]) ++ (moveL m' (procs.map (·.d)) xd (sk + 1)) = cc2 at *
    have HCC := Lib.hid hcc2
    clear hcc2
    generalize vs 0 = v0 at *
    generalize vs 1 = v1 at *
    generalize vs 2 = v2 at *
    generalize vs 3 = v3 at *
    generalize vs 4 = v4 at *
    generalize vs 5 = v5 at *
    generalize vs 6 = v6 at *
    generalize vs 7 = v7 at *
    generalize vs 8 = v8 at *
    generalize vs 9 = v9 at *
    generalize vs 10 = v10 at *
    generalize vs 12 = v12 at *
    generalize vs 13 = v13 at *
    clear vs
    go_wp2_with fail
    go_roundw
    case rel => exact ⟨k + 1, _, by go_num, by omega, by rw [HSC.out, HSY.out]; exact HST16.out⟩
    case measure => simp [intOf]; omega
  obtain rfl : k = procs.length := by omega
  have hRr : wr.heap[w.heap.size + 1]? = some (.cells #[.slice none 0 0, .int .i64 0, .int .i64 0] 36 (0, 0)) := by rw [hst.lk.mv.block _ hlR5 (by omega)]; exact HR5.out
  generalize hcd : rcodeTo m' (procs.map (·.d)) procs.length = cd at *
  generalize hsd : symsTo m' (procs.map (·.d)) procs.length = sd at *
  obtain ⟨hY6, hmv6⟩ := set3 hRr (.slice na cd.length nc) (.int .i64 (m'.cells + 101 * mc + 80)) (.int .i64 (1 + m'.stacks + 101 * ms))
  have HSY9 := Lib.hid (row_keep hst.sy hmv6 (fun g hg e => by have := (hst.sy.lt g hg).1; omega))
  have HCD9 := Lib.hid (row_keep hst.lk.row hmv6 (fun g hg e => by have := hst.lk.new g hg; omega))
  have HGW := Lib.hid (hgw.trans hmv6 (fun x e => .inr (by omega)))
  obtain ⟨p0, p1, p2, pz⟩ := img_cells hst.lk.img
  obtain ⟨q0, q1, q2, qz⟩ := img_cells hRr
  have hlX9 := lt_of_block hst.lk.img
  have hlR9 := lt_of_block hRr
  have HY6 := Lib.hid hY6
  have HLE2 := Lib.hid (show rlinkD m' (procs.map (·.d)) = ⟨cd, (m'.cells + 101 * mc + 80), (1 + m'.stacks + 101 * ms), sd, 0⟩ from by rw [HLE.out, HMEM.out, HSTK.out])
  clear hst hRr hY6 hmv6 hgw hMr hcn hsl hbk HST hcd hsd
  go_wp2_with fail
  obtain ⟨k0, k1, k2, -⟩ := img_cells HY6.out
  refine bodyPost_ret (v := .tuple #[.agg #[.slice na cd.length nc, .int .i64 (m'.cells + 101 * mc + 80), .int .i64 (1 + m'.stacks + 101 * ms)], .slice sa sd.length sc, .int .i64 0]) ?_ rfl ⟨.slice na cd.length nc, .slice sa sd.length sc, by rw [HLE2.out], HGW.out, by rw [HLE2.out]; exact rowAt_of_owns (fun _ => rfl) HCD9.out, by rw [HLE2.out]; exact rowAt_of_owns (fun _ => rfl) HSY9.out⟩
  simp [results, Tryd.results14, go_sem, k0, k1, k2]

end Go.Proofs.YtaabkaiifplhgaaDoor
