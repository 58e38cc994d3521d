/- linker.place. -/
import Derived.Test.YtaabkaiifplhgaaDoorLSet
import Derived.Test.YtaabkaiifplhgaaDoorTail
import Derived.Deep.RegionHeld3
import Derived.Deep.DrawnRows
namespace Go.Proofs.YtaabkaiifplhgaaDoor
set_option linter.unusedSimpArgs false
set_option linter.unusedVariables false
open Go.RowKit Go.Instr

attribute [local go_sem ↓] run_appOp Go.wp_at_zero Go.wp_at_succ

theorem Tryd.zeroInt (w : World) : (zeroValue 3).run Tryd.prog w = .ok (.int .i64 0) w := by kernel_rfl

/-- an instruction moved to its place -/
def shiftI (base : Int) (i : Ins) : Ins := if movB i.op then i.retarget (wrap64 (i.target + base)) else i

/-- where a name starts -/
def startOf (m : List (ByteArray × Value)) (s : ByteArray) : Int := match mget m s with
  | some (.int _ n) => n
  | _ => 0
def IntMap (m : List (ByteArray × Value)) : Prop := ∀ p ∈ m, ∃ n, p.2 = .int .i64 n
theorem startOf_get {m : List (ByteArray × Value)} (h : IntMap m) (s : ByteArray) : (mget m s).getD (.int .i64 0) = .int .i64 (startOf m s) := by
  have key : ∀ (l : List (ByteArray × Value)) (i : Nat), (∀ p ∈ l, ∃ n, p.2 = Value.int .i64 n) → ∀ j x, mfind s l i = some (j, x) → ∃ n, x = .int .i64 n := by
    intro l
    induction l with
    | nil => intro i _ j x h; simp [mfind] at h
    | cons p l ih =>
      intro i hl j x hf
      obtain ⟨a, y⟩ := p
      simp only [mfind] at hf
      split at hf
      · simp at hf; obtain ⟨rfl, rfl⟩ := hf; exact hl (a, y) (by simp)
      · exact ih (i + 1) (fun q hq => hl q (by simp [hq])) j x hf
  unfold startOf mget
  cases hf : mfind s m 0 with
  | none => rfl
  | some p =>
    obtain ⟨j, x⟩ := p
    obtain ⟨n, rfl⟩ := key m 0 h j x hf
    rfl

/-- a reference is resolved -/
def refSet (base : Nat) (m : List (ByteArray × Value)) (c : List Ins) (r : RefD) : List Ins := match c[base + r.at'.toNat]? with
  | some x => c.set (base + r.at'.toNat) (x.retarget (startOf m r.name))
  | none => c
def placeTo (l : List Ins) (code : List Ins) (refs : List RefD) (m : List (ByteArray × Value)) (k : Nat) : List Ins := (refs.take k).foldl (refSet l.length m) (l ++ code.map (shiftI l.length))
def placeL (l : List Ins) (o : ObjD) (m : List (ByteArray × Value)) : List Ins := placeTo l o.code o.refs m o.refs.length
theorem refSet_len (base : Nat) (m : List (ByteArray × Value)) (c : List Ins) (r : RefD) : (refSet base m c r).length = c.length := by
  unfold refSet; split <;> simp
theorem placeTo_len (l code : List Ins) (refs : List RefD) (m : List (ByteArray × Value)) (k : Nat) : (placeTo l code refs m k).length = l.length + code.length := by
  have : ∀ (rs : List RefD) (c : List Ins), (rs.foldl (refSet l.length m) c).length = c.length := by
    intro rs
    induction rs with
    | nil => intro c; rfl
    | cons r rs ih => intro c; rw [List.foldl_cons, ih, refSet_len]
  unfold placeTo
  rw [this]; simp
theorem placeTo_succ (l code : List Ins) (refs : List RefD) (m : List (ByteArray × Value)) (k : Nat) (h : k < refs.length) : placeTo l code refs m (k + 1) = refSet l.length m (placeTo l code refs m k) refs[k] := by
  unfold placeTo; rw [List.take_succ_eq_append_getElem h, List.foldl_append]; rfl

/-- the state of a placement: since w1 only the row of v and new memory have turned -/
structure PlSt (w0 w1 wr : World) (v v' : Value) (l : List Ins) : Prop where
  g : Grow w0 wr
  row : InsRow wr w0.heap.size v' l
  mv : Mv (fun b => v.ownBlock = some b) w1 wr
  new : ∀ g, v'.ownBlock = some g → v.ownBlock = some g ∨ w1.heap.size ≤ g

theorem PlSt.grow {w0 w1 wr w2 : World} {v v' : Value} {l : List Ins} (h : PlSt w0 w1 wr v v' l) (hm : Grow wr w2) : PlSt w0 w1 w2 v v' l :=
  ⟨Mv.trans h.g hm (fun _ e => e.elim), row_keep h.row hm (fun _ _ e => e), h.mv.trans hm (fun _ e => e.elim), h.new⟩

theorem PlSt.app {w0 w1 wr w2 : World} {v v' v2 : Value} {l l2 : List Ins} (h : PlSt w0 w1 wr v v' l) (h2 : InsRow w2 w0.heap.size v2 l2) (hm : Mv (fun b => v'.ownBlock = some b) wr w2) (hn : ∀ g, v2.ownBlock = some g → v'.ownBlock = some g ∨ wr.heap.size ≤ g) : PlSt w0 w1 w2 v v2 l2 := by
  refine ⟨h.g.trans hm (fun x e => .inr (h.row.lt x e).1), h2, h.mv.trans hm (fun x e => h.new x e), fun g hg => ?_⟩
  rcases hn g hg with h3 | h3
  · exact h.new g h3
  · exact .inr (Nat.le_trans h.mv.size h3)

theorem set5 {w : World} {X : Nat} {a b c d e : Value} {t : TypeId} (h : w.heap[X]? = some (.cells #[a, b, c, d, e] t (0, 0))) (p q r s u : Value) :
    (((((w.setCell ⟨X, 0, none⟩ p).setCell ⟨X, 1, none⟩ q).setCell ⟨X, 2, none⟩ r).setCell ⟨X, 3, none⟩ s).setCell ⟨X, 4, none⟩ u).heap[X]? = some (.cells #[p, q, r, s, u] t (0, 0)) ∧ Mv (fun b => b = X) w (((((w.setCell ⟨X, 0, none⟩ p).setCell ⟨X, 1, none⟩ q).setCell ⟨X, 2, none⟩ r).setCell ⟨X, 3, none⟩ s).setCell ⟨X, 4, none⟩ u) := by
  constructor
  · have h1 := block_setCell (p := ⟨X, 0, none⟩) h rfl p
    have h2 := block_setCell (p := ⟨X, 1, none⟩) h1 rfl q
    have h3 := block_setCell (p := ⟨X, 2, none⟩) h2 rfl r
    have h4 := block_setCell (p := ⟨X, 3, none⟩) h3 rfl s
    have h5 := block_setCell (p := ⟨X, 4, none⟩) h4 rfl u
    simpa using h5
  · exact (((((Mv.refl (fun b => b = X) w).setCell (p := ⟨X, 0, none⟩) (.inl rfl) p).setCell (p := ⟨X, 1, none⟩) (.inl rfl) q).setCell (p := ⟨X, 2, none⟩) (.inl rfl) r).setCell (p := ⟨X, 3, none⟩) (.inl rfl) s).setCell (p := ⟨X, 4, none⟩) (.inl rfl) u
theorem PlSt.set {w0 w1 wr w2 : World} {v v' : Value} {l : List Ins} {X : Nat} (h : PlSt w0 w1 wr v v' l) (hm : Mv (fun b => b = X) wr w2) (hX : w1.heap.size ≤ X) (hX0 : w0.heap.size ≤ X) (hne : v'.ownBlock ≠ some X) : PlSt w0 w1 w2 v v' l :=
  ⟨h.g.trans hm (fun x e => .inr (by omega)), row_keep h.row hm (fun g hg e => hne (by rw [hg, e])), h.mv.trans hm (fun x e => .inr (by omega)), h.new⟩

set_option maxRecDepth 100000 in
set_option maxHeartbeats 8000000 in
theorem place_any (o : ObjV) (v : Value) (l : List Ins) (R : Nat) (m : List (ByteArray × Value)) (w0 w : World) (hg : Grow w0 w) (ho : ObjAt w0 o) (hrow : InsRow w w0.heap.size v l) (hmap : MapAt Value.string w R m) (hR : v.ownBlock ≠ some R) (_hR0 : w0.heap.size ≤ R) (him : IntMap m)
    (hlen : l.length + o.d.code.length ≤ 500000) (hrefs : ∀ r ∈ o.d.refs, 0 ≤ r.at' ∧ r.at' < o.d.code.length) (hrl : o.d.refs.length ≤ 500000) :
    Calls Tryd.prog 22 #[v, o.val, .map (some R)] w fun e w' => ∃ v', e = .returned v' ∧ Grow w0 w' ∧ InsRow w' w0.heap.size v' (placeL l o.d m) ∧ Mv (fun b => v.ownBlock = some b) w w' ∧ ∀ g, v'.ownBlock = some g → v.ownBlock = some g ∨ w.heap.size ≤ g := by
  obtain ⟨y1, y2, y3, y4, y5, y6, y7, y8, ⟨hy1, hy2, hy3, hy4⟩, ⟨hccap, hclen⟩, hrcap, hrlen⟩ := ho.slices
  have HO := Lib.hid ho
  have HG := Lib.hid hg
  have HMAP := Lib.hid hmap
  have HROW := Lib.hid hrow
  have HIM := Lib.hid him
  have HREF := Lib.hid hrefs
  have hvlt : ∀ b, v.ownBlock = some b → w0.heap.size ≤ b ∧ b < w.heap.size := fun b hb => hrow.lt b hb
  obtain ⟨va, vc, hv⟩ := row_slice hrow
  have hRl := hmap.lt
  clear ho hg hmap hrow him hrefs
  obtain ⟨⟨s, ps, ss, cl, st, co, rf⟩, qv, sv, cv, rv⟩ := o
  simp only at hy1 hy2 hy3 hy4 hrcap hrlen hccap hclen hlen hrl
  subst hy1 hy2 hy3 hy4
  subst hv
  have HVL := Lib.hid hvlt
  clear hvlt
  have hbox := heap_alloc_new w (.cells #[.string s, .slice y1 ps.length y2, .slice y3 ss.length y4, .int .i64 cl, .int .i64 st, .slice y5 co.length y6, .slice y7 rf.length y8] 31)
  have hst0 : PlSt w0 (w.alloc (.cells #[.string s, .slice y1 ps.length y2, .slice y3 ss.length y4, .int .i64 cl, .int .i64 st, .slice y5 co.length y6, .slice y7 rf.length y8] 31)) (w.alloc (.cells #[.string s, .slice y1 ps.length y2, .slice y3 ss.length y4, .int .i64 cl, .int .i64 st, .slice y5 co.length y6, .slice y7 rf.length y8] 31)) (.slice va l.length vc) (.slice va l.length vc) l :=
    ⟨HG.out.alloc _, HROW.out.alloc _, Mv.refl _ _, fun g h => .inl h⟩
  have HW1 := Lib.hid ((Mv.refl (fun b => Value.ownBlock (.slice va l.length vc) = some b) w).alloc (.cells #[.string s, .slice y1 ps.length y2, .slice y3 ss.length y4, .int .i64 cl, .int .i64 st, .slice y5 co.length y6, .slice y7 rf.length y8] 31))
  have HBOX := Lib.hid hbox
  have HST0 := Lib.hid hst0
  clear hbox hst0
  go_enter Tryd.func22, Tryd.ntmps22
  go_wp2_with fail
  have hsz1 : w.heap.size < (w.alloc (.cells #[.string s, .slice y1 ps.length y2, .slice y3 ss.length y4, .int .i64 cl, .int .i64 st, .slice y5 co.length y6, .slice y7 rf.length y8] 31)).heap.size := by simp
  generalize w.alloc (.cells #[.string s, .slice y1 ps.length y2, .slice y3 ss.length y4, .int .i64 cl, .int .i64 st, .slice y5 co.length y6, .slice y7 rf.length y8] 31) = w1 at *
  go_loopw [0, 20] (fun cv t wr => ∃ k : Nat, t = .int .i64 k ∧ k ≤ co.length ∧ PlSt w0 w1 wr (.slice va l.length vc) cv (l ++ (co.take k).map (shiftI l.length))) (fun _ t _ => co.length - (intOf t).toNat)
  case atStart => exact ⟨0, rfl, Nat.zero_le _, by simpa using HST0.out⟩
  obtain ⟨k, rfl, hk, hst⟩ := hrel
  have hnl : (l ++ (co.take k).map (shiftI l.length)).length = l.length + k := by simp; omega
  have HTK := Lib.hid (fun hlt : k < co.length => show l ++ (co.take (k + 1)).map (shiftI l.length) = (l ++ (co.take k).map (shiftI l.length)) ++ [shiftI l.length co[k]] from by
    rw [List.take_succ_eq_append_getElem hlt, List.map_append, List.append_assoc]; rfl)
  generalize hcs : l ++ (co.take k).map (shiftI l.length) = cs at *
  have HCL := Lib.hid hcs
  clear hcs
  have HNL := Lib.hid hnl
  have hnb : cs.length ≤ 500000 := by omega
  obtain ⟨na, nc, hnv⟩ := row_slice hst.row
  subst hnv
  have HST := Lib.hid hst
  have hszw := hst.g.size
  clear hnl
  by_cases hlt : k < co.length
  · obtain ⟨b, off, cap', e, _, _⟩ := (HO.out.code.later hst.g).at hlt
    simp only [Value.slice.injEq, true_and] at e
    obtain ⟨rfl, rfl⟩ := e
    obtain ⟨⟨c0, c1, c2⟩, c3, c4, hbl⟩ := (HO.out.code.later hst.g).ins hlt
    have HTK2 := Lib.hid (HTK.out hlt)
    have HTG := Lib.hid (fun w' => target_any co[k] w')
    have HRT := Lib.hid (fun t w' => retarget_any co[k] t w')
    have HSH := Lib.hid (show shiftI l.length co[k] = if movB co[k].op then co[k].retarget (wrap64 (co[k].target + l.length)) else co[k] from rfl)
    simp only at c0 c1 c2 c3 c4
    generalize hx : co[k] = x at *
    obtain ⟨xo, xa, xb, xc, xd⟩ := x
    simp only at c0 c1 c2 c3 c4
    clear hx hst HTK
    go_wp2_with fail
    refine (isJump_any xo _).mono ?_
    rintro e w' ⟨rfl, rfl⟩
    cases hj : isJ xo
    · cases hl : isL xo
      · have HSI := Lib.hid (show shiftI l.length ⟨xo, xa, xb, xc, xd⟩ = ⟨xo, xa, xb, xc, xd⟩ from by rw [HSH.out]; simp [movB, hj, hl])
        obtain ⟨a', c', w2, ⟨hok, hv, hw⟩, hrow2, hmv2, hnew2⟩ := app_ins _ ⟨xo, xa, xb, xc, xd⟩ _ _ _ (HST.out.grow ((Mv.refl _ _).alloc (.cells #[.int .u8 xo, .int .i64 xa, .int .i64 xb, .int .i64 xc, .int .i64 xd] 57))).row (by simp; omega) (by omega)
        rw [World.size_alloc] at hok hv hw
        have HREL := Lib.hid ((HST.out.grow ((Mv.refl _ _).alloc (.cells #[.int .u8 xo, .int .i64 xa, .int .i64 xb, .int .i64 xc, .int .i64 xd] 57))).app hrow2 hmv2 hnew2)
        clear hrow2 hmv2 hnew2
        go_wp2_with fail
        refine (isLanding_any xo _).mono ?_
        rintro e w' ⟨rfl, rfl⟩
        go_wp2_with fail
        go_roundw
        case rel => exact ⟨k + 1, by go_num, by omega, by rw [HTK2.out, HSI.out]; simpa using HREL.out⟩
        case measure => simp [intOf]; omega
      · have HMV := Lib.hid (show movB xo = true from by simp [movB, hl])
        go_wp2_with fail
        refine (isLanding_any xo _).mono ?_
        rintro e w' ⟨rfl, rfl⟩
        go_wp2_with fail
        refine (HTG.out _).mono ?_
        rintro e w3 ⟨rfl, hm3⟩
        have hX3 : w3.heap[wr.heap.size]? = some (.cells #[.int .u8 xo, .int .i64 xa, .int .i64 xb, .int .i64 xc, .int .i64 xd] 57 (0, 0)) := by
          rw [hm3.block _ (by simp) (fun h => h)]; exact heap_alloc_new wr _
        have hs3 := hm3.size
        simp only [World.size_alloc] at hs3
        have d0 : w3.cell? ⟨wr.heap.size, 0, none⟩ = some (.int .u8 xo) := by simp [World.cell?, hX3]
        have d1 : w3.cell? ⟨wr.heap.size, 1, none⟩ = some (.int .i64 xa) := by simp [World.cell?, hX3]
        have d2 : w3.cell? ⟨wr.heap.size, 2, none⟩ = some (.int .i64 xb) := by simp [World.cell?, hX3]
        have d3 : w3.cell? ⟨wr.heap.size, 3, none⟩ = some (.int .i64 xc) := by simp [World.cell?, hX3]
        have d4 : w3.cell? ⟨wr.heap.size, 4, none⟩ = some (.int .i64 xd) := by simp [World.cell?, hX3]
        have HX3 := Lib.hid hX3
        have HM3 := Lib.hid hm3
        clear hX3 hm3 c0 c1 c2 c3 c4
        generalize htg : Ins.target ⟨xo, xa, xb, xc, xd⟩ = tg at *
        have HTE := Lib.hid htg
        clear htg
        generalize Ins.aims ⟨xo, xa, xb, xc, xd⟩ = am at *
        go_wp2_with fail
        refine (HRT.out _ _).mono ?_
        rintro e w4 ⟨rfl, hm4⟩
        have hX4 : w4.heap[wr.heap.size]? = some (.cells #[.int .u8 xo, .int .i64 xa, .int .i64 xb, .int .i64 xc, .int .i64 xd] 57 (0, 0)) := by
          rw [hm4.block _ (by omega) (fun h => h)]; exact HX3.out
        have hs4 := hm4.size
        generalize hr : Ins.retarget ⟨xo, xa, xb, xc, xd⟩ (wrap64 (tg + l.length)) = r at *
        obtain ⟨ro, ra, rb, rc, rd⟩ := r
        have f0 : w4.cell? ⟨wr.heap.size, 0, none⟩ = some (.int .u8 xo) := by simp [World.cell?, hX4]
        have f1 : w4.cell? ⟨wr.heap.size, 1, none⟩ = some (.int .i64 xa) := by simp [World.cell?, hX4]
        have f2 : w4.cell? ⟨wr.heap.size, 2, none⟩ = some (.int .i64 xb) := by simp [World.cell?, hX4]
        have f3 : w4.cell? ⟨wr.heap.size, 3, none⟩ = some (.int .i64 xc) := by simp [World.cell?, hX4]
        have f4 : w4.cell? ⟨wr.heap.size, 4, none⟩ = some (.int .i64 xd) := by simp [World.cell?, hX4]
        have z0 : ∀ i, w4.frozen? ⟨wr.heap.size, i, none⟩ = false := fun i => by simp [World.frozen?, hX4]
        have HX4 := Lib.hid hX4
        have HM4 := Lib.hid hm4
        have HSI := Lib.hid (show shiftI l.length ⟨xo, xa, xb, xc, xd⟩ = ⟨ro, ra, rb, rc, rd⟩ from by rw [HSH.out, if_pos HMV.out, ← hr])
        clear hX4 hm4 d0 d1 d2 d3 d4 hr
        go_upto_region 8 with (fail)
        obtain ⟨hX5, hmv5⟩ := set5 HX4.out (.int .u8 ro) (.int .i64 ra) (.int .i64 rb) (.int .i64 rc) (.int .i64 rd)
        generalize ((((w4.setCell ⟨wr.heap.size, 0, none⟩ (.int .u8 ro)).setCell ⟨wr.heap.size, 1, none⟩ (.int .i64 ra)).setCell ⟨wr.heap.size, 2, none⟩ (.int .i64 rb)).setCell ⟨wr.heap.size, 3, none⟩ (.int .i64 rc)).setCell ⟨wr.heap.size, 4, none⟩ (.int .i64 rd) = w5 at *
        have hne5 : Value.ownBlock (.slice na cs.length nc) ≠ some wr.heap.size := fun e => by have := (HST.out.row.lt _ e).2; omega
        have hst5 := ((HST.out.grow ((Mv.refl _ _).alloc _)).grow HM3.out).grow HM4.out |>.set hmv5 HST.out.mv.size (by omega) hne5
        have g0 : w5.cell? ⟨wr.heap.size, 0, none⟩ = some (.int .u8 ro) := by simp [World.cell?, hX5]
        have g1 : w5.cell? ⟨wr.heap.size, 1, none⟩ = some (.int .i64 ra) := by simp [World.cell?, hX5]
        have g2 : w5.cell? ⟨wr.heap.size, 2, none⟩ = some (.int .i64 rb) := by simp [World.cell?, hX5]
        have g3 : w5.cell? ⟨wr.heap.size, 3, none⟩ = some (.int .i64 rc) := by simp [World.cell?, hX5]
        have g4 : w5.cell? ⟨wr.heap.size, 4, none⟩ = some (.int .i64 rd) := by simp [World.cell?, hX5]
        have hs5 := hmv5.size
        obtain ⟨a', c', w6, ⟨hok, hv, hw⟩, hrow2, hmv2, hnew2⟩ := app_ins _ ⟨ro, ra, rb, rc, rd⟩ _ _ _ hst5.row (by have := hst5.g.size; omega) (by omega)
        have HREL := Lib.hid (hst5.app hrow2 hmv2 hnew2)
        clear hrow2 hmv2 hnew2 hst5 hX5 hmv5 f0 f1 f2 f3 f4 z0 hne5
        go_wp2_with fail
        go_roundw
        case rel => exact ⟨k + 1, by go_num, by omega, by rw [HTK2.out, HSI.out]; simpa using HREL.out⟩
        case measure => simp [intOf]; omega
    · have HMV := Lib.hid (show movB xo = true from by simp [movB, hj])
      go_wp2_with fail
      refine (HTG.out _).mono ?_
      rintro e w3 ⟨rfl, hm3⟩
      have hX3 : w3.heap[wr.heap.size]? = some (.cells #[.int .u8 xo, .int .i64 xa, .int .i64 xb, .int .i64 xc, .int .i64 xd] 57 (0, 0)) := by
        rw [hm3.block _ (by simp) (fun h => h)]; exact heap_alloc_new wr _
      have hs3 := hm3.size
      simp only [World.size_alloc] at hs3
      have d0 : w3.cell? ⟨wr.heap.size, 0, none⟩ = some (.int .u8 xo) := by simp [World.cell?, hX3]
      have d1 : w3.cell? ⟨wr.heap.size, 1, none⟩ = some (.int .i64 xa) := by simp [World.cell?, hX3]
      have d2 : w3.cell? ⟨wr.heap.size, 2, none⟩ = some (.int .i64 xb) := by simp [World.cell?, hX3]
      have d3 : w3.cell? ⟨wr.heap.size, 3, none⟩ = some (.int .i64 xc) := by simp [World.cell?, hX3]
      have d4 : w3.cell? ⟨wr.heap.size, 4, none⟩ = some (.int .i64 xd) := by simp [World.cell?, hX3]
      have HX3 := Lib.hid hX3
      have HM3 := Lib.hid hm3
      clear hX3 hm3 c0 c1 c2 c3 c4
      generalize htg : Ins.target ⟨xo, xa, xb, xc, xd⟩ = tg at *
      have HTE := Lib.hid htg
      clear htg
      generalize Ins.aims ⟨xo, xa, xb, xc, xd⟩ = am at *
      go_wp2_with fail
      refine (HRT.out _ _).mono ?_
      rintro e w4 ⟨rfl, hm4⟩
      have hX4 : w4.heap[wr.heap.size]? = some (.cells #[.int .u8 xo, .int .i64 xa, .int .i64 xb, .int .i64 xc, .int .i64 xd] 57 (0, 0)) := by
        rw [hm4.block _ (by omega) (fun h => h)]; exact HX3.out
      have hs4 := hm4.size
      generalize hr : Ins.retarget ⟨xo, xa, xb, xc, xd⟩ (wrap64 (tg + l.length)) = r at *
      obtain ⟨ro, ra, rb, rc, rd⟩ := r
      have f0 : w4.cell? ⟨wr.heap.size, 0, none⟩ = some (.int .u8 xo) := by simp [World.cell?, hX4]
      have f1 : w4.cell? ⟨wr.heap.size, 1, none⟩ = some (.int .i64 xa) := by simp [World.cell?, hX4]
      have f2 : w4.cell? ⟨wr.heap.size, 2, none⟩ = some (.int .i64 xb) := by simp [World.cell?, hX4]
      have f3 : w4.cell? ⟨wr.heap.size, 3, none⟩ = some (.int .i64 xc) := by simp [World.cell?, hX4]
      have f4 : w4.cell? ⟨wr.heap.size, 4, none⟩ = some (.int .i64 xd) := by simp [World.cell?, hX4]
      have z0 : ∀ i, w4.frozen? ⟨wr.heap.size, i, none⟩ = false := fun i => by simp [World.frozen?, hX4]
      have HX4 := Lib.hid hX4
      have HM4 := Lib.hid hm4
      have HSI := Lib.hid (show shiftI l.length ⟨xo, xa, xb, xc, xd⟩ = ⟨ro, ra, rb, rc, rd⟩ from by rw [HSH.out, if_pos HMV.out, ← hr])
      clear hX4 hm4 d0 d1 d2 d3 d4 hr
      go_upto_region 8 with (fail)
      obtain ⟨hX5, hmv5⟩ := set5 HX4.out (.int .u8 ro) (.int .i64 ra) (.int .i64 rb) (.int .i64 rc) (.int .i64 rd)
      generalize ((((w4.setCell ⟨wr.heap.size, 0, none⟩ (.int .u8 ro)).setCell ⟨wr.heap.size, 1, none⟩ (.int .i64 ra)).setCell ⟨wr.heap.size, 2, none⟩ (.int .i64 rb)).setCell ⟨wr.heap.size, 3, none⟩ (.int .i64 rc)).setCell ⟨wr.heap.size, 4, none⟩ (.int .i64 rd) = w5 at *
      have hne5 : Value.ownBlock (.slice na cs.length nc) ≠ some wr.heap.size := fun e => by have := (HST.out.row.lt _ e).2; omega
      have hst5 := ((HST.out.grow ((Mv.refl _ _).alloc _)).grow HM3.out).grow HM4.out |>.set hmv5 HST.out.mv.size (by omega) hne5
      have g0 : w5.cell? ⟨wr.heap.size, 0, none⟩ = some (.int .u8 ro) := by simp [World.cell?, hX5]
      have g1 : w5.cell? ⟨wr.heap.size, 1, none⟩ = some (.int .i64 ra) := by simp [World.cell?, hX5]
      have g2 : w5.cell? ⟨wr.heap.size, 2, none⟩ = some (.int .i64 rb) := by simp [World.cell?, hX5]
      have g3 : w5.cell? ⟨wr.heap.size, 3, none⟩ = some (.int .i64 rc) := by simp [World.cell?, hX5]
      have g4 : w5.cell? ⟨wr.heap.size, 4, none⟩ = some (.int .i64 rd) := by simp [World.cell?, hX5]
      have hs5 := hmv5.size
      obtain ⟨a', c', w6, ⟨hok, hv, hw⟩, hrow2, hmv2, hnew2⟩ := app_ins _ ⟨ro, ra, rb, rc, rd⟩ _ _ _ hst5.row (by have := hst5.g.size; omega) (by omega)
      have HREL := Lib.hid (hst5.app hrow2 hmv2 hnew2)
      clear hrow2 hmv2 hnew2 hst5 hX5 hmv5 f0 f1 f2 f3 f4 z0 hne5
      go_wp2_with fail
      go_roundw
      case rel => exact ⟨k + 1, by go_num, by omega, by rw [HTK2.out, HSI.out]; simpa using HREL.out⟩
      case measure => simp [intOf]; omega
  obtain rfl : k = co.length := by omega
  have hbr : wr.heap[w.heap.size]? = some (.cells #[.string s, .slice y1 ps.length y2, .slice y3 ss.length y4, .int .i64 cl, .int .i64 st, .slice y5 co.length y6, .slice y7 rf.length y8] 31 (0, 0)) := by
    rw [hst.mv.block _ hsz1 (fun e => by have := (HVL.out _ e).2; omega)]; exact HBOX.out
  have b6 : wr.cell? ⟨w.heap.size, 6, none⟩ = some (.slice y7 rf.length y8) := by simp [World.cell?, hbr]
  have hszr : w.heap.size < wr.heap.size := by have := hst.mv.size; omega
  have HCL2 := Lib.hid (show cs = placeTo l co rf m 0 from by rw [← HCL.out, List.take_length]; simp [placeTo])
  clear hst hbr HCL HTK
  go_wp2_with fail
  clear b6
  obtain ⟨wo, rfl⟩ : ∃ wo : World, wo = wr := ⟨_, rfl⟩
  go_loopw [51] (fun t wr => ∃ k : Nat, t = .int .i64 k ∧ k ≤ rf.length ∧ PlSt w0 w1 wr (.slice va l.length vc) (.slice na cs.length nc) (placeTo l co rf m k)) (fun t _ => rf.length - (intOf t).toNat)
  case atStart => exact ⟨0, rfl, Nat.zero_le _, by rw [← HCL2.out]; exact HST.out⟩
  obtain ⟨k, rfl, hk, hst⟩ := hrel
  have HST2 := Lib.hid hst
  by_cases hlt : k < rf.length
  · obtain ⟨b, off, cap', e, _, hcc⟩ := (HO.out.refs.later hst.g).at hlt
    simp only [Value.slice.injEq, true_and] at e
    obtain ⟨rfl, rfl⟩ := e
    have c0 := hcc 0 _ rfl
    have c1 := hcc 1 _ rfl
    simp only [Nat.add_zero] at c0
    have hbl : b < wr.heap.size := World.block_lt_of_cell? wr _ c0
    have hat := HREF.out rf[k] (List.getElem_mem hlt)
    have HPS := Lib.hid (placeTo_succ l co rf m k hlt)
    have hpl := placeTo_len l co rf m k
    simp only at c0 c1 hat
    generalize hx : rf[k] = x at *
    obtain ⟨ra, rs⟩ := x
    simp only at c0 c1 hat
    obtain ⟨a, rfl⟩ : ∃ a : Nat, ra = a := ⟨ra.toNat, by omega⟩
    generalize hpt : placeTo l co rf m k = pl at *
    have hia : l.length + a < pl.length := by omega
    have hcsl : cs.length = pl.length := by rw [HNL.out, hpl]
    obtain ⟨g, hga⟩ : ∃ g, na = some ⟨g, 0, none⟩ := by
      rcases hst.row.2 with ⟨e, h0⟩ | ⟨g, cap2, cur, e, _⟩
      · omega
      · simp only [Value.slice.injEq] at e; exact ⟨g, e.1⟩
    subst hga
    have hfz : ∀ i, wr.frozen? ⟨g, i, none⟩ = false := by
      rcases hst.row.2 with ⟨e, h0⟩ | ⟨g', cap2, cur, e, _, hg', _⟩
      · simp at e
      · simp only [Value.slice.injEq, Option.some.injEq, Addr.mk.injEq, and_true] at e
        obtain ⟨rfl, _, _⟩ := e
        intro i; simp [World.frozen?, hg']
    have hgl : g < wr.heap.size := (hst.row.lt g rfl).2
    obtain ⟨⟨q0, q1, q2⟩, q3, q4, -⟩ := (rowAt_of_owns (f := Ins.cells) (n := 5) (fun _ => rfl) hst.row).ins hia
    simp only [Nat.zero_add] at q0 q1 q2 q3 q4
    have HRT := Lib.hid (fun t w' => retarget_any pl[l.length + a] t w')
    have HRS := Lib.hid (show refSet l.length m pl ⟨a, rs⟩ = pl.set (l.length + a) (pl[l.length + a].retarget (startOf m rs)) from by simp [refSet, hia])
    generalize hy : pl[l.length + a] = y at *
    obtain ⟨yo, ya, yb, yc, yd⟩ := y
    simp only at q0 q1 q2 q3 q4
    have hmapr : MapAt Value.string wr R m := HMAP.out.keep (by rw [(HW1.out.trans hst.mv (fun x e => .inl e)).block R hRl hR])
    have hlook : ∀ w' : World, w'.heap[R]? = wr.heap[R]? → (lookup 68 (.map (some R)) (.string rs) false).run Tryd.prog w' = .ok (.int .i64 (startOf m rs)) w' := fun w' hw' => by
      rw [run_get Tryd.strLaw Tryd.underlying68 rs (.int .i64 0) Tryd.zeroInt (hmapr.keep hw'), startOf_get HIM.out]
    have hRr : R < wr.heap.size := hmapr.lt
    have HLK := Lib.hid hlook
    have HROW2 := Lib.hid hst.row
    have i1 : IntKind.i64.wrap ((l.length : Int) + (a : Int)) = (l.length : Int) + a := IntWalk.i64_in _ (by omega)
    have i2 : (0 : Int) ≤ (l.length : Int) + a := by omega
    have i3 : ((l.length : Int) + a).toNat = l.length + a := by omega
    have i4 : (l.length : Int) + a < (cs.length : Int) := by omega
    have HFZ := Lib.hid hfz
    have HCSL := Lib.hid hcsl
    clear hcc hx hpt hpl hcsl hy hst hmapr hlook hfz hat
    go_wp2_with fail
    refine wp_region_tail 18 _ (by kernel_rfl) rfl rfl rfl rfl (by kernel_rfl) (fun w' => (w'.cell? ⟨wr.heap.size, 0, none⟩ = some (.int .i64 a) ∧ w'.cell? ⟨wr.heap.size, 1, none⟩ = some (.string rs)) ∧ (w'.cell? ⟨g, (l.length + a) * 5, none⟩ = some (.int .u8 yo) ∧ w'.cell? ⟨g, (l.length + a) * 5 + 1, none⟩ = some (.int .i64 ya) ∧ w'.cell? ⟨g, (l.length + a) * 5 + 2, none⟩ = some (.int .i64 yb) ∧ w'.cell? ⟨g, (l.length + a) * 5 + 3, none⟩ = some (.int .i64 yc) ∧ w'.cell? ⟨g, (l.length + a) * 5 + 4, none⟩ = some (.int .i64 yd)) ∧ (lookup 68 (.map (some R)) (.string rs) false).run Tryd.prog w' = .ok (.int .i64 (startOf m rs)) w') ?_ (fun hHeld => ?_)
    · refine ⟨⟨?_, ?_⟩, ⟨?_, ?_, ?_, ?_, ?_⟩, HLK.out _ (Below.heap_alloc _ _ _ hRr)⟩
      all_goals go_keep
    simp only [List.setIfInBounds_toArray, List.set_cons_zero, List.set_cons_succ, idle, List.getElem_toArray, List.getElem_cons_succ, List.getElem_cons_zero]
    refine wpAnyH_take (i := 0) (v := ?v0) rfl (by kernel_rfl) (by kernel_rfl) (by kernel_rfl) (fun _ _ _ h => h) (Or.inl ⟨by rfl, ?hy0⟩) (by assumption) ?rest0
    case hy0 => (intro w hSw; (try dsimp only at hSw); go_simp; try with_reducible rfl)
    try simp only [Act.put, List.setIfInBounds_toArray, List.set_cons_zero, List.set_cons_succ]
    refine wpAnyH_take (i := 1) (v := ?v1) rfl (by kernel_rfl) (by kernel_rfl) (by kernel_rfl) (fun _ _ _ h => h) (Or.inl ⟨by rfl, ?hy1⟩) (by assumption) ?rest1
    case hy1 => (intro w hSw; (try dsimp only at hSw); go_simp; try with_reducible rfl)
    try simp only [Act.put, List.setIfInBounds_toArray, List.set_cons_zero, List.set_cons_succ]
    refine wpAnyH_take (i := 2) (v := ?v2) rfl (by kernel_rfl) (by kernel_rfl) (by kernel_rfl) (fun _ _ _ h => h) (Or.inl ⟨by rfl, ?hy2⟩) (by assumption) ?rest2
    case hy2 => (intro w hSw; (try dsimp only at hSw); go_simp; try with_reducible rfl)
    try simp only [Act.put, List.setIfInBounds_toArray, List.set_cons_zero, List.set_cons_succ]
    refine wpAnyH_take (i := 3) (v := ?v3) rfl (by kernel_rfl) (by kernel_rfl) (by kernel_rfl) (fun _ _ _ h => h) (Or.inl ⟨by rfl, ?hy3⟩) (by assumption) ?rest3
    case hy3 => (intro w hSw; (try dsimp only at hSw); go_simp; try with_reducible rfl)
    try simp only [Act.put, List.setIfInBounds_toArray, List.set_cons_zero, List.set_cons_succ]
    refine wpAnyH_take (i := 4) (v := ?v4) rfl (by kernel_rfl) (by kernel_rfl) (by kernel_rfl) (fun _ _ _ h => h) (Or.inl ⟨by rfl, ?hy4⟩) (by assumption) ?rest4
    case hy4 => (intro w hSw; (try dsimp only at hSw); go_simp; try with_reducible rfl)
    try simp only [Act.put, List.setIfInBounds_toArray, List.set_cons_zero, List.set_cons_succ]
    refine wpAnyH_take (i := 5) (v := ?v5) rfl (by kernel_rfl) (by kernel_rfl) (by kernel_rfl) (fun _ _ _ h => h) (Or.inl ⟨by rfl, ?hy5⟩) (by assumption) ?rest5
    case hy5 => (intro w hSw; (try dsimp only at hSw); go_simp; try with_reducible rfl)
    try simp only [Act.put, List.setIfInBounds_toArray, List.set_cons_zero, List.set_cons_succ]
    refine wpAnyH_take (i := 6) (v := ?v6) rfl (by kernel_rfl) (by kernel_rfl) (by kernel_rfl) (fun _ _ _ h => h) (Or.inl ⟨by rfl, ?hy6⟩) (by assumption) ?rest6
    case hy6 => (intro w hSw; (try dsimp only at hSw); go_simp; try with_reducible rfl)
    try simp only [Act.put, List.setIfInBounds_toArray, List.set_cons_zero, List.set_cons_succ]
    refine wpAnyH_take (i := 7) (v := ?v7) rfl (by kernel_rfl) (by kernel_rfl) (by kernel_rfl) (fun _ _ _ h => h) (Or.inl ⟨by rfl, ?hy7⟩) (by assumption) ?rest7
    case hy7 => (intro w hSw; (try dsimp only at hSw); go_simp; try with_reducible rfl)
    try simp only [Act.put, List.setIfInBounds_toArray, List.set_cons_zero, List.set_cons_succ]
    refine wpAnyH_take (i := 8) (v := ?v8) rfl (by kernel_rfl) (by kernel_rfl) (by kernel_rfl) (fun _ _ _ h => h) (Or.inl ⟨by rfl, ?hy8⟩) (by assumption) ?rest8
    case hy8 => (intro w hSw; (try dsimp only at hSw); go_simp; try with_reducible rfl)
    try simp only [Act.put, List.setIfInBounds_toArray, List.set_cons_zero, List.set_cons_succ]
    refine wpAnyH_take (i := 9) (v := ?v9) rfl (by kernel_rfl) (by kernel_rfl) (by kernel_rfl) (fun _ _ _ h => h) (Or.inl ⟨by rfl, ?hy9⟩) (by assumption) ?rest9
    case hy9 => (intro w hSw; (try dsimp only at hSw); go_simp; try with_reducible rfl)
    try simp only [Act.put, List.setIfInBounds_toArray, List.set_cons_zero, List.set_cons_succ]
    refine wpAnyH_take (i := 10) (v := ?v10) rfl (by kernel_rfl) (by kernel_rfl) (by kernel_rfl) (fun _ _ _ h => h) (Or.inl ⟨by rfl, ?hy10⟩) (by assumption) ?rest10
    case hy10 => (intro w hSw; (try dsimp only at hSw); go_simp; try with_reducible rfl)
    try simp only [Act.put, List.setIfInBounds_toArray, List.set_cons_zero, List.set_cons_succ]
    refine wpAnyH_take (i := 11) (v := ?v11) rfl (by kernel_rfl) (by kernel_rfl) (by kernel_rfl) (fun _ _ _ h => h) (Or.inl ⟨by rfl, ?hy11⟩) (by assumption) ?rest11
    case hy11 => (intro w hSw; (try dsimp only at hSw); go_simp; try with_reducible rfl)
    try simp only [Act.put, List.setIfInBounds_toArray, List.set_cons_zero, List.set_cons_succ]
    refine wpAnyH_take (i := 12) (v := ?v12) rfl (by kernel_rfl) (by kernel_rfl) (by kernel_rfl) (fun _ _ _ h => h) (Or.inl ⟨by rfl, ?hy12⟩) (by assumption) ?rest12
    case hy12 => (intro w hSw; (try dsimp only at hSw); go_simp; try with_reducible rfl)
    try simp only [Act.put, List.setIfInBounds_toArray, List.set_cons_zero, List.set_cons_succ]
    refine wpAnyH_take (i := 13) (v := ?v13) rfl (by kernel_rfl) (by kernel_rfl) (by kernel_rfl) (fun _ _ _ h => h) (Or.inl ⟨by rfl, ?hy13⟩) (by assumption) ?rest13
    case hy13 => (intro w hSw; (try dsimp only at hSw); go_simp; try with_reducible rfl)
    try simp only [Act.put, List.setIfInBounds_toArray, List.set_cons_zero, List.set_cons_succ]
    refine wpAnyH_take (i := 14) (v := ?v14) rfl (by kernel_rfl) (by kernel_rfl) (by kernel_rfl) (fun _ _ _ h => h) (Or.inl ⟨by rfl, ?hy14⟩) (by assumption) ?rest14
    case hy14 => (intro w hSw; (try dsimp only at hSw); go_simp; try with_reducible rfl)
    try simp only [Act.put, List.setIfInBounds_toArray, List.set_cons_zero, List.set_cons_succ]
    refine wpAnyH_take (i := 15) (v := ?v15) rfl (by kernel_rfl) (by kernel_rfl) (by kernel_rfl) (fun _ _ _ h => h) (Or.inl ⟨by rfl, ?hy15⟩) (by assumption) ?rest15
    case hy15 => (intro w hSw; (try dsimp only at hSw); go_simp; try with_reducible rfl)
    try simp only [Act.put, List.setIfInBounds_toArray, List.set_cons_zero, List.set_cons_succ]
    refine wpAnyH_ready (rs := [16]) (by kernel_rfl) (by simp) ?_
    refine AllReadyH.cons rfl (fun K hK => ?_) AllReadyH.nil
    go_simp
    refine (HRT.out _ _).mono ?_
    rintro e w3 ⟨rfl, hm3⟩
    obtain ⟨hc3, -⟩ := gcell hm3
    obtain ⟨⟨s0, s1⟩, ⟨s2, s3, s4, s5, s6⟩, -⟩ := hHeld
    have hs3 : wr.heap.size + 1 ≤ w3.heap.size := by have := hm3.size; simpa using this
    have t0 : w3.cell? ⟨wr.heap.size, 0, none⟩ = some (.int .i64 a) := (hc3 _ _ (by simp)).trans s0
    have t1 : w3.cell? ⟨wr.heap.size, 1, none⟩ = some (.string rs) := (hc3 _ _ (by simp)).trans s1
    have t2 : w3.cell? ⟨g, (l.length + a) * 5, none⟩ = some (.int .u8 yo) := (hc3 _ _ (by simp; omega)).trans s2
    have t3 : w3.cell? ⟨g, (l.length + a) * 5 + 1, none⟩ = some (.int .i64 ya) := (hc3 _ _ (by simp; omega)).trans s3
    have t4 : w3.cell? ⟨g, (l.length + a) * 5 + 2, none⟩ = some (.int .i64 yb) := (hc3 _ _ (by simp; omega)).trans s4
    have t5 : w3.cell? ⟨g, (l.length + a) * 5 + 3, none⟩ = some (.int .i64 yc) := (hc3 _ _ (by simp; omega)).trans s5
    have t6 : w3.cell? ⟨g, (l.length + a) * 5 + 4, none⟩ = some (.int .i64 yd) := (hc3 _ _ (by simp; omega)).trans s6
    have tl := HLK.out w3 (by rw [hm3.block R (by simp; omega) (fun h => h)]; exact Below.heap_alloc _ _ _ hRr)
    have tz : ∀ i, w3.frozen? ⟨g, i, none⟩ = false := fun i => by
      have h1 : w3.heap[g]? = wr.heap[g]? := by rw [hm3.block g (by simp; omega) (fun h => h)]; exact Below.heap_alloc _ _ _ hgl
      have h2 := HFZ.out i
      simpa [World.frozen?, h1] using h2
    have hg3 : Grow wr w3 := Mv.trans ((Mv.refl (fun _ => False) wr).alloc _).drew hm3 (fun _ e => e.elim)
    have HG3 := Lib.hid hg3
    generalize hr : Ins.retarget ⟨yo, ya, yb, yc, yd⟩ (startOf m rs) = r at *
    obtain ⟨zo, za, zb, zc, zd⟩ := r
    clear hm3 hc3 hg3 hr s0 s1 s2 s3 s4 s5 s6
    go_wp2_with fail
    refine hK.out _ _ ⟨⟨t0, t1⟩, ⟨t2, t3, t4, t5, t6⟩, tl⟩ (fun hHeld2 => ?_)
    clear hK K
    try simp only [Act.put, List.setIfInBounds_toArray, List.set_cons_zero, List.set_cons_succ]
    refine wpAnyH_ready (rs := [17]) (by kernel_rfl) (by simp) ?_
    refine AllReadyH.cons rfl (fun K hK => ?_) AllReadyH.nil
    go_simp
    refine hK.out _ _ hHeld2 (fun _ => ?_)
    clear hK K
    try simp only [Act.put, List.setIfInBounds_toArray, List.set_cons_zero, List.set_cons_succ]
    refine wpAnyH_ready (rs := [18]) (by kernel_rfl) (by simp) ?_
    refine AllReadyH.cons rfl (fun K hK => ?_) AllReadyH.nil
    go_simp
    refine hK.out _ _ hHeld2 (fun _ => ?_)
    clear hK K
    try simp only [Act.put, List.setIfInBounds_toArray, List.set_cons_zero, List.set_cons_succ]
    refine wpAnyH_done (by kernel_rfl) ?_ _
    simp only [TailPost, List.getElem_toArray, List.getElem_cons_succ, List.getElem_cons_zero]
    have hst3 := HST2.out.grow HG3.out
    obtain ⟨hrow4, hmv4⟩ := InsRow.set hst3.row (l.length + a) hia ⟨zo, za, zb, zc, zd⟩
    have HREL := Lib.hid (hst3.app hrow4 (hmv4.mono (fun x e => .inl (by subst e; rfl))) (fun q hq => .inl hq))
    have HRS2 := Lib.hid (show placeTo l co rf m (k + 1) = pl.set (l.length + a) ⟨zo, za, zb, zc, zd⟩ from by rw [HPS.out, HRS.out])
    clear hst3 hrow4 hmv4
    go_wp2_with fail
    go_roundw
    case rel => exact ⟨k + 1, by go_num, by omega, by rw [HRS2.out]; exact HREL.out⟩
    case measure => simp [intOf]; omega
  obtain rfl : k = rf.length := by omega
  clear hst
  go_wp2_with fail
  go_ret
  exact ⟨_, rfl, HST2.out.g, HST2.out.row, HW1.out.trans HST2.out.mv (fun x e => .inl e), fun g hg => by
    rcases HST2.out.new g hg with h1 | h1
    · exact .inl h1
    · exact .inr (by omega)⟩

end Go.Proofs.YtaabkaiifplhgaaDoor
