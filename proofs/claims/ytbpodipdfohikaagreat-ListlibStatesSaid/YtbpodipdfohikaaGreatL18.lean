import Derived.Test.YtbpodipdfohikaaGreatL17
set_option linter.unusedSimpArgs false
set_option linter.unusedVariables false
set_option maxRecDepth 100000
set_option maxHeartbeats 25600000
namespace Go.Proofs.YtbpodipdfohikaaGreat
open Go.RowKit Go.Instr
attribute [local go_sem ↓] fB
def Ev (f : Int × Value × Int × ByteArray) : List Value := [.int .i64 f.1, f.2.1, .int .i64 f.2.2.1, .string f.2.2.2]
theorem Jh (f : Int × Value × Int × ByteArray) : (Ev f).length = 4 := rfl
theorem Tryz.SB : (Tryz.prog.info? 86).map (λi => (i.zero, i.size, i.bytes)) = some (some (.agg #[.int .i64 0, .slice none 0 0, .int .i64 0, .string ⟨#[]⟩]), 4, 56) := by kernel_rfl
theorem Tryz.SC : Elem Tryz.prog 66 86 4 56 := Elem.of Tryz.underlying66 Tryz.SB rfl (by decide) (by decide)
theorem IE {α : Type} {f : α -> List Value} {n e base : Nat} {w : World} {v : Value} {l : List α} (h : w.ownsRow base e n v l.length (flat f l)) (b : Nat) (hb : v.ownBlock = some b) : base <= b := (bH h b hb).1
def FO (wb : World) (B : Nat) (w : World) (b : Nat) : Prop := wb.heap.size <= b /\ (b = B \/ ∃ cs z, w.heap[b]? = some (.cells cs 86 z))
abbrev bP (wb : World) (B : Nat) (w w' : World) : Prop := Mv (FO wb B w) w w'
theorem bP.trans {wb w1 w2 w3 : World} {B : Nat} (h : bP wb B w1 w2) (k : bP wb B w2 w3) : bP wb B w1 w3 := Mv.trans h k λb hb => by
  by_cases hlt : b < w1.heap.size
  · left
    by_cases hf : FO wb B w1 b
    · exact hf
    · have he := h.block b hlt hf
      refine⟨hb.1, ?_⟩
      rw[← he]
      exact hb.2
  · exact .inr (by omega)
theorem bP.lG {wb w w' : World} {B : Nat} (h : Grow w w') : bP wb B w w' := h.mono (λ_ e => e.elim)
theorem bP.TL {wb w w' : World} {B : Nat} (h : Mv (λb => b = B) w w') (hB : wb.heap.size <= B) : bP wb B w w' := h.mono (λb e => .inl ⟨by omega, .inl e⟩)
theorem bP.ofRow {wb w w' : World} {B : Nat} {f : (Int × Value × Int × ByteArray) -> List Value} {v : Value} {l : List (Int × Value × Int × ByteArray)} (hr : w.ownsRow wb.heap.size 86 4 v l.length (flat f l)) (h : Mv (λb => v.ownBlock = some b) w w') : bP wb B w w' := h.mono (λb e => .inl ⟨IE hr b e, .inr (bH hr b e).2⟩)
theorem bP.keep {wb w w' : World} {B b : Nat} {cs cs' : Array Value} {t t' : TypeId} {z z' : Nat × Nat} (h : bP wb B w w') (hb : w.heap[b]? = some (.cells cs t z)) (hB : w.heap[B]? = some (.cells cs' t' z')) (ht : t ≠ 86) (xK : t ≠ t') : w'.heap[b]? = some (.cells cs t z) := by
  rw[h.block b (lt_of_block hb) ?_]; exact hb
  rintro⟨-, rfl|⟨cs2, z2, h2⟩⟩
  · rw[hb]at hB; simp only[Option.some.injEq, Obj.cells.injEq]at hB; exact xK hB.2.1
  · rw[hb]at h2; simp only[Option.some.injEq, Obj.cells.injEq]at h2; exact ht h2.2.1
structure iJ (wb : World) (B : Nat) (w : World) (c : Nat) : Prop where
  g : Grow wb w
  blk : ∃ v l, w.heap[B]? = some (.cells #[v] 66 (0, 0)) /\ w.ownsRow wb.heap.size 86 4 v l.length (flat Ev l) /\ l.length = c
  low : wb.heap.size <= B
theorem iJ.grow {wb : World} {B : Nat} {w w' : World} {c : Nat} (h : iJ wb B w c) (hg : Grow w w') : iJ wb B w' c := by
  obtain⟨v, l, h1, h2, h3⟩ := h.blk
  exact⟨gtr h.g hg, ⟨v, l, ai h1 hg, aZ h2 hg (λ_ _ e => e), h3⟩, h.low⟩
def jB (e : Int) : Nat := if e = 0 then 0 else 1
def DW (wb : World) (B : Nat) (w : World) (c : Nat) (e : Ending) (w' : World) : Prop := e = .returned (.tuple #[]) /\ iJ wb B w' c /\ bP wb B w w'
set_option maxRecDepth 100000 in
set_option maxHeartbeats 6400000 in
theorem yu (wb : World) (B : Nat) (i : Int) (pv : Value) (path : List Int) (s : ByteArray) (e : Int) (c : Nat) (w : World) (hst : iJ wb B w c) (hpt : ay 1 aB w pv path) (hpl : path.length * 8 <= 140737488355328) (hc : c <= 900000) :
    Calls Tryz.prog 50 #[.int .i64 i, pv, .string s, .int .i64 e, .pointer (some ⟨B, 0, none⟩)] w (DW wb B w (c + jB e)) := by
  by_cases he : e = 0
  · subst he
    go_enter Tryz.func50, Tryz.ntmps50
    go_wp2_with fail
    go_end0
    exact⟨rfl, hst, Mv.refl _ _⟩
  · have e1 : (e != 0) = true := by simpa using he
    have e2 : jB e = 1 := by simp[jB, he]
    rw[e2]
    obtain⟨fv, l, hbx, hrw, rfl⟩ := hst.blk
    have fH := Lib.hid hbx
    have HRW := Lib.hid hrw
    have oV := Lib.hid hst.g
    have hBl := hst.low
    have sM := Lib.hid hpt
    have HK := Lib.hid (λ(y : World) (hy : Grow w y) => ai fH.out hy)
    clear he e2 hst hpt hbx hrw
    go_enter Tryz.func50, Tryz.ntmps50
    go_upto_region 1 with fail
    refine jm 8 20 [some 11, some 12, some 13, some 14, some 15, some 16, some 17, some 18] [[], [], [], [2], [], [], [1, 3, 4, 5], [6]] [] [.c (fv), .c (.int .i64 i), .c (pv), .p (λv y => ∃ a n c, v = .slice a n c), .c (.int .i64 e), .c (.string s), .p (λv y => ∃ a n c, v = .agg #[.int .i64 i, .slice a n c, .int .i64 e, .string s]), .p (λv y => ∃ g, v = .slice (some ⟨g, 0, none⟩) 1 1 /\ ∃ a n c, y.heap[g]? = some (.cells #[.int .i64 i, .slice a n c, .int .i64 e, .string s] 86 (0, 0)))] ⟨⟨(λ_ _ _ _ h => h), λ_ => bu⟩, ⟨(λ_ _ _ _ h => h), λ_ => bu⟩, ⟨(λv x y hg h => by obtain⟨g, hv, a, n, c, hb⟩ := h; exact⟨g, hv, a, n, c, ai hb hg⟩), λ_ => bu⟩, trivial⟩ (dJ rfl) ?steps ?done
    case steps =>
      refine⟨?s0, ?s1, ?s2, ?s3, ?s4, ?s5, ?s6, ?s7, trivial⟩
      case s0 =>
        refine ok HK (λvs x hG HX hP => ?_)
        have c0 := cell1 HX.out
        simp only[zS]
        go_simp
        exact gc
      case s1 =>
        refine oo (λvs x hP => ?_)
        simp only[zS]
        go_simp
        exact gc
      case s2 =>
        refine oo (λvs x hP => ?_)
        simp only[zS]
        go_simp
        exact gc
      case s3 =>
        refine ok HK (λvs x hG HX hP => ?_)
        have HC := Lib.hid (Dj pv path x (sM.out.later hG) hpl)
        simp only[zS]
        go_simp
        refine(HC.out).mono ?_
        rintro e y ⟨v', rfl, hr, _, hg⟩
        exact⟨_, rfl, Bu hg (by obtain⟨a, c, h, _⟩ := hr; exact⟨a, _, c, h⟩)⟩
      case s4 =>
        refine oo (λvs x hP => ?_)
        simp only[zS]
        go_simp
        exact gc
      case s5 =>
        refine oo (λvs x hP => ?_)
        simp only[zS]
        go_simp
        exact gc
      case s6 =>
        refine oo (λvs x hP => ?_)
        have p3 := pq hP 3
        obtain⟨a3, n3, k3, h3⟩ := p3
        simp only[zS, h3]
        go_simp
        exact gk ⟨_, _, _, rfl⟩
      case s7 =>
        refine oo (λvs x hP => ?_)
        have p6 := pq hP 6
        obtain⟨a6, n6, k6, h6⟩ := p6
        simp only[zS, h6]
        go_simp
        exact gl ⟨_, rfl, _, _, _, heap_alloc_new x _⟩
    case done =>
    intro vs wx hE
    have hG := hE.grow
    have p3 := hE.val 3
    obtain⟨a3, n3, k3, h3⟩ := p3
    have p6 := hE.val 6
    obtain⟨a6, n6, k6, h6⟩ := p6
    have p7 := hE.val 7
    obtain⟨g7, h7, a7, n7, k7, b7⟩ := p7
    have hrx := aZ HRW.out hG (λ_ _ e => e)
    obtain⟨a', c', w2, ⟨hok, hv, hw⟩, hrow, hmv, hnew⟩ := jv Tryz.SC Jh fv (.slice (some ⟨g7, 0, none⟩) 1 1) l [(i, .slice a7 n7 k7, e, s)] wb.heap.size wx hrx (ay.dG (l := [(i, .slice a7 n7 k7, e, s)]) Jh b7 rfl (by simp)) (by simp[Ev, Value.oneCell']) (by have := hG.size; have := oV.out.size; omega) (by simp; omega)
    have hbx := ai fH.out hG
    have Nt : ¬ fv.ownBlock = some B := λh => by obtain⟨_, cs, z, h1⟩ := bH hrx B h; rw[hbx]at h1; simp at h1
    have hb2 : w2.heap[B]? = some (.cells #[fv] 66 (0, 0)) := by rw[hmv.block B (lt_of_block hbx) Nt]; exact hbx
    obtain⟨hs1, hs2⟩ := set1 hb2 (.slice a' (l.length + 1) c')
    have c2 := cell1 hb2
    have z2 := bD hb2 0
    have l2 := lt_of_block hb2
    have hnb : ¬ (Value.slice a' (l.length + 1) c').ownBlock = some B := λh => by obtain⟨_, cs, z, h1⟩ := bH hrow B h; rw[hb2]at h1; simp at h1
    have iQ := Lib.hid (show iJ wb B (w2.setCell ⟨B, 0, none⟩ (.slice a' (l.length + 1) c')) (l.length + 1)from⟨bN (bN (gtr oV.out hG) hmv (λb hb => (IE hrx b hb))) hs2 (λb e => by omega), ⟨_, l ++ [(i, .slice a7 n7 k7, e, s)], hs1, aZ hrow hs2 (λg hg e => hnb (by rw[← e]; exact hg)), by simp⟩, hBl⟩)
    have Uq := Lib.hid (show bP wb B w (w2.setCell ⟨B, 0, none⟩ (.slice a' (l.length + 1) c'))from(bP.lG hG).trans ((bP.ofRow hrx hmv).trans (bP.TL hs2 hBl)))
    simp only[List.length_cons, List.length_nil, Nat.zero_add]at hv
    clear hrx hrow hmv hnew hbx hb2 hs1 hs2 Nt hnb hE hG
    simp only[zS, Nat.reduceAdd, h3, h6, h7, List.drop_succ_cons, List.drop_zero]
    go_wp2_with fail
    go_end0
    exact⟨rfl, iQ.out, Uq.out⟩
structure rQ (B : Nat) (w : World) (R J : Nat) (f : Nat) : Prop where
  r : w.heap[R]? = some (.cells #[.func (.func 50) #[] #[.pointer (some ⟨B, 0, none⟩)]] 87 (0, 0))
  j : (f = 54 /\ ∃ i, w.heap[J]? = some (.cells #[.int .i64 i] 3 (0, 0))) \/ (f = 55 /\ ∃ v0 a n c v2 v3 v4 v5, w.heap[J]? = some (.cells #[v0, .slice a n c, v2, v3, v4, v5] 42 (0, 0)))
theorem rQ.later {B : Nat} {w w' : World} {R J f : Nat} (h : rQ B w R J f) (hg : Grow w w') : rQ B w' R J f := by
  refine⟨ai h.r hg, ?_⟩
  rcases h.j with⟨rfl, i, hj⟩|⟨rfl, v0, a, n, c, v2, v3, v4, v5, hj⟩
  · exact .inl ⟨rfl, i, ai hj hg⟩
  · exact .inr ⟨rfl, v0, a, n, c, v2, v3, v4, v5, ai hj hg⟩
theorem bP.keep' {wb w w' : World} {B b c : Nat} {cs : Array Value} {t : TypeId} {z : Nat × Nat} (h : bP wb B w w') (hst : iJ wb B w c) (hb : w.heap[b]? = some (.cells cs t z)) (ht : t ≠ 86) (xK : t ≠ 66) : w'.heap[b]? = some (.cells cs t z) := by
  obtain⟨v, l, h1, -, -⟩ := hst.blk
  exact h.keep hb h1 ht xK
theorem rQ.pI {wb : World} {B : Nat} {w w' : World} {R J f c : Nat} (h : rQ B w R J f) (hst : iJ wb B w c) (hm : bP wb B w w') : rQ B w' R J f := by
  refine⟨hm.keep' hst h.r (by decide) (by decide), ?_⟩
  rcases h.j with⟨rfl, i, hj⟩|⟨rfl, v0, a, n, c, v2, v3, v4, v5, hj⟩
  · exact .inl ⟨rfl, i, hm.keep' hst hj (by decide) (by decide)⟩
  · exact .inr ⟨rfl, v0, a, n, c, v2, v3, v4, v5, hm.keep' hst hj (by decide) (by decide)⟩
set_option maxRecDepth 100000 in
set_option maxHeartbeats 3200000 in
theorem Ji (wb : World) (B R J f : Nat) (pv : Value) (path : List Int) (s : ByteArray) (e : Int) (c : Nat) (w : World) (hr : rQ B w R J f) (hst : iJ wb B w c) (hpt : ay 1 aB w pv path) (hpl : path.length <= 1000000) (hc : c <= 900000) :
    Calls Tryz.prog f #[pv, .string s, .int .i64 e, .pointer (some ⟨R, 0, none⟩), .pointer (some ⟨J, 0, none⟩)] w (DW wb B w (c + jB e)) := by
  have r0 := cell1 hr.r
  have rl := lt_of_block hr.r
  rcases hr.j with⟨rfl, i, hj⟩|⟨rfl, v0, a, n, c, v2, v3, v4, v5, hj⟩
  · have j0 := cell1 hj
    have jl := lt_of_block hj
    have HC := Lib.hid (yu wb B i pv path s e c w hst hpt (by omega) hc)
    clear hr hst hpt hj
    go_enter Tryz.func54, Tryz.ntmps54
    go_wp2_with fail
    refine HC.out.mono ?_
    rintro e w2 ⟨rfl, h2, h3⟩
    have H2 := Lib.hid h2
    have H3 := Lib.hid h3
    clear h2 h3
    go_wp2_with fail
    go_end0
    exact⟨rfl, H2.out, H3.out⟩
  · rename_i cc
    obtain⟨⟨j0, j1, j2⟩, j3, j4, j5⟩ := cB hj
    have jl := lt_of_block hj
    have HC := Lib.hid (yu wb B n pv path s e cc w hst hpt (by omega) hc)
    clear hr hst hpt hj
    go_enter Tryz.func55, Tryz.ntmps55
    go_wp2_with fail
    refine HC.out.mono ?_
    rintro e w2 ⟨rfl, h2, h3⟩
    have H2 := Lib.hid h2
    have H3 := Lib.hid h3
    clear h2 h3
    go_wp2_with fail
    go_end0
    exact⟨rfl, H2.out, H3.out⟩
def mM (P : List bA) (s : ByteArray) (n : Nat) : Nat -> List Tree -> List au -> Nat
  |_, [], _ => 0
  |i, t :: r, aF => jB (lK P s n t.name i aF) + mM P s n (i + 1) r aF
mutual
def jI (P : List bA) : Tree -> List au -> Nat
  |.mk k _ s l, aF => jB (fU P k s l.length aF) + (if k = 50 \/ k = 51 then mM P s l.length 0 l aF else mG P k s 0 l aF)
def mG (P : List bA) (k : Int) (s : ByteArray) : Nat -> List Tree -> List au -> Nat
  |_, [], _ => 0
  |i, t :: r, aF => jI P t (ky (.mk k 0 s []) i aF) + mG P k s (i + 1) r aF
end
theorem Ql (t : Tree) (i : Nat) (l : List au) : (ky t i l).length <= l.length + 1 := by
  unfold ky
  split
  · simp
  · split
    · simp
    · omega
def iE {α : Type} (wb : World) (n : Nat) (f : α -> List Value) (T : TypeId) (w : World) (v : Value) (l : List α) : Prop := ay n f w v l /\ (l ≠ [] -> ∀ g, v.ownBlock = some g -> g < wb.heap.size \/ ∃ cs z, w.heap[g]? = some (.cells cs T z))
theorem iE.later {α : Type} {wb : World} {n : Nat} {f : α -> List Value} {T : TypeId} {w w' : World} {v : Value} {l : List α} (h : iE wb n f T w v l) (hg : Grow w w') : iE wb n f T w' v l :=
  ⟨h.1.later hg, λhl g e => (h.2 hl g e).imp id (λ⟨cs, z, hb⟩ => ⟨cs, z, ai hb hg⟩)⟩
theorem iE.pI {α : Type} {wb : World} {B c : Nat} {n : Nat} {f : α -> List Value} {T : TypeId} {w w' : World} {v : Value} {l : List α} (h : iE wb n f T w v l) (hst : iJ wb B w c) (hm : bP wb B w w') (ht : T ≠ 86 := by decide) (xK : T ≠ 66 := by decide) : iE wb n f T w' v l := by
  obtain⟨bv, bl, hB, -, -⟩ := hst.blk
  refine⟨?_, λhl g e => (h.2 hl g e).imp id (λ⟨cs, z, hb⟩ => ⟨cs, z, hm.keep' hst hb ht xK⟩)⟩
  by_cases hl : l = []
  · subst hl
    obtain⟨a, cap, rfl, h1, h2⟩ := h.1.form
    exact⟨a, cap, rfl, h1, h2, λi x hx => by simp at hx⟩
  · refine h.1.stay hm λg e => ?_
    rintro⟨h1, h2⟩
    rcases h.2 hl g e with h3|⟨cs, z, h3⟩
    · omega
    · rcases h2 with rfl|⟨cs2, z2, h4⟩
      · rw[hB]at h3; simp only[Option.some.injEq, Obj.cells.injEq]at h3; exact xK h3.2.1.symm
      · rw[h3]at h4; simp only[Option.some.injEq, Obj.cells.injEq]at h4; exact ht h4.2.1
theorem iE.FC {α : Type} {wb : World} {n : Nat} {f : α -> List Value} {T : TypeId} {w w' : World} {v v' : Value} {l l' : List α} (h : iE wb n f T w v l) (hg : Grow w w') (hr : ay n f w' v' l') (ho : (v' = v /\ l' = l) \/ ∀ g, v'.ownBlock = some g -> ∃ cs z, w'.heap[g]? = some (.cells cs T z)) : iE wb n f T w' v' l' := by
  rcases ho with⟨rfl, rfl⟩|ho
  · exact h.later hg
  · exact⟨hr, λ_ g e => .inr (ho g e)⟩
theorem iE.old {α : Type} {wb : World} {n : Nat} {f : α -> List Value} {T : TypeId} {v : Value} {l : List α} (hn : ∀ x, 0 < (f x).length) (h : ay n f wb v l) : iE wb n f T wb v l := by
  refine⟨h, λhl g e => .inl ?_⟩
  have h0 : 0 < l.length := List.length_pos_iff.2 hl
  obtain⟨b, off, cap, rfl, -, hc⟩ := h.at h0
  simp only[Value.ownBlock, Option.map_some, Option.some.injEq]at e
  have h1 := hc 0 _ (List.getElem?_eq_getElem (hn l[0]))
  have := World.block_lt_of_cell? wb _ h1
  simp only at this
  omega
end Go.Proofs.YtbpodipdfohikaaGreat
