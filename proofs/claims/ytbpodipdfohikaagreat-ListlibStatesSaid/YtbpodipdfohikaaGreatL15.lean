import Derived.Test.YtbpodipdfohikaaGreatL14
set_option linter.unusedSimpArgs false
set_option linter.unusedVariables false
set_option maxRecDepth 100000
set_option maxHeartbeats 25600000
namespace Go.Proofs.YtbpodipdfohikaaGreat
open Go.RowKit Go.Instr
attribute [local go_sem ↓] fB
def aB (i : Int) : List Value := [.int .i64 i]
theorem Tryz.kG : Elem Tryz.prog 22 3 1 8 := Elem.of Tryz.underlying22 Tryz.DT rfl (by decide) (by decide)
abbrev Bh (w : World) (base : Nat) (v : Value) (l : List Int) : Prop := w.ownsRow base 3 1 v l.length (flat aB l)
set_option maxRecDepth 100000 in
theorem Dj (v : Value) (l : List Int) (w : World) (h : ay 1 aB w v l) (hb : l.length * 8 <= 140737488355328) :
    Calls Tryz.prog 22 #[v] w (SY 1 aB w l) := by
  obtain⟨a, cap, rfl, hc, hl⟩ := h.form
  cases a with
  |none =>
    obtain rfl : l = [] := by
      cases l with
      |nil => rfl
      |cons x l => obtain⟨b, off, c, e, _⟩ := h.at (i := 0) (by simp); simp at e
    have heq : (binOp .eql 22 (.slice none 0 cap) (.slice none 0 0)).run Tryz.prog w = .ok (.bool true) w := by
      have := Lib.run_eql_slice_nil (P := Tryz.prog) w 22 3 none 0 cap 0 0 Tryz.underlying22
      simpa using this
    go_enter Tryz.func22, Tryz.ntmps22
    go_wp2_with fail
    go_ret
    exact⟨_, rfl, ay.nil _ _ _, λg hg => by simp[Value.ownBlock]at hg, Mv.refl _ _⟩
  |some a =>
    obtain⟨v', w2, ⟨hok, hv, hw⟩, ⟨hrow, hown⟩, hg⟩ := QO Tryz.kG (λ_ => rfl) _ l w.heap.size (w.alloc (.cells #[] 3)) (heap_alloc_new w _) (h.later ((Mv.refl _ _).alloc _)) hb
    have heq : (binOp .eql 22 (.slice (some a) l.length cap) (.slice none 0 0)).run Tryz.prog w = .ok (.bool false) w := by
      have := Lib.run_eql_slice_nil (P := Tryz.prog) w 22 3 (some a) l.length cap 0 0 Tryz.underlying22
      simpa using this
    have HR := Lib.hid hrow
    have HW := Lib.hid (λg hg => (show w.heap.size <= g /\ g < w2.heap.size from⟨by rcases(hown g hg).1 with h|h; omega; simp at h; omega, (hown g hg).2⟩))
    have HG := Lib.hid (Mv.trans ((Mv.refl (λ_ => False) w).alloc (.cells #[] 3)) hg (λ_ e => e.elim))
    clear h hrow hown hg
    go_enter Tryz.func22, Tryz.ntmps22
    go_wp2_with fail
    go_ret
    exact⟨_, rfl, HR.out, HW.out, HG.out⟩
theorem yL {α : Type} {f : α -> List Value} {n e base : Nat} {w : World} {a : Option Addr} {c : Nat} {l : List α} {x : α} (hf : ∀ x, (f x).length = n) (h : w.ownsRow base e n (.slice a (l.length + 1) c) (l ++ [x]).length (flat f (l ++ [x]))) :
    w.ownsRow base e n (.slice a l.length c) l.length (flat f l) := by
  obtain⟨h1, h2⟩ := h
  refine⟨mE f n hf l, .inr ?_⟩
  rcases h2 with⟨e1, -⟩|⟨g, cap, cur, e1, hb, hg, hc, hm, hs, ht⟩
  · simp at e1
  · simp only[Value.slice.injEq]at e1
    obtain⟨rfl, e2, rfl⟩ := e1
    simp only[List.length_append, List.length_cons, List.length_nil, Nat.zero_add]at hc ht
    refine⟨g, c, cur, rfl, hb, hg, by omega, hm, hs, ?_⟩
    have := congrArg (List.take (l.length * n)) ht
    rw[List.take_take, Db, List.take_append_of_le_length (by rw[mE f n hf]; exact Nat.le_refl _)]at this
    rw[Nat.min_eq_left (Nat.mul_le_mul_right n (by omega)), List.take_of_length_le (l := flat f l) (by rw[mE f n hf]; exact Nat.le_refl _)]at this
    exact this
theorem Sz (v : Value) (x : Int) (xs : List Int) (base g : Nat) (w : World) (hrow : Bh w base v xs) (hb : base <= w.heap.size) (hlen : xs.length <= 900000) (hg : w.heap[g]? = some (.cells #[.int .i64 x] 3 (0, 0))) :
    ∃ a' c' w2, (qd Tryz.prog 22 22 v (.slice (some ⟨g, 0, none⟩) 1 1) w /\
        mW Tryz.prog 22 22 v (.slice (some ⟨g, 0, none⟩) 1 1) w = .slice a' (xs.length + 1) c' /\ appW Tryz.prog 22 22 v (.slice (some ⟨g, 0, none⟩) 1 1) w = w2) /\
      Bh w2 base (.slice a' (xs.length + 1) c') (xs ++ [x]) /\ Mv (λb => v.ownBlock = some b) w w2 /\ (∀ g, (Value.slice a' (xs.length + 1) c').ownBlock = some g -> v.ownBlock = some g \/ w.heap.size <= g) :=
  jv Tryz.kG (f := aB) (λ_ => rfl) v _ xs [x] base w hrow (ay.dG (f := aB) (l := [x]) (λ_ => rfl) hg (by simp[flat, aB]) (by simp)) (λy hy u hu => by simp[aB]at hu; subst hu; rfl) hb (by simp; omega)
mutual
def iD : Tree -> List Tree
  |.mk k n s l => .mk k n s l :: jy l
def jy : List Tree -> List Tree
  | [] => []
  |t :: l => iD t ++ jy l
end
theorem C9 : ∀ (a b : List Tree), jy (a ++ b) = jy a ++ jy b
  | [], b => by simp[jy]
  |t :: a, b => by simp[jy, C9 a b]
theorem GN (l : List Tree) (i : Nat) (h : i < l.length) : jy (l.take (i + 1)) = jy (l.take i) ++ iD l[i] := by
  rw[List.take_succ_eq_append_getElem h, C9]; simp[jy]
theorem Pt (l : List Tree) (i : Nat) (h : i < l.length) : jy (l.take i) ++ iD l[i] <+: jy l := by
  rw[← GN l i h]
  conv => rhs; rw[← List.take_append_drop (i + 1) l, C9]
  exact List.prefix_append _ _
structure uy (Ts : Nat -> TypeId -> Bool) (n0 : Nat) : Prop where
  node : ∀ b, Ts b 40 = false
  int : ∀ b, n0 <= b -> Ts b 3 = false
  ints : ∀ b, Ts b 22 = false
  yf : ∀ b, Ts b 151 = false
  vf : ∀ b, Ts b 65 = false
theorem uy.up {Ts : Nat -> TypeId -> Bool} {n0 n1 : Nat} (h : uy Ts n0) (hn : n0 <= n1) : uy Ts n1 := ⟨h.node, λb hb => h.int b (by omega), h.ints, h.yf, h.vf⟩
def pE (Ts : Nat -> TypeId -> Bool) (b : Nat) (t : TypeId) : Bool := Ts b t || t == 3 || t == 22
theorem gZ.VP {Ts : Nat -> TypeId -> Bool} {W W' : World} (h : gZ Ts W W') : gZ (pE Ts) W W' := h.mono (λb hb => .inl λ⟨cs, t, z, hc, ht⟩ => hb ⟨cs, t, z, hc, by simp[pE]at ht; exact ht.1.1⟩)
theorem ku {Ts : Nat -> TypeId -> Bool} {W W' : World} (h : Grow W W') : gZ Ts W W' := h.mono (λ_ e => e.elim)
theorem A9 {Ts : Nat -> TypeId -> Bool} {B : Nat} {W W' : World} (h : Grow W W') : uB Ts B W W' := h.mono (λ_ e => e.elim)
theorem gZ.cells {Ts : Nat -> TypeId -> Bool} {W W' : World} (h : gZ Ts W W') {b : Nat} {cs : Array Value} {t : TypeId} {z : Nat × Nat} (hb : W.heap[b]? = some (.cells cs t z)) (ht : Ts b t = false) : W'.heap[b]? = some (.cells cs t z) :=
  (h.block b (lt_of_block hb) (λe => e ⟨cs, t, z, hb, ht⟩)).trans hb
structure kH (n0 l Y P V : Nat) (W : World) (path : Value) (ps : List Int) : Prop where
  y : W.heap[Y]? = some (.cells #[.func (.yield l) #[] #[]] 151 (0, 0))
  p : W.heap[P]? = some (.cells #[path] 22 (0, 0))
  v : W.heap[V]? = some (.cells #[.func (.func 103) #[] #[.pointer (some ⟨Y, 0, none⟩), .pointer (some ⟨P, 0, none⟩), .pointer (some ⟨V, 0, none⟩)]] 65 (0, 0))
  hP : n0 <= P
  row : Bh W n0 path ps
theorem kH.bd {Ts : Nat -> TypeId -> Bool} {n0 l Y P V : Nat} (hT : uy Ts n0) {W W' : World} {path : Value} {ps : List Int} (h : kH n0 l Y P V W path ps) (hm : gZ Ts W W') : kH n0 l Y P V W' path ps :=
  ⟨hm.cells h.y (hT.yf _), hm.cells h.p (hT.ints _), hm.cells h.v (hT.vf _), h.hP, aZ h.row hm (λg hg e => by
    obtain⟨h1, cs, z, hc⟩ := bH h.row g hg
    exact e ⟨cs, _, z, hc, hT.int _ h1⟩)⟩
theorem kH.step {n0 l Y P V : Nat} {W W' : World} {path path' : Value} {ps ps' : List Int} (h : kH n0 l Y P V W path ps) (hm : Mv (λb => b = P \/ path.ownBlock = some b) W W') (hp : W'.heap[P]? = some (.cells #[path'] 22 (0, 0))) (hr : Bh W' n0 path' ps') : kH n0 l Y P V W' path' ps' := by
  have hne : ∀ {b : Nat} {cs : Array Value} {t : TypeId} {z : Nat × Nat}, W.heap[b]? = some (.cells cs t z) -> t ≠ 3 -> t ≠ 22 -> W'.heap[b]? = some (.cells cs t z) := fun {b cs t z} hb h1 h2 => by
    refine(hm.block b (lt_of_block hb) (λe => ?_)).trans hb
    rcases e with rfl|e
    · rw[h.p]at hb; simp at hb; exact h2 hb.2.1.symm
    · obtain⟨-, cs', z', hc⟩ := bH h.row b e
      rw[hc]at hb; simp at hb; exact h1 hb.2.1.symm
  exact⟨hne h.y (by decide) (by decide), hp, hne h.v (by decide) (by decide), h.hP, hr⟩
theorem kH.own {n0 l Y P V : Nat} {W : World} {path : Value} {ps : List Int} (h : kH n0 l Y P V W path ps) {b : Nat} (hb : b = P \/ path.ownBlock = some b) : n0 <= b /\ ∃ cs t z, W.heap[b]? = some (.cells cs t z) /\ (t = 3 \/ t = 22) := by
  rcases hb with rfl|hb
  · exact⟨h.hP, _, _, _, h.p, .inr rfl⟩
  · obtain⟨h1, cs, z, hc⟩ := bH h.row b hb
    exact⟨h1, cs, _, z, hc, .inl rfl⟩
theorem Jf {Ts : Nat -> TypeId -> Bool} {n0 : Nat} (hT : uy Ts n0) {W W' : World} {O : Nat -> Prop} (hm : Mv O W W') (hO : ∀ b, O b -> n0 <= b /\ ∃ cs t z, W.heap[b]? = some (.cells cs t z) /\ (t = 3 \/ t = 22)) : uB Ts n0 W W' /\ gZ (pE Ts) W W' := by
  refine⟨hm.mono λb hb => .inl ?_, hm.mono λb hb => .inl ?_⟩
  · obtain⟨h1, cs, t, z, hc, ht⟩ := hO b hb
    rintro((h|⟨cs', t', z', hc', ht'⟩)|⟨o, ho, hn⟩)
    · omega
    · rw[hc]at hc'
      simp only[Option.some.injEq, Obj.cells.injEq]at hc'
      obtain⟨-, rfl, -⟩ := hc'
      rcases ht with rfl|rfl
      · rw[hT.int _ h1]at ht'; cases ht'
      · rw[hT.ints]at ht'; cases ht'
    · rw[hc]at ho; cases ho; cases hn
  · obtain⟨h1, cs, t, z, hc, ht⟩ := hO b hb
    rintro⟨cs', t', z', hc', ht'⟩
    rw[hc]at hc'
    simp only[Option.some.injEq, Obj.cells.injEq]at hc'
    obtain⟨-, rfl, -⟩ := hc'
    rcases ht with rfl|rfl <;> simp[pE]at ht'
theorem aS.bd {Ts : Nat -> TypeId -> Bool} (hN : ∀ b, Ts b 40 = false) {P : Nat -> Prop} {W W' : World} {x : ae} (h : aS P W x) (hm : gZ Ts W W') : aS P W' x := h.stay hm (λb cs z _ hc e => e ⟨cs, _, z, hc, hN _⟩)
def came (ys : List (Value × ae)) : List Tree := ys.map λz => z.2.t
def SA (Ts : Nat -> TypeId -> Bool) (J Jx : List (Value × ae) -> World -> Prop) (pre : List (Value × ae)) (n0 l Y P V : Nat) (ps : List Int) (x : ae) (W : World) (e : Ending) (W' : World) : Prop :=
  (e = .returned (.bool true) /\ ∃ path' ys, came ys = iD x.t /\ J (pre ++ ys) W' /\ kH n0 l Y P V W' path' ps /\ gZ (pE Ts) W W') \/ (e = .returned (.bool false) /\ ∃ ys, came ys <+: iD x.t /\ Jx (pre ++ ys) W')
def VI (J Jx : List (Value × ae) -> World -> Prop) (Ts : Nat -> TypeId -> Bool) (pre : List (Value × ae)) (l : Nat) (path xv : Value) (xt : Tree) (W : World) (L : Array Bool) (vs : Nat -> Value) (y : World) : Prop :=
  (L.getD 5 false = false -> L.getD 6 false = false /\ Grow W y /\ (L.getD 0 false = true -> vs 0 = .func (.yield l) #[] #[]) /\ (L.getD 1 false = true -> vs 1 = path) /\ (L.getD 3 false = true -> vs 3 = xv) /\ (L.getD 4 false = true -> ∃ y' : ae, vs 4 = y'.fix.val /\ y'.t = xt)) /\
  (L.getD 5 false = true -> ∃ z : Value × ae, z.2.t = xt /\ ((vs 5 = .bool true /\ J (pre ++ [z]) y /\ gZ Ts W y) \/ (vs 5 = .bool false /\ Jx (pre ++ [z]) y))) /\
  (L.getD 6 false = true -> ∃ b, vs 5 = .bool b /\ vs 6 = .bool (!b))
section
variable {J Jx : List (Value × ae) -> World -> Prop} {Ts : Nat -> TypeId -> Bool} {pre : List (Value × ae)} {l : Nat} {path xv : Value} {xt : Tree} {W y y2 : World} {L : Array Bool} {vs : Nat -> Value}
theorem VI.put (h : VI J Jx Ts pre l path xv xt W L vs y) (hs : L.size = 7) (i : Nat) (hi : i < 5) (h5 : L.getD 5 false = false) (v : Value) (hg : Grow y y2) (h0 : i = 0 -> v = .func (.yield l) #[] #[]) (h1 : i = 1 -> v = path) (h3 : i = 3 -> v = xv) (h4 : i = 4 -> ∃ y' : ae, v = y'.fix.val /\ y'.t = xt) :
    VI J Jx Ts pre l path xv xt W (L.setIfInBounds i true) (upd vs i v) y2 := by
  obtain⟨ha, hb, hc⟩ := h
  obtain⟨a6, ag, a0, a1, a3, a4⟩ := ha h5
  have hset : ∀ j, (L.setIfInBounds i true).getD j false = if i = j then true else L.getD j false := λj => En (by omega) j
  have key : ∀ (j : Nat) (p : Value -> Prop), (i = j -> p v) -> (L.getD j false = true -> p (vs j)) -> (L.setIfInBounds i true).getD j false = true -> p (upd vs i v j) := by
    intro j p hv hold e
    rw[hset]at e
    unfold upd
    by_cases hij : j = i
    · rw[if_pos hij]; exact hv hij.symm
    · rw[if_neg hij]; rw[if_neg (λe => hij e.symm)]at e; exact hold e
  refine⟨λ_ => ⟨by rw[hset, if_neg (by omega)]; exact a6, gtr ag hg, key 0 (λv => v = .func (.yield l) #[] #[]) h0 a0, key 1 (λv => v = path) h1 a1, key 3 (λv => v = xv) h3 a3, key 4 (λv => ∃ y' : ae, v = y'.fix.val /\ y'.t = xt) h4 a4⟩, λe => ?_, λe => ?_⟩
  · rw[hset, if_neg (by omega), h5]at e; cases e
  · rw[hset, if_neg (by omega), a6]at e; cases e
theorem VI.J8 (h : VI J Jx Ts pre l path xv xt W L vs y) (hs : L.size = 7) (h5 : L.getD 5 false = false) (v : Value) (hz : ∃ z : Value × ae, z.2.t = xt /\ ((v = .bool true /\ J (pre ++ [z]) y2 /\ gZ Ts W y2) \/ (v = .bool false /\ Jx (pre ++ [z]) y2))) :
    VI J Jx Ts pre l path xv xt W (L.setIfInBounds 5 true) (upd vs 5 v) y2 := by
  have hset : ∀ j, (L.setIfInBounds 5 true).getD j false = if 5 = j then true else L.getD j false := λj => En (by omega) j
  refine⟨λe => ?_, λ_ => ?_, λe => ?_⟩
  · rw[hset, if_pos rfl]at e; cases e
  · simpa[upd]using hz
  · rw[hset, if_neg (by decide), ((h.1 h5).1)]at e; cases e
theorem VI.Uk (h : VI J Jx Ts pre l path xv xt W L vs y) (hs : L.size = 7) (h5 : L.getD 5 false = true) (b : Bool) (hb : vs 5 = .bool b) :
    VI J Jx Ts pre l path xv xt W (L.setIfInBounds 6 true) (upd vs 6 (.bool (!b))) y := by
  have hset : ∀ j, (L.setIfInBounds 6 true).getD j false = if 6 = j then true else L.getD j false := λj => En (by omega) j
  refine⟨λe => ?_, λ_ => ?_, λe => ⟨b, by simp[upd, hb], by simp[upd]⟩⟩
  · rw[hset, if_neg (by decide), h5]at e; cases e
  · simpa[upd]using h.2.1 h5
end
attribute [local go_sem ↓] fB
theorem yM {L : Array Bool} (h4 : ll [[], [], [1], [], [3, 2], [0, 2, 4, 4], [5]] L) (i : Nat) (hi : i < 5) (h2 : L.getD i false = false) : L.getD 5 false = false := by
  rcases hb : L.getD 5 false with _|_
  · rfl
  · exfalso
    have a0 := h4 5 hb 0 (by simp)
    have a2 := h4 5 hb 2 (by simp)
    have a4 := h4 5 hb 4 (by simp)
    have a3 := h4 4 a4 3 (by simp)
    have a1 := h4 2 a2 1 (by simp)
    match i, hi with
    |0, _ => rw[a0]at h2; cases h2
    |1, _ => rw[a1]at h2; cases h2
    |2, _ => rw[a2]at h2; cases h2
    |3, _ => rw[a3]at h2; cases h2
    |4, _ => rw[a4]at h2; cases h2
set_option maxRecDepth 100000 in
set_option maxHeartbeats 12800000 in
theorem QS (Ts : Nat -> TypeId -> Bool) (Sp : List (Value × ae) -> Prop) (J Jx : List (Value × ae) -> World -> Prop) (n0 l Y P V : Nat) (hT : uy Ts n0) (hJ : ∀ s X Z, J s X -> uB Ts n0 X Z -> J s Z)
    (hY : ∀ pre (x : Value × ae) W1, J pre W1 -> Sp (pre ++ [x]) -> YieldAt Fence.wide 10 Tryz.prog l #[x.1, x.2.fix.val] W1 λe W' => (e = .returned (.bool true) /\ J (pre ++ [x]) W' /\ gZ Ts W1 W') \/ (e = .returned (.bool false) /\ Jx (pre ++ [x]) W')) :
    ∀ (m : Nat) (x : ae), SizeOf.sizeOf x <= m -> ∀ (W : World) (pre : List (Value × ae)) (path : Value) (ps : List Int), ps.length + dM x.t <= 900000 -> kH n0 l Y P V W path ps -> aS (λ_ => True) W x -> J pre W -> n0 <= W.heap.size -> (∀ zs, came zs <+: iD x.t -> Sp (pre ++ zs)) ->
      Calls Tryz.prog 103 #[x.val, .pointer (some ⟨Y, 0, none⟩), .pointer (some ⟨P, 0, none⟩), .pointer (some ⟨V, 0, none⟩)] W (SA Ts J Jx pre n0 l Y P V ps x W) := by
  intro m
  induction m with
  |zero => intro x hm; cases x; simp at hm
  |succ m ih =>
    intro x hm W pre path ps hsz hvs hno hj hn0 hsp
    have cK := Lib.hid hsp
    clear hsp
    obtain⟨k, n, s, kv, ls⟩ := x
    obtain⟨ka, kc, rfl, hkc, hkl⟩ := hno.at.form
    obtain⟨pa, pc, hpv⟩ := dL hvs.row
    subst hpv
    have gD := Lib.hid (λ(i : Nat) (hi : i < ls.length) => ih ls[i] (by
      have := qX (k := k) (n := n) (s := s) (kv := .slice ka ls.length kc) (List.getElem_mem hi)
      omega))
    have xH := Lib.hid (λ(i : Nat) (hi : i < ls.length) => show ps.length + 1 + dM ls[i].t <= 900000 /\ ls.length <= 900000 from by have := AY (k := k) (n := n) (s := s) (kv := .slice ka ls.length kc) i hi; omega)
    have pz := Lib.hid (show ps.length <= 900000 /\ dM (ae.t (.mk k n s (.slice ka ls.length kc) ls)) <= 900000 from by omega)
    have oU := Lib.hid (heap_alloc_new W (.cells #[.int .u8 k, .int .i64 n, .string s, .slice ka ls.length kc] 40))
    have hg2 : Grow W (W.alloc (.cells #[.int .u8 k, .int .i64 n, .string s, .slice ka ls.length kc] 40)) := (Mv.refl _ _).alloc _
    have lY := Lib.hid hg2
    have pF := Lib.hid (hvs.bd hT (ku hg2))
    have bL := Lib.hid (hno.bd hT.node (ku (Ts := Ts) hg2))
    have HJ2 := Lib.hid (hJ _ _ _ hj (A9 hg2))
    have HS2 := Lib.hid (show n0 <= (W.alloc (.cells #[.int .u8 k, .int .i64 n, .string s, .slice ka ls.length kc] 40)).heap.size from by simp; omega)
    clear hvs hno hj hg2 ih hsz
    simp only[ae.val]
    go_enter Tryz.func103, Tryz.ntmps103
    go_upto_region 1 with fail
    generalize W.alloc (.cells #[.int .u8 k, .int .i64 n, .string s, .slice ka ls.length kc] 40) = w2 at *
    refine O5 (by kernel_rfl) 37 [some 8, some 9, some 10, some 11, some 12, some 13, some 14] [[], [], [1], [], [3, 2], [0, 2, 4, 4], [5]] [[], [], [1], [], [3], [0, 2, 4], [5]] rfl (by kernel_rfl)
      (VI J Jx Ts pre l (.slice pa ps.length pc) (.agg #[.int .u8 k, .int .i64 n, .string s, .slice ka ls.length kc]) (ae.t (.mk k n s (.slice ka ls.length kc) ls)) w2) ?i0 ?steps ?done
    case i0 => exact⟨λ_ => ⟨by simp, (Mv.refl _ _).drew, by simp, by simp, by simp, by simp⟩, by simp, by simp⟩
    case steps =>
      refine⟨?s0, ?s1, ?s2, ?s3, ?s4, ?s5, ?s6, trivial⟩
      case s0 =>
        intro L vs x h1 h2 h3 h4 h5
        have h50 := yM h4 0 (by decide) h2
        have hG := (h5.1 h50).2.1
        have c0 := cell1 (pF.out.bd hT (ku hG)).y
        have HH := Lib.hid h5
        clear h3 h4 h5
        unfold ja
        simp only[aV, Act.put, List.getD_cons_zero, List.getD_cons_succ, List.setIfInBounds_toArray, List.set_cons_zero, List.set_cons_succ]
        go_simp
        exact HH.out.put h1 0 (by decide) h50 _ (Mv.refl _ _) (λ_ => rfl) (by simp) (by simp) (by simp)
      case s1 =>
        intro L vs x h1 h2 h3 h4 h5
        have h50 := yM h4 1 (by decide) h2
        have hG := (h5.1 h50).2.1
        have c0 := cell1 (pF.out.bd hT (ku hG)).p
        have HH := Lib.hid h5
        clear h3 h4 h5
        unfold ja
        simp only[aV, Act.put, List.getD_cons_zero, List.getD_cons_succ, List.setIfInBounds_toArray, List.set_cons_zero, List.set_cons_succ]
        go_simp
        exact HH.out.put h1 1 (by decide) h50 _ (Mv.refl _ _) (by simp) (λ_ => rfl) (by simp) (by simp)
      case s2 =>
        intro L vs x h1 h2 h3 h4 h5
        have h50 := yM h4 2 (by decide) h2
        have hv1 : vs 1 = .slice pa ps.length pc := (h5.1 h50).2.2.2.1 (h3 1 (by simp))
        have hG := (h5.1 h50).2.1
        have HC := Lib.hid (Dj (.slice pa ps.length pc) ps x (bX (λ_ => rfl) (pF.out.bd hT (ku hG)).row) (by have := pz.out.1; omega))
        have HH := Lib.hid h5
        clear h3 h4 h5
        unfold ja
        simp only[aV, Act.put, List.getD_cons_zero, List.getD_cons_succ, List.setIfInBounds_toArray, List.set_cons_zero, List.set_cons_succ, hv1]
        go_simp
        refine(HC.out).mono ?_
        rintro e y ⟨v, rfl, -, -, hg⟩
        exact⟨_, rfl, HH.out.put h1 2 (by decide) h50 _ hg (by simp) (by simp) (by simp) (by simp)⟩
      case s3 =>
        intro L vs x h1 h2 h3 h4 h5
        have h50 := yM h4 3 (by decide) h2
        have hG := (h5.1 h50).2.1
        obtain⟨⟨Yv, n1⟩, n2, n3⟩ := aJ (ai oU.out hG)
        have HH := Lib.hid h5
        clear h3 h4 h5
        unfold ja
        simp only[aV, Act.put, List.getD_cons_zero, List.getD_cons_succ, List.setIfInBounds_toArray, List.set_cons_zero, List.set_cons_succ]
        go_simp
        exact HH.out.put h1 3 (by decide) h50 _ (Mv.refl _ _) (by simp) (by simp) (λ_ => rfl) (by simp)
      case s4 =>
        intro L vs x h1 h2 h3 h4 h5
        have h50 := yM h4 4 (by decide) h2
        have hv3 : vs 3 = .agg #[.int .u8 k, .int .i64 n, .string s, .slice ka ls.length kc] := (h5.1 h50).2.2.2.2.1 (h3 3 (by simp))
        have hG := (h5.1 h50).2.1
        have HC := Lib.hid (Ho (.mk k n s (.slice ka ls.length kc) ls) x pz.out.2 (bL.out.at.later hG))
        simp only[ae.val]at HC
        have HH := Lib.hid h5
        clear h3 h4 h5
        unfold ja
        simp only[aV, Act.put, List.getD_cons_zero, List.getD_cons_succ, List.setIfInBounds_toArray, List.set_cons_zero, List.set_cons_succ, hv3]
        go_simp
        refine(HC.out).mono ?_
        rintro e y ⟨v, rfl, ht, Ul, hg⟩
        exact⟨_, rfl, HH.out.put h1 4 (by decide) h50 _ hg (by simp) (by simp) (by simp) (λ_ => ⟨v, by rw[Ul.fix], ht⟩)⟩
      case s5 =>
        intro L vs x h1 h2 h3 h4 h5
        have hG := (h5.1 h2).2.1
        have hv0 := (h5.1 h2).2.2.1 (h3 0 (by simp))
        obtain⟨y', hv4, jW⟩ := (h5.1 h2).2.2.2.2.2 (h3 4 (by simp))
        obtain⟨fn, tmps, assign, body, hy, hR⟩ := hY pre (vs 2, y') x (hJ _ _ _ HJ2.out (A9 hG)) (cK.out [(vs 2, y')] (by simp[came, jW, iD, ae.t]))
        have HR := Lib.hid (Ha (m := 0) hR)
        have HH := Lib.hid h5
        clear h3 h4 h5 hR
        unfold ja
        simp only[aV, Act.put, List.getD_cons_zero, List.getD_cons_succ, List.setIfInBounds_toArray, List.set_cons_zero, List.set_cons_succ, hv0, hv4]
        go_simp
        refine(HR.out).mono ?_
        rintro e y (⟨rfl, nI, hb3⟩|⟨rfl, hx3⟩)
        · exact⟨_, rfl, HH.out.J8 h1 h2 _ ⟨_, jW, .inl ⟨rfl, nI, tV (ku hG) hb3⟩⟩⟩
        · exact⟨_, rfl, HH.out.J8 h1 h2 _ ⟨_, jW, .inr ⟨rfl, hx3⟩⟩⟩
      case s6 =>
        intro L vs x h1 h2 h3 h4 h5
        have xB := h3 5 (by simp)
        obtain⟨b, hv5⟩ : ∃ b, vs 5 = .bool b := by
          obtain⟨z, -, h|h⟩ := h5.2.1 xB
          · exact⟨_, h.1⟩
          · exact⟨_, h.1⟩
        have HH := Lib.hid h5
        clear h3 h4 h5
        unfold ja
        simp only[aV, Act.put, List.getD_cons_zero, List.getD_cons_succ, List.setIfInBounds_toArray, List.set_cons_zero, List.set_cons_succ, hv5]
        go_simp
        exact HH.out.Uk h1 xB b hv5
    case done =>
    intro L vs w3 hall hI
    obtain⟨b, hv5, hv6⟩ := hI.2.2 (hall 6 (by simp))
    obtain⟨z, Nb, hz⟩ := hI.2.1 (hall 5 (by simp))
    simp only[List.length_cons, List.length_nil, Nat.zero_add, Nat.reduceAdd]
    rw[show List.range 7 = [0, 1, 2, 3, 4, 5, 6]from rfl]
    simp only[aV, Act.put, List.getD_cons_zero, List.getD_cons_succ, List.setIfInBounds_toArray, List.set_cons_zero, List.set_cons_succ, hv5, hv6]
    rcases hz with⟨e5, nI, hb3⟩|⟨e5, hx3⟩
    · rw[hv5]at e5
      simp only[Value.bool.injEq]at e5
      subst e5
      have VQ := Lib.hid nI
      have HB3 := Lib.hid hb3
      have J9 := Lib.hid (hb3.cells oU.out (hT.node _))
      have VR := Lib.hid (pF.out.bd hT hb3)
      clear hI hall nI hb3
      generalize vs 0 = v0 at *
      generalize vs 1 = v1 at *
      generalize vs 2 = v2 at *
      generalize vs 3 = v3 at *
      generalize vs 4 = v4 at *
      clear hv5 hv6 vs
      obtain⟨⟨d0, d1⟩, d2, d3⟩ := aJ J9.out
      have hlb := lt_of_block J9.out
      simp only[Bool.not_true]
      go_wp2_with fail
      clear d0 d1 d2 d3 hlb
      go_loopw [18] (λt wr => ∃ (j : Nat) (ys : List (Value × ae)) (path' : Value), t = .int .i64 j /\ j <= ls.length /\ came ys = ae.t (.mk k n s (.slice ka ls.length kc) ls) :: jy ((ae.ts ls).take j) /\ J (pre ++ ys) wr /\ kH n0 l Y P V wr path' ps /\ gZ (pE Ts) w2 wr) (λt _ => ls.length - (intOf t).toNat)
      case atStart => exact⟨0, [z], _, rfl, Nat.zero_le _, by simp[came, Nb, jy], VQ.out, VR.out, HB3.out.VP⟩
      obtain⟨j, ys, path', rfl, hj, JK, Nc, hv4, hb4⟩ := hrel
      have Nf := Lib.hid Nc
      have Fw := Lib.hid hv4
      have dE := Lib.hid hb4
      have HCM := Lib.hid JK
      clear JK Nc hb4
      by_cases hlt : j < ls.length
      · obtain⟨kb, ko, mY, dR, -, -⟩ := bL.out.at.row.2.2.2.1.at (show 0 < ls.length by omega)
        simp only[Value.slice.injEq, true_and]at dR
        obtain⟨rfl, rfl⟩ := dR
        obtain⟨pb, qc, u7⟩ := dL hv4.row
        subst u7
        have Fx : aS (λ_ => True) wr (.mk k n s (.slice (some ⟨kb, ko, none⟩) ls.length kc) ls) := bL.out.bd (Ts := pE Ts) (by simp[pE, hT.node]) dE.out
        have eY := rF Fx.at j hlt
        have VS := Lib.hid (show aS (λ_ => True) wr ls[j]from by cases Fx with|mk _ _ _ _ _ each => exact each _ (List.getElem_mem hlt))
        have HC := Lib.hid (gD.out j hlt)
        have hsz2 := xH.out j hlt
        have sM := Lib.hid (show came ys ++ iD ls[j].t = ae.t (.mk k n s (.slice (some ⟨kb, ko, none⟩) ls.length kc) ls) :: jy ((ae.ts ls).take (j + 1))from by
          rw[HCM.out, GN _ j (by rw[ae.dB]; exact hlt), ae.oG ls j hlt]; rfl)
        have Ng := Lib.hid (show came ys ++ iD ls[j].t <+: iD (ae.t (.mk k n s (.slice (some ⟨kb, ko, none⟩) ls.length kc) ls))from by
          have := Pt (ae.ts ls) j (by rw[ae.dB]; exact hlt)
          rw[ae.oG ls j hlt]at this
          rw[HCM.out]
          simpa[ae.t, iD]using this)
        have VT := Lib.hid (λ(zs : List (Value × ae)) (hz : came zs <+: iD ls[j].t) => show Sp (pre ++ ys ++ zs)from by
          rw[List.append_assoc]
          refine cK.out (ys ++ zs) ?_
          have e : came (ys ++ zs) = came ys ++ came zs := by simp[came]
          rw[e]
          exact((List.prefix_append_right_inj _).2 hz).trans Ng.out)
        have VU := Lib.hid (show(ps ++ [(j : Int)]).length + dM ls[j].t <= 900000 from by simp; omega)
        clear hv4 Fx
        generalize ls[j] = y at *
        obtain⟨yk, yn, ys', yv, yl⟩ := y
        obtain⟨ya, yc, rfl, -, -⟩ := eY.at_.form
        obtain⟨⟨d0, d1⟩, d2, d3⟩ := eY.four
        simp only[ae.val]at HC
        have hbl : kb < wr.heap.size := World.block_lt_of_cell? wr _ d0
        have jV := Lib.hid (heap_alloc_new wr (.cells #[.int .u8 yk, .int .i64 yn, .string ys', .slice ya yl.length yc] 40))
        have hga : Grow wr (wr.alloc (.cells #[.int .u8 yk, .int .i64 yn, .string ys', .slice ya yl.length yc] 40)) := (Mv.refl _ _).alloc _
        have hgb : Grow wr ((wr.alloc (.cells #[.int .u8 yk, .int .i64 yn, .string ys', .slice ya yl.length yc] 40)).alloc (.cells #[.int .i64 j] 3)) := hga.alloc _
        have hva := Fw.out.bd hT (ku hga)
        have hvb := Fw.out.bd hT (ku hgb)
        have hib := heap_alloc_new (wr.alloc (.cells #[.int .u8 yk, .int .i64 yn, .string ys', .slice ya yl.length yc] 40)) (.cells #[.int .i64 j] 3)
        rw[World.size_alloc]at hib
        have hn0 : n0 <= wr.heap.size := by have := HS2.out; have := dE.out.size; omega
        obtain⟨a', c', wc, ⟨hok, hv, hw⟩, hrow2, jM, -⟩ := Sz _ j ps n0 _ _ hvb.row (by have := hgb.size; omega) pz.out.1 hib
        have c0 := cell1 hva.p
        have hlp := lt_of_block hva.p
        have hpc : wc.heap[P]? = some (.cells #[.slice pb ps.length qc] 22 (0, 0)) := by
          rw[jM.block P (lt_of_block hvb.p) (λe => bM hvb.row hvb.p (by decide) e)]; exact hvb.p
        obtain⟨hs1, hs2⟩ := set1 hpc (.slice a' (ps.length + 1) c')
        have zc := bD hpc
        have VV := cell1 hpc
        have hlc := lt_of_block hpc
        have hmd : Mv (λb => b = P \/ (Value.slice pb ps.length qc).ownBlock = some b) _ (wc.setCell ⟨P, 0, none⟩ (.slice a' (ps.length + 1) c')) := (jM.mono (λb e => .inl (.inr e))).trans hs2 (λb e => .inl (.inl e))
        have hrd := aZ hrow2 hs2 (λg hg e => by subst e; exact bM hrow2 hpc (by decide) hg)
        have Fy := Lib.hid (show kH n0 l Y P V (wc.setCell ⟨P, 0, none⟩ (.slice a' (ps.length + 1) c')) (.slice a' (ps.length + 1) c') (ps ++ [(j : Int)])from hvb.step hmd hs1 hrd)
        obtain⟨hi1, hi2⟩ := Jf hT hmd (λb hb => hvb.own hb)
        have VW := Lib.hid (hJ _ _ _ (hJ _ _ _ Nf.out (A9 hgb)) hi1)
        have pg := Lib.hid (tV dE.out (tV (ku hgb) hi2))
        have pG := Lib.hid (VS.out.bd (Ts := pE Ts) (by simp[pE, hT.node]) (tV (ku hgb) hi2))
        have VX := Lib.hid (show n0 <= (wc.setCell ⟨P, 0, none⟩ (.slice a' (ps.length + 1) c')).heap.size from by have := hmd.size; have := hgb.size; omega)
        have Fz : (wc.setCell ⟨P, 0, none⟩ (.slice a' (ps.length + 1) c')).heap[wr.heap.size]? = some (.cells #[.int .u8 yk, .int .i64 yn, .string ys', .slice ya yl.length yc] 40 (0, 0)) := by
          have h1 := bY jV.out (.cells #[.int .i64 (j : Int)] 3)
          have h2 : (wc.setCell ⟨P, 0, none⟩ (.slice a' (ps.length + 1) c')).heap[wr.heap.size]? = _ := hmd.block wr.heap.size (lt_of_block h1) (λe => by
            obtain⟨-, cs, t, zz, hc, ht⟩ := hvb.own e
            rw[h1]at hc
            simp only[Option.some.injEq, Obj.cells.injEq]at hc
            obtain⟨-, rfl, -⟩ := hc
            rcases ht with ht|ht <;> exact absurd ht (by decide))
          rw[h2]; exact h1
        obtain⟨⟨y0, y1⟩, y2, y3⟩ := aJ Fz
        have VY := lt_of_block Fz
        have VZ := cell1 Fy.out.v
        have hlv := lt_of_block Fy.out.v
        clear hva hvb hib hmd hrd hi1 hi2 hga hgb Fz jM hrow2 hs1 hs2 eY hpc
        generalize hwd : wc.setCell ⟨P, 0, none⟩ (.slice a' (ps.length + 1) c') = wd at *
        go_wp2_with fail
        refine(HC.out wd (pre ++ ys) _ (ps ++ [(j : Int)]) VU.out Fy.out pG.out VW.out VX.out VT.out).mono ?_
        clear hok hv hw c0 hlp zc VV hlc hwd y0 y1 y2 y3 VY VZ hlv d0 d1 d2 d3 hbl HC jV
        rintro e w5 (⟨rfl, Xv, xI, Nh, zO, hv5, hb5⟩|⟨rfl, xI, zP, hx5⟩)
        · obtain⟨p5, q5, zP⟩ := dL hv5.row
          have hl5 : (ps ++ [(j : Int)]).length = ps.length + 1 := by simp
          rw[hl5]at zP
          subst zP
          have c5 := cell1 hv5.p
          have hl := lt_of_block hv5.p
          have z5 := bD hv5.p
          have hlen := pz.out.1
          have hcap : ps.length + 1 <= q5 := by
            rcases hv5.row.2 with⟨e, -⟩|⟨g, cap, cur, e, -, -, h, -⟩
            · simp at e
            · simp only[Value.slice.injEq]at e
              rw[hl5]at h; omega
          have i1 : IntKind.i64.wrap (((ps.length + 1 : Nat) : Int) - 1) = (ps.length : Int) := by rw[IntWalk.i64_in _ (by omega)]; omega
          obtain⟨hs1, hs2⟩ := set1 hv5.p (.slice p5 ps.length q5)
          have hmd : Mv (λb => b = P \/ (Value.slice p5 (ps.length + 1) q5).ownBlock = some b) w5 (w5.setCell ⟨P, 0, none⟩ (.slice p5 ps.length q5)) := hs2.mono (λb e => .inl (.inl e))
          have kT := yL (n := 1) (f := aB) (l := ps) (x := (j : Int)) (λ_ => rfl) hv5.row
          have hrd := aZ kT hs2 (λg hg e => by subst e; exact bM kT hv5.p (by decide) hg)
          have V3 := Lib.hid (hv5.step hmd hs1 hrd)
          obtain⟨hi1, hi2⟩ := Jf hT hmd (λb hb => hv5.own hb)
          have V4 := Lib.hid (hJ _ _ _ zO hi1)
          have mf := Lib.hid (tV pg.out (tV hb5 hi2))
          have zQ := Lib.hid ((show came (ys ++ xI) = came ys ++ came xI from by simp[came]).trans (by rw[Nh, sM.out]))
          clear hmd kT hrd hi1 hi2 hs1 hs2 hv5 zO hb5 Nh sM
          go_wp2_with fail
          refine⟨⟨j + 1, ys ++ xI, _, by simp, by omega, zQ.out, by have := V4.out; rwa[List.append_assoc]at this, V3.out, mf.out⟩, by simp[intOf] <;> omega⟩
        · have eT := Lib.hid hx5
          have zQ := Lib.hid (show came (ys ++ xI) <+: _ from by
            obtain⟨r, hr⟩ := zP
            refine List.IsPrefix.trans ?_ Ng.out
            exact⟨r, by rw[← hr]; simp[came]⟩)
          clear hx5 zP
          go_wp2_with fail
          go_ret
          exact .inr ⟨rfl, ys ++ xI, zQ.out, by have := eT.out; rwa[List.append_assoc]at this⟩
      · obtain rfl : j = ls.length := by omega
        have zQ := Lib.hid (show came ys = iD (ae.t (.mk k n s (.slice ka ls.length kc) ls))from by
          rw[HCM.out, List.take_of_length_le (by rw[ae.dB]; exact Nat.le_refl _)]; simp[ae.t, iD])
        go_wp2_with fail
        go_ret
        exact .inl ⟨rfl, _, ys, zQ.out, Nf.out, Fw.out, tV (ku lY.out) dE.out⟩
    · rw[hv5]at e5
      simp only[Value.bool.injEq]at e5
      subst e5
      have iU := Lib.hid hx3
      clear hI hall hx3
      simp only[Bool.not_false]
      go_wp2_with fail
      go_ret
      exact .inr ⟨rfl, [z], by simp[came, Nb, iD, ae.t], iU.out⟩
end Go.Proofs.YtbpodipdfohikaaGreat
