import Derived.Test.YtbpodipdfohikaaGreatL05
set_option linter.unusedSimpArgs false
set_option linter.unusedVariables false
set_option maxRecDepth 100000
set_option maxHeartbeats 25600000
namespace Go.Proofs.YtbpodipdfohikaaGreat
section
open Go.RowKit
inductive Sp where
  |c (v : Value)
  |p (f : Value -> World -> Prop)
  |n
  |al (st iv : Nat) (z : Array Value) (T : TypeId)
  |st (ia : Nat)
  |rs (R iv : Nat) (z : Array Value) (T : TypeId)
def Sp.k : Sp -> Kd
  |.al a b z T => .al a b z T
  |.st a => .st a
  |.rs R b z T => .rs R b z T
  |_ => .op
def Sp.P : Sp -> Value -> World -> Prop
  |.c v => Pc v
  |.p f => f
  |_ => df
def sv : Sp -> Value -> Value
  |.c v, _ => v
  |_, u => u
def rg : Nat -> List (Option Tmp) -> List Nat
  |_, [] => []
  |k, _ :: r => k :: rg (k + 1) r
theorem zS : ((∀ P o a w R, Gives P o a w R = mI P R ((execOp a.eval o).run P w)) /\ (∀ ds vs a, aV ds vs [] a = a) /\ (∀ ds vs j r a, aV ds vs (j :: r) a = aV ds vs r (a.put (ds.getD j none) (vs j))) /\ (∀ (a : Act) (d : Tmp) v, a.put (some d) v = { a with tmps := a.tmps.setIfInBounds d v }) /\ (∀ (a : Act) v, a.put none v = a) /\ (∀ (α : Type) (x : α) l d, (x :: l).getD 0 d = x) /\ (∀ (α : Type) (x : α) l n d, (x :: l).getD (n + 1) d = l.getD n d) /\ (∀ (α : Type) (l : List α) i a, l.toArray.setIfInBounds i a = (l.set i a).toArray) /\ (∀ (α : Type) (x : α) l a, (x :: l).set 0 a = a :: l) /\ (∀ (α : Type) (x : α) l n a, (x :: l).set (n + 1) a = x :: l.set n a)) /\ (∀ v u, sv (.c v) u = v) /\ (∀ f u, sv (.p f) u = u) /\ (∀ u, sv .n u = u) /\ (∀ a b z T u, sv (.al a b z T) u = u) /\ (∀ a u, sv (.st a) u = u) /\ (∀ a b z T u, sv (.rs a b z T) u = u) /\ (∀ v, Sp.P (.c v) = Pc v) /\ (∀ f, Sp.P (.p f) = f) /\ Sp.P .n = df /\ (∀ k, rg k [] = []) /\ ∀ k d r, rg k (d :: r) = k :: rg (k + 1) r := ⟨⟨λ_ _ _ _ _ => rfl, λ_ _ _ => rfl, λ_ _ _ _ _ => rfl, λ_ _ _ => rfl, λ_ _ => rfl, λ_ _ _ _ => rfl, λ_ _ _ _ _ => rfl, λ_ l i a => List.setIfInBounds_toArray l i a, λ_ _ _ _ => rfl, λ_ _ _ _ _ => rfl⟩, λ_ _ => rfl, λ_ _ => rfl, λ_ => rfl, λ_ _ _ _ _ => rfl, λ_ _ => rfl, λ_ _ _ _ _ => rfl, λ_ => rfl, λ_ => rfl, rfl, λ_ => rfl, λ_ _ _ => rfl⟩
def jh (T : List Nat) (n : Nat) : List Bool := (List.range n).map T.contains
theorem I7 {T : List Nat} {n j : Nat} (h : T.contains j = false) : (jh T n).getD j false = false := by
  unfold jh
  rcases Nat.lt_or_ge j n with hj|hj
  · simp[List.getD, hj]; simpa using h
  · simp[List.getD, Nat.not_lt.2 hj]
def AS (Zs : List (Array Value × TypeId)) (T : List Nat) : Nat -> List Sp -> Prop
  |_, [] => True
  |i, .p f :: r => (nQ f /\ (T.contains i = false -> pR Zs f)) /\ AS Zs T (i + 1) r
  |i, _ :: r => AS Zs T (i + 1) r
theorem AS.all {Zs : List (Array Value × TypeId)} {T : List Nat} : ∀ (l : List Sp) (i : Nat), AS Zs T i l -> rq Zs ((List.range' i l.length).map T.contains) (l.map Sp.P)
  | [], _, _ => trivial
  |.p _ :: r, i, h => ⟨h.1, AS.all r (i + 1) h.2⟩
  |.c v :: r, i, h => ⟨⟨TW v, λ_ => TY _ v⟩, AS.all r (i + 1) h⟩
  |.n :: r, i, h => ⟨⟨wO, λ_ => yN _⟩, AS.all r (i + 1) h⟩
  |.al .. :: r, i, h => ⟨⟨wO, λ_ => yN _⟩, AS.all r (i + 1) h⟩
  |.st .. :: r, i, h => ⟨⟨wO, λ_ => yN _⟩, AS.all r (i + 1) h⟩
  |.rs .. :: r, i, h => ⟨⟨wO, λ_ => yN _⟩, AS.all r (i + 1) h⟩
theorem oN : ∀ l : List Sp, KP (l.map Sp.k) (l.map Sp.P)
  | [] => trivial
  |.p _ :: r => ⟨Ef, oN r⟩
  |.c _ :: r => ⟨Ef, oN r⟩
  |.n :: r => ⟨Ef, oN r⟩
  |.al .. :: r => ⟨D5, oN r⟩
  |.st .. :: r => ⟨D5, oN r⟩
  |.rs .. :: r => ⟨D5, oN r⟩
def kN (T : List Nat) (Ss : List Sp) : Bool := (List.range Ss.length).all λj => match Ss.getD j .n with
  |.c _ => !T.contains j
  |_ => true
theorem Jr {T : List Nat} {Ss : List Sp} (h : kN T Ss = true) {j : Nat} {v : Value} (hv : Ss.getD j .n = .c v) : T.contains j = false /\ j < Ss.length := by
  have hj : j < Ss.length := by
    rcases Nat.lt_or_ge j Ss.length with hj|hj
    · exact hj
    · rw[List.getD, List.getElem?_eq_none hj]at hv; cases hv
  have := List.all_eq_true.1 h j (List.mem_range.2 hj)
  rw[hv]at this
  exact⟨by simpa using this, hj⟩
theorem y8 (Ss : List Sp) (j : Nat) : (Ss.map Sp.P).getD j df = (Ss.getD j .n).P := by
  simp only[List.getD, List.getElem?_map]
  cases Ss[j]? <;> rfl
theorem JG {s : Sp} {v : Value} {x : World} (h : ∀ c, s = .c c -> s.P v x) : sv s v = v := by
  cases s with
  |c u => exact(h u rfl).symm
  |_ => rfl
section
variable {P : Program} {Q : Exit -> Act -> World -> Prop}
structure GE (T : List Nat) (Ss : List Sp) (w : World) (vs : Nat -> Value) (x : World) : Prop where
  g : qi (jh T Ss.length) (Ss.map Sp.k) (Ss.map Sp.P) w vs x
  c : ∀ j, sv (Ss.getD j .n) (vs j) = vs j
theorem GE.val {T : List Nat} {Ss : List Sp} {w : World} {vs : Nat -> Value} {x : World} (h : GE T Ss w vs x) (j : Nat) (hj : j < (Ss.map Sp.k).length := by simp) (hk : (jh T Ss.length).getD j false = false := by rfl) : ((Ss.map Sp.P).getD j df) (vs j) x := h.g.val j hj hk
theorem GE.box {T : List Nat} {Ss : List Sp} {w : World} {vs : Nat -> Value} {x : World} (h : GE T Ss w vs x) (i : Nat) {st iv : Nat} {z : Array Value} {t : TypeId} (hi : (Ss.map Sp.k).getD i .op = .al st iv z t := by rfl) : ∃ g, vs i = .pointer (some ⟨g, 0, none⟩) /\ w.heap.size <= g /\ g < x.heap.size /\ x.heap[g]? = some (.cells (fT (sv (Ss.getD iv .n) (vs iv))) t (0, 0)) := by
  rw[h.c]; exact h.g.box i st iv z t hi
theorem GE.res {T : List Nat} {Ss : List Sp} {w : World} {vs : Nat -> Value} {x : World} (h : GE T Ss w vs x) (i : Nat) {R iv : Nat} {z : Array Value} {t : TypeId} (hi : (Ss.map Sp.k).getD i .op = .rs R iv z t := by rfl) : x.heap[R]? = some (.cells (fT (sv (Ss.getD iv .n) (vs iv))) t (0, 0)) := by
  rw[h.c]; exact h.g.res i R iv z t hi
theorem GE.wS {T : List Nat} {Ss : List Sp} {w : World} {vs : Nat -> Value} {x : World} (h : GE T Ss w vs x) (hn : zy (Ss.map Sp.k) = true := by rfl) : Grow w x := h.g.grow hn
theorem GE.grow {T : List Nat} {Ss : List Sp} {w : World} {vs : Nat -> Value} {x : World} (h : GE T Ss w.drew vs x) (hn : zy (Ss.map Sp.k) = true := by rfl) : Grow w x := Hg (h.g.grow hn)
theorem GE.last {T : List Nat} {Ss : List Sp} {w : World} {vs : Nat -> Value} {x : World} (h : GE T Ss w.drew vs x) (n : Nat) {R iv : Nat} {z : Array Value} {t : TypeId} (hn : (Ss.map Sp.k).getD n .op = .rs R iv z t := by rfl) (h1 : ((List.range (Ss.map Sp.k).length).all λj => j == n || !((Ss.map Sp.k).getD j .op).jS) = true := by rfl) : Mv (λb => b = R) w x := Mv.trans ((Mv.refl _ _).drew) (h.g.last hn h1) (λ_ e => .inl e)
theorem GE.of {T : List Nat} {Ss : List Sp} {w : World} {vs : Nat -> Value} {x : World} (h : qi (jh T Ss.length) (Ss.map Sp.k) (Ss.map Sp.P) w vs x) (hc : kN T Ss = true) : GE T Ss w vs x :=
  ⟨h, λj => JG (x := x) λc e => by
    obtain⟨h1, h2⟩ := Jr hc e
    have := h.val j (by simpa using h2) (I7 h1)
    rwa[y8]at this⟩
structure kF (P : Program) (ds : List (Option Tmp)) (ws ns : List (List Nat)) (T : List Nat) (Ss : List Sp) (w : World) (a : Act) (i : Nat) (o : Oper) : Prop where
  s : GStep P ds ws ns (jh T Ss.length) (Ss.map Sp.k) (Ss.map Sp.P) w a i o
theorem wg {id : Nat} {a : Act} {w : World} {l : List Oper} (N : Nat) (ds : List (Option Tmp)) (ns : List (List Nat)) (T : List Nat) (Ss : List Sp) (jw : AS ((Ss.map Sp.k).filterMap Kd.zero) T 0 Ss) (hR0 : ∀ i R iv z t, (Ss.map Sp.k).getD i .op = .rs R iv z t -> R < w.drew.heap.size /\ w.drew.heap[R]? = some (.cells z t (0, 0)))
    (hstep : iY (kF P ds (bQ l.toArray) ns T Ss w.drew a) 0 l)
    (hend : ∀ (vs : Nat -> Value) (x : World), GE T Ss w.drew vs x -> Q .normal (aV ds (λj => sv (Ss.getD j .n) (vs j)) (rg 0 ds) a) x)
    (hm : P.follows .mixedOrders = true := by kernel_rfl) (hN : a.tmps.size = N := by rfl) (hok : gL N l.toArray ds (bQ l.toArray) ns [] = true := by kernel_rfl) (hkd : uD (bQ l.toArray) (jh T Ss.length) (Ss.map Sp.k) = true := by kernel_rfl) (hlen : (Ss.map Sp.k).length = l.length := by rfl) (hr : rg 0 ds = List.range l.length := by rfl) (hc : kN T Ss = true := by kernel_rfl) : (Code.region id l.toArray true).wp P Q a w :=
  O6 hm N ds (bQ l.toArray) ns (jh T Ss.length) (Ss.map Sp.k) (Ss.map Sp.P) hN hok hkd hlen (oN Ss) (by have := jw.all; rwa[← List.range_eq_range']at this) hR0 (xZ (λ_ _ h => h.s) _ _ hstep) λvs x h => by
    have h1 := GE.of h hc
    have h2 := hend vs x h1
    rwa[hr, tN _ _ λj _ => h1.c j]at h2
theorem zA {id : Nat} {a : Act} {w : World} {l : List Oper} (N : Nat) (ds : List (Option Tmp)) (ns : List (List Nat)) (T : List Nat) (Ss : List Sp) (jw : AS ((Ss.map Sp.k).filterMap Kd.zero) T 0 Ss) (hR0 : ∀ i R iv z t, (Ss.map Sp.k).getD i .op = .rs R iv z t -> R < w.heap.size /\ w.heap[R]? = some (.cells z t (0, 0)))
    (hstep : iY (kF P ds (bQ l.toArray) ns T Ss w a) 0 l)
    (hend : ∀ (vs : Nat -> Value) (x : World), GE T Ss w vs x -> Q .normal (aV ds (λj => sv (Ss.getD j .n) (vs j)) (rg 0 ds) a) x)
    (hN : a.tmps.size = N := by rfl) (hok : gL N l.toArray ds (bQ l.toArray) ns [] = true := by kernel_rfl) (hkd : uD (bQ l.toArray) (jh T Ss.length) (Ss.map Sp.k) = true := by kernel_rfl) (hlen : (Ss.map Sp.k).length = l.length := by rfl) (hr : rg 0 ds = List.range l.length := by rfl) (hc : kN T Ss = true := by kernel_rfl) : (Code.region id l.toArray false).wp P Q a w :=
  O4 N ds (bQ l.toArray) ns (jh T Ss.length) (Ss.map Sp.k) (Ss.map Sp.P) hN hok hkd hlen (oN Ss) (by have := jw.all; rwa[← List.range_eq_range']at this) hR0 (xZ (λ_ _ h => h.s) _ _ hstep) λvs x h => by
    have h1 := GE.of h hc
    have h2 := hend vs x h1
    rwa[hr, tN _ _ λj _ => h1.c j]at h2
end
theorem gw {w x : World} (h : Mv (λb => w.drew.heap.size <= b) w.drew x) : Grow w x := Hg (I6 h)
section
variable {P : Program} {ds : List (Option Tmp)} {ws ns : List (List Nat)} {T : List Nat} {Ss : List Sp} {w : World} {a : Act} {i : Nat} {o : Oper}
def oO (ws : List (List Nat)) (T : List Nat) (Ss : List Sp) (i : Nat) (vs : Nat -> Value) (x : World) : Prop := ∀ j ∈ ws.getD i [], ((jh T Ss.length).getD j false = true -> zx ws (Ss.map Sp.k) i = true) -> ((Ss.map Sp.P).getD j df) (vs j) x
theorem oO.eq {vs : Nat -> Value} {x : World} (h : oO ws T Ss i vs x) (hc : kN T Ss = true) (hs : ((ns.getD i []).all λj => (ws.getD i []).contains j) = true) : aV ds vs (ns.getD i []) a = aV ds (λj => sv (Ss.getD j .n) (vs j)) (ns.getD i []) a :=
  tN _ _ λj hj => (JG (x := x) λc e => by
    have := h j (by simpa using List.all_eq_true.1 hs j hj) (λhk => by rw[I7 (Jr hc e).1]at hk; cases hk)
    rwa[y8]at this).symm
theorem pq {vs : Nat -> Value} {x : World} (h : oO ws T Ss i vs x) (j : Nat) (m : (ws.getD i []).contains j = true := by kernel_rfl) (k : (jh T Ss.length).getD j false = true -> zx ws (Ss.map Sp.k) i = true := by intro _; kernel_rfl) : ((Ss.map Sp.P).getD j df) (vs j) x := h j (by simpa using m) k
theorem ox (h : ∀ (vs : Nat -> Value) (x : World), (uL ws (Ss.map Sp.k) i = true -> Mv (λb => w.heap.size <= b) w x) -> oO ws T Ss i vs x -> Gives P o (aV ds (λj => sv (Ss.getD j .n) (vs j)) (ns.getD i []) a) x (GR x (Ss.getD i .n).P)) (hk : (Ss.map Sp.k).getD i .op = .op := by rfl) (hc : kN T Ss = true := by kernel_rfl) (hs : ((ns.getD i []).all λj => (ws.getD i []).contains j) = true := by kernel_rfl) : kF P ds ws ns T Ss w a i o :=
  ⟨TE hk λvs x hx hP => by rw[oO.eq hP hc hs, y8]; exact h vs x hx hP⟩
theorem oo (h : ∀ (vs : Nat -> Value) (x : World), oO ws T Ss i vs x -> Gives P o (aV ds (λj => sv (Ss.getD j .n) (vs j)) (ns.getD i []) a) x (GR x (Ss.getD i .n).P)) (hk : (Ss.map Sp.k).getD i .op = .op := by rfl) (hc : kN T Ss = true := by kernel_rfl) (hs : ((ns.getD i []).all λj => (ws.getD i []).contains j) = true := by kernel_rfl) : kF P ds ws ns T Ss w a i o := ox (λvs x _ => h vs x) hk hc hs
theorem og (h : ∀ (vs : Nat -> Value) (x : World), Grow w x -> oO ws T Ss i vs x -> Gives P o (aV ds (λj => sv (Ss.getD j .n) (vs j)) (ns.getD i []) a) x (GR x (Ss.getD i .n).P)) (hk : (Ss.map Sp.k).getD i .op = .op := by rfl) (hr : uL ws (Ss.map Sp.k) i = true := by kernel_rfl) (hc : kN T Ss = true := by kernel_rfl) (hs : ((ns.getD i []).all λj => (ws.getD i []).contains j) = true := by kernel_rfl) : kF P ds ws ns T Ss w.drew a i o := ox (λvs x hx => h vs x (gw (hx hr))) hk hc hs
theorem gp (h : ∀ (vs : Nat -> Value) (x : World), Grow w x -> oO ws T Ss i vs x -> Gives P o (aV ds (λj => sv (Ss.getD j .n) (vs j)) (ns.getD i []) a) x (GR x (Ss.getD i .n).P)) (hk : (Ss.map Sp.k).getD i .op = .op := by rfl) (hr : uL ws (Ss.map Sp.k) i = true := by kernel_rfl) (hc : kN T Ss = true := by kernel_rfl) (hs : ((ns.getD i []).all λj => (ws.getD i []).contains j) = true := by kernel_rfl) : kF P ds ws ns T Ss w a i o := ox (λvs x hx => h vs x (I6 (hx hr))) hk hc hs
theorem ok {K : World -> Prop} (HK : RowKit.Hid (∀ y, Grow w y -> K y)) (h : ∀ (vs : Nat -> Value) (x : World), Grow w x -> RowKit.Hid (K x) -> oO ws T Ss i vs x -> Gives P o (aV ds (λj => sv (Ss.getD j .n) (vs j)) (ns.getD i []) a) x (GR x (Ss.getD i .n).P)) (hk : (Ss.map Sp.k).getD i .op = .op := by rfl) (hr : uL ws (Ss.map Sp.k) i = true := by kernel_rfl) (hc : kN T Ss = true := by kernel_rfl) (hs : ((ns.getD i []).all λj => (ws.getD i []).contains j) = true := by kernel_rfl) : kF P ds ws ns T Ss w.drew a i o := og (λvs x hx => h vs x hx (Lib.hid (HK.out x hx))) hk hr hc hs
theorem ok0 {K : World -> Prop} (HK : RowKit.Hid (∀ y, Grow w y -> K y)) (h : ∀ (vs : Nat -> Value) (x : World), Grow w x -> RowKit.Hid (K x) -> oO ws T Ss i vs x -> Gives P o (aV ds (λj => sv (Ss.getD j .n) (vs j)) (ns.getD i []) a) x (GR x (Ss.getD i .n).P)) (hk : (Ss.map Sp.k).getD i .op = .op := by rfl) (hr : uL ws (Ss.map Sp.k) i = true := by kernel_rfl) (hc : kN T Ss = true := by kernel_rfl) (hs : ((ns.getD i []).all λj => (ws.getD i []).contains j) = true := by kernel_rfl) : kF P ds ws ns T Ss w a i o := gp (λvs x hx => h vs x hx (Lib.hid (HK.out x hx))) hk hr hc hs
theorem os {ia st iv : Nat} {z : Array Value} {t : TypeId} (h : ∀ (vs : Nat -> Value) (x : World) (g : Nat), vs ia = .pointer (some ⟨g, 0, none⟩) -> x.heap[g]? = some (.cells z t (0, 0)) -> (Ss.getD iv .n).P (vs iv) x -> Gives P o (aV ds vs (ns.getD i []) a) x (λ_ y => y.heap[g]? = some (.cells (fT (vs iv)) t (0, 0)) /\ Mv (λb => b = g) x y)) (hk : (Ss.map Sp.k).getD i .op = .st ia := by rfl) (hk2 : (Ss.map Sp.k).getD ia .op = .al st iv z t := by rfl) : kF P ds ws ns T Ss w a i o :=
  ⟨TG hk hk2 (by simpa only[y8]using h)⟩
theorem oz {st iv : Nat} {z : Array Value} {t : TypeId} (h : ∀ (vs : Nat -> Value) (x : World), Gives P o (aV ds vs (ns.getD i []) a) x (λv y => v = .pointer (some ⟨x.heap.size, 0, none⟩) /\ y = x.alloc (.cells z t))) (hk : (Ss.map Sp.k).getD i .op = .al st iv z t := by rfl) : kF P ds ws ns T Ss w a i o := ⟨TF hk h⟩
theorem Ma {R iv : Nat} {z : Array Value} {t : TypeId} (h : ∀ (vs : Nat -> Value) (x : World), x.heap[R]? = some (.cells z t (0, 0)) -> (Ss.getD iv .n).P (vs iv) x -> Gives P o (aV ds vs (ns.getD i []) a) x (λ_ y => y.heap[R]? = some (.cells (fT (vs iv)) t (0, 0)) /\ Mv (λb => b = R) x y)) (hk : (Ss.map Sp.k).getD i .op = .rs R iv z t := by rfl) : kF P ds ws ns T Ss w a i o :=
  ⟨TH hk (by simpa only[y8]using h)⟩
theorem gk {x : World} {v : Value} {p : Value -> World -> Prop} (h : p v x) : mI P (GR x p) (.ok (.value v) x) := ⟨Mv.refl _ _, h⟩
theorem gl {x : World} {v : Value} {p : Value -> World -> Prop} {B : Obj} (h : p v (x.alloc B)) : mI P (GR x p) (.ok (.value v) (x.alloc B)) := ⟨(Mv.refl _ _).alloc _, h⟩
theorem gc {x : World} {v c : Value} (h : v = c := by rfl) : GR x (Pc c) v x := ⟨Mv.refl _ _, h⟩
theorem sR {Zs : List (Array Value × TypeId)} {b : Bool} {α : Type} {n : Nat} {f : α -> List Value} {F U : Nat -> Value} {l : List α} (hb : b = true := by rfl) : nQ (λv y => ∃ g, v = F g /\ ay n f y (U g) l) /\ (b = false -> pR Zs (λv y => ∃ g, v = F g /\ ay n f y (U g) l)) := ⟨λv x y hg h => by obtain⟨g, hv, hb⟩ := h; exact⟨g, hv, hb.later hg⟩, λh => by rw[hb]at h; cases h⟩
end
end
section
open Go.RowKit Go.Instr
inductive Tree where
  |mk (kind num : Int) (name : ByteArray) (kids : List Tree)
namespace Tree
def kind : Tree -> Int | .mk k _ _ _ => k
def num : Tree -> Int | .mk _ n _ _ => n
def name : Tree -> ByteArray | .mk _ _ s _ => s
def kids : Tree -> List Tree | .mk _ _ _ l => l
end Tree
def dA (n : Int) (s : ByteArray) : Bool := n == 0 && s.size == 0
def dP (n : Int) (s : ByteArray) : Bool := n == 0 && iP s
mutual
def aN : Tree -> Bool
  |.mk k n s l =>
    if k = 1 then decide (0 <= n) && (s.size == 0 && l.isEmpty)
    else if k = 2 \/ k = 4 \/ k = 5 then dP n s && l.isEmpty
    else if k = 3 then dP n s && (l.length == 1 && pU l)
    else if k = 6 \/ k = 7 then dA n s && (l.length == 1 && pU l)
    else if 8 <= k /\ k <= 23 then dA n s && (l.length == 2 && pU l)
    else false
def pU : List Tree -> Bool
  | [] => true
  |t :: l => aN t && pU l
end
def fo (t : Tree) : Bool := (t.kind == 2 || t.kind == 3) && aN t
def lC (t : Tree) : Bool := t.kind == 2 && aN t
def bz (ps : List (Tree -> Bool)) (l : List Tree) : Bool := match ps, l with
  | [], [] => true
  |p :: ps, t :: l => p t && bz ps l
  |_, _ => false
mutual
def aX : Tree -> Bool
  |.mk k n s l =>
    if k = 40 \/ k = 41 \/ k = 42 \/ k = 56 then dA n s && bz [fo, aN] l
    else if k = 43 then dA n s && bz [fo, fo] l
    else if k = 44 \/ k = 45 then dP n s && bz [fo] l
    else if k = 46 \/ k = 47 \/ k = 48 \/ k = 49 then dA n s && bz [fo] l
    else if k = 50 \/ k = 51 then dP n s && (decide (l.length <= 8) && l.all lC)
    else if k = 52 \/ k = 53 then dA n s && (bz [aN, λ_ => true, λ_ => true, aN] l && ((lN l).getD 1 false && (lN l).getD 2 false))
    else if k = 54 then dP n s && (bz [aN, λ_ => true, aN] l && (lN l).getD 1 false)
    else if k = 55 then dP n s && (l.length == 1 && (lN l).getD 0 false)
    else false
def ed : Tree -> Bool
  |.mk k n s l => k == 57 && (dA n s && yK l)
def lN : List Tree -> List Bool
  | [] => []
  |t :: l => ed t :: lN l
def yK : List Tree -> Bool
  | [] => true
  |t :: l => aX t && yK l
end
mutual
def dM : Tree -> Nat
  |.mk _ _ _ l => 1 + gW l
def gW : List Tree -> Nat
  | [] => 0
  |t :: l => dM t + gW l
end
mutual
def Js : Tree -> Nat
  |.mk _ _ _ l => I8 l + 1
def I8 : List Tree -> Nat
  | [] => 0
  |t :: l => max (Js t) (I8 l)
end
theorem DN (l : List Tree) : lN l = l.map ed := by
  induction l with
  |nil => rw[lN]; rfl
  |cons t l ih => rw[lN, ih]; rfl
theorem Qb (l : List Tree) : yK l = l.all aX := by
  induction l with
  |nil => rw[yK]; rfl
  |cons t l ih => rw[yK, ih]; rfl
inductive ae where
  |mk (kind num : Int) (name : ByteArray) (kv : Value) (kids : List ae)
def ae.cells : ae -> List Value
  |.mk k n s kv _ => [.int .u8 k, .int .i64 n, .string s, kv]
def ae.kids : ae -> List ae
  |.mk _ _ _ _ l => l
def ae.val : ae -> Value
  |.mk k n s kv _ => .agg #[.int .u8 k, .int .i64 n, .string s, kv]
mutual
def ae.t : ae -> Tree
  |.mk k n s _ l => .mk k n s (ae.ts l)
def ae.ts : List ae -> List Tree
  | [] => []
  |x :: l => x.t :: ae.ts l
end
theorem ae.oF (l : List ae) : ae.ts l = l.map ae.t := by
  induction l with
  |nil => rw[ae.ts]; rfl
  |cons t l ih => rw[ae.ts, ih]; rfl
theorem ae.dB (l : List ae) : (ae.ts l).length = l.length := by rw[ae.oF, List.length_map]
theorem ae.oG (l : List ae) (i : Nat) (h : i < l.length) : (ae.ts l)[i]'(by rw[ae.dB]; exact h) = l[i].t := by simp[ae.oF]
inductive bJ (w : World) : ae -> Prop
  |mk {k n : Int} {s : ByteArray} {kv : Value} {kids : List ae} (hk : 0 <= k /\ k <= 255) (hn : In64 n) (hs : s.size <= 9223372036854775807) (row : ay 4 ae.cells w kv kids) (each : ∀ x ∈ kids, bJ w x) : bJ w (.mk k n s kv kids)
theorem bJ.later {w w' : World} {x : ae} (h : bJ w x) (hm : Grow w w') : bJ w' x := by
  induction h with
  |mk hk hn hs row _ ih => exact .mk hk hn hs (row.later hm) ih
theorem bJ.row {w : World} {k n : Int} {s : ByteArray} {kv : Value} {kids : List ae} (h : bJ w (.mk k n s kv kids)) : (0 <= k /\ k <= 255) /\ In64 n /\ s.size <= 9223372036854775807 /\ ay 4 ae.cells w kv kids /\ ∀ x ∈ kids, bJ w x := by
  cases h with
  |mk hk hn hs row each => exact⟨hk, hn, hs, row, each⟩
def fq (w : World) (b : Bool) (e : Ending) (w' : World) : Prop := e = .returned (.bool b) /\ Grow w w'
theorem Gr {s : ByteArray} (h : s.size = 0) : s.toList.isEmpty = true := by
  obtain rfl := Gn (s := s) (by omega)
  have h1 : ByteArray.toList ⟨#[]⟩ = [] := by rw[ByteArray.toList_eq]
  rw[h1]; rfl
theorem fA {w : World} {X : Nat} {c0 c1 c2 c3 : Value} {t : TypeId} (h : w.heap[X]? = some (.cells #[c0, c1, c2, c3] t (0, 0))) : w.cell? ⟨X, 0, none⟩ = some c0 /\ w.cell? ⟨X, 1, none⟩ = some c1 /\ w.cell? ⟨X, 2, none⟩ = some c2 /\ w.cell? ⟨X, 3, none⟩ = some c3 := by
  simp[World.cell?, h]
theorem bJ.form {w : World} {k n : Int} {s : ByteArray} {kv : Value} {l : List ae} (h : bJ w (.mk k n s kv l)) : ∃ a cap, kv = .slice a l.length cap /\ l.length <= cap /\ l.length <= 9223372036854775807 := h.row.2.2.2.1.form
theorem qX {k n : Int} {s : ByteArray} {kv : Value} {l : List ae} {x : ae} (h : x ∈ l) : SizeOf.sizeOf x < SizeOf.sizeOf (ae.mk k n s kv l) := by
  have := List.sizeOf_lt_of_mem h
  simp
  omega
theorem Hl : ∀ (ps : List (Tree -> Bool)) (l : List Tree), ps.length ≠ l.length -> bz ps l = false
  | [], [], h => absurd rfl h
  | [], _ :: _, _ => by simp[bz]
  |_ :: _, [], _ => by simp[bz]
  |p :: ps, t :: l, h => by
    rw[bz, Hl ps l (by simpa using h), Bool.and_false]
theorem GH : ∀ (ps : List (Tree -> Bool)) (l : List Tree), ps.length = l.length -> (∀ i (h1 : i < ps.length) (h2 : i < l.length), ps[i] l[i] = true) -> bz ps l = true
  | [], [], _, _ => by simp[bz]
  | [], _ :: _, h, _ => by simp at h
  |_ :: _, [], h, _ => by simp at h
  |p :: ps, t :: l, h, hh => by
    have h0 := hh 0 (by simp) (by simp)
    simp at h0
    rw[bz, h0, GH ps l (by simpa using h) (λi h1 h2 => hh (i + 1) (Nat.succ_lt_succ h1) (Nat.succ_lt_succ h2))]
    rfl
theorem Gt : ∀ (ps : List (Tree -> Bool)) (l : List Tree) (i : Nat) (h1 : i < ps.length) (h2 : i < l.length), ps[i] l[i] = false -> bz ps l = false
  |p :: ps, t :: l, 0, _, _, h => by
    simp at h
    rw[bz, h, Bool.false_and]
  |p :: ps, t :: l, i + 1, h1, h2, h => by
    rw[bz, Gt ps l i (Nat.lt_of_succ_lt_succ h1) (Nat.lt_of_succ_lt_succ h2) h, Bool.and_false]
set_option maxRecDepth 100000 in
theorem tO (k n : Int) (s : ByteArray) (a : Option Addr) (l : List ae) (cap : Nat) (w : World) : Calls Tryz.prog 70 #[.agg #[.int .u8 k, .int .i64 n, .string s, .slice a l.length cap]] w (fq w (dA n s)) := by
  have HG := Lib.hid (show Grow w (w.alloc (.cells #[.int .u8 k, .int .i64 n, .string s, .slice a l.length cap] 40))from(Mv.refl _ _).alloc _)
  by_cases hn : n = 0
  · subst hn
    by_cases hs : s.size = 0
    · have hemp := Gr hs
      have HR := Lib.hid (show dA 0 s = true from by simp[dA, hs])
      clear hs
      go_enter Tryz.func70, Tryz.ntmps70
      go_wp2_with fail
      go_ret
      exact⟨aU HR.out.symm, HG.out⟩
    · have hne := ym (s := s) (by omega)
      have HR := Lib.hid (show dA 0 s = false from by simp[dA, hs])
      clear hs
      go_enter Tryz.func70, Tryz.ntmps70
      go_wp2_with fail
      go_ret
      exact⟨aU HR.out.symm, HG.out⟩
  · have hn2 : (n == 0) = false := by simpa using hn
    have HR := Lib.hid (show dA n s = false from by simp[dA, hn])
    go_enter Tryz.func70, Tryz.ntmps70
    go_wp2_with fail
    go_ret
    exact⟨aU HR.out.symm, HG.out⟩
set_option maxRecDepth 100000 in
theorem tQ (k n : Int) (s : ByteArray) (a : Option Addr) (l : List ae) (cap : Nat) (w : World) (hs : s.size <= 9223372036854775807) : Calls Tryz.prog 96 #[.agg #[.int .u8 k, .int .i64 n, .string s, .slice a l.length cap]] w (fq w (dP n s)) := by
  have HG := Lib.hid (show Grow w (w.alloc (.cells #[.int .u8 k, .int .i64 n, .string s, .slice a l.length cap] 40))from(Mv.refl _ _).alloc _)
  by_cases hn : n = 0
  · subst hn
    have HR := Lib.hid (show dP 0 s = iP s from by simp[dP])
    have HN := Lib.hid (Dw s (w.alloc (.cells #[.int .u8 k, .int .i64 0, .string s, .slice a l.length cap] 40)) hs)
    go_enter Tryz.func96, Tryz.ntmps96
    go_wp2_with fail
    refine HN.out.mono ?_
    rintro e w1 ⟨rfl, hg1⟩
    have aj := Lib.hid (Mv.trans HG.out hg1 (λ_ e => e.elim))
    clear hg1
    go_wp2_with fail
    go_ret
    exact⟨aU HR.out.symm, aj.out⟩
  · have hn2 : (n == 0) = false := by simpa using hn
    have HR := Lib.hid (show dP n s = false from by simp[dP, hn])
    go_enter Tryz.func96, Tryz.ntmps96
    go_wp2_with fail
    go_ret
    exact⟨aU HR.out.symm, HG.out⟩
def Vd (f : Nat) : List Value := [.func (.func f) #[] #[]]
set_option maxRecDepth 100000 in
set_option maxHeartbeats 1600000 in
theorem nR (k n : Int) (s : ByteArray) (kv : Value) (l : List ae) (fs : List Nat) (ps : List (Tree -> Bool)) (tv : Value) (w : World) (hx : bJ w (.mk k n s kv l)) (ht : ay 1 Vd w tv fs) (hl : ps.length = fs.length)
    (hf3 : ∀ f ∈ fs, f = 95 \/ f = 94 \/ f = 49)
    (hc : ∀ i (hi : i < fs.length) (hk : i < l.length) (hp : i < ps.length) (w' : World), Grow w w' -> Calls Tryz.prog fs[i] #[l[i].val] w' (fq w' (ps[i] l[i].t))) :
    Calls Tryz.prog 93 #[ae.val (.mk k n s kv l), tv] w (fq w (bz ps (ae.ts l))) := by
  obtain⟨a, cap, rfl, hcap, hlen⟩ := hx.form
  obtain⟨ta, Xz, rfl, Xr, Xt⟩ := ht.form
  have HX := Lib.hid hx
  have HT := Lib.hid ht
  have HC := Lib.hid hc
  have xA := Lib.hid hl
  have uN := Lib.hid hf3
  clear hx ht hc hl hf3
  have HG := Lib.hid (show Grow w (w.alloc (.cells #[.int .u8 k, .int .i64 n, .string s, .slice a l.length cap] 40))from(Mv.refl _ _).alloc _)
  have HB := Lib.hid (heap_alloc_new w (.cells #[.int .u8 k, .int .i64 n, .string s, .slice a l.length cap] 40))
  simp only[ae.val]
  by_cases hle : l.length = fs.length
  case neg =>
    have h1 : (l.length == fs.length) = false := by simpa using hle
    have HR := Lib.hid (show bz ps (ae.ts l) = false from Hl _ _ (by rw[ae.dB, xA.out]; omega))
    go_enter Tryz.func93, Tryz.ntmps93
    go_wp2_with fail
    go_ret
    exact⟨aU HR.out.symm, HG.out⟩
  have oP := Lib.hid hle
  rw[hle]at HB HG hcap
  rw[hle]
  clear hle
  go_enter Tryz.func93, Tryz.ntmps93
  go_wp2_with fail
  generalize w.alloc (.cells #[.int .u8 k, .int .i64 n, .string s, .slice a fs.length cap] 40) = w1 at *
  go_loopw [15] (λt wr => ∃ j : Nat, t = .int .i64 j /\ j <= fs.length /\ (∀ i (h1 : i < ps.length) (h2 : i < l.length), i < j -> ps[i] l[i].t = true) /\ Grow w1 wr) (λt _ => fs.length - (intOf t).toNat)
  case atStart => exact⟨0, rfl, Nat.zero_le _, λi _ _ h => by omega, Mv.refl _ _⟩
  obtain⟨j, rfl, hj, hall, hgr⟩ := hrel
  have y9 := Lib.hid hall
  have bR := Lib.hid hgr
  have lY := Lib.hid (Mv.trans HG.out hgr (λ_ e => e.elim))
  have hb := ai HB.out hgr
  obtain⟨m0, m1, m2, m3⟩ := fA hb
  have hlb := lt_of_block hb
  clear hall hgr hb
  by_cases hlt : j < fs.length
  · have hjl : j < l.length := by rw[oP.out]; exact hlt
    have hjp : j < ps.length := by rw[xA.out]; exact hlt
    obtain⟨tb, XA, Xu, e, _, htc⟩ := (HT.out.later lY.out).at hlt
    simp only[Value.slice.injEq, true_and]at e
    obtain⟨rfl, rfl⟩ := e
    have f0 := htc 0 _ rfl
    simp only[Nat.add_zero, Nat.mul_one]at f0
    have XB : tb < wr.heap.size := World.block_lt_of_cell? wr _ f0
    obtain⟨b, off, cap', e, _, hcc⟩ := (HX.out.row.2.2.2.1.later lY.out).at hjl
    rw[oP.out]at e
    simp only[Value.slice.injEq, true_and]at e
    obtain⟨rfl, rfl⟩ := e
    have uO := Lib.hid (HC.out j hlt hjl hjp wr lY.out)
    have hxo := HX.out.row.2.2.2.2 l[j] (List.getElem_mem hjl)
    have HST := Lib.hid (show(ps[j] l[j].t = true -> ∀ i (h1 : i < ps.length) (h2 : i < l.length), i < j + 1 -> ps[i] l[i].t = true)from λh i h1 h2 hi => by
      rcases Nat.lt_or_ge i j with h3|h3
      · exact y9.out i h1 h2 h3
      · obtain rfl : i = j := by omega
        exact h)
    have uP := Lib.hid (show(ps[j] l[j].t = false -> bz ps (ae.ts l) = false)from λh => Gt ps (ae.ts l) j hjp (by rw[ae.dB]; exact hjl) (by rw[ae.oG l j hjl]; exact h))
    generalize hbv : ps[j] l[j].t = bv at *
    generalize l[j] = x at uO hxo hcc
    have hfj := uN.out fs[j] (List.getElem_mem hlt)
    generalize fs[j] = fj at *
    obtain⟨xk, xn, xs, Ve, xl⟩ := x
    obtain⟨xa, Er, rfl, -, -⟩ := hxo.form
    simp only[ae.val]at uO
    have c0 := hcc 0 _ rfl
    have c1 := hcc 1 _ rfl
    have c2 := hcc 2 _ rfl
    have c3 := hcc 3 _ rfl
    simp only[Nat.add_zero]at c0
    have hbl : b < wr.heap.size := World.block_lt_of_cell? wr _ c0
    clear htc hcc hxo hbv
    rcases hfj with rfl|rfl|rfl
    all_goals
      go_wp2_with fail
      refine uO.out.mono ?_
      rintro e w2 ⟨rfl, hg2⟩
      have HG2 := Lib.hid (Mv.trans bR.out hg2 (λ_ e => e.elim))
      have iR := Lib.hid (Mv.trans lY.out hg2 (λ_ e => e.elim))
      clear hg2
      cases bv with
      |true =>
        have jg := Lib.hid (HST.out rfl)
        go_wp2_with fail
        go_roundw
        case rel => exact⟨j + 1, by go_num, by omega, jg.out, HG2.out⟩
        case measure => simp[intOf]; omega
      |false =>
        have HR := Lib.hid (uP.out rfl)
        go_wp2_with fail
        go_ret
        exact⟨aU HR.out.symm, iR.out⟩
  obtain rfl : j = fs.length := by omega
  have HR := Lib.hid (show bz ps (ae.ts l) = true from GH _ _ (by rw[ae.dB, xA.out, oP.out]) (λi h1 h2 => by
    rw[ae.oG l i (by rw[ae.dB]at h2; exact h2)]
    exact y9.out i h1 (by rw[ae.dB]at h2; exact h2) (by rw[← xA.out]; exact h1)))
  go_wp2_with fail
  go_ret
  exact⟨aU HR.out.symm, lY.out⟩
set_option maxRecDepth 100000 in
set_option maxHeartbeats 1600000 in
theorem Dp (kv : Value) (l : List ae) (f : Nat) (p : Tree -> Bool) (w : World) (hrow : ay 4 ae.cells w kv l) (hx : ∀ x ∈ l, bJ w x) (hf2 : f = 72 \/ f = 97)
    (hc : ∀ x ∈ l, ∀ (w' : World), Grow w w' -> Calls Tryz.prog f #[x.val] w' (fq w' (p x.t))) :
    Calls Tryz.prog 71 #[kv, .func (.func f) #[] #[]] w (fq w ((ae.ts l).all p)) := by
  obtain⟨a, cap, rfl, hcap, hlen⟩ := hrow.form
  have jL := Lib.hid hrow
  have HX := Lib.hid hx
  have HC := Lib.hid hc
  clear hrow hx hc
  rcases hf2 with rfl|rfl
  all_goals
    go_enter Tryz.func71, Tryz.ntmps71
    go_wp2_with fail
    go_loopw [9] (λt wr => ∃ j : Nat, t = .int .i64 j /\ j <= l.length /\ (∀ i (h2 : i < l.length), i < j -> p l[i].t = true) /\ Grow w wr) (λt _ => l.length - (intOf t).toNat)
    case atStart => exact⟨0, rfl, Nat.zero_le _, λi _ h => by omega, Mv.refl _ _⟩
    obtain⟨j, rfl, hj, hall, hgr⟩ := hrel
    have y9 := Lib.hid hall
    have bR := Lib.hid hgr
    clear hall hgr
    by_cases hlt : j < l.length
    · obtain⟨b, off, cap', e, _, hcc⟩ := (jL.out.later bR.out).at hlt
      simp only[Value.slice.injEq, true_and]at e
      obtain⟨rfl, rfl⟩ := e
      have hxo := HX.out l[j] (List.getElem_mem hlt)
      have uO := Lib.hid (λw' (h : Grow wr w') => HC.out l[j] (List.getElem_mem hlt) w' (Mv.trans bR.out h (λ_ e => e.elim)))
      have HST := Lib.hid (show(p l[j].t = true -> ∀ i (h2 : i < l.length), i < j + 1 -> p l[i].t = true)from λh i h2 hi => by
        rcases Nat.lt_or_ge i j with h3|h3
        · exact y9.out i h2 h3
        · obtain rfl : i = j := by omega
          exact h)
      have uP := Lib.hid (show(p l[j].t = false -> (ae.ts l).all p = false)from λh => List.all_eq_false.2 ⟨l[j].t, by rw[ae.oF]; exact List.mem_map.2 ⟨l[j], List.getElem_mem hlt, rfl⟩, by rw[h]; simp⟩)
      generalize hbv : p l[j].t = bv at *
      generalize l[j] = x at uO hxo hcc
      obtain⟨xk, xn, xs, Ve, xl⟩ := x
      obtain⟨xa, Er, rfl, -, -⟩ := hxo.form
      simp only[ae.val]at uO
      have c0 := hcc 0 _ rfl
      have c1 := hcc 1 _ rfl
      have c2 := hcc 2 _ rfl
      have c3 := hcc 3 _ rfl
      simp only[Nat.add_zero]at c0
      have hbl : b < wr.heap.size := World.block_lt_of_cell? wr _ c0
      have gU := Lib.hid (uO.out (wr.alloc (.cells #[.int .u8 xk, .int .i64 xn, .string xs, .slice xa xl.length Er] 40)) ((Mv.refl _ _).alloc _))
      have bE := Lib.hid (bR.out.alloc (.cells #[.int .u8 xk, .int .i64 xn, .string xs, .slice xa xl.length Er] 40))
      clear hcc hxo hbv
      go_wp2_with fail
      refine gU.out.mono ?_
      rintro e w2 ⟨rfl, hg2⟩
      have HG2 := Lib.hid (Mv.trans bE.out hg2 (λ_ e => e.elim))
      clear hg2
      cases bv with
      |true =>
        have jg := Lib.hid (HST.out rfl)
        go_wp2_with fail
        go_roundw
        case rel => exact⟨j + 1, by go_num, by omega, jg.out, HG2.out⟩
        case measure => simp[intOf]; omega
      |false =>
        have HR := Lib.hid (uP.out rfl)
        go_wp2_with fail
        go_ret
        exact⟨aU HR.out.symm, HG2.out⟩
    obtain rfl : j = l.length := by omega
    have HR := Lib.hid (show(ae.ts l).all p = true from List.all_eq_true.2 λt ht => by
      rw[ae.oF]at ht
      obtain⟨x, hx, rfl⟩ := List.mem_map.1 ht
      obtain⟨i, hi, rfl⟩ := List.mem_iff_getElem.1 hx
      exact y9.out i hi hi)
    go_wp2_with fail
    go_ret
    exact⟨aU HR.out.symm, bR.out⟩
end
end Go.Proofs.YtbpodipdfohikaaGreat
