import Derived.Test.YtbpodipdfohikaaGreatL08
set_option linter.unusedSimpArgs false
set_option linter.unusedVariables false
set_option maxRecDepth 100000
set_option maxHeartbeats 25600000
namespace Go.Proofs.YtbpodipdfohikaaGreat
open Go.RowKit
structure dD where
  vars : List (au × Nat)
  locals : Nat
structure ah where
  cells : List (List Int)
  base : dD
  calls : List dD
  steps : Nat
def ah.cur (s : ah) : dD := match s.calls.getLast? with
  |some f => f
  |none => s.base
def ah.setCur (s : ah) (f : dD) : ah := if s.calls.length = 0 then { s with base := f }else { s with calls := s.calls.set (s.calls.length - 1) f }
def bf : List (au × Nat) -> ByteArray -> Option (au × Nat)
  | [], _ => none
  |v :: l, n => match bf l n with
    |some x => some x
    |none => if v.1.name == n then some v else none
def ah.look (s : ah) (n : ByteArray) : Option (List Int) := (bf s.cur.vars n).map λv => s.cells.getD v.2 []
def fF (look : ByteArray -> Option (List Int)) : Tree -> Option (Int × Int)
  |.mk k n s l =>
    if k = 1 then some (n, 0)
    else if k = 2 then match look s with
      |none => some (0, 6)
      |some c => if c.length = 1 then some (c.getD 0 0, 0)else some (0, 7)
    else if k = 5 then match look s with
      |none => some (0, 6)
      |some c => some (c.length, 0)
    else if k = 16 then match uw look l with
      | [some (x, e), some (y, f)] => if e = 0 then(if f = 0 then some (if x = y then 1 else 0, 0)else some (0, f))else some (0, e)
      |_ => none
    else none
where uw (look : ByteArray -> Option (List Int)) : List Tree -> List (Option (Int × Int))
  | [] => []
  |t :: l => fF look t :: uw look l
def ah.val (s : ah) (t : Tree) : Option (Int × Int) := if aN t then fF s.look t else none
def aI {α β : Type} (x : Option (Except Int α)) (f : α -> Option (Except Int β)) : Option (Except Int β) := match x with
  |none => none
  |some (.error e) => some (.error e)
  |some (.ok a) => f a
def ah.step (fuel : Nat) (s : ah) : Except Int ah := if fuel <= s.steps then .error 18 else .ok { s with steps := s.steps + 1 }
def ah.value (s : ah) (t : Tree) : Option (Except Int Int) := match s.val t with
  |none => none
  |some (v, e) => if e = 0 then some (.ok v)else some (.error e)
def ah.holds (fuel : Nat) (s : ah) (t : Tree) : Option (Except Int (Bool × ah)) :=
  aI (some (s.step fuel)) λs => aI (s.value t) λv => some (.ok (v != 0, s))
def ah.open (s : ah) (n : ByteArray) (k x : Int) : Except Int ah :=
  if(bf s.cur.vars n).isSome then .error 22
  else .ok { s.setCur ⟨s.cur.vars ++ [(⟨n, k, 0⟩, s.cells.length)], s.cur.locals + 1⟩with cells := s.cells ++ [if k = 1 then[x]else[]] }
def ah.close (s : ah) (n : ByteArray) (x : Int) : Option (Except Int ah) :=
  if s.cur.locals = 0 then some (.error 6)
  else match s.cur.vars.getLast? with
  |none => none
  |some v =>
    if(v.1.name == n) = false then some (.error 6)
    else match s.cells[v.2]? with
    |none => none
    |some c =>
      if(v.1.kind ≠ 1 /\ v.1.kind ≠ 3) \/ (v.1.kind = 1 /\ c.length = 0)then none
      else if(v.1.kind = 1 /\ c.getD 0 0 ≠ x) \/ (v.1.kind = 3 /\ c.length ≠ 0)then some (.error 16)
      else some (.ok (s.setCur ⟨s.cur.vars.dropLast, s.cur.locals - 1⟩))
def ah.args (s : ah) : List au -> List ByteArray -> Except Int (List (au × Nat))
  |v :: vs, a :: bs => match bf s.cur.vars a with
    |none => .error 6
    |some u => if u.1.kind = v.kind /\ u.1.len = v.len then(match s.args vs bs with
      |.ok l => .ok ((v, u.2) :: l)
      |.error e => .error e)else .error 7
  |_, _ => .ok []
def ah.enter (s : ah) (ps : List au) (bs : List ByteArray) : Except Int ah :=
  if ps.length ≠ bs.length then .error 7
  else match s.args ps bs with
  |.error e => .error e
  |.ok l => if 100 <= s.calls.length then .error 19 else .ok { s with calls := s.calls ++ [⟨l, 0⟩] }
def ah.leave (s : ah) : Except Int ah :=
  if s.calls.length = 0 \/ s.cur.locals ≠ 0 then .error 20 else .ok { s with calls := s.calls.dropLast }
def ah.move (s : ah) (push : Bool) (n p : ByteArray) : Option (Except Int ah) :=
  match bf s.cur.vars n with
  |none => some (.error 6)
  |some u => if u.1.kind ≠ 3 then some (.error 7)else
    match bf s.cur.vars p with
    |none => some (.error 6)
    |some v => if v.1.kind ≠ 1 then some (.error 7)else
      match s.cells[v.2]?, s.cells[u.2]? with
      |some [x], some c => if u.2 = v.2 then none
        else if push then(if 1000 <= c.length then some (.error 5)else some (.ok { s with cells := (s.cells.set u.2 (c ++ [x])).set v.2 [0] }))
        else if c.length = 0 then some (.error 13)
        else if x ≠ 0 then some (.error 14)
        else some (.ok { s with cells := (s.cells.set u.2 c.dropLast).set v.2 [c.getLast?.getD 0] })
      |_, _ => none
inductive Task where
  |stmts (l : List Tree)
  |stmt (t : Tree)
  |round (t : Tree)
def gY (t : Tree) (i : Nat) : Tree := t.kids.getD i (.mk 0 0 ⟨#[]⟩ [])
def turned {α : Type} (b : Bool) (l : List α) : List α := if b then l.reverse else l
def firstT (t : Tree) (b : Bool) : Tree := if b then gY t (t.kids.length - 1)else gY t 0
def lastT (t : Tree) (b : Bool) : Tree := if b then gY t 0 else gY t (t.kids.length - 1)
def exec (P : List bA) (fuel : Nat) : Nat -> Task -> Bool -> ah -> Option (Except Int ah)
  |0, _, _, _ => none
  |_ + 1, .stmts [], _, s => some (.ok s)
  |g + 1, .stmts (t :: r), b, s => aI (exec P fuel g (.stmt t) b s) λs => exec P fuel g (.stmts r) b s
  |g + 1, .round t, b, s =>
    aI (exec P fuel g (.stmts (turned b (gY t 1).kids)) b s) λs =>
    aI (s.holds fuel (lastT t b)) λx =>
    if x.1 then some (.ok x.2)else
    aI (exec P fuel g (.stmts (turned b (gY t 2).kids)) b x.2) λs =>
    aI (s.holds fuel (firstT t b)) λy =>
    if y.1 then some (.error 15)else exec P fuel g (.round t) b y.2
  |g + 1, .stmt t, b, s =>
    if aX t = false then none
    else if t.kind = 53 then
      aI (s.holds fuel (firstT t b)) λx =>
      if x.1 then exec P fuel g (.round t) b x.2 else some (.error 15)
    else if t.kind = 54 then
      aI (some (s.step fuel)) λs =>
      aI (s.value (firstT t b)) λv =>
      aI (some (s.open t.name 1 v)) λs =>
      aI (exec P fuel g (.stmts (turned b (gY t 1).kids)) b s) λs =>
      aI (some (s.step fuel)) λs =>
      aI (s.value (lastT t b)) λv => s.close t.name v
    else if t.kind = 55 then
      aI (some (s.step fuel)) λs =>
      aI (some (s.open t.name 3 0)) λs =>
      aI (exec P fuel g (.stmts (turned b (gY t 0).kids)) b s) λs =>
      aI (some (s.step fuel)) λs => s.close t.name 0
    else if t.kind = 50 \/ t.kind = 51 then
      match P.find? (λp => p.name == t.name)with
      |none => none
      |some p =>
        aI (some (s.step fuel)) λs =>
        aI (some (s.enter p.params (t.kids.map Tree.name))) λs =>
        aI (exec P fuel g (.stmts (turned (b != (t.kind == 51)) p.body.kids)) (b != (t.kind == 51)) s) λs =>
        aI (some (s.step fuel)) λs => some s.leave
    else if(t.kind = 44 \/ t.kind = 45) /\ (gY t 0).kind = 2 then
      aI (some (s.step fuel)) λs => s.move (b != (t.kind == 44)) t.name (gY t 0).name
    else none
def sA : ByteArray := ⟨#[97]⟩
def sB : ByteArray := ⟨#[98]⟩
def sG : ByteArray := ⟨#[103]⟩
def sN : ByteArray := ⟨#[110]⟩
def sT : ByteArray := ⟨#[116]⟩
def sX : ByteArray := ⟨#[120]⟩
def sY : ByteArray := ⟨#[121]⟩
def aC (n : Int) : Tree := .mk 1 n ⟨#[]⟩ []
def bS (s : ByteArray) : Tree := .mk 2 0 s []
def aL (s : ByteArray) : Tree := .mk 5 0 s []
def aW (a b : Tree) : Tree := .mk 16 0 ⟨#[]⟩ [a, b]
def jD (l : List Tree) : Tree := .mk 57 0 ⟨#[]⟩ l
def psT (n s : ByteArray) : Tree := .mk 44 0 s [bS n]
def eQ (n s : ByteArray) : Tree := .mk 45 0 s [bS n]
def dh (n : ByteArray) (f : Tree) (l : List Tree) (z : Tree) : Tree := .mk 54 0 n [f, jD l, z]
def qB (n : ByteArray) (l : List Tree) : Tree := .mk 55 0 n [jD l]
def bT (e x : Tree) (l : List Tree) : Tree := .mk 53 0 ⟨#[]⟩ [e, jD [], jD l, x]
def dz (a b : ByteArray) : Tree := dh sX (aC 0) [eQ sX a, psT sX b] (aC 0)
def yO : Tree := jD [dh sN (aL sA) [bT (aW (aL sA) (bS sN)) (aW (aL sA) (aC 0)) [dz sA sG], psT sN sG] (aC 0)]
def kK : Tree := dh sX (aC 0) [eQ sX sT, dh sY (bS sX) [psT sY sB] (aC 0), psT sX sA] (aC 0)
def yQ : Tree := jD [qB sT [bT (aW (aL sT) (aC 0)) (aW (aL sA) (aC 0)) [dz sA sT], bT (aW (aL sA) (aC 0)) (aW (aL sT) (aC 0)) [kK]]]
def S4 (C : List (List Int)) (V : List (au × Nat)) (n st : Nat) (B : dD) : ah := ⟨C, B, [⟨V, n⟩], st⟩
section
variable {C : List (List Int)} {V : List (au × Nat)} {n st fuel : Nat} {B : dD}
theorem S4.cur : (S4 C V n st B).cur = ⟨V, n⟩ := rfl
theorem S4.step (h : st < fuel) : (S4 C V n st B).step fuel = .ok (S4 C V n (st + 1) B) := by
  unfold ah.step
  rw[if_neg (by show ¬ fuel <= st; omega)]; rfl
theorem S4.open {x : ByteArray} {k v : Int} (h : bf V x = none) : (S4 C V n st B).open x k v = .ok (S4 (C ++ [if k = 1 then[v]else[]]) (V ++ [(⟨x, k, 0⟩, C.length)]) (n + 1) st B) := by
  unfold ah.open
  rw[S4.cur, h]; rfl
theorem S4.close {x : ByteArray} {v c : Int} {i : Nat} (h : C[i]? = some [c]) : (S4 C (V ++ [(⟨x, 1, 0⟩, i)]) (n + 1) st B).close x v = some (if c = v then .ok (S4 C V n st B)else .error 16) := by
  unfold ah.close
  rw[S4.cur, if_neg (by simp)]
  simp only[List.getLast?_concat]
  rw[if_neg (by simp)]
  rw[show(S4 C (V ++ [(⟨x, 1, 0⟩, i)]) (n + 1) st B).cells[i]? = some [c]from h]
  by_cases hc : c = v
  · simp[hc, ah.setCur, S4]
  · simp[hc]
theorem S4.Jw {x : ByteArray} {c : List Int} {i : Nat} (h : C[i]? = some c) : (S4 C (V ++ [(⟨x, 3, 0⟩, i)]) (n + 1) st B).close x 0 = some (if c = []then .ok (S4 C V n st B)else .error 16) := by
  unfold ah.close
  rw[S4.cur, if_neg (by simp)]
  simp only[List.getLast?_concat]
  rw[if_neg (by simp)]
  rw[show(S4 C (V ++ [(⟨x, 3, 0⟩, i)]) (n + 1) st B).cells[i]? = some c from h]
  by_cases hc : c = []
  · simp[hc, ah.setCur, S4]
  · simp[hc]
theorem S4.look {x : ByteArray} {d : au} {i : Nat} {c : List Int} (h : bf V x = some (d, i)) (hc : C[i]? = some c) : (S4 C V n st B).look x = some c := by
  unfold ah.look
  rw[S4.cur]
  show(bf V x).map (λv => C.getD v.2 []) = _
  rw[h]
  simp[List.getD, hc]
theorem S4.num {v : Int} (hv : 0 <= v) : (S4 C V n st B).val (aC v) = some (v, 0) := by
  unfold ah.val aC
  rw[if_pos (by simp[aN, hv]; rfl)]
  rfl
theorem S4.var {x : ByteArray} {d : au} {i : Nat} {c : Int} (hx : aN (bS x) = true) (h : bf V x = some (d, i)) (hc : C[i]? = some [c]) : (S4 C V n st B).val (bS x) = some (c, 0) := by
  unfold ah.val
  rw[if_pos hx]
  unfold bS fF
  rw[if_neg (by decide), if_pos rfl, S4.look h hc]; rfl
theorem S4.size {x : ByteArray} {d : au} {i : Nat} {c : List Int} (hx : aN (aL x) = true) (h : bf V x = some (d, i)) (hc : C[i]? = some c) : (S4 C V n st B).val (aL x) = some ((c.length : Int), 0) := by
  unfold ah.val
  rw[if_pos hx]
  unfold aL fF
  rw[if_neg (by decide), if_neg (by decide), if_pos rfl, S4.look h hc]
theorem S4.eq {a b : Tree} {u v : Int} (hx : aN (aW a b) = true) (ha : (S4 C V n st B).val a = some (u, 0)) (hb : (S4 C V n st B).val b = some (v, 0)) : (S4 C V n st B).val (aW a b) = some (if u = v then 1 else 0, 0) := by
  have h2 : aN a = true /\ aN b = true := by
    have h3 := hx
    unfold aW aN at h3
    simp[pU]at h3
    exact h3.2
  unfold ah.val at ha hb ⊢
  rw[if_pos h2.1]at ha
  rw[if_pos h2.2]at hb
  rw[if_pos hx]
  unfold aW fF
  rw[if_neg (by decide), if_neg (by decide), if_neg (by decide), if_pos rfl]
  simp only[fF.uw, ha, hb]
  rfl
theorem S4.value {t : Tree} {v : Int} (h : (S4 C V n st B).val t = some (v, 0)) : (S4 C V n st B).value t = some (.ok v) := by
  unfold ah.value
  rw[h]; rfl
theorem S4.holds {t : Tree} {v : Int} (hf : st < fuel) (h : (S4 C V n (st + 1) B).val t = some (v, 0)) : (S4 C V n st B).holds fuel t = some (.ok (v != 0, S4 C V n (st + 1) B)) := by
  unfold ah.holds
  rw[S4.step hf]
  simp only[aI]
  rw[S4.value h]
theorem S4.pop {x p : ByteArray} {dn dp : au} {i j : Nat} {c : List Int} {v : Int} (h : bf V x = some (dn, i)) (hk : dn.kind = 3) (h2 : bf V p = some (dp, j)) (hk2 : dp.kind = 1) (hc : C[i]? = some c) (hv : C[j]? = some [v]) (hij : i ≠ j) : (S4 C V n st B).move false x p = some (if c = []then .error 13 else if v ≠ 0 then .error 14 else .ok (S4 ((C.set i c.dropLast).set j [c.getLast?.getD 0]) V n st B)) := by
  unfold ah.move
  simp only[S4.cur, h, h2, hk, hk2, ne_eq, not_true_eq_false, if_false]
  show(match C[j]?, C[i]? with|some [x], some c => _|_, _ => _) = _
  rw[hv, hc]
  simp only[hij, if_false, Bool.false_eq_true, List.length_eq_zero_iff]
  by_cases h1 : c = []
  · simp[h1]
  · rw[if_neg h1, if_neg h1]
    by_cases h2 : v = 0
    · simp[h2, S4]
    · simp[h2]
theorem S4.push {x p : ByteArray} {dn dp : au} {i j : Nat} {c : List Int} {v : Int} (h : bf V x = some (dn, i)) (hk : dn.kind = 3) (h2 : bf V p = some (dp, j)) (hk2 : dp.kind = 1) (hc : C[i]? = some c) (hv : C[j]? = some [v]) (hij : i ≠ j) : (S4 C V n st B).move true x p = some (if 1000 <= c.length then .error 5 else .ok (S4 ((C.set i (c ++ [v])).set j [0]) V n st B)) := by
  unfold ah.move
  simp only[S4.cur, h, h2, hk, hk2, ne_eq, not_true_eq_false, if_false]
  show(match C[j]?, C[i]? with|some [x], some c => _|_, _ => _) = _
  rw[hv, hc]
  simp only[hij, if_false, if_true]
  by_cases h1 : 1000 <= c.length
  · simp[h1]
  · rw[if_neg h1, if_neg h1]; rfl
end
theorem yo (V : List (au × Nat)) (d : au × Nat) (n : ByteArray) : bf (V ++ [d]) n = if d.1.name == n then some d else bf V n := by
  induction V with
  |nil => simp[bf]
  |cons a V ih =>
    rw[List.cons_append, bf, ih]
    by_cases h : (d.1.name == n) = true
    · simp[h]
    · simp only[h]
      rfl
section
variable {P : List bA} {fuel g : Nat} {b : Bool} {s : ah}
theorem jr : exec P fuel (g + 1) (.stmts []) b s = some (.ok s) := rfl
theorem eX {t : Tree} {r : List Tree} : exec P fuel (g + 1) (.stmts (t :: r)) b s = aI (exec P fuel g (.stmt t) b s) λs => exec P fuel g (.stmts r) b s := rfl
theorem tT {x : ByteArray} {f z : Tree} {l : List Tree} (h : aX (dh x f l z) = true) : exec P fuel (g + 1) (.stmt (dh x f l z)) b s = aI (some (s.step fuel)) λs =>
      aI (s.value (if b then z else f)) λv =>
      aI (some (s.open x 1 v)) λs =>
      aI (exec P fuel g (.stmts (turned b l)) b s) λs =>
      aI (some (s.step fuel)) λs =>
      aI (s.value (if b then f else z)) λv => s.close x v := by
  rw[exec, if_neg (by rw[h]; decide), if_neg (show ¬ (dh x f l z).kind = 53 from by show ¬ (54 : Int) = 53; decide), if_pos (show(dh x f l z).kind = 54 from rfl)]
  cases b <;> rfl
theorem Jd {x : ByteArray} {l : List Tree} (h : aX (qB x l) = true) : exec P fuel (g + 1) (.stmt (qB x l)) b s = aI (some (s.step fuel)) λs =>
      aI (some (s.open x 3 0)) λs =>
      aI (exec P fuel g (.stmts (turned b l)) b s) λs =>
      aI (some (s.step fuel)) λs => s.close x 0 := by
  rw[exec, if_neg (by rw[h]; decide), if_neg (show ¬ (qB x l).kind = 53 from by show ¬ (55 : Int) = 53; decide), if_neg (show ¬ (qB x l).kind = 54 from by show ¬ (55 : Int) = 54; decide), if_pos (show(qB x l).kind = 55 from rfl)]
  rfl
theorem wI {e x : Tree} {l : List Tree} (h : aX (bT e x l) = true) : exec P fuel (g + 1) (.stmt (bT e x l)) b s = aI (s.holds fuel (if b then x else e)) λy => if y.1 then exec P fuel g (.round (bT e x l)) b y.2 else some (.error 15) := by
  rw[exec, if_neg (by rw[h]; decide), if_pos (by rfl)]
  cases b <;> rfl
theorem yt {e x : Tree} {l : List Tree} : exec P fuel (g + 1 + 1) (.round (bT e x l)) b s =
    aI (s.holds fuel (if b then e else x)) λy =>
    if y.1 then some (.ok y.2)else
    aI (exec P fuel (g + 1) (.stmts (turned b l)) b y.2) λs =>
    aI (s.holds fuel (if b then x else e)) λy =>
    if y.1 then some (.error 15)else exec P fuel (g + 1) (.round (bT e x l)) b y.2 := by
  rw[exec]
  have : turned b (gY (bT e x l) 1).kids = [] := by cases b <;> rfl
  rw[this, jr]
  cases b <;> rfl
theorem AZ {x p : ByteArray} (h : aX (eQ x p) = true) : exec P fuel (g + 1) (.stmt (eQ x p)) b s = aI (some (s.step fuel)) λs => s.move b p x := by
  rw[exec, if_neg (by rw[h]; decide), if_neg (show ¬ (eQ x p).kind = 53 from by show ¬ (45 : Int) = 53; decide), if_neg (show ¬ (eQ x p).kind = 54 from by show ¬ (45 : Int) = 54; decide), if_neg (show ¬ (eQ x p).kind = 55 from by show ¬ (45 : Int) = 55; decide), if_neg (show ¬ ((eQ x p).kind = 50 \/ (eQ x p).kind = 51)from by show ¬ ((45 : Int) = 50 \/ (45 : Int) = 51); decide), if_pos (show((eQ x p).kind = 44 \/ (eQ x p).kind = 45) /\ (gY (eQ x p) 0).kind = 2 from by show((45 : Int) = 44 \/ (45 : Int) = 45) /\ (2 : Int) = 2; decide)]
  cases b <;> rfl
theorem qZ {x p : ByteArray} (h : aX (psT x p) = true) : exec P fuel (g + 1) (.stmt (psT x p)) b s = aI (some (s.step fuel)) λs => s.move (!b) p x := by
  rw[exec, if_neg (by rw[h]; decide), if_neg (show ¬ (psT x p).kind = 53 from by show ¬ (44 : Int) = 53; decide), if_neg (show ¬ (psT x p).kind = 54 from by show ¬ (44 : Int) = 54; decide), if_neg (show ¬ (psT x p).kind = 55 from by show ¬ (44 : Int) = 55; decide), if_neg (show ¬ ((psT x p).kind = 50 \/ (psT x p).kind = 51)from by show ¬ ((44 : Int) = 50 \/ (44 : Int) = 51); decide), if_pos (show((psT x p).kind = 44 \/ (psT x p).kind = 45) /\ (gY (psT x p) 0).kind = 2 from by show((44 : Int) = 44 \/ (44 : Int) = 45) /\ (2 : Int) = 2; decide)]
  cases b <;> rfl
end
def cv (Cs : List (Option Value)) (j : Nat) : Value := (Cs.getD j none).getD undef
theorem wo {ds : List (Option Tmp)} {vs us : Nat -> Value} : ∀ (js : List Nat) (a : Act), (∀ j ∈ js, vs j = us j \/ ds.getD j none = none) -> aV ds vs js a = aV ds us js a
  | [], _, _ => rfl
  |j :: r, a, h => by
    simp only[aV]
    rcases h j (by simp)with e|e
    · rw[e]; exact wo r _ (λk hk => h k (by simp[hk]))
    · rw[e]; exact wo r _ (λk hk => h k (by simp[hk]))
def xD (ws : List (List Nat)) (W : List Nat) (i s : Nat) : Bool := (List.range W.length).all λr => !(ws.getD i []).contains (W.getD r 0) || decide (r < s)
def BV (ws : List (List Nat)) (W : List Nat) (i s : Nat) : Bool := decide (s <= W.length) && (List.range W.length).all λr => !((ws.getD (W.getD r 0) []).contains i) || decide (s <= r)
section
variable {P : Program} {Q : Exit -> Act -> World -> Prop}
structure TJ (P : Program) (ds : List (Option Tmp)) (ws ns : List (List Nat)) (Cs : List (Option Value)) (W : List Nat) (M : Nat -> World -> Prop) (a : Act) (i : Nat) (o : Oper) : Prop where
  c : W.contains i = false -> ∀ s x, xD ws W i s = true -> BV ws W i s = true -> M s x -> Gives P o (aV ds (cv Cs) (ns.getD i []) a) x (λv y => v = cv Cs i /\ y = x)
  w : ∀ r, r < W.length -> W.getD r 0 = i -> ∀ x, M r x -> Gives P o (aV ds (cv Cs) (ns.getD i []) a) x (λ_ y => M (r + 1) y)
structure QI (Cs : List (Option Value)) (W : List Nat) (M : Nat -> World -> Prop) (L : Array Bool) (vs : Nat -> Value) (x : World) : Prop where
  st : ∃ s, s <= W.length /\ (∀ r, r < W.length -> L.getD (W.getD r 0) false = decide (r < s)) /\ M s x
  val : ∀ j, L.getD j false = true -> ∀ c, Cs.getD j none = some c -> vs j = c
theorem Au {W : List Nat} {i : Nat} (h : W.contains i = true) : ∃ r, r < W.length /\ W.getD r 0 = i := by
  obtain⟨r, hr, e⟩ := List.mem_iff_getElem.1 (by simpa using h : i ∈ W)
  exact⟨r, hr, by simp[List.getD, hr, e]⟩
end
section
variable {P : Program} {ds : List (Option Tmp)} {ws ns : List (List Nat)} {Cs : List (Option Value)} {W : List Nat} {M : Nat -> World -> Prop} {a : Act} {i : Nat} {o : Oper}
theorem yR {W : List Nat} {i r : Nat} (hw : W.contains i = false) (hr : r < W.length) (e : W.getD r 0 = i) : False := by
  have : W.contains i = true := by rw[← e]; simp[List.getD, hr]
  rw[hw]at this; cases this
theorem qc (h : ∀ (x : World), Gives P o (aV ds (cv Cs) (ns.getD i []) a) x (λv y => v = cv Cs i /\ y = x)) (hw : W.contains i = false := by kernel_rfl) : TJ P ds ws ns Cs W M a i o :=
  ⟨λ_ _ x _ _ _ => h x, λ_ hr e => (yR hw hr e).elim⟩
end
def DV (P : Program) (R : Value -> World -> Prop) (X : List PanicEntry -> World -> Prop) : Result Next -> Prop
  |.ok (.enter f args) w' => Calls P f args w' λe w'' => (∃ v, e = .returned v /\ R v w'') \/ (∃ ch, e = .panicked ch /\ X ch w'')
  |r => mI P R r
def dQ (P : Program) (X : List PanicEntry -> World -> Prop) (o : Oper) (a : Act) (w : World) (R : Value -> World -> Prop) : Prop := DV P R X ((execOp a.eval o).run P w)
theorem Gives.x {P : Program} {X : List PanicEntry -> World -> Prop} {o : Oper} {a : Act} {w : World} {R : Value -> World -> Prop} (h : Gives P o a w R) : dQ P X o a w R := by
  unfold Gives at h
  unfold dQ
  generalize (execOp a.eval o).run P w = r at *
  cases r with
  |ok n w' =>
    cases n
    case enter f args => exact Calls.mono h λe w'' he => .inl he
    all_goals exact h
  |halt x w' => exact h.elim
theorem dQ.mono {P : Program} {X : List PanicEntry -> World -> Prop} {o : Oper} {a : Act} {w : World} {R R' : Value -> World -> Prop} (h : dQ P X o a w R) (hr : ∀ v w', R v w' -> R' v w') : dQ P X o a w R' := by
  unfold dQ at h ⊢
  generalize (execOp a.eval o).run P w = r at *
  cases r with
  |ok n w' =>
    cases n <;> simp only[DV, mI]at h ⊢
    case value v => exact hr _ _ h
    case skip => exact hr _ _ h
    case enter f args =>
      refine Calls.mono h λe w'' he => ?_
      rcases he with⟨v, rfl, hv⟩|he
      · exact .inl ⟨v, rfl, hr _ _ hv⟩
      · exact .inr he
    case row row args => exact Rows.mono h λv w'' hv => hr _ _ hv
  |halt x w' => exact h.elim
theorem dQ.wp {P : Program} {X : List PanicEntry -> World -> Prop} {o : Oper} {a : Act} {w : World} {R : Value -> World -> Prop} {K : Act -> World -> Prop} {Q : Exit -> Act -> World -> Prop} (h : dQ P X o a w R) (hK : ∀ v w', R v w' -> K (a.put o.dst v) w') (hX : ∀ ch w', X ch w' -> Q (.panic ch) a w') : o.wp P a w K Q := by
  unfold dQ at h
  unfold Oper.wp
  generalize (execOp a.eval o).run P w = r at *
  cases r with
  |ok n w' =>
    cases n <;> simp only[DV, mI, Oper.upon]at h ⊢
    case value v => exact hK _ _ h
    case skip => exact hK _ _ h
    case enter f args =>
      refine Calls.mono h λe w'' he => ?_
      rcases he with⟨v, rfl, hr⟩|⟨ch, rfl, hx⟩
      · exact hK _ _ hr
      · exact hX _ _ hx
    case row row args => exact Rows.mono h λv w'' hr => hK _ _ hr
  |halt x w' => exact h.elim
theorem put_defers (a : Act) (d : Option Tmp) (v : Value) : (a.put d v).defers = a.defers := by cases d <;> rfl
section
variable {P : Program} {Q : Exit -> Act -> World -> Prop} {ops : Array Oper}
theorem GK {a : Act} {w : World} (X : List PanicEntry -> World -> Prop) (hX : ∀ ch w' a', a'.defers = [] -> X ch w' -> Q (.panic ch) a' w') (hd : a.defers = []) (N : Nat) (ds : List (Option Tmp)) (ws ns us : List (List Nat)) (hN : a.tmps.size = N) (hok : gL N ops ds ws ns us = true)
    (I : Array Bool -> (Nat -> Value) -> World -> Prop) (hI0 : I (Array.replicate ops.size false) (λ_ => undef) w)
    (hstep : ∀ i o, ops[i]? = some o -> ∀ (L : Array Bool) (vs : Nat -> Value) (x : World), L.size = ops.size -> L.getD i false = false -> (∀ j ∈ ws.getD i [], L.getD j false = true) -> ll ws L -> I L vs x -> dQ P X o (aV ds vs (ns.getD i []) a) x (λv y => I (L.setIfInBounds i true) (upd vs i v) y))
    (hend : ∀ (L : Array Bool) (vs : Nat -> Value) (x : World), (∀ j, j < ops.size -> L.getD j false = true) -> I L vs x -> Q .normal (aV ds vs (List.range ops.size) a) x) : wpAny P .any ops Q ops.size (Array.replicate ops.size false) a w :=
  (DL (λfuel L a x => a.defers = [] -> wpAny P .any ops Q fuel L a x) (dQ P X) (λ_ _ _ h1 h2 _ => ⟨h1, h2⟩) (λfuel L a x h1 h2 hd => ⟨h1, λi hi => by
    obtain⟨-, o, ho, -⟩ := mem_ready.1 hi
    unfold wpOp
    rw[ho]
    by_cases hgd : o.guard = none
    · have hw : Region.wanted o (yielded ops a.tmps) = true := by simp[Region.wanted, hgd]
      simp only[hw, if_true]
      obtain⟨R, hg, hR⟩ := h2 i hi o ho hgd
      exact .inl (hg.wp (λv w' h => hR v w' h (by rw[put_defers]; exact hd)) (λch w' h => hX ch w' a hd h))
    · exact(hgd (DK hok ho)).elim⟩) (λo a a' x R e h => by unfold dQ at h ⊢; rw[e]; exact h) N ds ws ns us hN hok I hI0 hstep hend) hd
end
def xg (ds : List (Option Tmp)) (ws : List (List Nat)) (Cs : List (Option Value)) (W : List Nat) : Bool :=
  (W.all λj => decide (j < ws.length) && ((ds.getD j none).isNone || (Cs.getD j none).isSome)) && ((List.range (W.length - 1)).all λr => (ws.getD (W.getD (r + 1) 0) []).contains (W.getD r 0)) &&
  ((List.range ws.length).all λj => (Cs.getD j none).isSome || W.contains j)
section
variable {P : Program} {Q : Exit -> Act -> World -> Prop}
structure yS (P : Program) (X : List PanicEntry -> World -> Prop) (ds : List (Option Tmp)) (ws ns : List (List Nat)) (Cs : List (Option Value)) (W : List Nat) (M : Nat -> World -> Prop) (a : Act) (i : Nat) (o : Oper) : Prop where
  c : W.contains i = false -> ∀ s x, xD ws W i s = true -> BV ws W i s = true -> M s x -> Gives P o (aV ds (cv Cs) (ns.getD i []) a) x (λv y => v = cv Cs i /\ y = x)
  w : ∀ r, r < W.length -> W.getD r 0 = i -> ∀ x, M r x -> dQ P X o (aV ds (cv Cs) (ns.getD i []) a) x (λv y => (∀ c, Cs.getD i none = some c -> v = c) /\ M (r + 1) y)
structure XI (Cs : List (Option Value)) (W : List Nat) (M : Nat -> World -> Prop) (L : Array Bool) (vs : Nat -> Value) (x : World) : Prop where
  st : ∃ s, s <= W.length /\ (∀ r, r < W.length -> L.getD (W.getD r 0) false = decide (r < s)) /\ M s x
  val : ∀ j, L.getD j false = true -> ∀ c, Cs.getD j none = some c -> vs j = c
theorem Po {a : Act} {w : World} {l : List Oper} (X : List PanicEntry -> World -> Prop) (hX : ∀ ch w' a', a'.defers = [] -> X ch w' -> Q (.panic ch) a' w') (hd : a.defers = []) (N : Nat) (ds : List (Option Tmp)) (ws ns : List (List Nat)) (Cs : List (Option Value)) (W : List Nat) (M : Nat -> World -> Prop) (hN : a.tmps.size = N) (hok : gL N l.toArray ds ws ns [] = true) (hq : xg ds ws Cs W = true) (hwl : ws.length = l.length) (hns : ((List.range l.length).all λi => (ns.getD i []).all λj => (ws.getD i []).contains j && decide (j < l.length)) = true)
    (hM : M 0 w) (hstep : iY (yS P X ds ws ns Cs W M a) 0 l)
    (hend : ∀ (x : World), M W.length x -> Q .normal (aV ds (cv Cs) (List.range l.length) a) x) : wpAny P .any l.toArray Q l.toArray.size (Array.replicate l.toArray.size false) a w := by
  simp only[xg, Bool.and_eq_true]at hq
  obtain⟨⟨q1, q2⟩, q3⟩ := hq
  have hWd : ∀ r, r < W.length -> W.getD r 0 < l.length /\ (ds.getD (W.getD r 0) none = none \/ (Cs.getD (W.getD r 0) none).isSome = true) := λr hr => by
    have := List.all_eq_true.1 q1 (W.getD r 0) (by simp[List.getD, hr])
    simp only[Bool.and_eq_true, decide_eq_true_eq, Bool.or_eq_true]at this
    exact⟨by rw[← hwl]; exact this.1, by simpa using this.2⟩
  have hWc : ∀ r, r + 1 < W.length -> W.getD r 0 ∈ ws.getD (W.getD (r + 1) 0) [] := λr hr => by
    have := List.all_eq_true.1 q2 r (List.mem_range.2 (by omega))
    simpa using this
  have hval : ∀ j, j < l.length -> (∃ c, Cs.getD j none = some c) \/ ∃ r, r < W.length /\ W.getD r 0 = j := λj hj => by
    have := List.all_eq_true.1 q3 j (List.mem_range.2 (by omega))
    simp only[Bool.or_eq_true]at this
    rcases this with h|h
    · exact .inl (Option.isSome_iff_exists.1 h)
    · exact .inr (Au h)
  have hcv : ∀ (L : Array Bool) (vs : Nat -> Value) (x : World), XI Cs W M L vs x -> ∀ j, j < l.length -> L.getD j false = true -> vs j = cv Cs j \/ ds.getD j none = none := λL vs x hI j hj hL => by
    rcases hval j hj with⟨c, hc⟩|⟨r, hr, e⟩
    · exact .inl (by rw[hI.val j hL c hc]; simp only[cv, hc]; rfl)
    · rcases(hWd r hr).2 with h|h
      · exact .inr (by rw[← e]; exact h)
      · obtain⟨c, hc⟩ := Option.isSome_iff_exists.1 h
        rw[e]at hc
        exact .inl (by rw[hI.val j hL c hc]; simp only[cv, hc]; rfl)
  refine GK X hX hd N ds ws ns [] hN hok (XI Cs W M) ?_ ?_ ?_
  · have hf : ∀ j, (Array.replicate l.toArray.size false).getD j false = false := by
      intro j
      by_cases hj : j < l.toArray.size <;> simp[Array.getD, hj]
    exact⟨⟨0, Nat.zero_le _, λr _ => by rw[hf]; simp, hM⟩, λj h => by rw[hf]at h; cases h⟩
  · intro i o ho L vs x hsz jC iB hcl hI
    have hil : i < L.size := by
      have := (Array.getElem?_eq_some_iff.1 ho).1
      omega
    have Et : i < l.length := by rw[hsz]at hil; simpa using hil
    have iH := yh l 0 hstep i o (by simpa using ho)
    rw[Nat.zero_add]at iH
    have hset : (L.setIfInBounds i true).getD i false = true := by simp[hil]
    have hne : ∀ j, j ≠ i -> (L.setIfInBounds i true).getD j false = L.getD j false := λj hj => getD_set_ne false (λe => hj e.symm)
    have hup : ∀ (v : Value) j, j ≠ i -> upd vs i v j = vs j := λv j hj => by simp[upd, hj]
    have oI : ∀ (v : Value), upd vs i v i = v := λv => by simp[upd]
    have hact : aV ds vs (ns.getD i []) a = aV ds (cv Cs) (ns.getD i []) a := wo _ _ λj hj => by
      have h1 := List.all_eq_true.1 (List.all_eq_true.1 hns i (List.mem_range.2 Et)) j hj
      simp only[Bool.and_eq_true, decide_eq_true_eq]at h1
      exact hcv L vs x hI j h1.2 (iB j (by simpa using h1.1))
    obtain⟨s, hs, hL, hMs⟩ := hI.st
    rw[hact]
    by_cases hw : W.contains i = true
    · obtain⟨r, hr, e⟩ := Au hw
      have h1 : ¬ r < s := λh => by have := hL r hr; rw[e, jC]at this; simp[h]at this
      have E9 : s = r := by
        rcases Nat.eq_zero_or_pos r with h0|h0
        · omega
        · have h2 := hL (r - 1) (by omega)
          have h3 := hWc (r - 1) (by omega)
          rw[Nat.sub_add_cancel h0, e]at h3
          rw[iB _ h3]at h2
          have : r - 1 < s := by simpa using h2.symm
          omega
      subst E9
      refine(iH.w s hr e x hMs).mono λv y hy => ⟨⟨s + 1, hr, λr' hr' => ?_, hy.2⟩, λj hj c hc => ?_⟩
      · by_cases e2 : W.getD r' 0 = i
        · rw[e2, hset]
          have h5 : ¬ r' < s := λh => by have := hL r' hr'; rw[e2, jC]at this; simp[h]at this
          have h4 : r' = s := by
            rcases Nat.lt_or_ge s r' with h|h
            · exfalso
              have hr0 : r' ≠ 0 := by omega
              have h3 := hWc (r' - 1) (by omega)
              rw[Nat.sub_add_cancel (by omega), e2]at h3
              have h6 := hL (r' - 1) (by omega)
              rw[iB _ h3]at h6
              have : r' - 1 < s := by simpa using h6.symm
              omega
            · omega
          subst h4; simp
        · rw[hne _ e2, hL r' hr']
          have : r' ≠ s := λh => by subst h; exact e2 e
          by_cases h : r' < s
          · simp[h]; omega
          · simp[h]; omega
      · by_cases e2 : j = i
        · subst e2; rw[oI]; exact hy.1 c hc
        · rw[hne j e2]at hj; rw[hup v j e2]; exact hI.val j hj c hc
    · have hw' : W.contains i = false := by simpa using hw
      have hlo : xD ws W i s = true := List.all_eq_true.2 λr hr => by
        have hr := List.mem_range.1 hr
        by_cases h : (ws.getD i []).contains (W.getD r 0) = true
        · have := hL r hr
          rw[iB _ (by simpa using h)]at this
          rw[h]; simpa using this.symm
        · rw[Bool.not_eq_true]at h; rw[h]; rfl
      have hhi : BV ws W i s = true := by
        simp only[BV, Bool.and_eq_true, decide_eq_true_eq]
        refine⟨hs, List.all_eq_true.2 λr hr => ?_⟩
        have hr := List.mem_range.1 hr
        by_cases h : (ws.getD (W.getD r 0) []).contains i = true
        · rw[h]
          have : ¬ r < s := λhlt => by
            have h2 := hL r hr
            simp only[hlt, decide_true]at h2
            have := hcl _ h2 i (by simpa using h)
            rw[jC]at this; cases this
          simp; omega
        · rw[Bool.not_eq_true]at h; rw[h]; rfl
      refine((iH.c hw' s x hlo hhi hMs).x).mono λv y hy => ?_
      obtain⟨rfl, rfl⟩ := hy
      refine⟨⟨s, hs, λr hr => ?_, hMs⟩, λj hj c hc => ?_⟩
      · rw[hne _ (λe => by
          have : W.contains i = true := by rw[← e]; simp[List.getD, hr]
          rw[hw']at this; cases this)]
        exact hL r hr
      · by_cases e2 : j = i
        · subst e2; rw[oI]; simp only[cv, hc]; rfl
        · rw[hne j e2]at hj; rw[hup _ j e2]; exact hI.val j hj c hc
  · intro L vs x hall hI
    have lH : ∀ j, j < l.length -> L.getD j false = true := λj hj => hall j (by simpa using hj)
    obtain⟨s, hs, hL, hMs⟩ := hI.st
    have hse : s = W.length := by
      rcases Nat.lt_or_ge s W.length with h|h
      · exfalso
        have h1 := hL s h
        rw[lH _ (hWd s h).1]at h1
        simp at h1
      · omega
    subst hse
    have := hend x hMs
    rwa[← wo (ds := ds) (vs := vs) (us := cv Cs) _ _ (λj hj => hcv L vs x hI j (List.mem_range.1 hj) (lH j (List.mem_range.1 hj)))]at this
theorem wx {id : Nat} {a : Act} {w : World} {l : List Oper} (X : List PanicEntry -> World -> Prop) (N : Nat) (ds : List (Option Tmp)) (ns : List (List Nat)) (Cs : List (Option Value)) (W : List Nat) (M : Nat -> World -> Prop) (hM : M 0 w.drew) (hstep : iY (yS P X ds (bQ l.toArray) ns Cs W M a) 0 l)
    (hend : ∀ (x : World), M W.length x -> Q .normal (aV ds (cv Cs) (rg 0 ds) a) x)
    (hX : ∀ ch w' a', a'.defers = [] -> X ch w' -> Q (.panic ch) a' w') (hd : a.defers = [] := by rfl) (hm : P.follows .mixedOrders = true := by kernel_rfl) (hN : a.tmps.size = N := by rfl) (hok : gL N l.toArray ds (bQ l.toArray) ns [] = true := by kernel_rfl) (hq : xg ds (bQ l.toArray) Cs W = true := by kernel_rfl) (hwl : (bQ l.toArray).length = l.length := by kernel_rfl) (hns : ((List.range l.length).all λi => (ns.getD i []).all λj => ((bQ l.toArray).getD i []).contains j && decide (j < l.length)) = true := by kernel_rfl) (hr : rg 0 ds = List.range l.length := by rfl) : (Code.region id l.toArray true).wp P Q a w :=
  wp_region_any hm (Po X hX hd N ds (bQ l.toArray) ns Cs W M hN hok hq hwl hns hM hstep λx h => by have := hend x h; rwa[hr]at this)
end
section
variable {P : Program} {X : List PanicEntry -> World -> Prop} {ds : List (Option Tmp)} {ws ns : List (List Nat)} {Cs : List (Option Value)} {W : List Nat} {M : Nat -> World -> Prop} {a : Act} {i : Nat} {o : Oper}
theorem xc (h : ∀ (x : World), Gives P o (aV ds (cv Cs) (ns.getD i []) a) x (λv y => v = cv Cs i /\ y = x)) (hw : W.contains i = false := by kernel_rfl) : yS P X ds ws ns Cs W M a i o :=
  ⟨λ_ _ x _ _ _ => h x, λ_ hr e => (yR hw hr e).elim⟩
theorem xm (h : ∀ (s : Nat) (x : World), M s x -> Gives P o (aV ds (cv Cs) (ns.getD i []) a) x (λv y => v = cv Cs i /\ y = x)) (hw : W.contains i = false := by kernel_rfl) : yS P X ds ws ns Cs W M a i o :=
  ⟨λ_ s x _ _ hM => h s x hM, λ_ hr e => (yR hw hr e).elim⟩
theorem xw (r : Nat) (h : ∀ (x : World), M r x -> dQ P X o (aV ds (cv Cs) (ns.getD i []) a) x (λv y => (∀ c, Cs.getD i none = some c -> v = c) /\ M (r + 1) y)) (hw : W.contains i = true := by kernel_rfl) (hu : ((List.range W.length).all λt => !(W.getD t 0 == i) || t == r) = true := by kernel_rfl) : yS P X ds ws ns Cs W M a i o :=
  ⟨λh' => (by rw[hw]at h'; cases h'), λt ht e x hM => by
    have := List.all_eq_true.1 hu t (List.mem_range.2 ht)
    have e2 : t = r := by rw[e]at this; simpa using this
    subst e2; exact h x hM⟩
end
end Go.Proofs.YtbpodipdfohikaaGreat
