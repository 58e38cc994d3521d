import Derived.Lib.Hide
import Derived.WalkKit
import Derived.WalkSpells
import Derived.WalkLawsBesides
import Derived.Laws.EntriesVeiled
import Derived.Deep.QuietTactic
import Derived.BigQuiet
import Derived.Orders
import Derived.Deep.RegionHeld
import Derived.OrdersIn
import Derived.TacticsInMore
set_option linter.unusedSimpArgs false
set_option linter.unusedVariables false
set_option maxRecDepth 100000
set_option maxHeartbeats 25600000
namespace Go.Proofs.YtbpodipdfohikaaGreat
section
theorem ł {p : Prop} (h : p) : Go.RowKit.Hid p := h
end
section
open Go.RowKit
structure Mv (O : Nat -> Prop) (w w' : World) : Prop where
  os : w'.os = w.os
  tape : w'.tape = w.tape
  output : w'.output = w.output
  size : w.heap.size <= w'.heap.size
  block : ∀ b, b < w.heap.size -> ¬ O b -> w'.heap[b]? = w.heap[b]?
theorem Mv.refl (O : Nat -> Prop) (w : World) : Mv O w w := ⟨rfl, rfl, rfl, Nat.le_refl _, λ_ _ _ => rfl⟩
theorem Mv.trans {O O1 : Nat -> Prop} {a b c : World} (h : Mv O a b) (k : Mv O1 b c) (hs : ∀ x, O1 x -> O x \/ a.heap.size <= x) : Mv O a c :=
  ⟨k.os.trans h.os, k.tape.trans h.tape, k.output.trans h.output, Nat.le_trans h.size k.size, λi hi hn =>
    (k.block i (Nat.lt_of_lt_of_le hi h.size) (λe => by rcases hs i e with h1|h1; exact hn h1; omega)).trans (h.block i hi hn)⟩
theorem Mv.mono {O O1 : Nat -> Prop} {a b : World} (h : Mv O a b) (hs : ∀ x, O x -> O1 x \/ a.heap.size <= x) : Mv O1 a b :=
  ⟨h.os, h.tape, h.output, h.size, λi hi hn => h.block i hi (λe => by rcases hs i e with h1|h1; exact hn h1; omega)⟩
theorem Mv.alloc {O : Nat -> Prop} {a w : World} (h : Mv O a w) (o : Obj) : Mv O a (w.alloc o) :=
  h.trans (O1 := λ_ => False) ⟨rfl, rfl, rfl, by simp, λk hk _ => Below.heap_alloc w o k hk⟩ (λ_ e => e.elim)
theorem Mv.drew {O : Nat -> Prop} {a w : World} (h : Mv O a w) : Mv O a w.drew := ⟨h.os, h.tape, h.output, h.size, h.block⟩
theorem Mv.setCell {O : Nat -> Prop} {a w : World} (h : Mv O a w) {p : Addr} (hp : O p.block \/ a.heap.size <= p.block) (u : Value) : Mv O a (w.setCell p u) :=
  h.trans (O1 := λx => x = p.block) ⟨rfl, rfl, rfl, by simp, λk _ hn => Below.heap_setCell _ _ _ _ hn⟩ (λx e => by subst e; exact hp)
theorem Mv.grown {O : Nat -> Prop} {a w w' : World} {row : Option Nat} (h : Mv O a w) (hg : w.grownBy w' row) (hr : ∀ k, row = some k -> O k \/ a.heap.size <= k) : Mv O a w' :=
  h.trans (O1 := λx => row = some x) ⟨hg.os, hg.tape, hg.output, hg.size, λk hk hn => hg.block k hk (λe => hn e.symm)⟩ (λx e => hr x e)
theorem OY {P : Program} (w : World) (d : Nat) {t : TypeId} {a b : Array TypeId} {v : Bool} (fn : Fn) (x y : Array Value) (h : P.underlying t = some (.func a b v)) :
    (Op.equalIn (d + 1) t (.func fn x y) .nilFunc).run P w = .ok false w := by simp[Op.equalIn, run_underlying h]
theorem C8 {P : Program} (w : World) {t : TypeId} {a b : Array TypeId} {v : Bool} (fn : Fn) (x y : Array Value) (h : P.underlying t = some (.func a b v)) :
    (binOp .eql t (.func fn x y) .nilFunc).run P w = .ok (.bool false) w := by
  have e : (Op.equal t (.func fn x y) .nilFunc).run P w = .ok false w := OY w 9999 fn x y h
  simp only[binOp]
  simp[e]
theorem OZ {P : Program} (w : World) (base : Nat) (t ty e : TypeId) (i : TypeInfo) (z : Value) (size bytes : Nat) (ht : P.underlying t = some (.slice e)) (hi : P.info? e = some i) (hz : i.zero = some z)
    (hsize : i.size = size) (hby : i.bytes = bytes) (hzs : z.cells.size = size) (hsz : 0 < size)
    (v : Value) (n : Nat) (xs : List Value) (hown : w.ownsRow base e size v n xs)
    (a : Addr) (m c : Nat) (news : List Value) (hl : news.length = m * size) (hnews : ∀ j u, news[j]? = some u -> w.cell? (a.add j) = some u) (h1 : ∀ u ∈ news, u.oneCell' = true)
    (h63 : n + m <= maxLen) (hbytes : (n + m) * bytes <= 140737488355328) (hbase : base <= w.heap.size) :
    ∃ v' w', (Builtin.append_ #[t, t] ty #[v, .slice (some a) m c]).run P w = .ok v' w' /\ w'.ownsRow base e size v' (n + m) (xs ++ news) /\ w.grownBy w' v.ownBlock /\
      (v' = .slice none 0 0 ↔ v = .slice none 0 0 /\ m = 0) /\ (∀ g, v'.ownBlock = some g -> v.ownBlock = some g \/ w.heap.size <= g) := by
  obtain⟨v', w', hr, h2, h3, h4⟩ := run_append_own (P := P) w base t ty e i z size bytes ht hi hz hsize hby hzs hsz v n xs hown a m c news hl hnews h1 h63 hbytes hbase
  refine⟨v', w', hr, h2, h3, h4, ?_⟩
  rcases hown.2 with⟨rfl, rfl⟩|⟨g, cap, cur, rfl, hbg, hg, hnc, hcm, hcs, htake⟩
  · have hx : xs = [] := List.eq_nil_of_length_eq_zero (by simpa using hown.1)
    subst hx
    obtain⟨v2, w2, hr2, h22, _⟩ := run_append_own (P := P) w w.heap.size t ty e i z size bytes ht hi hz hsize hby hzs hsz (.slice none 0 0) 0 [] (World.ownsRow_nil _ _ _ _) a m c news hl hnews h1 h63 hbytes (Nat.le_refl _)
    rw[hr]at hr2
    simp only[Result.ok.injEq]at hr2
    obtain⟨rfl, rfl⟩ := hr2
    exact λg hg => .inr (h22.lt g hg).1
  · subst hsize
    by_cases hroom : n + m <= cap
    · have hfit : n * i.size + news.length <= cur.size := by rw[hl, hcs, ← Nat.add_mul]; exact Nat.mul_le_mul_right _ hroom
      have hr2 := run_append_room (P := P) w t ty e i ht hi g n cap cur hg a m c news hl hnews h1 hroom hfit
      rw[hr]at hr2
      simp only[Result.ok.injEq]at hr2
      obtain⟨rfl, rfl⟩ := hr2
      exact λg' hg' => .inl (by simpa[Value.ownBlock]using hg')
    · have holds : ∀ j u, xs[j]? = some u -> w.cell? ((⟨g, 0, none⟩ : Addr).add j) = some u := hown.cells (g := g) rfl
      subst hby
      have hsmall : n + m <= 9223372036854775807 := by simp only[maxLen]at h63; omega
      have hr2 := run_append_grow (P := P) w t ty e i z ht hi hz ⟨g, 0, none⟩ n cap xs hown.1 holds a m c news hl hnews (by omega) (by omega) (growslice_fits (by omega) hbytes)
      rw[hr]at hr2
      simp only[Result.ok.injEq]at hr2
      obtain⟨rfl, rfl⟩ := hr2
      exact λg' hg' => .inr (by simp[Value.ownBlock]at hg'; omega)
def Closed (ops : Array Oper) (L : Array Bool) : Prop := L.size = ops.size /\ ∀ (j : Nat) (o : Oper), ops[j]? = some o -> L.getD j false = true -> ∀ e ∈ o.after, Region.binds .any e = true -> L.getD e.on false = true
section
variable {P : Program} {pre : List Oper} {o : Oper} {Q : Exit -> Act -> World -> Prop}
theorem Closed.set {L : Array Bool} {i : Nat} (hc : Closed (pre ++ [o]).toArray L) (hr : i ∈ Region.ready .any (pre ++ [o]).toArray L) : Closed (pre ++ [o]).toArray (L.setIfInBounds i true) := by
  refine⟨by simpa using hc.1, λj oj hj hl e he hb => ?_⟩
  by_cases hij : i = j
  · subst hij
    obtain⟨_, ox, hox, hall⟩ := mem_ready.1 hr
    rw[hj]at hox; cases hox
    exact getD_set_true (hall e he hb)
  · rw[getD_set_ne false hij]at hl
    exact getD_set_true (hc.2 j oj hj hl e he hb)
end
def mI (P : Program) (R : Value -> World -> Prop) : Result Next -> Prop
  |.ok (.value v) w' => R v w'
  |.ok .skip w' => R undef w'
  |.ok (.enter f args) w' => Calls P f args w' λe w'' => ∃ v, e = .returned v /\ R v w''
  |.ok (.row row args) w' => Rows P row args w' R
  |_ => False
def Gives (P : Program) (o : Oper) (a : Act) (w : World) (R : Value -> World -> Prop) : Prop := mI P R ((execOp a.eval o).run P w)
theorem Gives.mono {P : Program} {o : Oper} {a : Act} {w : World} {R R' : Value -> World -> Prop} (h : Gives P o a w R) (hr : ∀ v w', R v w' -> R' v w') : Gives P o a w R' := by
  unfold Gives at h ⊢
  generalize (execOp a.eval o).run P w = r at *
  cases r with
  |ok n w' =>
    cases n <;> simp only[mI]at h ⊢
    case value v => exact hr _ _ h
    case skip => exact hr _ _ h
    case enter f args =>
      refine Calls.mono h λe w'' he => ?_
      obtain⟨v, rfl, hv⟩ := he
      exact⟨v, rfl, hr _ _ hv⟩
    case row row args => exact Rows.mono h λv w'' hv => hr _ _ hv
  |halt x w' => exact h.elim
theorem Gives.wp {P : Program} {o : Oper} {a : Act} {w : World} {R : Value -> World -> Prop} {K : Act -> World -> Prop} {Q : Exit -> Act -> World -> Prop} (h : Gives P o a w R) (hK : ∀ v w', R v w' -> K (a.put o.dst v) w') : o.wp P a w K Q := by
  unfold Gives at h
  unfold Oper.wp
  generalize (execOp a.eval o).run P w = r at *
  cases r with
  |ok n w' =>
    cases n <;> simp only[mI, Oper.upon]at h ⊢
    case value v => exact hK _ _ h
    case skip => exact hK _ _ h
    case enter f args =>
      refine Calls.mono h λe w'' he => ?_
      obtain⟨v, rfl, hr⟩ := he
      exact hK _ _ hr
    case row row args => exact Rows.mono h λv w'' hr => hK _ _ hr
  |halt x w' => exact h.elim
def IZ (P : Program) (R : Value -> World -> Prop) : Result Next -> Prop
  |.ok (.round l f tmps assign body) w' => RoundIn Fence.wide 0 P l f tmps assign body w' λe w'' => ∃ v, e = .returned v /\ R v w''
  |r => mI P R r
def ja (P : Program) (o : Oper) (a : Act) (w : World) (R : Value -> World -> Prop) : Prop := IZ P R ((execOp a.eval o).run P w)
theorem Gives.wide {P : Program} {o : Oper} {a : Act} {w : World} {R : Value -> World -> Prop} (h : Gives P o a w R) : ja P o a w R := by
  unfold Gives at h
  unfold ja
  generalize (execOp a.eval o).run P w = r at *
  cases r with
  |ok n w' =>
    cases n
    case round l f tmps assign body => exact h.elim
    all_goals exact h
  |halt x w' => exact h.elim
theorem Ha {n m : Nat} {P : Program} {l : Nat} {f : FuncId} {tmps : Array Value} {assign body : Code} {w : World} {R : Ending -> World -> Prop} (h : RoundIn Fence.wide n P l f tmps assign body w R) : RoundIn Fence.wide m P l f tmps assign body w R :=
  ⟨h.1, λc cs _ => h.2 c cs (room_wide _)⟩
theorem ja.wpIn {P : Program} {o : Oper} {a : Act} {w : World} {R : Value -> World -> Prop} {K : Act -> World -> Prop} {Q : Exit -> Act -> World -> Prop} {n : Nat} (h : ja P o a w R) (hK : ∀ v w', R v w' -> K (a.put o.dst v) w') : o.wpIn Fence.wide n P a w K Q := by
  unfold ja at h
  refine⟨λ_ _ => trivial, ?_⟩
  rw[Fence.wide_round, Oper.semAt_none]
  generalize (execOp a.eval o).run P w = r at *
  cases r with
  |ok n' w' =>
    cases n' <;> simp only[IZ, mI, Oper.uponIn]at h ⊢
    case value v => exact hK _ _ h
    case skip => exact hK _ _ h
    case enter f args =>
      refine⟨λe => by simp[Fence.wide]at e, callsIn_wide.2 (Calls.mono h λe w'' he => ?_)⟩
      obtain⟨v, rfl, hr⟩ := he
      exact hK _ _ hr
    case row row args =>
      refine⟨λe => by simp[Fence.wide]at e, λc cs _ => ?_⟩
      obtain⟨v, w'', hr, s⟩ := h c cs
      exact⟨v, w'', hK _ _ hr, stepsIn_wide.2 s⟩
    case round l f tmps assign body =>
      refine⟨λe => by simp[Fence.wide]at e, Ha (RoundIn.mono h λe w'' he => ?_)⟩
      obtain⟨v, rfl, hr⟩ := he
      exact hK _ _ hr
  |halt x w' => exact h.elim
def dstsOf (ops : Array Oper) : List (Option Tmp) := ops.toList.map (·.dst)
def bQ (ops : Array Oper) : List (List Nat) := ops.toList.map λo => (o.after.toList.filter (Region.binds .any)).map (·.on)
def JB (o : Oper) : Bool := match o.op with
  |.select _ _ => false
  |_ => true
def tmpsOf (o : Oper) : List Tmp := o.op.operands.toList.filterMap fun | .tmp t => some t|_ => none
def gL (N : Nat) (ops : Array Oper) (ds : List (Option Tmp)) (ws ns us : List (List Nat)) : Bool :=
  (dstsOf ops == ds) && (bQ ops == ws) && (List.range ops.size).all λi => match ops[i]? with
    |none => false
    |some o => o.guard.isNone && JB o && ((ws.getD i []).all λj => decide (j < i)) &&
      ((tmpsOf o).all λt => (List.range ops.size).all λj => (ds.getD j none != some t) || (ws.getD i []).contains j || (ws.getD j []).contains i || (i == j)) &&
      ((us.getD i []).all λk => k == i || (ws.getD i []).contains k) &&
      ((List.range ops.size).all λj => j == i || (ds.getD i none).isNone || ds.getD j none != ds.getD i none) &&
      (match ds.getD i none with|some d => decide (d < N)|none => true) &&
      ((ns.getD i []).all λj => (ws.getD i []).contains j) && ((tmpsOf o).all λt => (ws.getD i []).all λj => (ds.getD j none != some t) || (ns.getD i []).contains j)
def aV (ds : List (Option Tmp)) (vs : Nat -> Value) : List Nat -> Act -> Act
  | [], a => a
  |j :: r, a => aV ds vs r (a.put (ds.getD j none) (vs j))
def upd (vs : Nat -> Value) (i : Nat) (v : Value) : Nat -> Value := λk => if k = i then v else vs k
theorem Iu {ds : List (Option Tmp)} {vs : Nat -> Value} {d : Option Tmp} {v : Value} : ∀ (js : List Nat) (a : Act), (∀ j ∈ js, ∀ t, d = some t -> ds.getD j none ≠ some t) -> aV ds vs js (a.put d v) = (aV ds vs js a).put d v
  | [], a, _ => rfl
  |j :: r, a, h => by
    simp only[aV]
    rw[Act.put_comm a v (vs j) (λt ht => h j (by simp) t ht)]
    exact Iu r _ (λk hk => h k (by simp[hk]))
theorem tN {ds : List (Option Tmp)} {vs us : Nat -> Value} : ∀ (js : List Nat) (a : Act), (∀ j ∈ js, vs j = us j) -> aV ds vs js a = aV ds us js a
  | [], a, _ => rfl
  |j :: r, a, h => by
    simp only[aV]
    rw[h j (by simp)]
    exact tN r _ (λk hk => h k (by simp[hk]))
theorem wF {ds : List (Option Tmp)} {vs : Nat -> Value} {x : Operand} : ∀ (js : List Nat) (a : Act), (∀ j ∈ js, ∀ t, ds.getD j none = some t -> x ≠ .tmp t) -> (aV ds vs js a).eval x = a.eval x
  | [], a, _ => rfl
  |j :: r, a, h => by
    simp only[aV]
    rw[wF r _ (λk hk => h k (by simp[hk]))]
    exact Act.eval_put (λt ht => h j (by simp) t ht)
theorem eval_at {ds : List (Option Tmp)} {vs : Nat -> Value} {t : Tmp} {j : Nat} : ∀ (js : List Nat) (a : Act), j ∈ js -> ds.getD j none = some t -> t < a.tmps.size -> (∀ k ∈ js, ds.getD k none = some t -> k = j) -> (aV ds vs js a).eval (.tmp t) = vs j
  | [], a, h, _, _, _ => by cases h
  |k :: r, a, h, hd, hs, hu => by
    simp only[aV]
    by_cases hr : j ∈ r
    · refine eval_at r _ hr hd ?_ (λk' hk' => hu k' (by simp[hk']))
      cases ds.getD k none <;> simpa[Act.put]using hs
    · have hjk : j = k := by
        rcases List.mem_cons.1 h with e|e
        · exact e
        · exact absurd e hr
      subst hjk
      rw[wF r _ (λk hk t' ht' e => by
        simp only[Operand.tmp.injEq]at e
        subst e
        exact hr ((hu k (by simp[hk]) ht') ▸ hk))]
      rw[hd]
      simp[Act.eval, Act.put, hs]
def il (n : Nat) (L : Array Bool) : List Nat := (List.range n).filter λj => L.getD j false
theorem Bd {n : Nat} {L : Array Bool} {j : Nat} : j ∈ il n L ↔ j < n /\ L.getD j false = true := by simp[il]
def iY (f : Nat -> Oper -> Prop) : Nat -> List Oper -> Prop
  |_, [] => True
  |i, o :: r => f i o /\ iY f (i + 1) r
theorem yh {f : Nat -> Oper -> Prop} : ∀ (l : List Oper) (k : Nat), iY f k l -> ∀ i o, l[i]? = some o -> f (k + i) o
  | [], k, _, i, o, h => by simp at h
  |x :: r, k, h, 0, o, ho => by simp at ho; subst ho; exact h.1
  |x :: r, k, h, i + 1, o, ho => by
    have := yh r (k + 1) h.2 i o (by simpa using ho)
    rw[show k + (i + 1) = k + 1 + i by omega]; exact this
theorem xZ {f g : Nat -> Oper -> Prop} (h : ∀ i o, f i o -> g i o) : ∀ (l : List Oper) (k : Nat), iY f k l -> iY g k l
  | [], _, _ => trivial
  |x :: r, k, hs => ⟨h _ _ hs.1, xZ h r (k + 1) hs.2⟩
section
variable {P : Program} {ops : Array Oper} {Q : Exit -> Act -> World -> Prop}
theorem Rs {ds : List (Option Tmp)} {vs : Nat -> Value} {n i : Nat} {L : Array Bool} {v : Value} {a : Act} (hi : i < n) (hl : L.getD i false = false) (hsz : i < L.size) (hd : ∀ j, j < n -> j ≠ i -> ∀ t, ds.getD i none = some t -> ds.getD j none ≠ some t) :
    aV ds (upd vs i v) (il n (L.setIfInBounds i true)) a = (aV ds vs (il n L) a).put (ds.getD i none) v := by
  have key : ∀ (js : List Nat) (a : Act), js.Nodup -> (∀ j ∈ js, j < n) -> i ∈ js -> aV ds (upd vs i v) (js.filter λj => (L.setIfInBounds i true).getD j false) a = (aV ds vs (js.filter λj => L.getD j false) a).put (ds.getD i none) v := by
    intro js
    induction js with
    |nil => intro a _ _ h; cases h
    |cons j r ih =>
      intro a hnd hlt hm
      simp only[List.nodup_cons]at hnd
      have hrest : ∀ (a : Act), i ∉ r -> aV ds (upd vs i v) (r.filter λj => (L.setIfInBounds i true).getD j false) a = aV ds vs (r.filter λj => L.getD j false) a := by
        intro a hir
        have e1 : (r.filter λj => (L.setIfInBounds i true).getD j false) = r.filter λj => L.getD j false := by
          apply List.filter_congr
          intro k hk
          exact getD_set_ne false (λe => hir (e ▸ hk))
        rw[e1]
        exact tN _ _ (λk hk => by
          have : k ≠ i := λe => hir (e ▸ (List.mem_filter.1 hk).1)
          simp[upd, this])
      by_cases hji : j = i
      · subst hji
        have hset : (L.setIfInBounds j true).getD j false = true := by simp[hsz]
        rw[List.filter_cons, List.filter_cons, if_pos hset, if_neg (by simp[hl])]
        simp only[aV]
        rw[hrest _ hnd.1]
        have : upd vs j v j = v := by simp[upd]
        rw[this]
        exact Iu _ _ (λk hk t ht => hd k (hlt k (by simp[(List.mem_filter.1 hk).1])) (λe => hnd.1 (e ▸ (List.mem_filter.1 hk).1)) t ht)
      · have hir : i ∈ r := by
          rcases List.mem_cons.1 hm with e|e
          · exact absurd e.symm hji
          · exact e
        have e2 : (L.setIfInBounds i true).getD j false = L.getD j false := getD_set_ne false (λe => hji e.symm)
        have e3 : upd vs i v j = vs j := by simp[upd, hji]
        by_cases hj : L.getD j false = true
        · rw[List.filter_cons, List.filter_cons, if_pos (by rw[e2]; exact hj), if_pos hj]
          simp only[aV, e3]
          exact ih _ hnd.2 (λk hk => hlt k (by simp[hk])) hir
        · rw[List.filter_cons, List.filter_cons, if_neg (by rw[e2]; exact hj), if_neg hj]
          exact ih _ hnd.2 (λk hk => hlt k (by simp[hk])) hir
  exact key (List.range n) a List.nodup_range (λj hj => List.mem_range.1 hj) (List.mem_range.2 hi)
end
section
variable {P : Program} {ops : Array Oper} {Q : Exit -> Act -> World -> Prop}
def ll (ws : List (List Nat)) (L : Array Bool) : Prop := ∀ j, L.getD j false = true -> ∀ k ∈ ws.getD j [], L.getD k false = true
theorem DK {N : Nat} {ds : List (Option Tmp)} {ws ns us : List (List Nat)} (hok : gL N ops ds ws ns us = true) {i : Nat} {o : Oper} (ho : ops[i]? = some o) : o.guard = none := by
  simp only[gL, Bool.and_eq_true]at hok
  have h := List.all_eq_true.1 hok.2 i (List.mem_range.2 (Array.getElem?_eq_some_iff.1 ho).1)
  rw[ho]at h
  simp only[Bool.and_eq_true]at h
  simpa using h.1.1.1.1.1.1.1.1
theorem DL (A : Nat -> Array Bool -> Act -> World -> Prop) (Gv : Oper -> Act -> World -> (Value -> World -> Prop) -> Prop) (oM : ∀ L a x, Region.ready .any ops L = [] -> Q .normal a x -> A 0 L a x)
    (hAs : ∀ fuel L a x, (Region.ready .any ops L = [] -> Q .normal a x) -> (∀ i ∈ Region.ready .any ops L, ∀ o, ops[i]? = some o -> o.guard = none -> ∃ R, Gv o a x R /\ ∀ v y, R v y -> A fuel (L.setIfInBounds i true) (a.put o.dst v) y) -> A (fuel + 1) L a x)
    (hcg : ∀ o a a' x R, execOp a.eval o = execOp a'.eval o -> Gv o a' x R -> Gv o a x R) {a : Act} {w : World} (N : Nat) (ds : List (Option Tmp)) (ws ns us : List (List Nat)) (hN : a.tmps.size = N) (hok : gL N ops ds ws ns us = true)
    (I : Array Bool -> (Nat -> Value) -> World -> Prop) (hI0 : I (Array.replicate ops.size false) (λ_ => undef) w)
    (hstep : ∀ i o, ops[i]? = some o -> ∀ (L : Array Bool) (vs : Nat -> Value) (x : World), L.size = ops.size -> L.getD i false = false -> (∀ j ∈ ws.getD i [], L.getD j false = true) -> ll ws L -> I L vs x -> Gv o (aV ds vs (ns.getD i []) a) x (λv y => I (L.setIfInBounds i true) (upd vs i v) y))
    (hend : ∀ (L : Array Bool) (vs : Nat -> Value) (x : World), (∀ j, j < ops.size -> L.getD j false = true) -> I L vs x -> Q .normal (aV ds vs (List.range ops.size) a) x) : A ops.size (Array.replicate ops.size false) a w := by
  simp only[gL, Bool.and_eq_true]at hok
  obtain⟨⟨hds, hws⟩, hall⟩ := hok
  have hds := eq_of_beq hds
  have hws := eq_of_beq hws
  have hdst : ∀ i o, ops[i]? = some o -> ds.getD i none = o.dst := by
    intro i o ho
    rw[← hds]
    simp[dstsOf, ho]
  have JC : ∀ i o, ops[i]? = some o -> ∀ j, j ∈ ws.getD i [] ↔ ∃ e ∈ o.after, Region.binds .any e = true /\ e.on = j := by
    intro i o ho j
    rw[← hws]
    simp[bQ, ho, and_assoc]
  have hop : ∀ i o, ops[i]? = some o -> ((o.guard = none /\ (∀ cs b, o.op ≠ .select cs b)) /\ (∀ j ∈ ws.getD i [], j < i)) /\ (∀ t ∈ tmpsOf o, ∀ j, j < ops.size -> ds.getD j none = some t -> j ∈ ws.getD i [] \/ i ∈ ws.getD j [] \/ i = j) /\ (∀ k ∈ us.getD i [], k = i \/ k ∈ ws.getD i []) /\ (∀ j, j < ops.size -> j ≠ i -> ∀ t, ds.getD i none = some t -> ds.getD j none ≠ some t) /\ (∀ d, ds.getD i none = some d -> d < N) /\ (∀ j ∈ ns.getD i [], j ∈ ws.getD i []) /\ (∀ t ∈ tmpsOf o, ∀ j ∈ ws.getD i [], ds.getD j none = some t -> j ∈ ns.getD i []) := by
    intro i o ho
    have hi : i < ops.size := (Array.getElem?_eq_some_iff.1 ho).1
    have h := List.all_eq_true.1 hall i (List.mem_range.2 hi)
    rw[ho]at h
    simp only[Bool.and_eq_true]at h
    obtain⟨⟨⟨⟨⟨⟨⟨⟨h1, h2⟩, h3⟩, h4⟩, h5⟩, h6⟩, h7⟩, h8⟩, h9⟩ := h
    refine⟨⟨⟨by simpa using h1, λcs b e => by simp[JB, e]at h2⟩, λj hj => by simpa using List.all_eq_true.1 h3 j hj⟩, λt ht j hj hd => ?_, λk hk => ?_, λj hj hne t hdi hdj => ?_, λd hd => ?_, λj hj => by simpa using List.all_eq_true.1 h8 j hj, λt ht j hj hd => ?_⟩
    · have := List.all_eq_true.1 (List.all_eq_true.1 h4 t ht) j (List.mem_range.2 hj)
      rw[hd]at this
      simp at this
      rcases this with(h|h)|h
      · exact .inl (by simpa using h)
      · exact .inr (.inl (by simpa using h))
      · exact .inr (.inr h)
    · have := List.all_eq_true.1 h5 k hk
      simp at this
      rcases this with h|h
      · exact .inl h
      · exact .inr (by simpa using h)
    · have := List.all_eq_true.1 h6 j (List.mem_range.2 hj)
      rw[hdi, hdj]at this
      simp at this
      exact hne this
    · rw[hd]at h7; simpa using h7
    · have := List.all_eq_true.1 (List.all_eq_true.1 h9 t ht) j hj
      rw[hd]at this
      simpa using this
  clear hall
  have main : ∀ (fuel : Nat) (L : Array Bool) (vs : Nat -> Value) (x : World), L.size = ops.size -> (∀ j o, ops[j]? = some o -> L.getD j false = true -> ∀ k ∈ ws.getD j [], L.getD k false = true) -> ops.size <= fuel + (il ops.size L).length -> I L vs x -> A fuel L (aV ds vs (il ops.size L) a) x := by
    have hdone : ∀ (L : Array Bool) (vs : Nat -> Value) (x : World), L.size = ops.size -> (∀ j o, ops[j]? = some o -> L.getD j false = true -> ∀ k ∈ ws.getD j [], L.getD k false = true) -> I L vs x -> Region.ready .any ops L = [] -> Q .normal (aV ds vs (il ops.size L) a) x := by
      intro L vs x hsz hcl hTx hr
      have JD : ∀ (n : Nat), n <= ops.size -> ∀ j, j < n -> L.getD j false = true := by
        intro n
        induction n with
        |zero => intro _ j hj; omega
        |succ n ih =>
          intro hn j hj
          rcases Nat.lt_or_ge j n with h|h
          · exact ih (by omega) j h
          · obtain rfl : j = n := by omega
            have hjs : j < ops.size := by omega
            cases hlj : L.getD j false with
            |true => rfl
            |false =>
              exfalso
              have : j ∈ Region.ready .any ops L := by
                refine mem_ready.2 ⟨?_, ops[j], Array.getElem?_eq_getElem hjs, λe he hb => ?_⟩
                · have : j < L.size := by omega
                  simp[this]at hlj ⊢; exact hlj
                · have hw := (JC j _ (Array.getElem?_eq_getElem hjs) e.on).2 ⟨e, he, hb, rfl⟩
                  exact ih (by omega) e.on ((hop j _ (Array.getElem?_eq_getElem hjs)).1.2 _ hw)
              rw[hr]at this; cases this
      have hup : il ops.size L = List.range ops.size := by
        unfold il
        exact List.filter_eq_self.2 (λj hj => JD ops.size (Nat.le_refl _) j (List.mem_range.1 hj))
      rw[hup]
      exact hend L vs x (λj hj => JD ops.size (Nat.le_refl _) j hj) hTx
    intro fuel
    induction fuel with
    |zero =>
      intro L vs x hsz hcl hf hTx
      have hlen : (il ops.size L).length = ops.size := by
        have h1 : (il ops.size L).length <= (List.range ops.size).length := List.length_filter_le _ _
        simp at h1; omega
      have hr : Region.ready .any ops L = [] := by
        refine List.eq_nil_iff_forall_not_mem.2 λj hj => ?_
        obtain⟨h1, o, ho, _⟩ := mem_ready.1 hj
        have hjs : j < ops.size := (Array.getElem?_eq_some_iff.1 ho).1
        have Tz : il ops.size L = List.range ops.size := by
          unfold il
          refine List.filter_eq_self.2 ?_
          have : (List.filter (λj => L.getD j false) (List.range ops.size)).length = (List.range ops.size).length := by
            have := hlen; unfold il at this; rw[this]; simp
          exact List.length_filter_eq_length_iff.1 this
        have := (Bd (L := L) (n := ops.size) (j := j)).1 (by rw[Tz]; exact List.mem_range.2 hjs)
        have hjl : j < L.size := by omega
        simp[hjl]at h1 this
        rw[h1]at this; cases this.2
      exact oM _ _ _ hr (hdone L vs x hsz hcl hTx hr)
    |succ fuel ih =>
      intro L vs x hsz hcl hf hTx
      refine hAs _ _ _ _ (hdone L vs x hsz hcl hTx) (λi hi o ho _ => ?_)
      obtain⟨h1, o', ho', iB⟩ := mem_ready.1 hi
      rw[ho]at ho'
      obtain rfl := Option.some.inj ho'
      have his : i < ops.size := (Array.getElem?_eq_some_iff.1 ho).1
      have hil : i < L.size := by omega
      have hlf : L.getD i false = false := by simp[hil]at h1 ⊢; exact h1
      obtain⟨⟨⟨hgd, hsel⟩, hlt⟩, U5, Yj, hdd, hdN, JE, TA⟩ := hop i o ho
      have Ed : ∀ j ∈ ws.getD i [], L.getD j false = true := by
        intro j hj
        obtain⟨e, he, hb, rfl⟩ := (JC i o ho j).1 hj
        exact iB e he hb
      have hcl' : ll ws L := by
        intro j hj k hk
        rcases Nat.lt_or_ge j L.size with h|h
        · exact hcl j _ (Array.getElem?_eq_getElem (by omega : j < ops.size)) hj k hk
        · simp[Array.getElem?_eq_none h]at hj
      have hg := hstep i o ho L vs x hsz hlf Ed hcl' hTx
      have TB : execOp (aV ds vs (il ops.size L) a).eval o = execOp (aV ds vs (ns.getD i []) a).eval o := by
        refine execOp_congr o hsel λy hy => ?_
        cases y with
        |tmp t =>
          have ht : t ∈ tmpsOf o := List.mem_filterMap.2 ⟨.tmp t, by simpa using hy, rfl⟩
          by_cases hex : ∃ j ∈ ws.getD i [], ds.getD j none = some t
          · obtain⟨j, hj, hd⟩ := hex
            have hjs : j < ops.size := by have := hlt j hj; omega
            have JF : ∀ k, k < ops.size -> ds.getD k none = some t -> k = j := λk hk hkd => by
              apply Classical.byContradiction
              intro hne
              exact(hop j _ (Array.getElem?_eq_getElem hjs)).2.2.2.1 k hk hne t hd hkd
            have KX : t < a.tmps.size := by rw[hN]; exact(hop j _ (Array.getElem?_eq_getElem hjs)).2.2.2.2.1 t hd
            rw[eval_at _ a (Bd.2 ⟨hjs, Ed j hj⟩) hd KX (λk hk hkd => JF k (Bd.1 hk).1 hkd), eval_at _ a (TA t ht j hj hd) hd KX (λk hk hkd => JF k (by have := hlt k (JE k hk); omega) hkd)]
          · rw[wF _ a (λk hk t' ht' e => ?_), wF _ a (λk hk t' ht' e => ?_)]
            · simp only[Operand.tmp.injEq]at e
              subst e
              exact hex ⟨k, JE k hk, ht'⟩
            · simp only[Operand.tmp.injEq]at e
              subst e
              obtain⟨hks, nE⟩ := Bd.1 hk
              rcases U5 t ht k hks ht' with h|h|h
              · exact hex ⟨k, h, ht'⟩
              · have := hcl k _ (Array.getElem?_eq_getElem hks) nE i h
                rw[hlf]at this; cases this
              · subst h
                rw[hlf]at nE; cases nE
        |_ =>
          rw[wF _ a (λk hk t' ht' e => by cases e), wF _ a (λk hk t' ht' e => by cases e)]
      refine⟨_, hcg _ _ _ _ _ TB hg, ?_⟩
      intro v y U6
      rw[← hdst i o ho, ← Rs his hlf hil hdd]
      refine ih (L.setIfInBounds i true) (upd vs i v) y (by simpa using hsz) ?_ ?_ U6
      · intro j oj hj hlj k hk
        by_cases hij : i = j
        · subst hij; exact getD_set_true (Ed k hk)
        · rw[getD_set_ne false hij]at hlj
          exact getD_set_true (hcl j oj hj hlj k hk)
      · have hlen : (il ops.size (L.setIfInBounds i true)).length = (il ops.size L).length + 1 := by
          have key : ∀ js : List Nat, js.Nodup -> i ∈ js -> (js.filter λj => (L.setIfInBounds i true).getD j false).length = (js.filter λj => L.getD j false).length + 1 := by
            intro js
            induction js with
            |nil => intro _ h; cases h
            |cons j r ih2 =>
              intro hnd hmem
              simp only[List.nodup_cons]at hnd
              by_cases hji : j = i
              · subst hji
                have hset : (L.setIfInBounds j true).getD j false = true := by simp[hil]
                rw[List.filter_cons, List.filter_cons, if_pos hset, if_neg (by simp[hlf])]
                have e1 : (r.filter λk => (L.setIfInBounds j true).getD k false) = r.filter λk => L.getD k false := by
                  apply List.filter_congr
                  intro k hk
                  exact getD_set_ne false (λe => hnd.1 (e ▸ hk))
                rw[e1]; simp
              · have hir : i ∈ r := by
                  rcases List.mem_cons.1 hmem with e|e
                  · exact absurd e.symm hji
                  · exact e
                have e2 : (L.setIfInBounds i true).getD j false = L.getD j false := getD_set_ne false (λe => hji e.symm)
                by_cases hj : L.getD j false = true
                · rw[List.filter_cons, List.filter_cons, if_pos (by rw[e2]; exact hj), if_pos hj]
                  rw[List.length_cons, List.length_cons, ih2 hnd.2 hir]
                · rw[List.filter_cons, List.filter_cons, if_neg (by rw[e2]; exact hj), if_neg hj]
                  exact ih2 hnd.2 hir
          exact key _ List.nodup_range (List.mem_range.2 his)
        omega
  have h0 : il ops.size (Array.replicate ops.size false) = [] := by
    unfold il
    rw[List.filter_eq_nil_iff]
    intro j hj
    have := List.mem_range.1 hj
    simp[this]
  have hm0 := main ops.size (Array.replicate ops.size false) (λ_ => undef) w (by simp) (λj o ho hl => by
    exfalso
    by_cases hj : j < ops.size <;> simp[hj]at hl) (by omega) hI0
  rw[h0]at hm0
  exact hm0
theorem QH {a : Act} {w : World} (N : Nat) (ds : List (Option Tmp)) (ws ns us : List (List Nat)) (hN : a.tmps.size = N) (hok : gL N ops ds ws ns us = true)
    (I : Array Bool -> (Nat -> Value) -> World -> Prop) (hI0 : I (Array.replicate ops.size false) (λ_ => undef) w)
    (hstep : ∀ i o, ops[i]? = some o -> ∀ (L : Array Bool) (vs : Nat -> Value) (x : World), L.size = ops.size -> L.getD i false = false -> (∀ j ∈ ws.getD i [], L.getD j false = true) -> ll ws L -> I L vs x -> Gives P o (aV ds vs (ns.getD i []) a) x (λv y => I (L.setIfInBounds i true) (upd vs i v) y))
    (hend : ∀ (L : Array Bool) (vs : Nat -> Value) (x : World), (∀ j, j < ops.size -> L.getD j false = true) -> I L vs x -> Q .normal (aV ds vs (List.range ops.size) a) x) : wpAny P .any ops Q ops.size (Array.replicate ops.size false) a w :=
  DL (wpAny P .any ops Q) (Gives P) (λ_ _ _ h1 h2 => ⟨h1, h2⟩) (λfuel L a x h1 h2 => ⟨h1, λi hi => by
    obtain⟨-, o, ho, -⟩ := mem_ready.1 hi
    unfold wpOp
    rw[ho]
    by_cases hgd : o.guard = none
    · have hw : Region.wanted o (yielded ops a.tmps) = true := by simp[Region.wanted, hgd]
      simp only[hw, if_true]
      obtain⟨R, hg, hR⟩ := h2 i hi o ho hgd
      exact .inl (hg.wp hR)
    · exact(hgd (DK hok ho)).elim⟩) (λo a a' x R e h => by unfold Gives at h ⊢; rw[e]; exact h) N ds ws ns us hN hok I hI0 hstep hend
theorem O0 {id n : Nat} {a : Act} {w : World} (hm : P.follows .mixedOrders = true) (N : Nat) (ds : List (Option Tmp)) (ws ns us : List (List Nat)) (hN : a.tmps.size = N) (hok : gL N ops ds ws ns us = true)
    (I : Array Bool -> (Nat -> Value) -> World -> Prop) (hI0 : I (Array.replicate ops.size false) (λ_ => undef) w.drew)
    (hstep : ∀ i o, ops[i]? = some o -> ∀ (L : Array Bool) (vs : Nat -> Value) (x : World), L.size = ops.size -> L.getD i false = false -> (∀ j ∈ ws.getD i [], L.getD j false = true) -> ll ws L -> I L vs x -> ja P o (aV ds vs (ns.getD i []) a) x (λv y => I (L.setIfInBounds i true) (upd vs i v) y))
    (hend : ∀ (L : Array Bool) (vs : Nat -> Value) (x : World), (∀ j, j < ops.size -> L.getD j false = true) -> I L vs x -> Q .normal (aV ds vs (List.range ops.size) a) x) : (Code.region id ops true).wpIn Fence.wide n P Q a w :=
  wpIn_region_any hm (DL (wpAnyIn Fence.wide n P .any ops Q) (ja P) (λ_ _ _ h1 h2 => ⟨h1, h2⟩) (λfuel L a x h1 h2 => ⟨h1, λi hi => by
    obtain⟨-, o, ho, -⟩ := mem_ready.1 hi
    unfold wpOpIn
    rw[ho]
    by_cases hgd : o.guard = none
    · have hw : Region.wanted o (yielded ops a.tmps) = true := by simp[Region.wanted, hgd]
      simp only[hw, if_true]
      obtain⟨R, hg, hR⟩ := h2 i hi o ho hgd
      exact hg.wpIn hR
    · exact(hgd (DK hok ho)).elim⟩) (λo a a' x R e h => by unfold ja at h ⊢; rw[e]; exact h) N ds ws ns us hN hok I hI0 hstep hend)
theorem O5 {id : Nat} {a : Act} {w : World} {l : List Oper} (hm : P.follows .mixedOrders = true) (N : Nat) (ds : List (Option Tmp)) (ws ns : List (List Nat)) (hN : a.tmps.size = N) (hok : gL N l.toArray ds ws ns [] = true)
    (I : Array Bool -> (Nat -> Value) -> World -> Prop) (hI0 : I (Array.replicate l.length false) (λ_ => undef) w.drew)
    (hstep : iY (λi o => ∀ (L : Array Bool) (vs : Nat -> Value) (x : World), L.size = l.length -> L.getD i false = false -> (∀ j ∈ ws.getD i [], L.getD j false = true) -> ll ws L -> I L vs x -> ja P o (aV ds vs (ns.getD i []) a) x (λv y => I (L.setIfInBounds i true) (upd vs i v) y)) 0 l)
    (hend : ∀ (L : Array Bool) (vs : Nat -> Value) (x : World), (∀ j, j < l.length -> L.getD j false = true) -> I L vs x -> Q .normal (aV ds vs (List.range l.length) a) x) : (Code.region id l.toArray true).wp P Q a w :=
  (wpIn_wide (n := 0)).1 (O0 hm N ds ws ns [] hN hok I (by simpa using hI0) (λi o ho L vs x h1 h2 h3 h4 h5 => by
    have := yh l 0 hstep i o (by simpa using ho) L vs x (by simpa using h1)
    rw[Nat.zero_add]at this
    exact this h2 h3 h4 h5) (λL vs x h1 h2 => by have := hend L vs x (by simpa using h1) h2; simpa using this))
theorem En {L : Array Bool} {i : Nat} (h : i < L.size) (j : Nat) : (L.setIfInBounds i true).getD j false = (if i = j then true else L.getD j false) := by
  by_cases e : i = j
  · subst e; simp[h]
  · rw[if_neg e]; exact getD_set_ne false e
theorem Gm (hlt : ∀ i o, ops[i]? = some o -> ∀ e ∈ o.after, Region.binds .any e = true -> e.on < i) : ∀ (fuel k : Nat) (L : Array Bool) (a : Act) (w : World), fuel + k = ops.size -> L.size = ops.size -> (∀ j, j < ops.size -> L.getD j false = decide (j < k)) -> wpAny P .any ops Q fuel L a w -> wpOps P ops Q (List.range' k fuel) a w := by
  intro fuel
  induction fuel with
  |zero => intro k L a w _ _ _ h; simpa[wpOps]using h.2
  |succ fuel ih =>
    intro k L a w hk hsz hL h
    have hks : k < ops.size := by omega
    have hLk : L.getD k false = false := by rw[hL k hks]; simp
    have hr : k ∈ Region.ready .any ops L := by
      refine mem_ready.2 ⟨?_, ops[k], Array.getElem?_eq_getElem hks, λe he hb => ?_⟩
      · have : k < L.size := by omega
        simp[this]at hLk ⊢; exact hLk
      · have := hlt k _ (Array.getElem?_eq_getElem hks) e he hb
        rw[hL e.on (by omega)]; simpa using this
    rw[List.range'_succ, wpOps_cons]
    refine wpOp_mono (λa w h' => ih (k + 1) _ a w (by omega) (by simpa using hsz) (λj hj => ?_) h') (h.2 k hr)
    by_cases e : j = k
    · subst e
      have : j < L.size := by omega
      simp[this]
    · rw[getD_set_ne false (λe' => e e'.symm), hL j hj]
      by_cases h1 : j < k
      · simp[h1]; omega
      · have h2 : ¬ j < k + 1 := by omega
        simp[h1, h2]
end
end
end Go.Proofs.YtbpodipdfohikaaGreat
