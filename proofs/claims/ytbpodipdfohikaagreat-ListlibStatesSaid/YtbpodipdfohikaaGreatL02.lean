import Derived.Test.YtbpodipdfohikaaGreatL01
import Derived.Test.YtbpodipdfohikaaGreatRows
import Derived.Shelf.Small.Strs
import Derived.Shelf.Strings.Search1
import Derived.Shelf.Strings.Prefix
import Derived.Shelf.Slices.Reverse
import Derived.Ground.Names2Prog
import Derived.Shelf.Slices.Clone
import Derived.Shelf.Slices.Delete
import Derived.Shelf.Slices.Cells
import Derived.Shelf.Slices.Empties
import Derived.Test.YtbpodipdfohikaaGreatProg
set_option linter.unusedSimpArgs false
set_option linter.unusedVariables false
set_option linter.unusedSectionVars false
set_option maxRecDepth 100000
set_option maxHeartbeats 25600000
namespace Go.Proofs.YtbpodipdfohikaaGreat
section
open Go.RowKit
noncomputable def mW (P : Program) (t ty : TypeId) (v s : Value) (w : World) : Value :=
  match (Builtin.append_ #[t, t] ty #[v, s]).run P w with
  |.ok x _ => x
  |_ => undef
noncomputable def appW (P : Program) (t ty : TypeId) (v s : Value) (w : World) : World :=
  match (Builtin.append_ #[t, t] ty #[v, s]).run P w with
  |.ok _ y => y
  |_ => w
def qd (P : Program) (t ty : TypeId) (v s : Value) (w : World) : Prop := ∃ x y, (Builtin.append_ #[t, t] ty #[v, s]).run P w = .ok x y
theorem I1 {P : Program} {t ty : TypeId} {v s : Value} {w : World} (h : qd P t ty v s w) : (Builtin.append_ #[t, t] ty #[v, s]).run P w = .ok (mW P t ty v s w) (appW P t ty v s w) := by
  obtain⟨x, y, h⟩ := h
  simp only[mW, appW, h]
theorem fB {P : Program} {ρ : Operand -> Value} {d : Option Tmp} {s x : Operand} {t ty : TypeId} {pos : String} {af : Array Edge} {gd : Option (Nat × Bool)} {w : World} (h : qd P t ty (ρ s) (ρ x) w) :
    (execOp ρ { dst := d, op := .call { callee := .builtin .append, args := #[s, x], argTypes := #[t, t] }, type := ty, pos := pos, after := af, guard := gd }).run P w = .ok (.value (mW P t ty (ρ s) (ρ x) w)) (appW P t ty (ρ s) (ρ x) w) := by
  have hr := I1 h
  unfold execOp
  simp only[resolve, invoke, builtin, Sem.run_bind, Sem.run_pure, Result.andThen_ok, List.map_toArray, List.map_cons, List.map_nil, hr]
theorem wN {P : Program} {t ty : TypeId} {v s x : Value} {w y : World} (h : (Builtin.append_ #[t, t] ty #[v, s]).run P w = .ok x y) : qd P t ty v s w /\ mW P t ty v s w = x /\ appW P t ty v s w = y :=
  ⟨⟨x, y, h⟩, by simp only[mW, h], by simp only[appW, h]⟩
end
section
open Go.RowKit
structure Ins where
  op : Int
  a : Int
  b : Int
  c : Int
  d : Int
def Ins.cells (i : Ins) : List Value := [.int .u8 i.op, .int .i64 i.a, .int .i64 i.b, .int .i64 i.c, .int .i64 i.d]
abbrev Ins.val (i : Ins) : Value := .agg #[.int .u8 i.op, .int .i64 i.a, .int .i64 i.b, .int .i64 i.c, .int .i64 i.d]
theorem aU {a b : Bool} (h : a = b) : Ending.returned (.bool a) = .returned (.bool b) := by rw[h]
theorem cZ {k : IntKind} {a b : Int} (h : a = b) : Ending.returned (.int k a) = .returned (.int k b) := by rw[h]
end
section
open Go.RowKit
def unused (n : Int) (i : Ins) : Bool := (decide (0 < n) || i.a == 0) && ((decide (1 < n) || i.b == 0) && ((decide (2 < n) || i.c == 0) && (decide (3 < n) || i.d == 0)))
def JS (n : Int) (i : Ins) (k : Nat) : Prop := (0 < k -> n <= 0 -> i.a = 0) /\ (1 < k -> n <= 1 -> i.b = 0) /\ (2 < k -> n <= 2 -> i.c = 0) /\ (3 < k -> n <= 3 -> i.d = 0)
theorem JS.all {n : Int} {i : Ins} (h : JS n i 4) : unused n i = true := by
  obtain⟨h1, h2, h3, h4⟩ := h
  simp only[unused, Bool.and_eq_true, Bool.or_eq_true, decide_eq_true_eq, beq_iff_eq]
  refine⟨?_, ?_, ?_, ?_⟩ <;> omega
end
section
open Go.RowKit Go.Instr
def kI (w : World) (r : Nat) (o : Obj) : World := { w with heap := w.heap.setIfInBounds r o }
theorem bytes_beq (a b : ByteArray) : (a == b) = decide (a = b) := by
  cases a with|mk x => cases b with|mk y =>
  show(x == y) = _
  by_cases h : x = y
  · subst h; simp
  · have h1 : (x == y) = false := by simpa using h
    have h2 : ¬ (⟨x⟩ : ByteArray) = ⟨y⟩ := λe => h (by simpa using congrArg ByteArray.data e)
    simp[h1, h2]
instance : LawfulBEq ByteArray where
  eq_of_beq := by intro a b h; rw[bytes_beq]at h; exact of_decide_eq_true h
  rfl := by intro a; rw[bytes_beq]; simp
theorem Dm {P : Program} {w : World} {r : Nat} {es : Array MapEntry} {c : Nat} (hb : w.heap[r]? = some (.map es c)) : (getObj r).run P w = .ok (.map es c) w := by simp[getObj, Sem.run, hb]
theorem QJ {P : Program} {w : World} {r : Nat} {es : Array MapEntry} {c : Nat} (o' : Obj) (hb : w.heap[r]? = some (.map es c)) : (setObj r o').run P w = .ok () (kI w r o') := by simp[setObj, Sem.run, hb, kI]
structure KeyLaw (P : Program) (K : TypeId) {κ : Type} [BEq κ] [LawfulBEq κ] (enc : κ -> Value) (desc : TypeDesc) : Prop where
  hu : P.underlying K = some desc
  same : ∀ a b : κ, sameNow desc (enc a) (enc b) = some (a == b)
  check : ∀ (e : Bool) (n : Nat) (a : κ) (w : World), (checkKey e (n + 1) K (enc a)).run P w = .ok () w
  bits : ∀ a : κ, sameBits 10000 (enc a) (enc a) = true
theorem Sk {P : Program} {K : TypeId} (hu : P.underlying K = some .string) : KeyLaw P K Value.string .string := by
  refine⟨hu, λa b => rfl, λe n a w => ?_, λa => by simp[sameBits]⟩
  simp[checkKey, run_underlying hu]
section
variable {κ : Type} [BEq κ] [LawfulBEq κ]
def gB (k : κ) : List (κ × Value) -> Nat -> Option (Nat × Value)
  | [], _ => none
  |(a, x) :: l, i => if k == a then some (i, x)else gB k l (i + 1)
def Bt (l : List (κ × Value)) (k : κ) : Option Value := (gB k l 0).map (·.2)
def kJ (k : κ) (v : Value) : List (κ × Value) -> List (κ × Value)
  | [] => [(k, v)]
  |(a, x) :: l => if k == a then(k, v) :: l else(a, x) :: kJ k v l
def gN (enc : κ -> Value) (l : List (κ × Value)) (es : List MapEntry) : Prop := es.map (λe => (e.key, e.val)) = l.map (λp => (enc p.1, p.2))
theorem gN.cons {enc : κ -> Value} {p : κ × Value} {l : List (κ × Value)} {es : List MapEntry} (h : gN enc (p :: l) es) : ∃ e r, es = e :: r /\ e.key = enc p.1 /\ e.val = p.2 /\ gN enc l r := by
  cases es with
  |nil => simp[gN]at h
  |cons e r => simp[gN]at h; exact⟨e, r, rfl, h.1.1, h.1.2, by simpa[gN]using h.2⟩
theorem Iw {P : Program} {K : TypeId} {enc : κ -> Value} {desc : TypeDesc} (L : KeyLaw P K enc desc) (k : κ) : ∀ (l : List (κ × Value)) (es : List MapEntry) (i : Nat), gN enc l es -> findNow desc (enc k) es i = some (gB k l i)
  | [], es, i, h => by
    have : es = [] := by simpa[gN]using h
    subst this; rfl
  |(a, x) :: l, es, i, h => by
    obtain⟨e, r, rfl, h1, h2, h3⟩ := h.cons
    simp only[findNow, h1, L.same, gB]
    cases hka : k == a
    · simp only[Bool.false_eq_true, if_false]; exact Iw L k l r (i + 1) h3
    · simp only[if_true, h2]
theorem AU (k : κ) : ∀ (l : List (κ × Value)) (i j : Nat) (v : Value), gB k l i = some (j, v) -> i <= j /\ j < i + l.length
  | [], i, j, v, h => by simp[gB]at h
  |(a, x) :: l, i, j, v, h => by
    simp only[gB]at h
    split at h
    · simp at h; obtain⟨rfl, _⟩ := h; simp
    · have := AU k l (i + 1) j v h; simp; omega
def MapAt (enc : κ -> Value) (w : World) (r : Nat) (l : List (κ × Value)) : Prop :=
  ∃ es clock, w.heap[r]? = some (.map es clock) /\ gN enc l es.toList /\ (∀ e ∈ es.toList, e.born < clock) /\ (es.toList.map (·.born)).Nodup
theorem MapAt.lt {enc : κ -> Value} {w : World} {r : Nat} {l : List (κ × Value)} (h : MapAt enc w r l) : r < w.heap.size := by
  obtain⟨es, clock, hb, _⟩ := h
  rcases Nat.lt_or_ge r w.heap.size with h' | h'
  · exact h'
  · rw[Array.getElem?_eq_none h']at hb; cases hb
theorem MapAt.keep {enc : κ -> Value} {w w' : World} {r : Nat} {l : List (κ × Value)} (h : MapAt enc w r l) (hw : w'.heap[r]? = w.heap[r]?) : MapAt enc w' r l := by
  obtain⟨es, clock, hb, rest⟩ := h
  exact⟨es, clock, by rw[hw]; exact hb, rest⟩
theorem MapAt.new (enc : κ -> Value) (w : World) : MapAt enc (w.alloc (.map #[] 0)) w.heap.size [] := ⟨#[], 0, heap_alloc_new w _, by simp[gN], by simp, by simp⟩
theorem Mv.kI (w : World) (r : Nat) (o : Obj) : Mv (λb => b = r) w (kI w r o) := by
  refine⟨rfl, rfl, rfl, by simp[YtbpodipdfohikaaGreat.kI], λb _ hne => ?_⟩
  have : r ≠ b := λe => hne e.symm
  simp[YtbpodipdfohikaaGreat.kI, this]
theorem I4 (w : World) (r : Nat) (o : Obj) (h : r < w.heap.size) : (kI w r o).heap[r]? = some o := by simp[kI, h]
variable {P : Program} {K T E : TypeId} {enc : κ -> Value} {desc : TypeDesc} {w : World} {r : Nat} {l : List (κ × Value)}
theorem run_findKey (L : KeyLaw P K enc desc) (k : κ) {es : Array MapEntry} (h : gN enc l es.toList) : (findKey K (enc k) es.toList).run P w = .ok (gB k l 0) w := by
  simp only[findKey, Sem.run_bind, run_underlying L.hu, Result.andThen_ok, Iw L k l es.toList 0 h, Sem.run_pure]
theorem run_get (L : KeyLaw P K enc desc) (ht : P.underlying T = some (.map K E)) (k : κ) (z : Value) (hz : ∀ w, (zeroValue E).run P w = .ok z w) (h : MapAt enc w r l) :
    (lookup T (.map (some r)) (enc k) false).run P w = .ok ((Bt l k).getD z) w := by
  obtain⟨es, clock, hb, he, _⟩ := h
  unfold lookup
  simp only[Sem.run_bind, run_underlying ht, Result.andThen_ok, Dm hb, Sem.run_pure, L.check, run_findKey L k he]
  unfold Bt
  cases gB k l 0 with
  |none => simp[hz]
  |some p => simp
theorem Da (k : κ) (v : Value) : ∀ (l : List (κ × Value)) (es : List MapEntry) (i j : Nat) (x : Value), gN enc l es -> gB k l i = some (j, x) -> gN enc (kJ k v l) (es.modify (j - i) λe => { e with key := enc k, val := v })
  | [], es, i, j, x, _, h => by simp[gB]at h
  |(a, y) :: l, es, i, j, x, he, h => by
    obtain⟨e, r, rfl, h1, h2, h3⟩ := he.cons
    simp only[gB]at h
    simp only[kJ]
    cases hka : k == a
    · simp only[hka, Bool.false_eq_true, if_false]at h ⊢
      have hge := (AU k l (i + 1) j x h).1
      have := Da k v l r (i + 1) j x h3 h
      rw[show j - i = j - (i + 1) + 1 by omega, List.modify_succ_cons]
      simp[gN, h1, h2]at this ⊢
      exact this
    · simp only[hka, if_true]at h ⊢
      simp at h
      obtain⟨rfl, _⟩ := h
      simp[gN]at h3 ⊢
      exact h3
theorem Hd (k : κ) (v : Value) (n : Nat) : ∀ (l : List (κ × Value)) (es : List MapEntry) (i : Nat), gN enc l es -> gB k l i = none -> gN enc (kJ k v l) (es ++ [{ key := enc k, val := v, born := n }])
  | [], es, i, he, _ => by
    have : es = [] := by simpa[gN]using he
    subst this; simp[gN, kJ]
  |(a, y) :: l, es, i, he, h => by
    obtain⟨e, r, rfl, h1, h2, h3⟩ := he.cons
    simp only[gB]at h
    simp only[kJ]
    cases hka : k == a
    · simp only[hka, Bool.false_eq_true, if_false]at h ⊢
      have := Hd k v n l r (i + 1) h3 h
      simp[gN, h1, h2]at this ⊢
      exact this
    · simp[hka]at h
theorem run_set (L : KeyLaw P K enc desc) (ht : P.underlying T = some (.map K E)) (k : κ) (v : Value) (h : MapAt enc w r l) :
    ∃ w', (mapUpdate T (.map (some r)) (enc k) v).run P w = .ok () w' /\ MapAt enc w' r (kJ k v l) /\ Mv (λb => b = r) w w' := by
  have hlt := h.lt
  obtain⟨es, clock, hb, he, hborn, hnd⟩ := h
  have hrun : ∀ o, (setObj r o).run P w = .ok () (kI w r o) := λo => QJ o hb
  have hc := L.check false 9999 k w
  cases hf : gB k l 0 with
  |none =>
    refine⟨kI w r (.map (es.push { key := enc k, val := v, born := clock }) (clock + 1)), ?_, ⟨_, _, I4 _ _ _ hlt, ?_, ?_, ?_⟩, Mv.kI _ _ _⟩
    · unfold mapUpdate
      simp only[Sem.run_bind, run_underlying ht, Result.andThen_ok, Dm hb, hc, run_findKey L k he, hf, hrun]
    · simpa using Hd k v clock l es.toList 0 he hf
    · intro e hm
      simp at hm
      rcases hm with hm|rfl
      · have := hborn e (by simpa using hm); omega
      · simp
    · simp only[Array.toList_push, List.map_append, List.map_cons, List.map_nil]
      refine List.nodup_append.2 ⟨hnd, by simp, ?_⟩
      intro a ha b hb'
      simp at hb'
      subst hb'
      obtain⟨e, hm, rfl⟩ := List.mem_map.1 ha
      have := hborn e hm; omega
  |some p =>
    obtain⟨j, x⟩ := p
    have hj := (AU k l 0 j x hf).2
    have hlen : es.toList.length = l.length := by
      have := congrArg List.length he
      simpa using this
    have hkey : ((es[j]?).map (·.key)).getD (enc k) = enc k := by
      have h1 := Da (enc := enc) k v l es.toList 0 j x he hf
      have zu : j < es.size := by simp at hlen; omega
      have h2 := congrArg (λt => t[j]?) he
      simp only[List.getElem?_map]at h2
      have hl : ∀ (l : List (κ × Value)) (i : Nat), gB k l i = some (j, x) -> ∃ p, l[j - i]? = some p /\ k = p.1 := by
        intro l
        induction l with
        |nil => intro i h; simp[gB]at h
        |cons p l ih =>
          intro i h
          obtain⟨a, y⟩ := p
          simp only[gB]at h
          cases hka : k == a
          · simp only[hka, Bool.false_eq_true, if_false]at h
            have hge := (AU k l (i + 1) j x h).1
            obtain⟨p, h1, h2⟩ := ih (i + 1) h
            exact⟨p, by rw[show j - i = j - (i + 1) + 1 by omega, List.getElem?_cons_succ]; exact h1, h2⟩
          · simp only[hka, if_true]at h
            simp at h
            obtain⟨rfl, _⟩ := h
            exact⟨(a, y), by simp, by simpa using hka⟩
      obtain⟨p, h3, h4⟩ := hl l 0 hf
      simp only[Nat.sub_zero]at h3
      rw[h3]at h2
      have h5 : es[j]? = some es[j] := Array.getElem?_eq_getElem zu
      have h6 : es.toList[j]? = some es[j] := by simp
      rw[h6]at h2
      simp at h2
      rw[h5]
      simp[h2.1, h4]
    have hst : (keyThatStays (((es[j]?).map (·.key)).getD (enc k)) (enc k)).run P w = .ok (enc k) w := by
      rw[hkey]; simp[keyThatStays, L.bits]
    refine⟨kI w r (.map (es.modify j λe => { e with key := enc k, val := v }) clock), ?_, ⟨_, _, I4 _ _ _ hlt, ?_, ?_, ?_⟩, Mv.kI _ _ _⟩
    · unfold mapUpdate
      simp only[Sem.run_bind, run_underlying ht, Result.andThen_ok, Dm hb, hc, run_findKey L k he, hf, hst, hrun]
    · have := Da (enc := enc) k v l es.toList 0 j x he hf
      simpa[Array.toList_modify]using this
    · intro e hm
      rw[Array.toList_modify]at hm
      obtain⟨i, hi, rfl⟩ := List.mem_iff_getElem.1 hm
      rw[List.getElem_modify]
      have := hborn (es.toList[i]'(by simpa using hi)) (List.getElem_mem _)
      split <;> exact this
    · have : (es.modify j λe => { e with key := enc k, val := v }).toList.map (·.born) = es.toList.map (·.born) := by
        rw[Array.toList_modify]
        apply List.ext_getElem?
        intro i
        simp only[List.getElem?_map, List.getElem?_modify]
        cases es.toList[i]? <;> simp
        split <;> rfl
      rw[this]; exact hnd
end
end
section
open Go.RowKit Go.Instr
def rU (c : Int) : Bool := decide (97 <= c) && decide (c <= 122)
def mX (c : Int) : Bool := decide (48 <= c) && decide (c <= 57)
def lM (c : Int) : Bool := rU c || mX c
def oH (c : Int) : Bool := ((c == 32 || c == 9) || c == 13) || c == 10
def sH (c : Int) : Bool := c != 10
theorem yj (c : Int) (w : World) : Calls Tryz.prog 63 #[.int .u8 c] w λe w' => e = .returned (.bool (rU c)) /\ w = w' := by
  go_enter Tryz.func63, Tryz.ntmps63
  go_wp2
  all_goals (go_ret; exact⟨aU (by unfold rU; simp_all <;> omega), rfl⟩)
theorem wG (c : Int) (w : World) : Calls Tryz.prog 66 #[.int .u8 c] w λe w' => e = .returned (.bool (mX c)) /\ w = w' := by
  go_enter Tryz.func66, Tryz.ntmps66
  go_wp2
  all_goals (go_ret; exact⟨aU (by unfold mX; simp_all <;> omega), rfl⟩)
theorem AB (c : Int) (w : World) : Calls Tryz.prog 67 #[.int .u8 c] w λe w' => e = .returned (.bool (oH c)) /\ w = w' := by
  go_enter Tryz.func67, Tryz.ntmps67
  go_wp2
  all_goals (go_ret; exact⟨aU (by unfold oH; simp_all), rfl⟩)
theorem Iy (c : Int) (w : World) : Calls Tryz.prog 68 #[.int .u8 c] w λe w' => e = .returned (.bool (sH c)) /\ w = w' := by
  go_enter Tryz.func68, Tryz.ntmps68
  go_wp2
  all_goals (go_ret; exact⟨aU (by unfold sH; simp_all), rfl⟩)
theorem Iz (c : Int) (w : World) : Calls Tryz.prog 65 #[.int .u8 c] w λe w' => e = .returned (.bool (lM c)) /\ w = w' := by
  go_enter Tryz.func65, Tryz.ntmps65
  go_wp2_with (first
    |(go_at_call 63; refine(yj _ _).mono ?_; rintro e w' ⟨rfl, rfl⟩)
    |(go_at_call 66; refine(wG _ _).mono ?_; rintro e w' ⟨rfl, rfl⟩))
  all_goals (go_ret; exact⟨aU (by unfold lM; simp_all), rfl⟩)
def kE (p : Int -> Bool) (l : List UInt8) : Nat := (l.takeWhile λb => p b.toNat).length
theorem AV (p : Int -> Bool) (l : List UInt8) (k : Nat) (hk : k < l.length) (h : ∀ j (hj : j < k), p (l[j].toNat) = true) (hn : p (l[k].toNat) = false) : kE p l = k := by
  induction l generalizing k with
  |nil => simp at hk
  |cons b l ih =>
    cases k with
    |zero => simp at hn; simp[kE, hn]
    |succ k =>
      have h0 := h 0 (by omega)
      simp at h0
      have := ih k (by simpa using hk) (λj hj => by have := h (j + 1) (by omega); simpa using this) (by simpa using hn)
      simp[kE, h0]at this ⊢
      exact this
theorem AJ (p : Int -> Bool) (l : List UInt8) (h : ∀ j (hj : j < l.length), p (l[j].toNat) = true) : kE p l = l.length := by
  induction l with
  |nil => rfl
  |cons b l ih =>
    have h0 := h 0 (by simp)
    simp at h0
    have := ih (λj hj => by have := h (j + 1) (by simpa using hj); simpa using this)
    simp[kE, h0]at this ⊢
    exact this
def Bj (p : Int -> Bool) (s : ByteArray) (k : Nat) : Prop := ∀ j (hj : j < s.size), j < k -> p (s[j].toNat) = true
set_option maxHeartbeats 800000 in
theorem QK (s : ByteArray) (w : World) (hs : s.size <= 1000000000) : Calls Tryz.prog 64 #[.string s, .func (.func 65) #[] #[]] w λe w' => e = .returned (.int .i64 (kE lM s.data.toList)) /\ w = w' := by
  go_enter Tryz.func64, Tryz.ntmps64
  go_wp2_with fail
  go_loop [8] (λt => ∃ k : Nat, k <= s.size /\ t = .int .i64 k /\ Hid (Bj lM s k)) (λt => s.size - (intOf t).toNat)
  case atStart => exact⟨0, Nat.zero_le _, rfl, Lib.hid (λj _ h => by omega)⟩
  case round =>
    obtain⟨k, hk, rfl, hu⟩ := hrel
    by_cases hlt : k < s.size
    · by_cases hc : lM (s[k].toNat) = true
      · go_wp2_with fail
        refine(Iz _ _).mono ?_
        rintro e w' ⟨rfl, rfl⟩
        go_wp2_with fail
        go_round
        case rel => exact⟨k + 1, by omega, by go_num, Lib.hid (λj hj h => by
          rcases Nat.lt_or_ge j k with h1|h1
          · exact hu.out j hj h1
          · obtain rfl : j = k := by omega
            exact hc)⟩
        case measure => simp[intOf]; omega
      · have hc2 : lM (s[k].toNat) = false := by simpa using hc
        have HF := Lib.hid (AV lM s.data.toList k (by simpa using hlt) (λj hj => hu.out j (by omega) hj) hc2)
        go_wp2_with fail
        refine(Iz _ _).mono ?_
        rintro e w' ⟨rfl, rfl⟩
        go_wp2_with fail
        go_ret
        exact⟨cZ (by rw[HF.out]), rfl⟩
    · have hge : s.size <= k := by omega
      have HF := Lib.hid (AJ lM s.data.toList (λj hj => hu.out j (by simpa using hj) (Nat.lt_of_lt_of_le (by simpa using hj) hge)))
      go_wp2_with fail
      go_ret
      exact⟨cZ (by rw[HF.out]; simp), rfl⟩
set_option maxHeartbeats 800000 in
theorem QL (s : ByteArray) (w : World) (hs : s.size <= 1000000000) : Calls Tryz.prog 64 #[.string s, .func (.func 66) #[] #[]] w λe w' => e = .returned (.int .i64 (kE mX s.data.toList)) /\ w = w' := by
  go_enter Tryz.func64, Tryz.ntmps64
  go_wp2_with fail
  go_loop [8] (λt => ∃ k : Nat, k <= s.size /\ t = .int .i64 k /\ Hid (Bj mX s k)) (λt => s.size - (intOf t).toNat)
  case atStart => exact⟨0, Nat.zero_le _, rfl, Lib.hid (λj _ h => by omega)⟩
  case round =>
    obtain⟨k, hk, rfl, hu⟩ := hrel
    by_cases hlt : k < s.size
    · by_cases hc : mX (s[k].toNat) = true
      · go_wp2_with fail
        refine(wG _ _).mono ?_
        rintro e w' ⟨rfl, rfl⟩
        go_wp2_with fail
        go_round
        case rel => exact⟨k + 1, by omega, by go_num, Lib.hid (λj hj h => by
          rcases Nat.lt_or_ge j k with h1|h1
          · exact hu.out j hj h1
          · obtain rfl : j = k := by omega
            exact hc)⟩
        case measure => simp[intOf]; omega
      · have hc2 : mX (s[k].toNat) = false := by simpa using hc
        have HF := Lib.hid (AV mX s.data.toList k (by simpa using hlt) (λj hj => hu.out j (by omega) hj) hc2)
        go_wp2_with fail
        refine(wG _ _).mono ?_
        rintro e w' ⟨rfl, rfl⟩
        go_wp2_with fail
        go_ret
        exact⟨cZ (by rw[HF.out]), rfl⟩
    · have hge : s.size <= k := by omega
      have HF := Lib.hid (AJ mX s.data.toList (λj hj => hu.out j (by simpa using hj) (Nat.lt_of_lt_of_le (by simpa using hj) hge)))
      go_wp2_with fail
      go_ret
      exact⟨cZ (by rw[HF.out]; simp), rfl⟩
set_option maxHeartbeats 800000 in
theorem QM (s : ByteArray) (w : World) (hs : s.size <= 1000000000) : Calls Tryz.prog 64 #[.string s, .func (.func 67) #[] #[]] w λe w' => e = .returned (.int .i64 (kE oH s.data.toList)) /\ w = w' := by
  go_enter Tryz.func64, Tryz.ntmps64
  go_wp2_with fail
  go_loop [8] (λt => ∃ k : Nat, k <= s.size /\ t = .int .i64 k /\ Hid (Bj oH s k)) (λt => s.size - (intOf t).toNat)
  case atStart => exact⟨0, Nat.zero_le _, rfl, Lib.hid (λj _ h => by omega)⟩
  case round =>
    obtain⟨k, hk, rfl, hu⟩ := hrel
    by_cases hlt : k < s.size
    · by_cases hc : oH (s[k].toNat) = true
      · go_wp2_with fail
        refine(AB _ _).mono ?_
        rintro e w' ⟨rfl, rfl⟩
        go_wp2_with fail
        go_round
        case rel => exact⟨k + 1, by omega, by go_num, Lib.hid (λj hj h => by
          rcases Nat.lt_or_ge j k with h1|h1
          · exact hu.out j hj h1
          · obtain rfl : j = k := by omega
            exact hc)⟩
        case measure => simp[intOf]; omega
      · have hc2 : oH (s[k].toNat) = false := by simpa using hc
        have HF := Lib.hid (AV oH s.data.toList k (by simpa using hlt) (λj hj => hu.out j (by omega) hj) hc2)
        go_wp2_with fail
        refine(AB _ _).mono ?_
        rintro e w' ⟨rfl, rfl⟩
        go_wp2_with fail
        go_ret
        exact⟨cZ (by rw[HF.out]), rfl⟩
    · have hge : s.size <= k := by omega
      have HF := Lib.hid (AJ oH s.data.toList (λj hj => hu.out j (by simpa using hj) (Nat.lt_of_lt_of_le (by simpa using hj) hge)))
      go_wp2_with fail
      go_ret
      exact⟨cZ (by rw[HF.out]; simp), rfl⟩
set_option maxHeartbeats 800000 in
theorem Rt (s : ByteArray) (w : World) (hs : s.size <= 1000000000) : Calls Tryz.prog 64 #[.string s, .func (.func 68) #[] #[]] w λe w' => e = .returned (.int .i64 (kE sH s.data.toList)) /\ w = w' := by
  go_enter Tryz.func64, Tryz.ntmps64
  go_wp2_with fail
  go_loop [8] (λt => ∃ k : Nat, k <= s.size /\ t = .int .i64 k /\ Hid (Bj sH s k)) (λt => s.size - (intOf t).toNat)
  case atStart => exact⟨0, Nat.zero_le _, rfl, Lib.hid (λj _ h => by omega)⟩
  case round =>
    obtain⟨k, hk, rfl, hu⟩ := hrel
    by_cases hlt : k < s.size
    · by_cases hc : sH (s[k].toNat) = true
      · go_wp2_with fail
        refine(Iy _ _).mono ?_
        rintro e w' ⟨rfl, rfl⟩
        go_wp2_with fail
        go_round
        case rel => exact⟨k + 1, by omega, by go_num, Lib.hid (λj hj h => by
          rcases Nat.lt_or_ge j k with h1|h1
          · exact hu.out j hj h1
          · obtain rfl : j = k := by omega
            exact hc)⟩
        case measure => simp[intOf]; omega
      · have hc2 : sH (s[k].toNat) = false := by simpa using hc
        have HF := Lib.hid (AV sH s.data.toList k (by simpa using hlt) (λj hj => hu.out j (by omega) hj) hc2)
        go_wp2_with fail
        refine(Iy _ _).mono ?_
        rintro e w' ⟨rfl, rfl⟩
        go_wp2_with fail
        go_ret
        exact⟨cZ (by rw[HF.out]), rfl⟩
    · have hge : s.size <= k := by omega
      have HF := Lib.hid (AJ sH s.data.toList (λj hj => hu.out j (by simpa using hj) (Nat.lt_of_lt_of_le (by simpa using hj) hge)))
      go_wp2_with fail
      go_ret
      exact⟨cZ (by rw[HF.out]; simp), rfl⟩
end
end Go.Proofs.YtbpodipdfohikaaGreat
namespace Go.Proofs
open Go.Shelf
def Tryz.Pz : Go.Shelf.Ren := ⟨fun|137 => 92|217 => 126|266 => 142|n => n, fun|9 => 9|5 => 5|3 => 3|n => n, fun|n => n⟩
theorem Tryz.Sl : Go.Proofs.Lays.n137 Tryz.prog Tryz.Pz := {
  mixed := by kernel_rfl
  f137 := Tryz.func92.trans (congrArg some (by kernel_rfl))
  f217 := Tryz.func126.trans (congrArg some (by kernel_rfl))
  f266 := Tryz.func142.trans (congrArg some (by kernel_rfl))
  t3 := Tryz.underlying3
  a3 := Tryz.isAgg3
  z3 := Tryz.sizeOf3
  v3 := Tryz.zeroValue3
  t5 := Tryz.underlying5
  a5 := Tryz.isAgg5
  z5 := Tryz.sizeOf5
  v5 := Tryz.zeroValue5
  t9 := Tryz.underlying9
  a9 := Tryz.isAgg9
  z9 := Tryz.sizeOf9
  v9 := Tryz.zeroValue9 }
open Go.RowKit in
theorem Tryz.strings_IndexByte (s : ByteArray) (c : Int) (w : World) :
    Calls Tryz.prog 92 #[.string s, .int .u8 c] w λe w' => e = .returned (.int .i64 (Lib.indexByte s.data.toList c.toNat.toUInt8)) /\ w' = w := Any.strings_IndexByte Tryz.Sl s c w
def Tryz.PD : Go.Shelf.Ren := ⟨fun|217 => 126|266 => 142|n => n, fun|9 => 9|5 => 5|3 => 3|n => n, fun|n => n⟩
theorem Tryz.Sm : Go.Proofs.Lays.n217 Tryz.prog Tryz.PD := {
  mixed := by kernel_rfl
  f217 := Tryz.func126.trans (congrArg some (by kernel_rfl))
  f266 := Tryz.func142.trans (congrArg some (by kernel_rfl))
  t3 := Tryz.underlying3
  a3 := Tryz.isAgg3
  z3 := Tryz.sizeOf3
  v3 := Tryz.zeroValue3
  t5 := Tryz.underlying5
  a5 := Tryz.isAgg5
  z5 := Tryz.sizeOf5
  v5 := Tryz.zeroValue5
  t9 := Tryz.underlying9
  a9 := Tryz.isAgg9
  z9 := Tryz.sizeOf9
  v9 := Tryz.zeroValue9 }
open Go.RowKit Go.Lib in
theorem Tryz.stringslite_IndexByte (s : ByteArray) (c : Int) (w : World) :
    Calls Tryz.prog 126 #[.string s, .int .u8 c] w λe w' => e = .returned (.int .i64 (Lib.indexByte s.data.toList c.toNat.toUInt8)) /\ w' = w := Any.stringslite_IndexByte Tryz.Sm s c w
def Tryz.PE : Go.Shelf.Ren := ⟨fun|206 => 125|n => n, fun|9 => 9|4 => 4|3 => 3|n => n, fun|n => n⟩
theorem Tryz.Sn : Go.Proofs.Lays.n206 Tryz.prog Tryz.PE := {
  mixed := by kernel_rfl
  f206 := Tryz.func125.trans (congrArg some (by kernel_rfl))
  t3 := Tryz.underlying3
  a3 := Tryz.isAgg3
  z3 := Tryz.sizeOf3
  v3 := Tryz.zeroValue3
  t4 := Tryz.underlying4
  a4 := Tryz.isAgg4
  z4 := Tryz.sizeOf4
  v4 := Tryz.zeroValue4
  t9 := Tryz.underlying9
  a9 := Tryz.isAgg9
  z9 := Tryz.sizeOf9
  v9 := Tryz.zeroValue9 }
open Go.RowKit Go.Lib in
theorem Tryz.stringslite_HasPrefix (s p : ByteArray) (w : World) :
    Calls Tryz.prog 125 #[.string s, .string p] w λe w' => e = .returned (.bool (Lib.hasPrefix s.data.toList p.data.toList)) /\ w' = w := Any.stringslite_HasPrefix Tryz.Sn s p w
def Tryz.P9 : Go.Shelf.Ren := ⟨fun|99 => 91|206 => 125|n => n, fun|9 => 9|4 => 4|3 => 3|n => n, fun|n => n⟩
theorem Tryz.SX : Go.Proofs.Lays.n99 Tryz.prog Tryz.P9 := {
  mixed := by kernel_rfl
  f99 := Tryz.func91.trans (congrArg some (by kernel_rfl))
  f206 := Tryz.func125.trans (congrArg some (by kernel_rfl))
  t3 := Tryz.underlying3
  a3 := Tryz.isAgg3
  z3 := Tryz.sizeOf3
  v3 := Tryz.zeroValue3
  t4 := Tryz.underlying4
  a4 := Tryz.isAgg4
  z4 := Tryz.sizeOf4
  v4 := Tryz.zeroValue4
  t9 := Tryz.underlying9
  a9 := Tryz.isAgg9
  z9 := Tryz.sizeOf9
  v9 := Tryz.zeroValue9 }
open Go.RowKit Go.Lib in
theorem Tryz.strings_HasPrefix (s p : ByteArray) (w : World) :
    Calls Tryz.prog 91 #[.string s, .string p] w λe w' => e = .returned (.bool (Lib.hasPrefix s.data.toList p.data.toList)) /\ w' = w := Any.strings_HasPrefix Tryz.SX s p w
def Tryz.PG : Go.Shelf.Ren := ⟨fun|112 => 24|n => n, fun|28 => 22|3 => 3|4 => 4|0 => 0|n => n, fun|n => n⟩
theorem Tryz.Be : Go.Proofs.Lays.n112 Tryz.prog Tryz.PG := {
  mixed := by kernel_rfl
  f112 := Tryz.func24.trans (congrArg some (by kernel_rfl))
  t0 := Tryz.underlying0
  a0 := Tryz.isAgg0
  z0 := Tryz.sizeOf0
  v0 := Tryz.zeroValue0
  t3 := Tryz.underlying3
  a3 := Tryz.isAgg3
  z3 := Tryz.sizeOf3
  v3 := Tryz.zeroValue3
  t4 := Tryz.underlying4
  a4 := Tryz.isAgg4
  z4 := Tryz.sizeOf4
  v4 := Tryz.zeroValue4
  t28 := Tryz.underlying22
  a28 := Tryz.isAgg22
  z28 := Tryz.sizeOf22
  v28 := Tryz.zeroValue22 }
open Go.RowKit Go.Lib Go.Sort in
theorem Tryz.slices_Reverse_int_arr (blk off cap : Nat) (d : Array Int) (w : World) (hH : Holds encI w blk off d) (hsz : d.size <= 9223372036854775807) :
    Calls Tryz.prog 24 #[.slice (some ⟨blk, off, none⟩) d.size cap] w λe w' => e = .returned (.tuple #[]) /\ ∃ n, w' = putRow encI (Sort.ahead w n) blk off d.reverse := Any.slices_Reverse_int_arr Tryz.Be blk off cap d w hH hsz
open Go.RowKit Go.Lib Go.Sort in
theorem Tryz.slices_Reverse_int (blk off cap : Nat) (zs : List Int) (w : World) (hH : Holds (Value.int .i64) w blk off zs.toArray) (hsz : zs.length <= 9223372036854775807) :
    Calls Tryz.prog 24 #[.slice (some ⟨blk, off, none⟩) zs.length cap] w λe w' => e = .returned (.tuple #[]) /\ ∃ n, w' = putRow (Value.int .i64) (Sort.ahead w n) blk off zs.reverse.toArray := Any.slices_Reverse_int Tryz.Be blk off cap zs w hH hsz
open Go.RowKit Go.Lib Go.Sort in
theorem Tryz.slices_Reverse_int_empty (a : Option Addr) (cap : Nat) (w : World) :
    Calls Tryz.prog 24 #[.slice a 0 cap] w λe w' => e = .returned (.tuple #[]) /\ w' = w := Any.slices_Reverse_int_empty Tryz.Be a cap w
def Tryz.Pd : Go.Shelf.Ren := ⟨fun|15 => 22|n => n, fun|22 => 22|3 => 3|4 => 4|n => n, fun|n => n⟩
theorem Tryz.Dn : Go.Proofs.Lays2.n15 Tryz.prog Tryz.Pd := {
  mixed := by kernel_rfl
  f15 := Tryz.func22.trans (congrArg some (by kernel_rfl))
  t3 := Tryz.underlying3
  a3 := Tryz.isAgg3
  z3 := Tryz.sizeOf3
  v3 := Tryz.zeroValue3
  t4 := Tryz.underlying4
  a4 := Tryz.isAgg4
  z4 := Tryz.sizeOf4
  v4 := Tryz.zeroValue4
  t22 := Tryz.underlying22
  a22 := Tryz.isAgg22
  z22 := Tryz.sizeOf22
  v22 := Tryz.zeroValue22
  i3 := by kernel_rfl }
open Go.RowKit Go.Lib in
theorem Tryz.slices_Clone_int (b off n c : Nat) (zs : List Int) (w : World) (hz : n <= zs.length) (hbig : n * 8 <= 140737488355328) (hc : ∀ j, j < zs.length -> w.cell? ⟨b, off + j, none⟩ = some (.int .i64 (zs.getD j 0))) :
    Calls Tryz.prog 22 #[.slice (some ⟨b, off, none⟩) n c] w λe w' => ∃ v', e = .returned v' /\ w'.ownsRow w.heap.size 3 1 v' n ((zs.take n).map (Value.int .i64)) /\ v' ≠ .slice none 0 0 /\ Below w.heap.size w w' := Any.slices_Clone_int Tryz.Dn b off n c zs w hz hbig hc
open Go.RowKit Go.Lib in
theorem Tryz.slices_Clone_int_nil (n c : Nat) (w : World) :
    Calls Tryz.prog 22 #[.slice none n c] w λe w' => e = .returned (.slice none 0 0) /\ w' = w := Any.slices_Clone_int_nil Tryz.Dn n c w
open Go.RowKit Go.Lib in
theorem Tryz.slices_Clone_int_zero (a : Addr) (c : Nat) (w : World) :
    Calls Tryz.prog 22 #[.slice (some a) 0 c] w λe w' => ∃ v', e = .returned v' /\ w'.ownsRow w.heap.size 3 1 v' 0 [] /\ v' ≠ .slice none 0 0 /\ Below w.heap.size w w' := Any.slices_Clone_int_zero Tryz.Dn a c w
def Tryz.Pe : Go.Shelf.Ren := ⟨fun|23 => 171|n => n, fun|22 => 22|3 => 3|4 => 4|0 => 0|n => n, fun|n => n⟩
theorem Tryz.AL : Go.Proofs.Lays2.n23 Tryz.prog Tryz.Pe := {
  mixed := by kernel_rfl
  f23 := Tryz.func171.trans (congrArg some (by kernel_rfl))
  t0 := Tryz.underlying0
  a0 := Tryz.isAgg0
  z0 := Tryz.sizeOf0
  v0 := Tryz.zeroValue0
  t3 := Tryz.underlying3
  a3 := Tryz.isAgg3
  z3 := Tryz.sizeOf3
  v3 := Tryz.zeroValue3
  t4 := Tryz.underlying4
  a4 := Tryz.isAgg4
  z4 := Tryz.sizeOf4
  v4 := Tryz.zeroValue4
  t22 := Tryz.underlying22
  a22 := Tryz.isAgg22
  z22 := Tryz.sizeOf22
  v22 := Tryz.zeroValue22
  i3 := by kernel_rfl }
open Go.RowKit Go.Lib Go.Sort in
theorem Tryz.slices_Delete_int_arr (blk off cap i j : Nat) (d : Array Int) (w : World) (hH : Holds encI w blk off d) (hcap : d.size <= cap) (hm : cap <= 9223372036854775807) (hij : i <= j) (hj : j <= d.size) :
    Calls Tryz.prog 171 #[.slice (some ⟨blk, off, none⟩) d.size cap, .int .i64 i, .int .i64 j] w λe w' => e = .returned (.slice (some ⟨blk, off, none⟩) (d.size - (j - i)) cap) /\ ∃ q, w' = putRow encI (Sort.ahead w q) blk off (d.toList.take i ++ d.toList.drop j ++ List.replicate (j - i) 0).toArray := Any.slices_Delete_int_arr Tryz.AL blk off cap i j d w hH hcap hm hij hj
open Go.RowKit Go.Lib Go.Sort in
theorem Tryz.slices_Delete_int (blk off cap i j : Nat) (zs : List Int) (w : World) (hH : Holds (Value.int .i64) w blk off zs.toArray) (hcap : zs.length <= cap) (hm : cap <= 9223372036854775807) (hij : i <= j) (hj : j <= zs.length) :
    Calls Tryz.prog 171 #[.slice (some ⟨blk, off, none⟩) zs.length cap, .int .i64 i, .int .i64 j] w λe w' => e = .returned (.slice (some ⟨blk, off, none⟩) (zs.length - (j - i)) cap) /\ ∃ q, w' = putRow (Value.int .i64) (Sort.ahead w q) blk off (zs.take i ++ zs.drop j ++ List.replicate (j - i) 0).toArray := Any.slices_Delete_int Tryz.AL blk off cap i j zs w hH hcap hm hij hj
open Go.RowKit Go.Lib Go.Sort in
theorem Tryz.slices_Reverse_int_cells (b off n c : Nat) (zs : List Int) (w : World) (hz : n <= zs.length) (hbig : n <= 9223372036854775807) (hc : ∀ j, j < zs.length -> w.cell? ⟨b, off + j, none⟩ = some (.int .i64 (zs.getD j 0))) (hf : ∀ j, j < n -> w.frozen? ⟨b, off + j, none⟩ = false) :
    Calls Tryz.prog 24 #[.slice (some ⟨b, off, none⟩) n c] w λe w' => e = .returned (.tuple #[]) /\ ∃ q, w' = (w.drewN q).setCells b off ((zs.take n).reverse.map (Value.int .i64)) := Any.slices_Reverse_int_cells Tryz.Be b off n c zs w hz hbig hc hf
open Go.RowKit Go.Lib Go.Sort in
theorem Tryz.slices_Delete_int_cells (b off n c i j : Nat) (zs : List Int) (w : World) (hz : n <= zs.length) (hcap : n <= c) (hm : c <= 9223372036854775807) (hij : i <= j) (hj : j <= n) (hc : ∀ j, j < zs.length -> w.cell? ⟨b, off + j, none⟩ = some (.int .i64 (zs.getD j 0))) (hf : ∀ j, j < n -> w.frozen? ⟨b, off + j, none⟩ = false) :
    Calls Tryz.prog 171 #[.slice (some ⟨b, off, none⟩) n c, .int .i64 i, .int .i64 j] w λe w' => e = .returned (.slice (some ⟨b, off, none⟩) (n - (j - i)) c) /\ ∃ q, w' = (w.drewN q).setCells b off (((zs.take n).take i ++ (zs.take n).drop j ++ List.replicate (j - i) 0).map (Value.int .i64)) := Any.slices_Delete_int_cells Tryz.AL b off n c i j zs w hz hcap hm hij hj hc hf
open Go.RowKit Go.Lib in
theorem Tryz.slices_Delete_int_empty (a : Option Addr) (c : Nat) (w : World) :
    Calls Tryz.prog 171 #[.slice a 0 c, .int .i64 0, .int .i64 0] w λe w' => e = .returned (.slice a 0 c) /\ w' = w := Any.slices_Delete_int_empty Tryz.AL a c w
end Go.Proofs
namespace Go.Proofs.YtbpodipdfohikaaGreat
end Go.Proofs.YtbpodipdfohikaaGreat
