/- The reference's Link in plain words; for well-formed objects it is what Link computes. No program is named. -/
import Derived.Test.YtaabkaiifplhgaaDoorLRef3
import Derived.Test.YtaabkaiifplhgaaDoorLUndP
import Derived.Test.YtaabkaiifplhgaaDoorLOrdF
namespace Go.Proofs.YtaabkaiifplhgaaDoor
set_option linter.unusedSimpArgs false
set_option linter.unusedVariables false
open Go.RowKit

def rbadTo (main : ObjD) (procs : List ObjD) (k : Nat) : Bool := !decide (main.name.size = 0) || (procs.take k).any fun o => decide (o.name.size = 0)
def rdup (procs : List ObjD) (i : Nat) : Bool := match procs[i]? with
  | some o => decide (findI procs o.name < i)
  | none => false
def rdupB (procs : List ObjD) : Bool := (List.range procs.length).any (rdup procs)
def rcodeTo (main : ObjD) (procs : List ObjD) : Nat → List Ins
  | 0 => moveL main procs main 0 ++ [⟨34, 0, 0, 0, 0⟩]
  | k + 1 => match procs[k]? with
    | some o => rcodeTo main procs k ++ [⟨32, startAt main procs k + o.code.length + 1, 0, 0, 0⟩] ++ moveL main procs o (startAt main procs k + 1) ++ [⟨33, startAt main procs k, 0, 0, 0⟩]
    | none => rcodeTo main procs k
def rlinkD (main : ObjD) (procs : List ObjD) : ImgD :=
  if rbadTo main procs procs.length = true then ⟨[], 0, 0, [], 3⟩ else if rdupB procs = true then ⟨[], 0, 0, [], 22⟩ else if 0 < (undTo procs (main :: procs) (procs.length + 1)).length then ⟨[], 0, 0, [], 6⟩ else if tooBig main procs = true then ⟨[], 0, 0, [], 5⟩
  else ⟨rcodeTo main procs procs.length, memOf main procs, stacksOf main procs, symsTo main procs procs.length, 0⟩

theorem rbadTo_succ (main : ObjD) (procs : List ObjD) (k : Nat) (h : k < procs.length) : rbadTo main procs (k + 1) = (rbadTo main procs k || decide (procs[k].name.size = 0)) := by
  unfold rbadTo; rw [List.take_succ_eq_append_getElem h, List.any_append, Bool.or_assoc]; simp
theorem rcodeTo_succ (main : ObjD) (procs : List ObjD) (k : Nat) (h : k < procs.length) : rcodeTo main procs (k + 1) = rcodeTo main procs k ++ [⟨32, startAt main procs k + procs[k].code.length + 1, 0, 0, 0⟩] ++ moveL main procs procs[k] (startAt main procs k + 1) ++ [⟨33, startAt main procs k, 0, 0, 0⟩] := by
  simp only [rcodeTo, List.getElem?_eq_getElem h]
theorem moveL_len (main : ObjD) (procs : List ObjD) (o : ObjD) (base : Int) : (moveL main procs o base).length = o.code.length := moveTo_len _ _ _ _ _ (Nat.le_refl _)
theorem rcodeTo_len (main : ObjD) (procs : List ObjD) : ∀ k, k ≤ procs.length → (rcodeTo main procs k).length = startAt main procs k := by
  intro k
  induction k with
  | zero => intro _; simp [rcodeTo, moveL_len, startAt]
  | succ k ih =>
    intro hk
    rw [rcodeTo_succ main procs k (by omega), startAt_succ main procs k (by omega)]
    simp only [List.length_append, List.length_cons, List.length_nil, moveL_len, ih (by omega)]
    omega
theorem emp_eq (s : ByteArray) : s.toList.isEmpty = decide (s.size = 0) := by
  by_cases h : s.size = 0
  · rw [empty_bytes h]; simp [h]
  · have : s.toList.isEmpty = false := by
      rw [ByteArray.toList_eq]
      cases hd : s.data.toList with
      | nil =>
        exfalso; apply h
        have : s.data.size = 0 := by rw [← Array.length_toList, hd]; rfl
        simpa using this
      | cons a l => rfl
    rw [this]; simp [h]

/-- the first with a name -/
theorem findFrom_eq (procs : List ObjD) (s : ByteArray) (i : Nat) (hi : i < procs.length) (he : procs[i].name = s) (hn : ∀ j (hj : j < i), procs[j].name ≠ s) : ∀ (f c : Nat), c + f = procs.length → c ≤ i → findFrom procs s f c = i := by
  intro f
  induction f with
  | zero => intro c h hc; omega
  | succ f ih =>
    intro c h hc
    simp only [findFrom, List.getElem?_eq_getElem (show c < procs.length by omega)]
    by_cases hci : c = i
    · subst hci
      rw [if_pos (by simp [he])]
    · rw [if_neg (by simpa using hn c (by omega))]
      exact ih (c + 1) (by omega) (by omega)
theorem findI_eq (procs : List ObjD) (s : ByteArray) (i : Nat) (hi : i < procs.length) (he : procs[i].name = s) (hn : ∀ j (hj : j < i), procs[j].name ≠ s) : findI procs s = i := findFrom_eq procs s i hi he hn procs.length 0 (by omega) (Nat.zero_le _)
theorem findFrom_top (procs : List ObjD) (s : ByteArray) (i : Nat) (hi : i < procs.length) (he : procs[i].name = s) : ∀ (f c : Nat), c + f = procs.length → c ≤ i → findFrom procs s f c ≤ i := by
  intro f
  induction f with
  | zero => intro c h hc; omega
  | succ f ih =>
    intro c h hc
    simp only [findFrom, List.getElem?_eq_getElem (show c < procs.length by omega)]
    split
    · omega
    · rename_i hne
      by_cases hci : c = i
      · subst hci; exact absurd (by simp [he]) hne
      · exact ih (c + 1) (by omega) (by omega)
theorem findI_top (procs : List ObjD) (s : ByteArray) (i : Nat) (hi : i < procs.length) (he : procs[i].name = s) : findI procs s ≤ i := findFrom_top procs s i hi he procs.length 0 (by omega) (Nat.zero_le _)
theorem rdup_iff (procs : List ObjD) (i : Nat) (hi : i < procs.length) : rdup procs i = true ↔ ∃ j, ∃ hj : j < i, procs[j].name = procs[i].name := by
  unfold rdup
  rw [List.getElem?_eq_getElem hi]
  simp only [decide_eq_true_eq]
  constructor
  · intro h
    apply Classical.byContradiction
    intro hn
    have := findI_eq procs procs[i].name i hi rfl (fun j hj e => hn ⟨j, hj, e⟩)
    omega
  · rintro ⟨j, hj, e⟩
    have := findI_top procs procs[i].name j (by omega) e
    omega
theorem rdupB_iff (procs : List ObjD) : rdupB procs = false ↔ (procs.map ObjD.name).Nodup := by
  unfold List.Nodup
  rw [List.pairwise_iff_getElem]
  simp only [List.length_map, List.getElem_map]
  constructor
  · intro h i j hi hj hij e
    have := List.any_eq_false.1 h j (List.mem_range.2 hj)
    exact this ((rdup_iff procs j hj).2 ⟨i, hij, e⟩)
  · intro h
    refine List.any_eq_false.2 fun j hj hd => ?_
    have hjl := List.mem_range.1 hj
    obtain ⟨i, hij, e⟩ := (rdup_iff procs j hjl).1 hd
    exact h i j (by omega) hjl hij e
theorem rdupB_eq (procs : List ObjD) : rdupB procs = twiceTo procs procs.length := by
  have h1 := rdupB_iff procs
  have h2 := twice_iff procs
  cases h : rdupB procs with
  | false => rw [h2.2 (h1.1 h)]
  | true =>
    cases h' : twiceTo procs procs.length with
    | true => rfl
    | false => rw [h1.2 (h2.1 h')] at h; cases h
theorem und_len (main : ObjD) (procs : List ObjD) : (undTo procs (main :: procs) (procs.length + 1)).length = (undefL main.refs procs).length := by
  have := congrArg List.length (und_eq main procs)
  rw [List.length_map] at this
  exact this

theorem mfind_mset (k x : ByteArray) (v : Value) : ∀ (l : List (ByteArray × Value)) (i : Nat), (mfind x (mset k v l) i).map (·.2) = if x = k then some v else (mfind x l i).map (·.2)
  | [], i => by
    by_cases h : x = k
    · subst h; simp [mset, mfind]
    · simp [mset, mfind, h]
  | (a, y) :: l, i => by
    have ih := mfind_mset k x v l (i + 1)
    by_cases hk : k = a
    · subst hk
      by_cases h : x = k
      · subst h; simp [mset, mfind]
      · simp [mset, mfind, h]
    · have hk' : (k == a) = false := by simpa using hk
      by_cases hx : x = a
      · subst hx
        have : x ≠ k := fun e => hk e.symm
        simp [mset, mfind, hk', this]
      · have hx' : (x == a) = false := by simpa using hx
        simp only [mset, hk', Bool.false_eq_true, if_false, mfind, hx']
        exact ih
theorem startsTo_get (main : ObjD) (procs : List ObjD) (nd : (procs.map ObjD.name).Nodup) : ∀ k, k ≤ procs.length → ∀ i (hi : i < k) (hl : i < procs.length), mget (startsTo main procs k) procs[i].name = some (.int .i64 (startAt main procs i)) := by
  intro k
  induction k with
  | zero => intro _ i hi; omega
  | succ k ih =>
    intro hk i hi hl
    rw [startsTo_succ main procs k (by omega)]
    unfold mget
    rw [mfind_mset]
    by_cases hik : i = k
    · subst hik; rw [if_pos rfl]
    · rw [if_neg]
      · exact ih (by omega) i (by omega) hl
      · intro e
        have := (List.pairwise_iff_getElem.1 nd) i k (by simpa using hl) (by simp; omega) (by omega)
        simp only [List.getElem_map] at this
        exact this e
theorem startOf_eq {main : ObjD} {procs : List ObjD} (nd : (procs.map ObjD.name).Nodup) (s : ByteArray) (h : ∃ o ∈ procs, o.name = s) : startOf (startsTo main procs procs.length) s = stI main procs s := by
  obtain ⟨o, ho, rfl⟩ := h
  obtain ⟨i, hi, rfl⟩ := List.mem_iff_getElem.1 ho
  unfold startOf stI
  rw [startsTo_get main procs nd procs.length (Nat.le_refl _) i hi hi, findI_eq procs procs[i].name i hi rfl (fun j hj e => by
    have := (List.pairwise_iff_getElem.1 nd) j i (by simp; omega) (by simpa using hi) hj
    simp only [List.getElem_map] at this
    exact this e)]
  simp

theorem moveTo_get (st : ByteArray → Int) (base : Int) (code : List Ins) (refs : List RefD) : ∀ (k i : Nat) (hi : i < k) (hk : k ≤ code.length), (moveTo st base code refs k)[i]? = some (moveAt st i refs (shiftI base (code[i]'(by omega)))) := by
  intro k
  induction k with
  | zero => intro i hi; omega
  | succ k ih =>
    intro i hi hk
    have hl := moveTo_len st base code refs k (by omega)
    rw [moveTo_succ st base code refs k (by omega)]
    by_cases hik : i < k
    · rw [List.getElem?_append_left (by omega)]
      exact ih i hik (by omega)
    · obtain rfl : i = k := by omega
      rw [List.getElem?_append_right (by omega), hl]
      simp
theorem moveAt_op (st : ByteArray → Int) (i : Nat) : ∀ (refs : List RefD) (x : Ins), (moveAt st i refs x).op = x.op
  | [], x => rfl
  | r :: refs, x => by
    have e : moveAt st i (r :: refs) x = moveAt st i refs (if r.at' = (i : Int) then { x with a := st r.name } else x) := rfl
    rw [e, moveAt_op st i refs]
    split <;> rfl

theorem placeTo_move (st : ByteArray → Int) (l code : List Ins) (refs : List RefD) (m : List (ByteArray × Value)) (hat : ∀ r ∈ refs, 0 ≤ r.at' ∧ r.at' < code.length) (hop : ∀ r ∈ refs, ∃ x, code[r.at'.toNat]? = some x ∧ (x.op = 30 ∨ x.op = 31)) (hst : ∀ r ∈ refs, startOf m r.name = st r.name) : ∀ k, k ≤ refs.length → placeTo l code refs m k = l ++ moveTo st l.length code (refs.take k) code.length := by
  intro k
  induction k with
  | zero =>
    intro _
    unfold placeTo
    simp only [List.take_zero, List.foldl_nil]
    congr 1
    apply List.ext_getElem?
    intro i
    by_cases hi : i < code.length
    · rw [moveTo_get st _ code [] code.length i hi (Nat.le_refl _)]
      simp [hi, moveAt]
    · rw [List.getElem?_eq_none (by simp; omega), List.getElem?_eq_none (by rw [moveTo_len _ _ _ _ _ (Nat.le_refl _)]; omega)]
  | succ k ih =>
    intro hk
    have hk' : k < refs.length := by omega
    rw [placeTo_succ l code refs m k hk', ih (by omega)]
    have hr := List.getElem_mem hk'
    have hrs := moveAt_succ st
    obtain ⟨h0, h1⟩ := hat _ hr
    obtain ⟨x, hx, hxo⟩ := hop _ hr
    have hs := hst _ hr
    have hsucc := fun i y => moveAt_succ st i refs y k hk'
    generalize refs[k] = r at *
    have hj : r.at'.toNat < code.length := by omega
    have hx' : code[r.at'.toNat] = x := by rw [List.getElem?_eq_getElem hj] at hx; simpa using hx
    have hT := moveTo_get st l.length code (refs.take k) code.length r.at'.toNat hj (Nat.le_refl _)
    have hTl := moveTo_len st l.length code (refs.take k) code.length (Nat.le_refl _)
    unfold refSet
    rw [List.getElem?_append_right (by omega), show l.length + r.at'.toNat - l.length = r.at'.toNat by omega, hT]
    simp only []
    rw [List.set_append_right _ _ (by omega), show l.length + r.at'.toNat - l.length = r.at'.toNat by omega]
    congr 1
    apply List.ext_getElem?
    intro i
    by_cases hi : i < code.length
    · rw [moveTo_get st _ code _ code.length i hi (Nat.le_refl _), hsucc]
      by_cases hij : i = r.at'.toNat
      · subst hij
        rw [if_pos (by omega), List.getElem?_set_self (by omega)]
        rw [retarget_call (by rw [moveAt_op, shiftI_op, hx']; exact hxo), hs]
      · rw [if_neg (by omega), List.getElem?_set_ne (fun e => hij e.symm)]
        exact moveTo_get st _ code _ code.length i hi (Nat.le_refl _)
    · rw [List.getElem?_eq_none (by simp; omega), List.getElem?_eq_none (by rw [moveTo_len _ _ _ _ _ (Nat.le_refl _)]; omega)]
theorem placeL_move {main : ObjD} {procs : List ObjD} (h : Fit main procs) (l : List Ins) (o : ObjD) (ho : o.chk = 0) (hr : ∀ r ∈ o.refs, Refd main.refs procs r.name) : placeL l o (startsTo main procs procs.length) = l ++ moveL main procs o l.length := by
  unfold placeL
  rw [placeTo_move (stI main procs) l o.code o.refs _ (chk_refs ho) (chk_calls ho) (fun r hrr => startOf_eq h.nd r.name (h.df _ (hr r hrr))) o.refs.length (Nat.le_refl _), List.take_length]
  rfl
theorem rcode_eq {main : ObjD} {procs : List ObjD} (h : Fit main procs) : ∀ k, k ≤ procs.length → codeTo main procs (startsTo main procs procs.length) k = rcodeTo main procs k := by
  intro k
  induction k with
  | zero =>
    intro _
    simp only [codeTo, rcodeTo]
    rw [placeL_move h [] main h.mc (fun r hr => .inl ⟨r, hr, rfl⟩)]
    rfl
  | succ k ih =>
    intro hk
    have hkl : k < procs.length := by omega
    have hcl := codeTo_len main procs (startsTo main procs procs.length) k (by omega)
    rw [codeTo_succ _ _ _ k hkl, rcodeTo_succ _ _ k hkl, placeL_move h _ procs[k] (h.pc _ (List.getElem_mem hkl)) (fun r hr => .inr ⟨_, List.getElem_mem hkl, r, hr, rfl⟩)]
    rw [List.length_append, hcl, ih (by omega)]
    simp
theorem rlink_eq {main : ObjD} {procs : List ObjD} (hm : main.chk = 0) (hp : ∀ o ∈ procs, o.chk = 0) : rlinkD main procs = linkD main procs := by
  have hE : linkErr main procs = if rbadTo main procs procs.length = true then 3 else if rdupB procs = true then 22 else if 0 < (undTo procs (main :: procs) (procs.length + 1)).length then 6 else 0 := by
    unfold linkErr rbadTo
    rw [if_neg (by simp [hm]), if_neg (by simp [firstErr_ok hp]), rdupB_eq, und_len, List.take_length]
    by_cases h1 : main.name.size = 0
    · simp [h1]
    · simp [h1]
  have hF := linkErr_iff main procs
  unfold rlinkD linkD
  rw [hE] at hF ⊢
  by_cases h1 : rbadTo main procs procs.length = true
  · simp [h1]
  · by_cases h2 : rdupB procs = true
    · simp [h1, h2]
    · by_cases h3 : 0 < (undTo procs (main :: procs) (procs.length + 1)).length
      · rw [if_neg h1, if_neg h2, if_pos h3, if_neg h1, if_neg h2, if_pos h3, if_pos (by decide)]
      · rw [if_neg h1, if_neg h2, if_neg h3] at hF ⊢
        rw [if_neg h1, if_neg h2, if_neg h3, if_neg (show ¬ ((0 : Int) ≠ 0) by decide), rcode_eq (hF.1 rfl) procs.length (Nat.le_refl _)]

end Go.Proofs.YtaabkaiifplhgaaDoor
