/- Plain facts about the order of procedures: what does not hang on it. No program is named. -/
import Derived.Test.YtaabkaiifplhgaaDoorLFacts
namespace Go.Proofs.YtaabkaiifplhgaaDoor
set_option linter.unusedSimpArgs false
set_option linter.unusedVariables false

theorem refd_perm {mr : List RefD} {p q : List ObjD} (h : ∀ o, o ∈ p ↔ o ∈ q) (x : ByteArray) : Refd mr p x ↔ Refd mr q x := by
  unfold Refd
  constructor
  · rintro (h1 | ⟨o, ho, h1⟩)
    · exact .inl h1
    · exact .inr ⟨o, (h o).1 ho, h1⟩
  · rintro (h1 | ⟨o, ho, h1⟩)
    · exact .inl h1
    · exact .inr ⟨o, (h o).2 ho, h1⟩
theorem Fit.rev {main : ObjD} {procs : List ObjD} (h : Fit main procs) : Fit main procs.reverse := by
  have hm : ∀ o, o ∈ procs.reverse ↔ o ∈ procs := fun o => List.mem_reverse
  refine ⟨h.mc, fun o ho => h.pc o ((hm o).1 ho), h.mn, fun o ho => h.pn o ((hm o).1 ho), ?_, fun x hx => ?_⟩
  · rw [List.map_reverse]; exact List.pairwise_reverse.2 (h.nd.imp fun hne e => hne e.symm)
  · obtain ⟨o, ho, e⟩ := h.df x ((refd_perm hm x).1 hx)
    exact ⟨o, (hm o).2 ho, e⟩
theorem startAt_rev (main : ObjD) (procs : List ObjD) : startAt main procs.reverse procs.reverse.length = startAt main procs procs.length := by
  rw [startAt_all, startAt_all, List.map_reverse, List.sum_reverse]
theorem memOf_rev (main : ObjD) (procs : List ObjD) : memOf main procs.reverse = memOf main procs :=
  Int.le_antisymm (memOf_sub main (fun o ho => List.mem_reverse.1 ho)) (memOf_sub main (fun o ho => List.mem_reverse.2 ho))
theorem stacksOf_rev (main : ObjD) (procs : List ObjD) : stacksOf main procs.reverse = stacksOf main procs :=
  Int.le_antisymm (stacksOf_sub main (fun o ho => List.mem_reverse.1 ho)) (stacksOf_sub main (fun o ho => List.mem_reverse.2 ho))
theorem err_rev {main : ObjD} {procs : List ObjD} (h : (linkD main procs).err = 0) : (linkD main procs.reverse).err = 0 := by
  obtain ⟨h1, h2⟩ := (linkD_zero _ _).1 h
  refine (linkD_zero _ _).2 ⟨h1.rev, ?_⟩
  rw [tooBig_iff] at h2 ⊢
  rw [startAt_rev, memOf_rev, stacksOf_rev]; exact h2
theorem err_rev_iff (main : ObjD) (procs : List ObjD) : (linkD main procs).err = 0 ↔ (linkD main procs.reverse).err = 0 :=
  ⟨err_rev, fun h => by have := err_rev h; rwa [List.reverse_reverse] at this⟩

/-- equal but for the targets of calls -/
def EqUp (x y : Ins) : Prop := x.op = y.op ∧ (x.b = y.b ∧ x.c = y.c ∧ x.d = y.d) ∧ (x.op ≠ 30 → x.op ≠ 31 → x.a = y.a)

theorem placeTo_prefix (l code : List Ins) (refs : List RefD) (m : List (ByteArray × Value)) (k i : Nat) (hi : i < l.length) : (placeTo l code refs m k)[i]? = l[i]? := by
  have key : ∀ (rs : List RefD) (c : List Ins), (rs.foldl (refSet l.length m) c)[i]? = c[i]? := by
    intro rs
    induction rs with
    | nil => intro c; rfl
    | cons r rs ih =>
      intro c
      rw [List.foldl_cons, ih]
      unfold refSet
      split
      · rw [List.getElem?_set_ne (by omega)]
      · rfl
  unfold placeTo
  rw [key, List.getElem?_append_left hi]
theorem placeL_prefix (l : List Ins) (o : ObjD) (m : List (ByteArray × Value)) (i : Nat) (hi : i < l.length) : (placeL l o m)[i]? = l[i]? := placeTo_prefix _ _ _ _ _ _ hi
theorem codeTo_main (main : ObjD) (procs : List ObjD) (m : List (ByteArray × Value)) (i : Nat) (hi : i < main.code.length) : ∀ k, k ≤ procs.length → (codeTo main procs m k)[i]? = (placeL [] main m)[i]? := by
  intro k
  induction k with
  | zero => intro _; simp only [codeTo]; rw [List.getElem?_append_left (by rw [placeL_len]; simpa using hi)]
  | succ k ih =>
    intro hk
    have hl := codeTo_len main procs m k (by omega)
    have hil : i < (codeTo main procs m k).length := by rw [hl]; unfold startAt; omega
    rw [codeTo_succ main procs m k (by omega), List.getElem?_append_left (by rw [placeL_len, List.length_append]; omega), placeL_prefix _ _ _ _ (by rw [List.length_append]; omega), List.getElem?_append_left hil]
    exact ih (by omega)

theorem pchkFrom_calls (code : List Ins) (refs : List RefD) : ∀ (f i next : Nat), i + f = code.length → next ≤ refs.length → (pchkFrom code refs f i next).2 = 0 → ∀ j (hj : j < refs.length), next ≤ j → ∃ x, code[refs[j].at'.toNat]? = some x ∧ (x.op = 30 ∨ x.op = 31) := by
  intro f
  induction f with
  | zero =>
    intro i next hi hn h j hj hnj
    simp only [pchkFrom, pchkEnd] at h
    split at h
    · simp at h
    · omega
  | succ f ih =>
    intro i next hi hn h j hj hnj
    have hil : i < code.length := by omega
    simp only [pchkFrom, List.getElem?_eq_getElem hil] at h
    split at h
    · simp at h
    · split at h
      · simp at h
      · split at h
        · split at h
          · simp at h
          · exact ih (i + 1) next (by omega) hn h j hj hnj
        · rename_i hop
          split at h
          · simp at h
          · rename_i h1
            have hnl : next < refs.length := by
              rcases Nat.lt_or_ge next refs.length with h2 | h2
              · exact h2
              · exact absurd (.inr (.inl (by omega))) h1
            rcases Nat.lt_or_ge next j with h2 | h2
            · exact ih (i + 1) (next + 1) (by omega) (by omega) h j hj h2
            · obtain rfl : j = next := by omega
              have h3 : (refs[j]?.map RefD.at') = some (i : Int) := Classical.byContradiction fun h3 => h1 (.inr (.inr h3))
              rw [List.getElem?_eq_getElem hj] at h3
              simp at h3
              refine ⟨code[i], by rw [h3]; simp [hil], ?_⟩
              apply Classical.byContradiction
              intro hn
              exact hop ⟨fun e => hn (.inl e), fun e => hn (.inr e)⟩
/-- a checked object's references lie at calls -/
theorem chk_calls {o : ObjD} (h : o.chk = 0) : ∀ r ∈ o.refs, ∃ x, o.code[r.at'.toNat]? = some x ∧ (x.op = 30 ∨ x.op = 31) := by
  intro r hr
  unfold ObjD.chk at h
  split at h
  · simp at h
  · split at h
    · simp at h
    · split at h
      · simp at h
      · obtain ⟨j, hj, rfl⟩ := List.mem_iff_getElem.1 hr
        exact pchkFrom_calls o.code o.refs o.code.length 0 0 (by omega) (Nat.zero_le _) h j hj (Nat.zero_le _)

theorem retarget_op (x : Ins) (t : Int) : (x.retarget t).op = x.op := by
  unfold Ins.retarget; split
  · rfl
  · split <;> rfl
theorem retarget_call {x : Ins} (h : x.op = 30 ∨ x.op = 31) (t : Int) : x.retarget t = { x with a := t } := by
  unfold Ins.retarget
  rw [if_pos (by unfold tgA; rcases h with h | h <;> simp [h])]
theorem shiftI_op (b : Int) (x : Ins) : (shiftI b x).op = x.op := by
  unfold shiftI; split
  · exact retarget_op _ _
  · rfl
theorem EqUp.refl (x : Ins) : EqUp x x := ⟨rfl, ⟨rfl, rfl, rfl⟩, fun _ _ => rfl⟩

/-- the main block's code does not hang on the starts but for the targets of calls -/
theorem placeL_main {main : ObjD} (h : main.chk = 0) (m m' : List (ByteArray × Value)) (i : Nat) (x y : Ins) (hx : (placeL [] main m)[i]? = some x) (hy : (placeL [] main m')[i]? = some y) : EqUp x y := by
  have key : ∀ (rs : List RefD) (c c' : List Ins), (∀ r ∈ rs, ∃ x, main.code[r.at'.toNat]? = some x ∧ (x.op = 30 ∨ x.op = 31)) →
      (∀ j : Nat, (c[j]?).map Ins.op = (main.code[j]?).map Ins.op) → (∀ (j : Nat) u v, c[j]? = some u → c'[j]? = some v → EqUp u v) → c.length = c'.length →
      ∀ u v, (rs.foldl (refSet ([] : List Ins).length m) c)[i]? = some u → (rs.foldl (refSet ([] : List Ins).length m') c')[i]? = some v → EqUp u v := by
    intro rs
    induction rs with
    | nil => intro c c' _ _ h2 _ u v hu hv; exact h2 i u v hu hv
    | cons r rs ih =>
      intro c c' hr hop heq hlen u v hu hv
      rw [List.foldl_cons] at hu hv
      obtain ⟨z, hz, hzop⟩ := hr r (by simp)
      have hlt : r.at'.toNat < c.length := by
        have := hop r.at'.toNat
        rw [hz] at this
        cases hc : c[r.at'.toNat]? with
        | none => rw [hc] at this; simp at this
        | some q => exact (List.getElem?_eq_some_iff.1 hc).1
      have hlt' : r.at'.toNat < c'.length := by omega
      have hcop : c[r.at'.toNat].op = z.op := by
        have := hop r.at'.toNat
        rw [hz, List.getElem?_eq_getElem hlt] at this
        simpa using this
      have he0 := heq r.at'.toNat _ _ (List.getElem?_eq_getElem hlt) (List.getElem?_eq_getElem hlt')
      have hcall : c[r.at'.toNat].op = 30 ∨ c[r.at'.toNat].op = 31 := by rw [hcop]; exact hzop
      have hcall' : c'[r.at'.toNat].op = 30 ∨ c'[r.at'.toNat].op = 31 := by rw [← he0.1]; exact hcall
      have e1 : refSet ([] : List Ins).length m c r = c.set r.at'.toNat { c[r.at'.toNat] with a := startOf m r.name } := by
        unfold refSet
        simp only [List.length_nil, Nat.zero_add, List.getElem?_eq_getElem hlt]
        rw [retarget_call hcall]
      have e2 : refSet ([] : List Ins).length m' c' r = c'.set r.at'.toNat { c'[r.at'.toNat] with a := startOf m' r.name } := by
        unfold refSet
        simp only [List.length_nil, Nat.zero_add, List.getElem?_eq_getElem hlt']
        rw [retarget_call hcall']
      rw [e1] at hu
      rw [e2] at hv
      refine ih _ _ (fun r' hr' => hr r' (by simp [hr'])) (fun j => ?_) (fun j p q hp hq => ?_) (by simpa using hlen) u v hu hv
      · rw [List.getElem?_set]
        split
        · rename_i hj
          subst hj
          simp only [hlt, if_true]
          rw [hz]
          simp [hcop]
        · exact hop j
      · rw [List.getElem?_set] at hp hq
        split at hp
        · rename_i hj
          subst hj
          simp only [hlt, hlt', if_true, Option.some.injEq] at hp hq
          subst hp hq
          refine ⟨he0.1, he0.2.1, fun h1 h2 => ?_⟩
          rcases hcall with hc | hc
          · exact absurd hc h1
          · exact absurd hc h2
        · rename_i hj
          rw [if_neg hj] at hq
          exact heq j p q hp hq
  unfold placeL placeTo at hx hy
  rw [List.take_length] at hx hy
  refine key main.refs _ _ (chk_calls h) (fun j => ?_) (fun j u v hu hv => ?_) rfl x y hx hy
  · simp only [List.nil_append, List.getElem?_map]
    cases main.code[j]? with
    | none => rfl
    | some q => simp [shiftI_op]
  · rw [hu] at hv
    simp at hv
    subst hv
    exact EqUp.refl u

theorem symsTo_names (main : ObjD) (procs : List ObjD) : ∀ k, k ≤ procs.length → (symsTo main procs k).map SymD.name = (procs.take k).map ObjD.name := by
  intro k
  induction k with
  | zero => intro _; simp [symsTo]
  | succ k ih =>
    intro hk
    rw [symsTo_succ main procs k (by omega), List.map_append, ih (by omega), List.take_succ_eq_append_getElem (by omega), List.map_append]
    rfl

/-- LinkerOrder, in plain words -/
theorem order_plain {main : ObjD} {procs : List ObjD} (h : (linkD main procs).err = 0) :
    (((linkD main procs).mem = (linkD main procs.reverse).mem ∧ (linkD main procs).stacks = (linkD main procs.reverse).stacks) ∧ (linkD main procs).code.length = (linkD main procs.reverse).code.length ∧ main.code.length ≤ (linkD main procs).code.length) ∧
    ((linkD main procs).syms.length = procs.length ∧ (linkD main procs.reverse).syms.length = procs.length) ∧
    (∀ i, i < procs.length → ∀ x y, (linkD main procs).syms[i]? = some x → (linkD main procs.reverse).syms[procs.length - 1 - i]? = some y → x.name = y.name) ∧
    (∀ i, i < main.code.length → ∀ x y, (linkD main procs).code[i]? = some x → (linkD main procs.reverse).code[i]? = some y → EqUp x y) := by
  have h' := err_rev h
  have hf := ((linkD_zero _ _).1 h).1
  rw [linkD_ok h, linkD_ok h']
  refine ⟨⟨⟨(memOf_rev main procs).symm, (stacksOf_rev main procs).symm⟩, ?_, ?_⟩, ⟨symsTo_len _ _ _ (Nat.le_refl _), ?_⟩, fun i hi x y hx hy => ?_, fun i hi x y hx hy => ?_⟩
  · simp only
    rw [codeTo_len _ _ _ _ (Nat.le_refl _), codeTo_len _ _ _ _ (Nat.le_refl _), startAt_rev]
  · simp only
    rw [codeTo_len _ _ _ _ (Nat.le_refl _)]; unfold startAt; omega
  · simp only
    rw [symsTo_len _ _ _ (Nat.le_refl _), List.length_reverse]
  · simp only at hx hy
    have h1 := congrArg (fun l => l[i]?) (symsTo_names main procs procs.length (Nat.le_refl _))
    have h2 := congrArg (fun l => l[procs.length - 1 - i]?) (symsTo_names main procs.reverse procs.reverse.length (Nat.le_refl _))
    simp only [List.take_length, List.getElem?_map] at h1 h2
    rw [hx] at h1
    rw [hy] at h2
    rw [List.getElem?_reverse (by omega), show procs.length - 1 - (procs.length - 1 - i) = i by omega] at h2
    rw [← h2] at h1
    simpa using h1
  · simp only at hx hy
    rw [codeTo_main main procs _ i hi _ (Nat.le_refl _)] at hx
    rw [codeTo_main main procs.reverse _ i hi _ (Nat.le_refl _)] at hy
    exact placeL_main hf.mc _ _ i x y hx hy

end Go.Proofs.YtaabkaiifplhgaaDoor
