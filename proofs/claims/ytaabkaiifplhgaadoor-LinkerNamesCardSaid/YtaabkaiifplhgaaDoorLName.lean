/- Package lexer: first, Keyword, Name. -/
import Derived.Test.YtaabkaiifplhgaaDoorLLex
import Derived.Test.YtaabkaiifplhgaaDoorShelf
namespace Go.Proofs.YtaabkaiifplhgaaDoor
set_option linter.unusedSimpArgs false
set_option linter.unusedVariables false
open Go.RowKit Go.Instr

def SomeInt (w : World) (e : Ending) (w' : World) : Prop := ∃ n : Int, e = .returned (.int .i64 n) ∧ w = w'

theorem pre_any (s p : ByteArray) (w : World) : ∃ b : Bool, Calls Tryd.prog 81 #[.string s, .string p] w fun e w' => e = .returned (.bool b) ∧ w = w' :=
  ⟨_, (Tryd.strings_HasPrefix s p w).mono fun _ _ h => ⟨h.1, h.2.symm⟩⟩
theorem idx_any (s : ByteArray) (c : Int) (w : World) : ∃ n : Int, Calls Tryd.prog 82 #[.string s, .int .u8 c] w fun e w' => e = .returned (.int .i64 n) ∧ w = w' :=
  ⟨_, (Tryd.strings_IndexByte s c w).mono fun _ _ h => ⟨h.1, h.2.symm⟩⟩

set_option maxRecDepth 100000 in
set_option maxHeartbeats 1600000 in
theorem sign_any (s : ByteArray) (w : World) (h1 : 1 ≤ s.size) (hs : s.size ≤ 16) : Calls Tryd.prog 71 #[.string s] w (SomeInt w) := by
  obtain ⟨b, hb⟩ := pre_any s ⟨#[60, 61, 62]⟩ w
  have HB := Lib.hid hb
  clear hb
  go_enter Tryd.func71, Tryd.ntmps71
  go_wp2_with (first
    | (go_at_call 81; refine HB.out.mono ?_; rintro e w' ⟨rfl, rfl⟩)
    | (go_at_call 82; refine (idx_any _ _ _).choose_spec.mono ?_; rintro e w' ⟨rfl, rfl⟩))
  all_goals (go_ret; exact ⟨_, rfl, rfl⟩)

/-- the keywords -/
def kwKeys : List ByteArray := [⟨#[105, 110, 116]⟩, ⟨#[97, 114, 114, 97, 121]⟩, ⟨#[115, 116, 97, 99, 107]⟩, ⟨#[112, 114, 111, 99]⟩, ⟨#[109, 97, 105, 110]⟩, ⟨#[112, 117, 115, 104]⟩, ⟨#[112, 111, 112]⟩, ⟨#[114, 101, 97, 100]⟩, ⟨#[117, 110, 114, 101, 97, 100]⟩, ⟨#[119, 114, 105, 116, 101]⟩, ⟨#[117, 110, 119, 114, 105, 116, 101]⟩, ⟨#[99, 97, 108, 108]⟩, ⟨#[117, 110, 99, 97, 108, 108]⟩, ⟨#[105, 102]⟩, ⟨#[101, 108, 115, 101]⟩, ⟨#[102, 105]⟩, ⟨#[102, 114, 111, 109]⟩, ⟨#[108, 111, 111, 112]⟩, ⟨#[117, 110, 116, 105, 108]⟩, ⟨#[108, 111, 99, 97, 108]⟩, ⟨#[100, 101, 108, 111, 99, 97, 108]⟩, ⟨#[116, 111, 112]⟩, ⟨#[115, 105, 122, 101]⟩]
/-- the keywords' map -/
def kwMap : List (ByteArray × Value) := kwKeys.foldl (fun l k => mset k (.bool true) l) []
def kwB (s : ByteArray) : Bool := (mget kwMap s).isSome

theorem mget_true {κ : Type} [BEq κ] [LawfulBEq κ] (k : κ) : ∀ (l : List (κ × Value)) (i : Nat), (∀ p ∈ l, p.2 = .bool true) → ((mfind k l i).map (·.2)).getD (.bool false) = .bool ((mfind k l i).map (·.2)).isSome
  | [], i, _ => rfl
  | (a, x) :: l, i, h => by
    simp only [mfind]
    split
    · have := h (a, x) (by simp); simp only at this; subst this; rfl
    · exact mget_true k l (i + 1) (fun p hp => h p (by simp [hp]))
theorem mset_true {κ : Type} [BEq κ] [LawfulBEq κ] (k : κ) : ∀ (l : List (κ × Value)), (∀ p ∈ l, p.2 = .bool true) → ∀ p ∈ mset k (.bool true) l, p.2 = .bool true
  | [], _, p, hp => by simp [mset] at hp; subst hp; rfl
  | (a, x) :: l, h, p, hp => by
    simp only [mset] at hp
    split at hp
    · rcases List.mem_cons.1 hp with rfl | hp
      · rfl
      · exact h p (by simp [hp])
    · rcases List.mem_cons.1 hp with rfl | hp
      · exact h _ (by simp)
      · exact mset_true k l (fun q hq => h q (by simp [hq])) p hp
theorem fold_true (ks : List ByteArray) : ∀ (l : List (ByteArray × Value)), (∀ p ∈ l, p.2 = .bool true) → ∀ p ∈ ks.foldl (fun l k => mset k (.bool true) l) l, p.2 = .bool true := by
  induction ks with
  | nil => intro l h; exact h
  | cons k ks ih => intro l h; exact ih _ (mset_true k l h)

theorem Tryd.strLaw : KeyLaw Tryd.prog 9 Value.string .string := str_law Tryd.underlying9
theorem Tryd.zeroBool (w : World) : (zeroValue 4).run Tryd.prog w = .ok (.bool false) w := by kernel_rfl

/-- an insertion into a map, at the operation -/
theorem wpList_insert {P : Program} {κ : Type} [BEq κ] [LawfulBEq κ] {enc : κ → Value} {desc : TypeDesc} {K T E : TypeId} {w : World} {ops : Array Oper} {rest : List Oper} {o : Oper} {a : Act} {Q : Exit → Act → World → Prop}
    (L : KeyLaw P K enc desc) (ht : P.underlying T = some (.map K E)) (r : Nat) (l : List (κ × Value)) (k : κ) (v : Value) (h : MapAt enc w r l) (m : Tmp) (kc vc : Value) (hgd : o.guard = none) (ho : o.op = .insert T (.tmp m) (.const kc) (.const vc)) (hm : a.eval (.tmp m) = .map (some r)) (hk : kc = enc k) (hv : vc = v)
    (hnext : ∀ w', MapAt enc w' r (mset k v l) → Mv (fun b => b = r) w w' → wpList P ops Q rest (a.put o.dst undef) w') : wpList P ops Q (o :: rest) a w :=
  wpList_plain hgd fun _ hK => by
    obtain ⟨w', hr, h2, h3⟩ := run_set (P := P) L ht k v h
    subst hk hv
    unfold Oper.wp execOp
    simp only [ho, Act.eval, Sem.run_bind, Sem.run_pure, Result.andThen_ok] at hm ⊢
    simp only [hm, hr, Result.andThen_ok]
    exact hK _ _ (hnext w' h2 h3)

set_option maxRecDepth 100000 in
set_option maxHeartbeats 1600000 in
theorem keyword_any (s : ByteArray) (w : World) (hs : s.size ≤ 1000000000) : Calls Tryd.prog 48 #[.string s] w fun e w' => e = .returned (.bool (decide (2 ≤ s.size) && (decide (s.size ≤ 7) && kwB s))) ∧ Mv (fun _ => False) w w' := by
  by_cases h2 : 2 ≤ s.size
  · by_cases h7 : s.size ≤ 7
    · have hmm := @run_makeMap Tryd.prog
      have H0 : MapAt Value.string (w.alloc (.map #[] 0)) w.heap.size [] := MapAt.new _ w
      have M0 : Mv (fun b => b = w.heap.size) w (w.alloc (.map #[] 0)) := (Mv.refl _ _).alloc _
      go_enter Tryd.func48, Tryd.ntmps48
      go_wp2_with (refine wpList_insert Tryd.strLaw Tryd.underlying82 w.heap.size _ ⟨#[105, 110, 116]⟩ (.bool true) H0 _ _ _ rfl rfl rfl rfl rfl ?_)
      intro w1 H1 N1
      have M1 := M0.trans N1 (fun _ e => .inl e)
      clear H0 M0 N1
      go_wp2_with (refine wpList_insert Tryd.strLaw Tryd.underlying82 w.heap.size _ ⟨#[97, 114, 114, 97, 121]⟩ (.bool true) H1 _ _ _ rfl rfl rfl rfl rfl ?_)
      intro w2 H2 N2
      have M2 := M1.trans N2 (fun _ e => .inl e)
      clear H1 M1 N2
      go_wp2_with (refine wpList_insert Tryd.strLaw Tryd.underlying82 w.heap.size _ ⟨#[115, 116, 97, 99, 107]⟩ (.bool true) H2 _ _ _ rfl rfl rfl rfl rfl ?_)
      intro w3 H3 N3
      have M3 := M2.trans N3 (fun _ e => .inl e)
      clear H2 M2 N3
      go_wp2_with (refine wpList_insert Tryd.strLaw Tryd.underlying82 w.heap.size _ ⟨#[112, 114, 111, 99]⟩ (.bool true) H3 _ _ _ rfl rfl rfl rfl rfl ?_)
      intro w4 H4 N4
      have M4 := M3.trans N4 (fun _ e => .inl e)
      clear H3 M3 N4
      go_wp2_with (refine wpList_insert Tryd.strLaw Tryd.underlying82 w.heap.size _ ⟨#[109, 97, 105, 110]⟩ (.bool true) H4 _ _ _ rfl rfl rfl rfl rfl ?_)
      intro w5 H5 N5
      have M5 := M4.trans N5 (fun _ e => .inl e)
      clear H4 M4 N5
      go_wp2_with (refine wpList_insert Tryd.strLaw Tryd.underlying82 w.heap.size _ ⟨#[112, 117, 115, 104]⟩ (.bool true) H5 _ _ _ rfl rfl rfl rfl rfl ?_)
      intro w6 H6 N6
      have M6 := M5.trans N6 (fun _ e => .inl e)
      clear H5 M5 N6
      go_wp2_with (refine wpList_insert Tryd.strLaw Tryd.underlying82 w.heap.size _ ⟨#[112, 111, 112]⟩ (.bool true) H6 _ _ _ rfl rfl rfl rfl rfl ?_)
      intro w7 H7 N7
      have M7 := M6.trans N7 (fun _ e => .inl e)
      clear H6 M6 N7
      go_wp2_with (refine wpList_insert Tryd.strLaw Tryd.underlying82 w.heap.size _ ⟨#[114, 101, 97, 100]⟩ (.bool true) H7 _ _ _ rfl rfl rfl rfl rfl ?_)
      intro w8 H8 N8
      have M8 := M7.trans N8 (fun _ e => .inl e)
      clear H7 M7 N8
      go_wp2_with (refine wpList_insert Tryd.strLaw Tryd.underlying82 w.heap.size _ ⟨#[117, 110, 114, 101, 97, 100]⟩ (.bool true) H8 _ _ _ rfl rfl rfl rfl rfl ?_)
      intro w9 H9 N9
      have M9 := M8.trans N9 (fun _ e => .inl e)
      clear H8 M8 N9
      go_wp2_with (refine wpList_insert Tryd.strLaw Tryd.underlying82 w.heap.size _ ⟨#[119, 114, 105, 116, 101]⟩ (.bool true) H9 _ _ _ rfl rfl rfl rfl rfl ?_)
      intro w10 H10 N10
      have M10 := M9.trans N10 (fun _ e => .inl e)
      clear H9 M9 N10
      go_wp2_with (refine wpList_insert Tryd.strLaw Tryd.underlying82 w.heap.size _ ⟨#[117, 110, 119, 114, 105, 116, 101]⟩ (.bool true) H10 _ _ _ rfl rfl rfl rfl rfl ?_)
      intro w11 H11 N11
      have M11 := M10.trans N11 (fun _ e => .inl e)
      clear H10 M10 N11
      go_wp2_with (refine wpList_insert Tryd.strLaw Tryd.underlying82 w.heap.size _ ⟨#[99, 97, 108, 108]⟩ (.bool true) H11 _ _ _ rfl rfl rfl rfl rfl ?_)
      intro w12 H12 N12
      have M12 := M11.trans N12 (fun _ e => .inl e)
      clear H11 M11 N12
      go_wp2_with (refine wpList_insert Tryd.strLaw Tryd.underlying82 w.heap.size _ ⟨#[117, 110, 99, 97, 108, 108]⟩ (.bool true) H12 _ _ _ rfl rfl rfl rfl rfl ?_)
      intro w13 H13 N13
      have M13 := M12.trans N13 (fun _ e => .inl e)
      clear H12 M12 N13
      go_wp2_with (refine wpList_insert Tryd.strLaw Tryd.underlying82 w.heap.size _ ⟨#[105, 102]⟩ (.bool true) H13 _ _ _ rfl rfl rfl rfl rfl ?_)
      intro w14 H14 N14
      have M14 := M13.trans N14 (fun _ e => .inl e)
      clear H13 M13 N14
      go_wp2_with (refine wpList_insert Tryd.strLaw Tryd.underlying82 w.heap.size _ ⟨#[101, 108, 115, 101]⟩ (.bool true) H14 _ _ _ rfl rfl rfl rfl rfl ?_)
      intro w15 H15 N15
      have M15 := M14.trans N15 (fun _ e => .inl e)
      clear H14 M14 N15
      go_wp2_with (refine wpList_insert Tryd.strLaw Tryd.underlying82 w.heap.size _ ⟨#[102, 105]⟩ (.bool true) H15 _ _ _ rfl rfl rfl rfl rfl ?_)
      intro w16 H16 N16
      have M16 := M15.trans N16 (fun _ e => .inl e)
      clear H15 M15 N16
      go_wp2_with (refine wpList_insert Tryd.strLaw Tryd.underlying82 w.heap.size _ ⟨#[102, 114, 111, 109]⟩ (.bool true) H16 _ _ _ rfl rfl rfl rfl rfl ?_)
      intro w17 H17 N17
      have M17 := M16.trans N17 (fun _ e => .inl e)
      clear H16 M16 N17
      go_wp2_with (refine wpList_insert Tryd.strLaw Tryd.underlying82 w.heap.size _ ⟨#[108, 111, 111, 112]⟩ (.bool true) H17 _ _ _ rfl rfl rfl rfl rfl ?_)
      intro w18 H18 N18
      have M18 := M17.trans N18 (fun _ e => .inl e)
      clear H17 M17 N18
      go_wp2_with (refine wpList_insert Tryd.strLaw Tryd.underlying82 w.heap.size _ ⟨#[117, 110, 116, 105, 108]⟩ (.bool true) H18 _ _ _ rfl rfl rfl rfl rfl ?_)
      intro w19 H19 N19
      have M19 := M18.trans N19 (fun _ e => .inl e)
      clear H18 M18 N19
      go_wp2_with (refine wpList_insert Tryd.strLaw Tryd.underlying82 w.heap.size _ ⟨#[108, 111, 99, 97, 108]⟩ (.bool true) H19 _ _ _ rfl rfl rfl rfl rfl ?_)
      intro w20 H20 N20
      have M20 := M19.trans N20 (fun _ e => .inl e)
      clear H19 M19 N20
      go_wp2_with (refine wpList_insert Tryd.strLaw Tryd.underlying82 w.heap.size _ ⟨#[100, 101, 108, 111, 99, 97, 108]⟩ (.bool true) H20 _ _ _ rfl rfl rfl rfl rfl ?_)
      intro w21 H21 N21
      have M21 := M20.trans N21 (fun _ e => .inl e)
      clear H20 M20 N21
      go_wp2_with (refine wpList_insert Tryd.strLaw Tryd.underlying82 w.heap.size _ ⟨#[116, 111, 112]⟩ (.bool true) H21 _ _ _ rfl rfl rfl rfl rfl ?_)
      intro w22 H22 N22
      have M22 := M21.trans N22 (fun _ e => .inl e)
      clear H21 M21 N22
      go_wp2_with (refine wpList_insert Tryd.strLaw Tryd.underlying82 w.heap.size _ ⟨#[115, 105, 122, 101]⟩ (.bool true) H22 _ _ _ rfl rfl rfl rfl rfl ?_)
      intro w23 H23 N23
      have M23 := M22.trans N23 (fun _ e => .inl e)
      clear H22 M22 N23
      have hl := run_get Tryd.strLaw Tryd.underlying82 s (.bool false) Tryd.zeroBool H23
      have hg : (mget kwMap s).getD (.bool false) = .bool (kwB s) := mget_true s kwMap 0 (fold_true kwKeys [] (by simp))
      have hl2 : (lookup 82 (.map (some w.heap.size)) (.string s) false).run Tryd.prog w23 = .ok (.bool (kwB s)) w23 := hl.trans (by rw [← hg]; rfl)
      have HM := Lib.hid (M23.mono (O1 := fun _ => False) (fun x e => .inr (by omega)))
      clear hl hg H23 M23
      go_wp2_with fail
      go_ret
      exact ⟨ret_bool (by simp [h2, h7]), HM.out⟩
    · go_enter Tryd.func48, Tryd.ntmps48
      go_wp2_with fail
      go_ret
      exact ⟨ret_bool (by simp [h7]), Mv.refl _ _⟩
  · go_enter Tryd.func48, Tryd.ntmps48
    go_wp2_with fail
    go_ret
    exact ⟨ret_bool (by simp [h2]), Mv.refl _ _⟩

end Go.Proofs.YtaabkaiifplhgaaDoor
