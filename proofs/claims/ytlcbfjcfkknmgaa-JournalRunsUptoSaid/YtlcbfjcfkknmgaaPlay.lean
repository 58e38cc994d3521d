/- JournalAtomic: play. -/
import Derived.Test.YtlcbfjcfkknmgaaReg
namespace Go.Proofs.Ytlcbfjcfkknmgaa
open Go.RowKit

/-- a slice that reads as a list of ints -/
def IntsAt (w : World) (v : Value) (xs : List Int) : Prop := ∃ a c, v = .slice a xs.length c ∧ ∀ (i : Nat) (x : Int), xs[i]? = some x → ∃ g off, a = some ⟨g, off, none⟩ ∧ w.cell? ⟨g, off + i, none⟩ = some (.int .i64 x)

theorem IntsAt.drewN {w : World} {v : Value} {xs : List Int} (h : IntsAt w v xs) (q : Nat) : IntsAt (w.drewN q) v xs := h

set_option maxHeartbeats 400000 in
theorem ints_true (u v : Value) (xs : List Int) (w : World) (hu : IntsAt w u xs) (hv : IntsAt w v xs) (hl : xs.length ≤ 1000000) :
    Calls Try.prog 16 #[u, v] w fun e w' => e = .returned (.bool true) ∧ ∃ q, w' = w.drewN q := by
  obtain ⟨a, c, rfl, hu⟩ := hu
  obtain ⟨b, d, rfl, hv⟩ := hv
  have HU := Lib.hid hu
  have HV := Lib.hid hv
  clear hu hv
  go_enter Try.func16, Try.ntmps16
  go_wp2_with fail
  go_loopw [5] (fun i wr => ∃ k q : Nat, k ≤ xs.length ∧ i = .int .i64 k ∧ wr = w.drewN q) (fun i _ => xs.length - (intOf i).toNat)
  case atStart => exact ⟨0, 0, Nat.zero_le _, rfl, rfl⟩
  obtain ⟨k, q, hk, rfl, rfl⟩ := hrel
  by_cases hlt : k < xs.length
  · obtain ⟨g, off, rfl, c0⟩ := HU.out k _ (List.getElem?_eq_getElem hlt)
    obtain ⟨g', off', rfl, c1⟩ := HV.out k _ (List.getElem?_eq_getElem hlt)
    generalize xs[k] = x at *
    go_wp2_with fail
    go_quiet (fail)
    go_wp2_with fail
    go_roundw
    case rel => exact ⟨k + 1, _, by omega, by go_num, rfl⟩
    case measure => simp [intOf]; omega
  · go_wp2_with fail
    go_ret
    exact ⟨rfl, q, rfl⟩

theorem i64_and3 (n : Int) : bits .and .i64 n 3 = n % 4 := by
  have h3 : (BitVec.ofInt 64 3).toNat = 2 ^ 2 - 1 := by decide
  have key : (BitVec.ofInt 64 n &&& BitVec.ofInt 64 3).toNat = (n % ((2 ^ 64 : Nat) : Int)).toNat % 2 ^ 2 := by
    rw [BitVec.toNat_and, BitVec.toNat_ofInt, h3, Nat.and_two_pow_sub_one_eq_mod]
  show IntKind.i64.wrap ((BitVec.ofInt 64 n &&& BitVec.ofInt 64 3).toNat : Nat) = n % 4
  rw [key, IntKind.wrap_i64]
  omega

/-- how play ends: it returns true, or a transaction around it fails -/
def PlayEnd (e : Ending) : Prop := e = .returned (.bool true) ∨ ∃ x : Int, x ≠ 0 ∧ e = .panicked [{ v := .iface 63 (.agg #[.int .i64 x]), recovered := false }]

/-- what play leaves: more changes, each recorded -/
def Played (J X L : Nat) (W : World) (ps : List (Nat × Int)) (fs : List Value) (el : List (Nat × Obj)) (c : Nat) (w1 : World) (O1 : Nat → Prop) (w2 : World) : Prop :=
  ∃ ps2 fs2, ps <+: ps2 ∧ fs <+: fs2 ∧ ps2.length ≤ ps.length + c ∧ St J (fun w => Reg J X L W ps2 fs2 w ∧ Ex el w) w1 O1 fs2 false w2

def Plays (J X L : Nat) (W : World) (f : Nat) : Prop :=
  ∀ (v : Value) (ps : List (Nat × Int)) (fs : List Value) (el : List (Nat × Obj)) (w1 : World) (O1 : Nat → Prop), Tree W f v → (∀ p ∈ el, p.1 ≠ L) → ps.length + cnt W f v ≤ 100 →
    St J (fun w => Reg J X L W ps fs w ∧ Ex el w) w1 O1 fs false w1 →
    Calls Try.prog 15 #[.pointer (some ⟨X, 0, none⟩), v] w1 fun e w2 => PlayEnd e ∧ Played J X L W ps fs el (cnt W f v) w1 O1 w2

theorem Played.drop {J X L c d : Nat} {W : World} {ps : List (Nat × Int)} {fs : List Value} {el : List (Nat × Obj)} {p q : Nat × Obj} {w1 w2 : World} {O1 : Nat → Prop} (h : Played J X L W ps fs (p :: q :: el) c w1 O1 w2) (hc : c ≤ d) : Played J X L W ps fs el d w1 O1 w2 := by
  obtain ⟨ps2, fs2, h1, h2, h3, h4⟩ := h
  exact ⟨ps2, fs2, h1, h2, by omega, h4.imp fun w hw => ⟨hw.1, fun x hx => hw.2 x (by simp [hx])⟩⟩

theorem wantE_ne (e : Int) : wantE e ≠ 0 := by unfold wantE; split <;> omega

theorem Tree.form {W : World} {f : Nat} {v : Value} (h : Tree W f v) : ∃ a n cap, v = .slice a n cap := by
  cases f with
  | zero => exact h.elim
  | succ f => obtain ⟨a, cap, hv, _⟩ := h.1.form; exact ⟨a, _, cap, hv⟩

/-- the world has only grown -/
theorem St.later {J : Nat} {U : World → Prop} {w0 w w2 : World} {O0 : Nat → Prop} {fs : List Value} {run : Bool} (h : St J U w0 O0 fs run w) (hm : Mv (fun _ => False) w w2) : St J U w0 O0 fs run w2 := by
  obtain ⟨s, Uo, hq, hf, hd, hm0, hs⟩ := h
  exact ⟨s, Uo, hq.keep hm (fun _ _ h => h), hf.keep hm (fun _ _ h => h), hd, hm0.trans hm (fun _ h => h.elim), hs⟩

/-- .. and one of the new blocks becomes the user's -/
theorem St.laterGive {J g : Nat} {o : Obj} {U : World → Prop} {w0 w w2 : World} {O0 : Nat → Prop} {fs : List Value} {run : Bool} (h : St J U w0 O0 fs run w) (hm : Mv (fun _ => False) w w2) (hg : w2.heap[g]? = some o) (hge : w.heap.size ≤ g) :
    St J (fun w' => U w' ∧ w'.heap[g]? = some o) w0 O0 fs run w2 := by
  obtain ⟨s, Uo, hq, hf, hd, hm0, hs⟩ := h
  have hf' := hf.keep hm (fun _ _ h => h)
  refine ⟨s, fun b => Uo b ∨ b = g, hq.keep hm (fun _ _ h => h), ⟨?_, fun w3 h3 => ⟨hf'.2 w3 fun b hb => h3 b (.inl hb), ?_⟩⟩, ?_, hm0.trans hm (fun _ h => h.elim), ?_⟩
  · rintro b (hb | rfl)
    · exact hf'.1 b hb
    · exact lt_of_block hg
  · rw [h3 _ (.inr rfl)]; exact hg
  · rintro b hj (hb | rfl)
    · exact hd b hj hb
    · have := hq.lt _ hj; omega
  · rintro b (hj | hb | rfl)
    · exact hs b (.inl hj)
    · exact hs b (.inr hb)
    · exact .inr (Nat.le_trans hm0.size hge)

theorem Reg.same {J X L : Nat} {W : World} {ps : List (Nat × Int)} {fs : List Value} {w1 w2 : World} (h : Reg J X L W ps fs w1) (hk : ∀ b : Nat, w2.heap[b]? = w1.heap[b]?) : Reg J X L W ps fs w2 := by
  refine ⟨fun b hb => by rw [hk]; exact h.old b hb, by rw [hk]; exact h.x, by rw [hk]; exact h.l, h.len, fun j f hf => ?_⟩
  obtain ⟨bx, bi, bn, i, n, e1, e2, e3, e4, e5, e6, e⟩ := h.fn j f hf
  exact ⟨bx, bi, bn, i, n, e1, e2, e3, by rw [hk]; exact e4, by rw [hk]; exact e5, by rw [hk]; exact e6, e⟩

/-- ok is set to true, which it was -/
theorem St.okay {J X L N : Nat} {W : World} {ps : List (Nat × Int)} {gs fs : List Value} {el : List (Nat × Obj)} {w0 w : World} {O0 : Nat → Prop} {run : Bool} (h : St J (fun w => Reg J X L W ps gs w ∧ Ex el w) w0 O0 fs run w) (hN : (N, Obj.cells #[.bool true] 4 (0, 0)) ∈ el) :
    St J (fun w => Reg J X L W ps gs w ∧ Ex el w) w0 O0 fs run (w.setCell ⟨N, 0, none⟩ (.bool true)) :=
  h.set N 0 _ (fun _ hc => hc.2 _ hN) (fun w1 w2 hc hk hn => by
    have hall : ∀ b : Nat, w2.heap[b]? = w1.heap[b]? := fun b => by
      by_cases e : b = N
      · subst e; rw [hn]; have := hc.2 _ hN; simp at this; rw [this]; rfl
      · exact hk b e
    exact ⟨hc.1.same hall, fun p hp => by rw [hall]; exact hc.2 p hp⟩)

theorem ent48 (c : Array Value) (w : World) : (callFunc 48 c).run Try.prog w = .ok (.enter 48 c) w := by simp [go_sem]
theorem o_cell2 {w : World} {b : Nat} {x y z : Value} (h : w.heap[b]? = some (.cells #[x, y, z] 55 (0, 0))) : w.cell? ⟨b, 2, none⟩ = some z := by simp [World.cell?, h]

def PlayOk (J X L : Nat) (W : World) (ps : List (Nat × Int)) (fs : List Value) (el : List (Nat × Obj)) (c : Nat) (fs2 : List Value) (U2 : World → Prop) : Prop :=
  ∃ ps2, ps <+: ps2 ∧ fs <+: fs2 ∧ ps2.length ≤ ps.length + c ∧ U2 = fun w => Reg J X L W ps2 fs2 w ∧ Ex el w
def PlayFail (J X L : Nat) (W : World) (ps : List (Nat × Int)) (fs : List Value) (el : List (Nat × Obj)) (c : Nat) (fs2 : List Value) (V : List Value → World → Prop) (x : Int) : Prop :=
  x ≠ 0 ∧ ∃ ps2, ps <+: ps2 ∧ fs <+: fs2 ∧ ps2.length ≤ ps.length + c ∧ fs2.length = ps2.length ∧ V = RegV J X L W ps2 el

set_option maxHeartbeats 800000 in
theorem act_48 (J X L xb ob okb : Nat) (W : World) (f : Nat) (kd n : Value) (kv : Value) (ps : List (Nat × Int)) (fs : List Value) (el : List (Nat × Obj)) (hL : W.heap.size ≤ L) (hXL : X ≠ L) (hplays : Plays J X L W f) (ht : Tree W f kv) (hE : ∀ p ∈ el, p.1 ≠ L)
    (hlen : ps.length + cnt W f kv ≤ 100) (e1 : (xb, Obj.cells #[.pointer (some ⟨X, 0, none⟩)] 25 (0, 0)) ∈ el) (e2 : (ob, Obj.cells #[kd, n, kv] 55 (0, 0)) ∈ el) (e3 : (okb, Obj.cells #[.bool true] 4 (0, 0)) ∈ el) (w1 : World) (O1 : Nat → Prop)
    (h : St J (fun w => Reg J X L W ps fs w ∧ Ex el w) w1 O1 fs false w1) :
    Calls Try.prog 48 #[.pointer (some ⟨xb, 0, none⟩), .pointer (some ⟨ob, 0, none⟩), .pointer (some ⟨okb, 0, none⟩)] w1
      (ActPost J (PlayOk J X L W ps fs el (cnt W f kv)) (PlayFail J X L W ps fs el (cnt W f kv)) (fun _ _ _ => False) w1 O1) := by
  have hx := cell_of_one (h.user.2 _ e1)
  have ho := o_cell2 (h.user.2 _ e2)
  have HP := Lib.hid (hplays kv ps fs el w1 O1 ht hE hlen h)
  obtain ⟨ka, kn, kc, rfl⟩ := ht.form
  have HT := Lib.hid ht
  clear h hplays ht
  go_enter Try.func48, Try.ntmps48
  go_wp2_with fail
  refine HP.out.mono ?_
  rintro e w2 ⟨he, ps2, fs2, hp, hf, hl, hst⟩
  have hk := cell_of_one (hst.user.2 _ e3)
  have fk := free_of_one (hst.user.2 _ e3)
  rcases he with rfl | ⟨x, hx0, rfl⟩
  · have HST := Lib.hid (hst.okay e3)
    clear hst
    go_wp2_with fail
    go_end0
    exact .inl ⟨fs2, _, ⟨ps2, hp, hf, hl, rfl⟩, rfl, HST.out⟩
  · have hfl := hst.user.1.len
    exact ⟨rfl, .inr (.inl ⟨fs2, _, x, ⟨hx0, ps2, hp, hf, hl, hfl, rfl⟩, undoes_57 J X L W ps2 el hL hXL hE, by omega, rfl, hst.imp fun w hw => ⟨by omega, by rw [hfl, List.take_length]; exact hw.1, hw.2⟩⟩)⟩

theorem St.ex1 {J X L : Nat} {W : World} {ps : List (Nat × Int)} {gs fs : List Value} {el : List (Nat × Obj)} {w0 w : World} {O0 : Nat → Prop} {run : Bool} (h : St J (fun w => Reg J X L W ps gs w ∧ Ex el w) w0 O0 fs run w) (o : Obj) :
    St J (fun w' => Reg J X L W ps gs w' ∧ Ex ((w.heap.size, o) :: el) w') w0 O0 fs run (w.alloc o) :=
  (h.give o).imp fun w' hw => ⟨hw.1.1, fun p hp => by rcases List.mem_cons.1 hp with rfl | hp; exact hw.2; exact hw.1.2 p hp⟩

set_option maxRecDepth 100000 in
set_option maxHeartbeats 1600000 in
theorem play_step (J X L : Nat) (W : World) (f : Nat) (hL : W.heap.size ≤ L) (hXL : X ≠ L) (ih : Plays J X L W f) : Plays J X L W (f + 1) := by
  intro v ps fs el w1 O1 ht hE hlen h
  obtain ⟨hin, hkids⟩ := ht
  obtain ⟨a, cap, hv, hlenl⟩ := hin.form
  have hce : cnt W (f + 1) v = cntTo W f (ops W v) (ops W v).length := by unfold cntTo; rw [List.take_length]; rfl
  rw [hce] at hlen ⊢
  generalize hl : ops W v = l at *
  subst hv
  have hLlt := lt_of_block h.user.1.l
  have h0 := (h.ex1 (.cells #[.pointer (some ⟨X, 0, none⟩)] 25)).ex1 (.cells #[.bool true] 4)
  rw [World.size_alloc] at h0
  have H0 := Lib.hid h0
  have HIN := Lib.hid hin
  have HK := Lib.hid hkids
  have IH := Lib.hid ih
  have HE := Lib.hid hE
  clear h h0 hin hkids ih hE hl hce
  go_enter Try.func15, Try.ntmps15
  go_wp2_with fail
  go_loopw [13] (fun i wr => ∃ k : Nat, i = .int .i64 k ∧ k ≤ l.length ∧ Played J X L W ps fs ((w1.heap.size + 1, .cells #[.bool true] 4 (0, 0)) :: (w1.heap.size, .cells #[.pointer (some ⟨X, 0, none⟩)] 25 (0, 0)) :: el) (cntTo W f l k) w1 O1 wr) (fun i _ => l.length - (intOf i).toNat)
  case atStart => exact ⟨0, rfl, Nat.zero_le _, ps, fs, List.prefix_refl _, List.prefix_refl _, Nat.le_add_right _ _, H0.out⟩
  obtain ⟨k, rfl, hk, ps2, fs2, hp1, hf1, hpl, hst⟩ := hrel
  have hu := hst.user
  have xb := cell_of_one (hu.2 (w1.heap.size, .cells #[.pointer (some ⟨X, 0, none⟩)] 25 (0, 0)) (by simp))
  have okb := cell_of_one (hu.2 (w1.heap.size + 1, .cells #[.bool true] 4 (0, 0)) (by simp))
  have hlt1 := lt_of_block (hu.2 (w1.heap.size + 1, .cells #[.bool true] 4 (0, 0)) (by simp))
  have hlt0 : w1.heap.size < wr.heap.size := by omega
  by_cases hlt : k < l.length
  · obtain ⟨b, off, cap', e, hb, c0, c1, c2⟩ := HIN.out.at hu.1.old hlt
    simp only [Value.slice.injEq, true_and] at e
    obtain ⟨rfl, rfl⟩ := e
    have hs := cntTo_succ W f l k hlt
    have hsl := cntTo_le W f l (k + 1)
    have hbl : b < wr.heap.size := World.block_lt_of_cell? wr _ c0
    have htk := HK.out l[k] (List.getElem_mem hlt)
    obtain ⟨ka, kn, kc, hkv⟩ := htk.form
    rw [hkv] at c2
    have HT := Lib.hid htk
    have HKV := Lib.hid hkv
    clear htk hkv
    have HST := Lib.hid hst
    have HE1 := Lib.hid (show ∀ p ∈ ((w1.heap.size + 1, Obj.cells #[.bool true] 4 (0, 0)) :: (w1.heap.size, Obj.cells #[.pointer (some ⟨X, 0, none⟩)] 25 (0, 0)) :: el), p.1 ≠ L from by
      intro p hp
      rcases List.mem_cons.1 hp with rfl | hp
      · show w1.heap.size + 1 ≠ L; omega
      · rcases List.mem_cons.1 hp with rfl | hp
        · show w1.heap.size ≠ L; omega
        · exact HE.out p hp)
    have hrl := hu.1.len
    have HS := Lib.hid hs
    have hcl : cntTo W f l k ≤ cntTo W f l l.length := by
      have := cntTo_le W f l k
      unfold cntTo at this ⊢
      rw [List.take_length]; exact this
    have hcl1 : cntTo W f l (k + 1) ≤ cntTo W f l l.length := by
      have := cntTo_le W f l (k + 1)
      unfold cntTo at this ⊢
      rw [List.take_length]; exact this
    have hfl : fs2.length ≤ 100 := by omega
    clear hst hu hrl hs hsl
    by_cases h1 : l[k].kind = 1
    · rw [h1] at c0
      generalize l[k].n = n at *
      obtain ⟨m, hm, hm4⟩ : ∃ m : Nat, wrap64 ((k : Int) + n) % 4 = m ∧ m < 4 := ⟨(wrap64 ((k : Int) + n) % 4).toNat, by omega, by omega⟩
      have HMM := Lib.hid hm
      clear hm
      go_wp2_with fail
      rw [i64_and3, HMM.out]
      refine (add_47 J X L m n W ps2 fs2 _ w1 _ O1 hL hXL HE1.out hm4 (by omega) (HST.out.alloc _)).mono ?_
      rintro e w2 ⟨rfl, g, hst2⟩
      have HST2 := Lib.hid hst2
      clear hst2
      go_wp2_with fail
      go_roundw
      case rel => exact ⟨k + 1, by go_num, by omega, ps2 ++ [(m, n)], fs2 ++ [g], hp1.trans (List.prefix_append _ _), hf1.trans (List.prefix_append _ _), by rw [List.length_append, HS.out]; simp; omega, HST2.out⟩
      case measure => simp [intOf]; omega
    · have h1b : (l[k].kind == 1) = false := by simpa using h1
      by_cases h4 : l[k].kind = 4
      · rw [h4] at c0
        generalize l[k].n = n at *
        clear h1 h1b
        go_wp2_with fail
        refine (fail_any n _).mono ?_
        rintro e w2 ⟨rfl, rfl⟩
        exact ⟨rfl, .inr ⟨_, wantE_ne n, rfl⟩, Played.drop ⟨ps2, fs2, hp1, hf1, hpl, HST.out.alloc _⟩ hcl⟩
      · have h4b : (l[k].kind == 4) = false := by simpa using h4
        by_cases h5 : l[k].kind = 5
        · rw [h5] at c0
          generalize l[k].n = n at *
          clear h1 h1b h4 h4b
          have hu := HST.out.user.1
          have x0 := x_cell0 hu.x
          have x1 := x_cell1 hu.x
          have hXlt := lt_of_block hu.x
          have hLlt2 := lt_of_block hu.l
          have HLL := Lib.hid hu.l
          obtain ⟨i0, hi, hz0, hz1, hz2⟩ := info_parts Try.info3
          clear hu
          have hem : ((wr.alloc (.cells #[.int .i64 5, .int .i64 n, .slice ka kn kc] 55)).alloc (.cells #[] 3)).ownsRow 0 3 1 (.slice (some ⟨wr.heap.size + 1, 0, none⟩) 0 0) 0 [] := by
            have := World.ownsRow_lit (base := 0) (e := 3) (size := 1) (wr.alloc (.cells #[.int .i64 5, .int .i64 n, .slice ka kn kc] 55)) #[] 0 (Nat.zero_le _) (Nat.zero_le _) rfl
            simpa using this
          go_wp2_with (at_builtin; (refine wpList_append_own2 _ rfl (.tmp 40) (.tmp 44) 30 rfl 0 3 i0 (.int .i64 0) 1 8 Try.underlying30 hi hz0 hz1 hz2 rfl (by decide) _ 0 [] rfl hem ⟨L, 0, none⟩ 4 4 ((adds ps2).map (Value.int .i64)) rfl ?c0 ?c1 ?c2 ?c3 ?c4 ?c5 ?_))
          case c0 => simp [adds_len]
          case c1 =>
            intro j u hj
            have hc := rowA_cell HLL.out (i := j) (List.getElem?_eq_some_iff.1 hj).1
            rw [show (adds ps2).getD j 0 = u by simp [List.getD, hj]] at hc
            exact hc
          case c2 => intro u hu; rfl
          case c3 => unfold maxLen; omega
          intro v' w2 hown hgrow _ hnew
          obtain ⟨g, c', cur, rfl, hgb, hge, htk⟩ : ∃ g c' cur, v' = .slice (some ⟨g, 0, none⟩) 4 c' ∧ w2.heap[g]? = some (.cells cur 3 (0, 0)) ∧ wr.heap.size + 1 ≤ g ∧ cur.toList.take 4 = (adds ps2).map (Value.int .i64) := by
            rcases hown.2 with ⟨_, h0⟩ | ⟨g, cap', cur, hv', _, hg, _, _, _, ht⟩
            · omega
            · refine ⟨g, cap', cur, hv', hg, ?_, by simpa using ht⟩
              rcases hnew g (by rw [hv']; rfl) with h0 | h0
              · simp [Value.ownBlock] at h0; omega
              · omega
          have hmv : Mv (fun _ => False) (wr.alloc (.cells #[.int .i64 5, .int .i64 n, .slice ka kn kc] 55)) w2 :=
            ((Mv.refl _ _).alloc _).grown hgrow (fun k hk => .inr (by simp [Value.ownBlock] at hk; rw [World.size_alloc]; omega))
          have hst2 := ((HST.out.ex1 (.cells #[.int .i64 5, .int .i64 n, .slice ka kn kc] 55)).laterGive hmv hgb (by rw [World.size_alloc]; exact hge)).imp (V := fun w => Reg J X L W ps2 fs2 w ∧ Ex ((g, .cells cur 3 (0, 0)) :: (wr.heap.size, .cells #[.int .i64 5, .int .i64 n, .slice ka kn kc] 55 (0, 0)) :: (w1.heap.size + 1, .cells #[.bool true] 4 (0, 0)) :: (w1.heap.size, .cells #[.pointer (some ⟨X, 0, none⟩)] 25 (0, 0)) :: el) w)
            (fun w hw => ⟨hw.1.1, fun p hp => by rcases List.mem_cons.1 hp with rfl | hp; exact hw.2; exact hw.1.2 p hp⟩)
          have hE2 : ∀ p ∈ ((g, Obj.cells cur 3 (0, 0)) :: (wr.heap.size, Obj.cells #[.int .i64 5, .int .i64 n, .slice ka kn kc] 55 (0, 0)) :: (w1.heap.size + 1, Obj.cells #[.bool true] 4 (0, 0)) :: (w1.heap.size, Obj.cells #[.pointer (some ⟨X, 0, none⟩)] 25 (0, 0)) :: el), p.1 ≠ L := by
            intro p hp
            rcases List.mem_cons.1 hp with rfl | hp
            · show g ≠ L; omega
            · rcases List.mem_cons.1 hp with rfl | hp
              · show wr.heap.size ≠ L; omega
              · exact HE1.out p hp
          have hcnt : ps2.length + cnt W f (.slice ka kn kc) ≤ 100 := by
            have h7 := HS.out
            rw [HKV.out] at h7
            omega
          have HAT := Lib.hid (attempt_st J 48 #[.pointer (some ⟨w1.heap.size, 0, none⟩), .pointer (some ⟨wr.heap.size, 0, none⟩), .pointer (some ⟨w1.heap.size + 1, 0, none⟩)] _ _ _ _ _ _ _ _ hst2 (ent48 _)
            (fun w3 O3 h3 _ => act_48 J X L w1.heap.size wr.heap.size (w1.heap.size + 1) W f (.int .i64 5) (.int .i64 n) (.slice ka kn kc) ps2 fs2 _ hL hXL IH.out (by have := HT.out; rw [HKV.out] at this; exact this) hE2 hcnt (by simp) (by simp) (by simp) w3 O3 h3))
          have HLEN := Lib.hid (len_st _ _ _ _ _ _ _ hst2)
          have hu2 := hst2.user
          have xb2 := cell_of_one (hu2.2 (w1.heap.size, .cells #[.pointer (some ⟨X, 0, none⟩)] 25 (0, 0)) (by simp))
          have x02 := x_cell0 hu2.1.x
          clear hu2 hst2 hgrow hnew hown hem xb okb x0 x1 c0 c1 c2
          go_wp2_with fail
          refine HLEN.out.mono ?_
          rintro e w' ⟨rfl, rfl⟩
          go_wp2_with fail
          refine HAT.out.mono ?_
          rintro e w3 (⟨fs3, U3, ⟨ps3, hp3, hf3, hl3, rfl⟩, rfl, hst3⟩ | ⟨fs3, V, x, ⟨hx0, ps3, hp3, hf3, hl3, hfp, rfl⟩, rfl, hst3⟩ | ⟨_, _, _, _, hP, _⟩)
          · have HST3 := Lib.hid hst3
            clear hst3
            go_wp2_with fail
            go_roundw
            case rel =>
              refine ⟨k + 1, by go_num, by omega, ps3, fs3, hp1.trans hp3, hf1.trans hf3, ?_, HST3.out.imp fun w hw => ⟨hw.1, fun p hp => hw.2 p (by simp [hp])⟩⟩
              rw [HS.out, HKV.out]; omega
            case measure => simp [intOf]; omega
          · have ht3 : fs3.take fs2.length = fs2 := (List.prefix_iff_eq_take.1 hf3).symm
            rw [ht3] at hst3
            have hst4 := hst3.imp (V := fun w => Reg J X L W ps2 fs2 w ∧ Ex ((g, .cells cur 3 (0, 0)) :: (wr.heap.size, .cells #[.int .i64 5, .int .i64 n, .slice ka kn kc] 55 (0, 0)) :: (w1.heap.size + 1, .cells #[.bool true] 4 (0, 0)) :: (w1.heap.size, .cells #[.pointer (some ⟨X, 0, none⟩)] 25 (0, 0)) :: el) w) (fun w hw => by
              have hr := hw.2.1
              have h8 : ps3.take fs2.length = ps2 := by
                have h9 := HST.out.user.1.len
                rw [h9]; exact (List.prefix_iff_eq_take.1 hp3).symm
              rw [h8] at hr
              exact ⟨hr, hw.2.2⟩)
            have hu4 := hst4.user
            have xb4 := cell_of_one (hu4.2 (w1.heap.size, .cells #[.pointer (some ⟨X, 0, none⟩)] 25 (0, 0)) (by simp))
            have x04 := x_cell0 hu4.1.x
            have x14 := x_cell1 hu4.1.x
            have hg4 := hu4.2 (g, .cells cur 3 (0, 0)) (by simp)
            have hin1 : IntsAt w3 (.slice (some ⟨L, 0, none⟩) 4 4) (adds ps2) := ⟨_, 4, by rw [adds_len], fun i y hy => ⟨L, 0, rfl, by
              have hc := rowA_cell hu4.1.l (i := i) (List.getElem?_eq_some_iff.1 hy).1
              rw [show (adds ps2).getD i 0 = y by simp [List.getD, hy]] at hc
              simpa using hc⟩⟩
            have hin2 : IntsAt w3 (.slice (some ⟨g, 0, none⟩) 4 c') (adds ps2) := ⟨_, c', by rw [adds_len], fun i y hy => ⟨g, 0, rfl, by
              have hil := (List.getElem?_eq_some_iff.1 hy).1
              rw [adds_len] at hil
              have h9 : (cur.toList.take 4)[i]? = some (.int .i64 y) := by rw [htk, List.getElem?_map, hy]; rfl
              rw [List.getElem?_take, if_pos hil] at h9
              simp only [World.cell?, hg4, Option.isSome_none, Bool.false_eq_true, if_false, Nat.zero_add]
              simpa using h9⟩⟩
            have HIT := Lib.hid (ints_true _ _ _ w3 hin1 hin2 (by rw [adds_len]; omega))
            have HST4 := Lib.hid hst4
            have hxb : (x != 0) = true := by simpa using hx0
            clear hst3 hst4 hu4 hin1 hin2 hg4 ht3
            go_wp2_with fail
            refine HIT.out.mono ?_
            rintro e w' ⟨rfl, q, rfl⟩
            have HL5 := Lib.hid (len_st _ _ _ _ _ _ _ (HST4.out.drewN q))
            go_wp2_with fail
            refine HL5.out.mono ?_
            rintro e w' ⟨rfl, rfl⟩
            go_wp2_with fail
            go_roundw
            case rel =>
              refine ⟨k + 1, by go_num, by omega, ps2, fs2, hp1, hf1, ?_, (HST4.out.drewN q).imp fun w hw => ⟨hw.1, fun p hp => hw.2 p (by simp [hp])⟩⟩
              rw [HS.out]; omega
            case measure => simp [intOf]; omega
          · exact hP.elim
        · have h5b : (l[k].kind == 5) = false := by simpa using h5
          generalize l[k].n = n at *
          generalize l[k].kind = kd at *
          clear h1 h4 h5
          go_wp2_with fail
          go_roundw
          case rel => exact ⟨k + 1, by go_num, by omega, ps2, fs2, hp1, hf1, by rw [HS.out]; omega, HST.out.alloc _⟩
          case measure => simp [intOf]; omega
  · obtain rfl : k = l.length := by omega
    have HST := Lib.hid hst
    clear hst hu
    go_wp2_with fail
    go_ret
    exact ⟨.inl rfl, Played.drop ⟨ps2, fs2, hp1, hf1, hpl, HST.out⟩ (Nat.le_refl _)⟩

end Go.Proofs.Ytlcbfjcfkknmgaa
