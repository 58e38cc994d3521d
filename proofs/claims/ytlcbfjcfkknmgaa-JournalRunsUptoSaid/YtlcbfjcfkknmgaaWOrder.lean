/- JournalOrder: its walk. -/
import Derived.Test.YtlcbfjcfkknmgaaWFails
import Derived.OpenShut
namespace Go.Proofs.Ytlcbfjcfkknmgaa
open Go.RowKit

/-- a block without which U would not hold is in U's footprint -/
theorem Fp.mem {U : World → Prop} {Uo : Nat → Prop} {w : World} {N : Nat} (hf : Fp U Uo w) (hlt : N < w.heap.size) (bad : Obj) (hbad : ∀ w' : World, w'.heap[N]? = some bad → ¬ U w') : Uo N := by
  refine Classical.byContradiction fun hn => ?_
  refine hbad { w with heap := w.heap.setIfInBounds N bad } (by simp [hlt]) (hf.2 _ fun b hb => ?_)
  have hne : N ≠ b := fun e => hn (e ▸ hb)
  simp [hne]

/-- the user's own step: it writes its own blocks and new ones -/
theorem St.step {J : Nat} {U V : World → Prop} {w0 w w' : World} {O0 : Nat → Prop} {fs : List Value} {run : Bool} (h : St J U w0 O0 fs run w)
    (hstep : ∀ Uo, Fp U Uo w → Mv Uo w w' ∧ Fp V (fun b => Uo b ∨ (w.heap.size ≤ b ∧ b < w'.heap.size)) w') : St J V w0 O0 fs run w' := by
  obtain ⟨s, Uo, hq, hf, hd, hm, hs⟩ := h
  obtain ⟨hmv, hf'⟩ := hstep Uo hf
  refine ⟨s, _, hq.keep hmv hd, hf', ?_, hm.trans hmv (fun b hb => hs b (.inr hb)), ?_⟩
  · rintro b hj (hu | hu)
    · exact hd b hj hu
    · have := hq.lt b hj; omega
  · rintro b (hb | hb | hb)
    · exact hs b (.inl hb)
    · exact hs b (.inr hb)
    · exact .inr (Nat.le_trans hm.size hb.1)

/-- the user's memory in JournalOrder: the variable log with its row, and the variable i of each function -/
structure Lg (LV : Nat) (v : Value) (xs : List Int) (fs : List Value) (w : World) : Prop where
  l : w.heap[LV]? = some (.cells #[v] 30 (0, 0))
  row : w.ownsRow 0 3 1 v xs.length (xs.map (Value.int .i64))
  ne : v.ownBlock ≠ some LV
  fn : ∀ (i : Nat) (f : Value), fs[i]? = some f → ∃ b, f = .func (.func 20) #[] #[.pointer (some ⟨LV, 0, none⟩), .pointer (some ⟨b, 0, none⟩)] ∧ w.heap[b]? = some (.cells #[.int .i64 i] 3 (0, 0)) ∧ b ≠ LV ∧ v.ownBlock ≠ some b

theorem Lg.take {LV n : Nat} {v : Value} {xs : List Int} {fs : List Value} {w : World} (h : Lg LV v xs fs w) : Lg LV v xs (fs.take n) w :=
  ⟨h.l, h.row, h.ne, fun i f hf => h.fn i f (by rw [List.getElem?_take] at hf; split at hf; exact hf; cases hf)⟩

/-- the variable's value, fixed -/
theorem Fp.lg {LV : Nat} {xs : List Int} {fs : List Value} {Uo : Nat → Prop} {w : World} (hf : Fp (fun w => ∃ v, Lg LV v xs fs w) Uo w) : ∃ v, Fp (Lg LV v xs fs) Uo w := by
  obtain ⟨v, hv⟩ := hf.now
  have hL : Uo LV := hf.mem (lt_of_block hv.l) (.cells #[] 30 (0, 0)) (fun w' hw ⟨v', hv'⟩ => by rw [hv'.l] at hw; simp at hw)
  refine ⟨v, hf.1, fun w' hw => ?_⟩
  obtain ⟨v', hv'⟩ := hf.2 w' hw
  have := hw LV hL
  rw [hv.l, hv'.l] at this
  simp at this
  subst this
  exact hv'

theorem ent20 (c : Array Value) (w : World) : (callFunc 20 c).run Try.prog w = .ok (.enter 20 c) w := by simp [go_sem]

/-- what one undo function does -/
def Logged (LV : Nat) (v : Value) (w : World) (x : Int) (xs : List Int) (w' : World) : Prop :=
  ∃ v' w2, w' = w2.setCell ⟨LV, 0, none⟩ v' ∧ w2.heap[LV]? = some (.cells #[v] 30 (0, 0)) ∧ w2.ownsRow 0 3 1 v' (xs.length + 1) ((xs ++ [x]).map (Value.int .i64)) ∧
    (w.alloc (.cells #[.int .i64 x] 3)).grownBy w2 v.ownBlock ∧ (∀ g, v'.ownBlock = some g → v.ownBlock = some g ∨ w.heap.size + 1 ≤ g)

set_option maxHeartbeats 400000 in
theorem log_20 (LV b : Nat) (v : Value) (x : Int) (xs : List Int) (w : World) (hl : w.heap[LV]? = some (.cells #[v] 30 (0, 0))) (hrow : w.ownsRow 0 3 1 v xs.length (xs.map (Value.int .i64))) (hne : v.ownBlock ≠ some LV)
    (hb : w.heap[b]? = some (.cells #[.int .i64 x] 3 (0, 0))) (hlen : xs.length ≤ 1000) :
    Calls Try.prog 20 #[.pointer (some ⟨LV, 0, none⟩), .pointer (some ⟨b, 0, none⟩)] w fun e w' => e = .returned (.tuple #[]) ∧ Logged LV v w x xs w' := by
  obtain ⟨i0, hi, hz0, hz1, hz2⟩ := info_parts Try.info3
  obtain ⟨a, c, rfl⟩ := row_form hrow
  have l0 := cell_of_one hl
  have b0 := cell_of_one hb
  have hL := lt_of_block hl
  have HL := Lib.hid hl
  have HROW := Lib.hid hrow
  have HNE := Lib.hid hne
  clear hl hb hne
  go_enter Try.func20, Try.ntmps20
  go_wp2_with (at_builtin; refine wpList_append_own2 _ rfl (.tmp 2) (.tmp 4) 30 rfl 0 3 i0 (.int .i64 0) 1 8 Try.underlying30 hi hz0 hz1 hz2 rfl (by decide) _ _ _ rfl (hrow.alloc _) ⟨w.heap.size, 0, none⟩ 1 1 [.int .i64 x] rfl rfl ?c1 ?c2 ?c3 ?c4 ?c5 ?_)
  case c1 => intro j u hj; match j, hj with | 0, hj => simp at hj; subst hj; simp [Addr.add]
  case c2 => intro u hu; simp at hu; subst hu; rfl
  case c3 => unfold maxLen; omega
  case c4 => omega
  case c5 => exact Nat.zero_le _
  intro v' w2 hown' hgrow _ hnew
  have hl2 : w2.heap[LV]? = some (.cells #[.slice a xs.length c] 30 (0, 0)) := by
    rw [hgrow.block LV (by simp; omega) (fun e => HNE.out e.symm), Below.heap_alloc _ _ _ hL]
    exact HL.out
  obtain ⟨a', c', rfl⟩ := row_form hown'
  have k0 := cell_of_one hl2
  have f0 := free_of_one hl2
  have HF := Lib.hid (show Logged LV (.slice a xs.length c) w x xs (w2.setCell ⟨LV, 0, none⟩ (.slice a' (xs.length + 1) c')) from
    ⟨_, w2, rfl, hl2, by simpa using hown', hgrow, hnew⟩)
  clear hown' hgrow hnew hl2 hrow HROW HL HNE
  go_wp2
  go_end0
  exact ⟨rfl, HF.out⟩

theorem row_other {w w' : World} {base e size n : Nat} {v : Value} {xs : List Value} (h : w.ownsRow base e size v n xs) (hb : ∀ g, v.ownBlock = some g → w'.heap[g]? = w.heap[g]?) : w'.ownsRow base e size v n xs := by
  refine ⟨h.1, ?_⟩
  rcases h.2 with h1 | ⟨g, cap, cur, rfl, hb1, hg, rest⟩
  · exact .inl h1
  · exact .inr ⟨g, cap, cur, rfl, hb1, by rw [hb g rfl]; exact hg, rest⟩

theorem Logged.fp {LV : Nat} {v : Value} {x : Int} {xs : List Int} {fs : List Value} {f : Value} {Uo : Nat → Prop} {w w' : World} (hf : Fp (Lg LV v xs (fs ++ [f])) Uo w) (h : Logged LV v w x xs w') :
    Mv Uo w w' ∧ Fp (fun w => ∃ v, Lg LV v (xs ++ [x]) fs w) (fun b => Uo b ∨ (w.heap.size ≤ b ∧ b < w'.heap.size)) w' := by
  obtain ⟨v', w2, rfl, hl2, hown, hgrow, hnew⟩ := h
  have hn := hf.now
  have hLlt := lt_of_block hn.l
  have hL : Uo LV := hf.mem hLlt (.cells #[] 30 (0, 0)) (fun w' hw hv' => by rw [hv'.l] at hw; simp at hw)
  have hR : ∀ g, v.ownBlock = some g → Uo g := fun g hg => hf.mem (hn.row.lt g hg).2 (.cells #[] 0 (0, 0)) (fun w' hw hv' => by
    rcases hv'.row.2 with ⟨e, _⟩ | ⟨g', cap, cur, e, _, hg', _⟩
    · rw [e] at hg; simp [Value.ownBlock] at hg
    · rw [e] at hg; simp [Value.ownBlock] at hg; subst hg; rw [hw] at hg'; simp at hg')
  have hsz := hgrow.size
  rw [World.size_alloc] at hsz
  have hmv : Mv Uo w (w2.setCell ⟨LV, 0, none⟩ v') := (((Mv.refl _ _).alloc _).grown hgrow (fun k hk => .inl (hR k hk))).setCell (.inl hL) _
  refine ⟨hmv, ?_, fun w3 h3 => ⟨v', ?_, ?_, ?_, ?_⟩⟩
  · rintro b (hb | hb)
    · have := hf.1 b hb; simp; omega
    · exact hb.2
  · rw [h3 LV (.inl hL)]; exact one_setCell hl2
  · rw [List.length_append, List.length_singleton]
    refine row_other hown fun g hg => ?_
    have hgl := (hown.lt g hg).2
    have hgU : Uo g ∨ (w.heap.size ≤ g ∧ g < (w2.setCell ⟨LV, 0, none⟩ v').heap.size) := by
      rcases hnew g hg with h1 | h1
      · exact .inl (hR g h1)
      · exact .inr ⟨by omega, by simpa using hgl⟩
    have hgL : g ≠ LV := by
      rintro rfl
      rcases hnew g hg with h1 | h1
      · exact hn.ne h1
      · omega
    rw [h3 g hgU, Below.heap_setCell _ _ _ _ hgL]
  · intro e
    rcases hnew LV e with h1 | h1
    · exact hn.ne h1
    · omega
  · intro i g hg
    obtain ⟨b, h1, h2, h3', h4⟩ := hn.fn i g (by rw [List.getElem?_append_left (List.getElem?_eq_some_iff.1 hg).1]; exact hg)
    have hblt := lt_of_block h2
    have hB : Uo b := hf.mem hblt (.cells #[] 3 (0, 0)) (fun w' hw hv' => by
      obtain ⟨b', e1, e2, _⟩ := hv'.fn i g (by rw [List.getElem?_append_left (List.getElem?_eq_some_iff.1 hg).1]; exact hg)
      rw [h1] at e1
      simp at e1
      subst e1
      rw [e2] at hw
      simp at hw)
    refine ⟨b, h1, ?_, h3', ?_⟩
    · rw [h3 b (.inl hB), Below.heap_setCell _ _ _ _ h3', hgrow.block b (by rw [World.size_alloc]; omega) (fun e => h4 e.symm), Below.heap_alloc _ _ _ hblt]
      exact h2
    · intro e
      rcases hnew b e with h5 | h5
      · exact h4 h5
      · omega

/-- what has been logged when n functions are left of k -/
def desc (k n : Nat) : List Int := (List.range (k - n)).map fun (i : Nat) => (k : Int) - 1 - i
theorem desc_snoc (k n : Nat) (h : n < k) : desc k n = desc k (n + 1) ++ [(n : Int)] := by
  unfold desc
  rw [show k - n = (k - (n + 1)) + 1 by omega, List.range_succ, List.map_append]
  simp; omega
theorem desc_len (k n : Nat) : (desc k n).length = k - n := by simp [desc]
theorem desc_full (k : Nat) : desc k k = [] := by simp [desc]
theorem desc_getD (k n i : Nat) (h : i < k - n) : (desc k n).getD i 0 = (k : Int) - 1 - i := by simp [desc, List.getD, h]

def LgV (LV k : Nat) (fs : List Value) (w : World) : Prop := (∃ v, Lg LV v (desc k fs.length) fs w) ∧ fs.length ≤ k ∧ k ≤ 100

theorem undoes_20 (J LV k : Nat) : Undoes J (LgV LV k) := by
  intro fs f w O h
  obtain ⟨_, hlen, hk⟩ := h.user
  have hl : (fs ++ [f]).length = fs.length + 1 := by simp
  rw [hl] at hlen
  have h1 : St J (fun w => ∃ v, Lg LV v (desc k (fs.length + 1)) (fs ++ [f]) w) w O fs true w := h.imp fun w hd => by have := hd.1; rw [hl] at this; exact this
  obtain ⟨s, Uo, hq, hf, hd, hm, hs⟩ := h1
  obtain ⟨v, hf1⟩ := hf.lg
  have hn := hf1.now
  obtain ⟨b, rfl, hb, hb1, hb2⟩ := hn.fn fs.length f (by simp)
  refine ⟨20, _, rfl, ent20 _, ?_⟩
  refine (log_20 LV b v fs.length _ w hn.l hn.row hn.ne hb (by rw [desc_len]; omega)).mono ?_
  rintro e w' ⟨rfl, hlog⟩
  refine ⟨rfl, St.imp (U := fun w => ∃ v, Lg LV v (desc k fs.length) fs w) ?_ fun w hc => ⟨hc, by omega, hk⟩⟩
  obtain ⟨hmv, hf2⟩ := hlog.fp hf1
  rw [← desc_snoc k fs.length (by omega)] at hf2
  refine ⟨s, _, hq.keep hmv hd, hf2, ?_, hm.trans hmv (fun b hb => hs b (.inr hb)), ?_⟩
  · rintro b hj (hu | hu)
    · exact hd b hj hu
    · have := hq.lt b hj; omega
  · rintro b (hb | hb | hb)
    · exact hs b (.inl hb)
    · exact hs b (.inr hb)
    · exact .inr (Nat.le_trans hm.size hb.1)

/-- what the walk is told of a slice of integers that came in -/
def IsRow (k : IntKind) (w : World) (a : Option Addr) (len cap : Nat) (zs : List Int) : Prop :=
  (a = none ∧ len = 0 ∧ cap = 0 ∧ zs = []) ∨
  ∃ x, a = some x ∧ len ≤ cap ∧ cap ≤ maxLen ∧ zs.length = cap ∧ (∀ i, i < zs.length → w.cell? (x.add i) = some (.int k (zs.getD i 0))) ∧ ∀ n ∈ zs, (Lit.int k n).wf = true

/-- one element of it, read in a world that has kept all that was there -/
theorem IsRow.at {w : World} {a : Option Addr} {len cap : Nat} {zs : List Int} (h : IsRow .u8 w a len cap zs) {j : Nat} (hj : j < len) :
    ∃ b off z, a = some ⟨b, off, none⟩ ∧ b < w.heap.size ∧ w.cell? ⟨b, off + j, none⟩ = some (.int .u8 (z : Nat)) ∧ z ≤ 255 := by
  rcases h with ⟨_, h0, _⟩ | ⟨x, rfl, hl, hm, hz, hc, hw⟩
  · omega
  · obtain ⟨b, off, rfl, hc'⟩ := ints_at hc (by omega)
    have h1 := hc' j (by omega)
    obtain ⟨z, hz1, hz2⟩ := u8_nat (hw (zs.getD j 0) (by simp [List.getD, show j < zs.length by omega]))
    refine ⟨b, off, z, rfl, World.block_lt_of_cell? w _ h1, by rw [h1, hz1], hz2⟩
theorem IsRow.len {w : World} {a : Option Addr} {len cap : Nat} {zs : List Int} (h : IsRow .u8 w a len cap zs) : len ≤ 9223372036854775807 ∧ len ≤ cap := by
  rcases h with ⟨_, rfl, rfl, _⟩ | ⟨x, rfl, hl, hm, _⟩
  · omega
  · unfold maxLen at hm; omega

/-- one more function -/
theorem Lg.push {LV m b : Nat} {v : Value} {xs : List Int} {fs : List Value} {w : World} (h : Lg LV v xs fs w) (hm : fs.length = m) (hb : w.heap[b]? = some (.cells #[.int .i64 m] 3 (0, 0))) (h1 : b ≠ LV) (h2 : v.ownBlock ≠ some b) :
    Lg LV v xs (fs ++ [.func (.func 20) #[] #[.pointer (some ⟨LV, 0, none⟩), .pointer (some ⟨b, 0, none⟩)]]) w := by
  refine ⟨h.l, h.row, h.ne, fun i f hf => ?_⟩
  by_cases hi : i < fs.length
  · rw [List.getElem?_append_left hi] at hf
    exact h.fn i f hf
  · have hlt := (List.getElem?_eq_some_iff.1 hf).1
    simp at hlt
    obtain rfl : i = fs.length := by omega
    simp at hf
    subst hf
    exact ⟨b, rfl, by rw [hm]; exact hb, h1, h2⟩

/-- the journal with n functions left of k -/
def OrdS (J LV k n : Nat) (w0 w : World) : Prop := ∃ fs, fs.length = n ∧ n ≤ k ∧ k ≤ 100 ∧ St J (LgV LV k fs) w0 (fun _ => False) fs false w

theorem OrdS.len {J LV k n : Nat} {w0 w : World} (h : OrdS J LV k n w0 w) : Calls Try.prog 17 #[.pointer (some ⟨J, 0, none⟩)] w fun e w' => e = .returned (.int .i64 n) ∧ w = w' := by
  obtain ⟨fs, rfl, _, _, h⟩ := h
  exact len_st _ _ _ _ _ _ _ h
theorem OrdS.high {J LV k n to : Nat} {w0 w : World} (h : OrdS J LV k n w0 w) (ht : n < to) : Calls Try.prog 18 #[.pointer (some ⟨J, 0, none⟩), .int .i64 to] w fun e w' => e = .returned (.int .i64 2) ∧ OrdS J LV k n w0 w' := by
  obtain ⟨fs, rfl, h1, h2, h⟩ := h
  have hb : boundErr fs.length false to = 2 := by simp [boundErr]; omega
  refine (rewind_err _ _ _ _ _ _ to _ h (by rw [hb]; rfl)).mono ?_
  rintro e w' ⟨rfl, rfl⟩
  exact ⟨by rw [hb], fs, rfl, h1, h2, h.alloc _⟩
theorem OrdS.low {J LV k n to : Nat} {w0 w : World} (h : OrdS J LV k n w0 w) (ht : to ≤ n) : Calls Try.prog 18 #[.pointer (some ⟨J, 0, none⟩), .int .i64 to] w fun e w' => e = .returned (.int .i64 0) ∧ OrdS J LV k to w0 w' := by
  obtain ⟨fs, rfl, h1, h2, h⟩ := h
  refine (rewind_st _ _ _ _ _ to _ (undoes_20 J LV k) h ht (by omega)).mono ?_
  rintro e w' ⟨rfl, h'⟩
  exact ⟨rfl, _, by simp; omega, by omega, h2, h'⟩

set_option maxRecDepth 100000 in
set_option maxHeartbeats 1600000 in
theorem order_first (n : Nat) (hn : n ≤ 255) (a1 : Option Addr) (len1 cap1 : Nat) (z1 : List Int) (w : World) (hrow : IsRow .u8 w a1 len1 cap1 z1) :
    Calls Try.prog 4 #[.int .u8 n, .slice a1 len1 cap1] w fun e w' => e = .returned (.bool true) ∧ Below w.heap.size w w' := by
  have HROW := Lib.hid hrow
  obtain ⟨hl1, hl2⟩ := hrow.len
  have HA := Lib.hid (awake_ok w)
  obtain ⟨k, hk, hk40⟩ : ∃ k : Nat, (n : Int) % 41 = k ∧ k ≤ 40 := ⟨n % 41, by omega, by omega⟩
  have HK := Lib.hid hk
  clear hk hrow
  go_enter Try.func4, Try.ntmps4
  go_wp2_with fail
  refine HA.out.mono ?_
  rintro e w1 ⟨rfl, hm1⟩
  have hsz := hm1.size
  have h0 := (St.begin (U := fun _ => True) (Uo := fun _ => False) (w := w1) ⟨fun _ h => h.elim, fun _ _ => trivial⟩ hm1 (fun _ h => h.elim)).give (.cells #[.slice none 0 0] 30)
  simp only [World.size_alloc, true_and] at h0
  have H0 := Lib.hid h0
  clear hm1 h0
  go_wp2_with fail
  rw [HK.out]
  clear HK
  go_loopw [24] (fun i wr => ∃ m fs, i = .int .i64 (m : Nat) ∧ m ≤ k ∧ fs.length = m ∧ St w1.heap.size (Lg (w1.heap.size + 1) (.slice none 0 0) [] fs) w (fun _ => False) fs false wr) (fun i _ => k - (intOf i).toNat)
  case atStart => exact ⟨0, [], rfl, Nat.zero_le _, rfl, H0.out.imp fun w hc => ⟨hc, World.ownsRow_nil _ _ _ _, by simp [Value.ownBlock], by simp⟩⟩
  obtain ⟨m, fs, rfl, hm, hfl, hst⟩ := hrel
  have HFL := Lib.hid hfl
  clear hfl
  have hlLV := lt_of_block hst.user.l
  by_cases hlt : m < k
  · have HR := Lib.hid (record_st _ _ _ _ _ (.func 20) #[] #[.pointer (some ⟨w1.heap.size + 1, 0, none⟩), .pointer (some ⟨wr.heap.size, 0, none⟩)] _ (hst.give (.cells #[.int .i64 m] 3)) (by rw [HFL.out]; omega))
    clear hst
    go_wp2_with fail
    refine HR.out.mono ?_
    rintro e w2 ⟨rfl, hst2⟩
    have HST2 := Lib.hid hst2
    clear hst2
    go_wp2_with fail
    go_roundw
    case rel => exact ⟨m + 1, _, by go_num, by omega, by simp [HFL.out], HST2.out.imp fun w hc => hc.1.push HFL.out hc.2 (by omega) (by simp [Value.ownBlock])⟩
    case measure => simp [intOf]; omega
  · obtain rfl : m = k := by omega
    have HO := Lib.hid (show OrdS w1.heap.size (w1.heap.size + 1) m m w wr from ⟨fs, HFL.out, Nat.le_refl _, by omega, hst.imp fun w hc => ⟨⟨_, by rw [HFL.out, desc_full]; exact hc⟩, by rw [HFL.out]; exact Nat.le_refl _, by omega⟩⟩)
    clear hst hlt HFL hlLV H0
    go_wp2_with fail
    obtain ⟨wo, rfl⟩ : ∃ wo : World, wo = wr := ⟨_, rfl⟩
    go_loopw [33] (fun i wr => ∃ j q, i = .int .i64 (j : Nat) ∧ j ≤ len1 ∧ OrdS w1.heap.size (w1.heap.size + 1) m q w wr) (fun i _ => len1 - (intOf i).toNat)
    case atStart => exact ⟨0, m, rfl, Nat.zero_le _, HO.out⟩
    obtain ⟨j, q, rfl, hj, ho⟩ := hrel
    have hqm : q ≤ m := by obtain ⟨_, _, h, _⟩ := ho; exact h
    by_cases hlt : j < len1
    · obtain ⟨b, off, z, rfl, hb, hc, hz⟩ := HROW.out.at hlt
      have hcr : wr.cell? ⟨b, off + j, none⟩ = some (.int .u8 z) := by
        obtain ⟨_, _, _, _, hst⟩ := ho
        rw [hst.mv.below.cell (p := ⟨b, off + j, none⟩) hb]; exact hc
      obtain ⟨t, ht, ht40⟩ : ∃ t : Nat, (z : Int) % 41 = t ∧ t ≤ 40 := ⟨z % 41, by omega, by omega⟩
      have HL := Lib.hid ho.len
      by_cases hqt : q < t
      · have HR := Lib.hid (ho.high hqt)
        clear ho hc
        go_wp2_with fail
        refine HL.out.mono ?_
        rintro e w' ⟨rfl, rfl⟩
        go_wp2_with fail
        refine HR.out.mono ?_
        rintro e w2 ⟨rfl, ho2⟩
        have HL2 := Lib.hid ho2.len
        have HO2 := Lib.hid ho2
        clear ho2
        go_wp2_with fail
        refine HL2.out.mono ?_
        rintro e w' ⟨rfl, rfl⟩
        go_wp2_with fail
        go_roundw
        case rel => exact ⟨j + 1, q, by go_num, by omega, HO2.out⟩
        case measure => simp [intOf]; omega
      · have htq : t ≤ q := by omega
        have HR := Lib.hid (ho.low htq)
        clear ho hc
        go_wp2_with fail
        refine HL.out.mono ?_
        rintro e w' ⟨rfl, rfl⟩
        go_wp2_with fail
        refine HR.out.mono ?_
        rintro e w2 ⟨rfl, ho2⟩
        have HL2 := Lib.hid ho2.len
        have HO2 := Lib.hid ho2
        clear ho2
        go_wp2_with fail
        refine HL2.out.mono ?_
        rintro e w' ⟨rfl, rfl⟩
        go_wp2_with fail
        go_roundw
        case rel => exact ⟨j + 1, t, by go_num, by omega, HO2.out⟩
        case measure => simp [intOf]; omega
    · have HR := Lib.hid (ho.low (Nat.zero_le q))
      clear ho
      go_wp2_with fail
      refine HR.out.mono ?_
      rintro e w2 ⟨rfl, fs2, hf2, _, _, hst2⟩
      obtain rfl : fs2 = [] := List.eq_nil_of_length_eq_zero hf2
      obtain ⟨v, hv⟩ := hst2.user.1
      have HST2 := Lib.hid hst2
      have HV := Lib.hid hv
      obtain ⟨a, c, hvf⟩ := row_form hv.row
      rw [List.length_nil, desc_len, Nat.sub_zero] at hvf
      subst hvf
      have l0 := cell_of_one hv.l
      clear hst2 hv hf2
      go_wp2_with fail
      go_loop [85] (fun i => ∃ j : Nat, i = .int .i64 j ∧ j ≤ m) (fun i => m - (intOf i).toNat)
      case atStart => exact ⟨0, rfl, Nat.zero_le _⟩
      obtain ⟨i, rfl, hi⟩ := hrel
      by_cases hlt2 : i < m
      · obtain ⟨g, c', hg⟩ : ∃ g c', a = some ⟨g, 0, none⟩ ∧ c' = c := by
          rcases HV.out.row.2 with ⟨e, _⟩ | ⟨g, cap, cur, e, _⟩
          · simp at e; omega
          · simp at e; exact ⟨g, c, e.1, rfl⟩
        obtain ⟨rfl, _⟩ := hg
        have c0 := HV.out.row
        simp only [List.length_nil, desc_len, Nat.sub_zero] at c0
        have c1 := c0.cellAt i (by omega)
        rw [show ((desc m 0).map (Value.int .i64))[i]? = some (.int .i64 ((m : Int) - 1 - i)) by
          rw [List.getElem?_map, List.getElem?_eq_getElem (by rw [desc_len]; omega)]; simp [desc]] at c1
        clear c0
        go_wp2_with fail
        go_round
        case rel => exact ⟨i + 1, by go_num, by omega⟩
        case measure => simp [intOf]; omega
      · go_wp2_with fail
        go_ret
        exact ⟨rfl, HST2.out.mv.below⟩

theorem walk_JournalOrder (a0 : Int) (a1 : Option Addr) (len1 cap1 : Nat) (z1 : List Int) (w : World) (w0 : (Lit.int .u8 a0).wf = true) (w1 : IsRow .u8 w a1 len1 cap1 z1) :
    Calls Try.prog 4 #[.int .u8 a0, .slice a1 len1 cap1] w fun e w' => e = .returned (.bool true) ∧ Below w.heap.size w w' := by
  obtain ⟨n, rfl, hn⟩ := u8_nat w0
  exact order_first n hn a1 len1 cap1 z1 w w1

end Go.Proofs.Ytlcbfjcfkknmgaa
