/- The state of a journal and of its user's memory, as one assertion with a footprint. -/
import Derived.Test.YtlcbfjcfkknmgaaJForget
namespace Go.Proofs.Ytlcbfjcfkknmgaa
open Go.RowKit

/-- U holds of w by what lies in the blocks Uo alone. -/
def Fp (U : World → Prop) (Uo : Nat → Prop) (w : World) : Prop :=
  (∀ b, Uo b → b < w.heap.size) ∧ ∀ w' : World, (∀ b, Uo b → w'.heap[b]? = w.heap[b]?) → U w'

theorem Fp.now {U : World → Prop} {Uo : Nat → Prop} {w : World} (h : Fp U Uo w) : U w := h.2 w fun _ _ => rfl

theorem Fp.keep {U : World → Prop} {Uo O : Nat → Prop} {w w' : World} (h : Fp U Uo w) (hm : Mv O w w') (hd : ∀ b, Uo b → ¬ O b) : Fp U Uo w' :=
  ⟨fun b hb => Nat.lt_of_lt_of_le (h.1 b hb) hm.size, fun w2 h2 => h.2 w2 fun b hb => (h2 b hb).trans (hm.block b (h.1 b hb) (hd b hb))⟩

theorem Fp.imp {U V : World → Prop} {Uo : Nat → Prop} {w : World} (h : Fp U Uo w) (hi : ∀ w, U w → V w) : Fp V Uo w := ⟨h.1, fun w' hw => hi w' (h.2 w' hw)⟩

/-- THE STATE: a journal at J with the functions fs; the user's memory, of which U holds; since w0 nothing has turned but O0 and new memory. -/
def St (J : Nat) (U : World → Prop) (w0 : World) (O0 : Nat → Prop) (fs : List Value) (run : Bool) (w : World) : Prop :=
  ∃ s Uo, JQ J s fs (.bool run) w ∧ Fp U Uo w ∧ (∀ b, JO J s b → ¬ Uo b) ∧ Mv O0 w0 w ∧ (∀ b, JO J s b ∨ Uo b → O0 b ∨ w0.heap.size ≤ b)

section
variable {J : Nat} {U : World → Prop} {w0 w : World} {O0 : Nat → Prop} {fs : List Value} {run : Bool}

theorem St.user (h : St J U w0 O0 fs run w) : U w := by obtain ⟨s, Uo, _, hf, _⟩ := h; exact hf.now
theorem St.mv (h : St J U w0 O0 fs run w) : Mv O0 w0 w := by obtain ⟨s, Uo, _, _, _, hm, _⟩ := h; exact hm

theorem St.rebase (h : St J U w0 O0 fs run w) : ∃ O1, St J U w O1 fs run w ∧ (∀ b, O1 b → b < w.heap.size) ∧ ∀ b, O1 b → O0 b ∨ w0.heap.size ≤ b := by
  obtain ⟨s, Uo, hq, hf, hd, hm, hs⟩ := h
  refine ⟨fun b => JO J s b ∨ Uo b, ⟨s, Uo, hq, hf, hd, Mv.refl _ _, fun b hb => .inl hb⟩, ?_, hs⟩
  rintro b (hb | hb)
  · exact hq.lt b hb
  · exact hf.1 b hb

/-- the base is moved to a world that has only grown since -/
theorem St.baseAt {w1 : World} (h : St J U w0 O0 fs run w) (hg : Mv (fun _ => False) w w1) : ∃ O1, St J U w1 O1 fs run w1 ∧ (∀ b, O1 b → b < w.heap.size) ∧ (∀ b, O1 b → O0 b ∨ w0.heap.size ≤ b) ∧ Mv O0 w0 w1 := by
  obtain ⟨s, Uo, hq, hf, hd, hm, hs⟩ := h
  refine ⟨fun b => JO J s b ∨ Uo b, ⟨s, Uo, hq.keep hg (fun _ _ h => h), hf.keep hg (fun _ _ h => h), hd, Mv.refl _ _, fun b hb => .inl hb⟩, ?_, hs, hm.trans hg (fun _ h => h.elim)⟩
  rintro b (hb | hb)
  · exact hq.lt b hb
  · exact hf.1 b hb

theorem St.lift {w1 : World} {O1 : Nat → Prop} (hm : Mv O0 w0 w1) (hs : ∀ b, O1 b → O0 b ∨ w0.heap.size ≤ b) (h : St J U w1 O1 fs run w) : St J U w0 O0 fs run w := by
  obtain ⟨s, Uo, hq, hf, hd, hm1, hs1⟩ := h
  refine ⟨s, Uo, hq, hf, hd, hm.trans hm1 hs, fun b hb => ?_⟩
  rcases hs1 b hb with h1 | h1
  · exact hs b h1
  · exact .inr (Nat.le_trans hm.size h1)

theorem St.alloc (h : St J U w0 O0 fs run w) (o : Obj) : St J U w0 O0 fs run (w.alloc o) := by
  obtain ⟨s, Uo, hq, hf, hd, hm, hs⟩ := h
  have ha : Mv (fun _ => False) w (w.alloc o) := (Mv.refl _ _).alloc o
  exact ⟨s, Uo, hq.keep ha (fun _ _ h => h), hf.keep ha (fun _ _ h => h), hd, hm.alloc o, hs⟩

theorem St.drew (h : St J U w0 O0 fs run w) : St J U w0 O0 fs run w.drew := by
  obtain ⟨s, Uo, hq, hf, hd, hm, hs⟩ := h
  have ha : Mv (fun _ => False) w w.drew := (Mv.refl _ _).drew
  exact ⟨s, Uo, hq.keep ha (fun _ _ h => h), hf.keep ha (fun _ _ h => h), hd, hm.drew, hs⟩

theorem St.drewN (h : St J U w0 O0 fs run w) (n : Nat) : St J U w0 O0 fs run (w.drewN n) := by
  obtain ⟨s, Uo, hq, hf, hd, hm, hs⟩ := h
  have ha : Mv (fun _ => False) w (w.drewN n) := ⟨rfl, rfl, rfl, Nat.le_refl _, fun _ _ _ => rfl⟩
  exact ⟨s, Uo, hq.keep ha (fun _ _ h => h), hf.keep ha (fun _ _ h => h), hd, hm.trans ha (fun _ h => h.elim), hs⟩

/-- a new block becomes the user's -/
theorem St.give (h : St J U w0 O0 fs run w) (o : Obj) : St J (fun w' => U w' ∧ w'.heap[w.heap.size]? = some o) w0 O0 fs run (w.alloc o) := by
  obtain ⟨s, Uo, hq, hf, hd, hm, hs⟩ := h
  have ha : Mv (fun _ => False) w (w.alloc o) := (Mv.refl _ _).alloc o
  have hf' := hf.keep ha (fun _ _ h => h)
  refine ⟨s, fun b => Uo b ∨ b = w.heap.size, hq.keep ha (fun _ _ h => h), ⟨?_, fun w2 h2 => ⟨hf'.2 w2 fun b hb => h2 b (.inl hb), ?_⟩⟩, ?_, hm.alloc o, ?_⟩
  · rintro b (hb | rfl)
    · exact hf'.1 b hb
    · simp
  · rw [h2 _ (.inr rfl)]; exact heap_alloc_new w o
  · rintro b hj (hb | rfl)
    · exact hd b hj hb
    · have := hq.lt _ hj; omega
  · rintro b (hj | hb | rfl)
    · exact hs b (.inl hj)
    · exact hs b (.inr hb)
    · exact .inr hm.size

theorem St.mark {r : Bool} (h : St J U w0 O0 fs run w) : St J U w0 O0 fs r (w.setCell ⟨J, 1, none⟩ (.bool r)) := by
  obtain ⟨s, Uo, hq, hf, hd, hm, hs⟩ := h
  have ha : Mv (fun b => b = J) w (w.setCell ⟨J, 1, none⟩ (.bool r)) := (Mv.refl (fun b => b = J) w).setCell (p := ⟨J, 1, none⟩) (.inl rfl) _
  exact ⟨s, Uo, hq.mark, hf.keep ha (fun b hb e => by subst e; exact hd _ (.inl rfl) hb), hd, hm.setCell (hs J (.inl (.inl rfl))) _, hs⟩

theorem St.imp {V : World → Prop} (h : St J U w0 O0 fs run w) (hi : ∀ w, U w → V w) : St J V w0 O0 fs run w := by
  obtain ⟨s, Uo, hq, hf, hd, hm, hs⟩ := h
  exact ⟨s, Uo, hq, hf.imp hi, hd, hm, hs⟩

/-- what the user knows of a block, read in the present world -/
theorem St.cells (h : St J U w0 O0 fs run w) : ∃ a c, w.heap[J]? = some (.cells #[.slice a fs.length c, .bool run] 29 (0, 0)) := by
  obtain ⟨s, Uo, hq, _⟩ := h
  obtain ⟨a, c, rfl⟩ := hq.slice
  exact ⟨a, c, hq.blk⟩
theorem St.jlen (h : St J U w0 O0 fs run w) : jlen J w = fs.length := by
  obtain ⟨s, Uo, hq, _⟩ := h
  exact hq.jlen

/-- a block that is neither the journal's nor the user's is written -/
theorem St.other {E : Nat} {w' : World} (h : St J U w0 O0 fs run w) (hm : Mv (fun b => b = E) w w') (hE : ¬ O0 E) (hlt : E < w0.heap.size) : St J U w0 (fun b => O0 b ∨ b = E) fs run w' := by
  obtain ⟨s, Uo, hq, hf, hd, hm0, hs⟩ := h
  have hno : ∀ b, JO J s b ∨ Uo b → ¬ b = E := by
    intro b hb e
    subst e
    rcases hs b hb with h1 | h1
    · exact hE h1
    · omega
  refine ⟨s, Uo, hq.keep hm (fun b hb => hno b (.inl hb)), hf.keep hm (fun b hb => hno b (.inr hb)), hd, (hm0.mono (fun b hb => .inl (.inl hb))).trans hm (fun b hb => .inl (.inr hb)), fun b hb => ?_⟩
  rcases hs b hb with h1 | h1
  · exact .inl (.inl h1)
  · exact .inr h1

/-- a block that is neither the journal's nor the user's is as it was -/
theorem St.frame (h : St J U w0 O0 fs run w) {b : Nat} {o : Obj} (hb : w0.heap[b]? = some o) (hO : ¬ O0 b) : w.heap[b]? = some o := by
  rw [h.mv.block b (lt_of_block hb) hO]; exact hb

/-- a block of which U knows what it holds is in U's footprint -/
theorem Fp.has {Uo : Nat → Prop} {N : Nat} {c : Array Value} {t : TypeId} {z : Nat × Nat} (hf : Fp U Uo w) (hU : ∀ w, U w → w.heap[N]? = some (.cells c t z)) : Uo N := by
  refine Classical.byContradiction fun hn => ?_
  have hlt := lt_of_block (hU w hf.now)
  have := hU { w with heap := w.heap.setIfInBounds N (.cells (c.push undef) t z) } (hf.2 _ fun b hb => by
    have hne : N ≠ b := fun e => hn (e ▸ hb)
    simp [hne])
  simp [hlt] at this

theorem block_setCell {w : World} {p : Addr} {c : Array Value} {t : TypeId} {z : Nat × Nat} (h : w.heap[p.block]? = some (.cells c t z)) (hp : p.spot = none) (u : Value) :
    (w.setCell p u).heap[p.block]? = some (.cells (c.setIfInBounds p.off u) t z) := by
  have hlt := lt_of_block h
  have h' : w.heap[p.block] = .cells c t z := by simpa [Array.getElem?_eq_getElem hlt] using h
  show (w.heap.modify p.block _)[p.block]? = _
  rw [Array.getElem?_eq_getElem (by simpa using hlt), Array.getElem_modify_self, h']
  simp [hp]

/-- a cell of the user's is written: block N, of which U knows what it holds -/
theorem Fp.set {V : World → Prop} {Uo : Nat → Prop} {N k : Nat} {c : Array Value} {t : TypeId} {z : Nat × Nat} (hf : Fp U Uo w) (hU : ∀ w, U w → w.heap[N]? = some (.cells c t z)) (u : Value)
    (hV : ∀ w1 w2 : World, U w1 → (∀ b, b ≠ N → w2.heap[b]? = w1.heap[b]?) → w2.heap[N]? = some (.cells (c.setIfInBounds k u) t z) → V w2) : Fp V Uo (w.setCell ⟨N, k, none⟩ u) := by
  have hN := hf.has hU
  have hb0 := hU w hf.now
  have hb1 := block_setCell (p := ⟨N, k, none⟩) hb0 rfl u
  refine ⟨fun b hb => by simpa using hf.1 b hb, fun w2 h2 => ?_⟩
  have hn2 := (h2 N hN).trans hb1
  have hlt2 := lt_of_block hn2
  refine hV { w2 with heap := w2.heap.setIfInBounds N (.cells c t z) } w2 (hf.2 _ fun b hb => ?_) (fun b hb => ?_) hn2
  · by_cases e : N = b
    · subst e; simp [hlt2, hb0]
    · have := h2 b hb
      rw [Below.heap_setCell _ _ _ _ (by simpa using fun e' => e e'.symm)] at this
      simp [e, this]
  · have e : N ≠ b := fun e => hb e.symm
    simp [e]

theorem St.set {V : World → Prop} (N k : Nat) {c : Array Value} {t : TypeId} {z : Nat × Nat} (u : Value) (h : St J U w0 O0 fs run w) (hU : ∀ w, U w → w.heap[N]? = some (.cells c t z))
    (hV : ∀ w1 w2 : World, U w1 → (∀ b, b ≠ N → w2.heap[b]? = w1.heap[b]?) → w2.heap[N]? = some (.cells (c.setIfInBounds k u) t z) → V w2) : St J V w0 O0 fs run (w.setCell ⟨N, k, none⟩ u) := by
  obtain ⟨s, Uo, hq, hf, hd, hm, hs⟩ := h
  have hN := hf.has hU
  have ha : Mv (fun b => b = N) w (w.setCell ⟨N, k, none⟩ u) := (Mv.refl (fun b => b = N) w).setCell (p := ⟨N, k, none⟩) (.inl rfl) _
  exact ⟨s, Uo, hq.keep ha (fun b hb e => by subst e; exact hd _ hb hN), hf.set hU u hV, hd, hm.setCell (hs N (.inr hN)) _, hs⟩
end

/-- Record, of the whole state -/
theorem record_st (J : Nat) (U : World → Prop) (w0 : World) (O0 : Nat → Prop) (fs : List Value) (fn : Fn) (x y : Array Value) (w : World) (h : St J U w0 O0 fs false w) (hlen : fs.length ≤ 1000000) :
    Calls Try.prog 19 #[.pointer (some ⟨J, 0, none⟩), .func fn x y] w fun e w' => e = .returned (.tuple #[]) ∧ St J U w0 O0 (fs ++ [.func fn x y]) false w' := by
  obtain ⟨s, Uo, hq, hf, hd, hm, hs⟩ := h
  refine (record_ok J s fs fn x y w hq.blk hq.own hlen).mono ?_
  rintro e w' ⟨rfl, s', hb', ho', hmv, hsub⟩
  refine ⟨rfl, s', Uo, ⟨hb', ho'⟩, hf.keep hmv (fun b hb hj => hd b hj hb), ?_, hm.trans hmv (fun b hb => hs b (.inl hb)), ?_⟩
  · intro b hb hu
    rcases hsub b hb with h1 | h1
    · exact hd b h1 hu
    · have := hf.1 b hu; omega
  · rintro b (hb | hb)
    · rcases hsub b hb with h1 | h1
      · exact hs b (.inl h1)
      · exact .inr (Nat.le_trans hm.size h1)
    · exact hs b (.inr hb)

theorem len_st (J : Nat) (U : World → Prop) (w0 : World) (O0 : Nat → Prop) (fs : List Value) (run : Bool) (w : World) (h : St J U w0 O0 fs run w) :
    Calls Try.prog 17 #[.pointer (some ⟨J, 0, none⟩)] w fun e w' => e = .returned (.int .i64 fs.length) ∧ w = w' := by
  obtain ⟨a, c, hb⟩ := h.cells
  exact len_some J a fs.length c _ w hb

theorem bound_st (J : Nat) (U : World → Prop) (w0 : World) (O0 : Nat → Prop) (fs : List Value) (run : Bool) (k : Int) (w : World) (h : St J U w0 O0 fs run w) :
    Calls Try.prog 49 #[.pointer (some ⟨J, 0, none⟩), .int .i64 k] w fun e w' => e = .returned (.int .i64 (boundErr fs.length run k)) ∧ w = w' := by
  obtain ⟨s, Uo, hq, _⟩ := h
  exact bound_jq J s fs run k w hq

theorem pop_st (J : Nat) (U : World → Prop) (w0 : World) (O0 : Nat → Prop) (fs : List Value) (f : Value) (run : Bool) (w : World) (h : St J U w0 O0 (fs ++ [f]) run w) (hlen : fs.length ≤ 1000000) :
    Calls Try.prog 51 #[.pointer (some ⟨J, 0, none⟩)] w fun e w' => e = .returned f ∧ St J U w0 O0 fs run w' := by
  obtain ⟨s, Uo, hq, hf, hd, hm, hs⟩ := h
  refine (pop_jq J s _ f fs w hq hlen).mono ?_
  rintro e w' ⟨rfl, s', hq', hmv, hsub⟩
  refine ⟨rfl, s', Uo, hq', hf.keep hmv (fun b hb hj => hd b hj hb), ?_, hm.trans hmv (fun b hb => hs b (.inl hb)), ?_⟩
  · intro b hb hu
    rcases hsub b hb with h1 | h1
    · exact hd b h1 hu
    · have := hf.1 b hu; omega
  · rintro b (hb | hb)
    · rcases hsub b hb with h1 | h1
      · exact hs b (.inl h1)
      · exact .inr (Nat.le_trans hm.size h1)
    · exact hs b (.inr hb)

theorem forget_st (J : Nat) (U : World → Prop) (w0 : World) (O0 : Nat → Prop) (fs : List Value) (k : Nat) (w : World) (h : St J U w0 O0 fs false w) (hk : k ≤ fs.length) (hlen : fs.length ≤ 1000000) :
    Calls Try.prog 36 #[.pointer (some ⟨J, 0, none⟩), .int .i64 k] w fun e w' => e = .returned (.int .i64 0) ∧ St J U w0 O0 (fs.take k) false w' := by
  obtain ⟨s, Uo, hq, hf, hd, hm, hs⟩ := h
  refine (forget_ok J s fs k w hq hk hlen).mono ?_
  rintro e w' ⟨rfl, s', hq', hmv, hsub⟩
  refine ⟨rfl, s', Uo, hq', hf.keep hmv (fun b hb hj => hd b hj hb), ?_, hm.trans hmv (fun b hb => hs b (.inl hb)), ?_⟩
  · intro b hb hu
    rcases hsub b hb with h1 | h1
    · exact hd b h1 hu
    · have := hf.1 b hu; omega
  · rintro b (hb | hb)
    · rcases hsub b hb with h1 | h1
      · exact hs b (.inl h1)
      · exact .inr (Nat.le_trans hm.size h1)
    · exact hs b (.inr hb)

end Go.Proofs.Ytlcbfjcfkknmgaa
