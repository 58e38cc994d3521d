import Derived.Test.YtbpodipdfohikaaGreatL07
import Derived.Laws.IdiomCopy
import Derived.Deep.CutRange
import Derived.IntWalk
set_option linter.unusedSimpArgs false
set_option linter.unusedVariables false
set_option maxRecDepth 100000
set_option maxHeartbeats 25600000
namespace Go.Proofs.YtbpodipdfohikaaGreat
open Go.RowKit Go.Instr
structure pW where
  slots : List mU
  cells : Int
  stacks : Int
abbrev mU.val (s : mU) : Value := .agg #[.string s.name, .int .u8 s.kind, .int .i64 s.len, .int .i64 s.at']
structure DR (w : World) (sv : Value) (f : pW) : Prop where
  row : ay 4 mU.cells w sv f.slots
theorem DR.later {w w' : World} {sv : Value} {f : pW} (h : DR w sv f) (hm : Grow w w') : DR w' sv f := ⟨h.row.later hm⟩
def S9 (name : ByteArray) (kind : Int) (s : mU) : Bool := s.name == name && s.kind == kind
def nX (f : pW) (name : ByteArray) (kind : Int) : Option mU := f.slots.find? (S9 name kind)
def noSlot : mU := ⟨⟨#[]⟩, 0, 0, 0⟩
theorem Bv (a b : ByteArray) : (a.toList == b.toList) = (a == b) := by
  by_cases h : a = b
  · subst h; simp
  · have h2 : (a == b) = false := by simpa using h
    rw[h2]
    rw[beq_eq_false_iff_ne]
    intro e
    exact h (by
      cases a with|mk x => cases b with|mk y =>
      rw[ByteArray.toList_eq, ByteArray.toList_eq]at e
      simp at e
      rw[e])
theorem dW {w : World} {X : Nat} {a b c d : Value} {t : TypeId} (h : w.heap[X]? = some (.cells #[a, b, c, d] t (0, 0))) (p q r s : Value) :
    ((((w.setCell ⟨X, 0, none⟩ p).setCell ⟨X, 1, none⟩ q).setCell ⟨X, 2, none⟩ r).setCell ⟨X, 3, none⟩ s).heap[X]? = some (.cells #[p, q, r, s] t (0, 0)) /\ Mv (λb => b = X) w ((((w.setCell ⟨X, 0, none⟩ p).setCell ⟨X, 1, none⟩ q).setCell ⟨X, 2, none⟩ r).setCell ⟨X, 3, none⟩ s) := by
  constructor
  · have h1 := block_setCell (p := ⟨X, 0, none⟩) h rfl p
    have h2 := block_setCell (p := ⟨X, 1, none⟩) h1 rfl q
    have h3 := block_setCell (p := ⟨X, 2, none⟩) h2 rfl r
    have h4 := block_setCell (p := ⟨X, 3, none⟩) h3 rfl s
    simpa using h4
  · exact((((Mv.refl (λb => b = X) w).setCell (p := ⟨X, 0, none⟩) (.inl rfl) _).setCell (p := ⟨X, 1, none⟩) (.inl rfl) _).setCell (p := ⟨X, 2, none⟩) (.inl rfl) _).setCell (p := ⟨X, 3, none⟩) (.inl rfl) _
theorem bD {w : World} {X : Nat} {c : Array Value} {t : TypeId} (h : w.heap[X]? = some (.cells c t (0, 0))) (i : Nat) : w.frozen? ⟨X, i, none⟩ = false := by simp[World.frozen?, h]
structure bA where
  name : ByteArray
  params : List au
  body : Tree
structure aO where
  name : ByteArray
  params : List au
  pv : Value
  body : ae
def aO.d (p : aO) : bA := ⟨p.name, p.params, p.body.t⟩
def aO.cells (p : aO) : List Value := .string p.name :: p.pv :: p.body.cells
def aO.val : aO -> Value
  |⟨s, _, pv, .mk k n bs kv _⟩ => .agg #[.string s, pv, .int .u8 k, .int .i64 n, .string bs, kv]
structure wP (w : World) (p : aO) : Prop where
  name : p.name.size <= 9223372036854775807
  params : ay 3 au.cells w p.pv p.params
  body : bJ w p.body
theorem wP.later {w w' : World} {p : aO} (h : wP w p) (hm : Grow w w') : wP w' p := ⟨h.name, h.params.later hm, h.body.later hm⟩
structure ru (w : World) (v : Value) (l : List aO) : Prop where
  row : ay 6 aO.cells w v l
  each : ∀ p ∈ l, wP w p
theorem ru.later {w w' : World} {v : Value} {l : List aO} (h : ru w v l) (hm : Grow w w') : ru w' v l := ⟨h.row.later hm, λp hp => (h.each p hp).later hm⟩
theorem wP.form {w : World} {n : ByteArray} {p : List au} {pv : Value} {b : ae} (h : wP w ⟨n, p, pv, b⟩) : ∃ a c, pv = .slice a p.length c /\ p.length <= c /\ p.length <= 9223372036854775807 := h.params.form
theorem Es {w : World} {X : Nat} {a0 a1 a2 a3 a4 a5 : Value} {t : TypeId} (h : w.heap[X]? = some (.cells #[a0, a1, a2, a3, a4, a5] t (0, 0))) (b0 b1 b2 b3 b4 b5 : Value) :
    ((((((w.setCell ⟨X, 0, none⟩ b0).setCell ⟨X, 1, none⟩ b1).setCell ⟨X, 2, none⟩ b2).setCell ⟨X, 3, none⟩ b3).setCell ⟨X, 4, none⟩ b4).setCell ⟨X, 5, none⟩ b5).heap[X]? = some (.cells #[b0, b1, b2, b3, b4, b5] t (0, 0)) /\
    Mv (λb => b = X) w ((((((w.setCell ⟨X, 0, none⟩ b0).setCell ⟨X, 1, none⟩ b1).setCell ⟨X, 2, none⟩ b2).setCell ⟨X, 3, none⟩ b3).setCell ⟨X, 4, none⟩ b4).setCell ⟨X, 5, none⟩ b5) := by
  constructor
  · have h1 := block_setCell (p := ⟨X, 0, none⟩) h rfl b0
    have h2 := block_setCell (p := ⟨X, 1, none⟩) h1 rfl b1
    have h3 := block_setCell (p := ⟨X, 2, none⟩) h2 rfl b2
    have h4 := block_setCell (p := ⟨X, 3, none⟩) h3 rfl b3
    have h5 := block_setCell (p := ⟨X, 4, none⟩) h4 rfl b4
    have h6 := block_setCell (p := ⟨X, 5, none⟩) h5 rfl b5
    simpa using h6
  · exact((((((Mv.refl (λb => b = X) w).setCell (p := ⟨X, 0, none⟩) (.inl rfl) _).setCell (p := ⟨X, 1, none⟩) (.inl rfl) _).setCell (p := ⟨X, 2, none⟩) (.inl rfl) _).setCell (p := ⟨X, 3, none⟩) (.inl rfl) _).setCell (p := ⟨X, 4, none⟩) (.inl rfl) _).setCell (p := ⟨X, 5, none⟩) (.inl rfl) _
theorem cB {w : World} {X : Nat} {c0 c1 c2 c3 c4 c5 : Value} {t : TypeId} (h : w.heap[X]? = some (.cells #[c0, c1, c2, c3, c4, c5] t (0, 0))) : (w.cell? ⟨X, 0, none⟩ = some c0 /\ w.cell? ⟨X, 1, none⟩ = some c1 /\ w.cell? ⟨X, 2, none⟩ = some c2) /\ w.cell? ⟨X, 3, none⟩ = some c3 /\ w.cell? ⟨X, 4, none⟩ = some c4 /\ w.cell? ⟨X, 5, none⟩ = some c5 := by
  simp[World.cell?, h]
theorem aJ {w : World} {X : Nat} {c0 c1 c2 c3 : Value} {t : TypeId} (h : w.heap[X]? = some (.cells #[c0, c1, c2, c3] t (0, 0))) : (w.cell? ⟨X, 0, none⟩ = some c0 /\ w.cell? ⟨X, 1, none⟩ = some c1) /\ w.cell? ⟨X, 2, none⟩ = some c2 /\ w.cell? ⟨X, 3, none⟩ = some c3 := by simp[World.cell?, h]
mutual
def I9 (f : pW) : Tree -> Bool
  |.mk k _ s l =>
    if k = 2 then(nX f s 1).isSome && yz f l
    else if k = 3 then(nX f s 2).isSome && yz f l
    else if k = 4 \/ k = 5 then(nX f s 3).isSome && yz f l
    else yz f l
def yz (f : pW) : List Tree -> Bool
  | [] => true
  |t :: l => I9 f t && yz f l
end
theorem lI {w : World} {X : Nat} {a b c d e : Value} {t : TypeId} (h : w.heap[X]? = some (.cells #[a, b, c, d, e] t (0, 0))) : ((w.cell? ⟨X, 0, none⟩ = some a /\ w.cell? ⟨X, 1, none⟩ = some b /\ w.cell? ⟨X, 2, none⟩ = some c) /\ w.cell? ⟨X, 3, none⟩ = some d /\ w.cell? ⟨X, 4, none⟩ = some e) := by
  simp[World.cell?, h]
attribute [local go_sem ↓] fB
structure rW (C : Nat) (w : World) (cv : Value) (w' : World) (cv' : Value) : Prop where
  mv : Mv (λb => b = C \/ cv.ownBlock = some b) w w'
  own : ∀ g, cv'.ownBlock = some g -> cv.ownBlock = some g \/ w.heap.size <= g
theorem rW.refl (C : Nat) (w : World) (cv : Value) : rW C w cv w cv := ⟨Mv.refl _ _, λ_ h => .inl h⟩
theorem rW.trans {C : Nat} {w w1 w2 : World} {cv Mk BR : Value} (h : rW C w cv w1 Mk) (k : rW C w1 Mk w2 BR) : rW C w cv w2 BR :=
  ⟨h.mv.trans k.mv (λx e => by
    rcases e with e|e
    · exact .inl (.inl e)
    · rcases h.own x e with e|e
      · exact .inl (.inr e)
      · exact .inr e), λg hg => by
    rcases k.own g hg with e|e
    · exact h.own g e
    · exact .inr (Nat.le_trans h.mv.size e)⟩
theorem rW.grow {C : Nat} {w w1 : World} {cv : Value} (h : Grow w w1) : rW C w cv w1 cv := ⟨h.mono (λ_ e => e.elim), λ_ h => .inl h⟩
mutual
def JH (f : pW) : Tree -> Int -> List Ins
  |.mk k n s l, p =>
    if k = 1 then[⟨6, 1, n, 0, 0⟩, ⟨12, 1, 0, 0, 0⟩]
    else if k = 2 then[⟨10, 1, ((nX f s 1).getD noSlot).at', 0, 0⟩, ⟨3, 2, 1, 0, 0⟩, ⟨10, 1, ((nX f s 1).getD noSlot).at', 0, 0⟩, ⟨12, 2, 0, 0, 0⟩]
    else if k = 3 then(wQ f l p).getD 0 [] ++ [⟨13, 1, 0, 0, 0⟩, ⟨11, 2, 1, ((nX f s 2).getD noSlot).at', ((nX f s 2).getD noSlot).len⟩, ⟨3, 3, 2, 0, 0⟩, ⟨11, 2, 1, ((nX f s 2).getD noSlot).at', ((nX f s 2).getD noSlot).len⟩, ⟨12, 1, 0, 0, 0⟩, ⟨12, 3, 0, 0, 0⟩]
    else if k = 4 \/ k = 5 then[⟨if k = 5 then 15 else 14, 1, ((nX f s 3).getD noSlot).at', 0, 0⟩, ⟨12, 1, 0, 0, 0⟩]
    else if k = 6 then(wQ f l p).getD 0 [] ++ [⟨13, 1, 0, 0, 0⟩] ++ [⟨3, 3, 1, 0, 0⟩, ⟨8, 3, 0, 0, 0⟩] ++ [⟨12, 1, 0, 0, 0⟩, ⟨12, 3, 0, 0, 0⟩]
    else if k = 7 then(wQ f l p).getD 0 [] ++ [⟨13, 1, 0, 0, 0⟩] ++ [⟨9, 3, 1, 2, 16⟩] ++ [⟨12, 1, 0, 0, 0⟩, ⟨12, 3, 0, 0, 0⟩]
    else(wQ f l p).getD 0 [] ++ [⟨13, 1, 0, 0, 0⟩, ⟨10, 1, f.cells + p, 0, 0⟩] ++ (wQ f l p).getD 1 [] ++ [⟨13, 2, 0, 0, 0⟩, ⟨10, 1, f.cells + p, 0, 0⟩, ⟨9, 3, 1, 2, k⟩, ⟨12, 1, 0, 0, 0⟩, ⟨12, 2, 0, 0, 0⟩, ⟨12, 3, 0, 0, 0⟩]
def wQ (f : pW) : List Tree -> Int -> List (List Ins)
  | [], _ => []
  |t :: l, p => JH f t p :: wQ f l (p + 1)
end
structure lF where
  code : List Ins
  refs : List uC
def Sv : lF := ⟨[], []⟩
def TI (f : pW) (e : Tree) : List Ins := JH f e 0
attribute [local go_sem ↓] fB
theorem Bw {w : World} {X : Nat} {a b c d e : Value} {t : TypeId} (h : w.heap[X]? = some (.cells #[a, b, c, d, e] t (0, 0))) (p q r s u : Value) :
    (((((w.setCell ⟨X, 0, none⟩ p).setCell ⟨X, 1, none⟩ q).setCell ⟨X, 2, none⟩ r).setCell ⟨X, 3, none⟩ s).setCell ⟨X, 4, none⟩ u).heap[X]? = some (.cells #[p, q, r, s, u] t (0, 0)) /\ Mv (λb => b = X) w (((((w.setCell ⟨X, 0, none⟩ p).setCell ⟨X, 1, none⟩ q).setCell ⟨X, 2, none⟩ r).setCell ⟨X, 3, none⟩ s).setCell ⟨X, 4, none⟩ u) := by
  constructor
  · have h1 := block_setCell (p := ⟨X, 0, none⟩) h rfl p
    have h2 := block_setCell (p := ⟨X, 1, none⟩) h1 rfl q
    have h3 := block_setCell (p := ⟨X, 2, none⟩) h2 rfl r
    have h4 := block_setCell (p := ⟨X, 3, none⟩) h3 rfl s
    have h5 := block_setCell (p := ⟨X, 4, none⟩) h4 rfl u
    simpa using h5
  · exact(((((Mv.refl (λb => b = X) w).setCell (p := ⟨X, 0, none⟩) (.inl rfl) p).setCell (p := ⟨X, 1, none⟩) (.inl rfl) q).setCell (p := ⟨X, 2, none⟩) (.inl rfl) r).setCell (p := ⟨X, 3, none⟩) (.inl rfl) s).setCell (p := ⟨X, 4, none⟩) (.inl rfl) u
theorem cell1 {w : World} {X : Nat} {a : Value} {t : TypeId} {z : Nat × Nat} (h : w.heap[X]? = some (.cells #[a] t z)) : w.cell? ⟨X, 0, none⟩ = some a := by simp[World.cell?, h]
theorem Eg {w : World} {X : Nat} {a b : Value} {t : TypeId} {z : Nat × Nat} (h : w.heap[X]? = some (.cells #[a, b] t z)) : w.cell? ⟨X, 0, none⟩ = some a /\ w.cell? ⟨X, 1, none⟩ = some b := by simp[World.cell?, h]
theorem set1 {w : World} {X : Nat} {a : Value} {t : TypeId} (h : w.heap[X]? = some (.cells #[a] t (0, 0))) (p : Value) :
    (w.setCell ⟨X, 0, none⟩ p).heap[X]? = some (.cells #[p] t (0, 0)) /\ Mv (λb => b = X) w (w.setCell ⟨X, 0, none⟩ p) :=
  ⟨by have h1 := block_setCell (p := ⟨X, 0, none⟩) h rfl p; simpa using h1, (Mv.refl (λb => b = X) w).setCell (.inl rfl) _⟩
theorem rX {w : World} {X : Nat} {a b c : Value} {t : TypeId} (h : w.heap[X]? = some (.cells #[a, b, c] t (0, 0))) (p q r : Value) :
    (((w.setCell ⟨X, 0, none⟩ p).setCell ⟨X, 1, none⟩ q).setCell ⟨X, 2, none⟩ r).heap[X]? = some (.cells #[p, q, r] t (0, 0)) /\ Mv (λb => b = X) w (((w.setCell ⟨X, 0, none⟩ p).setCell ⟨X, 1, none⟩ q).setCell ⟨X, 2, none⟩ r) :=
  ⟨by
    have h1 := block_setCell (p := ⟨X, 0, none⟩) h rfl p
    have h2 := block_setCell (p := ⟨X, 1, none⟩) h1 rfl q
    have h3 := block_setCell (p := ⟨X, 2, none⟩) h2 rfl r
    simpa using h3, (((Mv.refl (λb => b = X) w).setCell (.inl rfl) _).setCell (.inl rfl) _).setCell (.inl rfl) _⟩
def iK (w : World) (v : Value) (p : lF) : Prop := ∃ ca cc ra rc, v = .agg #[.slice ca p.code.length cc, .slice ra p.refs.length rc] /\ ay 5 Ins.cells w (.slice ca p.code.length cc) p.code /\ ay 2 uC.cells w (.slice ra p.refs.length rc) p.refs
theorem iK.mk {w : World} {cv rv : Value} {p : lF} (h1 : ay 5 Ins.cells w cv p.code) (h2 : ay 2 uC.cells w rv p.refs) : iK w (.agg #[cv, rv]) p := by
  obtain⟨ca, cc, rfl, -, -⟩ := h1.form
  obtain⟨ra, rc, rfl, -, -⟩ := h2.form
  exact⟨ca, cc, ra, rc, rfl, h1, h2⟩
theorem iK.later {w w' : World} {v : Value} {p : lF} (h : iK w v p) (hm : Grow w w') : iK w' v p := by
  obtain⟨ca, cc, ra, rc, hv, h1, h2⟩ := h
  exact⟨ca, cc, ra, rc, hv, h1.later hm, h2.later hm⟩
def Ta (p : Value × Value) : List Value := [p.1, p.2]
def uE (w : World) (v : Value) (l : List lF) : Prop := ∃ vs : List (Value × Value), vs.length = l.length /\ ay 2 Ta w v vs /\ ∀ i (h : i < vs.length) (h' : i < l.length), iK w (.agg #[vs[i].1, vs[i].2]) l[i]
theorem uE.later {w w' : World} {v : Value} {l : List lF} (h : uE w v l) (hm : Grow w w') : uE w' v l := by
  obtain⟨vs, h1, h2, h3⟩ := h
  exact⟨vs, h1, h2.later hm, λi hi hi' => (h3 i hi hi').later hm⟩
theorem uE.form {w : World} {v : Value} {l : List lF} (h : uE w v l) : ∃ a c, v = .slice a l.length c /\ l.length <= c /\ l.length <= 9223372036854775807 := by
  obtain⟨vs, h1, h2, h3⟩ := h
  obtain⟨a, c, e, h4, h5⟩ := h2.form
  exact⟨a, c, by rw[← h1]; exact e, by omega, by omega⟩
theorem Ja {α : Type} {n : Nat} {f : α -> List Value} {x y : World} {v : Value} {l : List α} {g : Nat} {a b : Option Addr × Nat × Nat} {t : TypeId} (h : ay n f x v l) (hf : ∀ u, ∃ c, (f u)[0]? = some c /\ ∀ a m k, c ≠ .slice a m k)
    (hb : x.heap[g]? = some (.cells #[.slice a.1 a.2.1 a.2.2, .slice b.1 b.2.1 b.2.2] t (0, 0))) (hm : Mv (λb => b = g) x y) : ay n f y v l := by
  cases l with
  |nil =>
    obtain⟨a, cap, e, h1, h2, _⟩ := h
    exact⟨a, cap, e, h1, h2, λi x hx => by simp at hx⟩
  |cons u l =>
    refine h.stay hm (λq hq e => ?_)
    subst e
    obtain⟨b', off, cap, e, _, hc⟩ := h.at (i := 0) (by simp)
    rw[e]at hq
    simp only[Value.ownBlock, Option.some.injEq]at hq
    subst hq
    obtain⟨c, hc0, hns⟩ := hf u
    have h0 := hc 0 c (by simpa using hc0)
    simp only[World.cell?, hb]at h0
    rcases Nat.lt_or_ge (off + 0 * n + 0) 2 with h2|h2
    · have : off + 0 * n + 0 = 0 \/ off + 0 * n + 0 = 1 := by omega
      rcases this with e0|e0 <;> rw[e0]at h0 <;> simp at h0 <;> exact hns _ _ _ h0.symm
    · simp only[Array.getElem?_eq_none (show(#[Value.slice a.1 a.2.1 a.2.2, .slice b.1 b.2.1 b.2.2] : Array Value).size <= off + 0 * n + 0 from h2)]at h0
      cases h0
def Ua : Array Value := #[.slice none 0 0, .slice none 0 0]
theorem iK.box {x y : World} {v : Value} {p : lF} {g : Nat} {t : TypeId} (h : iK x v p) (hb : x.heap[g]? = some (.cells #[.slice none 0 0, .slice none 0 0] t (0, 0))) (hm : Mv (λb => b = g) x y) : iK y v p := by
  obtain⟨ca, cc, ra, rc, hv, h1, h2⟩ := h
  exact⟨ca, cc, ra, rc, hv, Ja (a := (none, 0, 0)) (b := (none, 0, 0)) h1 (λu => ⟨_, rfl, by simp⟩) hb hm, Ja (a := (none, 0, 0)) (b := (none, 0, 0)) h2 (λu => ⟨_, rfl, by simp⟩) hb hm⟩
theorem sP {Zs : List (Array Value × TypeId)} {b : Bool} {p : lF} (hz : ∀ z ∈ Zs, z.1 = Ua := by intro z hz; simp[Kd.zero, Sp.k]at hz <;> (subst hz; rfl)) : nQ (λv y => iK y v p) /\ (b = false -> pR Zs (λv y => iK y v p)) :=
  ⟨λv x y hg h => h.later hg, λ_ z h g v x y hb hm h' => iK.box h' (by rw[hz z h]at hb; exact hb) hm⟩
theorem sQ {Zs : List (Array Value × TypeId)} {b : Bool} {F U : Nat -> Value} {l : List lF} (hb : b = true := by rfl) : nQ (λv y => ∃ g, v = F g /\ uE y (U g) l) /\ (b = false -> pR Zs (λv y => ∃ g, v = F g /\ uE y (U g) l)) := ⟨λv x y hg h => by obtain⟨g, hv, hb⟩ := h; exact⟨g, hv, hb.later hg⟩, λh => by rw[hb]at h; cases h⟩
theorem gtr {a b c : World} (h : Grow a b) (k : Grow b c) : Grow a c := Mv.trans h k (λ_ e => e.elim)
attribute [local go_sem ↓] fB
theorem bM {α : Type} {f : α -> List Value} {n e base : Nat} {w : World} {v : Value} {l : List α} {g : Nat} {cs : Array Value} {t : TypeId} {z : Nat × Nat} (h : w.ownsRow base e n v l.length (flat f l)) (hb : w.heap[g]? = some (.cells cs t z)) (ht : t ≠ e) : v.ownBlock ≠ some g := by
  intro e'
  rcases h.2 with⟨rfl, _⟩|⟨g', cap, cur, rfl, _, hg, _⟩
  · simp[Value.ownBlock]at e'
  · simp[Value.ownBlock]at e'
    subst e'
    rw[hb]at hg
    simp only[Option.some.injEq, Obj.cells.injEq]at hg
    exact ht hg.2.1
structure wT (w : World) (b o : Nat) (y : ae) : Prop where
  at_ : bJ w y
  cell : ∀ (j : Nat) (u : Value), y.cells[j]? = some u -> w.cell? ⟨b, o + j, none⟩ = some u
theorem wT.later {w w' : World} {b o : Nat} {y : ae} (h : wT w b o y) (hm : Grow w w') : wT w' b o y := by
  refine⟨h.at_.later hm, λj u hu => ?_⟩
  have h1 := h.cell j u hu
  have hb := World.block_lt_of_cell? w _ h1
  rw[World.cell?_of_block (w := w) (w' := w') (a := ⟨b, o + j, none⟩) (hm.block b hb (λe => e))]
  exact h1
theorem wT.four {w : World} {b o : Nat} {k n : Int} {s : ByteArray} {kv : Value} {l : List ae} (h : wT w b o (.mk k n s kv l)) : (w.cell? ⟨b, o, none⟩ = some (.int .u8 k) /\ w.cell? ⟨b, o + 1, none⟩ = some (.int .i64 n)) /\ w.cell? ⟨b, o + 2, none⟩ = some (.string s) /\ w.cell? ⟨b, o + 3, none⟩ = some kv :=
  ⟨⟨h.cell 0 _ rfl, h.cell 1 _ rfl⟩, h.cell 2 _ rfl, h.cell 3 _ rfl⟩
theorem rF {w : World} {k n : Int} {s : ByteArray} {b off len cap : Nat} {l : List ae} (h : bJ w (.mk k n s (.slice (some ⟨b, off, none⟩) len cap) l)) (i : Nat) (hi : i < l.length) : wT w b (off + i * 4) l[i] :=
  ⟨h.row.2.2.2.2 _ (List.getElem_mem hi), λj u hu => h.row.2.2.2.1.at' hi j u hu⟩
structure XW (f : pW) (t : Tree) : Prop where
  e : aN t = true
  s : I9 f t = true
  d : Js t <= 10000
  l : (TI f t).length <= 20000
def BS (x : World) : List (Value × Value) -> List lF -> Prop
  |a :: vs, p :: l => iK x (.agg #[a.1, a.2]) p /\ BS x vs l
  | [], [] => True
  |_, _ => False
theorem BS.at {x : World} : ∀ {vs : List (Value × Value)} {l : List lF}, BS x vs l -> vs.length = l.length /\ ∀ i (h : i < vs.length) (h' : i < l.length), iK x (.agg #[vs[i].1, vs[i].2]) l[i]
  | [], [], _ => ⟨rfl, λi h => by simp at h⟩
  |a :: vs, p :: l, h => by
    obtain⟨h1, h2⟩ := BS.at h.2
    refine⟨by simp[h1], λi hi hi' => ?_⟩
    cases i with
    |zero => exact h.1
    |succ i => exact h2 i (by simpa using hi) (by simpa using hi')
theorem iK.none (w : World) : iK w (.agg #[.slice none 0 0, .slice none 0 0]) Sv := iK.mk (ay.nil _ _ _) (ay.nil _ _ _)
def jA (k n : Int) : Bool := if k = 1 \/ k = 3 then n == 0 else if k = 2 then decide (1 <= n) && decide (n <= 16)else false
def au.okB (v : au) : Bool := jA v.kind v.len
def mK (l : List au) : Bool := decide (l.length <= 32) && l.all au.okB
theorem O7 (l : List au) (k : Nat) (h : k < l.length) : (l.take (k + 1)).all au.okB = ((l.take k).all au.okB && l[k].okB) := by
  rw[List.take_succ_eq_append_getElem h, List.all_append]; simp
theorem Qe (l : List au) (k : Nat) (h : k < l.length) (hf : l[k].okB = false) : l.all au.okB = false := by
  apply Bool.eq_false_iff.2
  intro ha
  have := List.all_eq_true.1 ha l[k] (List.getElem_mem h)
  rw[hf]at this; cases this
set_option maxRecDepth 100000 in
set_option maxHeartbeats 6400000 in
theorem Qf (v : Value) (l : List au) (w : World) (h : ay 3 au.cells w v l) : Calls Tryz.prog 110 #[v] w (fq w (mK l)) := by
  obtain⟨va, vc, rfl, lZ, hvl⟩ := h.form
  have HR := Lib.hid h
  clear h
  by_cases h32 : l.length <= 32
  · have HV := Lib.hid (show mK l = l.all au.okB from by simp[mK, h32])
    go_enter Tryz.func110, Tryz.ntmps110
    go_wp2_with fail
    go_loopw [10] (λt wr => ∃ k : Nat, t = .int .i64 k /\ k <= l.length /\ Grow w wr /\ (l.take k).all au.okB = true) (λt _ => l.length - (intOf t).toNat)
    case atStart => exact⟨0, rfl, Nat.zero_le _, Mv.refl _ _, rfl⟩
    obtain⟨k, rfl, hk, hg, hall⟩ := hrel
    have HG := Lib.hid hg
    have HA := Lib.hid hall
    clear hall hg
    by_cases hlt : k < l.length
    · obtain⟨b, off, cap', e, _, hcc⟩ := (HR.out.later HG.out).at hlt
      simp only[Value.slice.injEq, true_and]at e
      obtain⟨rfl, rfl⟩ := e
      have c0 := hcc 0 _ rfl
      have c1 := hcc 1 _ rfl
      have c2 := hcc 2 _ rfl
      have HT := Lib.hid (λ(h : l[k].okB = true) => show(l.take (k + 1)).all au.okB = true from by rw[O7 l k hlt, HA.out, h]; rfl)
      have HF := Lib.hid (λ(h : l[k].okB = false) => show mK l = false from by rw[HV.out]; exact Qe l k hlt h)
      have bF := Lib.hid (show l[k].okB = jA l[k].kind l[k].len from rfl)
      generalize l[k] = x at *
      obtain⟨xs, xk, xn⟩ := x
      simp only[Nat.add_zero]at c0 c1 c2 bF
      have hbl : b < wr.heap.size := World.block_lt_of_cell? wr _ c0
      clear hcc
      have hcs : xk = 1 \/ xk = 3 \/ xk = 2 \/ (xk ≠ 1 /\ xk ≠ 3 /\ xk ≠ 2) := by omega
      rcases hcs with rfl|rfl|rfl|⟨n1, n3, n2⟩
      · by_cases hn : xn = 0
        · subst hn
          have HX := Lib.hid (HT.out (by rw[bF.out]; rfl))
          clear HT HF
          go_wp2_with fail
          go_roundw
          case rel => exact⟨k + 1, by go_num, by omega, HG.out.alloc _, HX.out⟩
          case measure => (simp[intOf] <;> omega)
        · have HX := Lib.hid (HF.out (by rw[bF.out]; simp[jA, hn]))
          have hb : (xn != 0) = true := by simpa using hn
          clear HT HF hn
          go_wp2_with fail
          go_ret
          exact⟨aU HX.out.symm, HG.out.alloc _⟩
      · by_cases hn : xn = 0
        · subst hn
          have HX := Lib.hid (HT.out (by rw[bF.out]; rfl))
          clear HT HF
          go_wp2_with fail
          go_roundw
          case rel => exact⟨k + 1, by go_num, by omega, HG.out.alloc _, HX.out⟩
          case measure => (simp[intOf] <;> omega)
        · have HX := Lib.hid (HF.out (by rw[bF.out]; simp[jA, hn]))
          have hb : (xn != 0) = true := by simpa using hn
          clear HT HF hn
          go_wp2_with fail
          go_ret
          exact⟨aU HX.out.symm, HG.out.alloc _⟩
      · by_cases h1 : 1 <= xn
        · by_cases h16 : xn <= 16
          · have HX := Lib.hid (HT.out (by rw[bF.out]; simp[jA, h1, h16]))
            have hd1 : decide (xn < 1) = false := by simp; omega
            have hd2 : decide (16 < xn) = false := by simp; omega
            clear HT HF
            go_wp2_with fail
            go_roundw
            case rel => exact⟨k + 1, by go_num, by omega, HG.out.alloc _, HX.out⟩
            case measure => (simp[intOf] <;> omega)
          · have HX := Lib.hid (HF.out (by rw[bF.out]; simp[jA]; omega))
            have hd1 : decide (xn < 1) = false := by simp; omega
            have hd2 : decide (16 < xn) = true := by simp; omega
            clear HT HF
            go_wp2_with fail
            go_ret
            exact⟨aU HX.out.symm, HG.out.alloc _⟩
        · have HX := Lib.hid (HF.out (by rw[bF.out]; simp[jA]; omega))
          have hd1 : decide (xn < 1) = true := by simp; omega
          clear HT HF
          go_wp2_with fail
          go_ret
          exact⟨aU HX.out.symm, HG.out.alloc _⟩
      · have HX := Lib.hid (HF.out (by rw[bF.out]; simp[jA, n1, n2, n3]))
        have e1 : (xk == 1) = false := by simpa using n1
        have e2 : (xk == 2) = false := by simpa using n2
        have e3 : (xk == 3) = false := by simpa using n3
        clear HT HF n1 n2 n3
        go_wp2_with fail
        go_ret
        exact⟨aU HX.out.symm, HG.out.alloc _⟩
    · have HX := Lib.hid (show mK l = true from by rw[HV.out, ← HA.out, show k = l.length from by omega, List.take_length])
      go_wp2_with fail
      go_ret
      exact⟨aU HX.out.symm, HG.out⟩
  · have HV := Lib.hid (show mK l = false from by simp[mK, h32])
    have hd : decide (32 < (l.length : Int)) = true := by simp; omega
    go_enter Tryz.func110, Tryz.ntmps110
    go_wp2_with fail
    go_ret
    exact⟨aU HV.out.symm, Mv.refl _ _⟩
def D6 (v : au) : Int := if v.kind = 1 then 1 else v.len
set_option maxRecDepth 100000 in
set_option maxHeartbeats 1600000 in
theorem Xm (v : au) (w : World) : Calls Tryz.prog 111 #[v.val] w λe w' => e = .returned (.int .i64 (D6 v)) /\ Grow w w' := by
  obtain⟨s, k, n⟩ := v
  by_cases hk : k = 1
  · subst hk
    go_enter Tryz.func111, Tryz.ntmps111
    go_wp2_with fail
    go_ret
    exact⟨rfl, (Mv.refl _ _).alloc _⟩
  · have e1 : (k == 1) = false := by simpa using hk
    have HF := Lib.hid (show D6 ⟨s, k, n⟩ = n from by simp[D6, hk])
    clear hk
    go_enter Tryz.func111, Tryz.ntmps111
    go_wp2_with fail
    go_ret
    exact⟨cZ HF.out.symm, (Mv.refl _ _).alloc _⟩
set_option maxRecDepth 100000 in
set_option maxHeartbeats 1600000 in
theorem wB (w : World) : Calls Tryz.prog 22 #[.slice none 0 0] w λe w' => e = .returned (.slice none 0 0) /\ Grow w w' := by
  have heq : (binOp .eql 22 (.slice none 0 0) (.slice none 0 0)).run Tryz.prog w = .ok (.bool true) w := by
    have := Lib.run_eql_slice_nil (P := Tryz.prog) w 22 3 none 0 0 0 0 Tryz.underlying22
    simpa using this
  go_enter Tryz.func22, Tryz.ntmps22
  go_wp2_with fail
  go_ret
  exact⟨rfl, Mv.refl _ _⟩
attribute [local go_sem ↓] fB
theorem Tryz.DT : (Tryz.prog.info? 3).map (λi => (i.zero, i.size, i.bytes)) = some (some (.int .i64 0), 1, 8) := by kernel_rfl
theorem Tryz.IA : (Tryz.prog.info? 22).map (λi => (i.zero, i.size, i.bytes)) = some (some (.slice none 0 0), 1, 24) := by kernel_rfl
theorem Tryz.Rx : Elem Tryz.prog 52 22 1 24 := Elem.of Tryz.underlying52 Tryz.IA rfl (by decide) (by decide)
def JV (v : Value) : List Value := [v]
theorem Sw {w : World} {X : Nat} {a b c : Value} {t : TypeId} (h : w.heap[X]? = some (.cells #[a, b, c] t (0, 0))) (p : Value) :
    (w.setCell ⟨X, 0, none⟩ p).heap[X]? = some (.cells #[p, b, c] t (0, 0)) /\ Mv (λb => b = X) w (w.setCell ⟨X, 0, none⟩ p) :=
  ⟨by have h1 := block_setCell (p := ⟨X, 0, none⟩) h rfl p; simpa using h1, (Mv.refl (λb => b = X) w).setCell (.inl rfl) _⟩
abbrev D7 (w : World) (base : Nat) (v : Value) (l : List Value) : Prop := w.ownsRow base 22 1 v l.length (flat JV l)
structure oQ (w : World) (X : Nat) (x : World) (cv : Value) (l : List Value) : Prop where
  g : Grow w x
  blk : x.heap[X]? = some (.cells #[cv, .slice none 0 0, .slice none 0 0] 54 (0, 0))
  res : x.heap[w.heap.size]? = some (.cells #[.slice none 0 0, .slice none 0 0, .slice none 0 0] 54 (0, 0))
  row : D7 x w.heap.size cv l
  hX : w.heap.size < X
theorem oQ.grow {w x y : World} {X : Nat} {cv : Value} {l : List Value} (h : oQ w X x cv l) (hm : Grow x y) : oQ w X y cv l := ⟨gtr h.g hm, ai h.blk hm, ai h.res hm, aZ h.row hm (λ_ _ e => e), h.hX⟩
theorem oQ.drew {w x : World} {X : Nat} {cv : Value} {l : List Value} (h : oQ w X x cv l) : oQ w X x.drew cv l := ⟨Mv.drew h.g, h.blk, h.res, h.row, h.hX⟩
def uF (w : World) (X : Nat) (y : World) (cv : Value) : Prop := Grow w y /\ y.heap[X]? = some (.cells #[cv, .slice none 0 0, .slice none 0 0] 54 (0, 0)) /\ y.heap[w.heap.size]? = some (.cells #[.slice none 0 0, .slice none 0 0, .slice none 0 0] 54 (0, 0)) /\ w.heap.size < X
theorem oQ.app {w x y : World} {X : Nat} {cv : Value} {l : List Value} (h : oQ w X x cv l) (hm : Mv (λb => cv.ownBlock = some b) x y) : uF w X y cv :=
  ⟨h.g.trans hm (λb e => .inr (h.row.lt b e).1), by rw[hm.block _ (lt_of_block h.blk) (λe => bM h.row h.blk (by decide) e)]; exact h.blk, by rw[hm.block _ (lt_of_block h.res) (λe => bM h.row h.res (by decide) e)]; exact h.res, h.hX⟩
theorem uF.grow {w x y : World} {X : Nat} {cv : Value} (h : uF w X x cv) (hm : Grow x y) : uF w X y cv := ⟨gtr h.1 hm, ai h.2.1 hm, ai h.2.2.1 hm, h.2.2.2⟩
theorem uF.store {w y : World} {X : Nat} {cv v : Value} {l : List Value} (h : uF w X y cv) (hr : D7 y w.heap.size v l) : oQ w X (y.setCell ⟨X, 0, none⟩ v) v l := by
  obtain⟨h1, h2, h3, h4⟩ := h
  obtain⟨hb, hm⟩ := Sw h2 v
  exact⟨h1.trans hm (λb e => .inr (by omega)), hb, by rw[hm.block _ (lt_of_block h3) (λe => by omega)]; exact h3, aZ hr hm (λg hg e => by subst e; exact bM hr h2 (by decide) hg), h4⟩
def YN (X : Nat) (cv vv : Value) (fx : Int) (w : World) (cs : List Value) : Nat -> List Value -> World -> Prop
  |0, [v], _ => v = .pointer (some ⟨X, 0, none⟩)
  |1, [v], _ => v = cv
  |2, [v], _ => v = vv
  |3, [v], _ => v = .int .i64 fx
  |4, [v], _ => ∃ a n c, v = .slice a n c
  |5, [v], x => ∃ g u, v = .slice (some ⟨g, 0, none⟩) 1 1 /\ u.oneCell' = true /\ ay 1 JV x (.slice (some ⟨g, 0, none⟩) 1 1) [u]
  |6, [v], x => ∃ a c u, v = .slice a (cs.length + 1) c /\ D7 x w.heap.size (.slice a (cs.length + 1) c) (cs ++ [u]) /\ uF w X x cv
  |7, [v], _ => v = .pointer (some ⟨X, 0, none⟩)
  |8, _, x => ∃ BR u, oQ w X x BR (cs ++ [u])
  |_, _, _ => True
section
variable {X : Nat} {cv vv : Value} {fx : Int} {w x y : World} {cs : List Value}
theorem YN.grow (h : Grow x y) : ∀ j l, YN X cv vv fx w cs j l x -> YN X cv vv fx w cs j l y := by
  intro j l hy
  unfold YN at hy ⊢
  split <;> first
    |(obtain⟨g, u, h1, h2, h3⟩ := hy; exact⟨g, u, h1, h2, h3.later h⟩)
    |(obtain⟨a, c, u, h1, h2, h3⟩ := hy; exact⟨a, c, u, h1, aZ h2 h (λ_ _ e => e), h3.grow h⟩)
    |(obtain⟨a, c, h1⟩ := hy; exact⟨a, c, h1.grow h⟩)
    |exact hy
    |trivial
theorem YN.keep : ∀ j l, ¬ j = 4 -> ¬ j = 5 -> ¬ j = 6 -> ¬ j = 8 -> YN X cv vv fx w cs j l x -> YN X cv vv fx w cs j l y := by
  intro j l h4 h5 h6 h8 hy
  unfold YN at hy ⊢
  split <;> first
    |exact absurd rfl h4
    |exact absurd rfl h5
    |exact absurd rfl h6
    |exact absurd rfl h8
    |exact hy
    |trivial
end
attribute [local go_sem ↓] fB
theorem Sy {w : World} {X : Nat} {a b c d : Value} {t : TypeId} (h : w.heap[X]? = some (.cells #[a, b, c, d] t (0, 0))) (p : Value) :
    (w.setCell ⟨X, 3, none⟩ p).heap[X]? = some (.cells #[a, b, c, p] t (0, 0)) /\ Mv (λb => b = X) w (w.setCell ⟨X, 3, none⟩ p) :=
  ⟨by have h1 := block_setCell (p := ⟨X, 3, none⟩) h rfl p; simpa using h1, (Mv.refl (λb => b = X) w).setCell (.inl rfl) _⟩
end Go.Proofs.YtbpodipdfohikaaGreat
