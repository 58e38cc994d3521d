import Derived.Test.YtbpodipdfohikaaGreatL35
import Derived.Test.YtbpodipdfohikaaGreatL32
set_option linter.unusedSimpArgs false
set_option linter.unusedVariables false
set_option maxRecDepth 100000
set_option maxHeartbeats 25600000
namespace Go.Proofs.YtbpodipdfohikaaGreat
open Go.RowKit Go.Instr
attribute [local go_sem ↓] fB
theorem eB {w : World} {g g' : Nat} {cs cs' : Array Value} {t t' : TypeId} {z z' : Nat × Nat} (h : w.heap[g]? = some (.cells cs t z)) (h' : w.heap[g']? = some (.cells cs' t' z')) (ht : t ≠ t') : g ≠ g' := λe => by
  subst e; rw[h]at h'; simp only[Option.some.injEq, Obj.cells.injEq]at h'; exact ht h'.2.1
theorem Dk {α : Type} (p : α -> Bool) : ∀ (l : List α) (i : Nat) (hi : i < l.length), p l[i] = true -> (∀ j (hj : j < l.length), j < i -> p l[j] = false) -> l.findIdx? p = some i
  | [], i, hi, _, _ => by simp at hi
  |a :: l, 0, _, h, _ => by
    simp only[List.getElem_cons_zero]at h
    simp[List.findIdx?_cons, h]
  |a :: l, i + 1, hi, h, hn => by
    have h0 := hn 0 (by simp) (by omega)
    simp only[List.getElem_cons_zero]at h0
    have := Dk p l i (by simpa using hi) (by simpa using h) (λj hj hji => by have := hn (j + 1) (by simpa using hj) (by omega); simpa using this)
    simp[List.findIdx?_cons, h0, this]
theorem lL.start {wb w w' : World} {S T : Nat} {L : List (List Int)} {aH : List Nat} {dm : List Value} {u1 u2 : Value} {R : Nat} {ev : Value} {el : List Int} {vars : List au} {p : az} {fuel k : Nat} (h : lL wb w S T vars L vars.length aH dm u1 u2) (hg : Grow w w')
    (hR : w'.heap[R]? = some (.cells (p.cells ++ [.pointer (some ⟨S, 0, none⟩), .int .i64 0, .int .i64 fuel, ev]).toArray 99 (0, 0))) (hRl : w.heap.size <= R) (he : w'.ownsRow w.heap.size 3 1 ev el.length (flat aB el)) (hel : el.length = p.procs.length)
    (hlen : L.length = vars.length) (hL : ∀ i (h : i < L.length), L[i].length <= 1000) (hk : vars.length <= k) (hk2 : k <= 1000) (hf : fuel <= 500000) : ∃ x : aK, x.R = R /\ x.S = S /\ (∀ b, w'.heap.size <= b -> x.ρ b = .other) /\ (∀ b cs z, w'.heap[b]? = some (.cells cs 97 z) -> x.ρ b = .other) /\ aG wb p fuel k w' x ⟨L, ⟨vars.zipIdx, 0⟩, [], 0⟩ := by
  have h' := h.later hg
  have hsz := h.g.size
  have hla := h.la
  have YE := h.li
  let ρ : Nat -> gQ := λg => if g = R then .run else if g = S then .store else if g = T then .tape else if ev.ownBlock = some g then .fI else if u1.ownBlock = some g then .vars 0 else if u2.ownBlock = some g then .cls 0 else match aH.findIdx? (λa => a == g)with
    |some i => .cell i
    |none => match dm.findIdx? (λv => v.ownBlock == some g)with
      |some i => .items i
      |none => .other
  have WM : S ≠ R := eB h'.store hR (by decide)
  have WN : T ≠ R := eB h'.tape hR (by decide)
  have WO : T ≠ S := eB h'.tape h'.store (by decide)
  have hcell : ∀ i (hi : i < aH.length), w'.heap[aH[i]]? = some (.cells #[dm[i]'(by omega)] 138 (0, 0)) /\ wb.heap.size <= aH[i] /\ w'.ownsRow wb.heap.size 3 1 (dm[i]'(by omega)) (L[i]'(by omega)).length (flat aB (L[i]'(by omega))) := λi hi => h'.cell i hi (by omega) (by omega)
  have rE : ∀ g, ev.ownBlock = some g -> ρ g = .fI := λg hg' => by
    obtain⟨-, cs, z, hb⟩ := bH he g hg'
    have e1 := eB hb hR (by decide)
    have e2 := eB hb h'.store (by decide)
    have e3 := eB hb h'.tape (by decide)
    simp only[ρ, e1, e2, e3, hg', if_true, if_false]
  have rV : ∀ g, u1.ownBlock = some g -> ρ g = .vars 0 := λg hg' => by
    obtain⟨-, cs, z, hb⟩ := bH h'.vars g hg'
    have e1 := eB hb hR (by decide)
    have e2 := eB hb h'.store (by decide)
    have e3 := eB hb h'.tape (by decide)
    have e4 := bM he hb (by decide)
    simp only[ρ, e1, e2, e3, e4, hg', if_true, if_false]
  have rC : ∀ g, u2.ownBlock = some g -> ρ g = .cls 0 := λg hg' => by
    obtain⟨-, cs, z, hb⟩ := bH h'.cls g hg'
    have e1 := eB hb hR (by decide)
    have e2 := eB hb h'.store (by decide)
    have e3 := eB hb h'.tape (by decide)
    have e4 := bM he hb (by decide)
    have e5 := bM h'.vars hb (by decide)
    simp only[ρ, e1, e2, e3, e4, e5, hg', if_true, if_false]
  have rA : ∀ i (hi : i < aH.length), ρ aH[i] = .cell i := λi hi => by
    have hb := (hcell i hi).1
    have e1 := eB hb hR (by decide)
    have e2 := eB hb h'.store (by decide)
    have e3 := eB hb h'.tape (by decide)
    have e4 := bM he hb (by decide)
    have e5 := bM h'.vars hb (by decide)
    have e6 := bM h'.cls hb (by decide)
    have e7 : aH.findIdx? (λa => a == aH[i]) = some i := Dk _ _ i hi (by simp) (λj hj hji => by
      have := List.pairwise_iff_getElem.1 h.da j i hj hi hji
      simpa using this)
    simp only[ρ, e1, e2, e3, e4, e5, e6, e7, if_false]
  have rI : ∀ i (hi : i < dm.length), ∀ g, dm[i].ownBlock = some g -> ρ g = .items i := λi hi g hg' => by
    have hc := (h.cell i (by omega) hi (by omega)).2.2
    obtain⟨-, cs, z, hb0⟩ := bH hc g hg'
    have hb := ai hb0 hg
    have e1 := eB hb hR (by decide)
    have e2 := eB hb h'.store (by decide)
    have e3 := eB hb h'.tape (by decide)
    have e4 : ev.ownBlock ≠ some g := λe => by have h1 := (bH he g e).1; have h2 := lt_of_block hb0; omega
    have e5 := bM h'.vars hb (by decide)
    have e6 := bM h'.cls hb (by decide)
    have e7 : aH.findIdx? (λa => a == g) = none := by
      rw[List.findIdx?_eq_none_iff]
      intro a ha
      obtain⟨j, hj, rfl⟩ := List.getElem_of_mem ha
      have := eB hb (hcell j hj).1 (by decide)
      simpa using λe => this e.symm
    have e8 : dm.findIdx? (λv => v.ownBlock == some g) = some i := Dk _ _ i hi (by simp[hg']) (λj hj hji => by
      have := List.pairwise_iff_getElem.1 h.di j i hj hi hji
      have hn : dm[j].ownBlock ≠ some g := λe => this g e hg'
      simpa using hn)
    simp only[ρ, e1, e2, e3, e4, e5, e6, e7, e8, if_false]
  have rO : ∀ g cs z, w'.heap[g]? = some (.cells cs 97 z) -> ρ g = .other := λg cs z hb => by
    have e1 := eB hb hR (by decide)
    have e2 := eB hb h'.store (by decide)
    have e3 := eB hb h'.tape (by decide)
    have e4 := bM he hb (by decide)
    have e5 := bM h'.vars hb (by decide)
    have e6 := bM h'.cls hb (by decide)
    have e7 : aH.findIdx? (λa => a == g) = none := by
      rw[List.findIdx?_eq_none_iff]
      intro a ha
      obtain⟨j, hj, rfl⟩ := List.getElem_of_mem ha
      have := eB hb (hcell j hj).1 (by decide)
      simpa using λe => this e.symm
    have e8 : dm.findIdx? (λv => v.ownBlock == some g) = none := by
      rw[List.findIdx?_eq_none_iff]
      intro v hv
      obtain⟨j, hj, rfl⟩ := List.getElem_of_mem hv
      have := bM (h'.cell j (by omega) hj (by omega)).2.2 hb (by decide)
      simpa using this
    simp only[ρ, e1, e2, e3, e4, e5, e6, e7, e8, if_false]
  have UQ : (vars.zipIdx.map λu => aH.getD u.2 0) = aH := by
    apply List.ext_getElem
    · simp[hla]
    · intro i h1 h2
      simp[List.getD, h2]
  let x0 : aK := { ρ := ρ, aH := λi => aH.getD i 0, iv := λi => dm.getD i (.slice none 0 0), fv := [(u1, u2)], cv := .slice none 0 0, ev := ev, el := el, R := R, S := S, tp := T }
  have st : aG wb p fuel k w' x0 ⟨L, ⟨vars.zipIdx, 0⟩, [], 0⟩ := by
    refine⟨h'.g, hR, ⟨(u1, u2), rfl, h'.store⟩, h'.tape, rfl, λj hj hj' => ?_, World.ownsRow_nil _ _ _ _, λi hi => ?_, iZ he hsz, hel, ⟨Nat.le_trans hsz hRl, h.low⟩, ⟨by simp[x0, ρ], by simp[x0, ρ, WM], by simp[x0, ρ, WN, WO]⟩, rE, λg hg' => by simp[x0, Value.ownBlock]at hg', ?_⟩
    · have hj0 : j = 0 := by simp[x0]at hj; exact hj
      subst hj0
      have e1 : (vars.zipIdx.map Prod.fst) = vars := by simp
      refine⟨?_, ?_, rV, rC, λu hu => ?_⟩
      · have hv := h'.vars
        rw[List.take_length]at hv
        show World.ownsRow _ _ _ _ u1 (vars.zipIdx.map Prod.fst).length (flat au.cells (vars.zipIdx.map Prod.fst))
        rw[e1]; exact hv
      · show World.ownsRow _ _ _ _ u2 (vars.zipIdx.map λu => aH.getD u.2 0).length (flat iF (vars.zipIdx.map λu => aH.getD u.2 0))
        rw[UQ]; exact h'.cls
      · have hm : u ∈ vars.zipIdx := hu
        have h3 := (List.mem_zipIdx' hm).1
        show u.2 < L.length
        omega
    · have hia : i < aH.length := by simp only at hi; omega
      have hii : i < dm.length := by simp only at hi; omega
      obtain⟨c1, c2, c3⟩ := hcell i hia
      have ea : aH.getD i 0 = aH[i] := by simp[List.getD, hia]
      have ei : dm.getD i (.slice none 0 0) = dm[i] := by simp[List.getD, hii]
      refine⟨?_, ?_, ?_, ?_, λg hg' => ?_, hL i hi⟩
      · show w'.heap[aH.getD i 0]? = some (.cells #[dm.getD i (.slice none 0 0)] _ _)
        rw[ea, ei]; exact c1
      · show _ <= aH.getD i 0
        rw[ea]; exact c2
      · show ρ (aH.getD i 0) = _
        rw[ea]; exact rA i hia
      · show World.ownsRow _ _ _ _ (dm.getD i (.slice none 0 0)) _ _
        rw[ei]; exact c3
      · have : (dm.getD i (.slice none 0 0)).ownBlock = some g := hg'
        rw[ei]at this
        exact rI i hii g this
    · refine⟨by show L.length <= k + 0; omega, λf hf' => ?_, by show 0 <= 100; omega, by show 0 <= fuel; omega, hf, hk2⟩
      have : f = ⟨vars.zipIdx, 0⟩ := by simpa[ah.frames]using hf'
      subst this
      exact⟨by show vars.zipIdx.length <= k + 0; simp; exact hk, by show 0 <= k + 0; omega⟩
  obtain⟨x1, hr, ho, hs⟩ := st.fresh
  exact⟨x1, hr.R, hr.S, ho, λb cs z hb => hr.o b (lt_of_block hb) (rO b cs z hb), hs⟩
theorem Rf (n : Nat) (w : World) (hn : n <= 1000000) : (Instr.makeSlice 52 (.int .i64 n) (.int .i64 n)).run Tryz.prog w = .ok (.slice (some ⟨w.heap.size, 0, none⟩) n n) (w.alloc (.cells (Array.replicate n (.slice none 0 0)) 22)) := by
  obtain⟨i0, hi, hz0, hz1, hz2⟩ := info_parts Tryz.IA
  have := run_make (P := Tryz.prog) w 52 22 i0 _ Tryz.underlying52 hi hz0 .i64 .i64 n n (by omega) (Int.le_refl _) (by rw[hz2]; omega) (by omega)
  have hm : madeCells (Value.slice none 0 0).cells (n * i0.size) = Array.replicate n (.slice none 0 0) := by
    rw[hz1, Nat.mul_one]
    apply Array.ext
    · simp[madeCells]
    · intro j h1 h2
      simp[madeCells, Value.cells, Nat.mod_one]
  simp only[Int.toNat_natCast]at this
  rw[hm]at this
  exact this
def mV (n : Nat) (vs : List Value) : Array Value := vs.toArray ++ Array.replicate (n - vs.length) (.slice none 0 0)
theorem AA {n : Nat} {vs : List Value} (h : vs.length <= n) : (mV n vs).size = n := by simp[mV]; omega
theorem Rh {n : Nat} {vs : List Value} (h : vs.length < n) (v : Value) : (mV n vs).setIfInBounds vs.length v = mV n (vs ++ [v]) := by
  apply Array.ext
  · rw[Array.size_setIfInBounds, AA (by omega), AA (by simp; omega)]
  · intro j h1 h2
    rw[Array.size_setIfInBounds, AA (by omega)]at h1
    rw[Array.getElem_setIfInBounds (by rw[AA (by omega)]; exact h1)]
    by_cases hij : vs.length = j
    · subst hij
      rw[if_pos rfl]
      simp[mV]
    · rw[if_neg hij]
      simp only[mV]
      by_cases hlt : j < vs.length
      · rw[Array.getElem_append_left (by simpa using hlt), Array.getElem_append_left (by simp; omega)]
        simp[List.getElem_append_left hlt]
      · rw[Array.getElem_append_right (by simp; omega), Array.getElem_append_right (by simp; omega)]
        simp
theorem R5 {n : Nat} {vs : List Value} (h : vs.length < n) : (mV n vs)[vs.length]? = some (.slice none 0 0) := by
  simp only[mV]
  rw[Array.getElem?_append_right (by simp)]
  simp only[List.size_toArray, Nat.sub_self]
  rw[Array.getElem?_replicate, if_pos (by omega)]
theorem R6 (n : Nat) (h : n <= 900000) : IntKind.i64.wrap (n : Int) = (n : Int) := IntWalk.i64_in _ (by omega)
structure gz (wb w : World) (M : Nat) (LL : List (List Int)) (vs : List Value) : Prop where
  g : Grow wb w
  low : wb.heap.size <= M
  blk : w.heap[M]? = some (.cells (mV LL.length vs) 22 (0, 0))
  row : ∀ i (h : i < vs.length) (h' : i < LL.length), w.ownsRow wb.heap.size 3 1 vs[i] LL[i].length (flat aB LL[i])
theorem gz.later {wb w w' : World} {M : Nat} {LL : List (List Int)} {vs : List Value} (h : gz wb w M LL vs) (hg : Grow w w') : gz wb w' M LL vs := ⟨gtr h.g hg, h.low, ai h.blk hg, λi h1 h2 => aZ (h.row i h1 h2) hg (λ_ _ e => e)⟩
theorem gz.more {wb w y : World} {M : Nat} {LL : List (List Int)} {vs : List Value} {v : Value} (h : gz wb w M LL vs) (hg : Grow w y) (hk : vs.length < LL.length) (hv : y.ownsRow w.heap.size 3 1 v LL[vs.length].length (flat aB LL[vs.length])) : gz wb (y.setCell ⟨M, vs.length, none⟩ v) M LL (vs ++ [v]) := by
  have hy := h.later hg
  have hm : Mv (λb => b = M) y (y.setCell ⟨M, vs.length, none⟩ v) := (Mv.refl (λb => b = M) y).setCell (p := ⟨M, vs.length, none⟩) (.inl rfl) _
  refine⟨bN hy.g hm (λb e => by subst e; exact h.low), h.low, ?_, λi h1 h2 => ?_⟩
  · rw[block_setCell (p := ⟨M, vs.length, none⟩) hy.blk rfl v, Rh hk]
  · simp only[List.length_append, List.length_cons, List.length_nil, Nat.zero_add]at h1
    rcases Nat.lt_or_ge i vs.length with hlt|hge
    · rw[List.getElem_append_left hlt]
      have hr := hy.row i hlt h2
      exact aZ hr hm (λg e e2 => by subst e2; exact bM hr hy.blk (by decide) e)
    · obtain rfl : i = vs.length := by omega
      rw[List.getElem_append_right (Nat.le_refl _)]
      simp only[Nat.sub_self, List.getElem_cons_zero]
      exact iZ (aZ hv hm (λg e e2 => by subst e2; exact bM hv hy.blk (by decide) e)) h.g.size
theorem gz.fill {wb w w' : World} {M r : Nat} {LL : List (List Int)} {vs : List Value} {cs : Array Value} {z : Nat × Nat} (h : gz wb w M LL vs) {t : TypeId} (hb : w.heap[r]? = some (.cells cs t z)) (hm : Mv (λb => b = r) w w') (hr : wb.heap.size <= r) (ht : t ≠ 22 := by decide) (ht2 : t ≠ 3 := by decide) : gz wb w' M LL vs :=
  ⟨bN h.g hm (λb e => by subst e; exact hr), h.low, by rw[hm.block M (lt_of_block h.blk) (eB h.blk hb ht.symm)]; exact h.blk, λi h1 h2 => aZ (h.row i h1 h2) hm (λg e e2 => by subst e2; exact bM (h.row i h1 h2) hb ht2 e)⟩
theorem gz.weak {wa wb w : World} {M : Nat} {LL : List (List Int)} {vs : List Value} (h : gz wb w M LL vs) (hg : Grow wa wb) : gz wa w M LL vs := ⟨gtr hg h.g, Nat.le_trans hg.size h.low, h.blk, λi h1 h2 => iZ (h.row i h1 h2) hg.size⟩
theorem gz.all {wb w : World} {M : Nat} {LL : List (List Int)} {vs : List Value} (h : gz wb w M LL vs) (hl : vs.length = LL.length) (hn : LL.length <= 1000000) : Vs w (.slice (some ⟨M, 0, none⟩) LL.length LL.length) LL := by
  refine⟨vs, hl, ?_, λi h1 h2 => bX cO (h.row i h1 h2)⟩
  rw[← hl]
  have hb := h.blk
  refine ay.dG (f := nD) yG hb ?_ (by omega)
  have e2 : ∀ l : List Value, flat nD l = l := λl => by
    induction l with
    |nil => rfl
    |cons a l ih => simp only[flat, List.map_cons, List.flatten_cons]at ih ⊢; rw[ih]; rfl
  rw[e2]
  simp[mV, hl]
def Tv (w : World) (LL : List (List Int)) (e : Ending) (w' : World) : Prop := ∃ M, e = .returned (.agg #[.slice (some ⟨M, 0, none⟩) LL.length LL.length, .slice none 0 0, .slice none 0 0]) /\ ∃ vs, gz w w' M LL vs /\ vs.length = LL.length
def ah.outs (s : ah) : List (List Int) := s.base.vars.map λu => s.cells.getD u.2 []
set_option maxRecDepth 100000 in
set_option maxHeartbeats 6400000 in
theorem Ri (w0 : World) (p : az) (fuel k : Nat) (w : World) (x : aK) (s : ah) (h : aG w0 p fuel k w x s) (hl : s.base.locals = 0) (hn : s.base.vars.length <= 900000) : Calls Tryz.prog 62 #[.pointer (some ⟨x.S, 0, none⟩)] w (Tv w s.outs) := by
  have HS := Lib.hid h
  obtain⟨b, hb, hst⟩ := h.store
  have zV : 0 < x.fv.length := by rw[h.jo]; omega
  have hfr := h.fr 0 zV (by simp[ah.frames])
  have hx0 : x.fv[0] = b := by rw[List.getElem?_eq_getElem zV]at hb; simpa using hb
  rw[hx0]at hfr
  have hfr : lX w0.heap.size w x s.cells.length b s.base 0 := hfr
  obtain⟨pa, pc, hps⟩ := dL hfr.cls
  have hcl : (s.base.vars.map λu => x.aH u.2).length = s.outs.length := by simp[ah.outs]
  have YF := Lib.hid (show lX w0.heap.size w x s.cells.length b s.base 0 from hfr)
  have hno : s.outs.length <= 900000 := by simpa[ah.outs]using hn
  simp only[hcl]at hps
  rw[hl]at hst
  have HST := Lib.hid hst
  have HAT := Lib.hid (λi (hi : i < s.outs.length) y (hy : Grow w y) => show ∃ pb po, pa = some ⟨pb, po, none⟩ /\ ∃ C a c, y.cell? ⟨pb, po + i, none⟩ = some (.pointer (some ⟨C, 0, none⟩)) /\ y.heap[C]? = some (.cells #[.slice a s.outs[i].length c] 138 (0, 0)) /\ ay 1 aB y (.slice a s.outs[i].length c) s.outs[i] /\ s.outs[i].length <= 1000 from by
    have hi2 : i < s.base.vars.length := by simpa[ah.outs]using hi
    have hi3 : i < (s.base.vars.map λu => x.aH u.2).length := by simpa using hi2
    have hrow := (bX (f := iF) ug hfr.cls).later hy
    rw[hps]at hrow
    obtain⟨pb, po, cap, e, _, hcc⟩ := hrow.at hi3
    simp only[Value.slice.injEq]at e
    obtain⟨rfl, -, -⟩ := e
    have p0 := hcc 0 _ rfl
    simp only[Nat.add_zero, Nat.mul_one, List.getElem_map]at p0
    have hid := hfr.ids _ (List.getElem_mem hi2)
    have hc := h.cell _ hid
    have eo : s.outs[i] = s.cells[s.base.vars[i].2] := by simp[ah.outs, List.getD, hid]
    obtain⟨a, c, ea⟩ := dL hc.row
    have hblk := ai hc.blk hy
    have hrw := (bX cO hc.row).later hy
    rw[ea]at hblk hrw
    rw[eo]
    exact⟨pb, po, rfl, _, a, c, p0, hblk, hrw, hc.few⟩)
  have WQ := Lib.hid (λy (hy : Grow w y) => And.intro (QD x.tp y (ai h.tape hy)) (PX x.tp y (ai h.tape hy)))
  generalize s.outs = LL at *
  have aj := Lib.hid (show Grow w (w.alloc (.cells #[.slice none 0 0, .slice none 0 0, .slice none 0 0] 54))from(Mv.refl _ w).alloc _)
  have HB1 := Lib.hid (heap_alloc_new w (.cells #[.slice none 0 0, .slice none 0 0, .slice none 0 0] 54))
  obtain⟨b1, b2⟩ := b
  change b2 = _ at hps
  subst hps
  clear h hb hst zV hfr hx0 hl hcl
  go_enter Tryz.func62, Tryz.ntmps62
  go_upto_region 3 with fail
  generalize (w.alloc (.cells #[.slice none 0 0, .slice none 0 0, .slice none 0 0] 54)) = w1 at *
  have HK := Lib.hid (λ(y : World) (hy : Grow w1 y) => ai HST.out (gtr aj.out hy))
  refine wg 56 [some 9, some 10, some 11, some 12, some 13, some 14, some 15, some 16, some 17, some 18, some 19, some 20, some 3] [[], [0], [1], [2], [3], [4], [], [6], [7], [8], [9], [5, 10], [11]] [] [.c (.pointer (some ⟨x.S, 0, none⟩)), .c (.pointer (some ⟨x.S, 0, none⟩)), .c (.pointer (some ⟨x.S, 0, none⟩)), .c (.pointer (some ⟨x.S, 1, none⟩)), .c (.slice pa LL.length pc), .c (.int .i64 (LL.length : Nat)), .c (.pointer (some ⟨x.S, 0, none⟩)), .c (.pointer (some ⟨x.S, 0, none⟩)), .c (.pointer (some ⟨x.S, 0, none⟩)), .c (.pointer (some ⟨x.S, 2, none⟩)), .c (.int .i64 0), .c (.int .i64 (LL.length : Nat)), .c (.int .i64 (LL.length : Nat))] trivial (dJ rfl) ?steps ?done
  case steps =>
    refine⟨?s0, ?s1, ?s2, ?s3, ?s4, ?s5, ?s6, ?s7, ?s8, ?s9, ?s10, ?s11, ?s12, trivial⟩
    case s0 =>
      refine oo (λvs x hP => ?_)
      simp only[zS]
      go_simp
      exact gc
    case s1 =>
      refine oo (λvs x hP => ?_)
      simp only[zS]
      go_simp
      exact gc
    case s2 =>
      refine oo (λvs x hP => ?_)
      simp only[zS]
      go_simp
      exact gc
    case s3 =>
      refine oo (λvs x hP => ?_)
      simp only[zS]
      go_simp
      exact gc
    case s4 =>
      refine ok HK (λvs x1 hG HX hP => ?_)
      have hst := HX.out
      have s1 : x1.cell? ⟨x.S, 1, none⟩ = some (.slice pa LL.length pc) := by simp[World.cell?, hst]
      have hsl := lt_of_block hst
      clear hst
      simp only[zS]
      go_simp
      exact gc
    case s5 =>
      refine oo (λvs x hP => ?_)
      simp only[zS]
      go_simp
      exact gc
    case s6 =>
      refine oo (λvs x hP => ?_)
      simp only[zS]
      go_simp
      exact gc
    case s7 =>
      refine oo (λvs x hP => ?_)
      simp only[zS]
      go_simp
      exact gc
    case s8 =>
      refine oo (λvs x hP => ?_)
      simp only[zS]
      go_simp
      exact gc
    case s9 =>
      refine oo (λvs x hP => ?_)
      simp only[zS]
      go_simp
      exact gc
    case s10 =>
      refine ok HK (λvs x1 hG HX hP => ?_)
      have hst := HX.out
      have s2 : x1.cell? ⟨x.S, 2, none⟩ = some (.int .i64 0) := by simp[World.cell?, hst]
      have hsl := lt_of_block hst
      clear hst
      simp only[zS]
      go_simp
      exact gc
    case s11 =>
      refine ok HK (λvs x1 hG HX hP => ?_)
      have hw := R6 LL.length hno
      simp only[zS]
      go_simp
      exact gc
    case s12 =>
      refine oo (λvs x hP => ?_)
      simp only[zS]
      go_simp
      exact gc
  case done =>
  intro vs wx hE
  have hG := hE.grow
  have aT := Lib.hid (gtr aj.out hG)
  have fH := Lib.hid (ai HB1.out hG)
  clear hE hG
  simp only[zS, Nat.reduceAdd]
  have hmk := Rf LL.length wx (by omega)
  go_wp2_with fail
  have aA := Lib.hid (show Grow w (wx.alloc (.cells (Array.replicate LL.length (.slice none 0 0)) 22))from(gtr aT.out ((Mv.refl _ _).alloc _)))
  have xC := Lib.hid (show(wx.alloc (.cells (Array.replicate LL.length (.slice none 0 0)) 22)).heap[w.heap.size]? = _ from ai fH.out ((Mv.refl _ _).alloc _))
  have jF := Lib.hid (show gz w (wx.alloc (.cells (Array.replicate LL.length (.slice none 0 0)) 22)) wx.heap.size LL []from⟨aA.out, aT.out.size, by rw[heap_alloc_new]; simp[mV], λi h => by simp at h⟩)
  clear hmk aj HB1 aT fH
  generalize wx.heap.size = M at *
  generalize (wx.alloc (.cells (Array.replicate LL.length (.slice none 0 0)) 22)) = w3 at *
  go_loopw [25] (λt wr => ∃ vs : List Value, t = .int .i64 vs.length /\ vs.length <= LL.length /\ gz w wr M LL vs /\ wr.heap[w.heap.size]? = some (.cells #[.slice none 0 0, .slice none 0 0, .slice none 0 0] 54 (0, 0))) (λt _ => LL.length - (intOf t).toNat)
  case atStart => exact⟨[], rfl, Nat.zero_le _, jF.out, xC.out⟩
  obtain⟨vs, rfl, hvl, hu, hbx⟩ := hrel
  have HU := Lib.hid hu
  have fH := Lib.hid hbx
  clear hu hbx jF xC aA
  by_cases hlt : vs.length < LL.length
  · obtain⟨pb, po, rfl, C, a, c, p0, hC, hra, sj⟩ := HAT.out _ hlt wr HU.out.g
    have hst := ai HST.out HU.out.g
    have s1 : wr.cell? ⟨x.S, 1, none⟩ = some (.slice (some ⟨pb, po, none⟩) LL.length pc) := by simp[World.cell?, hst]
    have hsl := lt_of_block hst
    have hC0 := cell1 hC
    have vH := lt_of_block hC
    have hpl := World.block_lt_of_cell? wr _ p0
    simp only at hpl
    have iy := Lib.hid (yx _ _ wr hra (by omega))
    have yZ := Lib.hid (λy v hg hv => HU.out.more (y := y) (v := v) hg hlt hv)
    have NY := Lib.hid (λy (hg : Grow wr y) => And.intro (lt_of_block (ai HU.out.blk hg)) (And.intro (bD (ai HU.out.blk hg) vs.length) (show y.cell? ⟨M, vs.length, none⟩ = some (.slice none 0 0)from by simp[World.cell?, ai HU.out.blk hg, R5 hlt])))
    have F7 := Lib.hid (show w.heap.size ≠ M from eB fH.out HU.out.blk (by decide))
    have hbd : (vs.length : Int) < (LL.length : Nat) := by omega
    clear hst hC hra sj
    go_wp2_with fail
    refine iy.out.mono ?_
    rintro e w4 ⟨v, rfl, hrow, hg⟩
    have xW := Lib.hid (yZ.out w4 v hg hrow)
    have dE := Lib.hid (ai fH.out hg)
    obtain⟨jT, hmz, hmc⟩ := NY.out w4 hg
    obtain⟨va, vc, rfl⟩ := dL hrow
    clear hrow hg iy yZ NY HU fH s1 hsl hC0 vH p0 hpl
    go_wp2_with fail
    have iW := Lib.hid (show(w4.setCell ⟨M, vs.length, none⟩ (.slice va LL[vs.length].length vc)).heap[w.heap.size]? = _ from(((Mv.refl (λb => b = M) w4).setCell (p := ⟨M, vs.length, none⟩) (.inl rfl) _).block _ (lt_of_block dE.out) F7.out).trans dE.out)
    go_roundw
    case rel => exact⟨vs ++ [.slice va LL[vs.length].length vc], by simp, by simp; omega, xW.out, iW.out⟩
    case measure => (simp[intOf] <;> omega)
  · have hle : vs.length = LL.length := by omega
    have qI := Lib.hid HU.out
    have oP := Lib.hid hle
    have HG := Lib.hid HU.out.g
    rw[hle]
    clear hle hvl hlt
    have hlt' : decide ((LL.length : Int) < LL.length) = false := by simp
    go_upto_region 10 with fail
    have sV := Lib.hid (λ(y : World) (hy : Grow wr y) => And.intro (ai HST.out (gtr HG.out hy)) (WQ.out y (gtr HG.out hy)))
    refine jm 11 56 [some 44, some 45, some 46, some 47, some 48, some 49, some 50, some 51, some 52, some 53, some 54] [[], [], [1], [2], [3], [4], [], [6], [7], [8], [9]] [] [.c (.slice (some ⟨M, 0, none⟩) LL.length LL.length), .c (.pointer (some ⟨x.S, 0, none⟩)), .c (.pointer (some ⟨x.S, 0, none⟩)), .c (.pointer (some ⟨x.S, 4, none⟩)), .c (.pointer (some ⟨x.tp, 0, none⟩)), .c (.slice none 0 0), .c (.pointer (some ⟨x.S, 0, none⟩)), .c (.pointer (some ⟨x.S, 0, none⟩)), .c (.pointer (some ⟨x.S, 4, none⟩)), .c (.pointer (some ⟨x.tp, 0, none⟩)), .c (.slice none 0 0)] trivial (dJ rfl) ?steps ?done
    case steps =>
      refine⟨?s0, ?s1, ?s2, ?s3, ?s4, ?s5, ?s6, ?s7, ?s8, ?s9, ?s10, trivial⟩
      case s0 =>
        refine oo (λvs x hP => ?_)
        simp only[zS]
        go_simp
        exact gc
      case s1 =>
        refine oo (λvs x hP => ?_)
        simp only[zS]
        go_simp
        exact gc
      case s2 =>
        refine oo (λvs x hP => ?_)
        simp only[zS]
        go_simp
        exact gc
      case s3 =>
        refine oo (λvs x hP => ?_)
        simp only[zS]
        go_simp
        exact gc
      case s4 =>
        refine ok sV (λvs x1 hG HX hP => ?_)
        have hst := HX.out.1
        have s4 : x1.cell? ⟨x.S, 4, none⟩ = some (.pointer (some ⟨x.tp, 0, none⟩)) := by simp[World.cell?, hst]
        have hsl := lt_of_block hst
        clear hst
        simp only[zS]
        go_simp
        exact gc
      case s5 =>
        refine ok sV (λvs x1 hG HX hP => ?_)
        have HC := Lib.hid HX.out.2.1
        simp only[zS]
        go_simp
        refine(HC.out).mono ?_
        rintro e y ⟨rfl, hg⟩
        exact⟨_, rfl, gm hg rfl⟩
      case s6 =>
        refine oo (λvs x hP => ?_)
        simp only[zS]
        go_simp
        exact gc
      case s7 =>
        refine oo (λvs x hP => ?_)
        simp only[zS]
        go_simp
        exact gc
      case s8 =>
        refine oo (λvs x hP => ?_)
        simp only[zS]
        go_simp
        exact gc
      case s9 =>
        refine ok sV (λvs x1 hG HX hP => ?_)
        have hst := HX.out.1
        have s4 : x1.cell? ⟨x.S, 4, none⟩ = some (.pointer (some ⟨x.tp, 0, none⟩)) := by simp[World.cell?, hst]
        have hsl := lt_of_block hst
        clear hst
        simp only[zS]
        go_simp
        exact gc
      case s10 =>
        refine ok sV (λvs x1 hG HX hP => ?_)
        have HC := Lib.hid HX.out.2.2
        simp only[zS]
        go_simp
        refine(HC.out).mono ?_
        rintro e y ⟨rfl, hg⟩
        exact⟨_, rfl, gm hg rfl⟩
    case done =>
    intro vs wx hE
    have hG := hE.grow
    have YG := Lib.hid (gtr HG.out hG)
    have Ai := Lib.hid (ai fH.out hG)
    have WR := Lib.hid (qI.out.later hG)
    clear hE hG
    simp only[zS, Nat.reduceAdd, List.drop_succ_cons, List.drop_zero]
    have mo := Lib.hid (rX Ai.out (.slice (some ⟨M, 0, none⟩) LL.length LL.length) (.slice none 0 0) (.slice none 0 0))
    have HF := Lib.hid (WR.out.fill Ai.out mo.out.2 (Nat.le_refl _))
    obtain⟨c0, c1, c2⟩ := dF Ai.out
    have hbl := lt_of_block Ai.out
    have zt := bD Ai.out
    go_wp2_with fail
    obtain⟨t0, t1, t2⟩ := dF mo.out.1
    exact bodyPost_ret (v := .agg #[.slice (some ⟨M, 0, none⟩) LL.length LL.length, .slice none 0 0, .slice none 0 0]) (by simp[results, Tryz.results62, go_sem, t0, t1, t2]) rfl ⟨M, rfl, _, HF.out, oP.out⟩
end Go.Proofs.YtbpodipdfohikaaGreat
