import Derived.Test.YtbpodipdfohikaaGreatL25
set_option linter.unusedSimpArgs false
set_option linter.unusedVariables false
set_option maxRecDepth 100000
set_option maxHeartbeats 25600000
namespace Go.Proofs.YtbpodipdfohikaaGreat
section
open Go.RowKit Go.Instr
theorem row_one {base g cap : Nat} {w w' : World} {a b : Int} {e t : TypeId} {cs : Array Value} (h : w.ownsRow base e 1 (.slice (some ⟨g, 0, none⟩) 1 cap) [a].length (flat aB [a])) (hb : w.heap[g]? = some (.cells cs t (0, 0))) (hb' : w'.heap[g]? = some (.cells (cs.setIfInBounds 0 (.int .i64 b)) t (0, 0))) : w'.ownsRow base e 1 (.slice (some ⟨g, 0, none⟩) 1 cap) [b].length (flat aB [b]) := by
  refine⟨by simp[flat, aB], .inr ?_⟩
  rcases h.2 with⟨e1, -⟩|⟨g', cap', cur, e1, h1, h2, h3, h4, h5, h6⟩
  · cases e1
  · simp only[List.length_cons, List.length_nil, Nat.zero_add, Value.slice.injEq, Option.some.injEq, Addr.mk.injEq, true_and, and_true]at e1
    obtain⟨rfl, rfl⟩ := e1
    rw[hb]at h2
    simp only[Option.some.injEq, Obj.cells.injEq, and_true]at h2
    obtain⟨rfl, rfl⟩ := h2
    refine⟨g, cap, _, by simp, h1, hb', by simpa using h3, h4, by simpa using h5, ?_⟩
    simp only[Array.toList_setIfInBounds, List.length_cons, List.length_nil, Nat.zero_add, Nat.mul_one]at h6 ⊢
    rw[List.take_set, h6]
    rfl
theorem aG.moved {w0 : World} {p : az} {fuel k : Nat} {w w' : World} {x : aK} {s : ah} {u v g : Nat} {iu : Value} {cu : List Int} {nv : Int} {cap : Nat} (h : aG w0 p fuel k w x s) (hf : ∀ b, w.heap.size <= b -> x.ρ b = .other) (hu : u < s.cells.length) (hv : v < s.cells.length) (huv : u ≠ v) (hgv : x.iv v = .slice (some ⟨g, 0, none⟩) 1 cap)
    (hm : Mv (λb => (x.iv u).ownBlock = some b \/ b = x.aH u \/ b = g) w w') (hbu : w'.heap[x.aH u]? = some (.cells #[iu] 138 (0, 0))) (WA : w'.ownsRow w0.heap.size 3 1 iu cu.length (flat aB cu)) (hnu : ∀ b, iu.ownBlock = some b -> (x.iv u).ownBlock = some b \/ w.heap.size <= b) (hl : cu.length <= 1000)
    (eF : w'.ownsRow w0.heap.size 3 1 (x.iv v) [nv].length (flat aB [nv])) : ∃ x', ax x x' w w' /\ aG w0 p fuel k w' x' { s with cells := (s.cells.set u cu).set v [nv] } := by
  have cU := h.cell u hu
  have cV := h.cell v hv
  have og : (x.iv v).ownBlock = some g := by rw[hgv]; rfl
  have rg : x.ρ g = .items v := cV.ri g og
  let ρ' : Nat -> gQ := λb => if w.heap.size <= b /\ iu.ownBlock = some b then .items u else x.ρ b
  have hρ : ∀ b, x.ρ b ≠ .other -> ρ' b = x.ρ b := λb hn => by
    have : ¬ w.heap.size <= b := λe => hn (hf b e)
    simp only[ρ', this, false_and, if_false]
  let x1 : aK := { x with ρ := ρ', iv := λi => if i = u then iu else x.iv i }
  have no : ∀ {b : Nat} {r : gQ}, x.ρ b = r -> r ≠ .other -> ρ' b = r := λhr hn => (hρ _ (by rw[hr]; exact hn)).trans hr
  have yT : ∀ b, ((x.iv u).ownBlock = some b \/ b = x.aH u \/ b = g) -> x.ρ b = .items u \/ x.ρ b = .cell u \/ x.ρ b = .items v := λb e => by
    rcases e with e|rfl|rfl
    · exact .inl (cU.ri b e)
    · exact .inr (.inl cU.rb)
    · exact .inr (.inr rg)
  have st := h.stays hm (λr => r = .items u \/ r = .cell u \/ r = .items v) (λb e _ => yT b e)
  have nk : ∀ r : gQ, (∀ i, r ≠ .items i) -> (∀ i, r ≠ .cell i) -> ¬ (r = .items u \/ r = .cell u \/ r = .items v) := λr h1 h2 e => by
    rcases e with e|e|e
    · exact h1 _ e
    · exact h2 _ e
    · exact h1 _ e
  obtain⟨b0, hb0, hs0⟩ := st.store (nk _ (λ_ e => by cases e) (λ_ e => by cases e))
  refine⟨x1, ⟨rfl, rfl, λb hb e => ?_, hm.mono λb e => .inl (by rcases yT b e with e|e|e <;> rw[e] <;> exact λe => by cases e), λb cs z hb => ?_⟩, ⟨?_, st.run (nk _ (λ_ e => by cases e) (λ_ e => by cases e)), ⟨b0, hb0, hs0⟩, st.tape (nk _ (λ_ e => by cases e) (λ_ e => by cases e)), h.jo, λj hj hj' => ?_, st.calls (nk _ (λ_ e => by cases e) (λ_ e => by cases e)), λi hi => ?_, st.fI (nk _ (λ_ e => by cases e) (λ_ e => by cases e)), h.ni, h.low, ⟨no h.dN.1 (λe => by cases e), no h.dN.2.1 (λe => by cases e), no h.dN.2.2 (λe => by cases e)⟩, λb hb => no (h.re b hb) (λe => by cases e), λb hb => no (h.rl b hb) (λe => by cases e), ?_⟩⟩
  · have : ¬ w.heap.size <= b := by omega
    simp only[x1, ρ', this, false_and, if_false]; exact e
  · rw[hm.block b (lt_of_block hb) (λe => ?_)]
    · exact hb
    · rcases e with e|rfl|rfl
      · obtain⟨-, c2, z2, h2⟩ := bH cU.row b e
        rw[hb]at h2
        simp only[Option.some.injEq, Obj.cells.injEq]at h2
        exact absurd h2.2.1 (by decide)
      · have h2 := cU.blk
        rw[hb]at h2
        simp only[Option.some.injEq, Obj.cells.injEq]at h2
        exact absurd h2.2.1 (by decide)
      · obtain⟨-, c2, z2, h2⟩ := bH cV.row b og
        rw[hb]at h2
        simp only[Option.some.injEq, Obj.cells.injEq]at h2
        exact absurd h2.2.1 (by decide)
  · refine bN h.g hm (λb e => ?_)
    rcases e with e|rfl|rfl
    · exact(bH cU.row b e).1
    · exact cU.low
    · exact(bH cV.row b og).1
  · have hl2 : ((s.cells.set u cu).set v [nv]).length = s.cells.length := by simp
    have := (st.fr j hj hj' (nk _ (λ_ e => by cases e) (λ_ e => by cases e)) (nk _ (λ_ e => by cases e) (λ_ e => by cases e))).ext (x' := x1) (m' := s.cells.length) hρ (λi _ => rfl) (Nat.le_refl _)
    simp only[hl2]
    exact this
  · have hi2 : i < s.cells.length := by simpa using hi
    by_cases e1 : i = u
    · subst e1
      have e2 : ((s.cells.set i cu).set v [nv])[i] = cu := by rw[List.getElem_set_ne (Ne.symm huv), List.getElem_set_self]
      simp only[e2]
      refine⟨by simp only[x1, if_true]; exact hbu, cU.low, no cU.rb (λe => by cases e), by simp only[x1, if_true]; exact WA, λb hb => ?_, hl⟩
      simp only[x1, if_true]at hb
      rcases hnu b hb with e|e
      · exact no (cU.ri b e) (λe => by cases e)
      · simp only[x1, ρ', e, hb, true_and, if_true]
    · by_cases e2 : i = v
      · subst e2
        have e3 : ((s.cells.set u cu).set i [nv])[i] = [nv] := by rw[List.getElem_set_self]
        simp only[e3]
        have hbl := st.cell
        refine⟨?_, cV.low, no cV.rb (λe => by cases e), by simp only[x1, e1, if_false]; exact eF, λb hb => ?_, by simp⟩
        · simp only[x1, e1, if_false]
          rw[hm.block _ (lt_of_block cV.blk) (λe => ?_)]
          · exact cV.blk
          · have := yT _ e
            rw[cV.rb]at this
            rcases this with e|e|e
            · cases e
            · cases e; exact huv rfl
            · cases e
        · simp only[x1, e1, if_false]at hb
          exact no (cV.ri b hb) (λe => by cases e)
      · have e3 : ((s.cells.set u cu).set v [nv])[i] = s.cells[i] := by rw[List.getElem_set_ne (Ne.symm e2), List.getElem_set_ne (Ne.symm e1)]
        simp only[e3]
        refine(st.cell i hi2 (λe => ?_) (λe => ?_)).ext (x' := x1) hρ rfl (by simp only[x1, e1, if_false])
        · rcases e with e|e|e
          · cases e
          · cases e; exact e1 rfl
          · cases e
        · rcases e with e|e|e
          · cases e; exact e1 rfl
          · cases e
          · cases e; exact e2 rfl
  · simp only[List.length_set]
    exact h.bd
attribute [local go_sem ↓] fB
theorem Tryz.Tm : (Tryz.prog.info? 3).map (λi => (i.zero, i.size, i.bytes)) = some (some (.int .i64 0), 1, 8) := by kernel_rfl
theorem Tryz.Tn : Elem Tryz.prog 22 3 1 8 := Elem.of Tryz.underlying22 Tryz.Tm rfl (by decide) (by decide)
def qf (s : ah) (u v : Nat) (c : List Int) (val : Int) : Except Int ah := if 1000 <= c.length then .error 5 else .ok { s with cells := (s.cells.set u (c ++ [val])).set v [0] }
def nC (s : ah) (u v : Nat) (c : List Int) (val : Int) : Except Int ah := if c.length = 0 then .error 13 else if val ≠ 0 then .error 14 else .ok { s with cells := (s.cells.set u c.dropLast).set v [c.getLast?.getD 0] }
theorem aG.IL {w0 : World} {p : az} {fuel k : Nat} {w : World} {x : aK} {s : ah} {u v g cap : Nat} {c : List Int} {val : Int} (h : aG w0 p fuel k w x s) (hu : s.cells[u]? = some c) (hv : s.cells[v]? = some [val]) (hgv : x.iv v = .slice (some ⟨g, 0, none⟩) 1 cap) :
    ∃ ia ic, x.iv u = .slice ia c.length ic /\ c.length <= 1000 /\ w.heap[x.aH u]? = some (.cells #[.slice ia c.length ic] 138 (0, 0)) /\ w.ownsRow w0.heap.size 3 1 (.slice ia c.length ic) c.length (flat aB c) /\
      w.ownsRow w0.heap.size 3 1 (x.iv v) [val].length (flat aB [val]) /\ (∃ cs, w.heap[g]? = some (.cells cs 3 (0, 0)) /\ cs[0]? = some (.int .i64 val)) /\ (u ≠ v -> (x.iv u).ownBlock ≠ some g) /\ g ≠ x.aH u /\ u < s.cells.length /\ v < s.cells.length := by
  obtain⟨lu, eu⟩ := List.getElem?_eq_some_iff.1 hu
  obtain⟨lv, ev⟩ := List.getElem?_eq_some_iff.1 hv
  have cU := h.cell u lu
  have cV := h.cell v lv
  rw[eu]at cU
  rw[ev]at cV
  obtain⟨ia, ic, hi⟩ := dL cU.row
  have og : (x.iv v).ownBlock = some g := by rw[hgv]; rfl
  have hblk := cU.blk
  have hrow := cU.row
  have hg : ∃ cs, w.heap[g]? = some (.cells cs 3 (0, 0)) /\ cs[0]? = some (.int .i64 val) := by
    rcases cV.row.2 with⟨e, h0⟩|⟨g', cap', cur, e, h1, h2, h3, h4, h5, h6⟩
    · rw[hgv]at e; cases e
    · rw[hgv]at e
      simp only[List.length_cons, List.length_nil, Nat.zero_add, Value.slice.injEq, Option.some.injEq, Addr.mk.injEq, true_and, and_true]at e
      obtain⟨rfl, rfl⟩ := e
      refine⟨cur, h2, ?_⟩
      have h7 : (cur.toList.take 1)[0]? = some (.int .i64 val) := by
        have : cur.toList.take 1 = flat aB [val] := by simpa using h6
        rw[this]; rfl
      rw[List.getElem?_take_of_lt (by omega)]at h7
      simpa using h7
  refine⟨ia, ic, hi, cU.few, by rw[← hi]; exact hblk, by rw[← hi]; exact hrow, cV.row, hg, λhn e => ?_, λe => ?_, lu, lv⟩
  · have h1 := cU.ri g e
    have h2 := cV.ri g og
    rw[h1]at h2
    cases h2; exact hn rfl
  · have h2 := cV.ri g og
    rw[e, cU.rb]at h2; cases h2
set_option maxRecDepth 100000 in
set_option maxHeartbeats 6400000 in
theorem Q3 (w0 : World) (p : az) (fuel k : Nat) (w : World) (x : aK) (s : ah) (u v g cap : Nat) (c : List Int) (val : Int) (h : aG w0 p fuel k w x s) (hf : ∀ b, w.heap.size <= b -> x.ρ b = .other) (hu : s.cells[u]? = some c) (hv : s.cells[v]? = some [val]) (huv : u ≠ v) (hgv : x.iv v = .slice (some ⟨g, 0, none⟩) 1 cap) :
    Calls Tryz.prog 152 #[.int .u8 44, .pointer (some ⟨g, 0, none⟩), .pointer (some ⟨x.aH u, 0, none⟩)] w (dU w0 p fuel k x w (qf s u v c val)) := by
  obtain⟨ia, ic, hi, hc, hb, hr, eF, ⟨cs, hg, hg0⟩, nL, hga, lu, lv⟩ := h.IL hu hv hgv
  have nL := nL huv
  have c0 : w.cell? ⟨x.aH u, 0, none⟩ = some (.slice ia c.length ic) := by simp[World.cell?, hb]
  have g0 : w.cell? ⟨g, 0, none⟩ = some (.int .i64 val) := by simp[World.cell?, hg, hg0]
  have hbl := lt_of_block hb
  have hgl := lt_of_block hg
  have HS := Lib.hid h
  by_cases Bn : 1000 <= c.length
  · have hd : decide ((1000 : Int) <= c.length) = true := by simp; omega
    have HR := Lib.hid (show qf s u v c val = .error 5 from by unfold qf; rw[if_pos Bn])
    clear h hr eF hi hb hg hg0 hu hv Bn
    generalize c.length = n at *
    go_enter Tryz.func152, Tryz.ntmps152
    go_wp2_with fail
    go_ret
    rw[HR.out]
    exact⟨⟨rfl, by decide⟩, .new HS.out.g (Mv.refl _ _)⟩
  · have hd : decide ((1000 : Int) <= c.length) = false := by simp; omega
    have HR := Lib.hid (show qf s u v c val = .ok { s with cells := (s.cells.set u (c ++ [val])).set v [0] }from by unfold qf; rw[if_neg Bn])
    have hgA : Grow w ((w.alloc (.cells #[.int .i64 val] 3)).drew) := ((Mv.refl _ w).alloc _).drew
    obtain⟨a4, c4, w4, ⟨hok, jZ, haw⟩, hr4, jk, mh⟩ := jv Tryz.Tn (f := aB) cO (.slice ia c.length ic) (.slice (some ⟨w.heap.size, 0, none⟩) 1 1) c [val] w0.heap.size ((w.alloc (.cells #[.int .i64 val] 3)).drew) (aZ hr hgA (λ_ _ e => e)) (ay.dG (f := aB) (l := [val]) cO (show((w.alloc (.cells #[.int .i64 val] 3)).drew).heap[w.heap.size]? = _ from heap_alloc_new w _) (by simp[flat, aB]) (by simp)) (λy hy u hu => by simp[aB]at hu; subst hu; rfl) (Nat.le_trans h.size hgA.size) (by simp; omega)
    simp only[List.length_cons, List.length_nil, Nat.zero_add]at hr4 mh
    rw[hi]at nL
    have nb : (Value.slice ia c.length ic).ownBlock ≠ some (x.aH u) := bM hr hb (by decide)
    have hWs : ((w.alloc (.cells #[.int .i64 val] 3)).drew).heap.size = w.heap.size + 1 := by show(World.alloc _ _).heap.size = _; simp
    have hb4 := (jk.block (x.aH u) (by omega) nb).trans (ai hb hgA)
    have hg4 := (jk.block g (by omega) nL).trans (ai hg hgA)
    have NC := bD hb4
    have Uz := lt_of_block hb4
    have s4 : w4.cell? ⟨x.aH u, 0, none⟩ = some (.slice ia c.length ic) := by simp[World.cell?, hb4]
    have hb5 := block_setCell (p := ⟨x.aH u, 0, none⟩) hb4 rfl (.slice a4 (c.length + 1) c4)
    have qJ := (Mv.refl (λb => b = x.aH u) w4).setCell (p := ⟨x.aH u, 0, none⟩) (.inl rfl) (.slice a4 (c.length + 1) c4)
    have hg5 := (qJ.block g (lt_of_block hg4) hga).trans hg4
    have eP := aZ hr4 qJ (λb e e2 => by
      subst e2
      rcases mh _ e with e|e
      · exact nb e
      · omega)
    have WB : (w4.setCell ⟨x.aH u, 0, none⟩ (.slice a4 (c.length + 1) c4)).heap.size = w4.heap.size := World.size_setCell ..
    have KC : Mv (λb => (x.iv u).ownBlock = some b \/ b = x.aH u \/ b = g) w (w4.setCell ⟨x.aH u, 0, none⟩ (.slice a4 (c.length + 1) c4)) := ((hgA.mono (λ_ e => e.elim)).trans (jk.mono (O1 := λb => (x.iv u).ownBlock = some b \/ b = x.aH u \/ b = g) (λb e => .inl (.inl (by rw[hi]; exact e)))) (λ_ e => .inl e)).trans (qJ.mono (O1 := λb => (x.iv u).ownBlock = some b \/ b = x.aH u \/ b = g) (λb e => .inl (.inr (.inl e)))) (λ_ e => .inl e)
    generalize UH : w4.setCell ⟨x.aH u, 0, none⟩ (.slice a4 (c.length + 1) c4) = w5 at *
    have BU := bD hg5
    have Yf := lt_of_block hg5
    have g5 : w5.cell? ⟨g, 0, none⟩ = some (.int .i64 val) := by simp[World.cell?, hg5, hg0]
    have jX := block_setCell (p := ⟨g, 0, none⟩) hg5 rfl (.int .i64 0)
    have vK := (Mv.refl (λb => b = g) w5).setCell (p := ⟨g, 0, none⟩) (.inl rfl) (.int .i64 0)
    have iQ := Lib.hid (h.moved (w' := w5.setCell ⟨g, 0, none⟩ (.int .i64 0)) (u := u) (v := v) (g := g) (iu := .slice a4 (c.length + 1) c4) (cu := c ++ [val]) (nv := 0) hf lu lv huv hgv (KC.trans (vK.mono (O1 := λb => (x.iv u).ownBlock = some b \/ b = x.aH u \/ b = g) (λb e => .inl (.inr (.inr e)))) (λ_ e => .inl e)) ((vK.block _ (lt_of_block hb5) (Ne.symm hga)).trans hb5) (aZ eP vK (λb e e2 => by
        subst e2
        rcases mh _ e with e|e
        · exact nL e
        · omega)) (λb e => (mh b e).imp (λe => by rw[hi]; exact e) (λe => by omega)) (by simp; omega) (by
        rw[hgv]
        exact row_one (w := w) (a := val) (by rw[← hgv]; exact eF) hg jX))
    have HS2 := HS
    clear h hr eF hb hg hg0 hu hv Bn hr4 jk mh hb4 hg4 hb5 qJ hg5 eP WB KC jX vK hf hgA hWs
    generalize c.length = n at *
    go_enter Tryz.func152, Tryz.ntmps152
    go_wp2_with fail
    go_region
    try simp only[UH]
    go_wp2_with fail
    go_ret
    rw[HR.out]
    exact⟨rfl, iQ.out⟩
set_option maxRecDepth 100000 in
set_option maxHeartbeats 6400000 in
theorem RL (w0 : World) (p : az) (fuel k : Nat) (w : World) (x : aK) (s : ah) (u v g cap : Nat) (c : List Int) (val : Int) (h : aG w0 p fuel k w x s) (hf : ∀ b, w.heap.size <= b -> x.ρ b = .other) (hu : s.cells[u]? = some c) (hv : s.cells[v]? = some [val]) (huv : u ≠ v) (hgv : x.iv v = .slice (some ⟨g, 0, none⟩) 1 cap) :
    Calls Tryz.prog 152 #[.int .u8 45, .pointer (some ⟨g, 0, none⟩), .pointer (some ⟨x.aH u, 0, none⟩)] w (dU w0 p fuel k x w (nC s u v c val)) := by
  obtain⟨ia, ic, hi, hc, hb, hr, eF, ⟨cs, hg, hg0⟩, nL, hga, lu, lv⟩ := h.IL hu hv hgv
  have nL := nL huv
  have c0 : w.cell? ⟨x.aH u, 0, none⟩ = some (.slice ia c.length ic) := by simp[World.cell?, hb]
  have g0 : w.cell? ⟨g, 0, none⟩ = some (.int .i64 val) := by simp[World.cell?, hg, hg0]
  have hbl := lt_of_block hb
  have hgl := lt_of_block hg
  have HS := Lib.hid h
  by_cases hE : c = []
  · have HR := Lib.hid (show nC s u v c val = .error 13 from by unfold nC; rw[if_pos (by rw[hE]; rfl)])
    have hd : ((c.length : Int) == 0) = true := by rw[hE]; rfl
    clear h hr eF hi hb hg hg0 hu hv hE
    generalize c.length = n at *
    go_enter Tryz.func152, Tryz.ntmps152
    go_wp2_with fail
    go_ret
    rw[HR.out]
    exact⟨⟨rfl, by decide⟩, .new HS.out.g (Mv.refl _ _)⟩
  obtain⟨l, e, rfl⟩ : ∃ l e, c = l ++ [e] := ⟨c.dropLast, c.getLast hE, (List.dropLast_concat_getLast hE).symm⟩
  have hln : (l ++ [e]).length = l.length + 1 := by simp
  have hd : (((l.length + 1 : Nat) : Int) == 0) = false := by
    have : ((l.length + 1 : Nat) : Int) ≠ 0 := by omega
    simpa using this
  by_cases hval : val = 0
  · subst hval
    have HR := Lib.hid (show nC s u v (l ++ [e]) 0 = .ok { s with cells := (s.cells.set u l).set v [e] }from by unfold nC; rw[if_neg (by simp), if_neg (by simp)]; simp)
    obtain⟨ab, ao, UF, ea, _, hcc⟩ := (bX (f := aB) cO hr).at (i := l.length) (by simp)
    have a0 := hcc 0 (.int .i64 e) (by simp[aB])
    rw[hln]at ea
    simp only[Nat.add_zero, Nat.mul_one]at a0
    have hal := World.block_lt_of_cell? w _ a0
    simp only at hal
    rw[hi]at nL
    have nb : (Value.slice ia (l ++ [e]).length ic).ownBlock ≠ some (x.aH u) := bM hr hb (by decide)
    have hg1 := block_setCell (p := ⟨g, 0, none⟩) hg rfl (.int .i64 e)
    have hm1 := (Mv.refl (λb => b = g) w).setCell (p := ⟨g, 0, none⟩) (.inl rfl) (.int .i64 e)
    have hb1 := (hm1.block _ hbl (Ne.symm hga)).trans hb
    have hr1 := aZ hr hm1 (λb e e2 => by subst e2; exact nL e)
    have KD : (w.setCell ⟨g, 0, none⟩ (.int .i64 e)).ownsRow w0.heap.size 3 1 (.slice (some ⟨g, 0, none⟩) 1 cap) [e].length (flat aB [e]) := row_one (w := w) (a := 0) (by rw[← hgv]; exact eF) hg hg1
    have hzg := bD hg
    generalize Yg : w.setCell ⟨g, 0, none⟩ (.int .i64 e) = w1 at *
    have hz1 := bD hb1
    have Kr := lt_of_block hb1
    have c1 : w1.cell? ⟨x.aH u, 0, none⟩ = some (.slice ia (l ++ [e]).length ic) := by simp[World.cell?, hb1]
    have hb2 := block_setCell (p := ⟨x.aH u, 0, none⟩) hb1 rfl (.slice ia l.length ic)
    have hm2 := (Mv.refl (λb => b = x.aH u) w1).setCell (p := ⟨x.aH u, 0, none⟩) (.inl rfl) (.slice ia l.length ic)
    have hr1' := yL (f := aB) cO (by rw[← hln]; exact hr1)
    have iQ := Lib.hid (h.moved (w' := w1.setCell ⟨x.aH u, 0, none⟩ (.slice ia l.length ic)) (u := u) (v := v) (g := g) (iu := .slice ia l.length ic) (cu := l) (nv := e) hf lu lv huv hgv ((hm1.mono (O1 := λb => (x.iv u).ownBlock = some b \/ b = x.aH u \/ b = g) (λb e => .inl (.inr (.inr e)))).trans (hm2.mono (O1 := λb => (x.iv u).ownBlock = some b \/ b = x.aH u \/ b = g) (λb e => .inl (.inr (.inl e)))) (λ_ e => .inl e)) hb2 (aZ hr1' hm2 (λb e e2 => by
        subst e2
        exact nb ((uh _ _ _ _ _).trans e))) (λb e => .inl (by rw[hi]; exact(uh _ _ _ _ _).trans e)) (by simp at hc; omega) (by
        rw[hgv]
        exact aZ KD hm2 (λb e e2 => by
          have : g = b := by simpa[Value.ownBlock]using e
          exact hga (this.trans e2))))
    rw[hln]at c0 c1
    have zX : ((l.length + 1 : Nat) : Int) - 1 = (l.length : Int) := by omega
    have hlt : l.length < l.length + 1 := by omega
    have jT : l.length <= 1000 := by omega
    have hcap : l.length + 1 <= ic := by have := ay.cap (bX (f := aB) cO hr); omega
    have hie : ia = some ⟨ab, ao, none⟩ := by simpa using congrArg (λz => match z with | .slice a _ _ => a|_ => none) ea
    subst hie
    clear h hr eF hi hb hg hg0 hu hv hE hg1 hm1 hb1 hr1 KD hb2 hm2 hr1' hcc ea hc hln nb nL hf
    generalize l.length = m at *
    go_enter Tryz.func152, Tryz.ntmps152
    go_wp2_with fail
    go_ret
    rw[HR.out]
    exact⟨rfl, iQ.out⟩
  · have HR := Lib.hid (show nC s u v (l ++ [e]) val = .error 14 from by unfold nC; rw[if_neg (by simp), if_pos hval])
    have hd2 : (val != 0) = true := by simpa using hval
    rw[hln]at c0
    have jT : l.length <= 1000 := by omega
    clear h hr eF hi hb hg hg0 hu hv hE hval hc hln
    generalize l.length = m at *
    go_enter Tryz.func152, Tryz.ntmps152
    go_wp2_with fail
    go_ret
    rw[HR.out]
    exact⟨⟨rfl, by decide⟩, .new HS.out.g (Mv.refl _ _)⟩
end
section
open Go.RowKit
def sW (r : Int × Int) (w : World) (e : Ending) (w' : World) : Prop := e = .returned (.tuple #[.int .i64 r.1, .int .i64 r.2]) /\ Grow w w'
structure ow (w : World) (f S : Nat) (s : ah) : Prop where
  fn : f = 149 \/ f = 145
  call : ∀ z, Grow w z -> ∀ n, Calls Tryz.prog f #[.pointer (some ⟨S, 0, none⟩), .string n] z (Eh s n z)
theorem ow.later {w w' : World} {f S : Nat} {s : ah} (h : ow w f S s) (hg : Grow w w') : ow w' f S s := ⟨h.fn, λz hz => h.call z (gtr hg hz)⟩
theorem ow.fI {w : World} {f S : Nat} {s : ah} (h : ow w f S s) : ∀ (args : Array Value) (w : World), (callFunc f args).run Tryz.prog w = .ok (.enter f args) w := by
  rcases h.fn with rfl|rfl <;> intro args w <;> simp[go_sem]
set_option maxRecDepth 100000 in
set_option maxHeartbeats 3200000 in
theorem RN (k n : Int) (s : ByteArray) (ka : Option Addr) (l : List ae) (kc : Nat) (f S : Nat) (st : ah) (w : World) (r : Int × Int) (hk : k = 2 \/ k = 5) (hf : ow w f S st) (hr : fF st.look (ae.t (.mk k n s (.slice ka l.length kc) l)) = some r) :
    Calls Tryz.prog 166 #[.agg #[.int .u8 k, .int .i64 n, .string s, .slice ka l.length kc], .func (.func f) #[.pointer (some ⟨S, 0, none⟩)] #[]] w (sW r w) := by
  have hent := hf.fI
  have aj := Lib.hid (show Grow w (w.alloc (.cells #[.int .u8 k, .int .i64 n, .string s, .slice ka l.length kc] 40))from(Mv.refl _ w).alloc _)
  have aY := Lib.hid (heap_alloc_new w (.cells #[.int .u8 k, .int .i64 n, .string s, .slice ka l.length kc] 40))
  have HC := Lib.hid (hf.call _ aj.out s)
  rw[ae.t, fF]at hr
  have HR := Lib.hid hr
  clear hf hr
  go_enter Tryz.func166, Tryz.ntmps166
  go_wp2_with fail
  generalize (w.alloc (.cells #[.int .u8 k, .int .i64 n, .string s, .slice ka l.length kc] 40)) = w1 at *
  refine HC.out.mono ?_
  rintro e w2 ⟨v, rfl, hrow, hg⟩
  have HG2 := Lib.hid (gtr aj.out hg)
  have hn2 := ai aY.out hg
  obtain⟨⟨n0, n1⟩, n2, n3⟩ := aJ hn2
  have hnl := lt_of_block hn2
  obtain⟨va, vc, rfl, -, hvl⟩ := hrow.form
  have HRW := Lib.hid hrow
  clear hg hn2 hrow HC
  cases hlk : st.look s with
  |none =>
    have HF := Lib.hid (show r = (0, 6)from by
      have h := HR.out
      rcases hk with rfl|rfl <;> simp[hlk]at h <;> exact h.symm)
    rw[hlk]at HRW
    clear hlk HR
    simp only[Option.getD_none, Option.isSome_none]
    go_wp2_with fail
    go_ret2
    exact⟨by rw[HF.out]; rfl, HG2.out⟩
  |some c =>
    rw[hlk]at HRW
    simp only[Option.getD_some, Option.isSome_some, hlk]at HRW hvl ⊢
    rcases hk with rfl|rfl
    · by_cases h1 : c.length = 1
      · obtain⟨b, off, cap, e, _, hcc⟩ := HRW.out.at (show 0 < c.length by omega)
        simp only[Value.slice.injEq, true_and]at e
        obtain⟨rfl, rfl⟩ := e
        have c0 := hcc 0 _ rfl
        simp only[Nat.zero_mul, Nat.add_zero]at c0
        have HF := Lib.hid (show r = (c[0], 0)from by
          have h := HR.out
          simp only[hlk]at h
          rw[if_neg (by decide), if_pos True.intro, if_pos h1]at h
          simp only[Option.some.injEq]at h
          rw[← h, List.getD, List.getElem?_eq_getElem (by omega)]; rfl)
        have hbl := World.block_lt_of_cell? w2 _ c0
        simp only at hbl
        generalize c[0] = y at *
        rw[h1]
        clear hcc HR h1
        go_wp2_with fail
        go_ret2
        exact⟨by rw[HF.out]; rfl, HG2.out⟩
      · have HF := Lib.hid (show r = (0, 7)from by
          have h := HR.out
          simp only[hlk]at h
          rw[if_neg (by decide), if_pos True.intro, if_neg h1]at h
          simpa using h.symm)
        have hne : ((c.length : Int) != 1) = true := by simp; omega
        clear HR h1
        go_wp2_with fail
        go_ret2
        exact⟨by rw[HF.out]; rfl, HG2.out⟩
    · have HF := Lib.hid (show r = ((c.length : Int), 0)from by
        have h := HR.out
        simp only[hlk]at h
        rw[if_neg (by decide), if_neg (by decide), if_pos True.intro]at h
        simpa using h.symm)
      clear HR
      go_wp2_with fail
      go_ret2
      exact⟨by rw[HF.out]; rfl, HG2.out⟩
set_option maxRecDepth 100000 in
theorem IM (b : Bool) (w : World) : Calls Tryz.prog 169 #[.bool b] w λe w' => e = .returned (.int .i64 (if b then 1 else 0)) /\ w = w' := by
  cases b
  all_goals
    go_enter Tryz.func169, Tryz.ntmps169
    go_wp2_with fail
    go_ret
    exact⟨rfl, rfl⟩
set_option maxRecDepth 100000 in
set_option maxHeartbeats 1600000 in
theorem RO (x y : Int) (w : World) : Calls Tryz.prog 165 #[.int .u8 16, .int .i64 x, .int .i64 y] w (sW (if x = y then 1 else 0, 0) w) := by
  by_cases h : x = y
  · subst h
    rw[if_pos rfl]
    go_enter Tryz.func165, Tryz.ntmps165
    go_wp2_with fail
    refine(IM true w).mono ?_
    rintro e w2 ⟨rfl, rfl⟩
    go_wp2_with fail
    go_ret2
    exact⟨rfl, Mv.refl _ _⟩
  · rw[if_neg h]
    have he : (x == y) = false := by simpa using h
    clear h
    go_enter Tryz.func165, Tryz.ntmps165
    go_wp2_with fail
    refine(IM false w).mono ?_
    rintro e w2 ⟨rfl, rfl⟩
    go_wp2_with fail
    go_ret2
    exact⟨rfl, Mv.refl _ _⟩
set_option maxRecDepth 100000 in
set_option maxHeartbeats 3200000 in
theorem Qo (f S : Nat) (st : ah) : ∀ (m : Nat) (x : ae), SizeOf.sizeOf x <= m -> ∀ (w : World) (r : Int × Int), bJ w x -> ow w f S st -> fF st.look x.t = some r ->
    Calls Tryz.prog 159 #[x.val, .func (.func f) #[.pointer (some ⟨S, 0, none⟩)] #[]] w (sW r w) := by
  intro m
  induction m with
  |zero => intro x hm; cases x; simp at hm
  |succ m ih =>
    intro x hm w r hx hf hr
    obtain⟨k, n, s, kv, l⟩ := x
    obtain⟨ka, kc, rfl, hkc, hkl⟩ := hx.form
    have gD := Lib.hid (λ(i : Nat) (hi : i < l.length) => ih l[i] (Nat.le_of_lt_succ (Nat.lt_of_lt_of_le (qX (k := k) (n := n) (s := s) (kv := .slice ka l.length kc) (List.getElem_mem hi)) hm)))
    have aj := Lib.hid (show Grow w (w.alloc (.cells #[.int .u8 k, .int .i64 n, .string s, .slice ka l.length kc] 40))from(Mv.refl _ w).alloc _)
    have aY := Lib.hid (heap_alloc_new w (.cells #[.int .u8 k, .int .i64 n, .string s, .slice ka l.length kc] 40))
    have HX := Lib.hid hx
    have HF := Lib.hid hf
    clear ih hm
    by_cases h1 : k = 1
    · subst h1
      have HR := Lib.hid (show r = (n, 0)from by
        simp only[ae.t, fF, if_true]at hr
        simpa using hr.symm)
      clear hx hf hr
      simp only[ae.val]
      go_enter Tryz.func159, Tryz.ntmps159
      go_wp2_with fail
      go_ret2
      exact⟨by rw[HR.out]; rfl, aj.out⟩
    · have e1 : (k == 1) = false := by simpa using h1
      by_cases h2 : k = 2 \/ k = 5
      · have HC := Lib.hid (RN k n s ka l kc f S st _ r h2 (hf.later aj.out) hr)
        clear hx hf hr
        simp only[ae.val]
        rcases h2 with rfl|rfl
        all_goals
          go_enter Tryz.func159, Tryz.ntmps159
          go_wp2_with fail
          refine HC.out.mono ?_
          rintro e w2 ⟨rfl, hg⟩
          have HG2 := Lib.hid (gtr aj.out hg)
          clear hg
          go_wp2_with fail
          go_ret2
          exact⟨rfl, HG2.out⟩
      · have h16 : k = 16 := by
          rw[ae.t, fF, if_neg h1, if_neg (by omega), if_neg (by omega)]at hr
          by_cases h : k = 16
          · exact h
          · rw[if_neg h]at hr; cases hr
        subst h16
        have hr2 : ∃ a b x e y g, l = [a, b] /\ fF st.look a.t = some (x, e) /\ fF st.look b.t = some (y, g) /\ r = if e = 0 then(if g = 0 then(if x = y then 1 else 0, 0)else(0, g))else(0, e) := by
          rw[ae.t, fF]at hr
          rw[if_neg (by decide), if_neg (by decide), if_neg (by decide), if_pos rfl]at hr
          rcases l with _|⟨a, _|⟨b, _|⟨c, d⟩⟩⟩
          · simp[ae.ts, fF.uw]at hr
          · simp[ae.ts, fF.uw]at hr
          · simp only[ae.ts, fF.uw]at hr
            cases ha : fF st.look a.t with
            |none => rw[ha]at hr; simp at hr
            |some p =>
              cases hb : fF st.look b.t with
              |none => rw[ha, hb]at hr; simp at hr
              |some q =>
                rw[ha, hb]at hr
                obtain⟨x, e⟩ := p
                obtain⟨y, g⟩ := q
                refine⟨a, b, x, e, y, g, rfl, ha, hb, ?_⟩
                simp only at hr
                by_cases he : e = 0
                · by_cases hg : g = 0
                  · simp only[he, hg, if_true]at hr ⊢; simpa using hr.symm
                  · simp only[he, hg, if_true, if_false]at hr ⊢; simpa using hr.symm
                · simp only[he, if_false]at hr ⊢; simpa using hr.symm
          · simp[ae.ts, fF.uw]at hr
        obtain⟨a, b, x, e, y, g, rfl, ha, hb, hrr⟩ := hr2
        have HR := Lib.hid hrr
        obtain⟨kb, ko, mY, dR, -, -⟩ := hx.row.2.2.2.1.at (i := 0) (by simp)
        simp only[Value.slice.injEq, true_and]at dR
        obtain⟨rfl, rfl⟩ := dR
        have hk0 := rF hx 0 (by simp)
        have hk1 := rF hx 1 (by simp)
        simp only[List.getElem_cons_zero, List.getElem_cons_succ, Nat.zero_mul, Nat.add_zero, Nat.one_mul]at hk0 hk1
        have WC := Lib.hid hk0
        have zT := Lib.hid hk1
        have kW := Lib.hid (λz (hz : Grow w z) => gD.out 0 (by simp) z (x, e) (hk0.at_.later hz) (HF.out.later hz) ha)
        have fu := Lib.hid (λz (hz : Grow w z) => gD.out 1 (by simp) z (y, g) (hk1.at_.later hz) (HF.out.later hz) hb)
        simp only[List.getElem_cons_zero, List.getElem_cons_succ]at kW fu
        obtain⟨ak, an, a3, av, al⟩ := a
        obtain⟨bk, bn, bs, bv, bl⟩ := b
        obtain⟨aa, ac, rfl, -, -⟩ := hk0.at_.form
        obtain⟨ba, bc, rfl, -, -⟩ := hk1.at_.form
        clear hx hf hr hk0 hk1 hrr ha hb gD h1 h2
        simp only[ae.val]at kW fu ⊢
        have hk0 := WC.out
        obtain⟨⟨d0, d1⟩, d2, d3⟩ := hk0.four
        have hbl := World.block_lt_of_cell? _ _ d0
        simp only at hbl
        clear hk0
        go_enter Tryz.func159, Tryz.ntmps159
        go_wp2_with fail
        refine(kW.out _ aj.out).mono ?_
        rintro en w2 ⟨rfl, hg⟩
        have HG2 := Lib.hid (gtr aj.out hg)
        have hn2 := ai aY.out hg
        have bL := Lib.hid hn2
        obtain⟨⟨n0, n1⟩, n2, n3⟩ := aJ hn2
        have hnl := lt_of_block hn2
        have hk1 := zT.out.later (gtr aj.out hg)
        obtain⟨⟨f0, f1⟩, f2, f3⟩ := hk1.four
        have BH := World.block_lt_of_cell? _ _ f0
        simp only at BH
        clear hg hn2 d0 d1 d2 d3 hbl hk1
        by_cases he : e = 0
        · subst he
          have HR2 := Lib.hid (show r = if g = 0 then(if x = y then 1 else 0, 0)else(0, g)from by rw[HR.out, if_pos rfl])
          clear HR
          go_wp2_with fail
          refine(fu.out _ HG2.out).mono ?_
          rintro en w3 ⟨rfl, hg⟩
          have aA := Lib.hid (gtr HG2.out hg)
          have FT := ai bL.out hg
          obtain⟨⟨n0, n1⟩, n2, n3⟩ := aJ FT
          have hnl := lt_of_block FT
          clear hg FT f0 f1 f2 f3 BH
          by_cases hg0 : g = 0
          · subst hg0
            have HR3 := Lib.hid (show r = (if x = y then 1 else 0, 0)from by rw[HR2.out, if_pos rfl])
            clear HR2
            go_wp2_with fail
            refine(RO x y w3).mono ?_
            rintro en w4 ⟨rfl, hg⟩
            have bB := Lib.hid (gtr aA.out hg)
            clear hg n0 n1 n2 n3 hnl
            simp only
            generalize (if x = y then(1 : Int)else 0) = vv at *
            go_wp2_with fail
            go_ret2
            exact⟨by rw[HR3.out]; rfl, bB.out⟩
          · have HR3 := Lib.hid (show r = (0, g)from by rw[HR2.out, if_neg hg0])
            have hne : (g != 0) = true := by simpa using hg0
            clear HR2 hg0
            go_wp2_with fail
            go_ret2
            exact⟨by rw[HR3.out]; rfl, aA.out⟩
        · have HR2 := Lib.hid (show r = (0, e)from by rw[HR.out, if_neg he])
          have hne : (e != 0) = true := by simpa using he
          clear HR he
          go_wp2_with fail
          go_ret2
          exact⟨by rw[HR2.out]; rfl, HG2.out⟩
end
end Go.Proofs.YtbpodipdfohikaaGreat
