import Derived.Test.YtbpodipdfohikaaGreatL20
set_option linter.unusedSimpArgs false
set_option linter.unusedVariables false
set_option maxRecDepth 100000
set_option maxHeartbeats 25600000
namespace Go.Proofs.YtbpodipdfohikaaGreat
open Go.RowKit
inductive gQ where
  |run|store|tape|fI|calls|other
  |cell (i : Nat)|items (i : Nat)|vars (j : Nat)|cls (j : Nat)
structure aK where
  ρ : Nat -> gQ
  aH : Nat -> Nat
  iv : Nat -> Value
  fv : List (Value × Value)
  cv : Value
  ev : Value
  el : List Int
  R : Nat
  S : Nat
  tp : Nat
def nJ (x : (Value × Value) × dD) : List Value := [x.1.1, x.1.2, .int .i64 x.2.locals]
theorem wM (x : (Value × Value) × dD) : (nJ x).length = 3 := rfl
def iF (a : Nat) : List Value := [.pointer (some ⟨a, 0, none⟩)]
theorem ug (a : Nat) : (iF a).length = 1 := rfl
theorem cO (a : Int) : (aB a).length = 1 := rfl
def ah.frames (s : ah) : List dD := s.base :: s.calls
structure lX (n0 : Nat) (w : World) (x : aK) (m : Nat) (v : Value × Value) (f : dD) (j : Nat) : Prop where
  vars : w.ownsRow n0 50 3 v.1 (f.vars.map Prod.fst).length (flat au.cells (f.vars.map Prod.fst))
  cls : w.ownsRow n0 136 1 v.2 (f.vars.map λu => x.aH u.2).length (flat iF (f.vars.map λu => x.aH u.2))
  rv : ∀ g, v.1.ownBlock = some g -> x.ρ g = .vars j
  rc : ∀ g, v.2.ownBlock = some g -> x.ρ g = .cls j
  ids : ∀ u ∈ f.vars, u.2 < m
structure ou (n0 : Nat) (w : World) (x : aK) (i : Nat) (l : List Int) : Prop where
  blk : w.heap[x.aH i]? = some (.cells #[x.iv i] 138 (0, 0))
  low : n0 <= x.aH i
  rb : x.ρ (x.aH i) = .cell i
  row : w.ownsRow n0 3 1 (x.iv i) l.length (flat aB l)
  ri : ∀ g, (x.iv i).ownBlock = some g -> x.ρ g = .items i
  few : l.length <= 1000
structure aG (w0 : World) (p : az) (fuel k : Nat) (w : World) (x : aK) (s : ah) : Prop where
  g : Grow w0 w
  run : w.heap[x.R]? = some (.cells (p.cells ++ [.pointer (some ⟨x.S, 0, none⟩), .int .i64 s.steps, .int .i64 fuel, x.ev]).toArray 99 (0, 0))
  store : ∃ b, x.fv[0]? = some b /\ w.heap[x.S]? = some (.cells #[b.1, b.2, .int .i64 s.base.locals, x.cv, .pointer (some ⟨x.tp, 0, none⟩)] 134 (0, 0))
  tape : w.heap[x.tp]? = some (.cells #[.slice none 0 0, .slice none 0 0] 156 (0, 0))
  jo : x.fv.length = s.calls.length + 1
  fr : ∀ j (h : j < x.fv.length) (h' : j < s.frames.length), lX w0.heap.size w x s.cells.length x.fv[j] s.frames[j] j
  calls : w.ownsRow w0.heap.size 131 3 x.cv (x.fv.tail.zip s.calls).length (flat nJ (x.fv.tail.zip s.calls))
  cell : ∀ i (h : i < s.cells.length), ou w0.heap.size w x i s.cells[i]
  fI : w.ownsRow w0.heap.size 3 1 x.ev x.el.length (flat aB x.el)
  ni : x.el.length = p.procs.length
  low : w0.heap.size <= x.R /\ w0.heap.size <= x.S /\ w0.heap.size <= x.tp
  dN : x.ρ x.R = .run /\ x.ρ x.S = .store /\ x.ρ x.tp = .tape
  re : ∀ g, x.ev.ownBlock = some g -> x.ρ g = .fI
  rl : ∀ g, x.cv.ownBlock = some g -> x.ρ g = .calls
  bd : s.cells.length <= k + s.steps /\ (∀ f ∈ s.frames, f.vars.length <= k + s.steps /\ f.locals <= k + s.steps) /\ s.calls.length <= 100 /\ s.steps <= fuel /\ fuel <= 500000 /\ k <= 1000
theorem aG.NA {w0 : World} {p : az} {fuel k : Nat} {w : World} {x : aK} {s : ah} (h : aG w0 p fuel k w x s) : x.fv.length = s.frames.length := by rw[h.jo]; rfl
theorem lX.mv {n0 : Nat} {w w' : World} {x : aK} {m : Nat} {v : Value × Value} {f : dD} {j : Nat} {O : Nat -> Prop} (h : lX n0 w x m v f j) (hm : Mv O w w') (hO : ∀ g, O g -> x.ρ g ≠ .vars j /\ x.ρ g ≠ .cls j) : lX n0 w' x m v f j :=
  ⟨aZ h.vars hm (λg hg e => (hO g e).1 (h.rv g hg)), aZ h.cls hm (λg hg e => (hO g e).2 (h.rc g hg)), h.rv, h.rc, h.ids⟩
theorem ou.mv {n0 : Nat} {w w' : World} {x : aK} {i : Nat} {l : List Int} {O : Nat -> Prop} (h : ou n0 w x i l) (hm : Mv O w w') (hO : ∀ g, O g -> x.ρ g ≠ .cell i /\ x.ρ g ≠ .items i) : ou n0 w' x i l :=
  ⟨by rw[hm.block _ (lt_of_block h.blk) (λe => (hO _ e).1 h.rb)]; exact h.blk, h.low, h.rb, aZ h.row hm (λg hg e => (hO g e).2 (h.ri g hg)), h.ri, h.few⟩
theorem aG.later {w0 : World} {p : az} {fuel k : Nat} {w w' : World} {x : aK} {s : ah} (h : aG w0 p fuel k w x s) (hg : Grow w w') : aG w0 p fuel k w' x s := by
  obtain⟨b, hb, hs⟩ := h.store
  exact⟨gtr h.g hg, ai h.run hg, ⟨b, hb, ai hs hg⟩, ai h.tape hg, h.jo, λj hj hj' => (h.fr j hj hj').mv hg (λ_ e => e.elim), aZ h.calls hg (λ_ _ e => e), λi hi => (h.cell i hi).mv hg (λ_ e => e.elim), aZ h.fI hg (λ_ _ e => e), h.ni, h.low, h.dN, h.re, h.rl, h.bd⟩
theorem aG.step {w0 : World} {p : az} {fuel k : Nat} {w w' : World} {x : aK} {s : ah} (h : aG w0 p fuel k w x s) (hf : s.steps < fuel) (hm : Mv (λb => b = x.R) w w') (hr : w'.heap[x.R]? = some (.cells (p.cells ++ [.pointer (some ⟨x.S, 0, none⟩), .int .i64 ((s.steps + 1 : Nat) : Int), .int .i64 fuel, x.ev]).toArray 99 (0, 0))) : aG w0 p fuel k w' x { s with steps := s.steps + 1 } := by
  obtain⟨b, hb, hs⟩ := h.store
  have hro := h.dN.1
  have hne : ∀ g, g = x.R -> ∀ r : gQ, x.ρ g = r -> r = .run := λg e r hr => by subst e; rw[hro]at hr; exact hr.symm
  refine⟨bN h.g hm (λb e => by subst e; exact h.low.1), hr, ⟨b, hb, ?_⟩, ?_, h.jo, λj hj hj' => (h.fr j hj hj').mv hm (λg e => ⟨λhr => (by have := hne g e _ hr; cases this), λhr => (by have := hne g e _ hr; cases this)⟩), aZ h.calls hm (λg hg e => (by have := hne g e _ (h.rl g hg); cases this)), λi hi => (h.cell i hi).mv hm (λg e => ⟨λhr => (by have := hne g e _ hr; cases this), λhr => (by have := hne g e _ hr; cases this)⟩), aZ h.fI hm (λg hg e => (by have := hne g e _ (h.re g hg); cases this)), h.ni, h.low, h.dN, h.re, h.rl, by have := h.bd.1; simp only; omega, λf hf => (by have := h.bd.2.1 f hf; simp only; omega), h.bd.2.2.1, by simp only; omega, h.bd.2.2.2.2⟩
  · rw[hm.block _ (lt_of_block hs) (λe => (by have := hne _ e _ h.dN.2.1; cases this))]; exact hs
  · rw[hm.block _ (lt_of_block h.tape) (λe => (by have := hne _ e _ h.dN.2.2; cases this))]; exact h.tape
theorem wE (s : ah) : ∃ h : s.calls.length < s.frames.length, s.frames[s.calls.length] = s.cur := by
  refine⟨by simp[ah.frames], ?_⟩
  unfold ah.frames ah.cur
  cases hc : s.calls with
  |nil => rfl
  |cons a l =>
    simp only[List.length_cons, List.getElem_cons_succ]
    rw[List.getLast?_cons]
    simp only
    cases l with
    |nil => rfl
    |cons b l => simp[List.getLast?_eq_getElem?]
structure ax (x x' : aK) (w w' : World) : Prop where
  R : x'.R = x.R
  S : x'.S = x.S
  o : ∀ b, b < w.heap.size -> x.ρ b = .other -> x'.ρ b = .other
  m : Mv (λb => x.ρ b ≠ .other) w w'
  n : ∀ (b : Nat) (cs : Array Value) (z : Nat × Nat), w.heap[b]? = some (.cells cs 40 z) -> w'.heap[b]? = some (.cells cs 40 z)
theorem ax.refl (x : aK) (w : World) : ax x x w w := ⟨rfl, rfl, λ_ _ e => e, Mv.refl _ _, λ_ _ _ h => h⟩
theorem ax.trans {x x' Cj : aK} {w w' w'' : World} (h : ax x x' w w') (k : ax x' Cj w' w'') : ax x Cj w w'' :=
  ⟨k.R.trans h.R, k.S.trans h.S, λb hb e => k.o b (Nat.lt_of_lt_of_le hb h.m.size) (h.o b hb e), h.m.trans k.m (λb hb => by
    rcases Nat.lt_or_ge b w.heap.size with h1|h1
    · exact .inl λe => hb (h.o b h1 e)
    · exact .inr h1), λb cs z hb => k.n b cs z (h.n b cs z hb)⟩
theorem ax.grow {x : aK} {w w' : World} (h : Grow w w') : ax x x w w' := ⟨rfl, rfl, λ_ _ e => e, h.mono (λ_ e => e.elim), λ_ _ _ hb => ai hb h⟩
theorem ax.keep {x x' : aK} {w w' : World} (h : ax x x' w w') {b : Nat} {o : Obj} (hb : w.heap[b]? = some o) (ho : x.ρ b = .other) : w'.heap[b]? = some o := (h.m.block b (lt_of_block hb) (λe => e ho)).trans hb
theorem ax.tree {x x' : aK} {w w' : World} (h : ax x x' w w') {n : ae} (hn : aS (λ_ => True) w n) : aS (λ_ => True) w' n :=
  hn.stay (O := λb => ¬ ∃ cs z, w.heap[b]? = some (.cells cs 40 z)) ⟨h.m.os, h.m.tape, h.m.output, h.m.size, λb hb e => by
    have⟨cs, z, hc⟩ := Classical.not_not.1 e
    rw[hc]; exact h.n b cs z hc⟩ (λb cs z _ hc e => e ⟨cs, z, hc⟩)
theorem aG.fresh {w0 : World} {p : az} {fuel k : Nat} {w : World} {x : aK} {s : ah} (h : aG w0 p fuel k w x s) : ∃ x1 : aK, ax x x1 w w /\ (∀ b, w.heap.size <= b -> x1.ρ b = .other) /\ aG w0 p fuel k w x1 s := by
  have key : ∀ b, b < w.heap.size -> (if b < w.heap.size then x.ρ b else gQ.other) = x.ρ b := λb hb => if_pos hb
  have qm : ∀ {b : Nat} {o : Obj}, w.heap[b]? = some o -> (if b < w.heap.size then x.ρ b else gQ.other) = x.ρ b := λhb => key _ (lt_of_block hb)
  refine⟨{ x with ρ := λb => if b < w.heap.size then x.ρ b else .other }, ⟨rfl, rfl, λb hb e => (key b hb).trans e, Mv.refl _ _, λ_ _ _ h => h⟩, λb hb => if_neg (by omega), ?_⟩
  obtain⟨b, hb, hs⟩ := h.store
  refine⟨h.g, h.run, ⟨b, hb, hs⟩, h.tape, h.jo, λj hj hj' => ?_, h.calls, λi hi => ?_, h.fI, h.ni, h.low, ⟨(qm h.run).trans h.dN.1, (qm hs).trans h.dN.2.1, (qm h.tape).trans h.dN.2.2⟩, λg hg => ?_, λg hg => ?_, h.bd⟩
  · have f := h.fr j hj hj'
    refine⟨f.vars, f.cls, λg hg => ?_, λg hg => ?_, f.ids⟩
    · obtain⟨-, cs, z, hc⟩ := bH f.vars g hg
      exact(qm hc).trans (f.rv g hg)
    · obtain⟨-, cs, z, hc⟩ := bH f.cls g hg
      exact(qm hc).trans (f.rc g hg)
  · have f := h.cell i hi
    refine⟨f.blk, f.low, (qm f.blk).trans f.rb, f.row, λg hg => ?_, f.few⟩
    obtain⟨-, cs, z, hc⟩ := bH f.row g hg
    exact(qm hc).trans (f.ri g hg)
  · obtain⟨-, cs, z, hc⟩ := bH h.fI g hg
    exact(qm hc).trans (h.re g hg)
  · obtain⟨-, cs, z, hc⟩ := bH h.calls g hg
    exact(qm hc).trans (h.rl g hg)
def wV (n : Int) : Ending := .panicked [{ v := .iface 142 (.agg #[.int .i64 n]), recovered := false }]
theorem DF (n : Int) (w : World) (h : n ≠ 0) : Calls Tryz.prog 133 #[.int .i64 n] w λe w' => e = wV n /\ w = w' := by
  have e0 : (n == 0) = false := by simpa using h
  go_enter Tryz.func133, Tryz.ntmps133
  go_wp2
  all_goals exact⟨rfl, rfl, rfl⟩
theorem Az (r : Value) (n : Int) (w : World) : Calls Tryz.prog 119 #[r, .int .i64 n] w λe w' => e = (if n = 0 then .returned (.tuple #[])else wV n) /\ w = w' := by
  by_cases h : n = 0
  · subst h
    go_enter Tryz.func119, Tryz.ntmps119
    go_wp2_with fail
    go_end0
    exact⟨rfl, rfl⟩
  · have e0 : (n != 0) = true := by simpa using h
    rw[if_neg h]
    have HC := Lib.hid (DF n w h)
    clear h
    go_enter Tryz.func119, Tryz.ntmps119
    go_wp2_with fail
    refine HC.out.mono ?_
    rintro e w2 ⟨rfl, rfl⟩
    exact⟨rfl, rfl, rfl⟩
theorem aG.cells {w0 : World} {p : az} {fuel k : Nat} {w : World} {x : aK} {s : ah} (h : aG w0 p fuel k w x s) : (w.cell? ⟨x.R, 6, none⟩ = some (.pointer (some ⟨x.S, 0, none⟩)) /\ w.cell? ⟨x.R, 7, none⟩ = some (.int .i64 s.steps)) /\ w.cell? ⟨x.R, 8, none⟩ = some (.int .i64 fuel) /\ w.cell? ⟨x.R, 9, none⟩ = some x.ev := by
  obtain⟨vars, vv, procs, pv, ⟨k, n, s, kv, l⟩⟩ := p
  have := h.run
  simp only[az.cells, ae.cells]at this
  simp[World.cell?, this]
theorem aG.SE {w0 : World} {p : az} {fuel k : Nat} {w : World} {x : aK} {s : ah} (h : aG w0 p fuel k w x s) (hf : ¬ fuel <= s.steps) : aG w0 p fuel k (w.setCell ⟨x.R, 7, none⟩ (.int .i64 ((s.steps : Int) + 1))) x { s with steps := s.steps + 1 } := by
  have hb := block_setCell (p := ⟨x.R, 7, none⟩) h.run rfl (.int .i64 ((s.steps : Int) + 1))
  refine h.step (by omega) ((Mv.refl (λb => b = x.R) w).setCell (p := ⟨x.R, 7, none⟩) (.inl rfl) _) ?_
  rw[hb]
  obtain⟨vars, vv, procs, pv, ⟨k, n, s, kv, l⟩⟩ := p
  simp[az.cells, ae.cells]
theorem aG.TP {w0 : World} {p : az} {fuel k : Nat} {w : World} {x : aK} {s : ah} (h : aG w0 p fuel k w x s) (b : Nat) (e : b = x.R) : x.ρ b ≠ .other := by
  subst e; rw[h.dN.1]; exact λe => by cases e
def oJ (w0 : World) (x : aK) (w w' : World) : Prop := Grow w0 w' /\ ∃ x', ax x x' w w'
theorem oJ.new {w0 : World} {x : aK} {w w' : World} (h : Grow w0 w') (hg : Grow w w') : oJ w0 x w w' := ⟨h, x, ax.grow hg⟩
theorem oJ.of {w0 : World} {x x1 : aK} {w w1 w' : World} (hr : ax x x1 w w1) (h : oJ w0 x1 w1 w') : oJ w0 x w w' := ⟨h.1, h.2.imp λ_ h2 => hr.trans h2⟩
def bZ (w0 : World) (p : az) (fuel k : Nat) (x : aK) (w : World) (res : Except Int ah) (e : Ending) (w' : World) : Prop := match res with
  |.ok s' => e = .returned (.tuple #[]) /\ ∃ x', ax x x' w w' /\ aG w0 p fuel k w' x' s'
  |.error n => (e = wV n /\ n ≠ 0) /\ oJ w0 x w w'
set_option maxRecDepth 100000 in
set_option maxHeartbeats 1600000 in
theorem rf (w0 : World) (p : az) (fuel k : Nat) (w : World) (x : aK) (s : ah) (h : aG w0 p fuel k w x s) : Calls Tryz.prog 118 #[.pointer (some ⟨x.R, 0, none⟩)] w (bZ w0 p fuel k x w (s.step fuel)) := by
  obtain⟨⟨c6, c7⟩, c8, c9⟩ := h.cells
  have hl := lt_of_block h.run
  have hfz : w.frozen? ⟨x.R, 7, none⟩ = false := bD h.run 7
  have HS := Lib.hid h
  have hb1 : s.steps <= 500000 := by have := h.bd.2.2; omega
  have hb2 : fuel <= 500000 := h.bd.2.2.2.2.1
  clear h
  by_cases hf : fuel <= s.steps
  · have hE : s.step fuel = .error 18 := by simp[ah.step, hf]
    have hd : decide ((fuel : Int) <= s.steps) = true := by simp; omega
    rw[hE]
    go_enter Tryz.func118, Tryz.ntmps118
    go_wp2_with fail
    go_region
    go_wp2_with fail
    refine(DF 18 _ (by decide)).mono ?_
    rintro e w2 ⟨rfl, rfl⟩
    exact⟨rfl, ⟨rfl, by decide⟩, .new HS.out.g.drew (Mv.refl _ _).drew⟩
  · have hE : s.step fuel = .ok { s with steps := s.steps + 1 } := by simp[ah.step, hf]
    have hd : decide ((fuel : Int) <= s.steps) = false := by simp; omega
    rw[hE]
    go_enter Tryz.func118, Tryz.ntmps118
    go_wp2_with fail
    go_region
    have HN := Lib.hid ((HS.out.later ((Mv.refl (λ_ => False) w).drew)).SE hf)
    have HR := Lib.hid (show ax x x w (w.drew.setCell ⟨x.R, 7, none⟩ (.int .i64 ((s.steps : Int) + 1)))from⟨rfl, rfl, λ_ _ e => e, (((Mv.refl (λb => b = x.R) w).drew).setCell (p := ⟨x.R, 7, none⟩) (.inl rfl) _).mono (λb e => .inl (HS.out.TP b e)), λb cs z hb => (((Mv.refl (λb => b = x.R) w).drew.setCell (p := ⟨x.R, 7, none⟩) (.inl rfl) (.int .i64 ((s.steps : Int) + 1))).block b (lt_of_block hb) (λe => by subst e; rw[HS.out.run]at hb; simp at hb)).trans hb⟩)
    go_wp2_with fail
    go_end0
    exact⟨rfl, x, HR.out, HN.out⟩
def jK (x : aK) (s : ah) (b o : Nat) : Prop := (s.calls.length = 0 /\ b = x.S /\ o = 0) \/ (0 < s.calls.length /\ (∃ cap, x.cv = .slice (some ⟨b, 0, none⟩) s.calls.length cap) /\ o = (s.calls.length - 1) * 3)
def aK.cur (x : aK) (s : ah) : Value × Value := x.fv.getD s.calls.length (.slice none 0 0, .slice none 0 0)
theorem aG.fM {w0 : World} {p : az} {fuel k : Nat} {w : World} {x : aK} {s : ah} (h : aG w0 p fuel k w x s) : lX w0.heap.size w x s.cells.length (x.cur s) s.cur s.calls.length := by
  obtain⟨hl, he⟩ := wE s
  have hx : s.calls.length < x.fv.length := by rw[h.jo]; omega
  have := h.fr s.calls.length hx hl
  rw[he]at this
  rwa[show x.cur s = x.fv[s.calls.length] by simp[aK.cur, List.getD, hx]]
theorem rG {w0 : World} {p : az} {fuel k : Nat} {w : World} {x : aK} {s : ah} (h : aG w0 p fuel k w x s) : (x.fv.tail.zip s.calls).length = s.calls.length := by
  simp[h.jo]
theorem aG.nY {w0 : World} {p : az} {fuel k : Nat} {w : World} {x : aK} {s : ah} (h : aG w0 p fuel k w x s) {b o : Nat} (hc : jK x s b o) : (w.cell? ⟨b, o, none⟩ = some (x.cur s).1 /\ w.cell? ⟨b, o + 1, none⟩ = some (x.cur s).2 /\ w.cell? ⟨b, o + 2, none⟩ = some (.int .i64 s.cur.locals)) /\ b < w.heap.size /\ (∀ i, w.frozen? ⟨b, i, none⟩ = false) := by
  rcases hc with⟨h0, rfl, rfl⟩|⟨h0, ⟨cap, hcv⟩, rfl⟩
  · obtain⟨v, hv, hs⟩ := h.store
    have hn : s.calls = [] := List.eq_nil_of_length_eq_zero h0
    have eO : s.cur = s.base := by simp[ah.cur, hn]
    have Wm : x.cur s = v := by simp[aK.cur, h0, List.getD, hv]
    rw[eO, Wm]
    refine⟨?_, lt_of_block hs, bD hs⟩
    simp[World.cell?, hs]
  · have hr := bX wM h.calls
    have hz := rG h
    have hi : s.calls.length - 1 < (x.fv.tail.zip s.calls).length := by omega
    rw[hcv]at hr
    have hcell := hr.at' hi
    have hx : s.calls.length < x.fv.length := by rw[h.jo]; omega
    have hel : (x.fv.tail.zip s.calls)[s.calls.length - 1] = (x.cur s, s.cur) := by
      rw[List.getElem_zip]
      congr 1
      · rw[List.getElem_tail]
        simp only[aK.cur, List.getD]
        have e : s.calls.length - 1 + 1 = s.calls.length := by omega
        simp only[e]
        simp[hx]
      · unfold ah.cur
        rw[List.getLast?_eq_getElem?, List.getElem?_eq_getElem (by omega)]
    rw[hel]at hcell
    have c0 := hcell 0 _ rfl
    have c1 := hcell 1 _ rfl
    have c2 := hcell 2 _ rfl
    simp only[Nat.zero_add, Nat.add_zero]at c0 c1 c2
    refine⟨⟨c0, c1, c2⟩, World.block_lt_of_cell? w _ c0, λi => ?_⟩
    obtain⟨-, cs, z, hb⟩ := bH h.calls b (by rw[hcv]; rfl)
    rcases h.calls.2 with⟨e, _⟩|⟨g, c2, u2, e, _, hb2, _⟩
    · rw[hcv]at e; simp at e
    · rw[hcv]at e
      simp only[Value.slice.injEq, Option.some.injEq, Addr.mk.injEq]at e
      obtain⟨⟨rfl, -⟩, -, -⟩ := e
      exact bD hb2 i
set_option maxRecDepth 100000 in
set_option maxHeartbeats 1600000 in
theorem tL (w0 : World) (p : az) (fuel k : Nat) (w : World) (x : aK) (s : ah) (h : aG w0 p fuel k w x s) : Calls Tryz.prog 134 #[.pointer (some ⟨x.S, 0, none⟩)] w λe w' => (∃ b o, e = .returned (.pointer (some ⟨b, o, none⟩)) /\ jK x s b o) /\ w = w' := by
  obtain⟨v, hv, hs⟩ := h.store
  have s3 : w.cell? ⟨x.S, 3, none⟩ = some x.cv := by simp[World.cell?, hs]
  have hsl := lt_of_block hs
  have hz := rG h
  have hcl : s.calls.length <= 100 := h.bd.2.2.1
  by_cases h0 : s.calls.length = 0
  · have hcv : ∃ a c, x.cv = .slice a 0 c := by
      obtain⟨a, c, e⟩ := dL h.calls
      rw[hz, h0]at e; exact⟨a, c, e⟩
    obtain⟨a, c, hcv⟩ := hcv
    rw[hcv]at s3
    have HC := Lib.hid (show jK x s x.S 0 from .inl ⟨h0, rfl, rfl⟩)
    clear h hv hs hcv hz h0
    go_enter Tryz.func134, Tryz.ntmps134
    go_wp2_with fail
    go_ret
    exact⟨⟨_, _, rfl, HC.out⟩, rfl⟩
  · have hcv : ∃ b c, x.cv = .slice (some ⟨b, 0, none⟩) s.calls.length c := by
      rcases h.calls.2 with⟨e, he⟩|⟨g, c2, u2, e, _⟩
      · rw[hz]at he; omega
      · exact⟨g, c2, by rw[e, hz]⟩
    obtain⟨b, c, hcv⟩ := hcv
    rw[hcv]at s3
    have HC := Lib.hid (show jK x s b ((s.calls.length - 1) * 3)from .inr ⟨by omega, ⟨c, hcv⟩, rfl⟩)
    have h1 : 0 < s.calls.length := by omega
    clear h hv hs hcv hz h0
    generalize s.calls.length = n at *
    obtain⟨m, rfl⟩ : ∃ m, n = m + 1 := ⟨n - 1, by omega⟩
    simp only[Nat.add_sub_cancel]at HC
    have hd : decide (0 < ((m + 1 : Nat) : Int)) = true := by simp
    have HE : ((m + 1 : Nat) : Int) - 1 = (m : Int) := by omega
    have hlt : m < m + 1 := by omega
    go_enter Tryz.func134, Tryz.ntmps134
    go_wp2_with fail
    go_ret
    exact⟨⟨_, _, rfl, HC.out⟩, rfl⟩
def pX (l : List au) (n : ByteArray) (i : Int) : Prop := (i = -1 /\ ∀ j (h : j < l.length), (l[j].name == n) = false) \/ ∃ j, ∃ h : j < l.length, i = j /\ (l[j].name == n) = true /\ ∀ j' (h' : j' < l.length), j < j' -> (l[j'].name == n) = false
theorem GY (l : List (au × Nat)) (n : ByteArray) (h : ∀ j (hj : j < l.length), (l[j].1.name == n) = false) : bf l n = none := by
  induction l with
  |nil => rfl
  |cons v l ih =>
    have h1 := ih (λj hj => h (j + 1) (by simpa using hj))
    have h2 := h 0 (by simp)
    rw[bf, h1]
    simp only[List.getElem_cons_zero]at h2
    simp[h2]
theorem Hz (n : ByteArray) : ∀ (l : List (au × Nat)) (i : Nat) (hi : i < l.length), (l[i].1.name == n) = true -> (∀ j (hj : j < l.length), i < j -> (l[j].1.name == n) = false) -> bf l n = some l[i]
  | [], i, hi, _, _ => by simp at hi
  |v :: l, 0, _, h, hn => by
    rw[bf, GY l n (λj hj => hn (j + 1) (by simpa using hj) (by omega))]
    simp only[List.getElem_cons_zero]at h ⊢
    simp[h]
  |v :: l, i + 1, hi, h, hn => by
    have := Hz n l i (by simpa using hi) h (λj hj hij => hn (j + 1) (by simpa using hj) (by omega))
    rw[bf, this]
    rfl
theorem pX.last {l : List (au × Nat)} {n : ByteArray} {i : Int} (h : pX (l.map Prod.fst) n i) : (i = -1 /\ bf l n = none) \/ ∃ j, ∃ h : j < l.length, i = j /\ bf l n = some l[j] := by
  rcases h with⟨rfl, h⟩|⟨j, hj, rfl, h1, h2⟩
  · exact .inl ⟨rfl, GY l n (λj hj => by have := h j (by simpa using hj); simpa using this)⟩
  · have hj' : j < l.length := by simpa using hj
    exact .inr ⟨j, hj', rfl, Hz n l j hj' (by simpa using h1) (λj' h' hlt => by have := h2 j' (by simpa using h') hlt; simpa using this)⟩
set_option maxRecDepth 100000 in
set_option maxHeartbeats 1600000 in
theorem yF (b o : Nat) (v : Value) (l : List au) (n : ByteArray) (w : World) (hv : w.cell? ⟨b, o, none⟩ = some v) (hr : ay 3 au.cells w v l) : Calls Tryz.prog 135 #[.pointer (some ⟨b, o, none⟩), .string n] w λe w' => (∃ i, e = .returned (.int .i64 i) /\ pX l n i) /\ w = w' := by
  obtain⟨va, vc, rfl, lZ, hvl⟩ := hr.form
  have HR := Lib.hid hr
  have hbl := World.block_lt_of_cell? w _ hv
  simp only at hbl
  clear hr
  go_enter Tryz.func135, Tryz.ntmps135
  go_wp2_with fail
  go_loopw [5] (λt wr => ∃ i : Int, t = .int .i64 i /\ -1 <= i /\ i < l.length /\ wr = w /\ ∀ j (hj : j < l.length), i < (j : Int) -> (l[j].name == n) = false) (λt _ => (intOf t + 1).toNat)
  case atStart => exact⟨(l.length : Int) - 1, rfl, by omega, by omega, rfl, λj hj h => by omega⟩
  obtain⟨i, rfl, hi1, hi2, rfl, hall⟩ := hrel
  have HA := Lib.hid hall
  clear hall
  by_cases hneg : 0 <= i
  · obtain⟨j, rfl⟩ := Int.eq_ofNat_of_zero_le hneg
    have hk : j < l.length := by omega
    obtain⟨vb, off, cap', e, _, hcc⟩ := HR.out.at hk
    simp only[Value.slice.injEq, true_and]at e
    obtain⟨rfl, rfl⟩ := e
    have c0 := hcc 0 _ rfl
    have HT := Lib.hid (λ(h : (l[j].name == n) = true) => show pX l n j from .inr ⟨j, hk, rfl, h, λj' h' hlt => HA.out j' h' (by omega)⟩)
    have HF := Lib.hid (λ(h : (l[j].name == n) = false) (j' : Nat) (hj : j' < l.length) (hij : (j : Int) - 1 < j') => show(l[j'].name == n) = false from by
      by_cases hjk : j' = j
      · subst hjk; exact h
      · exact HA.out j' hj (by omega))
    generalize l[j] = x at *
    obtain⟨xs, xk, xn⟩ := x
    have hbb := Bv xs n
    simp only[Nat.add_zero]at c0
    have X5 : vb < wr.heap.size := World.block_lt_of_cell? wr _ c0
    have hge : decide ((0 : Int) <= j) = true := by simp
    clear hcc
    cases hn : (xs == n)with
    |true =>
      rw[hn]at hbb
      have u6 := Lib.hid (HT.out hn)
      clear HT HF hn
      go_wp2_with fail
      go_ret
      exact⟨⟨_, rfl, u6.out⟩, rfl⟩
    |false =>
      rw[hn]at hbb
      have HX := Lib.hid (HF.out hn)
      clear HT HF hn
      go_wp2_with fail
      go_roundw
      case rel => exact⟨(j : Int) - 1, by go_num, by omega, by omega, trivial, HX.out⟩
      case measure => simp[intOf] <;> omega
  · have hge : decide (0 <= i) = false := by simp; omega
    have u6 := Lib.hid (show pX l n (-1)from .inl ⟨rfl, λj hj => HA.out j hj (by omega)⟩)
    clear HA
    go_wp2_with fail
    go_ret
    exact⟨⟨_, rfl, u6.out⟩, rfl⟩
theorem Ia : ∀ (l : List (au × Nat)) (n : ByteArray) (u : au × Nat), bf l n = some u -> u ∈ l /\ u.1.name = n
  | [], _, _, h => by cases h
  |a :: l, n, u, h => by
    rw[bf]at h
    cases h2 : bf l n with
    |some y =>
      rw[h2]at h
      have e : y = u := by simpa using h
      have := Ia l n y h2
      rw[e]at this
      exact⟨List.mem_cons_of_mem _ this.1, this.2⟩
    |none =>
      rw[h2]at h
      by_cases he : (a.1.name == n) = true
      · simp only[he, if_true, Option.some.injEq]at h
        subst h
        exact⟨by simp, by simpa using he⟩
      · simp[he]at h
def aK.look (x : aK) (s : ah) (n : ByteArray) : Value := match bf s.cur.vars n with
  |none => .slice none 0 0
  |some u => x.iv u.2
theorem aG.cellOf {w0 : World} {p : az} {fuel k : Nat} {w : World} {x : aK} {s : ah} (h : aG w0 p fuel k w x s) {u : au × Nat} (hu : u ∈ s.cur.vars) : ∃ hi : u.2 < s.cells.length, ou w0.heap.size w x u.2 s.cells[u.2] := by
  have hi := h.fM.ids u hu
  exact⟨hi, h.cell _ hi⟩
theorem aG.Jj {w0 : World} {p : az} {fuel k : Nat} {w : World} {x : aK} {s : ah} (h : aG w0 p fuel k w x s) (n : ByteArray) : ay 1 aB w (x.look s n) ((s.look n).getD []) /\ ((s.look n).getD []).length <= 1000 := by
  unfold aK.look ah.look
  cases hl : bf s.cur.vars n with
  |none => exact⟨ay.nil _ _ _, by simp⟩
  |some u =>
    have hm : u ∈ s.cur.vars := (Ia _ n u hl).1
    obtain⟨hi, hc⟩ := h.cellOf hm
    simp only[Option.map_some, Option.getD_some, List.getD, List.getElem?_eq_getElem hi]
    exact⟨bX cO hc.row, hc.few⟩
set_option maxRecDepth 100000 in
set_option maxHeartbeats 3200000 in
theorem GZ (w0 : World) (p : az) (fuel k : Nat) (w : World) (x : aK) (s : ah) (n : ByteArray) (h : aG w0 p fuel k w x s) : Calls Tryz.prog 149 #[.pointer (some ⟨x.S, 0, none⟩), .string n] w λe w' => e = .returned (.tuple #[x.look s n, .bool (s.look n).isSome]) /\ w = w' := by
  have HS := Lib.hid h
  have HC := Lib.hid (tL w0 p fuel k w x s h)
  have hvl : s.cur.vars.length <= 9223372036854775807 := by
    obtain⟨_, _, e, _, h⟩ := (bX (f := au.cells) (λ_ => rfl) h.fM.vars).form
    simpa using h
  clear h
  go_enter Tryz.func149, Tryz.ntmps149
  go_wp2_with fail
  refine HC.out.mono ?_
  rintro e w2 ⟨⟨b, o, rfl, eO⟩, rfl⟩
  obtain⟨⟨d0, d1, d2⟩, hbl, hfz⟩ := HS.out.nY eO
  have iV := Lib.hid (yF b o (x.cur s).1 (s.cur.vars.map Prod.fst) n w d0 (bX (f := au.cells) (λ_ => rfl) HS.out.fM.vars))
  clear eO
  go_wp2_with fail
  refine iV.out.mono ?_
  rintro e w3 ⟨⟨i, rfl, hix⟩, rfl⟩
  have FM := Lib.hid (show x.look s n = match bf s.cur.vars n with
    |none => .slice none 0 0
    |some u => x.iv u.2 from rfl)
  have sJ := Lib.hid (show(s.look n).isSome = (bf s.cur.vars n).isSome from by unfold ah.look; simp)
  rcases hix.last with⟨rfl, hl⟩|⟨j, hj, rfl, hl⟩
  · have HV := Lib.hid (show x.look s n = .slice none 0 0 from by rw[FM.out, hl])
    have HB := Lib.hid (show(s.look n).isSome = false from by rw[sJ.out, hl]; rfl)
    clear hl hix
    go_wp2_with fail
    go_ret2
    refine⟨?_, rfl⟩
    rw[HV.out, HB.out]
    rfl
  · have HV := Lib.hid (show x.look s n = x.iv s.cur.vars[j].2 from by rw[FM.out, hl])
    have HB := Lib.hid (show(s.look n).isSome = true from by rw[sJ.out, hl]; rfl)
    obtain⟨hi, hc⟩ := HS.out.cellOf (List.getElem_mem hj)
    obtain⟨ca, cc, hcv⟩ := dL HS.out.fM.cls
    have hrow := bX (f := iF) ug HS.out.fM.cls
    have hj2 : j < (s.cur.vars.map λu => x.aH u.2).length := by simpa using hj
    obtain⟨pb, po, gP, e, _, hcc⟩ := hrow.at hj2
    rw[e]at d1
    have p0 := hcc 0 _ rfl
    simp only[Nat.add_zero, Nat.mul_one, List.getElem_map]at p0
    have i0 : w.cell? ⟨x.aH s.cur.vars[j].2, 0, none⟩ = some (x.iv s.cur.vars[j].2) := by simp[World.cell?, hc.blk]
    have hil := lt_of_block hc.blk
    have hpl := World.block_lt_of_cell? w _ p0
    simp only at hpl
    simp only[List.length_map]at d1
    have hd : decide ((j : Int) < 0) = false := by simp
    clear hl hix hcc hc hcv hrow e FM sJ
    generalize s.cur.vars[j].2 = u at *
    obtain⟨ia, iN, ic, gV⟩ : ∃ a n c, x.iv u = .slice a n c := by
      have := (HS.out.cell u hi).row
      obtain⟨a, c, e⟩ := dL this
      exact⟨a, _, c, e⟩
    rw[gV]at i0 HV
    clear gV
    generalize s.cur.vars.length = nv at *
    go_wp2_with fail
    go_ret2
    refine⟨?_, rfl⟩
    rw[HV.out, HB.out]
    rfl
def Eh (s : ah) (n : ByteArray) (w : World) (e : Ending) (w' : World) : Prop := ∃ v, e = .returned (.tuple #[v, .bool (s.look n).isSome]) /\ ay 1 aB w' v ((s.look n).getD []) /\ Grow w w'
set_option maxRecDepth 100000 in
set_option maxHeartbeats 1600000 in
theorem Xk (w0 : World) (p : az) (fuel k : Nat) (w : World) (x : aK) (s : ah) (n : ByteArray) (h : aG w0 p fuel k w x s) : Calls Tryz.prog 149 #[.pointer (some ⟨x.S, 0, none⟩), .string n] w (Eh s n w) := by
  refine(GZ w0 p fuel k w x s n h).mono ?_
  rintro e w2 ⟨rfl, rfl⟩
  exact⟨_, rfl, (h.Jj n).1, Mv.refl _ _⟩
set_option maxRecDepth 100000 in
set_option maxHeartbeats 1600000 in
theorem RH (w0 : World) (p : az) (fuel k : Nat) (w : World) (x : aK) (s : ah) (n : ByteArray) (h : aG w0 p fuel k w x s) : Calls Tryz.prog 145 #[.pointer (some ⟨x.S, 0, none⟩), .string n] w (Eh s n w) := by
  have HL := Lib.hid (GZ w0 p fuel k w x s n h)
  have hr := h.Jj n
  have HC := Lib.hid (Dj (x.look s n) ((s.look n).getD []) w hr.1 (by omega))
  obtain⟨a, c, hv, -, -⟩ := hr.1.form
  rw[hv]at HL HC
  clear h hr hv
  go_enter Tryz.func145, Tryz.ntmps145
  go_wp2_with fail
  refine HL.out.mono ?_
  rintro e w2 ⟨rfl, rfl⟩
  go_wp2_with fail
  refine HC.out.mono ?_
  rintro e w3 ⟨v', rfl, hrow, -, hg⟩
  obtain⟨a', c', rfl, -, -⟩ := hrow.form
  have HR := Lib.hid hrow
  have HG := Lib.hid hg
  clear hrow hg HL HC
  go_wp2_with fail
  go_ret2
  exact⟨_, rfl, HR.out, HG.out⟩
end Go.Proofs.YtbpodipdfohikaaGreat
