/- JournalRuns: the specification's model in memory, and its cut. -/
import Derived.Test.YtlcbfjcfkknmgaaRun5
namespace Go.Proofs.Ytlcbfjcfkknmgaa
open Go.RowKit

attribute [local go_sem ↓] run_appOp

/-- the model at M, the results' variable at X; all in memory that is new since w0 -/
structure Mo (M X : Nat) (w0 : World) (lv gv ov : Value) (s : MS) (w : World) : Prop where
  mv : Mv (fun _ => False) w0 w
  hM : w0.heap.size ≤ M
  hX : w0.heap.size ≤ X
  ne : M ≠ X
  m : w.heap[M]? = some (.cells #[lv, gv] 51 (0, 0))
  x : w.heap[X]? = some (.cells #[ov] 30 (0, 0))
  lr : w.ownsRow w0.heap.size 3 1 lv s.ms.length (s.ms.map (Value.int .i64))
  gr : w.ownsRow w0.heap.size 3 1 gv s.log.length (s.log.map (Value.int .i64))
  our : w.ownsRow w0.heap.size 3 1 ov s.out.length (s.out.map (Value.int .i64))
  lM : lv.ownBlock ≠ some M
  gM : gv.ownBlock ≠ some M
  oM : ov.ownBlock ≠ some M
  lX : lv.ownBlock ≠ some X
  gX : gv.ownBlock ≠ some X
  oX : ov.ownBlock ≠ some X
  d1 : ∀ g, lv.ownBlock = some g → gv.ownBlock ≠ some g
  d2 : ∀ g, lv.ownBlock = some g → ov.ownBlock ≠ some g
  d3 : ∀ g, gv.ownBlock = some g → ov.ownBlock ≠ some g

def MSt (M X : Nat) (w0 : World) (s : MS) (w : World) : Prop := ∃ lv gv ov, Mo M X w0 lv gv ov s w

theorem m_cell {w : World} {M : Nat} {a b : Value} (h : w.heap[M]? = some (.cells #[a, b] 51 (0, 0))) : w.cell? ⟨M, 0, none⟩ = some a ∧ w.cell? ⟨M, 1, none⟩ = some b := by simp [World.cell?, h]
theorem m_free {w : World} {M k : Nat} {a b : Value} (h : w.heap[M]? = some (.cells #[a, b] 51 (0, 0))) : w.frozen? ⟨M, k, none⟩ = false := by simp [World.frozen?, h]
theorem m_set0 {w : World} {R : Nat} {a b u : Value} (h : w.heap[R]? = some (.cells #[a, b] 51 (0, 0))) : (w.setCell ⟨R, 0, none⟩ u).heap[R]? = some (.cells #[u, b] 51 (0, 0)) := by
  have := block_setCell (p := ⟨R, 0, none⟩) h rfl u
  simpa using this
theorem m_set1 {w : World} {R : Nat} {a b u : Value} (h : w.heap[R]? = some (.cells #[a, b] 51 (0, 0))) : (w.setCell ⟨R, 1, none⟩ u).heap[R]? = some (.cells #[a, u] 51 (0, 0)) := by
  have := block_setCell (p := ⟨R, 1, none⟩) h rfl u
  simpa using this

/-- a block of the heap grows; nothing of the model's is written -/
theorem Mo.later {M X : Nat} {w0 w w' : World} {lv gv ov : Value} {s : MS} (h : Mo M X w0 lv gv ov s w) (hm : Mv (fun _ => False) w w') : Mo M X w0 lv gv ov s w' := by
  have hk : ∀ {b : Nat} {o : Obj}, w.heap[b]? = some o → w'.heap[b]? = some o := fun {b o} hb => by rw [hm.block b (lt_of_block hb) (fun h => h)]; exact hb
  exact ⟨h.mv.trans hm (fun _ h => h.elim), h.hM, h.hX, h.ne, hk h.m, hk h.x, row_other h.lr fun g hg => hm.block g (h.lr.lt g hg).2 (fun h => h), row_other h.gr fun g hg => hm.block g (h.gr.lt g hg).2 (fun h => h), row_other h.our fun g hg => hm.block g (h.our.lt g hg).2 (fun h => h),
    h.lM, h.gM, h.oM, h.lX, h.gX, h.oX, h.d1, h.d2, h.d3⟩
theorem MSt.later {M X : Nat} {w0 w w' : World} {s : MS} (h : MSt M X w0 s w) (hm : Mv (fun _ => False) w w') : MSt M X w0 s w' := by
  obtain ⟨lv, gv, ov, h⟩ := h
  exact ⟨lv, gv, ov, h.later hm⟩

/-- L is replaced -/
theorem Mo.setL {M X : Nat} {w0 w w2 : World} {lv gv ov v' : Value} {s : MS} {xs2 : List Int} (h : Mo M X w0 lv gv ov s w) (hown : w2.ownsRow w0.heap.size 3 1 v' xs2.length (xs2.map (Value.int .i64)))
    (hmv : Mv (fun b => lv.ownBlock = some b) w w2) (hnew : ∀ g, v'.ownBlock = some g → lv.ownBlock = some g ∨ w.heap.size ≤ g) :
    (w2.cell? ⟨M, 0, none⟩ = some lv ∧ w2.cell? ⟨M, 1, none⟩ = some gv ∧ w2.cell? ⟨X, 0, none⟩ = some ov ∧ w2.frozen? ⟨M, 0, none⟩ = false ∧ M < w2.heap.size ∧ X < w2.heap.size) ∧ MSt M X w0 ⟨xs2, s.log, s.out⟩ (w2.setCell ⟨M, 0, none⟩ v') := by
  have hM := lt_of_block h.m
  have hX := lt_of_block h.x
  have m2 : w2.heap[M]? = some (.cells #[lv, gv] 51 (0, 0)) := by rw [hmv.block M hM h.lM]; exact h.m
  have x2 : w2.heap[X]? = some (.cells #[ov] 30 (0, 0)) := by rw [hmv.block X hX h.lX]; exact h.x
  obtain ⟨c0, c1⟩ := m_cell m2
  refine ⟨⟨c0, c1, cell_of_one x2, m_free m2, lt_of_block m2, lt_of_block x2⟩, ?_⟩
  have vM : v'.ownBlock ≠ some M := fun e => by rcases hnew M e with h1 | h1; exact h.lM h1; omega
  have vX : v'.ownBlock ≠ some X := fun e => by rcases hnew X e with h1 | h1; exact h.lX h1; omega
  have ag : ∀ g, v'.ownBlock = some g → gv.ownBlock ≠ some g := fun g hg e => by
    rcases hnew g hg with h1 | h1
    · exact (fun g hg => h.d1 g hg) g h1 e
    · have := (h.gr.lt g e).2; omega
  have rg : (w2.setCell ⟨M, 0, none⟩ v').ownsRow w0.heap.size 3 1 gv s.log.length (s.log.map (Value.int .i64)) := by
    refine row_other h.gr fun g hg => ?_
    rw [Below.heap_setCell _ _ _ _ (fun e => h.gM (by rw [hg, e]))]
    exact hmv.block g (h.gr.lt g hg).2 (fun e => (fun g hg => h.d1 g hg) g e hg)
  have ao : ∀ g, v'.ownBlock = some g → ov.ownBlock ≠ some g := fun g hg e => by
    rcases hnew g hg with h1 | h1
    · exact (fun g hg => h.d2 g hg) g h1 e
    · have := (h.our.lt g e).2; omega
  have ro : (w2.setCell ⟨M, 0, none⟩ v').ownsRow w0.heap.size 3 1 ov s.out.length (s.out.map (Value.int .i64)) := by
    refine row_other h.our fun g hg => ?_
    rw [Below.heap_setCell _ _ _ _ (fun e => h.oM (by rw [hg, e]))]
    exact hmv.block g (h.our.lt g hg).2 (fun e => (fun g hg => h.d2 g hg) g e hg)
  have rv : (w2.setCell ⟨M, 0, none⟩ v').ownsRow w0.heap.size 3 1 v' xs2.length (xs2.map (Value.int .i64)) := by
    refine row_other hown fun g hg => ?_
    rw [Below.heap_setCell _ _ _ _ (fun e => vM (by rw [hg, e]))]
  have mv : Mv (fun _ => False) w0 (w2.setCell ⟨M, 0, none⟩ v') := (h.mv.trans hmv (fun b hb => .inr (h.lr.lt b hb).1)).setCell (.inr h.hM) _
  have m3 := m_set0 (u := v') m2
  have x3 : (w2.setCell ⟨M, 0, none⟩ v').heap[X]? = some (.cells #[ov] 30 (0, 0)) := by rw [Below.heap_setCell _ _ _ _ (fun e => h.ne e.symm)]; exact x2
  exact ⟨v', gv, ov, mv, h.hM, h.hX, h.ne, m3, x3, rv, rg, ro, vM, h.gM, h.oM, vX, h.gX, h.oX, ag, ao, h.d3⟩

theorem Mo.appL {M X : Nat} {w0 w w1 : World} {lv gv ov : Value} {s : MS} {x : Int} (h : Mo M X w0 lv gv ov s w) (hw : w1 = (w.alloc (.cells #[.int .i64 x] 3)).drew ∨ w1 = w.alloc (.cells #[.int .i64 x] 3)) (hlen : s.ms.length ≤ 100000) :
    ∃ a' c' w2, (AppOK Try.prog 30 30 lv (.slice (some ⟨w.heap.size, 0, none⟩) 1 1) w1 ∧ appV Try.prog 30 30 lv (.slice (some ⟨w.heap.size, 0, none⟩) 1 1) w1 = .slice a' (s.ms.length + 1) c' ∧ appW Try.prog 30 30 lv (.slice (some ⟨w.heap.size, 0, none⟩) 1 1) w1 = w2) ∧
      (w2.cell? ⟨M, 0, none⟩ = some lv ∧ w2.cell? ⟨M, 1, none⟩ = some gv ∧ w2.cell? ⟨X, 0, none⟩ = some ov ∧ w2.frozen? ⟨M, 0, none⟩ = false ∧ M < w2.heap.size ∧ X < w2.heap.size) ∧ Hid (MSt M X w0 ⟨s.ms ++ [x], s.log, s.out⟩ (w2.setCell ⟨M, 0, none⟩ (.slice a' (s.ms.length + 1) c'))) := by
  obtain ⟨a', c', w2, hok, hv, hw2, hown, hmv, hnew⟩ := app_one lv x s.ms w0.heap.size w w1 hw h.lr h.mv.size (by omega)
  have h3 := h.setL (xs2 := s.ms ++ [x]) (by simpa using hown) hmv hnew
  exact ⟨a', c', w2, ⟨hok, hv, hw2⟩, h3.1, Lib.hid h3.2⟩

/-- G is replaced -/
theorem Mo.setG {M X : Nat} {w0 w w2 : World} {lv gv ov v' : Value} {s : MS} {xs2 : List Int} (h : Mo M X w0 lv gv ov s w) (hown : w2.ownsRow w0.heap.size 3 1 v' xs2.length (xs2.map (Value.int .i64)))
    (hmv : Mv (fun b => gv.ownBlock = some b) w w2) (hnew : ∀ g, v'.ownBlock = some g → gv.ownBlock = some g ∨ w.heap.size ≤ g) :
    (w2.cell? ⟨M, 0, none⟩ = some lv ∧ w2.cell? ⟨M, 1, none⟩ = some gv ∧ w2.cell? ⟨X, 0, none⟩ = some ov ∧ w2.frozen? ⟨M, 1, none⟩ = false ∧ M < w2.heap.size ∧ X < w2.heap.size) ∧ MSt M X w0 ⟨s.ms, xs2, s.out⟩ (w2.setCell ⟨M, 1, none⟩ v') := by
  have hM := lt_of_block h.m
  have hX := lt_of_block h.x
  have m2 : w2.heap[M]? = some (.cells #[lv, gv] 51 (0, 0)) := by rw [hmv.block M hM h.gM]; exact h.m
  have x2 : w2.heap[X]? = some (.cells #[ov] 30 (0, 0)) := by rw [hmv.block X hX h.gX]; exact h.x
  obtain ⟨c0, c1⟩ := m_cell m2
  refine ⟨⟨c0, c1, cell_of_one x2, m_free m2, lt_of_block m2, lt_of_block x2⟩, ?_⟩
  have vM : v'.ownBlock ≠ some M := fun e => by rcases hnew M e with h1 | h1; exact h.gM h1; omega
  have vX : v'.ownBlock ≠ some X := fun e => by rcases hnew X e with h1 | h1; exact h.gX h1; omega
  have al : ∀ g, v'.ownBlock = some g → lv.ownBlock ≠ some g := fun g hg e => by
    rcases hnew g hg with h1 | h1
    · exact (fun g hg e => h.d1 g e hg) g h1 e
    · have := (h.lr.lt g e).2; omega
  have rl : (w2.setCell ⟨M, 1, none⟩ v').ownsRow w0.heap.size 3 1 lv s.ms.length (s.ms.map (Value.int .i64)) := by
    refine row_other h.lr fun g hg => ?_
    rw [Below.heap_setCell _ _ _ _ (fun e => h.lM (by rw [hg, e]))]
    exact hmv.block g (h.lr.lt g hg).2 (fun e => (fun g hg e => h.d1 g e hg) g e hg)
  have ao : ∀ g, v'.ownBlock = some g → ov.ownBlock ≠ some g := fun g hg e => by
    rcases hnew g hg with h1 | h1
    · exact (fun g hg => h.d3 g hg) g h1 e
    · have := (h.our.lt g e).2; omega
  have ro : (w2.setCell ⟨M, 1, none⟩ v').ownsRow w0.heap.size 3 1 ov s.out.length (s.out.map (Value.int .i64)) := by
    refine row_other h.our fun g hg => ?_
    rw [Below.heap_setCell _ _ _ _ (fun e => h.oM (by rw [hg, e]))]
    exact hmv.block g (h.our.lt g hg).2 (fun e => (fun g hg => h.d3 g hg) g e hg)
  have rv : (w2.setCell ⟨M, 1, none⟩ v').ownsRow w0.heap.size 3 1 v' xs2.length (xs2.map (Value.int .i64)) := by
    refine row_other hown fun g hg => ?_
    rw [Below.heap_setCell _ _ _ _ (fun e => vM (by rw [hg, e]))]
  have mv : Mv (fun _ => False) w0 (w2.setCell ⟨M, 1, none⟩ v') := (h.mv.trans hmv (fun b hb => .inr (h.gr.lt b hb).1)).setCell (.inr h.hM) _
  have m3 := m_set1 (u := v') m2
  have x3 : (w2.setCell ⟨M, 1, none⟩ v').heap[X]? = some (.cells #[ov] 30 (0, 0)) := by rw [Below.heap_setCell _ _ _ _ (fun e => h.ne e.symm)]; exact x2
  exact ⟨lv, v', ov, mv, h.hM, h.hX, h.ne, m3, x3, rl, rv, ro, h.lM, vM, h.oM, h.lX, vX, h.oX, fun g hg e => al g e hg, h.d2, ao⟩

theorem Mo.appG {M X : Nat} {w0 w w1 : World} {lv gv ov : Value} {s : MS} {x : Int} (h : Mo M X w0 lv gv ov s w) (hw : w1 = (w.alloc (.cells #[.int .i64 x] 3)).drew ∨ w1 = w.alloc (.cells #[.int .i64 x] 3)) (hlen : s.log.length ≤ 100000) :
    ∃ a' c' w2, (AppOK Try.prog 30 30 gv (.slice (some ⟨w.heap.size, 0, none⟩) 1 1) w1 ∧ appV Try.prog 30 30 gv (.slice (some ⟨w.heap.size, 0, none⟩) 1 1) w1 = .slice a' (s.log.length + 1) c' ∧ appW Try.prog 30 30 gv (.slice (some ⟨w.heap.size, 0, none⟩) 1 1) w1 = w2) ∧
      (w2.cell? ⟨M, 0, none⟩ = some lv ∧ w2.cell? ⟨M, 1, none⟩ = some gv ∧ w2.cell? ⟨X, 0, none⟩ = some ov ∧ w2.frozen? ⟨M, 1, none⟩ = false ∧ M < w2.heap.size ∧ X < w2.heap.size) ∧ Hid (MSt M X w0 ⟨s.ms, s.log ++ [x], s.out⟩ (w2.setCell ⟨M, 1, none⟩ (.slice a' (s.log.length + 1) c'))) := by
  obtain ⟨a', c', w2, hok, hv, hw2, hown, hmv, hnew⟩ := app_one gv x s.log w0.heap.size w w1 hw h.gr h.mv.size (by omega)
  have h3 := h.setG (xs2 := s.log ++ [x]) (by simpa using hown) hmv hnew
  exact ⟨a', c', w2, ⟨hok, hv, hw2⟩, h3.1, Lib.hid h3.2⟩

/-- O is replaced -/
theorem Mo.setO {M X : Nat} {w0 w w2 : World} {lv gv ov v' : Value} {s : MS} {xs2 : List Int} (h : Mo M X w0 lv gv ov s w) (hown : w2.ownsRow w0.heap.size 3 1 v' xs2.length (xs2.map (Value.int .i64)))
    (hmv : Mv (fun b => ov.ownBlock = some b) w w2) (hnew : ∀ g, v'.ownBlock = some g → ov.ownBlock = some g ∨ w.heap.size ≤ g) :
    (w2.cell? ⟨M, 0, none⟩ = some lv ∧ w2.cell? ⟨M, 1, none⟩ = some gv ∧ w2.cell? ⟨X, 0, none⟩ = some ov ∧ w2.frozen? ⟨X, 0, none⟩ = false ∧ M < w2.heap.size ∧ X < w2.heap.size) ∧ MSt M X w0 ⟨s.ms, s.log, xs2⟩ (w2.setCell ⟨X, 0, none⟩ v') := by
  have hM := lt_of_block h.m
  have hX := lt_of_block h.x
  have m2 : w2.heap[M]? = some (.cells #[lv, gv] 51 (0, 0)) := by rw [hmv.block M hM h.oM]; exact h.m
  have x2 : w2.heap[X]? = some (.cells #[ov] 30 (0, 0)) := by rw [hmv.block X hX h.oX]; exact h.x
  obtain ⟨c0, c1⟩ := m_cell m2
  refine ⟨⟨c0, c1, cell_of_one x2, free_of_one x2, lt_of_block m2, lt_of_block x2⟩, ?_⟩
  have vM : v'.ownBlock ≠ some M := fun e => by rcases hnew M e with h1 | h1; exact h.oM h1; omega
  have vX : v'.ownBlock ≠ some X := fun e => by rcases hnew X e with h1 | h1; exact h.oX h1; omega
  have al : ∀ g, v'.ownBlock = some g → lv.ownBlock ≠ some g := fun g hg e => by
    rcases hnew g hg with h1 | h1
    · exact (fun g hg e => h.d2 g e hg) g h1 e
    · have := (h.lr.lt g e).2; omega
  have rl : (w2.setCell ⟨X, 0, none⟩ v').ownsRow w0.heap.size 3 1 lv s.ms.length (s.ms.map (Value.int .i64)) := by
    refine row_other h.lr fun g hg => ?_
    rw [Below.heap_setCell _ _ _ _ (fun e => h.lX (by rw [hg, e]))]
    exact hmv.block g (h.lr.lt g hg).2 (fun e => (fun g hg e => h.d2 g e hg) g e hg)
  have ag : ∀ g, v'.ownBlock = some g → gv.ownBlock ≠ some g := fun g hg e => by
    rcases hnew g hg with h1 | h1
    · exact (fun g hg e => h.d3 g e hg) g h1 e
    · have := (h.gr.lt g e).2; omega
  have rg : (w2.setCell ⟨X, 0, none⟩ v').ownsRow w0.heap.size 3 1 gv s.log.length (s.log.map (Value.int .i64)) := by
    refine row_other h.gr fun g hg => ?_
    rw [Below.heap_setCell _ _ _ _ (fun e => h.gX (by rw [hg, e]))]
    exact hmv.block g (h.gr.lt g hg).2 (fun e => (fun g hg e => h.d3 g e hg) g e hg)
  have rv : (w2.setCell ⟨X, 0, none⟩ v').ownsRow w0.heap.size 3 1 v' xs2.length (xs2.map (Value.int .i64)) := by
    refine row_other hown fun g hg => ?_
    rw [Below.heap_setCell _ _ _ _ (fun e => vX (by rw [hg, e]))]
  have mv : Mv (fun _ => False) w0 (w2.setCell ⟨X, 0, none⟩ v') := (h.mv.trans hmv (fun b hb => .inr (h.our.lt b hb).1)).setCell (.inr h.hX) _
  have x3 : (w2.setCell ⟨X, 0, none⟩ v').heap[X]? = some (.cells #[v'] 30 (0, 0)) := one_setCell x2
  have m3 : (w2.setCell ⟨X, 0, none⟩ v').heap[M]? = some (.cells #[lv, gv] 51 (0, 0)) := by rw [Below.heap_setCell _ _ _ _ h.ne]; exact m2
  exact ⟨lv, gv, v', mv, h.hM, h.hX, h.ne, m3, x3, rl, rg, rv, h.lM, h.gM, vM, h.lX, h.gX, vX, h.d1, fun g hg e => al g e hg, fun g hg e => ag g e hg⟩

theorem Mo.appO {M X : Nat} {w0 w w1 : World} {lv gv ov : Value} {s : MS} {x : Int} (h : Mo M X w0 lv gv ov s w) (hw : w1 = (w.alloc (.cells #[.int .i64 x] 3)).drew ∨ w1 = w.alloc (.cells #[.int .i64 x] 3)) (hlen : s.out.length ≤ 100000) :
    ∃ a' c' w2, (AppOK Try.prog 30 30 ov (.slice (some ⟨w.heap.size, 0, none⟩) 1 1) w1 ∧ appV Try.prog 30 30 ov (.slice (some ⟨w.heap.size, 0, none⟩) 1 1) w1 = .slice a' (s.out.length + 1) c' ∧ appW Try.prog 30 30 ov (.slice (some ⟨w.heap.size, 0, none⟩) 1 1) w1 = w2) ∧
      (w2.cell? ⟨M, 0, none⟩ = some lv ∧ w2.cell? ⟨M, 1, none⟩ = some gv ∧ w2.cell? ⟨X, 0, none⟩ = some ov ∧ w2.frozen? ⟨X, 0, none⟩ = false ∧ M < w2.heap.size ∧ X < w2.heap.size) ∧ Hid (MSt M X w0 ⟨s.ms, s.log, s.out ++ [x]⟩ (w2.setCell ⟨X, 0, none⟩ (.slice a' (s.out.length + 1) c'))) := by
  obtain ⟨a', c', w2, hok, hv, hw2, hown, hmv, hnew⟩ := app_one ov x s.out w0.heap.size w w1 hw h.our h.mv.size (by omega)
  have h3 := h.setO (xs2 := s.out ++ [x]) (by simpa using hown) hmv hnew
  exact ⟨a', c', w2, ⟨hok, hv, hw2⟩, h3.1, Lib.hid h3.2⟩

end Go.Proofs.Ytlcbfjcfkknmgaa
