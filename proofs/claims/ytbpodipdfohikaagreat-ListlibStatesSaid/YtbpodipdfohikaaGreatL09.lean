import Derived.Test.YtbpodipdfohikaaGreatL08
set_option linter.unusedSimpArgs false
set_option linter.unusedVariables false
set_option maxRecDepth 100000
set_option maxHeartbeats 25600000
namespace Go.Proofs.YtbpodipdfohikaaGreat
section
open Go.RowKit Go.Instr
attribute [local go_sem ↓] fB
theorem Tryz.Ry : (Tryz.prog.info? 40).map (λi => (i.zero, i.size, i.bytes)) = some (some (.agg #[.int .u8 0, .int .i64 0, .string ⟨#[]⟩, .slice none 0 0]), 4, 56) := by kernel_rfl
theorem Tryz.Rz : Elem Tryz.prog 38 40 4 56 := Elem.of Tryz.underlying38 Tryz.Ry rfl (by decide) (by decide)
abbrev DU (w : World) (base : Nat) (v : Value) (l : List ae) : Prop := w.ownsRow base 40 4 v l.length (flat ae.cells l)
theorem bH {α : Type} {f : α -> List Value} {n e base : Nat} {w : World} {v : Value} {l : List α} (h : w.ownsRow base e n v l.length (flat f l)) : ∀ b, v.ownBlock = some b -> base <= b /\ ∃ cs z, w.heap[b]? = some (.cells cs e z) := by
  intro b hb
  rcases h.2 with⟨rfl, _⟩|⟨g', cap, cur, rfl, hg', hg, _⟩
  · simp[Value.ownBlock]at hb
  · simp[Value.ownBlock]at hb
    subst hb
    exact⟨hg', cur, _, hg⟩
theorem AX (x : ae) : x.cells.length = 4 := by cases x; rfl
inductive aS (P : Nat -> Prop) (w : World) : ae -> Prop
  |mk {k n : Int} {s : ByteArray} {kv : Value} {kids : List ae} (hk : 0 <= k /\ k <= 255) (hn : In64 n) (hs : s.size <= 9223372036854775807) (row : ay 4 ae.cells w kv kids) (blk : ∀ b, kv.ownBlock = some b -> P b /\ ∃ cs z, w.heap[b]? = some (.cells cs 40 z)) (each : ∀ x ∈ kids, aS P w x) : aS P w (.mk k n s kv kids)
theorem aS.at {P : Nat -> Prop} {w : World} {x : ae} (h : aS P w x) : bJ w x := by
  induction h with
  |mk hk hn hs row _ _ ih => exact .mk hk hn hs row ih
theorem aS.stay {P O : Nat -> Prop} {w w' : World} {x : ae} (h : aS P w x) (hm : Mv O w w') (hO : ∀ b cs z, P b -> w.heap[b]? = some (.cells cs 40 z) -> ¬ O b) : aS P w' x := by
  induction h with
  |mk hk hn hs row blk _ ih =>
    refine .mk hk hn hs (row.stay hm λg hg => ?_) (λb hb => ?_) ih
    · obtain⟨hp, cs, z, hc⟩ := blk g hg
      exact hO g cs z hp hc
    · obtain⟨hp, cs, z, hc⟩ := blk b hb
      exact⟨hp, cs, z, by rw[hm.block b (lt_of_block hc) (hO b cs z hp hc)]; exact hc⟩
theorem aS.weak {P P' : Nat -> Prop} {w : World} {x : ae} (h : aS P w x) (hP : ∀ b, b < w.heap.size -> P b -> P' b) : aS P' w x := by
  induction h with
  |mk hk hn hs row blk _ ih =>
    refine .mk hk hn hs row (λb hb => ?_) ih
    obtain⟨hp, cs, z, hc⟩ := blk b hb
    exact⟨hP b (lt_of_block hc) hp, cs, z, hc⟩
theorem bJ.form' {w : World} {k n : Int} {s : ByteArray} {kv : Value} {l : List ae} (h : bJ w (.mk k n s kv l)) : ∃ a c, kv = .slice a l.length c := by
  obtain⟨a, c, e, -, -⟩ := h.form
  exact⟨a, c, e⟩
theorem aS.one {P : Nat -> Prop} {w : World} {x : ae} (h : aS P w x) : ∀ u ∈ x.cells, u.oneCell' = true := by
  cases h with
  | @mk k n s kv kids hk hn hs row blk each =>
    intro u hu
    obtain⟨a, c, rfl, -, -⟩ := row.form
    simp[ae.cells]at hu
    rcases hu with rfl|rfl|rfl|rfl <;> rfl
def ae.fix : ae -> ae
  |.mk k n s (.slice a m c) l => .mk k n s (.slice a m c) l
  |.mk k n s _ l => .mk k n s (.slice none 0 0) l
theorem aS.fix {P : Nat -> Prop} {w : World} {x : ae} (h : aS P w x) : x.fix = x := by
  cases h with
  | @mk k n s kv kids hk hn hs row blk each =>
    obtain⟨a, c, rfl, -, -⟩ := row.form
    rfl
theorem RA (v : Value) (x : ae) (xs : List ae) (base g : Nat) (w : World) (hrow : DU w base v xs) (hb : base <= w.heap.size) (hlen : xs.length <= 900000) (hone : ∀ u ∈ x.cells, u.oneCell' = true) (hg : w.heap[g]? = some (.cells x.cells.toArray 40 (0, 0))) :
    ∃ a' c' w2, (qd Tryz.prog 38 38 v (.slice (some ⟨g, 0, none⟩) 1 1) w /\
        mW Tryz.prog 38 38 v (.slice (some ⟨g, 0, none⟩) 1 1) w = .slice a' (xs.length + 1) c' /\ appW Tryz.prog 38 38 v (.slice (some ⟨g, 0, none⟩) 1 1) w = w2) /\
      DU w2 base (.slice a' (xs.length + 1) c') (xs ++ [x]) /\ Mv (λb => v.ownBlock = some b) w w2 /\ (∀ g, (Value.slice a' (xs.length + 1) c').ownBlock = some g -> v.ownBlock = some g \/ w.heap.size <= g) :=
  jv Tryz.Rz AX v _ xs [x] base w hrow (ay.dG (f := ae.cells) (l := [x]) AX hg (by simp[flat]) (by simp)) (λy hy => by rw[List.mem_singleton.1 hy]; exact hone) hb (by simp; omega)
def Jt (w : World) (x : ae) (e : Ending) (w' : World) : Prop := ∃ y : ae, e = .returned y.val /\ y.t = x.t /\ aS (λb => w.heap.size <= b) w' y /\ Grow w w'
theorem AY {k n : Int} {s : ByteArray} {kv : Value} {l : List ae} (i : Nat) (h : i < l.length) : dM l[i].t < dM (ae.t (.mk k n s kv l)) /\ l.length < dM (ae.t (.mk k n s kv l)) := by
  have h1 : ∀ (l : List Tree) (i : Nat) (h : i < l.length), dM l[i] <= gW l := by
    intro l
    induction l with
    |nil => intro i h; simp at h
    |cons t l ih =>
      intro i h
      rw[gW]
      cases i with
      |zero => simp
      |succ i => have := ih i (by simpa using h); simp; omega
  have h2 : ∀ l : List Tree, l.length <= gW l := by
    intro l
    induction l with
    |nil => simp
    |cons t l ih => rw[gW, List.length_cons]; cases t; rw[dM]; omega
  have e1 := h1 (ae.ts l) i (by rw[ae.dB]; exact h)
  have e2 := h2 (ae.ts l)
  rw[ae.oG l i h]at e1
  rw[ae.dB]at e2
  rw[ae.t, dM]
  omega
set_option maxRecDepth 100000 in
set_option maxHeartbeats 12800000 in
theorem QP : ∀ (m : Nat) (x : ae), SizeOf.sizeOf x <= m -> dM x.t <= 900000 -> ∀ w : World, bJ w x -> Calls Tryz.prog 101 #[x.val] w (Jt w x) := by
  intro m
  induction m with
  |zero => intro x hm; cases x; simp at hm
  |succ m ih =>
    intro x hm hsz w hx
    obtain⟨k, n, s, kv, l⟩ := x
    obtain⟨ka, kc, rfl, hkc, hkl⟩ := hx.form
    have gD := Lib.hid (λ(i : Nat) (hi : i < l.length) (z : World) (hz : Grow w z) => ih l[i] (by
      have := qX (k := k) (n := n) (s := s) (kv := .slice ka l.length kc) (List.getElem_mem hi)
      omega) (by have := AY (k := k) (n := n) (s := s) (kv := .slice ka l.length kc) i hi; omega) z ((hx.row.2.2.2.2 _ (List.getElem_mem hi)).later hz))
    have kS := Lib.hid (λ(i : Nat) (hi : i < l.length) => show l.length <= 900000 from by have := AY (k := k) (n := n) (s := s) (kv := .slice ka l.length kc) i hi; omega)
    have qA := Lib.hid hx
    have oU := Lib.hid (show((w.alloc (.cells #[.int .u8 k, .int .i64 n, .string s, .slice ka l.length kc] 40)).alloc (.cells #[.int .u8 0, .int .i64 0, .string ⟨#[]⟩, .slice none 0 0] 40)).heap[w.heap.size]? = some (.cells #[.int .u8 k, .int .i64 n, .string s, .slice ka l.length kc] 40 (0, 0))from bY (heap_alloc_new w _) _)
    have jU := Lib.hid (show((w.alloc (.cells #[.int .u8 k, .int .i64 n, .string s, .slice ka l.length kc] 40)).alloc (.cells #[.int .u8 0, .int .i64 0, .string ⟨#[]⟩, .slice none 0 0] 40)).heap[w.heap.size + 1]? = some (.cells #[.int .u8 0, .int .i64 0, .string ⟨#[]⟩, .slice none 0 0] 40 (0, 0))from by have := heap_alloc_new (w.alloc (.cells #[.int .u8 k, .int .i64 n, .string s, .slice ka l.length kc] 40)) (.cells #[.int .u8 0, .int .i64 0, .string ⟨#[]⟩, .slice none 0 0] 40); rwa[World.size_alloc]at this)
    have HG2 := Lib.hid (show Grow w ((w.alloc (.cells #[.int .u8 k, .int .i64 n, .string s, .slice ka l.length kc] 40)).alloc (.cells #[.int .u8 0, .int .i64 0, .string ⟨#[]⟩, .slice none 0 0] 40))from((Mv.refl _ w).alloc _).alloc _)
    have HS2 := Lib.hid (show((w.alloc (.cells #[.int .u8 k, .int .i64 n, .string s, .slice ka l.length kc] 40)).alloc (.cells #[.int .u8 0, .int .i64 0, .string ⟨#[]⟩, .slice none 0 0] 40)).heap.size = w.heap.size + 2 from by simp)
    clear hx hsz ih
    simp only[ae.val]
    go_enter Tryz.func101, Tryz.ntmps101
    obtain⟨⟨n0, n1⟩, n2, n3⟩ := aJ oU.out
    have hln := lt_of_block oU.out
    go_wp2_with fail
    generalize ((w.alloc (.cells #[.int .u8 k, .int .i64 n, .string s, .slice ka l.length kc] 40)).alloc (.cells #[.int .u8 0, .int .i64 0, .string ⟨#[]⟩, .slice none 0 0] 40)) = w2 at *
    clear n0 n1 n2 n3 hln
    go_loopw [3, 9] (λcv t wr => ∃ (j : Nat) (xs : List ae), t = .int .i64 j /\ j <= l.length /\ xs.length = j /\ DU wr w2.heap.size cv xs /\ (∀ i (h : i < xs.length) (h' : i < l.length), xs[i].t = l[i].t) /\ (∀ y ∈ xs, aS (λb => w2.heap.size <= b /\ cv.ownBlock ≠ some b) wr y) /\ Grow w2 wr) (λ_ t _ => l.length - (intOf t).toNat)
    case atStart => exact⟨0, [], rfl, Nat.zero_le _, rfl, World.ownsRow_nil _ _ _ _, by simp, by simp, Mv.refl _ _⟩
    obtain⟨j, xs, rfl, hj, hxl, hrow, hts, hno, hg⟩ := hrel
    have jL := Lib.hid hrow
    have Ml := Lib.hid hts
    have ji := Lib.hid hno
    have HG := Lib.hid hg
    obtain⟨ra, rc, eF⟩ := dL hrow
    rw[hxl]at eF
    subst eF
    clear hrow hts hno hg
    by_cases hlt : j < l.length
    · obtain⟨kb, ko, mY, dR, -, -⟩ := qA.out.row.2.2.2.1.at (show 0 < l.length by omega)
      simp only[Value.slice.injEq, true_and]at dR
      obtain⟨rfl, rfl⟩ := dR
      have eY := (rF qA.out j hlt).later (gtr HG2.out HG.out)
      have HC := Lib.hid (λz hz => gD.out j hlt z hz)
      have sJ := Lib.hid (kS.out j hlt)
      have Mm := Lib.hid (λ(y : ae) (hy : y.t = l[j].t) => show ∀ i (h : i < (xs ++ [y]).length) (h' : i < l.length), (xs ++ [y])[i].t = l[i].t from by
        intro i h h'
        by_cases hi : i < xs.length
        · rw[List.getElem_append_left hi]; exact Ml.out i hi h'
        · simp at h
          obtain rfl : i = j := by omega
          rw[List.getElem_append_right (by omega)]; simpa using hy)
      generalize l[j] = y at *
      obtain⟨yk, yn, ys, yv, yl⟩ := y
      obtain⟨ya, yc, rfl, -, -⟩ := eY.at_.form
      obtain⟨⟨d0, d1⟩, d2, d3⟩ := eY.four
      simp only[ae.val]at HC
      have hbl : kb < wr.heap.size := World.block_lt_of_cell? wr _ d0
      have jV := Lib.hid (heap_alloc_new wr (.cells #[.int .u8 yk, .int .i64 yn, .string ys, .slice ya yl.length yc] 40))
      clear eY
      go_wp2_with fail
      refine(HC.out _ (gtr HG2.out (HG.out.alloc (.cells #[.int .u8 yk, .int .i64 yn, .string ys, .slice ya yl.length yc] 40)))).mono ?_
      rintro e w4 ⟨y2, rfl, hy2, Bz, hg⟩
      have bB := Lib.hid (gtr ((Mv.refl _ wr).alloc (.cells #[.int .u8 yk, .int .i64 yn, .string ys, .slice ya yl.length yc] 40)) hg)
      have Ub := Lib.hid (Mm.out y2 hy2)
      have hs4 : wr.heap.size + 1 <= w4.heap.size := by have := hg.size; simpa using this
      have HR4 := Lib.hid (aZ jL.out bB.out (λ_ _ e => e))
      have uR := Lib.hid (λy (hy : y ∈ xs) => (ji.out y hy).stay bB.out (λ_ _ _ _ _ e => e))
      have Mo := Lib.hid (λb (hb : (Value.slice ra j rc).ownBlock = some b) => show b < wr.heap.size from(jL.out.lt b hb).2)
      have bL := Lib.hid (Bz.weak (P' := λb => w2.heap.size <= b /\ (Value.slice ra j rc).ownBlock ≠ some b) (λb _ hb => ⟨by have := HG.out.size; simp only[World.size_alloc]at hb; omega, λe => by have := Mo.out b e; simp only[World.size_alloc]at hb; omega⟩))
      have hone := Bz.one
      obtain⟨zk, zn, zs, zv, zl⟩ := y2
      have Vf := Bz.at.form'
      clear hg Bz hbl d0 d1 d2 d3 jV HC Mm hy2
      have hg5 : Grow w4 (w4.alloc (.cells #[.int .u8 zk, .int .i64 zn, .string zs, zv] 40)) := (Mv.refl _ w4).alloc _
      obtain⟨za, zc, rfl⟩ := Vf
      obtain⟨a', c', y, ⟨hok, hv, hw⟩, hrow2, jM, hnew⟩ := RA _ (.mk zk zn zs (.slice za zl.length zc) zl) xs w2.heap.size w4.heap.size _ (aZ HR4.out hg5 (λ_ _ e => e)) (by have := HG.out.size; have := bB.out.size; simp only[World.size_alloc]; omega) (by have := sJ.out; omega) hone (heap_alloc_new w4 _)
      have iC := Lib.hid hnew
      have JW := Lib.hid hrow2
      have iT := Lib.hid (((Mv.refl (λb => (Value.slice ra j rc).ownBlock = some b) w4).alloc _).trans jM (λx e => .inl e))
      have hgrow := (gtr HG.out bB.out).trans iT.out (λb e => .inr (by have := (jL.out.lt b e).1; omega))
      have bR := Lib.hid hgrow
      simp only[hxl]at hok hv hw JW iC
      clear hgrow hrow2 jM hnew hone hg5
      simp only[ae.val]
      go_wp2_with fail
      refine⟨⟨j + 1, xs ++ [.mk zk zn zs (.slice za zl.length zc) zl], by simp, by omega, by simp[hxl], JW.out, Ub.out, λx hx => ?_, bR.out⟩, by simp[intOf] <;> omega⟩
      have hx4 : aS (λb => w2.heap.size <= b /\ (Value.slice ra j rc).ownBlock ≠ some b) w4 x := by
        rcases List.mem_append.1 hx with h|h
        · exact uR.out x h
        · rw[List.mem_singleton.1 h]; exact bL.out
      have hx5 := hx4.weak (P' := λb => (w2.heap.size <= b /\ (Value.slice ra j rc).ownBlock ≠ some b) /\ b < w4.heap.size) (λb hb hp => ⟨hp, hb⟩)
      refine(hx5.stay iT.out (λb cs z hp hc e => hp.1.2 e)).weak (λb hb hp => ⟨hp.1.1, λe => ?_⟩)
      rcases iC.out b e with h|h
      · exact hp.1.2 h
      · simp only[World.size_alloc]at h; have := hp.2; omega
    · obtain rfl : j = l.length := by omega
      have hnb := ai oU.out HG.out
      have hrb := ai jU.out HG.out
      obtain⟨hs1, hs2⟩ := Sy hnb (.slice ra l.length rc)
      have HY := Lib.hid (show aS (λb => w.heap.size + 2 <= b) wr (.mk k n s (.slice ra l.length rc) xs)from by
        have hr := bX AX jL.out
        refine .mk qA.out.row.1 qA.out.row.2.1 qA.out.row.2.2.1 hr (λb hb => ?_) (λy hy => (ji.out y hy).weak (λb _ h => by have := h.1; have := HS2.out; omega))
        obtain⟨h1, h2⟩ := bH jL.out b hb
        exact⟨by have := HS2.out; omega, h2⟩)
      have HT := Lib.hid (show ae.t (.mk k n s (.slice ra l.length rc) xs) = ae.t (.mk k n s (.slice ka l.length kc) l)from by
        rw[ae.t, ae.t, ae.oF, ae.oF]
        congr 1
        refine List.ext_getElem (by simp[hxl]) (λi h1 h2 => ?_)
        simp only[List.getElem_map]
        exact Ml.out i (by simpa using h1) (by simpa using h2))
      obtain⟨⟨c0, c1⟩, c2, c3⟩ := aJ hnb
      have hlb := lt_of_block hnb
      have zt := bD hnb
      obtain⟨⟨q0, q1⟩, q2, q3⟩ := aJ hs1
      have zb : (wr.setCell ⟨w.heap.size, 3, none⟩ (.slice ra l.length rc)).heap[w.heap.size + 1]? = some (.cells #[.int .u8 0, .int .i64 0, .string ⟨#[]⟩, .slice none 0 0] 40 (0, 0)) := by rw[hs2.block _ (lt_of_block hrb) (by omega)]; exact hrb
      obtain⟨⟨r0, r1⟩, r2, r3⟩ := aJ zb
      have hlr := lt_of_block zb
      have zr := bD zb
      obtain⟨ht1, ht2⟩ := dW zb (.int .u8 k) (.int .i64 n) (.string s) (.slice ra l.length rc)
      have iT := Lib.hid (show Mv (λb => b = w.heap.size \/ b = w.heap.size + 1) wr _ from(hs2.mono (λb e => .inl (.inl e))).trans ht2 (λb e => .inl (.inr e)))
      have HB := Lib.hid ht1
      clear hs1 hs2 zb ht1 ht2 hnb hrb
      go_wp2_with fail
      obtain⟨⟨t0, t1⟩, t2, t3⟩ := aJ HB.out
      refine bodyPost_ret (v := ae.val (.mk k n s (.slice ra l.length rc) xs)) (by simp[results, Tryz.results101, go_sem, t0, t1, t2, t3, ae.val]) rfl ⟨_, rfl, HT.out, (HY.out.stay iT.out (λb cs z hp hc e => by omega)).weak (λb _ h => by omega), ?_⟩
      exact(gtr HG2.out HG.out).trans iT.out (λb e => .inr (by omega))
theorem Ho (x : ae) (w : World) (hs : dM x.t <= 900000) (h : bJ w x) : Calls Tryz.prog 101 #[x.val] w (Jt w x) := QP _ x (Nat.le_refl _) hs w h
end
section
open Go.RowKit
def au.decl (v : au) : Bool := iP v.name && v.okB
theorem O8 (l : List au) (k : Nat) (h : k < l.length) : (l.take (k + 1)).all au.decl = ((l.take k).all au.decl && l[k].decl) := by
  rw[List.take_succ_eq_append_getElem h, List.all_append]; simp
theorem Qg (l : List au) (k : Nat) (h : k < l.length) (hf : l[k].decl = false) : l.all au.decl = false := by
  apply Bool.eq_false_iff.2
  intro ha
  have := List.all_eq_true.1 ha l[k] (List.getElem_mem h)
  rw[hf]at this; cases this
set_option maxRecDepth 100000 in
set_option maxHeartbeats 6400000 in
theorem Gs (v : Value) (l : List au) (w : World) (h : ay 3 au.cells w v l) (hs : ∀ x ∈ l, x.name.size <= 9223372036854775807) : Calls Tryz.prog 28 #[v] w (fq w (l.all au.decl)) := by
  obtain⟨va, vc, rfl, lZ, hvl⟩ := h.form
  have HR := Lib.hid h
  have HS := Lib.hid hs
  clear h hs
  go_enter Tryz.func28, Tryz.ntmps28
  go_wp2_with fail
  go_loopw [7] (λt wr => ∃ k : Nat, t = .int .i64 k /\ k <= l.length /\ Grow w wr /\ (l.take k).all au.decl = true) (λt _ => l.length - (intOf t).toNat)
  case atStart => exact⟨0, rfl, Nat.zero_le _, Mv.refl _ _, rfl⟩
  obtain⟨k, rfl, hk, hg, hall⟩ := hrel
  have HG := Lib.hid hg
  have HA := Lib.hid hall
  clear hall hg
  by_cases hlt : k < l.length
  · obtain⟨b, off, cap', e, _, hcc⟩ := (HR.out.later HG.out).at hlt
    simp only[Value.slice.injEq, true_and]at e
    obtain⟨rfl, rfl⟩ := e
    have c0 := hcc 0 _ rfl
    have c1 := hcc 1 _ rfl
    have c2 := hcc 2 _ rfl
    have HT := Lib.hid (λ(h : l[k].decl = true) => show(l.take (k + 1)).all au.decl = true from by rw[O8 l k hlt, HA.out, h]; rfl)
    have HF := Lib.hid (λ(h : l[k].decl = false) => show l.all au.decl = false from Qg l k hlt h)
    have bF := Lib.hid (show l[k].decl = (iP l[k].name && jA l[k].kind l[k].len)from rfl)
    have HS2 := Lib.hid (HS.out _ (List.getElem_mem hlt))
    generalize l[k] = x at *
    obtain⟨xs, xk, xn⟩ := x
    simp only[Nat.add_zero]at c0 c1 c2 bF HS2
    have hbl : b < wr.heap.size := World.block_lt_of_cell? wr _ c0
    clear hcc
    have HN := Lib.hid (Dw xs (wr.alloc (.cells #[.string xs, .int .u8 xk, .int .i64 xn] 50)) HS2.out)
    have bE := Lib.hid (show Grow w (wr.alloc (.cells #[.string xs, .int .u8 xk, .int .i64 xn] 50))from HG.out.alloc _)
    have uS := Lib.hid (heap_alloc_new wr (.cells #[.string xs, .int .u8 xk, .int .i64 xn] 50))
    have hnl : wr.heap.size < (wr.alloc (.cells #[.string xs, .int .u8 xk, .int .i64 xn] 50)).heap.size := by simp
    go_wp2_with fail
    generalize (wr.alloc (.cells #[.string xs, .int .u8 xk, .int .i64 xn] 50)) = w1 at *
    refine HN.out.mono ?_
    rintro e w2 ⟨rfl, hm⟩
    have hX := ai uS.out hm
    have x0 : w2.cell? ⟨wr.heap.size, 0, none⟩ = some (.string xs) := by simp[World.cell?, hX]
    have x1 : w2.cell? ⟨wr.heap.size, 1, none⟩ = some (.int .u8 xk) := by simp[World.cell?, hX]
    have x2 : w2.cell? ⟨wr.heap.size, 2, none⟩ = some (.int .i64 xn) := by simp[World.cell?, hX]
    have hxl := lt_of_block hX
    have HG2 := Lib.hid (show Grow w w2 from gtr bE.out hm)
    clear hm hX c0 c1 c2
    cases hnb : iP xs with
    |false =>
      have HX := Lib.hid (HF.out (by rw[bF.out, hnb]; rfl))
      clear HT HF
      go_wp2_with fail
      go_ret
      exact⟨aU HX.out.symm, HG2.out⟩
    |true =>
      have lS := Lib.hid (show au.decl ⟨xs, xk, xn⟩ = jA xk xn from by rw[bF.out, hnb]; rfl)
      have hcs : xk = 1 \/ xk = 3 \/ xk = 2 \/ (xk ≠ 1 /\ xk ≠ 3 /\ xk ≠ 2) := by omega
      rcases hcs with rfl|rfl|rfl|⟨n1, n3, n2⟩
      iterate 2
        · by_cases hn : xn = 0
          · subst hn
            have HX := Lib.hid (HT.out (by rw[lS.out]; rfl))
            clear HT HF bF lS
            go_wp2_with fail
            go_roundw
            case rel => exact⟨k + 1, by go_num, by omega, HG2.out, HX.out⟩
            case measure => (simp[intOf] <;> omega)
          · have HX := Lib.hid (HF.out (by rw[lS.out]; simp[jA, hn]))
            have hb : (xn != 0) = true := by simpa using hn
            clear HT HF hn bF lS
            go_wp2_with fail
            go_ret
            exact⟨aU HX.out.symm, HG2.out⟩
      · by_cases h1 : 1 <= xn
        · by_cases h16 : xn <= 16
          · have HX := Lib.hid (HT.out (by rw[lS.out]; simp[jA, h1, h16]))
            have hd1 : decide (xn < 1) = false := by simp; omega
            have hd2 : decide (16 < xn) = false := by simp; omega
            clear HT HF bF lS
            go_wp2_with fail
            go_roundw
            case rel => exact⟨k + 1, by go_num, by omega, HG2.out, HX.out⟩
            case measure => (simp[intOf] <;> omega)
          · have HX := Lib.hid (HF.out (by rw[lS.out]; simp[jA]; omega))
            have hd1 : decide (xn < 1) = false := by simp; omega
            have hd2 : decide (16 < xn) = true := by simp; omega
            clear HT HF bF lS
            go_wp2_with fail
            go_ret
            exact⟨aU HX.out.symm, HG2.out⟩
        · have HX := Lib.hid (HF.out (by rw[lS.out]; simp[jA]; omega))
          have hd1 : decide (xn < 1) = true := by simp; omega
          clear HT HF bF lS
          go_wp2_with fail
          go_ret
          exact⟨aU HX.out.symm, HG2.out⟩
      · have HX := Lib.hid (HF.out (by rw[lS.out]; simp[jA, n1, n2, n3]))
        have e1 : (xk == 1) = false := by simpa using n1
        have e2 : (xk == 2) = false := by simpa using n2
        have e3 : (xk == 3) = false := by simpa using n3
        clear HT HF n1 n2 n3 bF lS
        go_wp2_with fail
        go_ret
        exact⟨aU HX.out.symm, HG2.out⟩
  · have HX := Lib.hid (show l.all au.decl = true from by rw[← HA.out, show k = l.length from by omega, List.take_length])
    go_wp2_with fail
    go_ret
    exact⟨aU HX.out.symm, HG.out⟩
mutual
def fO : Tree -> Int -> Int -> Bool × Int
  |.mk _ _ _ l, d, left => if d = 0 \/ left = 0 then(false, left)else je l (d - 1) (left - 1)
def je : List Tree -> Int -> Int -> Bool × Int
  | [], _, left => (true, left)
  |t :: r, d, left => if(fO t d left).1 then je r d (fO t d left).2 else(false, (fO t d left).2)
end
mutual
theorem Jb : ∀ (t : Tree) (d left : Int), 0 <= left -> 0 <= (fO t d left).2 /\ (fO t d left).2 <= left
  |.mk _ _ _ l, d, left, h => by
    rw[fO]
    split
    · exact⟨h, Int.le_refl _⟩
    · have := IB l (d - 1) (left - 1) (by omega)
      omega
theorem IB : ∀ (l : List Tree) (d left : Int), 0 <= left -> 0 <= (je l d left).2 /\ (je l d left).2 <= left
  | [], d, left, h => ⟨h, Int.le_refl _⟩
  |t :: r, d, left, h => by
    have h1 := Jb t d left h
    have h2 := IB r d (fO t d left).2 h1.1
    rw[je]
    split
    · omega
    · exact h1
end
theorem bN {wb w w' : World} {O : Nat -> Prop} (h : Grow wb w) (hm : Mv O w w') (hO : ∀ b, O b -> wb.heap.size <= b) : Grow wb w' := h.trans hm (λb hb => .inr (hO b hb))
def Jc (L : Nat) (r : Bool × Int) (w : World) (e : Ending) (w' : World) : Prop := e = .returned (.bool r.1) /\ Mv (λb => b = L) w w' /\ w'.heap[L]? = some (.cells #[.int .i64 r.2] 3 (0, 0))
theorem drop_at {α : Type} (l : List α) (j : Nat) (h : j < l.length) : l.drop j = l[j] :: l.drop (j + 1) := List.drop_eq_getElem_cons h
set_option maxRecDepth 100000 in
set_option maxHeartbeats 6400000 in
theorem PM : ∀ (m : Nat) (x : ae), SizeOf.sizeOf x <= m -> ∀ (wb w : World) (L : Nat) (d left : Int), bJ wb x -> Grow wb w -> wb.heap.size <= L -> w.heap[L]? = some (.cells #[.int .i64 left] 3 (0, 0)) -> (0 <= d /\ d <= 1000) -> (0 <= left /\ left <= 100000) ->
    Calls Tryz.prog 48 #[x.val, .int .i64 d, .pointer (some ⟨L, 0, none⟩)] w (Jc L (fO x.t d left) w) := by
  intro m
  induction m with
  |zero => intro x hm; cases x; simp at hm
  |succ m ih =>
    intro x hm wb w L d left hx hg hL hl hd hlf
    obtain⟨k, n, s, kv, l⟩ := x
    obtain⟨ka, kc, rfl, hkc, hkl⟩ := hx.form
    have gD := Lib.hid (λ(i : Nat) (hi : i < l.length) (z : World) (lf : Int) (hz : Grow wb z) (h1 : z.heap[L]? = some (.cells #[.int .i64 lf] 3 (0, 0))) (h2 : 0 <= d - 1) (h3 : 0 <= lf /\ lf <= 100000) => ih l[i] (by
      have := qX (k := k) (n := n) (s := s) (kv := .slice ka l.length kc) (List.getElem_mem hi)
      omega) wb z L (d - 1) lf (hx.row.2.2.2.2 _ (List.getElem_mem hi)) hz hL h1 (by omega) h3)
    have qA := Lib.hid hx
    have l0 : w.cell? ⟨L, 0, none⟩ = some (.int .i64 left) := by simp[World.cell?, hl]
    have lf := bD hl 0
    have hll := lt_of_block hl
    have HL := Lib.hid hl
    have lY := Lib.hid hg
    have Mq : wb.heap.size <= L := hL
    have oU := Lib.hid (heap_alloc_new w (.cells #[.int .u8 k, .int .i64 n, .string s, .slice ka l.length kc] 40))
    have bE := Lib.hid (show Grow wb (w.alloc (.cells #[.int .u8 k, .int .i64 n, .string s, .slice ka l.length kc] 40))from hg.alloc _)
    have HR := Lib.hid (show fO (ae.t (.mk k n s (.slice ka l.length kc) l)) d left = if d = 0 \/ left = 0 then(false, left)else je (ae.ts l) (d - 1) (left - 1)from by rw[ae.t, fO])
    clear hx hg hl ih hL
    simp only[ae.val]
    generalize fO (ae.t (.mk k n s (.slice ka l.length kc) l)) d left = R at *
    by_cases h0 : d = 0 \/ left = 0
    · have HR2 := Lib.hid (show R = (false, left)from by rw[HR.out, if_pos h0])
      have hL2 := ai HL.out ((Mv.refl (λ_ => False) w).alloc (.cells #[.int .u8 k, .int .i64 n, .string s, .slice ka l.length kc] 40))
      have HL2 := Lib.hid hL2
      clear hL2
      rcases h0 with rfl|rfl
      · go_enter Tryz.func48, Tryz.ntmps48
        go_wp2_with fail
        go_ret
        exact⟨aU (by rw[HR2.out]), (Mv.refl _ _).alloc _, by rw[HR2.out]; exact HL2.out⟩
      · by_cases hd0 : d = 0
        · subst hd0
          go_enter Tryz.func48, Tryz.ntmps48
          go_wp2_with fail
          go_ret
          exact⟨aU (by rw[HR2.out]), (Mv.refl _ _).alloc _, by rw[HR2.out]; exact HL2.out⟩
        · have e0 : (d == 0) = false := by simpa using hd0
          go_enter Tryz.func48, Tryz.ntmps48
          go_wp2_with fail
          go_ret
          exact⟨aU (by rw[HR2.out]), (Mv.refl _ _).alloc _, by rw[HR2.out]; exact HL2.out⟩
    · have e0 : (d == 0) = false := by simp; omega
      have e1 : (left == 0) = false := by simp; omega
      have HR2 := Lib.hid (show R = je (ae.ts l) (d - 1) (left - 1)from by rw[HR.out, if_neg h0])
      have hd1 : 1 <= d := by omega
      have hl1 : 1 <= left := by omega
      clear h0
      go_enter Tryz.func48, Tryz.ntmps48
      go_wp2_with fail
      have hb1 := block_setCell (p := ⟨L, 0, none⟩) HL.out rfl (.int .i64 (left - 1))
      have HB2 := Lib.hid (show((w.setCell ⟨L, 0, none⟩ (.int .i64 (left - 1))).alloc (.cells #[.int .u8 k, .int .i64 n, .string s, .slice ka l.length kc] 40)).heap[L]? = some (.cells #[.int .i64 (left - 1)] 3 (0, 0))from bY (by simpa using hb1) _)
      have bL := Lib.hid (show((w.setCell ⟨L, 0, none⟩ (.int .i64 (left - 1))).alloc (.cells #[.int .u8 k, .int .i64 n, .string s, .slice ka l.length kc] 40)).heap[w.heap.size]? = some (.cells #[.int .u8 k, .int .i64 n, .string s, .slice ka l.length kc] 40 (0, 0))from by
        have := heap_alloc_new (w.setCell ⟨L, 0, none⟩ (.int .i64 (left - 1))) (.cells #[.int .u8 k, .int .i64 n, .string s, .slice ka l.length kc] 40)
        simpa using this)
      have EW := Lib.hid (show Mv (λb => b = L) w ((w.setCell ⟨L, 0, none⟩ (.int .i64 (left - 1))).alloc (.cells #[.int .u8 k, .int .i64 n, .string s, .slice ka l.length kc] 40))from((Mv.refl (λb => b = L) w).setCell (p := ⟨L, 0, none⟩) (.inl rfl) _).alloc _)
      generalize ((w.setCell ⟨L, 0, none⟩ (.int .i64 (left - 1))).alloc (.cells #[.int .u8 k, .int .i64 n, .string s, .slice ka l.length kc] 40)) = w2 at *
      have HG2 := Lib.hid (bN lY.out EW.out (λb e => by subst e; exact Mq))
      clear l0 lf hll hb1
      go_loopw [25] (λt wr => ∃ (j : Nat) (lf : Int), t = .int .i64 j /\ j <= l.length /\ wr.heap[L]? = some (.cells #[.int .i64 lf] 3 (0, 0)) /\ (0 <= lf /\ lf <= 100000) /\ je ((ae.ts l).drop j) (d - 1) lf = R /\ Mv (λb => b = L) w2 wr) (λt _ => l.length - (intOf t).toNat)
      case atStart => exact⟨0, left - 1, rfl, Nat.zero_le _, HB2.out, by omega, by rw[HR2.out]; rfl, Mv.refl _ _⟩
      obtain⟨j, lf, rfl, hj, hlb, JX, hrest, hmv⟩ := hrel
      have sJ := Lib.hid hlb
      have dx := Lib.hid hrest
      have iT := Lib.hid hmv
      have oV := Lib.hid (bN HG2.out hmv (λb e => by subst e; exact Mq))
      clear hlb hrest hmv
      by_cases hlt : j < l.length
      · obtain⟨kb, ko, mY, dR, -, -⟩ := qA.out.row.2.2.2.1.at (show 0 < l.length by omega)
        simp only[Value.slice.injEq, true_and]at dR
        obtain⟨rfl, rfl⟩ := dR
        have eY := (rF qA.out j hlt).later oV.out
        have HE := Lib.hid (show je ((ae.ts l).drop j) (d - 1) lf = if(fO l[j].t (d - 1) lf).1 then je ((ae.ts l).drop (j + 1)) (d - 1) (fO l[j].t (d - 1) lf).2 else(false, (fO l[j].t (d - 1) lf).2)from by
          rw[drop_at _ j (by rw[ae.dB]; exact hlt), je, ae.oG l j hlt])
        have hbd := Jb l[j].t (d - 1) lf JX.1
        have HC := Lib.hid (λz hz h1 => gD.out j hlt z lf hz h1 (by omega) JX)
        generalize hRj : fO l[j].t (d - 1) lf = Rj at *
        generalize l[j] = y at *
        obtain⟨yk, yn, ys, yv, yl⟩ := y
        obtain⟨ya, yc, rfl, -, -⟩ := eY.at_.form
        obtain⟨⟨d0, d1⟩, d2, d3⟩ := eY.four
        simp only[ae.val]at HC
        have hbl : kb < wr.heap.size := World.block_lt_of_cell? wr _ d0
        have uT := Lib.hid (HC.out (wr.alloc (.cells #[.int .u8 yk, .int .i64 yn, .string ys, .slice ya yl.length yc] 40)) (oV.out.alloc _) (bY sJ.out _))
        clear eY HC hRj
        go_wp2_with fail
        refine uT.out.mono ?_
        rintro e w4 ⟨rfl, jk, hl4⟩
        have Mr := Lib.hid (show Mv (λb => b = L) w2 w4 from(iT.out.alloc _).trans jk (λb e => .inl e))
        have zB := Lib.hid hl4
        clear jk hl4 d0 d1 d2 d3
        obtain⟨rb, rl⟩ := Rj
        have Uc : 0 <= rl /\ rl <= lf := hbd
        cases rb with
        |false =>
          have HF := Lib.hid (show R = (false, rl)from by rw[← dx.out, HE.out]; rfl)
          go_wp2_with fail
          go_ret
          exact⟨aU (by rw[HF.out]), EW.out.trans Mr.out (λb e => .inl e), by rw[HF.out]; exact zB.out⟩
        |true =>
          have HF := Lib.hid (show je ((ae.ts l).drop (j + 1)) (d - 1) rl = R from by rw[← dx.out, HE.out]; rfl)
          go_wp2_with fail
          go_roundw
          case rel => exact⟨j + 1, rl, by go_num, by omega, zB.out, by omega, HF.out, Mr.out⟩
          case measure => simp[intOf]; omega
      · obtain rfl : j = l.length := by omega
        have HF := Lib.hid (show R = (true, lf)from by
          rw[← dx.out, List.drop_eq_nil_of_le (by rw[ae.dB]; exact Nat.le_refl _)]; rfl)
        go_wp2_with fail
        go_ret
        exact⟨aU (by rw[HF.out]), EW.out.trans iT.out (λb e => .inl e), by rw[HF.out]; exact sJ.out⟩
theorem PN (x : ae) (wb w : World) (L : Nat) (d left : Int) (hx : bJ wb x) (hg : Grow wb w) (hL : wb.heap.size <= L) (hl : w.heap[L]? = some (.cells #[.int .i64 left] 3 (0, 0))) (hd : 0 <= d /\ d <= 1000) (hlf : 0 <= left /\ left <= 100000) : Calls Tryz.prog 48 #[x.val, .int .i64 d, .pointer (some ⟨L, 0, none⟩)] w (Jc L (fO x.t d left) w) := PM _ x (Nat.le_refl _) wb w L d left hx hg hL hl hd hlf
def jb (t : Tree) : Bool := (fO t 80 2000).1 && ed t
set_option maxRecDepth 100000 in
set_option maxHeartbeats 1600000 in
theorem GJ (x : ae) (w : World) (hx : bJ w x) : Calls Tryz.prog 30 #[x.val] w (fq w (jb x.t)) := by
  obtain⟨k, n, s, kv, l⟩ := x
  obtain⟨ka, kc, rfl, hkc, hkl⟩ := hx.form
  have qA := Lib.hid hx
  have HR := Lib.hid (show jb (ae.t (.mk k n s (.slice ka l.length kc) l)) = ((fO (ae.t (.mk k n s (.slice ka l.length kc) l)) 80 2000).1 && ed (ae.t (.mk k n s (.slice ka l.length kc) l)))from rfl)
  have HB := Lib.hid (show ∀ z, Grow w z -> Calls Tryz.prog 49 #[.agg #[.int .u8 k, .int .i64 n, .string s, .slice ka l.length kc]] z (fq z (ed (ae.t (.mk k n s (.slice ka l.length kc) l))))from λz hz => PL _ z (hx.later hz))
  have aY := Lib.hid (show((w.alloc (.cells #[.int .u8 k, .int .i64 n, .string s, .slice ka l.length kc] 40)).alloc (.cells #[.int .i64 2000] 3)).heap[w.heap.size]? = some (.cells #[.int .u8 k, .int .i64 n, .string s, .slice ka l.length kc] 40 (0, 0))from bY (heap_alloc_new w _) _)
  have EX := Lib.hid (show((w.alloc (.cells #[.int .u8 k, .int .i64 n, .string s, .slice ka l.length kc] 40)).alloc (.cells #[.int .i64 2000] 3)).heap[w.heap.size + 1]? = some (.cells #[.int .i64 2000] 3 (0, 0))from by
    have := heap_alloc_new (w.alloc (.cells #[.int .u8 k, .int .i64 n, .string s, .slice ka l.length kc] 40)) (.cells #[.int .i64 2000] 3)
    simpa using this)
  have aj := Lib.hid (show Grow w ((w.alloc (.cells #[.int .u8 k, .int .i64 n, .string s, .slice ka l.length kc] 40)).alloc (.cells #[.int .i64 2000] 3))from((Mv.refl _ w).alloc _).alloc _)
  have HC := Lib.hid (PN (.mk k n s (.slice ka l.length kc) l) w ((w.alloc (.cells #[.int .u8 k, .int .i64 n, .string s, .slice ka l.length kc] 40)).alloc (.cells #[.int .i64 2000] 3)) (w.heap.size + 1) 80 2000 hx aj.out (by omega) EX.out (by decide) (by decide))
  simp only[ae.val]at HC ⊢
  clear hx
  go_enter Tryz.func30, Tryz.ntmps30
  go_wp2_with fail
  generalize ((w.alloc (.cells #[.int .u8 k, .int .i64 n, .string s, .slice ka l.length kc] 40)).alloc (.cells #[.int .i64 2000] 3)) = w1 at *
  refine HC.out.mono ?_
  rintro e w2 ⟨rfl, hm, -⟩
  have HG2 := Lib.hid (bN aj.out hm (λb e => by subst e; omega))
  obtain⟨⟨n0, n1⟩, n2, n3⟩ := aJ (show w2.heap[w.heap.size]? = some (.cells #[.int .u8 k, .int .i64 n, .string s, .slice ka l.length kc] 40 (0, 0))from by rw[hm.block _ (lt_of_block aY.out) (by omega)]; exact aY.out)
  have hln : w.heap.size < w2.heap.size := by have := lt_of_block aY.out; have := hm.size; omega
  clear hm
  cases hb : (fO (ae.t (.mk k n s (.slice ka l.length kc) l)) 80 2000).1 with
  |false =>
    have HF := Lib.hid (show jb (ae.t (.mk k n s (.slice ka l.length kc) l)) = false from by rw[HR.out, hb]; rfl)
    clear hb
    go_wp2_with fail
    go_ret
    exact⟨aU HF.out.symm, HG2.out⟩
  |true =>
    have HF := Lib.hid (show jb (ae.t (.mk k n s (.slice ka l.length kc) l)) = ed (ae.t (.mk k n s (.slice ka l.length kc) l))from by rw[HR.out, hb]; rfl)
    have xC := Lib.hid (HB.out w2 HG2.out)
    clear hb
    go_wp2_with fail
    refine xC.out.mono ?_
    rintro e w3 ⟨rfl, hg3⟩
    have aA := Lib.hid (gtr HG2.out hg3)
    clear hg3 n0 n1 n2 n3
    go_wp2_with fail
    go_ret
    exact⟨aU HF.out.symm, aA.out⟩
structure lJ where
  vars : List au
  procs : List bA
  main : Tree
structure az where
  vars : List au
  vv : Value
  procs : List aO
  pv : Value
  main : ae
def az.d (p : az) : lJ := ⟨p.vars, p.procs.map aO.d, p.main.t⟩
def az.cells (p : az) : List Value := p.vv :: p.pv :: p.main.cells
def az.val : az -> Value
  |⟨_, vv, _, pv, .mk k n s kv _⟩ => .agg #[vv, pv, .int .u8 k, .int .i64 n, .string s, kv]
structure jc (w : World) (p : az) : Prop where
  vars : ay 3 au.cells w p.vv p.vars
  Ju : ∀ x ∈ p.vars, x.name.size <= 9223372036854775807
  procs : ru w p.pv p.procs
  Jv : ∀ q ∈ p.procs, ∀ x ∈ q.params, x.name.size <= 9223372036854775807
  main : bJ w p.main
theorem jc.later {w w' : World} {p : az} (h : jc w p) (hm : Grow w w') : jc w' p := ⟨h.vars.later hm, h.Ju, h.procs.later hm, h.Jv, h.main.later hm⟩
def bA.okB (p : bA) : Bool := iP p.name && (decide (p.params.length <= 8) && (p.params.all au.decl && jb p.body))
def lJ.okB (p : lJ) : Bool := (decide (p.vars.length <= 32) && (decide (p.procs.length <= 64) && p.vars.all au.decl)) && (p.procs.all bA.okB && jb p.main)
end
end Go.Proofs.YtbpodipdfohikaaGreat
