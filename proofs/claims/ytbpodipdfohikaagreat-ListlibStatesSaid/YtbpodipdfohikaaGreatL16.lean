import Derived.Test.YtbpodipdfohikaaGreatL15
set_option linter.unusedSimpArgs false
set_option linter.unusedVariables false
set_option maxRecDepth 100000
set_option maxHeartbeats 25600000
namespace Go.Proofs.YtbpodipdfohikaaGreat
open Go.RowKit Go.Instr
set_option maxRecDepth 100000 in
set_option maxHeartbeats 6400000 in
theorem Xp (Ts : Nat -> TypeId -> Bool) (R : Nat) (x : ae) (w : World) (hT : uy Ts w.heap.size) (hb : w.heap[R]? = some (.cells x.cells.toArray 40 (0, 0))) (hno : aS (λ_ => True) w x) (hs : dM x.t <= 900000) :
    RD Tryz.prog Ts 102 #[.pointer (some ⟨R, 0, none⟩)] (λz : Value × ae => #[z.1, z.2.fix.val]) (λxs => came xs = iD x.t) (λpre => came pre <+: iD x.t) w := by
  intro l J Jx W hW hJ hJx hY h0
  obtain⟨k, n, s, kv, ls⟩ := x
  obtain⟨ka, kc, rfl, -, -⟩ := hno.at.form
  have hga : Grow W (W.alloc (.cells #[.func (.yield l) #[] #[]] 151)) := (Mv.refl _ _).alloc _
  have hgb := hga.alloc (.cells #[.slice none 0 0] 22)
  have hgc := hgb.alloc (.cells #[.func (.func 103) #[] #[.pointer (some ⟨W.heap.size, 0, none⟩), .pointer (some ⟨W.heap.size + 1, 0, none⟩), .pointer (some ⟨W.heap.size + 1 + 1, 0, none⟩)]] 65)
  have HV := Lib.hid (show kH W.heap.size l W.heap.size (W.heap.size + 1) (W.heap.size + 1 + 1) _ (.slice none 0 0) []from
    ⟨bY (bY (heap_alloc_new W _) _) (.cells #[.func (.func 103) #[] #[.pointer (some ⟨W.heap.size, 0, none⟩), .pointer (some ⟨W.heap.size + 1, 0, none⟩), .pointer (some ⟨W.heap.size + 1 + 1, 0, none⟩)]] 65),
     bY (by have := heap_alloc_new (W.alloc (.cells #[.func (.yield l) #[] #[]] 151)) (.cells #[.slice none 0 0] 22); rwa[World.size_alloc]at this) _,
     by have := heap_alloc_new ((W.alloc (.cells #[.func (.yield l) #[] #[]] 151)).alloc (.cells #[.slice none 0 0] 22)) (.cells #[.func (.func 103) #[] #[.pointer (some ⟨W.heap.size, 0, none⟩), .pointer (some ⟨W.heap.size + 1, 0, none⟩), .pointer (some ⟨W.heap.size + 1 + 1, 0, none⟩)]] 65); rwa[World.size_alloc, World.size_alloc]at this,
     by omega, World.ownsRow_nil _ _ _ _⟩)
  have HN := Lib.hid ((hno.bd hT.node (ku (Ts := Ts) hW)).bd hT.node (ku (Ts := Ts) hgc))
  have HJ := Lib.hid (hJ _ _ _ h0 (A9 hgc))
  have HG := Lib.hid hgc
  have hrb := ai (ai hb hW) hgc
  have HC := Lib.hid (QS Ts (λpre => came pre <+: iD (ae.t (.mk k n s (.slice ka ls.length kc) ls))) J Jx W.heap.size l W.heap.size (W.heap.size + 1) (W.heap.size + 1 + 1) (hT.up hW.size) hJ hY _ _ (Nat.le_refl _) _ [] _ [] (by simpa using hs) HV.out HN.out HJ.out hgc.size (λzs hz => hz))
  obtain⟨⟨d0, d1⟩, d2, d3⟩ := aJ hrb
  have hlr := lt_of_block (ai hb hW)
  have Um := lt_of_block hrb
  simp only[ae.val]at HC
  clear hno hga hgb hgc hb h0 hrb hs HV HN HJ
  show Calls Tryz.prog 102 #[.func (.yield l) #[] #[], .pointer (some ⟨R, 0, none⟩)] W _
  go_enter Tryz.func102, Tryz.ntmps102
  go_wp2_with fail
  refine HC.out.mono ?_
  clear d0 d1 d2 d3 hlr Um HC
  rintro e w5 (⟨rfl, path', ys, hc, hj, -, -⟩|⟨rfl, ys, hp, hx⟩)
  · have HH := Lib.hid hj
    clear hj
    go_wp2_with fail
    go_end0
    exact⟨⟨_, rfl⟩, .inl ⟨ys, hc, HH.out⟩⟩
  · have HH := Lib.hid hx
    clear hx
    go_wp2_with fail
    go_end0
    exact⟨⟨_, rfl⟩, .inr ⟨ys, hp, HH.out⟩⟩
set_option maxRecDepth 100000 in
set_option maxHeartbeats 3200000 in
theorem Xq (x : ae) (w : World) (hx : bJ w x) (hs : dM x.t <= 900000) :
    Calls Tryz.prog 80 #[x.val] w λe w' => ∃ (R : Nat) (y : ae), e = .returned (.func (.func 102) #[] #[.pointer (some ⟨R, 0, none⟩)]) /\ w'.heap[R]? = some (.cells y.cells.toArray 40 (0, 0)) /\ aS (λ_ => True) w' y /\ y.t = x.t /\ Grow w w' := by
  obtain⟨k, n, s, kv, l⟩ := x
  obtain⟨ka, kc, rfl, -, -⟩ := hx.form
  have hga : Grow w (w.alloc (.cells #[.int .u8 k, .int .i64 n, .string s, .slice ka l.length kc] 40)) := (Mv.refl _ _).alloc _
  have HC := Lib.hid (Ho _ _ hs (hx.later hga))
  have HG := Lib.hid hga
  obtain⟨⟨d0, d1⟩, d2, d3⟩ := aJ (heap_alloc_new w (.cells #[.int .u8 k, .int .i64 n, .string s, .slice ka l.length kc] 40))
  simp only[ae.val]at HC
  clear hx hga hs
  simp only[ae.val]
  go_enter Tryz.func80, Tryz.ntmps80
  go_wp2_with fail
  refine HC.out.mono ?_
  clear d0 d1 d2 d3
  rintro e w5 ⟨y, rfl, jW, hno, hg⟩
  obtain⟨yk, yn, ys, yv, yl⟩ := y
  obtain⟨ya, yc, rfl, -, -⟩ := hno.at.form
  have hgb : Grow w5 (w5.alloc (.cells #[.int .u8 yk, .int .i64 yn, .string ys, .slice ya yl.length yc] 40)) := (Mv.refl _ _).alloc _
  have HN := Lib.hid ((hno.weak (λ_ _ _ => trivial)).stay hgb (λ_ _ _ _ _ e => e))
  have HB := Lib.hid (heap_alloc_new w5 (.cells #[.int .u8 yk, .int .i64 yn, .string ys, .slice ya yl.length yc] 40))
  have bR := Lib.hid (gtr (gtr HG.out hg) hgb)
  have HT := Lib.hid jW
  clear hno hg hgb HC jW
  simp only[ae.val]
  go_wp2_with fail
  go_ret
  exact⟨_, .mk yk yn ys (.slice ya yl.length yc) yl, rfl, HB.out, HN.out, HT.out, bR.out⟩
attribute [local go_sem ↓] fB
theorem Dz {P : Program} {t e : TypeId} {n bytes : Nat} {α : Type} {f : α -> List Value} (E : Elem P t e n bytes) (hf : ∀ x, (f x).length = n) (a : Option Addr) (l : List α) (x : α) (g : Nat) (w : World) (hr : ay n f w (.slice a l.length l.length) l) (hg : w.heap[g]? = some (.cells (f x).toArray e (0, 0))) (h1 : ∀ u ∈ f x, u.oneCell' = true) (hlen : l.length <= 900000) :
    ∃ a' c' w2, (qd P t t (.slice a l.length l.length) (.slice (some ⟨g, 0, none⟩) 1 1) w /\ mW P t t (.slice a l.length l.length) (.slice (some ⟨g, 0, none⟩) 1 1) w = .slice a' (l.length + 1) c' /\ appW P t t (.slice a l.length l.length) (.slice (some ⟨g, 0, none⟩) 1 1) w = w2) /\
      (ay n f w2 (.slice a' (l.length + 1) c') (l ++ [x]) /\ ∀ g, (Value.slice a' (l.length + 1) c').ownBlock = some g -> ∃ cs z, w2.heap[g]? = some (.cells cs e z)) /\ Grow w w2 := by
  obtain⟨i, z, hi, hz, hsz, hby, hzc⟩ := E.hi
  have hsrc : Src P i.size t (.slice (some ⟨g, 0, none⟩) 1 1) 1 (f x) w := Src.ofSlice w E.ht ⟨g, 0, none⟩ 1 1 (f x) (by rw[hf, hsz]; simp) (λj u hu => by
    rw[Dx, Nat.zero_add]
    simp only[World.cell?, hg, Option.isSome_none, Bool.false_eq_true, if_false]
    simpa using hu) h1
  have hold : (Builtin.firstCells i.size l.length (.slice a l.length l.length)).run P w.drew = .ok (flat f l).toArray w.drew := by
    obtain⟨sa, sc, e1, hsc, hsl, hcell⟩ := hr
    simp only[Value.slice.injEq, true_and]at e1
    obtain⟨rfl, rfl⟩ := e1
    cases a with
    |none =>
      obtain rfl : l = [] := by
        cases l with
        |nil => rfl
        |cons x l => obtain⟨b, off, e, _⟩ := hcell 0 x rfl; cases e
      exact run_firstCells_none w.drew i.size 0 0 0
    |some a =>
      refine run_firstCells_some w.drew i.size l.length a l.length l.length (flat f l) (by rw[hsz]; exact mE f n hf l) (λj u hu => ?_)
      obtain⟨i', r, rfl, hi', hu⟩ := flat_get _ n E.hn hf l j u hu
      obtain⟨b, off, e1, hc⟩ := hcell i' _ (List.getElem?_eq_getElem hi')
      simp only[Option.some.injEq]at e1
      subst e1
      have := hc r u hu
      rw[Dx, ← Nat.add_assoc]; simpa using this
  have hr2 := run_append_grow_src (P := P) w t t t e i _ E.ht hi hz a l.length l.length (flat f l) hold _ 1 (f x) hsrc (by omega) (by omega) (growslice_fits (by omega) (by rw[hby]; have := E.hb; have := Nat.mul_le_mul (show l.length + 1 <= 1000000 by omega) this; omega))
  obtain⟨hok, hv, hw⟩ := wN hr2
  have hge := grownCap_ge w (l.length + 1) l.length e
  have hB := heap_alloc_new w.drew (.cells ((flat f l ++ f x).toArray ++ Builtin.zeroCells z.cells (grownCap w (l.length + 1) l.length e - (l.length + 1))) e)
  have hds : w.drew.heap.size = w.heap.size := rfl
  rw[hds]at hB
  have hfl : flat f (l ++ [x]) = flat f l ++ f x := by rw[Db]; simp[flat]
  have hrw := ay.I5 (l := l ++ [x]) (cap := grownCap w (l.length + 1) l.length e) hf hB (λj u hu => by
    rw[hfl]at hu
    have hj := (List.getElem?_eq_some_iff.1 hu).1
    rw[Array.getElem?_append_left (by simpa using hj)]
    simpa using hu) (by simpa using hge) (by simp; omega)
  exact⟨_, _, _, ⟨hok, hv, hw⟩, ⟨by simpa using hrw, λg hg => by simp[Value.ownBlock]at hg; subst hg; exact⟨_, _, hB⟩⟩, ((Mv.refl _ w).drew).alloc _⟩
set_option maxRecDepth 100000 in
set_option maxHeartbeats 1600000 in
theorem RF (a : Option Addr) (n c : Nat) (w : World) (hn : n <= c) (hl : n <= 9223372036854775807) : Calls Tryz.prog 99 #[.slice a n c] w λe w' => e = .returned (.slice a n n) /\ w = w' := by
  go_enter Tryz.func99, Tryz.ntmps99
  go_wp2_with fail
  all_goals
    go_ret
    exact⟨rfl, rfl⟩
set_option maxRecDepth 100000 in
set_option maxHeartbeats 1600000 in
theorem Jg (a : Option Addr) (n c : Nat) (w : World) (hn : n <= c) (hl : n <= 9223372036854775807) : Calls Tryz.prog 100 #[.slice a n c] w λe w' => e = .returned (.slice a n n) /\ w = w' := by
  go_enter Tryz.func100, Tryz.ntmps100
  go_wp2_with fail
  all_goals
    go_ret
    exact⟨rfl, rfl⟩
theorem Tryz.Te : (Tryz.prog.info? 50).map (λi => (i.zero, i.size, i.bytes)) = some (some (.agg #[.string ⟨#[]⟩, .int .u8 0, .int .i64 0]), 3, 32) := by kernel_rfl
theorem Tryz.Bi : Elem Tryz.prog 36 50 3 32 := Elem.of Tryz.underlying36 Tryz.Te rfl (by decide) (by decide)
theorem uz (x : au) : x.cells.length = 3 := rfl
theorem DC {α : Type} {n : Nat} {f : α -> List Value} {w : World} {a : Option Addr} {k c : Nat} {l : List α} (h : ay n f w (.slice a k c) l) : ay n f w (.slice a l.length l.length) l := by
  obtain⟨a', c', e, h2, h3, h4⟩ := h
  simp only[Value.slice.injEq]at e
  obtain⟨rfl, rfl, rfl⟩ := e
  exact⟨a, l.length, rfl, Nat.le_refl _, h3, h4⟩
def Ka {α : Type} (n : Nat) (f : α -> List Value) (T : TypeId) (v0 : Value) (l0 l : List α) (w : World) (e : Ending) (w' : World) : Prop := ∃ v, e = .returned v /\ (ay n f w' v l /\ ((v = v0 /\ l = l0) \/ ∀ g, v.ownBlock = some g -> ∃ cs z, w'.heap[g]? = some (.cells cs T z))) /\ Grow w w'
set_option maxRecDepth 100000 in
set_option maxHeartbeats 3200000 in
theorem Ht (v : Value) (l : List Int) (i : Int) (w : World) (h : ay 1 aB w v l) (hb : l.length <= 900000) : Calls Tryz.prog 77 #[v, .int .i64 i] w (Ka 1 aB 3 v l (l ++ [i]) w) := by
  obtain⟨va, vc, rfl, lZ, hvl⟩ := h.form
  have iy := Lib.hid (RF va l.length vc w lZ hvl)
  have jU := Lib.hid (heap_alloc_new w (.cells #[.int .i64 i] 3))
  have bE := Lib.hid (show Grow w (w.alloc (.cells #[.int .i64 i] 3))from(Mv.refl _ w).alloc _)
  obtain⟨a', c', w2, ⟨hok, hv, hw⟩, hrow, hg⟩ := Dz Tryz.kG (f := aB) (λ_ => rfl) va l i w.heap.size (w.alloc (.cells #[.int .i64 i] 3)) ((DC h).later bE.out) jU.out (by simp[aB, Value.oneCell']) hb
  have HRW := Lib.hid hrow
  have HG2 := Lib.hid (gtr bE.out hg)
  clear h hrow hg jU
  go_enter Tryz.func77, Tryz.ntmps77
  go_wp2_with fail
  refine iy.out.mono ?_
  rintro e w3 ⟨rfl, rfl⟩
  go_wp2_with fail
  go_ret
  exact⟨_, rfl, ⟨HRW.out.1, .inr HRW.out.2⟩, HG2.out⟩
def ky (t : Tree) (i : Nat) (l : List au) : List au := if t.kind = 54 /\ i = 1 then l ++ [⟨t.name, 1, 0⟩]else if t.kind = 55 /\ i = 0 then l ++ [⟨t.name, 3, 0⟩]else l
attribute [local go_sem ↓] fB
set_option maxRecDepth 100000 in
set_option maxHeartbeats 6400000 in
theorem QT (k n : Int) (s : ByteArray) (ka : Option Addr) (l : List ae) (kc : Nat) (i : Nat) (v : Value) (aF : List au) (w : World) (hr : ay 3 au.cells w v aF) (hvs : aF.length <= 900000) : Calls Tryz.prog 79 #[.agg #[.int .u8 k, .int .i64 n, .string s, .slice ka l.length kc], .int .i64 i, v] w (Ka 3 au.cells 50 v aF (ky (ae.t (.mk k n s (.slice ka l.length kc) l)) i aF) w) := by
  obtain⟨va, vc, rfl, lZ, hvl⟩ := hr.form
  have HV := Lib.hid hr
  clear hr
  have aj := Lib.hid (show Grow w (w.alloc (.cells #[.int .u8 k, .int .i64 n, .string s, .slice ka l.length kc] 40))from(Mv.refl _ w).alloc _)
  have aY := Lib.hid (heap_alloc_new w (.cells #[.int .u8 k, .int .i64 n, .string s, .slice ka l.length kc] 40))
  have hnl : w.heap.size < (w.alloc (.cells #[.int .u8 k, .int .i64 n, .string s, .slice ka l.length kc] 40)).heap.size := by simp
  have HR := Lib.hid (show ky (ae.t (.mk k n s (.slice ka l.length kc) l)) i aF = if k = 54 /\ i = 1 then aF ++ [⟨s, 1, 0⟩]else if k = 55 /\ i = 0 then aF ++ [⟨s, 3, 0⟩]else aF from rfl)
  generalize ky (ae.t (.mk k n s (.slice ka l.length kc) l)) i aF = R at *
  by_cases h1 : k = 54 /\ i = 1
  · obtain⟨rfl, rfl⟩ := h1
    have HR2 := Lib.hid (show R = aF ++ [⟨s, 1, 0⟩]from by rw[HR.out]; simp)
    go_enter Tryz.func79, Tryz.ntmps79
    go_upto_region 2 with fail
    generalize (w.alloc (.cells #[.int .u8 54, .int .i64 n, .string s, .slice ka l.length kc] 40)) = w1 at *
    have HK := Lib.hid (λ(y : World) (hy : Grow w1 y) => ai aY.out hy)
    refine jm 6 38 [some 15, some 16, some 17, some 18, some 19, some 20] [[], [0], [], [2], [3], [4]] [] [.c (.slice va aF.length vc), .c (.slice va aF.length aF.length), .c (.pointer (some ⟨w.heap.size, 2, none⟩)), .c (.string s), .c (.agg #[.string s, .int .u8 1, .int .i64 0]), .p (λv y => ∃ g, v = .slice (some ⟨g, 0, none⟩) 1 1 /\ y.heap[g]? = some (.cells #[.string s, .int .u8 1, .int .i64 0] 50 (0, 0)))] ⟨⟨(λv x y hg h => by obtain⟨g, hv, hb⟩ := h; exact⟨g, hv, ai hb hg⟩), λ_ => bu⟩, trivial⟩ (dJ rfl) ?steps ?done
    case steps =>
      refine⟨?s0, ?s1, ?s2, ?s3, ?s4, ?s5, trivial⟩
      case s0 =>
        refine oo (λvs x hP => ?_)
        simp only[zS]
        go_simp
        exact gc
      case s1 =>
        refine ok HK (λvs x hG HX hP => ?_)
        have HC := Lib.hid (Jg va aF.length vc x lZ hvl)
        simp only[zS]
        go_simp
        refine(HC.out).mono ?_
        rintro e y ⟨rfl, rfl⟩
        exact⟨_, rfl, gc⟩
      case s2 =>
        refine oo (λvs x hP => ?_)
        simp only[zS]
        go_simp
        exact gc
      case s3 =>
        refine ok HK (λvs x hG HX hP => ?_)
        obtain⟨⟨n0, n1⟩, n2, n3⟩ := aJ HX.out
        simp only[zS]
        go_simp
        exact gc
      case s4 =>
        refine oo (λvs x hP => ?_)
        simp only[zS]
        go_simp
        exact gc
      case s5 =>
        refine oo (λvs x hP => ?_)
        simp only[zS]
        go_simp
        exact gl ⟨_, rfl, heap_alloc_new x _⟩
    case done =>
    intro vs wx hE
    have hG := hE.grow
    have p5 := hE.val 5
    obtain⟨g5, h5, b5⟩ := p5
    obtain⟨a', c', w2, ⟨hok, hv, hw⟩, hrow, hg2⟩ := Dz Tryz.Bi uz va aF ⟨s, 1, 0⟩ g5 wx ((DC HV.out).later (gtr aj.out hG)) b5 (by simp[au.cells, Value.oneCell']) hvs
    have HRW := Lib.hid hrow
    have HG2 := Lib.hid (gtr (gtr aj.out hG) hg2)
    clear hrow hg2 hE hG
    simp only[zS, Nat.reduceAdd, h5, List.drop_succ_cons, List.drop_zero]
    go_wp2_with fail
    go_ret
    exact⟨_, rfl, ⟨by rw[HR2.out]; exact HRW.out.1, .inr HRW.out.2⟩, HG2.out⟩
  · by_cases h2 : k = 55 /\ i = 0
    · obtain⟨rfl, rfl⟩ := h2
      have HR2 := Lib.hid (show R = aF ++ [⟨s, 3, 0⟩]from by rw[HR.out]; simp)
      go_enter Tryz.func79, Tryz.ntmps79
      go_upto_region 4 with fail
      generalize (w.alloc (.cells #[.int .u8 55, .int .i64 n, .string s, .slice ka l.length kc] 40)) = w1 at *
      have HK := Lib.hid (λ(y : World) (hy : Grow w1 y) => ai aY.out hy)
      refine jm 6 38 [some 30, some 31, some 32, some 33, some 34, some 35] [[], [0], [], [2], [3], [4]] [] [.c (.slice va aF.length vc), .c (.slice va aF.length aF.length), .c (.pointer (some ⟨w.heap.size, 2, none⟩)), .c (.string s), .c (.agg #[.string s, .int .u8 3, .int .i64 0]), .p (λv y => ∃ g, v = .slice (some ⟨g, 0, none⟩) 1 1 /\ y.heap[g]? = some (.cells #[.string s, .int .u8 3, .int .i64 0] 50 (0, 0)))] ⟨⟨(λv x y hg h => by obtain⟨g, hv, hb⟩ := h; exact⟨g, hv, ai hb hg⟩), λ_ => bu⟩, trivial⟩ (dJ rfl) ?steps ?done
      case steps =>
        refine⟨?s0, ?s1, ?s2, ?s3, ?s4, ?s5, trivial⟩
        case s0 =>
          refine oo (λvs x hP => ?_)
          simp only[zS]
          go_simp
          exact gc
        case s1 =>
          refine ok HK (λvs x hG HX hP => ?_)
          have HC := Lib.hid (Jg va aF.length vc x lZ hvl)
          simp only[zS]
          go_simp
          refine(HC.out).mono ?_
          rintro e y ⟨rfl, rfl⟩
          exact⟨_, rfl, gc⟩
        case s2 =>
          refine oo (λvs x hP => ?_)
          simp only[zS]
          go_simp
          exact gc
        case s3 =>
          refine ok HK (λvs x hG HX hP => ?_)
          obtain⟨⟨n0, n1⟩, n2, n3⟩ := aJ HX.out
          simp only[zS]
          go_simp
          exact gc
        case s4 =>
          refine oo (λvs x hP => ?_)
          simp only[zS]
          go_simp
          exact gc
        case s5 =>
          refine oo (λvs x hP => ?_)
          simp only[zS]
          go_simp
          exact gl ⟨_, rfl, heap_alloc_new x _⟩
      case done =>
      intro vs wx hE
      have hG := hE.grow
      have p5 := hE.val 5
      obtain⟨g5, h5, b5⟩ := p5
      obtain⟨a', c', w2, ⟨hok, hv, hw⟩, hrow, hg2⟩ := Dz Tryz.Bi uz va aF ⟨s, 3, 0⟩ g5 wx ((DC HV.out).later (gtr aj.out hG)) b5 (by simp[au.cells, Value.oneCell']) hvs
      have HRW := Lib.hid hrow
      have HG2 := Lib.hid (gtr (gtr aj.out hG) hg2)
      clear hrow hg2 hE hG
      simp only[zS, Nat.reduceAdd, h5, List.drop_succ_cons, List.drop_zero]
      go_wp2_with fail
      go_ret
      exact⟨_, rfl, ⟨by rw[HR2.out]; exact HRW.out.1, .inr HRW.out.2⟩, HG2.out⟩
    · have HR2 := Lib.hid (show R = aF from by rw[HR.out, if_neg h1, if_neg h2])
      go_enter Tryz.func79, Tryz.ntmps79
      by_cases k1 : k = 54
      · subst k1
        have e1 : ((i : Int) == 1) = false := by simp; omega
        go_wp2_with fail
        go_ret
        exact⟨_, rfl, ⟨by rw[HR2.out]; exact HV.out.later aj.out, .inl ⟨rfl, by rw[HR2.out]⟩⟩, aj.out⟩
      · have e1 : (k == 54) = false := by simpa using k1
        by_cases k2 : k = 55
        · subst k2
          have e2 : ((i : Int) == 0) = false := by simp; omega
          go_wp2_with fail
          go_ret
          exact⟨_, rfl, ⟨by rw[HR2.out]; exact HV.out.later aj.out, .inl ⟨rfl, by rw[HR2.out]⟩⟩, aj.out⟩
        · have e2 : (k == 55) = false := by simpa using k2
          go_wp2_with fail
          go_ret
          exact⟨_, rfl, ⟨by rw[HR2.out]; exact HV.out.later aj.out, .inl ⟨rfl, by rw[HR2.out]⟩⟩, aj.out⟩
end Go.Proofs.YtbpodipdfohikaaGreat
