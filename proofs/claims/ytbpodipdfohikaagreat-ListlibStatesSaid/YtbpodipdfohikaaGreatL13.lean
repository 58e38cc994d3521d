import Derived.Test.YtbpodipdfohikaaGreatL10
import Derived.Test.YtbpodipdfohikaaGreatL12
set_option linter.unusedSimpArgs false
set_option linter.unusedVariables false
set_option maxRecDepth 100000
set_option maxHeartbeats 25600000
namespace Go.Proofs.YtbpodipdfohikaaGreat
open Go.RowKit Go.Instr
def bV (B : Nat) (T : Tree) (v : Value) (y : World) : Prop := ∃ n : ae, v = n.val /\ aS (λb => B <= b) y n /\ n.t = T
theorem bV.later {B : Nat} {T : Tree} {v : Value} {x y : World} (h : bV B T v x) (hg : Grow x y) : bV B T v y := h.imp λ_ h => ⟨h.1, h.2.1.later hg, h.2.2⟩
def lT (B n : Nat) (Ts : List Tree) (v : Value) (y : World) : Prop := ∃ g kids, v = .slice (some ⟨g, 0, none⟩) n n /\ aS (λb => B <= b) y (.mk 57 0 ⟨#[]⟩ (.slice (some ⟨g, 0, none⟩) n n) kids) /\ ae.ts kids = Ts
theorem lT.later {B n : Nat} {Ts : List Tree} {v : Value} {x y : World} (h : lT B n Ts v x) (hg : Grow x y) : lT B n Ts v y := by
  obtain⟨g, kids, h1, h2, h3⟩ := h
  exact⟨g, kids, h1, h2.later hg, h3⟩
theorem aS.Td {P : Nat -> Prop} {w : World} {k n : Int} {s : ByteArray} {kv : Value} {l : List ae} (h : aS P w (.mk k n s kv l)) (k' : Int) (s' : ByteArray) (hk : 0 <= k' /\ k' <= 255) (hs : s'.size <= 9223372036854775807) : aS P w (.mk k' n s' kv l) := by
  cases h with
  |mk h1 h2 h3 h4 h5 h6 => exact .mk hk h2 hs h4 h5 h6
set_option maxRecDepth 100000 in
set_option maxHeartbeats 12800000 in
theorem O9 (w : World) : Calls Tryz.prog 27 #[] w (rM w yO) := by
  have HB1 := Lib.hid (heap_alloc_new w (.cells #[.int .u8 0, .int .i64 0, .string ⟨#[]⟩, .slice none 0 0] 40))
  have aj := Lib.hid (show Grow w (w.alloc (.cells #[.int .u8 0, .int .i64 0, .string ⟨#[]⟩, .slice none 0 0] 40))from(Mv.refl _ _).alloc _)
  have HZ := Lib.hid (show w.heap.size + 1 <= (w.alloc (.cells #[.int .u8 0, .int .i64 0, .string ⟨#[]⟩, .slice none 0 0] 40)).heap.size from by simp)
  obtain⟨B, hB⟩ : ∃ B, B = w.heap.size + 1 := ⟨_, rfl⟩
  rw[← hB]at HZ
  have hB1 : w.heap.size < B := by omega
  clear hB
  go_enter Tryz.func27, Tryz.ntmps27
  go_upto_region 1 with fail
  generalize (w.alloc (.cells #[.int .u8 0, .int .i64 0, .string ⟨#[]⟩, .slice none 0 0] 40)) = w1 at *
  refine Ue 16 17 [some 1, some 2, some 3, some 4, some 5, some 6, some 7, some 8, some 9, some 10, some 11, some 12, some 13, some 14, some 15, some 16] [[], [], [], [], [2, 3], [], [], [5, 6], [], [8], [4, 7, 9], [], [10, 11], [0, 1, 12], [13], [14]] [] [.p (bV B (aL sA)), .p (bV B (aC 0)), .p (bV B (aL sA)), .p (bV B (bS sN)), .p (bV B (aW (aL sA) (bS sN))), .p (bV B (aL sA)), .p (bV B (aC 0)), .p (bV B (aW (aL sA) (aC 0))), .p (bV B (dz sA sG)), .p (lT B 1 [dz sA sG]), .p (bV B (bT (aW (aL sA) (bS sN)) (aW (aL sA) (aC 0)) [dz sA sG])), .p (bV B (psT sN sG)), .p (lT B 2 [bT (aW (aL sA) (bS sN)) (aW (aL sA) (aC 0)) [dz sA sG], psT sN sG]), .p (bV B (dh sN (aL sA) [bT (aW (aL sA) (bS sN)) (aW (aL sA) (aC 0)) [dz sA sG], psT sN sG] (aC 0))), .p (lT B 1 [dh sN (aL sA) [bT (aW (aL sA) (bS sN)) (aW (aL sA) (aC 0)) [dz sA sG], psT sN sG] (aC 0)]), .p (bV B (jD [dh sN (aL sA) [bT (aW (aL sA) (bS sN)) (aW (aL sA) (aC 0)) [dz sA sG], psT sN sG] (aC 0)]))] ⟨⟨(λv x y hg h => h.later hg), λ_ => bu⟩, ⟨(λv x y hg h => h.later hg), λ_ => bu⟩, ⟨(λv x y hg h => h.later hg), λ_ => bu⟩, ⟨(λv x y hg h => h.later hg), λ_ => bu⟩, ⟨(λv x y hg h => h.later hg), λ_ => bu⟩, ⟨(λv x y hg h => h.later hg), λ_ => bu⟩, ⟨(λv x y hg h => h.later hg), λ_ => bu⟩, ⟨(λv x y hg h => h.later hg), λ_ => bu⟩, ⟨(λv x y hg h => h.later hg), λ_ => bu⟩, ⟨(λv x y hg h => h.later hg), λ_ => bu⟩, ⟨(λv x y hg h => h.later hg), λ_ => bu⟩, ⟨(λv x y hg h => h.later hg), λ_ => bu⟩, ⟨(λv x y hg h => h.later hg), λ_ => bu⟩, ⟨(λv x y hg h => h.later hg), λ_ => bu⟩, ⟨(λv x y hg h => h.later hg), λ_ => bu⟩, ⟨(λv x y hg h => h.later hg), λ_ => bu⟩, trivial⟩ (dJ rfl) ?steps ?done
  case steps =>
    refine⟨?s0, ?s1, ?s2, ?s3, ?s4, ?s5, ?s6, ?s7, ?s8, ?s9, ?s10, ?s11, ?s12, ?s13, ?s14, ?s15, trivial⟩
    case s0 =>
      refine gp (λvs x hG hP => ?_)
      have hZ := bC hG HZ.out
      have HC := Lib.hid (tY sA x (by decide))
      try simp only[ae.val]at HC
      simp only[zS]
      go_simp
      refine(HC.out).mono ?_
      rintro e y ⟨n, rfl, hn, ht, hg⟩
      exact⟨_, rfl, hg, n, rfl, hn.from hZ, ht⟩
    case s1 =>
      refine gp (λvs x hG hP => ?_)
      have hZ := bC hG HZ.out
      have HC := Lib.hid (mr 0 x ⟨by decide, by decide⟩)
      try simp only[ae.val]at HC
      simp only[zS]
      go_simp
      refine(HC.out).mono ?_
      rintro e y ⟨n, rfl, hn, ht, hg⟩
      exact⟨_, rfl, hg, n, rfl, hn.from hZ, ht⟩
    case s2 =>
      refine gp (λvs x hG hP => ?_)
      have hZ := bC hG HZ.out
      have HC := Lib.hid (tY sA x (by decide))
      try simp only[ae.val]at HC
      simp only[zS]
      go_simp
      refine(HC.out).mono ?_
      rintro e y ⟨n, rfl, hn, ht, hg⟩
      exact⟨_, rfl, hg, n, rfl, hn.from hZ, ht⟩
    case s3 =>
      refine gp (λvs x hG hP => ?_)
      have hZ := bC hG HZ.out
      have HC := Lib.hid (Ar sN x (by decide))
      try simp only[ae.val]at HC
      simp only[zS]
      go_simp
      refine(HC.out).mono ?_
      rintro e y ⟨n, rfl, hn, ht, hg⟩
      exact⟨_, rfl, hg, n, rfl, hn.from hZ, ht⟩
    case s4 =>
      refine gp (λvs x hG hP => ?_)
      have p2 := pq hP 2
      obtain⟨⟨k2, m2, s2, v2, l2⟩, h2, o2, t2⟩ := p2
      obtain⟨a2, c2, rfl, -, -⟩ := o2.at.form
      simp only[ae.val]at h2
      have p3 := pq hP 3
      obtain⟨⟨k3, m3, s3, v3, l3⟩, h3, o3, t3⟩ := p3
      obtain⟨a3, c3, rfl, -, -⟩ := o3.at.form
      simp only[ae.val]at h3
      have hZ := bC hG HZ.out
      have HC := Lib.hid (wC B (.mk k2 m2 s2 (.slice a2 l2.length c2) l2) (.mk k3 m3 s3 (.slice a3 l3.length c3) l3) x hZ o2 o3)
      try simp only[ae.val]at HC
      simp only[zS, h2, h3]
      go_simp
      refine(HC.out).mono ?_
      rintro e y ⟨n, rfl, hn, ht, hg⟩
      exact⟨_, rfl, hg, n, rfl, hn, by rw[ht, t2, t3]; rfl⟩
    case s5 =>
      refine gp (λvs x hG hP => ?_)
      have hZ := bC hG HZ.out
      have HC := Lib.hid (tY sA x (by decide))
      try simp only[ae.val]at HC
      simp only[zS]
      go_simp
      refine(HC.out).mono ?_
      rintro e y ⟨n, rfl, hn, ht, hg⟩
      exact⟨_, rfl, hg, n, rfl, hn.from hZ, ht⟩
    case s6 =>
      refine gp (λvs x hG hP => ?_)
      have hZ := bC hG HZ.out
      have HC := Lib.hid (mr 0 x ⟨by decide, by decide⟩)
      try simp only[ae.val]at HC
      simp only[zS]
      go_simp
      refine(HC.out).mono ?_
      rintro e y ⟨n, rfl, hn, ht, hg⟩
      exact⟨_, rfl, hg, n, rfl, hn.from hZ, ht⟩
    case s7 =>
      refine gp (λvs x hG hP => ?_)
      have p5 := pq hP 5
      obtain⟨⟨k5, m5, s5, v5, l5⟩, h5, o5, t5⟩ := p5
      obtain⟨a5, c5, rfl, -, -⟩ := o5.at.form
      simp only[ae.val]at h5
      have p6 := pq hP 6
      obtain⟨⟨k6, m6, s6, v6, l6⟩, h6, o6, t6⟩ := p6
      obtain⟨a6, c6, rfl, -, -⟩ := o6.at.form
      simp only[ae.val]at h6
      have hZ := bC hG HZ.out
      have HC := Lib.hid (wC B (.mk k5 m5 s5 (.slice a5 l5.length c5) l5) (.mk k6 m6 s6 (.slice a6 l6.length c6) l6) x hZ o5 o6)
      try simp only[ae.val]at HC
      simp only[zS, h5, h6]
      go_simp
      refine(HC.out).mono ?_
      rintro e y ⟨n, rfl, hn, ht, hg⟩
      exact⟨_, rfl, hg, n, rfl, hn, by rw[ht, t5, t6]; rfl⟩
    case s8 =>
      refine gp (λvs x hG hP => ?_)
      have hZ := bC hG HZ.out
      have HC := Lib.hid (Hq sA sG x (by decide) (by decide))
      try simp only[ae.val]at HC
      simp only[zS]
      go_simp
      refine(HC.out).mono ?_
      rintro e y ⟨n, rfl, hn, ht, hg⟩
      exact⟨_, rfl, hg, n, rfl, hn.from hZ, ht⟩
    case s9 =>
      refine gp (λvs x hG hP => ?_)
      have p8 := pq hP 8
      obtain⟨⟨k8, m8, s8, v8, l8⟩, h8, o8, t8⟩ := p8
      obtain⟨a8, c8, rfl, -, -⟩ := o8.at.form
      simp only[ae.val]at h8
      have hZ := bC hG HZ.out
      simp only[zS, h8]
      go_simp
      exact gl ⟨_, [.mk k8 m8 s8 (.slice a8 l8.length c8) l8], rfl, iA ⟨by decide, by decide⟩ ⟨by decide, by decide⟩ (by decide) (heap_alloc_new x _) hZ rfl (by decide) (λy hy => by rw[List.mem_singleton.1 hy]; exact o8.later ((Mv.refl _ _).alloc _)), by simp[ae.ts, t8]⟩
    case s10 =>
      refine gp (λvs x hG hP => ?_)
      have p4 := pq hP 4
      obtain⟨⟨k4, m4, s4, v4, l4⟩, h4, o4, t4⟩ := p4
      obtain⟨a4, c4, rfl, -, -⟩ := o4.at.form
      simp only[ae.val]at h4
      have p7 := pq hP 7
      obtain⟨⟨k7, m7, s7, v7, l7⟩, h7, o7, t7⟩ := p7
      obtain⟨a7, c7, rfl, -, -⟩ := o7.at.form
      simp only[ae.val]at h7
      have p9 := pq hP 9
      obtain⟨g9, q9, h9, o9, t9⟩ := p9
      have hZ := bC hG HZ.out
      have HC := Lib.hid (Dr B (.mk k4 m4 s4 (.slice a4 l4.length c4) l4) (.mk k7 m7 s7 (.slice a7 l7.length c7) l7) _ _ x hZ o4 o7 o9)
      try simp only[ae.val]at HC
      simp only[zS, h4, h7, h9]
      go_simp
      refine(HC.out).mono ?_
      rintro e y ⟨n, rfl, hn, ht, hg⟩
      exact⟨_, rfl, hg, n, rfl, hn, by rw[ht, t4, t7, t9]; rfl⟩
    case s11 =>
      refine gp (λvs x hG hP => ?_)
      have hZ := bC hG HZ.out
      have HC := Lib.hid (AO sN sG x (by decide) (by decide))
      try simp only[ae.val]at HC
      simp only[zS]
      go_simp
      refine(HC.out).mono ?_
      rintro e y ⟨n, rfl, hn, ht, hg⟩
      exact⟨_, rfl, hg, n, rfl, hn.from hZ, ht⟩
    case s12 =>
      refine gp (λvs x hG hP => ?_)
      have nH := pq hP 10
      obtain⟨⟨k10, m10, s10, v10, l10⟩, h10, qD, t10⟩ := nH
      obtain⟨uV, c10, rfl, -, -⟩ := qD.at.form
      simp only[ae.val]at h10
      have uW := pq hP 11
      obtain⟨⟨k11, m11, s11, v11, zG⟩, h11, sK, t11⟩ := uW
      obtain⟨BZ, c11, rfl, -, -⟩ := sK.at.form
      simp only[ae.val]at h11
      have hZ := bC hG HZ.out
      simp only[zS, h10, h11]
      go_simp
      exact gl ⟨_, [.mk k10 m10 s10 (.slice uV l10.length c10) l10, .mk k11 m11 s11 (.slice BZ zG.length c11) zG], rfl, iA ⟨by decide, by decide⟩ ⟨by decide, by decide⟩ (by decide) (heap_alloc_new x _) hZ rfl (by decide) (λy hy => by simp only[List.mem_cons, List.mem_nil_iff, or_false]at hy; rcases hy with rfl|rfl <;> first|exact qD.later ((Mv.refl _ _).alloc _)|exact sK.later ((Mv.refl _ _).alloc _)), by simp[ae.ts, t10, t11]⟩
    case s13 =>
      refine gp (λvs x hG hP => ?_)
      have p0 := pq hP 0
      obtain⟨⟨k0, m0, s0, v0, l0⟩, h0, o0, t0⟩ := p0
      obtain⟨a0, c0, rfl, -, -⟩ := o0.at.form
      simp only[ae.val]at h0
      have p1 := pq hP 1
      obtain⟨⟨k1, m1, s1, v1, l1⟩, h1, o1, t1⟩ := p1
      obtain⟨a1, c1, rfl, -, -⟩ := o1.at.form
      simp only[ae.val]at h1
      have zH := pq hP 12
      obtain⟨g12, Mt, h12, Ca, t12⟩ := zH
      have hZ := bC hG HZ.out
      have HC := Lib.hid (Ay B sN (.mk k0 m0 s0 (.slice a0 l0.length c0) l0) (.mk k1 m1 s1 (.slice a1 l1.length c1) l1) _ _ x (by decide) hZ o0 o1 Ca)
      try simp only[ae.val]at HC
      simp only[zS, h0, h1, h12]
      go_simp
      refine(HC.out).mono ?_
      rintro e y ⟨n, rfl, hn, ht, hg⟩
      exact⟨_, rfl, hg, n, rfl, hn, by rw[ht, t0, t1, t12]; rfl⟩
    case s14 =>
      refine gp (λvs x hG hP => ?_)
      have Fb := pq hP 13
      obtain⟨⟨k13, m13, s13, v13, uX⟩, zI, zJ, t13⟩ := Fb
      obtain⟨zK, c13, rfl, -, -⟩ := zJ.at.form
      simp only[ae.val]at zI
      have hZ := bC hG HZ.out
      simp only[zS, zI]
      go_simp
      exact gl ⟨_, [.mk k13 m13 s13 (.slice zK uX.length c13) uX], rfl, iA ⟨by decide, by decide⟩ ⟨by decide, by decide⟩ (by decide) (heap_alloc_new x _) hZ rfl (by decide) (λy hy => by rw[List.mem_singleton.1 hy]; exact zJ.later ((Mv.refl _ _).alloc _)), by simp[ae.ts, t13]⟩
    case s15 =>
      refine gp (λvs x hG hP => ?_)
      have Fe := pq hP 14
      obtain⟨g14, Vj, Cb, Cc, t14⟩ := Fe
      have hZ := bC hG HZ.out
      have HC := Lib.hid (wD (some ⟨g14, 0, none⟩) 1 1 x)
      try simp only[ae.val]at HC
      simp only[zS, Cb]
      go_simp
      refine(HC.out).mono ?_
      rintro e y ⟨rfl, hg⟩
      exact⟨_, rfl, hg, .mk 57 0 ⟨#[]⟩ (.slice (some ⟨g14, 0, none⟩) 1 1) Vj, rfl, Cc.later hg, by rw[ae.t, t14]; rfl⟩
  case done =>
  intro vs wx hE
  have hG := hE.wS
  have Ff := hE.val 15
  obtain⟨⟨k15, m15, s15, v15, uY⟩, uZ, xE, t15⟩ := Ff
  obtain⟨zL, c15, rfl, -, -⟩ := xE.at.form
  simp only[ae.val]at uZ
  have aT := Lib.hid hG
  have Fg := Lib.hid t15
  have Fh := Lib.hid xE
  clear hE hG t15 xE
  simp only[zS, Nat.reduceAdd, uZ, List.drop_succ_cons, List.drop_zero]
  have gF := Lib.hid (dW (ai HB1.out aT.out) (.int .u8 k15) (.int .i64 m15) (.string s15) (.slice zL uY.length c15))
  obtain⟨⟨n0, n1⟩, n2, n3⟩ := aJ (ai HB1.out aT.out)
  have hbl := lt_of_block (ai HB1.out aT.out)
  have zt := bD (ai HB1.out aT.out)
  go_wp2_with fail
  obtain⟨⟨t0, t1⟩, t2, t3⟩ := aJ gF.out.1
  exact bodyPost_ret (v := .agg #[.int .u8 k15, .int .i64 m15, .string s15, .slice zL uY.length c15]) (by simp[results, Tryz.results27, go_sem, t0, t1, t2, t3]) rfl ⟨.mk k15 m15 s15 (.slice zL uY.length c15) uY, rfl, Fh.out.fill gF.out.2 (by omega), Fg.out, bN (gtr aj.out aT.out) gF.out.2 (λb e => by omega)⟩
set_option maxRecDepth 100000 in
set_option maxHeartbeats 12800000 in
theorem Pf (w : World) : Calls Tryz.prog 26 #[] w (rM w yQ) := by
  have HB1 := Lib.hid (heap_alloc_new w (.cells #[.int .u8 0, .int .i64 0, .string ⟨#[]⟩, .slice none 0 0] 40))
  have aj := Lib.hid (show Grow w (w.alloc (.cells #[.int .u8 0, .int .i64 0, .string ⟨#[]⟩, .slice none 0 0] 40))from(Mv.refl _ _).alloc _)
  have HZ := Lib.hid (show w.heap.size + 1 <= (w.alloc (.cells #[.int .u8 0, .int .i64 0, .string ⟨#[]⟩, .slice none 0 0] 40)).heap.size from by simp)
  obtain⟨B, hB⟩ : ∃ B, B = w.heap.size + 1 := ⟨_, rfl⟩
  rw[← hB]at HZ
  have hB1 : w.heap.size < B := by omega
  clear hB
  go_enter Tryz.func26, Tryz.ntmps26
  go_upto_region 1 with fail
  generalize (w.alloc (.cells #[.int .u8 0, .int .i64 0, .string ⟨#[]⟩, .slice none 0 0] 40)) = w1 at *
  have Mw := Lib.hid (Mv.refl (λ_ => False) w1)
  have HC := Lib.hid (Ar sX w1 (by decide))
  try simp only[ae.val]at HC
  go_wp2_with fail
  refine HC.out.mono ?_
  clear HC
  rintro e y1 ⟨⟨kP, mP, sP, vP, lP⟩, rfl, o, t, hg⟩
  obtain⟨aP, cP, rfl, -, -⟩ := o.at.form
  simp only[ae.val]
  have gq := Lib.hid (o.from (bC Mw.out HZ.out))
  have Vk := Lib.hid t
  have J3 := Lib.hid (gtr Mw.out hg)
  clear o t hg
  have HC := Lib.hid (mr 0 y1 ⟨by decide, by decide⟩)
  try simp only[ae.val]at HC
  go_wp2_with fail
  refine HC.out.mono ?_
  clear HC
  rintro e y2 ⟨⟨kQ, mQ, sQ, vQ, lQ⟩, rfl, o, t, hg⟩
  obtain⟨aQ, cQ, rfl, -, -⟩ := o.at.form
  simp only[ae.val]
  have zM := Lib.hid (o.from (bC J3.out HZ.out))
  have Vl := Lib.hid t
  have J4 := Lib.hid (gtr J3.out hg)
  have gq := Lib.hid (gq.out.later hg)
  clear o t hg
  have HC := Lib.hid (AO sY sB y2 (by decide) (by decide))
  try simp only[ae.val]at HC
  go_wp2_with fail
  refine HC.out.mono ?_
  clear HC
  rintro e y3 ⟨⟨kR, mR, sR, vR, lR⟩, rfl, o, t, hg⟩
  obtain⟨aR, cR, rfl, -, -⟩ := o.at.form
  simp only[ae.val]
  have Mx := Lib.hid (o.from (bC J4.out HZ.out))
  have Vm := Lib.hid t
  have J5 := Lib.hid (gtr J4.out hg)
  have gq := Lib.hid (gq.out.later hg)
  have zM := Lib.hid (zM.out.later hg)
  clear o t hg
  have hgr : Grow y3 (y3.alloc (.cells #[.int .u8 kR, .int .i64 mR, .string sR, .slice aR lR.length cR] 40)) := (Mv.refl _ _).alloc _
  have HOW := Lib.hid (iA (k := 57) (n := 0) (s := ⟨#[]⟩) (P := λb => B <= b) (l := [.mk kR mR sR (.slice aR lR.length cR) lR]) (m := 1) ⟨by decide, by decide⟩ ⟨by decide, by decide⟩ (by decide) (heap_alloc_new y3 _) (bC J5.out HZ.out) rfl (by decide) (λy hy => by rw[List.mem_singleton.1 hy]; exact Mx.out.later hgr))
  have gq := Lib.hid (gq.out.later hgr)
  have zM := Lib.hid (zM.out.later hgr)
  have J6 := Lib.hid (gtr J5.out hgr)
  clear hgr Mx
  have HC := Lib.hid (Ay B sY (.mk kP mP sP (.slice aP lP.length cP) lP) (.mk kQ mQ sQ (.slice aQ lQ.length cQ) lQ) _ _ (y3.alloc (.cells #[.int .u8 kR, .int .i64 mR, .string sR, .slice aR lR.length cR] 40)) (by decide) (bC J6.out HZ.out) gq.out zM.out HOW.out)
  try simp only[ae.val]at HC
  go_wp2_with fail
  refine HC.out.mono ?_
  clear HC
  rintro e w2 ⟨⟨kD, mD, sD, vD, lD⟩, rfl, o, t, hg⟩
  obtain⟨aD, cD, rfl, -, -⟩ := o.at.form
  simp only[ae.val]
  have MB := Lib.hid (o)
  have Fj := Lib.hid t
  have Uf := Lib.hid (gtr J6.out hg)
  clear o t hg
  have Fj := Lib.hid (show ae.t (.mk kD mD sD (.slice aD lD.length cD) lD) = dh sY (bS sX) [psT sY sB] (aC 0)from by rw[Fj.out, Vk.out, Vl.out]; simp only[ae.ts, Vm.out]; rfl)
  have HG2 := Lib.hid Uf.out
  have pg := Lib.hid (heap_alloc_new w2 (.cells #[.int .u8 kD, .int .i64 mD, .string sD, .slice aD lD.length cD] 40))
  have Fp := Lib.hid (show Grow w2 (w2.alloc (.cells #[.int .u8 kD, .int .i64 mD, .string sD, .slice aD lD.length cD] 40))from(Mv.refl _ _).alloc _)
  go_upto_region 2 with fail
  have Ug := Lib.hid (MB.out.later Fp.out)
  have aA := Lib.hid (gtr HG2.out Fp.out)
  have HZ := Lib.hid (bC aA.out HZ.out)
  clear HG2 Fp MB
  generalize (w2.alloc (.cells #[.int .u8 kD, .int .i64 mD, .string sD, .slice aD lD.length cD] 40)) = w3 at *
  have HK := Lib.hid (λ(y : World) (hy : Grow w3 y) => And.intro (ai pg.out hy) (Ug.out.later hy))
  refine jm 30 37 [some 7, some 8, some 9, some 10, some 11, some 12, some 13, some 14, some 15, some 16, some 17, some 18, some 19, some 20, some 21, some 22, some 23, some 24, some 25, some 26, some 27, some 28, some 29, some 30, some 31, some 32, some 33, some 34, some 35, some 36] [[], [], [0, 1], [], [], [3, 4], [], [6], [2, 5, 7], [], [], [9, 10], [], [], [12, 13], [], [], [], [], [], [17, 18, 19], [15, 16, 20], [21], [11, 14, 22], [8, 23], [24], [25], [26], [27], [28]] [] [.p (bV B (aL sT)), .p (bV B (aC 0)), .p (bV B (aW (aL sT) (aC 0))), .p (bV B (aL sA)), .p (bV B (aC 0)), .p (bV B (aW (aL sA) (aC 0))), .p (bV B (dz sA sT)), .p (lT B 1 [dz sA sT]), .p (bV B (bT (aW (aL sT) (aC 0)) (aW (aL sA) (aC 0)) [dz sA sT])), .p (bV B (aL sA)), .p (bV B (aC 0)), .p (bV B (aW (aL sA) (aC 0))), .p (bV B (aL sT)), .p (bV B (aC 0)), .p (bV B (aW (aL sT) (aC 0))), .p (bV B (aC 0)), .p (bV B (aC 0)), .p (bV B (eQ sX sT)), .c (.agg #[.int .u8 kD, .int .i64 mD, .string sD, .slice aD lD.length cD]), .p (bV B (psT sX sA)), .p (lT B 3 [eQ sX sT, dh sY (bS sX) [psT sY sB] (aC 0), psT sX sA]), .p (bV B (dh sX (aC 0) [eQ sX sT, dh sY (bS sX) [psT sY sB] (aC 0), psT sX sA] (aC 0))), .p (lT B 1 [dh sX (aC 0) [eQ sX sT, dh sY (bS sX) [psT sY sB] (aC 0), psT sX sA] (aC 0)]), .p (bV B (bT (aW (aL sA) (aC 0)) (aW (aL sT) (aC 0)) [dh sX (aC 0) [eQ sX sT, dh sY (bS sX) [psT sY sB] (aC 0), psT sX sA] (aC 0)])), .p (lT B 2 [bT (aW (aL sT) (aC 0)) (aW (aL sA) (aC 0)) [dz sA sT], bT (aW (aL sA) (aC 0)) (aW (aL sT) (aC 0)) [dh sX (aC 0) [eQ sX sT, dh sY (bS sX) [psT sY sB] (aC 0), psT sX sA] (aC 0)]]), .p (bV B (jD [bT (aW (aL sT) (aC 0)) (aW (aL sA) (aC 0)) [dz sA sT], bT (aW (aL sA) (aC 0)) (aW (aL sT) (aC 0)) [dh sX (aC 0) [eQ sX sT, dh sY (bS sX) [psT sY sB] (aC 0), psT sX sA] (aC 0)]])), .p (lT B 1 [jD [bT (aW (aL sT) (aC 0)) (aW (aL sA) (aC 0)) [dz sA sT], bT (aW (aL sA) (aC 0)) (aW (aL sT) (aC 0)) [dh sX (aC 0) [eQ sX sT, dh sY (bS sX) [psT sY sB] (aC 0), psT sX sA] (aC 0)]]]), .p (bV B (Tree.mk 55 0 sT [jD [bT (aW (aL sT) (aC 0)) (aW (aL sA) (aC 0)) [dz sA sT], bT (aW (aL sA) (aC 0)) (aW (aL sT) (aC 0)) [dh sX (aC 0) [eQ sX sT, dh sY (bS sX) [psT sY sB] (aC 0), psT sX sA] (aC 0)]]])), .p (lT B 1 [Tree.mk 55 0 sT [jD [bT (aW (aL sT) (aC 0)) (aW (aL sA) (aC 0)) [dz sA sT], bT (aW (aL sA) (aC 0)) (aW (aL sT) (aC 0)) [dh sX (aC 0) [eQ sX sT, dh sY (bS sX) [psT sY sB] (aC 0), psT sX sA] (aC 0)]]]]), .p (bV B (jD [Tree.mk 55 0 sT [jD [bT (aW (aL sT) (aC 0)) (aW (aL sA) (aC 0)) [dz sA sT], bT (aW (aL sA) (aC 0)) (aW (aL sT) (aC 0)) [dh sX (aC 0) [eQ sX sT, dh sY (bS sX) [psT sY sB] (aC 0), psT sX sA] (aC 0)]]]]))] ⟨⟨(λv x y hg h => h.later hg), λ_ => bu⟩, ⟨(λv x y hg h => h.later hg), λ_ => bu⟩, ⟨(λv x y hg h => h.later hg), λ_ => bu⟩, ⟨(λv x y hg h => h.later hg), λ_ => bu⟩, ⟨(λv x y hg h => h.later hg), λ_ => bu⟩, ⟨(λv x y hg h => h.later hg), λ_ => bu⟩, ⟨(λv x y hg h => h.later hg), λ_ => bu⟩, ⟨(λv x y hg h => h.later hg), λ_ => bu⟩, ⟨(λv x y hg h => h.later hg), λ_ => bu⟩, ⟨(λv x y hg h => h.later hg), λ_ => bu⟩, ⟨(λv x y hg h => h.later hg), λ_ => bu⟩, ⟨(λv x y hg h => h.later hg), λ_ => bu⟩, ⟨(λv x y hg h => h.later hg), λ_ => bu⟩, ⟨(λv x y hg h => h.later hg), λ_ => bu⟩, ⟨(λv x y hg h => h.later hg), λ_ => bu⟩, ⟨(λv x y hg h => h.later hg), λ_ => bu⟩, ⟨(λv x y hg h => h.later hg), λ_ => bu⟩, ⟨(λv x y hg h => h.later hg), λ_ => bu⟩, ⟨(λv x y hg h => h.later hg), λ_ => bu⟩, ⟨(λv x y hg h => h.later hg), λ_ => bu⟩, ⟨(λv x y hg h => h.later hg), λ_ => bu⟩, ⟨(λv x y hg h => h.later hg), λ_ => bu⟩, ⟨(λv x y hg h => h.later hg), λ_ => bu⟩, ⟨(λv x y hg h => h.later hg), λ_ => bu⟩, ⟨(λv x y hg h => h.later hg), λ_ => bu⟩, ⟨(λv x y hg h => h.later hg), λ_ => bu⟩, ⟨(λv x y hg h => h.later hg), λ_ => bu⟩, ⟨(λv x y hg h => h.later hg), λ_ => bu⟩, ⟨(λv x y hg h => h.later hg), λ_ => bu⟩, trivial⟩ (dJ rfl) ?steps ?done
  case steps =>
    refine⟨?s0, ?s1, ?s2, ?s3, ?s4, ?s5, ?s6, ?s7, ?s8, ?s9, ?s10, ?s11, ?s12, ?s13, ?s14, ?s15, ?s16, ?s17, ?s18, ?s19, ?s20, ?s21, ?s22, ?s23, ?s24, ?s25, ?s26, ?s27, ?s28, ?s29, trivial⟩
    case s0 =>
      refine ok HK (λvs x hG HX hP => ?_)
      have hZ := bC hG HZ.out
      have HC := Lib.hid (tY sT x (by decide))
      try simp only[ae.val]at HC
      simp only[zS]
      go_simp
      refine(HC.out).mono ?_
      rintro e y ⟨n, rfl, hn, ht, hg⟩
      exact⟨_, rfl, hg, n, rfl, hn.from hZ, ht⟩
    case s1 =>
      refine ok HK (λvs x hG HX hP => ?_)
      have hZ := bC hG HZ.out
      have HC := Lib.hid (mr 0 x ⟨by decide, by decide⟩)
      try simp only[ae.val]at HC
      simp only[zS]
      go_simp
      refine(HC.out).mono ?_
      rintro e y ⟨n, rfl, hn, ht, hg⟩
      exact⟨_, rfl, hg, n, rfl, hn.from hZ, ht⟩
    case s2 =>
      refine ok HK (λvs x hG HX hP => ?_)
      have p0 := pq hP 0
      obtain⟨⟨k0, m0, s0, v0, l0⟩, h0, o0, t0⟩ := p0
      obtain⟨a0, c0, rfl, -, -⟩ := o0.at.form
      simp only[ae.val]at h0
      have p1 := pq hP 1
      obtain⟨⟨k1, m1, s1, v1, l1⟩, h1, o1, t1⟩ := p1
      obtain⟨a1, c1, rfl, -, -⟩ := o1.at.form
      simp only[ae.val]at h1
      have hZ := bC hG HZ.out
      have HC := Lib.hid (wC B (.mk k0 m0 s0 (.slice a0 l0.length c0) l0) (.mk k1 m1 s1 (.slice a1 l1.length c1) l1) x hZ o0 o1)
      try simp only[ae.val]at HC
      simp only[zS, h0, h1]
      go_simp
      refine(HC.out).mono ?_
      rintro e y ⟨n, rfl, hn, ht, hg⟩
      exact⟨_, rfl, hg, n, rfl, hn, by rw[ht, t0, t1]; rfl⟩
    case s3 =>
      refine ok HK (λvs x hG HX hP => ?_)
      have hZ := bC hG HZ.out
      have HC := Lib.hid (tY sA x (by decide))
      try simp only[ae.val]at HC
      simp only[zS]
      go_simp
      refine(HC.out).mono ?_
      rintro e y ⟨n, rfl, hn, ht, hg⟩
      exact⟨_, rfl, hg, n, rfl, hn.from hZ, ht⟩
    case s4 =>
      refine ok HK (λvs x hG HX hP => ?_)
      have hZ := bC hG HZ.out
      have HC := Lib.hid (mr 0 x ⟨by decide, by decide⟩)
      try simp only[ae.val]at HC
      simp only[zS]
      go_simp
      refine(HC.out).mono ?_
      rintro e y ⟨n, rfl, hn, ht, hg⟩
      exact⟨_, rfl, hg, n, rfl, hn.from hZ, ht⟩
    case s5 =>
      refine ok HK (λvs x hG HX hP => ?_)
      have p3 := pq hP 3
      obtain⟨⟨k3, m3, s3, v3, l3⟩, h3, o3, t3⟩ := p3
      obtain⟨a3, c3, rfl, -, -⟩ := o3.at.form
      simp only[ae.val]at h3
      have p4 := pq hP 4
      obtain⟨⟨k4, m4, s4, v4, l4⟩, h4, o4, t4⟩ := p4
      obtain⟨a4, c4, rfl, -, -⟩ := o4.at.form
      simp only[ae.val]at h4
      have hZ := bC hG HZ.out
      have HC := Lib.hid (wC B (.mk k3 m3 s3 (.slice a3 l3.length c3) l3) (.mk k4 m4 s4 (.slice a4 l4.length c4) l4) x hZ o3 o4)
      try simp only[ae.val]at HC
      simp only[zS, h3, h4]
      go_simp
      refine(HC.out).mono ?_
      rintro e y ⟨n, rfl, hn, ht, hg⟩
      exact⟨_, rfl, hg, n, rfl, hn, by rw[ht, t3, t4]; rfl⟩
    case s6 =>
      refine ok HK (λvs x hG HX hP => ?_)
      have hZ := bC hG HZ.out
      have HC := Lib.hid (Hq sA sT x (by decide) (by decide))
      try simp only[ae.val]at HC
      simp only[zS]
      go_simp
      refine(HC.out).mono ?_
      rintro e y ⟨n, rfl, hn, ht, hg⟩
      exact⟨_, rfl, hg, n, rfl, hn.from hZ, ht⟩
    case s7 =>
      refine ok HK (λvs x hG HX hP => ?_)
      have p6 := pq hP 6
      obtain⟨⟨k6, m6, s6, v6, l6⟩, h6, o6, t6⟩ := p6
      obtain⟨a6, c6, rfl, -, -⟩ := o6.at.form
      simp only[ae.val]at h6
      have hZ := bC hG HZ.out
      simp only[zS, h6]
      go_simp
      exact gl ⟨_, [.mk k6 m6 s6 (.slice a6 l6.length c6) l6], rfl, iA ⟨by decide, by decide⟩ ⟨by decide, by decide⟩ (by decide) (heap_alloc_new x _) hZ rfl (by decide) (λy hy => by rw[List.mem_singleton.1 hy]; exact o6.later ((Mv.refl _ _).alloc _)), by simp[ae.ts, t6]⟩
    case s8 =>
      refine ok HK (λvs x hG HX hP => ?_)
      have p2 := pq hP 2
      obtain⟨⟨k2, m2, s2, v2, l2⟩, h2, o2, t2⟩ := p2
      obtain⟨a2, c2, rfl, -, -⟩ := o2.at.form
      simp only[ae.val]at h2
      have p5 := pq hP 5
      obtain⟨⟨k5, m5, s5, v5, l5⟩, h5, o5, t5⟩ := p5
      obtain⟨a5, c5, rfl, -, -⟩ := o5.at.form
      simp only[ae.val]at h5
      have p7 := pq hP 7
      obtain⟨g7, q7, h7, o7, t7⟩ := p7
      have hZ := bC hG HZ.out
      have HC := Lib.hid (Dr B (.mk k2 m2 s2 (.slice a2 l2.length c2) l2) (.mk k5 m5 s5 (.slice a5 l5.length c5) l5) _ _ x hZ o2 o5 o7)
      try simp only[ae.val]at HC
      simp only[zS, h2, h5, h7]
      go_simp
      refine(HC.out).mono ?_
      rintro e y ⟨n, rfl, hn, ht, hg⟩
      exact⟨_, rfl, hg, n, rfl, hn, by rw[ht, t2, t5, t7]; rfl⟩
    case s9 =>
      refine ok HK (λvs x hG HX hP => ?_)
      have hZ := bC hG HZ.out
      have HC := Lib.hid (tY sA x (by decide))
      try simp only[ae.val]at HC
      simp only[zS]
      go_simp
      refine(HC.out).mono ?_
      rintro e y ⟨n, rfl, hn, ht, hg⟩
      exact⟨_, rfl, hg, n, rfl, hn.from hZ, ht⟩
    case s10 =>
      refine ok HK (λvs x hG HX hP => ?_)
      have hZ := bC hG HZ.out
      have HC := Lib.hid (mr 0 x ⟨by decide, by decide⟩)
      try simp only[ae.val]at HC
      simp only[zS]
      go_simp
      refine(HC.out).mono ?_
      rintro e y ⟨n, rfl, hn, ht, hg⟩
      exact⟨_, rfl, hg, n, rfl, hn.from hZ, ht⟩
    case s11 =>
      refine ok HK (λvs x hG HX hP => ?_)
      have p9 := pq hP 9
      obtain⟨⟨k9, m9, s9, v9, l9⟩, h9, o9, t9⟩ := p9
      obtain⟨a9, c9, rfl, -, -⟩ := o9.at.form
      simp only[ae.val]at h9
      have nH := pq hP 10
      obtain⟨⟨k10, m10, s10, v10, l10⟩, h10, qD, t10⟩ := nH
      obtain⟨uV, c10, rfl, -, -⟩ := qD.at.form
      simp only[ae.val]at h10
      have hZ := bC hG HZ.out
      have HC := Lib.hid (wC B (.mk k9 m9 s9 (.slice a9 l9.length c9) l9) (.mk k10 m10 s10 (.slice uV l10.length c10) l10) x hZ o9 qD)
      try simp only[ae.val]at HC
      simp only[zS, h9, h10]
      go_simp
      refine(HC.out).mono ?_
      rintro e y ⟨n, rfl, hn, ht, hg⟩
      exact⟨_, rfl, hg, n, rfl, hn, by rw[ht, t9, t10]; rfl⟩
    case s12 =>
      refine ok HK (λvs x hG HX hP => ?_)
      have hZ := bC hG HZ.out
      have HC := Lib.hid (tY sT x (by decide))
      try simp only[ae.val]at HC
      simp only[zS]
      go_simp
      refine(HC.out).mono ?_
      rintro e y ⟨n, rfl, hn, ht, hg⟩
      exact⟨_, rfl, hg, n, rfl, hn.from hZ, ht⟩
    case s13 =>
      refine ok HK (λvs x hG HX hP => ?_)
      have hZ := bC hG HZ.out
      have HC := Lib.hid (mr 0 x ⟨by decide, by decide⟩)
      try simp only[ae.val]at HC
      simp only[zS]
      go_simp
      refine(HC.out).mono ?_
      rintro e y ⟨n, rfl, hn, ht, hg⟩
      exact⟨_, rfl, hg, n, rfl, hn.from hZ, ht⟩
    case s14 =>
      refine ok HK (λvs x hG HX hP => ?_)
      have zH := pq hP 12
      obtain⟨⟨k12, m12, s12, v12, qE⟩, h12, Ca, t12⟩ := zH
      obtain⟨a12, c12, rfl, -, -⟩ := Ca.at.form
      simp only[ae.val]at h12
      have Fb := pq hP 13
      obtain⟨⟨k13, m13, s13, v13, uX⟩, zI, zJ, t13⟩ := Fb
      obtain⟨zK, c13, rfl, -, -⟩ := zJ.at.form
      simp only[ae.val]at zI
      have hZ := bC hG HZ.out
      have HC := Lib.hid (wC B (.mk k12 m12 s12 (.slice a12 qE.length c12) qE) (.mk k13 m13 s13 (.slice zK uX.length c13) uX) x hZ Ca zJ)
      try simp only[ae.val]at HC
      simp only[zS, h12, zI]
      go_simp
      refine(HC.out).mono ?_
      rintro e y ⟨n, rfl, hn, ht, hg⟩
      exact⟨_, rfl, hg, n, rfl, hn, by rw[ht, t12, t13]; rfl⟩
    case s15 =>
      refine ok HK (λvs x hG HX hP => ?_)
      have hZ := bC hG HZ.out
      have HC := Lib.hid (mr 0 x ⟨by decide, by decide⟩)
      try simp only[ae.val]at HC
      simp only[zS]
      go_simp
      refine(HC.out).mono ?_
      rintro e y ⟨n, rfl, hn, ht, hg⟩
      exact⟨_, rfl, hg, n, rfl, hn.from hZ, ht⟩
    case s16 =>
      refine ok HK (λvs x hG HX hP => ?_)
      have hZ := bC hG HZ.out
      have HC := Lib.hid (mr 0 x ⟨by decide, by decide⟩)
      try simp only[ae.val]at HC
      simp only[zS]
      go_simp
      refine(HC.out).mono ?_
      rintro e y ⟨n, rfl, hn, ht, hg⟩
      exact⟨_, rfl, hg, n, rfl, hn.from hZ, ht⟩
    case s17 =>
      refine ok HK (λvs x hG HX hP => ?_)
      have hZ := bC hG HZ.out
      have HC := Lib.hid (IC sX sT x (by decide) (by decide))
      try simp only[ae.val]at HC
      simp only[zS]
      go_simp
      refine(HC.out).mono ?_
      rintro e y ⟨n, rfl, hn, ht, hg⟩
      exact⟨_, rfl, hg, n, rfl, hn.from hZ, ht⟩
    case s18 =>
      refine ok HK (λvs x hG HX hP => ?_)
      obtain⟨⟨n0, n1⟩, n2, n3⟩ := aJ HX.out.1
      simp only[zS]
      go_simp
      exact gc
    case s19 =>
      refine ok HK (λvs x hG HX hP => ?_)
      have hZ := bC hG HZ.out
      have HC := Lib.hid (AO sX sA x (by decide) (by decide))
      try simp only[ae.val]at HC
      simp only[zS]
      go_simp
      refine(HC.out).mono ?_
      rintro e y ⟨n, rfl, hn, ht, hg⟩
      exact⟨_, rfl, hg, n, rfl, hn.from hZ, ht⟩
    case s20 =>
      refine ok HK (λvs x hG HX hP => ?_)
      have Vn := pq hP 17
      obtain⟨⟨k17, m17, s17, v17, MC⟩, ME, MF, t17⟩ := Vn
      obtain⟨a17, c17, rfl, -, -⟩ := MF.at.form
      simp only[ae.val]at ME
      have Vo := pq hP 19
      obtain⟨⟨k19, m19, s19, v19, MG⟩, h19, MH, t19⟩ := Vo
      obtain⟨Vp, c19, rfl, -, -⟩ := MH.at.form
      simp only[ae.val]at h19
      have hZ := bC hG HZ.out
      have oD := HX.out.2
      simp only[zS, ME, h19]
      go_simp
      exact gl ⟨_, [.mk k17 m17 s17 (.slice a17 MC.length c17) MC, .mk kD mD sD (.slice aD lD.length cD) lD, .mk k19 m19 s19 (.slice Vp MG.length c19) MG], rfl, iA ⟨by decide, by decide⟩ ⟨by decide, by decide⟩ (by decide) (heap_alloc_new x _) hZ rfl (by decide) (λy hy => by simp only[List.mem_cons, List.mem_nil_iff, or_false]at hy; rcases hy with rfl|rfl|rfl <;> first|exact MF.later ((Mv.refl _ _).alloc _)|exact oD.later ((Mv.refl _ _).alloc _)|exact MH.later ((Mv.refl _ _).alloc _)), by simp[ae.ts, t17, Fj.out, t19]⟩
    case s21 =>
      refine ok HK (λvs x hG HX hP => ?_)
      have Ff := pq hP 15
      obtain⟨⟨k15, m15, s15, v15, uY⟩, uZ, xE, t15⟩ := Ff
      obtain⟨zL, c15, rfl, -, -⟩ := xE.at.form
      simp only[ae.val]at uZ
      have p16 := pq hP 16
      obtain⟨⟨k16, m16, s16, v16, MI⟩, h16, o16, t16⟩ := p16
      obtain⟨a16, c16, rfl, -, -⟩ := o16.at.form
      simp only[ae.val]at h16
      have Vq := pq hP 20
      obtain⟨g20, Yu, h20, Vr, t20⟩ := Vq
      have hZ := bC hG HZ.out
      have HC := Lib.hid (Ay B sX (.mk k15 m15 s15 (.slice zL uY.length c15) uY) (.mk k16 m16 s16 (.slice a16 MI.length c16) MI) _ _ x (by decide) hZ xE o16 Vr)
      try simp only[ae.val]at HC
      simp only[zS, uZ, h16, h20]
      go_simp
      refine(HC.out).mono ?_
      rintro e y ⟨n, rfl, hn, ht, hg⟩
      exact⟨_, rfl, hg, n, rfl, hn, by rw[ht, t15, t16, t20]; rfl⟩
    case s22 =>
      refine ok HK (λvs x hG HX hP => ?_)
      have Vt := pq hP 21
      obtain⟨⟨k21, m21, s21, v21, MJ⟩, h21, MK, t21⟩ := Vt
      obtain⟨a21, c21, rfl, -, -⟩ := MK.at.form
      simp only[ae.val]at h21
      have hZ := bC hG HZ.out
      simp only[zS, h21]
      go_simp
      exact gl ⟨_, [.mk k21 m21 s21 (.slice a21 MJ.length c21) MJ], rfl, iA ⟨by decide, by decide⟩ ⟨by decide, by decide⟩ (by decide) (heap_alloc_new x _) hZ rfl (by decide) (λy hy => by rw[List.mem_singleton.1 hy]; exact MK.later ((Mv.refl _ _).alloc _)), by simp[ae.ts, t21]⟩
    case s23 =>
      refine ok HK (λvs x hG HX hP => ?_)
      have uW := pq hP 11
      obtain⟨⟨k11, m11, s11, v11, zG⟩, h11, sK, t11⟩ := uW
      obtain⟨BZ, c11, rfl, -, -⟩ := sK.at.form
      simp only[ae.val]at h11
      have Fe := pq hP 14
      obtain⟨⟨k14, m14, s14, v14, ML⟩, Cb, Cc, t14⟩ := Fe
      obtain⟨Vu, c14, rfl, -, -⟩ := Cc.at.form
      simp only[ae.val]at Cb
      have Vv := pq hP 22
      obtain⟨g22, q22, h22, Vw, t22⟩ := Vv
      have hZ := bC hG HZ.out
      have HC := Lib.hid (Dr B (.mk k11 m11 s11 (.slice BZ zG.length c11) zG) (.mk k14 m14 s14 (.slice Vu ML.length c14) ML) _ _ x hZ sK Cc Vw)
      try simp only[ae.val]at HC
      simp only[zS, h11, Cb, h22]
      go_simp
      refine(HC.out).mono ?_
      rintro e y ⟨n, rfl, hn, ht, hg⟩
      exact⟨_, rfl, hg, n, rfl, hn, by rw[ht, t11, t14, t22]; rfl⟩
    case s24 =>
      refine ok HK (λvs x hG HX hP => ?_)
      have p8 := pq hP 8
      obtain⟨⟨k8, m8, s8, v8, l8⟩, h8, o8, t8⟩ := p8
      obtain⟨a8, c8, rfl, -, -⟩ := o8.at.form
      simp only[ae.val]at h8
      have Vx := pq hP 23
      obtain⟨⟨k23, m23, s23, v23, MM⟩, h23, MN, t23⟩ := Vx
      obtain⟨a23, c23, rfl, -, -⟩ := MN.at.form
      simp only[ae.val]at h23
      have hZ := bC hG HZ.out
      simp only[zS, h8, h23]
      go_simp
      exact gl ⟨_, [.mk k8 m8 s8 (.slice a8 l8.length c8) l8, .mk k23 m23 s23 (.slice a23 MM.length c23) MM], rfl, iA ⟨by decide, by decide⟩ ⟨by decide, by decide⟩ (by decide) (heap_alloc_new x _) hZ rfl (by decide) (λy hy => by simp only[List.mem_cons, List.mem_nil_iff, or_false]at hy; rcases hy with rfl|rfl <;> first|exact o8.later ((Mv.refl _ _).alloc _)|exact MN.later ((Mv.refl _ _).alloc _)), by simp[ae.ts, t8, t23]⟩
    case s25 =>
      refine ok HK (λvs x hG HX hP => ?_)
      have Vy := pq hP 24
      obtain⟨g24, q24, Vz, VA, t24⟩ := Vy
      have hZ := bC hG HZ.out
      have HC := Lib.hid (wD (some ⟨g24, 0, none⟩) 2 2 x)
      try simp only[ae.val]at HC
      simp only[zS, Vz]
      go_simp
      refine(HC.out).mono ?_
      rintro e y ⟨rfl, hg⟩
      exact⟨_, rfl, hg, .mk 57 0 ⟨#[]⟩ (.slice (some ⟨g24, 0, none⟩) 2 2) q24, rfl, VA.later hg, by rw[ae.t, t24]; rfl⟩
    case s26 =>
      refine ok HK (λvs x hG HX hP => ?_)
      have p25 := pq hP 25
      obtain⟨⟨k25, VB, s25, v25, MO⟩, MP, MQ, t25⟩ := p25
      obtain⟨a25, VC, rfl, -, -⟩ := MQ.at.form
      simp only[ae.val]at MP
      have hZ := bC hG HZ.out
      simp only[zS, MP]
      go_simp
      exact gl ⟨_, [.mk k25 VB s25 (.slice a25 MO.length VC) MO], rfl, iA ⟨by decide, by decide⟩ ⟨by decide, by decide⟩ (by decide) (heap_alloc_new x _) hZ rfl (by decide) (λy hy => by rw[List.mem_singleton.1 hy]; exact MQ.later ((Mv.refl _ _).alloc _)), by simp[ae.ts, t25]⟩
    case s27 =>
      refine ok HK (λvs x hG HX hP => ?_)
      have p26 := pq hP 26
      obtain⟨MR, VD, VE, VF, t26⟩ := p26
      have hZ := bC hG HZ.out
      have HC := Lib.hid (wH 55 sT (some ⟨MR, 0, none⟩) 1 1 x)
      try simp only[ae.val]at HC
      simp only[zS, VE]
      go_simp
      refine(HC.out).mono ?_
      rintro e y ⟨rfl, hg⟩
      exact⟨_, rfl, hg, .mk 55 0 sT (.slice (some ⟨MR, 0, none⟩) 1 1) VD, rfl, (VF.later hg).Td 55 sT ⟨by decide, by decide⟩ (by decide), by rw[ae.t, t26]⟩
    case s28 =>
      refine ok HK (λvs x hG HX hP => ?_)
      have p27 := pq hP 27
      obtain⟨⟨k27, VG, s27, v27, MS⟩, h27, MU, t27⟩ := p27
      obtain⟨a27, VH, rfl, -, -⟩ := MU.at.form
      simp only[ae.val]at h27
      have hZ := bC hG HZ.out
      simp only[zS, h27]
      go_simp
      exact gl ⟨_, [.mk k27 VG s27 (.slice a27 MS.length VH) MS], rfl, iA ⟨by decide, by decide⟩ ⟨by decide, by decide⟩ (by decide) (heap_alloc_new x _) hZ rfl (by decide) (λy hy => by rw[List.mem_singleton.1 hy]; exact MU.later ((Mv.refl _ _).alloc _)), by simp[ae.ts, t27]⟩
    case s29 =>
      refine ok HK (λvs x hG HX hP => ?_)
      have p28 := pq hP 28
      obtain⟨MV, VJ, VK, VL, t28⟩ := p28
      have hZ := bC hG HZ.out
      have HC := Lib.hid (wD (some ⟨MV, 0, none⟩) 1 1 x)
      try simp only[ae.val]at HC
      simp only[zS, VK]
      go_simp
      refine(HC.out).mono ?_
      rintro e y ⟨rfl, hg⟩
      exact⟨_, rfl, hg, .mk 57 0 ⟨#[]⟩ (.slice (some ⟨MV, 0, none⟩) 1 1) VJ, rfl, VL.later hg, by rw[ae.t, t28]; rfl⟩
  case done =>
  intro vs wx hE
  have hG := hE.grow
  have p29 := hE.val 29
  obtain⟨⟨Fq, Fs, s29, v29, Ce⟩, MW, Fu, t29⟩ := p29
  obtain⟨a29, Fv, rfl, -, -⟩ := Fu.at.form
  simp only[ae.val]at MW
  have aT := Lib.hid (gtr aA.out hG)
  have Fg := Lib.hid t29
  have Fh := Lib.hid Fu
  clear hE hG t29 Fu
  simp only[zS, Nat.reduceAdd, MW, List.drop_succ_cons, List.drop_zero]
  have gF := Lib.hid (dW (ai HB1.out aT.out) (.int .u8 Fq) (.int .i64 Fs) (.string s29) (.slice a29 Ce.length Fv))
  obtain⟨⟨n0, n1⟩, n2, n3⟩ := aJ (ai HB1.out aT.out)
  have hbl := lt_of_block (ai HB1.out aT.out)
  have zt := bD (ai HB1.out aT.out)
  go_wp2_with fail
  obtain⟨⟨t0, t1⟩, t2, t3⟩ := aJ gF.out.1
  exact bodyPost_ret (v := .agg #[.int .u8 Fq, .int .i64 Fs, .string s29, .slice a29 Ce.length Fv]) (by simp[results, Tryz.results26, go_sem, t0, t1, t2, t3]) rfl ⟨.mk Fq Fs s29 (.slice a29 Ce.length Fv) Ce, rfl, Fh.out.fill gF.out.2 (by omega), Fg.out, bN (gtr aj.out aT.out) gF.out.2 (λb e => by omega)⟩
end Go.Proofs.YtbpodipdfohikaaGreat
