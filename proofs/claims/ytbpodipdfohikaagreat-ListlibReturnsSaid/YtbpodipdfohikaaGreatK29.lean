import Derived.Test.YtbpodipdfohikaaGreatK28
set_option linter.unusedSimpArgs false
set_option linter.unusedVariables false
set_option maxRecDepth 100000
set_option maxHeartbeats 25600000
namespace Go.Proofs.YtbpodipdfohikaaGreat
open Go.RowKit Go.Instr
theorem Rf {w0 : World} {p : az} {fuel k : Nat} {w : World} {x : aK} {s : ah} (h : aF w0 p fuel k w x s) : ∃ b o, jN x s b o := by
  by_cases h0 : s.calls.length = 0
  · exact⟨x.S, 0, .inl ⟨h0, rfl, rfl⟩⟩
  · have hz := rJ h
    rcases h.calls.2 with⟨e, he⟩|⟨g, c2, u2, e, _⟩
    · rw[hz]at he; omega
    · exact⟨g, _, .inr ⟨by omega, ⟨c2, by rw[e, hz]⟩, rfl⟩⟩
theorem PR {x : aK} {s : ah} {b o b' o' : Nat} (h : jN x s b o) (k : jN x s b' o') : b = b' /\ o = o' := by
  rcases h with⟨h1, rfl, rfl⟩|⟨h1, ⟨c, h2⟩, rfl⟩ <;> rcases k with⟨k1, rfl, rfl⟩|⟨k1, ⟨c', k2⟩, rfl⟩
  · exact⟨rfl, rfl⟩
  · omega
  · omega
  · rw[h2]at k2
    simp only[Value.slice.injEq, Option.some.injEq, Addr.mk.injEq]at k2
    exact⟨k2.1.1, rfl⟩
theorem Gn (V : List (au × Nat)) (n : ByteArray) : fD (V.map Prod.fst) n = (aZ V n).map Prod.fst := by
  rcases(tY (V.map Prod.fst) n).choose_spec.last with⟨-, h⟩|⟨j, hj, -, h⟩
  · rw[h]
    refine CX _ _ λj hj => ?_
    have := (tY (V.map Prod.fst) n).choose_spec
    rcases this with⟨_, h2⟩|⟨i, hi, _, h2, _⟩
    · exact h2 j hj
    · exfalso
      rcases(tY (V.map Prod.fst) n).choose_spec.last with⟨e, _⟩|⟨j', hj', _, h3⟩
      · omega
      · rw[h]at h3; cases h3
  · rw[h]
    rcases(tY (V.map Prod.fst) n).choose_spec with⟨e, h2⟩|⟨i, hi, e, h2, h3⟩
    · rcases(tY (V.map Prod.fst) n).choose_spec.last with⟨_, h4⟩|⟨j', hj', e', _⟩
      · rw[h]at h4; cases h4
      · omega
    · have h5 := Dc n (V.map Prod.fst) i hi h2 h3
      rw[h5]
      rcases(tY (V.map Prod.fst) n).choose_spec.last with⟨e', _⟩|⟨j', hj', e', h6⟩
      · omega
      · rw[h]at h6
        have : i = j' := by omega
        subst this
        rw[Option.some.inj h6]
        simp
theorem PS {s : ah} {kd nn kn : Int} {ns ks : ByteArray} {res : Except Int ah} (hk : kd = 44 \/ kd = 45) (h : s.move (kd == 44) ns ks = some res) :
    (iP (s.cur.vars.map Prod.fst) (.mk kd nn ns [.mk 2 kn ks []]) ≠ 0 /\ res = .error (iP (s.cur.vars.map Prod.fst) (.mk kd nn ns [.mk 2 kn ks []]))) \/
    (iP (s.cur.vars.map Prod.fst) (.mk kd nn ns [.mk 2 kn ks []]) = 0 /\ ∃ u v c val, aZ s.cur.vars ns = some u /\ aZ s.cur.vars ks = some v /\ s.cells[u.2]? = some c /\ s.cells[v.2]? = some [val] /\ u.2 ≠ v.2 /\ res = if kd = 44 then qi s u.2 v.2 c val else nH s u.2 v.2 c val) := by
  have hn : iO kd = 3 := by rcases hk with rfl|rfl <;> rfl
  have hF : iP (s.cur.vars.map Prod.fst) (.mk kd nn ns [.mk 2 kn ks []]) = match aZ s.cur.vars ns with
      |none => 6
      |some u => if u.1.kind = 3 then(match aZ s.cur.vars ks with
        |none => 6
        |some v => if v.1.kind = 1 then 0 else 7)else 7 := by
    have hK : gQ (s.cur.vars.map Prod.fst) [.mk 2 kn ks []] = match aZ s.cur.vars ks with
        |none => 6
        |some v => if v.1.kind = 1 then 0 else 7 := by
      have h1 : iP (s.cur.vars.map Prod.fst) (.mk 2 kn ks []) = match aZ s.cur.vars ks with
          |none => 6
          |some v => if v.1.kind = 1 then 0 else 7 := by
        rw[iP, if_neg (show ¬ iO 2 = 0 by decide), Gn, gQ]
        cases aZ s.cur.vars ks <;> rfl
      rw[gQ, gQ, h1]
      generalize (match aZ s.cur.vars ks with
          |none => (6 : Int)
          |some v => if v.1.kind = 1 then 0 else 7) = z
      by_cases h2 : z = 0
      · simp[h2]
      · simp[h2]
    rw[iP, hn, if_neg (show ¬ (3 : Int) = 0 by decide), Gn, hK]
    cases aZ s.cur.vars ns <;> rfl
  rw[hF]
  unfold ah.move at h
  cases hu : aZ s.cur.vars ns with
  |none =>
    rw[hu]at h
    exact .inl ⟨by simp, (Option.some.inj h).symm⟩
  |some u =>
    rw[hu]at h
    simp only at h ⊢
    by_cases h3 : u.1.kind = 3
    · rw[if_pos h3]
      rw[if_neg (by simpa using h3)]at h
      cases hv : aZ s.cur.vars ks with
      |none =>
        rw[hv]at h
        exact .inl ⟨by simp, (Option.some.inj h).symm⟩
      |some v =>
        rw[hv]at h
        simp only at h ⊢
        by_cases h4 : v.1.kind = 1
        · rw[if_pos h4]
          rw[if_neg (by simpa using h4)]at h
          refine .inr ⟨rfl, u, v, ?_⟩
          split at h
          · rename_i xv c e1 e2
            by_cases h5 : u.2 = v.2
            · rw[if_pos h5]at h; cases h
            · rw[if_neg h5]at h
              refine⟨c, xv, rfl, rfl, e2, e1, h5, ?_⟩
              rcases hk with rfl|rfl
              · simp only[beq_self_eq_true, if_true]at h ⊢
                unfold qi
                split at h
                · rename_i h6; rw[if_pos h6]; exact(Option.some.inj h).symm
                · rename_i h6; rw[if_neg h6]; exact(Option.some.inj h).symm
              · rw[if_neg (by decide)]at h
                rw[if_neg (by decide)]
                unfold nH
                split at h
                · rename_i h6; rw[if_pos h6]; exact(Option.some.inj h).symm
                · rename_i h6
                  rw[if_neg h6]
                  split at h
                  · rename_i h7; rw[if_pos h7]; exact(Option.some.inj h).symm
                  · rename_i h7; rw[if_neg h7]; exact(Option.some.inj h).symm
          · cases h
        · rw[if_neg h4]
          rw[if_pos (by simpa using h4)]at h
          exact .inl ⟨by simp, (Option.some.inj h).symm⟩
    · rw[if_neg h3]
      rw[if_pos (by simpa using h3)]at h
      exact .inl ⟨by simp, (Option.some.inj h).symm⟩
theorem Su {kd nn kk kn : Int} {ns ks : ByteArray} {l : List Tree} (hk : kd = 44 \/ kd = 45) (h : aX (.mk kd nn ns [.mk kk kn ks l]) = true) : fq (.mk kk kn ks l) = true := by
  rw[aX]at h
  rcases hk with rfl|rfl <;> simp[bA]at h <;> exact h.2
theorem Sv {kd nn : Int} {ns : ByteArray} {l : List Tree} (hk : kd = 44 \/ kd = 45) (h : aX (.mk kd nn ns l) = true) : ∃ t, l = [t] := by
  rw[aX]at h
  match l with
  | [] => rcases hk with rfl|rfl <;> simp[bA]at h
  | [t] => exact⟨t, rfl⟩
  |a :: b :: c => rcases hk with rfl|rfl <;> simp[bA]at h
theorem PT {kn : Int} {ks : ByteArray} {l : List Tree} (h : fq (.mk 2 kn ks l) = true) : l = [] := by
  unfold fq at h
  rw[aN]at h
  simp[Tree.kind]at h
  exact h.2
set_option maxRecDepth 100000 in
set_option maxHeartbeats 6400000 in
theorem Jv (w0 : World) (p : az) (fuel k : Nat) (w : World) (x : aK) (s : ah) (kd nn : Int) (ns : ByteArray) (nv : Value) (kk kn : Int) (ks : ByteArray) (kv : Value) (kl : List ae) (res : Except Int ah) (hk : kd = 44 \/ kd = 45) (h : aF w0 p fuel k w x s) (hf : ∀ b, w.heap.size <= b -> x.ρ b = .other) (hn : bJ w (.mk kd nn ns nv [.mk kk kn ks kv kl])) (hs : aX (ae.t (.mk kd nn ns nv [.mk kk kn ks kv kl])) = true) (hkk : kk = 2) (hr : s.move (kd == 44) ns ks = some res) :
    Calls Tryz.prog 124 #[.pointer (some ⟨x.S, 0, none⟩), ae.val (.mk kd nn ns nv [.mk kk kn ks kv kl])] w (dQ w0 p fuel k x w res) := by
  subst hkk
  obtain⟨b, o, qM⟩ := Rf h
  have hpl := Su (l := ae.ts kl) hk (by simpa[ae.t, ae.ts]using hs)
  have hkl := PT hpl
  have hft : ae.t (.mk kd nn ns nv [.mk 2 kn ks kv kl]) = .mk kd nn ns [.mk 2 kn ks []] := by simp[ae.t, ae.ts, hkl]
  have hmc := PS (nn := nn) (kn := kn) hk hr
  have qK := Lib.hid (λz (hz : aF w0 p fuel k z x s) => (tK w0 p fuel k z x s hz).mono (R' := λe w' => e = .returned (.pointer (some ⟨b, o, none⟩)) /\ w' = z) (λe w' hq => by
    obtain⟨⟨b', o', rfl, h2⟩, rfl⟩ := hq
    obtain⟨rfl, rfl⟩ := PR h2 qM
    exact⟨rfl, rfl⟩))
  have HIS := Lib.hid (λz (hz : Grow w z) => Py (.mk kd nn ns nv [.mk 2 kn ks kv kl]) z (hn.later hz))
  rw[hs]at HIS
  have qN := Lib.hid (λz (hz : Grow w z) (h2 : aF w0 p fuel k z x s) => Ht b o _ (s.cur.vars.map Prod.fst) _ (.mk kd nn ns nv [.mk 2 kn ks kv kl]) (Nat.le_refl _) z (h2.ou qM).1.1 (dR (f := au.cells) (λ_ => rfl) h2.fP.vars) (hn.later hz))
  rw[hft]at qN
  have Nf := Lib.hid (λz => Ra kd z hk)
  have gF := Lib.hid (λz (hz : Grow w z) u v c val (h1 : aZ s.cur.vars ns = some u) (h2 : aZ s.cur.vars ks = some v) (h3 : s.cells[u.2]? = some c) (h4 : s.cells[v.2]? = some [val]) (h5 : u.2 ≠ v.2) => show Calls Tryz.prog 141 #[.pointer (some ⟨x.S, 0, none⟩), ae.val (.mk kd nn ns nv [.mk 2 kn ks kv kl])] z (dQ w0 p fuel k x z (if kd = 44 then qi s u.2 v.2 c val else nH s u.2 v.2 c val))from by
    have Ng : Ew s ns [.mk 2 kn ks kv kl] u v c val := ⟨kn, ks, kv, kl, rfl, by rw[ae.t]; exact hpl, h1, h2, h3, h4, h5⟩
    rcases hk with rfl|rfl
    · rw[if_pos rfl]
      exact OP w0 p fuel k z x s nn ns nv _ u v c val (h.later hz) (λb hb => hf b (Nat.le_trans hz.size hb)) (hn.later hz) Ng
    · rw[if_neg (by decide)]
      exact Pd w0 p fuel k z x s nn ns nv _ u v c val (h.later hz) (λb hb => hf b (Nat.le_trans hz.size hb)) (hn.later hz) Ng)
  have e56 : (kd == 56) = false := by rcases hk with rfl|rfl <;> rfl
  generalize iP (s.cur.vars.map Prod.fst) (.mk kd nn ns [.mk 2 kn ks []]) = F at *
  have FM := Lib.hid hmc
  have HS := Lib.hid h
  generalize hnl : [ae.mk 2 kn ks kv kl] = nl at *
  obtain⟨na, nc, rfl, -, -⟩ := hn.form
  have aj := Lib.hid (show Grow w (w.alloc (.cells #[.int .u8 kd, .int .i64 nn, .string ns, .slice na nl.length nc] 40))from(Mv.refl _ w).alloc _)
  have aY := Lib.hid (heap_alloc_new w (.cells #[.int .u8 kd, .int .i64 nn, .string ns, .slice na nl.length nc] 40))
  clear h hf hn hs hr qM hpl hkl hft hmc hk hnl
  simp only[ae.val, rR]at HIS qN gF ⊢
  go_enter Tryz.func124, Tryz.ntmps124
  go_wp2_with fail
  generalize (w.alloc (.cells #[.int .u8 kd, .int .i64 nn, .string ns, .slice na nl.length nc] 40)) = w1 at *
  refine(HIS.out _ aj.out).mono ?_
  rintro e w2 ⟨rfl, hg⟩
  have HG2 := Lib.hid (gtr aj.out hg)
  have bK := Lib.hid (ai aY.out hg)
  clear hg aY aj HIS
  obtain⟨⟨n0, n1⟩, n2, n3⟩ := aI bK.out
  have hnl := lt_of_block bK.out
  go_wp2_with fail
  refine(Nf.out w2).mono ?_
  rintro e w3 ⟨rfl, rfl⟩
  clear Nf
  go_upto_region 9 with fail
  have uM := Lib.hid (λz (h2 : Grow w2 z) => qN.out z (gtr HG2.out h2) (HS.out.later (gtr HG2.out h2)))
  have HK := Lib.hid (λ(y : World) (hy : Grow w2 y) => And.intro (ai bK.out hy) (And.intro (HS.out.later (gtr HG2.out hy)) hy))
  refine wg 32 [some 22, some 23, some 24, some 25, some 5] [[], [0], [], [1, 2], [3]] [] [.c (.pointer (some ⟨x.S, 0, none⟩)), .c (.pointer (some ⟨b, o, none⟩)), .c (.agg #[.int .u8 kd, .int .i64 nn, .string ns, .slice na nl.length nc]), .c (.int .i64 F), .c (.int .i64 F)] trivial (dG rfl) ?steps ?done
  case steps =>
    refine⟨?s0, ?s1, ?s2, ?s3, ?s4, trivial⟩
    case s0 =>
      refine oo (λvs x hP => ?_)
      simp only[zS]
      go_simp
      exact gc
    case s1 =>
      refine ok HK (λvs x1 hG HX hP => ?_)
      have HC := Lib.hid (qK.out x1 HX.out.2.1)
      simp only[zS]
      go_simp
      refine(HC.out).mono ?_
      rintro e y ⟨rfl, rfl⟩
      exact⟨_, rfl, gy (Mv.refl _ _) rfl⟩
    case s2 =>
      refine ok HK (λvs x1 hG HX hP => ?_)
      obtain⟨⟨n0, n1⟩, n2, n3⟩ := aI HX.out.1
      simp only[zS]
      go_simp
      exact gc
    case s3 =>
      refine ok HK (λvs x1 hG HX hP => ?_)
      have HC := Lib.hid (uM.out x1 HX.out.2.2)
      simp only[zS]
      go_simp
      refine(HC.out).mono ?_
      rintro e y ⟨rfl, hg⟩
      exact⟨_, rfl, gy hg rfl⟩
    case s4 =>
      refine oo (λvs x hP => ?_)
      simp only[zS]
      go_simp
      exact gc
  case done =>
  intro vs wx hE
  have hG := hE.grow
  have aT := Lib.hid (gtr HG2.out hG)
  have nM := Lib.hid (ai bK.out hG)
  clear hE hG n0 n1 n2 n3 hnl
  simp only[zS, Nat.reduceAdd]
  obtain⟨⟨n0, n1⟩, n2, n3⟩ := aI nM.out
  have hnl := lt_of_block nM.out
  rcases FM.out with⟨h0, hres⟩|⟨h0, u, v, c, val, h1, h2, h3, h4, h5, hres⟩
  · have hb : (F != 0) = true := by simpa using h0
    have HQ := Lib.hid (show dQ w0 p fuel k x w res (.returned (.int .i64 F)) wx from by rw[hres]; exact⟨⟨rfl, h0⟩, .new (HS.out.later aT.out).g aT.out⟩)
    clear h0 hres FM qN uM gF
    go_wp2_with fail
    go_ret
    exact HQ.out
  · subst h0
    have Kj := Lib.hid (gF.out wx aT.out u v c val h1 h2 h3 h4 h5)
    rw[← hres]at Kj
    clear hres FM qN uM gF h1 h2 h3 h4 h5
    go_wp2_with fail
    refine Kj.out.mono ?_
    intro e w4 hq
    obtain⟨n, rfl⟩ := hq.int
    have HQ := Lib.hid (dQ.trans (ax.grow aT.out) hq)
    clear hq
    go_wp2_with fail
    go_ret
    exact HQ.out
theorem Sw {kd nn : Int} {ns : ByteArray} {l : List Tree} (hk : kd = 44 \/ kd = 45) : aX (.mk (ow kd) nn ns l) = aX (.mk kd nn ns l) := by
  rcases hk with rfl|rfl <;> rfl
set_option maxRecDepth 100000 in
set_option maxHeartbeats 6400000 in
theorem RV (w0 : World) (p : az) (fuel k : Nat) (w : World) (x : aK) (s : ah) (kd nn : Int) (ns : ByteArray) (nv : Value) (kk kn : Int) (ks : ByteArray) (kv : Value) (kl : List ae) (res : Except Int ah) (hk : kd = 44 \/ kd = 45) (h : aF w0 p fuel k w x s) (hf : ∀ b, w.heap.size <= b -> x.ρ b = .other) (hn : bJ w (.mk kd nn ns nv [.mk kk kn ks kv kl])) (hs : aX (ae.t (.mk kd nn ns nv [.mk kk kn ks kv kl])) = true) (hkk : kk = 2) (hr : s.move (ow kd == 44) ns ks = some res) :
    Calls Tryz.prog 123 #[.pointer (some ⟨x.S, 0, none⟩), ae.val (.mk kd nn ns nv [.mk kk kn ks kv kl])] w (dQ w0 p fuel k x w res) := by
  have hk2 : ow kd = 44 \/ ow kd = 45 := by rcases hk with rfl|rfl <;> simp[ow]
  have vJ := Lib.hid (λz (hz : Grow w z) => Jv w0 p fuel k z x s (ow kd) nn ns nv kk kn ks kv kl res hk2 (h.later hz) (λb hb => hf b (Nat.le_trans hz.size hb)) (by
    obtain⟨-, r2, r3, r4, r5⟩ := (hn.later hz).row
    exact .mk (by rcases hk2 with e|e <;> rw[e] <;> decide) r2 r3 r4 r5) (by rw[ae.t, Sw hk, ← hs, ae.t]) hkk hr)
  have vz := Lib.hid (λz => PN kd z hk)
  have bU := Lib.hid (λ(b : Nat) (hb : w.heap.size <= b) => hb)
  generalize hnl : [ae.mk kk kn ks kv kl] = nl at *
  obtain⟨na, nc, rfl, -, -⟩ := hn.form
  have aj := Lib.hid (show Grow w (w.alloc (.cells #[.int .u8 kd, .int .i64 nn, .string ns, .slice na nl.length nc] 40))from(Mv.refl _ w).alloc _)
  have aY := Lib.hid (heap_alloc_new w (.cells #[.int .u8 kd, .int .i64 nn, .string ns, .slice na nl.length nc] 40))
  have hsz : w.heap.size <= w.heap.size := Nat.le_refl _
  generalize ow kd = kd' at *
  clear h hf hn hs hr hk hnl hk2
  simp only[ae.val]at vJ ⊢
  go_enter Tryz.func123, Tryz.ntmps123
  go_wp2_with fail
  generalize (w.alloc (.cells #[.int .u8 kd, .int .i64 nn, .string ns, .slice na nl.length nc] 40)) = w1 at *
  refine(vz.out w1).mono ?_
  rintro e w2 ⟨rfl, rfl⟩
  clear vz
  have hb2 := block_setCell (p := ⟨w.heap.size, 0, none⟩) aY.out rfl (.int .u8 kd')
  have HG2 := Lib.hid (bS aj.out ((Mv.refl (λb => b = w.heap.size) w1).setCell (p := ⟨w.heap.size, 0, none⟩) (.inl rfl) (.int .u8 kd')) (λb e => by omega))
  obtain⟨⟨n0, n1⟩, n2, n3⟩ := aI aY.out
  have hnl := lt_of_block aY.out
  have zt := bE aY.out
  have bK := Lib.hid (show(w1.setCell ⟨w.heap.size, 0, none⟩ (.int .u8 kd')).heap[w.heap.size]? = some (.cells #[.int .u8 kd', .int .i64 nn, .string ns, .slice na nl.length nc] 40 (0, 0))from by rw[hb2]; simp)
  clear hb2
  go_upto_region 2 with fail
  clear n0 n1 n2 n3 zt hnl
  generalize w1.setCell ⟨w.heap.size, 0, none⟩ (.int .u8 kd') = w2 at *
  obtain⟨⟨n0, n1⟩, n2, n3⟩ := aI bK.out
  have hnl := lt_of_block bK.out
  go_wp2_with fail
  refine(vJ.out _ HG2.out).mono ?_
  intro e w4 hq
  obtain⟨n, rfl⟩ := hq.int
  have HQ := Lib.hid (dQ.trans (ax.grow HG2.out) hq)
  clear hq
  go_wp2_with fail
  go_ret
  exact HQ.out
def Ef (w0 : World) (p : az) (fuel k g : Nat) : Prop := ∀ (w : World) (x : aK) (s : ah) (res : Except Int ah) (n : ae) (b : Bool), aF w0 p fuel k w x s -> aS (λ_ => True) w0 n -> exec (p.procs.map aO.d) fuel g (.stmt n.t) b s = some res ->
  Calls Tryz.prog 88 #[.pointer (some ⟨x.R, 0, none⟩), n.val, .bool b] w (bY w0 p fuel k x w res)
def rM (w0 : World) (p : az) (fuel k g : Nat) : Prop := ∀ (w : World) (x : aK) (s : ah) (res : Except Int ah) (n : ae) (b : Bool), aF w0 p fuel k w x s -> aS (λ_ => True) w0 n -> exec (p.procs.map aO.d) fuel g (.stmts (turned b n.t.kids)) b s = some res ->
  Calls Tryz.prog 61 #[.pointer (some ⟨x.R, 0, none⟩), n.val, .bool b] w (bY w0 p fuel k x w res)
theorem wF {α β : Type} {x : Option (Except Int α)} {f : α -> Option (Except Int β)} {res : Except Int β} (h : aH x f = some res) : (∃ e, x = some (.error e) /\ res = .error e) \/ ∃ a, x = some (.ok a) /\ f a = some res := by
  rcases x with - | e|a
  · cases h
  · exact .inl ⟨e, rfl, (Option.some.inj h).symm⟩
  · exact .inr ⟨a, rfl, h⟩
theorem PU {α : Type} (b : Bool) (l : List α) (i : Nat) (hi : i < l.length) : ∃ h : i < (turned b l).length, ∃ hj : (if b then l.length - 1 - i else i) < l.length, (turned b l)[i] = l[if b then l.length - 1 - i else i] := by
  cases b with
  |false => exact⟨hi, hi, rfl⟩
  |true => exact⟨by simpa[turned]using hi, by simp only[if_true]; omega, by simp[turned, List.getElem_reverse]⟩
theorem PV {α : Type} (b : Bool) (l : List α) : (turned b l).length = l.length := by cases b <;> simp[turned]
theorem aS.up {P : Nat -> Prop} {w w' : World} {n : ae} (h : aS P w n) (hg : Grow w w') : aS P w' n := h.stay hg (λ_ _ _ _ _ e => e)
theorem aS.kids {P : Nat -> Prop} {w : World} {k n : Int} {s : ByteArray} {kv : Value} {l : List ae} (h : aS P w (.mk k n s kv l)) : ∀ x ∈ l, aS P w x := by
  cases h with
  |mk _ _ _ _ _ e => exact e
set_option maxRecDepth 100000 in
set_option maxHeartbeats 6400000 in
theorem PW {w0 : World} {p : az} {fuel k g : Nat} (IH : ∀ g', g' < g -> Ef w0 p fuel k g') : rM w0 p fuel k g := by
  intro w x s res n b h hno hex
  have gK := Lib.hid IH
  obtain⟨x1, hr1, ho, h1⟩ := h.fresh
  rw[show x.R = x1.R from hr1.R.symm]
  refine Calls.mono ?_ (λe w' (hq : bY w0 p fuel k x1 w res e w') => hq.of hr1)
  clear hr1 h IH
  revert h1 ho
  generalize x1 = x
  intro ho h
  have jo := Lib.hid hno
  obtain⟨nk, nn, ns, nv, nl⟩ := n
  obtain⟨na, nc, rfl, hnc, hnl⟩ := hno.at.form
  have aj := Lib.hid (show Grow w (w.alloc (.cells #[.int .u8 nk, .int .i64 nn, .string ns, .slice na nl.length nc] 40))from(Mv.refl _ w).alloc _)
  have aY := Lib.hid (heap_alloc_new w (.cells #[.int .u8 nk, .int .i64 nn, .string ns, .slice na nl.length nc] 40))
  have iD := Lib.hid (h.later aj.out)
  have gF := Lib.hid (show exec (p.procs.map aO.d) fuel (g - 0) (.stmts ((turned b (ae.ts nl)).drop 0)) b s = some res from by
    rw[ae.t]at hex; exact hex)
  clear hno hex h ho
  simp only[ae.val]
  go_enter Tryz.func61, Tryz.ntmps61
  go_wp2_with fail
  generalize (w.alloc (.cells #[.int .u8 nk, .int .i64 nn, .string ns, .slice na nl.length nc] 40)) = w1 at *
  obtain⟨⟨n0, n1⟩, n2, n3⟩ := aI aY.out
  have hbl := lt_of_block aY.out
  go_wp2_with fail
  clear n0 n1 n2 n3 hbl
  go_loopw [15] (λt wr => ∃ (i : Nat) (xi : aK) (si : ah), t = .int .i64 i /\ i <= nl.length /\ ax x xi w1 wr /\ aF w0 p fuel k wr xi si /\ exec (p.procs.map aO.d) fuel (g - i) (.stmts ((turned b (ae.ts nl)).drop i)) b si = some res) (λt _ => nl.length - (intOf t).toNat)
  case atStart => exact⟨0, x, s, rfl, Nat.zero_le _, ax.refl _ _, iD.out, gF.out⟩
  obtain⟨i, xi, si, rfl, hi, sZ, hsi, Kk⟩ := hrel
  have HR := Lib.hid sZ
  have HS := Lib.hid hsi
  have HE := Lib.hid Kk
  clear sZ hsi Kk
  have oZ := Lib.hid (HR.out.n _ _ _ aY.out)
  obtain⟨⟨n0, n1⟩, n2, n3⟩ := aI oZ.out
  have hbl := lt_of_block oZ.out
  rcases Nat.lt_or_ge i nl.length with hlt|hge
  · have BF : decide ((i : Int) < nl.length) = true := by simp; omega
    obtain⟨ht, hj, hte⟩ := PU b (ae.ts nl) i (by rw[ae.dz]; exact hlt)
    rw[ae.dz]at hj
    have hg : ∃ m, g - i = m + 1 := by
      rcases Nat.eq_zero_or_pos (g - i)with e|e
      · have := HE.out
        rw[e]at this
        cases this
      · exact⟨g - i - 1, by omega⟩
    obtain⟨m, hm⟩ := hg
    have Jw : (turned b (ae.ts nl)).drop i = (turned b (ae.ts nl))[i] :: (turned b (ae.ts nl)).drop (i + 1) := List.drop_eq_getElem_cons ht
    have he2 := HE.out
    rw[hm, Jw, hte]at he2
    have HX := Lib.hid (wF he2)
    have Ck := Lib.hid (show m < g /\ g - (i + 1) = m from by omega)
    clear he2 Jw hm hte ht
    have HRW := Lib.hid ((jo.out.up HS.out.g).at.row.2.2.2.1)
    have xI := Lib.hid (jo.out.kids)
    simp only[ae.dz]at HX
    have hkt := ae.oK nl (if b then nl.length - 1 - i else i) hj
    simp only[hkt]at HX
    clear hkt
    have hidx : ∃ j, (if b then nl.length - 1 - i else i) = j := ⟨_, rfl⟩
    obtain⟨j, zg⟩ := hidx
    simp only[zg]at HX hj
    have zT := Lib.hid (xI.out _ (List.getElem_mem hj))
    obtain⟨kb, ko, cap, e, _, -⟩ := HRW.out.at hj
    simp only[Value.slice.injEq, true_and]at e
    obtain⟨rfl, rfl⟩ := e
    obtain⟨kk, kn, ks, ka, kc, kl, hke, ⟨d0, d1⟩, d2, d3⟩ := AY HRW.out (λy hy => (xI.out y hy).at.later HS.out.g) hj
    have hkl := World.block_lt_of_cell? wr _ d0
    simp only at hkl
    rw[hke]at zT HX
    have Cm := Lib.hid zg
    clear hke zg
    have qF := Lib.hid HR.out.R
    rcases HX.out with⟨e, hx, hres⟩|⟨s', hx, hrest⟩
    · have HST := Lib.hid (gK.out m Ck.out.1 wr xi si _ _ b HS.out zT.out hx)
      rw[qF.out]at HST
      have kX := Lib.hid hres
      simp only[ae.val]at HST
      clear hx hres
      cases b with
      |true =>
        have zO : (nl.length : Int) - 1 - i = (j : Int) := by have := Cm.out; simp only[if_true]at this; omega
        go_wp2_with fail
        refine HST.out.mono ?_
        rintro e2 w2 ⟨⟨rfl, hn0⟩, hg⟩
        refine⟨rfl, ?_⟩
        rw[kX.out]
        exact⟨⟨rfl, hn0⟩, .of ((ax.grow aj.out).trans HR.out) hg⟩
      |false =>
        obtain rfl : i = j := by have := Cm.out; simpa using this
        go_wp2_with fail
        refine HST.out.mono ?_
        rintro e2 w2 ⟨⟨rfl, hn0⟩, hg⟩
        refine⟨rfl, ?_⟩
        rw[kX.out]
        exact⟨⟨rfl, hn0⟩, .of ((ax.grow aj.out).trans HR.out) hg⟩
    · have HST := Lib.hid (gK.out m Ck.out.1 wr xi si _ _ b HS.out zT.out hx)
      rw[qF.out]at HST
      have dm := Lib.hid hrest
      simp only[ae.val]at HST
      clear hx hrest
      cases b with
      |true =>
        have zO : (nl.length : Int) - 1 - i = (j : Int) := by have := Cm.out; simp only[if_true]at this; omega
        go_wp2_with fail
        refine HST.out.mono ?_
        rintro e2 w2 ⟨rfl, x', hr', hs'⟩
        have HQ := Lib.hid (And.intro (HR.out.trans hr') hs')
        clear hr' hs'
        go_wp2_with fail
        go_roundw
        case rel => exact⟨i + 1, x', s', by go_num, by omega, HQ.out.1, HQ.out.2, by rw[Ck.out.2]; exact dm.out⟩
        case measure => simp[intOf] <;> omega
      |false =>
        obtain rfl : i = j := by have := Cm.out; simpa using this
        go_wp2_with fail
        refine HST.out.mono ?_
        rintro e2 w2 ⟨rfl, x', hr', hs'⟩
        have HQ := Lib.hid (And.intro (HR.out.trans hr') hs')
        clear hr' hs'
        go_wp2_with fail
        go_roundw
        case rel => exact⟨i + 1, x', s', by go_num, by omega, HQ.out.1, HQ.out.2, by rw[Ck.out.2]; exact dm.out⟩
        case measure => simp[intOf] <;> omega
  · obtain rfl : i = nl.length := by omega
    have hlt : decide ((nl.length : Int) < nl.length) = false := by simp
    have hre : res = .ok si := by
      have he := HE.out
      rw[List.drop_eq_nil_of_le (by rw[PV, ae.dz]; exact Nat.le_refl _)]at he
      cases hgm : g - nl.length with
      |zero => rw[hgm]at he; cases he
      |succ m => rw[hgm]at he; exact(Option.some.inj he).symm
    have HQ := Lib.hid (show bY w0 p fuel k x w res (.returned (.tuple #[])) wr from by rw[hre]; exact⟨rfl, xi, (ax.grow aj.out).trans HR.out, HS.out⟩)
    clear hre HE
    go_wp2_with fail
    go_end0
    exact HQ.out
end Go.Proofs.YtbpodipdfohikaaGreat
