import Derived.Test.YtbpodipdfohikaaGreatL28
set_option linter.unusedSimpArgs false
set_option linter.unusedVariables false
set_option maxRecDepth 100000
set_option maxHeartbeats 25600000
namespace Go.Proofs.YtbpodipdfohikaaGreat
open Go.RowKit Go.Instr
theorem RP {w0 : World} {p : az} {fuel k : Nat} {w : World} {x : aK} {s : ah} (h : aG w0 p fuel k w x s) : ∃ b o, jK x s b o := by
  by_cases h0 : s.calls.length = 0
  · exact⟨x.S, 0, .inl ⟨h0, rfl, rfl⟩⟩
  · have hz := rG h
    rcases h.calls.2 with⟨e, he⟩|⟨g, c2, u2, e, _⟩
    · rw[hz]at he; omega
    · exact⟨g, _, .inr ⟨by omega, ⟨c2, by rw[e, hz]⟩, rfl⟩⟩
theorem Qq {x : aK} {s : ah} {b o b' o' : Nat} (h : jK x s b o) (k : jK x s b' o') : b = b' /\ o = o' := by
  rcases h with⟨h1, rfl, rfl⟩|⟨h1, ⟨c, h2⟩, rfl⟩ <;> rcases k with⟨k1, rfl, rfl⟩|⟨k1, ⟨c', k2⟩, rfl⟩
  · exact⟨rfl, rfl⟩
  · omega
  · omega
  · rw[h2]at k2
    simp only[Value.slice.injEq, Option.some.injEq, Addr.mk.injEq]at k2
    exact⟨k2.1.1, rfl⟩
theorem Gy (V : List (au × Nat)) (n : ByteArray) : fD (V.map Prod.fst) n = (bf V n).map Prod.fst := by
  rcases(uf (V.map Prod.fst) n).choose_spec.last with⟨-, h⟩|⟨j, hj, -, h⟩
  · rw[h]
    refine Dc _ _ λj hj => ?_
    have := (uf (V.map Prod.fst) n).choose_spec
    rcases this with⟨_, h2⟩|⟨i, hi, _, h2, _⟩
    · exact h2 j hj
    · exfalso
      rcases(uf (V.map Prod.fst) n).choose_spec.last with⟨e, _⟩|⟨j', hj', _, h3⟩
      · omega
      · rw[h]at h3; cases h3
  · rw[h]
    rcases(uf (V.map Prod.fst) n).choose_spec with⟨e, h2⟩|⟨i, hi, e, h2, h3⟩
    · rcases(uf (V.map Prod.fst) n).choose_spec.last with⟨_, h4⟩|⟨j', hj', e', _⟩
      · rw[h]at h4; cases h4
      · omega
    · have h5 := Di n (V.map Prod.fst) i hi h2 h3
      rw[h5]
      rcases(uf (V.map Prod.fst) n).choose_spec.last with⟨e', _⟩|⟨j', hj', e', h6⟩
      · omega
      · rw[h]at h6
        have : i = j' := by omega
        subst this
        rw[Option.some.inj h6]
        simp
theorem Qr {s : ah} {kd nn kn : Int} {ns ks : ByteArray} {res : Except Int ah} (hk : kd = 44 \/ kd = 45) (h : s.move (kd == 44) ns ks = some res) :
    (iM (s.cur.vars.map Prod.fst) (.mk kd nn ns [.mk 2 kn ks []]) ≠ 0 /\ res = .error (iM (s.cur.vars.map Prod.fst) (.mk kd nn ns [.mk 2 kn ks []]))) \/
    (iM (s.cur.vars.map Prod.fst) (.mk kd nn ns [.mk 2 kn ks []]) = 0 /\ ∃ u v c val, bf s.cur.vars ns = some u /\ bf s.cur.vars ks = some v /\ s.cells[u.2]? = some c /\ s.cells[v.2]? = some [val] /\ u.2 ≠ v.2 /\ res = if kd = 44 then qf s u.2 v.2 c val else nC s u.2 v.2 c val) := by
  have hn : iL kd = 3 := by rcases hk with rfl|rfl <;> rfl
  have hF : iM (s.cur.vars.map Prod.fst) (.mk kd nn ns [.mk 2 kn ks []]) = match bf s.cur.vars ns with
      |none => 6
      |some u => if u.1.kind = 3 then(match bf s.cur.vars ks with
        |none => 6
        |some v => if v.1.kind = 1 then 0 else 7)else 7 := by
    have hK : gJ (s.cur.vars.map Prod.fst) [.mk 2 kn ks []] = match bf s.cur.vars ks with
        |none => 6
        |some v => if v.1.kind = 1 then 0 else 7 := by
      have h1 : iM (s.cur.vars.map Prod.fst) (.mk 2 kn ks []) = match bf s.cur.vars ks with
          |none => 6
          |some v => if v.1.kind = 1 then 0 else 7 := by
        rw[iM, if_neg (show ¬ iL 2 = 0 by decide), Gy, gJ]
        cases bf s.cur.vars ks <;> rfl
      rw[gJ, gJ, h1]
      generalize (match bf s.cur.vars ks with
          |none => (6 : Int)
          |some v => if v.1.kind = 1 then 0 else 7) = z
      by_cases h2 : z = 0
      · simp[h2]
      · simp[h2]
    rw[iM, hn, if_neg (show ¬ (3 : Int) = 0 by decide), Gy, hK]
    cases bf s.cur.vars ns <;> rfl
  rw[hF]
  unfold ah.move at h
  cases hu : bf s.cur.vars ns with
  |none =>
    rw[hu]at h
    exact .inl ⟨by simp, (Option.some.inj h).symm⟩
  |some u =>
    rw[hu]at h
    simp only at h ⊢
    by_cases h3 : u.1.kind = 3
    · rw[if_pos h3]
      rw[if_neg (by simpa using h3)]at h
      cases hv : bf s.cur.vars ks with
      |none =>
        rw[hv]at h
        exact .inl ⟨by simp, (Option.some.inj h).symm⟩
      |some v =>
        rw[hv]at h
        simp only at h ⊢
        by_cases h4 : v.1.kind = 1
        · rw[if_pos h4]
          rw[if_neg (by simpa using h4)]at h
          refine .inr ⟨rfl, u, v, ?_⟩
          split at h
          · rename_i xv c e1 e2
            by_cases h5 : u.2 = v.2
            · rw[if_pos h5]at h; cases h
            · rw[if_neg h5]at h
              refine⟨c, xv, rfl, rfl, e2, e1, h5, ?_⟩
              rcases hk with rfl|rfl
              · simp only[beq_self_eq_true, if_true]at h ⊢
                unfold qf
                split at h
                · rename_i h6; rw[if_pos h6]; exact(Option.some.inj h).symm
                · rename_i h6; rw[if_neg h6]; exact(Option.some.inj h).symm
              · rw[if_neg (by decide)]at h
                rw[if_neg (by decide)]
                unfold nC
                split at h
                · rename_i h6; rw[if_pos h6]; exact(Option.some.inj h).symm
                · rename_i h6
                  rw[if_neg h6]
                  split at h
                  · rename_i h7; rw[if_pos h7]; exact(Option.some.inj h).symm
                  · rename_i h7; rw[if_neg h7]; exact(Option.some.inj h).symm
          · cases h
        · rw[if_neg h4]
          rw[if_pos (by simpa using h4)]at h
          exact .inl ⟨by simp, (Option.some.inj h).symm⟩
    · rw[if_neg h3]
      rw[if_pos (by simpa using h3)]at h
      exact .inl ⟨by simp, (Option.some.inj h).symm⟩
theorem Tp {kd nn kk kn : Int} {ns ks : ByteArray} {l : List Tree} (hk : kd = 44 \/ kd = 45) (h : aX (.mk kd nn ns [.mk kk kn ks l]) = true) : fo (.mk kk kn ks l) = true := by
  rw[aX]at h
  rcases hk with rfl|rfl <;> simp[bz]at h <;> exact h.2
theorem Tq {kd nn : Int} {ns : ByteArray} {l : List Tree} (hk : kd = 44 \/ kd = 45) (h : aX (.mk kd nn ns l) = true) : ∃ t, l = [t] := by
  rw[aX]at h
  match l with
  | [] => rcases hk with rfl|rfl <;> simp[bz]at h
  | [t] => exact⟨t, rfl⟩
  |a :: b :: c => rcases hk with rfl|rfl <;> simp[bz]at h
theorem Qt {kn : Int} {ks : ByteArray} {l : List Tree} (h : fo (.mk 2 kn ks l) = true) : l = [] := by
  unfold fo at h
  rw[aN]at h
  simp[Tree.kind]at h
  exact h.2
set_option maxRecDepth 100000 in
set_option maxHeartbeats 6400000 in
theorem JO (w0 : World) (p : az) (fuel k : Nat) (w : World) (x : aK) (s : ah) (kd nn : Int) (ns : ByteArray) (nv : Value) (kk kn : Int) (ks : ByteArray) (kv : Value) (kl : List ae) (res : Except Int ah) (hk : kd = 44 \/ kd = 45) (h : aG w0 p fuel k w x s) (hf : ∀ b, w.heap.size <= b -> x.ρ b = .other) (hn : bJ w (.mk kd nn ns nv [.mk kk kn ks kv kl])) (hs : aX (ae.t (.mk kd nn ns nv [.mk kk kn ks kv kl])) = true) (hkk : kk = 2) (hr : s.move (kd == 44) ns ks = some res) :
    Calls Tryz.prog 124 #[.pointer (some ⟨x.S, 0, none⟩), ae.val (.mk kd nn ns nv [.mk kk kn ks kv kl])] w (dU w0 p fuel k x w res) := by
  subst hkk
  obtain⟨b, o, qL⟩ := RP h
  have hpl := Tp (l := ae.ts kl) hk (by simpa[ae.t, ae.ts]using hs)
  have hkl := Qt hpl
  have hft : ae.t (.mk kd nn ns nv [.mk 2 kn ks kv kl]) = .mk kd nn ns [.mk 2 kn ks []] := by simp[ae.t, ae.ts, hkl]
  have hmc := Qr (nn := nn) (kn := kn) hk hr
  have qK := Lib.hid (λz (hz : aG w0 p fuel k z x s) => (tL w0 p fuel k z x s hz).mono (R' := λe w' => e = .returned (.pointer (some ⟨b, o, none⟩)) /\ w' = z) (λe w' hq => by
    obtain⟨⟨b', o', rfl, h2⟩, rfl⟩ := hq
    obtain⟨rfl, rfl⟩ := Qq h2 qL
    exact⟨rfl, rfl⟩))
  have HIS := Lib.hid (λz (hz : Grow w z) => Qd (.mk kd nn ns nv [.mk 2 kn ks kv kl]) z (hn.later hz))
  rw[hs]at HIS
  have qM := Lib.hid (λz (hz : Grow w z) (h2 : aG w0 p fuel k z x s) => Ig b o _ (s.cur.vars.map Prod.fst) _ (.mk kd nn ns nv [.mk 2 kn ks kv kl]) (Nat.le_refl _) z (h2.nY qL).1.1 (bX (f := au.cells) (λ_ => rfl) h2.fM.vars) (hn.later hz))
  rw[hft]at qM
  have NJ := Lib.hid (λz => RJ kd z hk)
  have gu := Lib.hid (λz (hz : Grow w z) u v c val (h1 : bf s.cur.vars ns = some u) (h2 : bf s.cur.vars ks = some v) (h3 : s.cells[u.2]? = some c) (h4 : s.cells[v.2]? = some [val]) (h5 : u.2 ≠ v.2) => show Calls Tryz.prog 141 #[.pointer (some ⟨x.S, 0, none⟩), ae.val (.mk kd nn ns nv [.mk 2 kn ks kv kl])] z (dU w0 p fuel k x z (if kd = 44 then qf s u.2 v.2 c val else nC s u.2 v.2 c val))from by
    have NK : EB s ns [.mk 2 kn ks kv kl] u v c val := ⟨kn, ks, kv, kl, rfl, by rw[ae.t]; exact hpl, h1, h2, h3, h4, h5⟩
    rcases hk with rfl|rfl
    · rw[if_pos rfl]
      exact Px w0 p fuel k z x s nn ns nv _ u v c val (h.later hz) (λb hb => hf b (Nat.le_trans hz.size hb)) (hn.later hz) NK
    · rw[if_neg (by decide)]
      exact PS w0 p fuel k z x s nn ns nv _ u v c val (h.later hz) (λb hb => hf b (Nat.le_trans hz.size hb)) (hn.later hz) NK)
  have e56 : (kd == 56) = false := by rcases hk with rfl|rfl <;> rfl
  generalize iM (s.cur.vars.map Prod.fst) (.mk kd nn ns [.mk 2 kn ks []]) = F at *
  have FV := Lib.hid hmc
  have HS := Lib.hid h
  generalize hnl : [ae.mk 2 kn ks kv kl] = nl at *
  obtain⟨na, nc, rfl, -, -⟩ := hn.form
  have aj := Lib.hid (show Grow w (w.alloc (.cells #[.int .u8 kd, .int .i64 nn, .string ns, .slice na nl.length nc] 40))from(Mv.refl _ w).alloc _)
  have aY := Lib.hid (heap_alloc_new w (.cells #[.int .u8 kd, .int .i64 nn, .string ns, .slice na nl.length nc] 40))
  clear h hf hn hs hr qL hpl hkl hft hmc hk hnl
  simp only[ae.val, rP]at HIS qM gu ⊢
  go_enter Tryz.func124, Tryz.ntmps124
  go_wp2_with fail
  generalize (w.alloc (.cells #[.int .u8 kd, .int .i64 nn, .string ns, .slice na nl.length nc] 40)) = w1 at *
  refine(HIS.out _ aj.out).mono ?_
  rintro e w2 ⟨rfl, hg⟩
  have HG2 := Lib.hid (gtr aj.out hg)
  have bL := Lib.hid (ai aY.out hg)
  clear hg aY aj HIS
  obtain⟨⟨n0, n1⟩, n2, n3⟩ := aJ bL.out
  have hnl := lt_of_block bL.out
  go_wp2_with fail
  refine(NJ.out w2).mono ?_
  rintro e w3 ⟨rfl, rfl⟩
  clear NJ
  go_upto_region 9 with fail
  have uP := Lib.hid (λz (h2 : Grow w2 z) => qM.out z (gtr HG2.out h2) (HS.out.later (gtr HG2.out h2)))
  have HK := Lib.hid (λ(y : World) (hy : Grow w2 y) => And.intro (ai bL.out hy) (And.intro (HS.out.later (gtr HG2.out hy)) hy))
  refine wg 32 [some 22, some 23, some 24, some 25, some 5] [[], [0], [], [1, 2], [3]] [] [.c (.pointer (some ⟨x.S, 0, none⟩)), .c (.pointer (some ⟨b, o, none⟩)), .c (.agg #[.int .u8 kd, .int .i64 nn, .string ns, .slice na nl.length nc]), .c (.int .i64 F), .c (.int .i64 F)] trivial (dJ rfl) ?steps ?done
  case steps =>
    refine⟨?s0, ?s1, ?s2, ?s3, ?s4, trivial⟩
    case s0 =>
      refine oo (λvs x hP => ?_)
      simp only[zS]
      go_simp
      exact gc
    case s1 =>
      refine ok HK (λvs x1 hG HX hP => ?_)
      have HC := Lib.hid (qK.out x1 HX.out.2.1)
      simp only[zS]
      go_simp
      refine(HC.out).mono ?_
      rintro e y ⟨rfl, rfl⟩
      exact⟨_, rfl, gm (Mv.refl _ _) rfl⟩
    case s2 =>
      refine ok HK (λvs x1 hG HX hP => ?_)
      obtain⟨⟨n0, n1⟩, n2, n3⟩ := aJ HX.out.1
      simp only[zS]
      go_simp
      exact gc
    case s3 =>
      refine ok HK (λvs x1 hG HX hP => ?_)
      have HC := Lib.hid (uP.out x1 HX.out.2.2)
      simp only[zS]
      go_simp
      refine(HC.out).mono ?_
      rintro e y ⟨rfl, hg⟩
      exact⟨_, rfl, gm hg rfl⟩
    case s4 =>
      refine oo (λvs x hP => ?_)
      simp only[zS]
      go_simp
      exact gc
  case done =>
  intro vs wx hE
  have hG := hE.grow
  have aT := Lib.hid (gtr HG2.out hG)
  have nK := Lib.hid (ai bL.out hG)
  clear hE hG n0 n1 n2 n3 hnl
  simp only[zS, Nat.reduceAdd]
  obtain⟨⟨n0, n1⟩, n2, n3⟩ := aJ nK.out
  have hnl := lt_of_block nK.out
  rcases FV.out with⟨h0, hres⟩|⟨h0, u, v, c, val, h1, h2, h3, h4, h5, hres⟩
  · have hb : (F != 0) = true := by simpa using h0
    have HQ := Lib.hid (show dU w0 p fuel k x w res (.returned (.int .i64 F)) wx from by rw[hres]; exact⟨⟨rfl, h0⟩, .new (HS.out.later aT.out).g aT.out⟩)
    clear h0 hres FV qM uP gu
    go_wp2_with fail
    go_ret
    exact HQ.out
  · subst h0
    have KG := Lib.hid (gu.out wx aT.out u v c val h1 h2 h3 h4 h5)
    rw[← hres]at KG
    clear hres FV qM uP gu h1 h2 h3 h4 h5
    go_wp2_with fail
    refine KG.out.mono ?_
    intro e w4 hq
    obtain⟨n, rfl⟩ := hq.int
    have HQ := Lib.hid (dU.trans (ax.grow aT.out) hq)
    clear hq
    go_wp2_with fail
    go_ret
    exact HQ.out
theorem Tt {kd nn : Int} {ns : ByteArray} {l : List Tree} (hk : kd = 44 \/ kd = 45) : aX (.mk (oh kd) nn ns l) = aX (.mk kd nn ns l) := by
  rcases hk with rfl|rfl <;> rfl
set_option maxRecDepth 100000 in
set_option maxHeartbeats 6400000 in
theorem SH (w0 : World) (p : az) (fuel k : Nat) (w : World) (x : aK) (s : ah) (kd nn : Int) (ns : ByteArray) (nv : Value) (kk kn : Int) (ks : ByteArray) (kv : Value) (kl : List ae) (res : Except Int ah) (hk : kd = 44 \/ kd = 45) (h : aG w0 p fuel k w x s) (hf : ∀ b, w.heap.size <= b -> x.ρ b = .other) (hn : bJ w (.mk kd nn ns nv [.mk kk kn ks kv kl])) (hs : aX (ae.t (.mk kd nn ns nv [.mk kk kn ks kv kl])) = true) (hkk : kk = 2) (hr : s.move (oh kd == 44) ns ks = some res) :
    Calls Tryz.prog 123 #[.pointer (some ⟨x.S, 0, none⟩), ae.val (.mk kd nn ns nv [.mk kk kn ks kv kl])] w (dU w0 p fuel k x w res) := by
  have hk2 : oh kd = 44 \/ oh kd = 45 := by rcases hk with rfl|rfl <;> simp[oh]
  have vM := Lib.hid (λz (hz : Grow w z) => JO w0 p fuel k z x s (oh kd) nn ns nv kk kn ks kv kl res hk2 (h.later hz) (λb hb => hf b (Nat.le_trans hz.size hb)) (by
    obtain⟨-, r2, r3, r4, r5⟩ := (hn.later hz).row
    exact .mk (by rcases hk2 with e|e <;> rw[e] <;> decide) r2 r3 r4 r5) (by rw[ae.t, Tt hk, ← hs, ae.t]) hkk hr)
  have vE := Lib.hid (λz => Qn kd z hk)
  have bR := Lib.hid (λ(b : Nat) (hb : w.heap.size <= b) => hb)
  generalize hnl : [ae.mk kk kn ks kv kl] = nl at *
  obtain⟨na, nc, rfl, -, -⟩ := hn.form
  have aj := Lib.hid (show Grow w (w.alloc (.cells #[.int .u8 kd, .int .i64 nn, .string ns, .slice na nl.length nc] 40))from(Mv.refl _ w).alloc _)
  have aY := Lib.hid (heap_alloc_new w (.cells #[.int .u8 kd, .int .i64 nn, .string ns, .slice na nl.length nc] 40))
  have hsz : w.heap.size <= w.heap.size := Nat.le_refl _
  generalize oh kd = kd' at *
  clear h hf hn hs hr hk hnl hk2
  simp only[ae.val]at vM ⊢
  go_enter Tryz.func123, Tryz.ntmps123
  go_wp2_with fail
  generalize (w.alloc (.cells #[.int .u8 kd, .int .i64 nn, .string ns, .slice na nl.length nc] 40)) = w1 at *
  refine(vE.out w1).mono ?_
  rintro e w2 ⟨rfl, rfl⟩
  clear vE
  have hb2 := block_setCell (p := ⟨w.heap.size, 0, none⟩) aY.out rfl (.int .u8 kd')
  have HG2 := Lib.hid (bN aj.out ((Mv.refl (λb => b = w.heap.size) w1).setCell (p := ⟨w.heap.size, 0, none⟩) (.inl rfl) (.int .u8 kd')) (λb e => by omega))
  obtain⟨⟨n0, n1⟩, n2, n3⟩ := aJ aY.out
  have hnl := lt_of_block aY.out
  have zt := bD aY.out
  have bL := Lib.hid (show(w1.setCell ⟨w.heap.size, 0, none⟩ (.int .u8 kd')).heap[w.heap.size]? = some (.cells #[.int .u8 kd', .int .i64 nn, .string ns, .slice na nl.length nc] 40 (0, 0))from by rw[hb2]; simp)
  clear hb2
  go_upto_region 2 with fail
  clear n0 n1 n2 n3 zt hnl
  generalize w1.setCell ⟨w.heap.size, 0, none⟩ (.int .u8 kd') = w2 at *
  obtain⟨⟨n0, n1⟩, n2, n3⟩ := aJ bL.out
  have hnl := lt_of_block bL.out
  go_wp2_with fail
  refine(vM.out _ HG2.out).mono ?_
  intro e w4 hq
  obtain⟨n, rfl⟩ := hq.int
  have HQ := Lib.hid (dU.trans (ax.grow HG2.out) hq)
  clear hq
  go_wp2_with fail
  go_ret
  exact HQ.out
def Ei (w0 : World) (p : az) (fuel k g : Nat) : Prop := ∀ (w : World) (x : aK) (s : ah) (res : Except Int ah) (n : ae) (b : Bool), aG w0 p fuel k w x s -> aS (λ_ => True) w0 n -> exec (p.procs.map aO.d) fuel g (.stmt n.t) b s = some res ->
  Calls Tryz.prog 88 #[.pointer (some ⟨x.R, 0, none⟩), n.val, .bool b] w (bZ w0 p fuel k x w res)
def rH (w0 : World) (p : az) (fuel k g : Nat) : Prop := ∀ (w : World) (x : aK) (s : ah) (res : Except Int ah) (n : ae) (b : Bool), aG w0 p fuel k w x s -> aS (λ_ => True) w0 n -> exec (p.procs.map aO.d) fuel g (.stmts (turned b n.t.kids)) b s = some res ->
  Calls Tryz.prog 61 #[.pointer (some ⟨x.R, 0, none⟩), n.val, .bool b] w (bZ w0 p fuel k x w res)
theorem wJ {α β : Type} {x : Option (Except Int α)} {f : α -> Option (Except Int β)} {res : Except Int β} (h : aI x f = some res) : (∃ e, x = some (.error e) /\ res = .error e) \/ ∃ a, x = some (.ok a) /\ f a = some res := by
  rcases x with - | e|a
  · cases h
  · exact .inl ⟨e, rfl, (Option.some.inj h).symm⟩
  · exact .inr ⟨a, rfl, h⟩
theorem Qu {α : Type} (b : Bool) (l : List α) (i : Nat) (hi : i < l.length) : ∃ h : i < (turned b l).length, ∃ hj : (if b then l.length - 1 - i else i) < l.length, (turned b l)[i] = l[if b then l.length - 1 - i else i] := by
  cases b with
  |false => exact⟨hi, hi, rfl⟩
  |true => exact⟨by simpa[turned]using hi, by simp only[if_true]; omega, by simp[turned, List.getElem_reverse]⟩
theorem Qv {α : Type} (b : Bool) (l : List α) : (turned b l).length = l.length := by cases b <;> simp[turned]
theorem aS.up {P : Nat -> Prop} {w w' : World} {n : ae} (h : aS P w n) (hg : Grow w w') : aS P w' n := h.stay hg (λ_ _ _ _ _ e => e)
theorem aS.kids {P : Nat -> Prop} {w : World} {k n : Int} {s : ByteArray} {kv : Value} {l : List ae} (h : aS P w (.mk k n s kv l)) : ∀ x ∈ l, aS P w x := by
  cases h with
  |mk _ _ _ _ _ e => exact e
set_option maxRecDepth 100000 in
set_option maxHeartbeats 6400000 in
theorem Qw {w0 : World} {p : az} {fuel k g : Nat} (IH : ∀ g', g' < g -> Ei w0 p fuel k g') : rH w0 p fuel k g := by
  intro w x s res n b h hno hex
  have gD := Lib.hid IH
  obtain⟨x1, hr1, ho, h1⟩ := h.fresh
  rw[show x.R = x1.R from hr1.R.symm]
  refine Calls.mono ?_ (λe w' (hq : bZ w0 p fuel k x1 w res e w') => hq.of hr1)
  clear hr1 h IH
  revert h1 ho
  generalize x1 = x
  intro ho h
  have ji := Lib.hid hno
  obtain⟨nk, nn, ns, nv, nl⟩ := n
  obtain⟨na, nc, rfl, hnc, hnl⟩ := hno.at.form
  have aj := Lib.hid (show Grow w (w.alloc (.cells #[.int .u8 nk, .int .i64 nn, .string ns, .slice na nl.length nc] 40))from(Mv.refl _ w).alloc _)
  have aY := Lib.hid (heap_alloc_new w (.cells #[.int .u8 nk, .int .i64 nn, .string ns, .slice na nl.length nc] 40))
  have iw := Lib.hid (h.later aj.out)
  have gu := Lib.hid (show exec (p.procs.map aO.d) fuel (g - 0) (.stmts ((turned b (ae.ts nl)).drop 0)) b s = some res from by
    rw[ae.t]at hex; exact hex)
  clear hno hex h ho
  simp only[ae.val]
  go_enter Tryz.func61, Tryz.ntmps61
  go_wp2_with fail
  generalize (w.alloc (.cells #[.int .u8 nk, .int .i64 nn, .string ns, .slice na nl.length nc] 40)) = w1 at *
  obtain⟨⟨n0, n1⟩, n2, n3⟩ := aJ aY.out
  have hbl := lt_of_block aY.out
  go_wp2_with fail
  clear n0 n1 n2 n3 hbl
  go_loopw [15] (λt wr => ∃ (i : Nat) (xi : aK) (si : ah), t = .int .i64 i /\ i <= nl.length /\ ax x xi w1 wr /\ aG w0 p fuel k wr xi si /\ exec (p.procs.map aO.d) fuel (g - i) (.stmts ((turned b (ae.ts nl)).drop i)) b si = some res) (λt _ => nl.length - (intOf t).toNat)
  case atStart => exact⟨0, x, s, rfl, Nat.zero_le _, ax.refl _ _, iw.out, gu.out⟩
  obtain⟨i, xi, si, rfl, hi, sZ, hsi, KH⟩ := hrel
  have HR := Lib.hid sZ
  have HS := Lib.hid hsi
  have HE := Lib.hid KH
  clear sZ hsi KH
  have oU := Lib.hid (HR.out.n _ _ _ aY.out)
  obtain⟨⟨n0, n1⟩, n2, n3⟩ := aJ oU.out
  have hbl := lt_of_block oU.out
  rcases Nat.lt_or_ge i nl.length with hlt|hge
  · have BK : decide ((i : Int) < nl.length) = true := by simp; omega
    obtain⟨ht, hj, hte⟩ := Qu b (ae.ts nl) i (by rw[ae.dB]; exact hlt)
    rw[ae.dB]at hj
    have hg : ∃ m, g - i = m + 1 := by
      rcases Nat.eq_zero_or_pos (g - i)with e|e
      · have := HE.out
        rw[e]at this
        cases this
      · exact⟨g - i - 1, by omega⟩
    obtain⟨m, hm⟩ := hg
    have JP : (turned b (ae.ts nl)).drop i = (turned b (ae.ts nl))[i] :: (turned b (ae.ts nl)).drop (i + 1) := List.drop_eq_getElem_cons ht
    have he2 := HE.out
    rw[hm, JP, hte]at he2
    have HX := Lib.hid (wJ he2)
    have Cr := Lib.hid (show m < g /\ g - (i + 1) = m from by omega)
    clear he2 JP hm hte ht
    have HRW := Lib.hid ((ji.out.up HS.out.g).at.row.2.2.2.1)
    have xJ := Lib.hid (ji.out.kids)
    simp only[ae.dB]at HX
    have hkt := ae.oG nl (if b then nl.length - 1 - i else i) hj
    simp only[hkt]at HX
    clear hkt
    have hidx : ∃ j, (if b then nl.length - 1 - i else i) = j := ⟨_, rfl⟩
    obtain⟨j, zu⟩ := hidx
    simp only[zu]at HX hj
    have Ab := Lib.hid (xJ.out _ (List.getElem_mem hj))
    obtain⟨kb, ko, cap, e, _, -⟩ := HRW.out.at hj
    simp only[Value.slice.injEq, true_and]at e
    obtain⟨rfl, rfl⟩ := e
    obtain⟨kk, kn, ks, ka, kc, kl, hke, ⟨d0, d1⟩, d2, d3⟩ := Bb HRW.out (λy hy => (xJ.out y hy).at.later HS.out.g) hj
    have hkl := World.block_lt_of_cell? wr _ d0
    simp only at hkl
    rw[hke]at Ab HX
    have Ct := Lib.hid zu
    clear hke zu
    have qF := Lib.hid HR.out.R
    rcases HX.out with⟨e, hx, hres⟩|⟨s', hx, hrest⟩
    · have HST := Lib.hid (gD.out m Cr.out.1 wr xi si _ _ b HS.out Ab.out hx)
      rw[qF.out]at HST
      have kV := Lib.hid hres
      simp only[ae.val]at HST
      clear hx hres
      cases b with
      |true =>
        have zX : (nl.length : Int) - 1 - i = (j : Int) := by have := Ct.out; simp only[if_true]at this; omega
        go_wp2_with fail
        refine HST.out.mono ?_
        rintro e2 w2 ⟨⟨rfl, hn0⟩, hg⟩
        refine⟨rfl, ?_⟩
        rw[kV.out]
        exact⟨⟨rfl, hn0⟩, .of ((ax.grow aj.out).trans HR.out) hg⟩
      |false =>
        obtain rfl : i = j := by have := Ct.out; simpa using this
        go_wp2_with fail
        refine HST.out.mono ?_
        rintro e2 w2 ⟨⟨rfl, hn0⟩, hg⟩
        refine⟨rfl, ?_⟩
        rw[kV.out]
        exact⟨⟨rfl, hn0⟩, .of ((ax.grow aj.out).trans HR.out) hg⟩
    · have HST := Lib.hid (gD.out m Cr.out.1 wr xi si _ _ b HS.out Ab.out hx)
      rw[qF.out]at HST
      have dx := Lib.hid hrest
      simp only[ae.val]at HST
      clear hx hrest
      cases b with
      |true =>
        have zX : (nl.length : Int) - 1 - i = (j : Int) := by have := Ct.out; simp only[if_true]at this; omega
        go_wp2_with fail
        refine HST.out.mono ?_
        rintro e2 w2 ⟨rfl, x', hr', hs'⟩
        have HQ := Lib.hid (And.intro (HR.out.trans hr') hs')
        clear hr' hs'
        go_wp2_with fail
        go_roundw
        case rel => exact⟨i + 1, x', s', by go_num, by omega, HQ.out.1, HQ.out.2, by rw[Cr.out.2]; exact dx.out⟩
        case measure => simp[intOf] <;> omega
      |false =>
        obtain rfl : i = j := by have := Ct.out; simpa using this
        go_wp2_with fail
        refine HST.out.mono ?_
        rintro e2 w2 ⟨rfl, x', hr', hs'⟩
        have HQ := Lib.hid (And.intro (HR.out.trans hr') hs')
        clear hr' hs'
        go_wp2_with fail
        go_roundw
        case rel => exact⟨i + 1, x', s', by go_num, by omega, HQ.out.1, HQ.out.2, by rw[Cr.out.2]; exact dx.out⟩
        case measure => simp[intOf] <;> omega
  · obtain rfl : i = nl.length := by omega
    have hlt : decide ((nl.length : Int) < nl.length) = false := by simp
    have hre : res = .ok si := by
      have he := HE.out
      rw[List.drop_eq_nil_of_le (by rw[Qv, ae.dB]; exact Nat.le_refl _)]at he
      cases hgm : g - nl.length with
      |zero => rw[hgm]at he; cases he
      |succ m => rw[hgm]at he; exact(Option.some.inj he).symm
    have HQ := Lib.hid (show bZ w0 p fuel k x w res (.returned (.tuple #[])) wr from by rw[hre]; exact⟨rfl, xi, (ax.grow aj.out).trans HR.out, HS.out⟩)
    clear hre HE
    go_wp2_with fail
    go_end0
    exact HQ.out
end Go.Proofs.YtbpodipdfohikaaGreat
