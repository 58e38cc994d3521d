import Derived.Test.YtbpodipdfohikaaGreatL09
import Derived.Test.YtbpodipdfohikaaGreatL12
import Derived.Laws.StructEq
import Derived.RangeFuncNested
import Derived.RangeFuncFrom
import Derived.RangeFuncBound
import Derived.RangeFuncLeaves
set_option linter.unusedSimpArgs false
set_option linter.unusedVariables false
set_option maxRecDepth 100000
set_option maxHeartbeats 25600000
namespace Go.Proofs.YtbpodipdfohikaaGreat
open Go.RowKit
theorem QQ (l : List bA) (k : Nat) (h : k < l.length) : (l.take (k + 1)).all bA.okB = ((l.take k).all bA.okB && l[k].okB) := by
  rw[List.take_succ_eq_append_getElem h, List.all_append]; simp
theorem Qj (l : List bA) (k : Nat) (h : k < l.length) (hf : l[k].okB = false) : l.all bA.okB = false := by
  apply Bool.eq_false_iff.2
  intro ha
  have := List.all_eq_true.1 ha l[k] (List.getElem_mem h)
  rw[hf]at this; cases this
theorem ru.cells {w : World} {v : Value} {l : List aO} (h : ru w v l) {i : Nat} (hi : i < l.length) {len cap b off : Nat} (hv : v = .slice (some ⟨b, off, none⟩) len cap) : ∀ (j : Nat) (u : Value), (aO.cells l[i])[j]? = some u -> w.cell? ⟨b, off + i * 6 + j, none⟩ = some u := by
  subst hv; exact h.row.at' hi
theorem jc.form {w : World} {vars : List au} {vv : Value} {procs : List aO} {pv : Value} {m : ae} (h : jc w ⟨vars, vv, procs, pv, m⟩) : (∃ a c, vv = .slice a vars.length c) /\ (∃ a c, pv = .slice a procs.length c) /\ bJ w m := by
  obtain⟨a, c, h1, -, -⟩ := h.vars.form
  obtain⟨a', c', h2, -, -⟩ := h.procs.row.form
  exact⟨⟨a, c, h1⟩, ⟨a', c', h2⟩, h.main⟩
theorem Hr (vars : List au) (vv : Value) (procs : List aO) (pv : Value) (m : ae) : lJ.okB (az.d ⟨vars, vv, procs, pv, m⟩) = ((decide (vars.length <= 32) && (decide (procs.length <= 64) && vars.all au.decl)) && ((procs.map aO.d).all bA.okB && jb m.t)) := by
  rw[az.d, lJ.okB]
  simp only[List.length_map]
set_option maxRecDepth 100000 in
set_option maxHeartbeats 6400000 in
theorem GM (p : az) (w : World) (hp : jc w p) : Calls Tryz.prog 19 #[p.val] w (fq w p.d.okB) := by
  obtain⟨vars, vv, procs, pv, ⟨k, n, s, kv, l⟩⟩ := p
  obtain⟨⟨va, vc, rfl⟩, ⟨pa, pc, rfl⟩, hm⟩ := hp.form
  obtain⟨ka, kc, rfl, -, -⟩ := hm.form
  clear hm
  have HP := Lib.hid hp
  clear hp
  have HR := Lib.hid (show lJ.okB (az.d ⟨vars, .slice va vars.length vc, procs, .slice pa procs.length pc, .mk k n s (.slice ka l.length kc) l⟩) = ((decide (vars.length <= 32) && (decide (procs.length <= 64) && vars.all au.decl)) && ((procs.map aO.d).all bA.okB && jb (ae.t (.mk k n s (.slice ka l.length kc) l))))from by
    exact Hr _ _ _ _ _)
  generalize lJ.okB (az.d ⟨vars, .slice va vars.length vc, procs, .slice pa procs.length pc, .mk k n s (.slice ka l.length kc) l⟩) = R at *
  simp only[az.val]
  have aj := Lib.hid (show Grow w (w.alloc (.cells #[.slice va vars.length vc, .slice pa procs.length pc, .int .u8 k, .int .i64 n, .string s, .slice ka l.length kc] 42))from(Mv.refl _ w).alloc _)
  have jE := Lib.hid (heap_alloc_new w (.cells #[.slice va vars.length vc, .slice pa procs.length pc, .int .u8 k, .int .i64 n, .string s, .slice ka l.length kc] 42))
  by_cases hv32 : vars.length <= 32
  · by_cases Eu : procs.length <= 64
    · have d1 : decide (32 < (vars.length : Int)) = false := by simp; omega
      have d2 : decide (64 < (procs.length : Int)) = false := by simp; omega
      have HD := Lib.hid (Gs _ vars (w.alloc (.cells #[.slice va vars.length vc, .slice pa procs.length pc, .int .u8 k, .int .i64 n, .string s, .slice ka l.length kc] 42)) (HP.out.vars.later aj.out) HP.out.Ju)
      have MX := Lib.hid (λz (hz : Grow w z) => GJ (.mk k n s (.slice ka l.length kc) l) z (HP.out.main.later hz))
      simp only[ae.val]at MX
      go_enter Tryz.func19, Tryz.ntmps19
      go_wp2_with fail
      generalize (w.alloc (.cells #[.slice va vars.length vc, .slice pa procs.length pc, .int .u8 k, .int .i64 n, .string s, .slice ka l.length kc] 42)) = w1 at *
      refine HD.out.mono ?_
      rintro e w2 ⟨rfl, hg2⟩
      have HG2 := Lib.hid (gtr aj.out hg2)
      obtain⟨⟨x0, x1, x2⟩, x3, x4, x5⟩ := cB (ai jE.out hg2)
      have eH := Lib.hid (ai jE.out hg2)
      have hxl := lt_of_block eH.out
      clear hg2
      cases hva : vars.all au.decl with
      |false =>
        have HF := Lib.hid (show R = false from by rw[HR.out, hva]; simp)
        clear hva
        go_wp2_with fail
        go_ret
        exact⟨aU HF.out.symm, HG2.out⟩
      |true =>
        have HR2 := Lib.hid (show R = ((procs.map aO.d).all bA.okB && jb (ae.t (.mk k n s (.slice ka l.length kc) l)))from by rw[HR.out, hva]; simp[hv32, Eu])
        clear hva
        go_wp2_with fail
        go_loopw [24] (λt wr => ∃ j : Nat, t = .int .i64 j /\ j <= procs.length /\ Grow w2 wr /\ ((procs.map aO.d).take j).all bA.okB = true) (λt _ => procs.length - (intOf t).toNat)
        case atStart => exact⟨0, rfl, Nat.zero_le _, Mv.refl _ _, rfl⟩
        obtain⟨j, rfl, hj, hg, hall⟩ := hrel
        have HG := Lib.hid (gtr HG2.out hg)
        have bR := Lib.hid hg
        have HA := Lib.hid hall
        clear hall hg
        by_cases hlt : j < procs.length
        · obtain⟨pb, po, gP, hpv, -, hcc⟩ := (HP.out.procs.later HG.out).row.at hlt
          simp only[Value.slice.injEq, true_and]at hpv
          obtain⟨rfl, rfl⟩ := hpv
          have jT : j < (procs.map aO.d).length := by simpa using hlt
          have HT := Lib.hid (λ(h : (procs[j].d).okB = true) => show((procs.map aO.d).take (j + 1)).all bA.okB = true from by rw[QQ _ j jT, HA.out, List.getElem_map, h]; rfl)
          have HF := Lib.hid (λ(h : (procs[j].d).okB = false) => show R = false from by rw[HR2.out, Qj _ j jT (by rw[List.getElem_map]; exact h)]; rfl)
          have fP := Lib.hid ((HP.out.procs.later HG.out).each _ (List.getElem_mem hlt))
          have VM := Lib.hid (HP.out.Jv _ (List.getElem_mem hlt))
          generalize procs[j] = q at *
          obtain⟨qs, aM, qv, ⟨bk, bn, bs, bv, bl⟩⟩ := q
          obtain⟨qa, qc, rfl, -, -⟩ := fP.out.form
          obtain⟨ba, bc, rfl, -, -⟩ := fP.out.body.form
          have HQ := Lib.hid (show bA.okB (aO.d ⟨qs, aM, .slice qa aM.length qc, .mk bk bn bs (.slice ba bl.length bc) bl⟩) = (iP qs && (decide (aM.length <= 8) && (aM.all au.decl && jb (ae.t (.mk bk bn bs (.slice ba bl.length bc) bl)))))from rfl)
          generalize bA.okB (aO.d ⟨qs, aM, .slice qa aM.length qc, .mk bk bn bs (.slice ba bl.length bc) bl⟩) = RQ at *
          have c0 := hcc 0 _ rfl
          have c1 := hcc 1 _ rfl
          have c2 := hcc 2 _ rfl
          have c3 := hcc 3 _ rfl
          have c4 := hcc 4 _ rfl
          have c5 := hcc 5 _ rfl
          simp only[Nat.add_zero]at c0
          have hbl : pb < wr.heap.size := World.block_lt_of_cell? wr _ c0
          clear hcc
          have bE := Lib.hid (show Grow w (wr.alloc (.cells #[.string qs, .slice qa aM.length qc, .int .u8 bk, .int .i64 bn, .string bs, .slice ba bl.length bc] 48))from HG.out.alloc _)
          have oV := Lib.hid (show Grow w2 (wr.alloc (.cells #[.string qs, .slice qa aM.length qc, .int .u8 bk, .int .i64 bn, .string bs, .slice ba bl.length bc] 48))from bR.out.alloc _)
          have uS := Lib.hid (heap_alloc_new wr (.cells #[.string qs, .slice qa aM.length qc, .int .u8 bk, .int .i64 bn, .string bs, .slice ba bl.length bc] 48))
          have pz := Lib.hid (λz (hz : Grow wr z) => fP.out.later hz)
          have zN := Lib.hid (Dw qs (wr.alloc (.cells #[.string qs, .slice qa aM.length qc, .int .u8 bk, .int .i64 bn, .string bs, .slice ba bl.length bc] 48)) fP.out.name)
          have iI := Lib.hid (show Grow wr (wr.alloc (.cells #[.string qs, .slice qa aM.length qc, .int .u8 bk, .int .i64 bn, .string bs, .slice ba bl.length bc] 48))from(Mv.refl _ wr).alloc _)
          go_wp2_with fail
          generalize (wr.alloc (.cells #[.string qs, .slice qa aM.length qc, .int .u8 bk, .int .i64 bn, .string bs, .slice ba bl.length bc] 48)) = w3 at *
          refine zN.out.mono ?_
          rintro e w4 ⟨rfl, hg4⟩
          have bB := Lib.hid (gtr bE.out hg4)
          have Uh := Lib.hid (gtr oV.out hg4)
          have J7 := Lib.hid (gtr iI.out hg4)
          obtain⟨⟨y0, y1, y2⟩, y3, y4, y5⟩ := cB (ai uS.out hg4)
          have nG := Lib.hid (ai uS.out hg4)
          have hyl := lt_of_block nG.out
          clear hg4 c0 c1 c2 c3 c4 c5
          cases hnb : iP qs with
          |false =>
            have HX := Lib.hid (HF.out (by rw[HQ.out, hnb]; rfl))
            clear hnb
            go_wp2_with fail
            go_ret
            exact⟨aU HX.out.symm, bB.out⟩
          |true =>
            by_cases hq8 : aM.length <= 8
            · have d3 : decide (8 < (aM.length : Int)) = false := by simp; omega
              have Cf := Lib.hid (show RQ = (aM.all au.decl && jb (ae.t (.mk bk bn bs (.slice ba bl.length bc) bl)))from by rw[HQ.out, hnb]; simp[hq8])
              have VN := Lib.hid (Gs _ aM w4 ((pz.out _ J7.out).params) VM.out)
              clear hnb
              go_wp2_with fail
              refine VN.out.mono ?_
              rintro e w5 ⟨rfl, hg5⟩
              have bI := Lib.hid (gtr bB.out hg5)
              have Ui := Lib.hid (gtr Uh.out hg5)
              obtain⟨⟨y0, y1, y2⟩, y3, y4, y5⟩ := cB (ai nG.out hg5)
              have pg := Lib.hid (GJ _ w5 ((pz.out _ (gtr J7.out hg5)).body))
              have hyl := lt_of_block (ai nG.out hg5)
              simp only[ae.val]at pg
              clear hg5
              cases Cg : aM.all au.decl with
              |false =>
                have HX := Lib.hid (HF.out (by rw[Cf.out, Cg]; rfl))
                clear Cg
                go_wp2_with fail
                go_ret
                exact⟨aU HX.out.symm, bI.out⟩
              |true =>
                have MZ := Lib.hid (show RQ = jb (ae.t (.mk bk bn bs (.slice ba bl.length bc) bl))from by rw[Cf.out, Cg]; rfl)
                clear Cg
                go_wp2_with fail
                refine pg.out.mono ?_
                rintro e w6 ⟨rfl, jX⟩
                have Na := Lib.hid (gtr bI.out jX)
                have Uj := Lib.hid (gtr Ui.out jX)
                clear jX y0 y1 y2 y3 y4 y5
                cases hib : jb (ae.t (.mk bk bn bs (.slice ba bl.length bc) bl))with
                |false =>
                  have HX := Lib.hid (HF.out (by rw[MZ.out, hib]))
                  clear hib
                  go_wp2_with fail
                  go_ret
                  exact⟨aU HX.out.symm, Na.out⟩
                |true =>
                  have HX := Lib.hid (HT.out (by rw[MZ.out, hib]))
                  clear hib
                  go_wp2_with fail
                  go_roundw
                  case rel => exact⟨j + 1, by go_num, by omega, Uj.out, HX.out⟩
                  case measure => simp[intOf]; omega
            · have d3 : decide (8 < (aM.length : Int)) = true := by simp; omega
              have HX := Lib.hid (HF.out (by rw[HQ.out]; simp[hq8]))
              clear hnb
              go_wp2_with fail
              go_ret
              exact⟨aU HX.out.symm, bB.out⟩
        · obtain rfl : j = procs.length := by omega
          have qF := Lib.hid (show R = jb (ae.t (.mk k n s (.slice ka l.length kc) l))from by
            have h := HA.out
            rw[List.take_of_length_le (by simp)]at h
            rw[HR2.out, h]; rfl)
          obtain⟨⟨x0, x1, x2⟩, x3, x4, x5⟩ := cB (ai eH.out bR.out)
          have hxl := lt_of_block (ai eH.out bR.out)
          have xC := Lib.hid (MX.out wr HG.out)
          go_wp2_with fail
          refine xC.out.mono ?_
          rintro e w3 ⟨rfl, hg3⟩
          have aA := Lib.hid (gtr HG.out hg3)
          clear hg3 x0 x1 x2 x3 x4 x5
          go_wp2_with fail
          go_ret
          exact⟨aU qF.out.symm, aA.out⟩
    · have d1 : decide (32 < (vars.length : Int)) = false := by simp; omega
      have d2 : decide (64 < (procs.length : Int)) = true := by simp; omega
      have HF := Lib.hid (show R = false from by rw[HR.out]; simp[Eu])
      go_enter Tryz.func19, Tryz.ntmps19
      go_wp2_with fail
      go_ret
      exact⟨aU HF.out.symm, aj.out⟩
  · have d1 : decide (32 < (vars.length : Int)) = true := by simp; omega
    have HF := Lib.hid (show R = false from by rw[HR.out]; simp[hv32])
    go_enter Tryz.func19, Tryz.ntmps19
    go_wp2_with fail
    go_ret
    exact⟨aU HF.out.symm, aj.out⟩
def fD : List au -> ByteArray -> Option au
  | [], _ => none
  |v :: l, n => match fD l n with
    |some x => some x
    |none => if v.name == n then some v else none
theorem Dc (l : List au) (n : ByteArray) (h : ∀ j (hj : j < l.length), (l[j].name == n) = false) : fD l n = none := by
  induction l with
  |nil => rfl
  |cons v l ih =>
    have h1 := ih (λj hj => h (j + 1) (by simpa using hj))
    have h2 := h 0 (by simp)
    rw[fD, h1]
    simp only[List.getElem_cons_zero]at h2
    simp[h2]
theorem Di (n : ByteArray) : ∀ (l : List au) (i : Nat) (hi : i < l.length), (l[i].name == n) = true -> (∀ j (hj : j < l.length), i < j -> (l[j].name == n) = false) -> fD l n = some l[i]
  | [], i, hi, _, _ => by simp at hi
  |v :: l, 0, _, h, hn => by
    rw[fD, Dc l n (λj hj => hn (j + 1) (by simpa using hj) (by omega))]
    simp only[List.getElem_cons_zero]at h ⊢
    simp[h]
  |v :: l, i + 1, hi, h, hn => by
    have := Di n l i (by simpa using hi) h (λj hj hij => hn (j + 1) (by simpa using hj) (by omega))
    rw[fD, this]
    rfl
def jJ : au := ⟨⟨#[]⟩, 0, 0⟩
def JJ (l : List au) (n : ByteArray) (w : World) (e : Ending) (w' : World) : Prop := e = .returned (.tuple #[((fD l n).getD jJ).val, .bool (fD l n).isSome]) /\ Grow w w'
theorem dF {w : World} {X : Nat} {c0 c1 c2 : Value} {t : TypeId} (h : w.heap[X]? = some (.cells #[c0, c1, c2] t (0, 0))) : w.cell? ⟨X, 0, none⟩ = some c0 /\ w.cell? ⟨X, 1, none⟩ = some c1 /\ w.cell? ⟨X, 2, none⟩ = some c2 := by
  simp[World.cell?, h]
set_option maxRecDepth 100000 in
set_option maxHeartbeats 3200000 in
theorem A8 (v : Value) (l : List au) (n : ByteArray) (w : World) (h : ay 3 au.cells w v l) : Calls Tryz.prog 73 #[v, .string n] w (JJ l n w) := by
  obtain⟨va, vc, rfl, lZ, hvl⟩ := h.form
  have HR := Lib.hid h
  clear h
  have aj := Lib.hid (show Grow w (w.alloc (.cells #[.string ⟨#[]⟩, .int .u8 0, .int .i64 0] 50))from(Mv.refl _ w).alloc _)
  have jE := Lib.hid (heap_alloc_new w (.cells #[.string ⟨#[]⟩, .int .u8 0, .int .i64 0] 50))
  have hxl : w.heap.size < (w.alloc (.cells #[.string ⟨#[]⟩, .int .u8 0, .int .i64 0] 50)).heap.size := by simp
  go_enter Tryz.func73, Tryz.ntmps73
  go_wp2_with fail
  generalize hw1 : (w.alloc (.cells #[.string ⟨#[]⟩, .int .u8 0, .int .i64 0] 50)) = w1 at *
  clear hw1
  go_loopw [6] (λt wr => ∃ i : Int, t = .int .i64 i /\ -1 <= i /\ i < l.length /\ wr = w1 /\ ∀ j (hj : j < l.length), i < (j : Int) -> (l[j].name == n) = false) (λt _ => (intOf t + 1).toNat)
  case atStart => exact⟨(l.length : Int) - 1, rfl, by omega, by omega, rfl, λj hj h => by omega⟩
  obtain⟨i, rfl, hi1, hi2, rfl, hall⟩ := hrel
  have HA := Lib.hid hall
  clear hall
  obtain⟨x0, x1, x2⟩ := dF jE.out
  have zt := bD jE.out
  by_cases hneg : 0 <= i
  · obtain⟨k, rfl⟩ := Int.eq_ofNat_of_zero_le hneg
    have hk : k < l.length := by omega
    obtain⟨b, off, cap', e, _, hcc⟩ := (HR.out.later aj.out).at hk
    simp only[Value.slice.injEq, true_and]at e
    obtain⟨rfl, rfl⟩ := e
    have c0 := hcc 0 _ rfl
    have c1 := hcc 1 _ rfl
    have c2 := hcc 2 _ rfl
    have HT := Lib.hid (λ(h : (l[k].name == n) = true) => Di n l k hk h (λj hj hij => HA.out j hj (by omega)))
    have HF := Lib.hid (λ(h : (l[k].name == n) = false) (j : Nat) (hj : j < l.length) (hij : (k : Int) - 1 < j) => show(l[j].name == n) = false from by
      by_cases hjk : j = k
      · subst hjk; exact h
      · exact HA.out j hj (by omega))
    generalize l[k] = x at *
    obtain⟨xs, xk, xn⟩ := x
    have hbb := Bv xs n
    simp only[Nat.add_zero]at c0
    have hbl : b < wr.heap.size := World.block_lt_of_cell? wr _ c0
    have hge : decide ((0 : Int) <= k) = true := by simp
    clear hcc
    cases hn : (xs == n)with
    |true =>
      rw[hn]at hbb
      have u6 := Lib.hid (HT.out hn)
      clear HT HF hn
      obtain⟨hs1, hs2⟩ := rX jE.out (.string xs) (.int .u8 xk) (.int .i64 xn)
      go_wp2_with fail
      obtain⟨t0, t1, t2⟩ := dF hs1
      exact bodyPost_ret (v := .tuple #[au.val ⟨xs, xk, xn⟩, .bool true]) (by simp[results, Tryz.results73, go_sem, t0, t1, t2]) rfl ⟨by rw[u6.out]; rfl, bN aj.out hs2 (λb e => by omega)⟩
    |false =>
      rw[hn]at hbb
      have HX := Lib.hid (HF.out hn)
      clear HT HF hn
      go_wp2_with fail
      go_roundw
      case rel => exact⟨(k : Int) - 1, by go_num, by omega, by omega, trivial, HX.out⟩
      case measure => simp[intOf] <;> omega
  · have hge : decide (0 <= i) = false := by simp; omega
    have u6 := Lib.hid (Dc l n (λj hj => HA.out j hj (by omega)))
    clear HA
    obtain⟨hs1, hs2⟩ := rX jE.out (.string ⟨#[]⟩) (.int .u8 0) (.int .i64 0)
    go_wp2_with fail
    obtain⟨t0, t1, t2⟩ := dF hs1
    exact bodyPost_ret (v := .tuple #[au.val ⟨⟨#[]⟩, 0, 0⟩, .bool false]) (by simp[results, Tryz.results73, go_sem, t0, t1, t2]) rfl ⟨by rw[u6.out]; rfl, bN aj.out hs2 (λb e => by omega)⟩
def jH (l : List au) (n : ByteArray) : Int := if(fD l n).isSome then 22 else 0
def lU (l : List au) (n : ByteArray) (k : Int) : Int := match fD l n with
  |none => 6
  |some v => if v.kind = k then 0 else 7
def rP (w : World) (n : Int) (e : Ending) (w' : World) : Prop := e = .returned (.int .i64 n) /\ Grow w w'
set_option maxRecDepth 100000 in
set_option maxHeartbeats 1600000 in
theorem AP (v : Value) (l : List au) (n : ByteArray) (w : World) (h : ay 3 au.cells w v l) : Calls Tryz.prog 51 #[v, .string n] w (rP w (jH l n)) := by
  have HC := Lib.hid (A8 v l n w h)
  clear h
  have HE := Lib.hid (show jH l n = if(fD l n).isSome then 22 else 0 from rfl)
  generalize jH l n = R at *
  go_enter Tryz.func51, Tryz.ntmps51
  go_wp2_with fail
  refine HC.out.mono ?_
  rintro e w2 ⟨rfl, hg⟩
  have HG := Lib.hid hg
  clear hg
  generalize fD l n = fd at *
  cases fd with
  |none =>
    have HF := Lib.hid (show R = 0 from HE.out)
    simp only[Option.getD_none, Option.isSome_none, jJ]
    go_wp2_with fail
    go_ret
    exact⟨cZ HF.out.symm, HG.out.alloc _⟩
  |some x =>
    have HF := Lib.hid (show R = 22 from HE.out)
    simp only[Option.getD_some, Option.isSome_some]
    go_wp2_with fail
    go_ret
    exact⟨cZ HF.out.symm, HG.out.alloc _⟩
set_option maxRecDepth 100000 in
set_option maxHeartbeats 1600000 in
theorem wL (v : Value) (l : List au) (n : ByteArray) (k : Int) (w : World) (h : ay 3 au.cells w v l) : Calls Tryz.prog 98 #[v, .string n, .int .u8 k] w (rP w (lU l n k)) := by
  have HC := Lib.hid (A8 v l n w h)
  clear h
  have HE := Lib.hid (show lU l n k = match fD l n with
  |none => 6
  |some v => if v.kind = k then 0 else 7 from rfl)
  generalize lU l n k = R at *
  go_enter Tryz.func98, Tryz.ntmps98
  go_wp2_with fail
  refine HC.out.mono ?_
  rintro e w2 ⟨rfl, hg⟩
  have HG := Lib.hid hg
  clear hg
  generalize fD l n = fd at *
  cases fd with
  |none =>
    have HF := Lib.hid (show R = 6 from HE.out)
    simp only[Option.getD_none, Option.isSome_none, jJ]
    go_wp2_with fail
    go_ret
    exact⟨cZ HF.out.symm, HG.out.alloc _⟩
  |some x =>
    obtain⟨xs, xk, xn⟩ := x
    have HF := Lib.hid (show R = if xk = k then 0 else 7 from HE.out)
    simp only[Option.getD_some, Option.isSome_some]
    by_cases hk : xk = k
    · subst hk
      have xG := Lib.hid (show R = 0 from by rw[HF.out, if_pos rfl])
      go_wp2_with fail
      go_ret
      exact⟨cZ xG.out.symm, HG.out.alloc _⟩
    · have xG := Lib.hid (show R = 7 from by rw[HF.out, if_neg hk])
      have hne : (xk != k) = true := by simpa using hk
      clear hk
      go_wp2_with fail
      go_ret
      exact⟨cZ xG.out.symm, HG.out.alloc _⟩
def gK (P : List bA) (s : ByteArray) : Int := match P.findIdx? (λp => p.name == s)with
  |some i => i
  |none => -1
theorem Qk (P : List bA) (s : ByteArray) (j : Nat) (hj : j < P.length) (h : (P[j].name == s) = true) (hn : ∀ i (hi : i < P.length), i < j -> (P[i].name == s) = false) : gK P s = j := by
  have h1 : P.findIdx? (λp => p.name == s) = some j := by
    rw[List.findIdx?_eq_some_iff_getElem]
    exact⟨hj, h, λi hi => by simp[hn i (by omega) hi]⟩
  unfold gK; rw[h1]
theorem PO (P : List bA) (s : ByteArray) (hn : ∀ i (hi : i < P.length), (P[i].name == s) = false) : gK P s = -1 := by
  unfold gK
  rw[List.findIdx?_eq_none_iff.2 λx hx => ?_]
  obtain⟨i, hi, rfl⟩ := List.mem_iff_getElem.1 hx
  exact hn i hi
set_option maxRecDepth 100000 in
set_option maxHeartbeats 1600000 in
theorem QR (q : aO) (s : ByteArray) (X : Nat) (w : World) (t : TypeId) (hX : w.heap[X]? = some (.cells #[.string s] t (0, 0))) : Calls Tryz.prog 75 #[q.val, .pointer (some ⟨X, 0, none⟩)] w (fq w (q.d.name == s)) := by
  obtain⟨qs, aM, qv, ⟨bk, bn, bs, bv, bl⟩⟩ := q
  have x0 : w.cell? ⟨X, 0, none⟩ = some (.string s) := by simp[World.cell?, hX]
  have hxl := lt_of_block hX
  have hbb := Bv qs s
  have HG := Lib.hid (show Grow w (w.alloc (.cells #[.string qs, qv, .int .u8 bk, .int .i64 bn, .string bs, bv] 48))from(Mv.refl _ w).alloc _)
  clear hX
  simp only[aO.val, aO.d]
  go_enter Tryz.func75, Tryz.ntmps75
  go_wp2_with fail
  go_ret
  exact⟨rfl, HG.out⟩
set_option maxRecDepth 100000 in
set_option maxHeartbeats 3200000 in
theorem Pg (pv : Value) (procs : List aO) (s : ByteArray) (X : Nat) (w : World) (t : TypeId) (hp : ru w pv procs) (hX : w.heap[X]? = some (.cells #[.string s] t (0, 0))) : Calls Tryz.prog 74 #[pv, .func (.func 75) #[] #[.pointer (some ⟨X, 0, none⟩)]] w (rP w (gK (procs.map aO.d) s)) := by
  obtain⟨pa, pc, rfl, -, hpl⟩ := hp.row.form
  have HP := Lib.hid hp
  have HX := Lib.hid hX
  clear hp hX
  go_enter Tryz.func74, Tryz.ntmps74
  go_wp2_with fail
  go_loopw [8] (λt wr => ∃ j : Nat, t = .int .i64 j /\ j <= procs.length /\ Grow w wr /\ ∀ i (hi : i < procs.length), i < j -> (procs[i].d.name == s) = false) (λt _ => procs.length - (intOf t).toNat)
  case atStart => exact⟨0, rfl, Nat.zero_le _, Mv.refl _ _, λi hi h => by omega⟩
  obtain⟨j, rfl, hj, hg, hall⟩ := hrel
  have HG := Lib.hid hg
  have HA := Lib.hid hall
  clear hall hg
  by_cases hlt : j < procs.length
  · obtain⟨pb, po, gP, hpv, -, hcc⟩ := (HP.out.later HG.out).row.at hlt
    simp only[Value.slice.injEq, true_and]at hpv
    obtain⟨rfl, rfl⟩ := hpv
    have HT := Lib.hid (λ(h : (procs[j].d.name == s) = true) => Qk (procs.map aO.d) s j (by simpa using hlt) (by simpa using h) (λi hi hij => by simpa using HA.out i (by simpa using hi) hij))
    have HF := Lib.hid (λ(h : (procs[j].d.name == s) = false) => show ∀ i (hi : i < procs.length), i < j + 1 -> (procs[i].d.name == s) = false from λi hi hij => by
      by_cases hij2 : i = j
      · subst hij2; exact h
      · exact HA.out i hi (by omega))
    have HC := Lib.hid (λz (hz : Grow wr z) => QR procs[j] s X z t (ai HX.out (gtr HG.out hz)))
    have fP := Lib.hid ((HP.out.later HG.out).each _ (List.getElem_mem hlt))
    generalize hq : (procs[j].d.name == s) = bq at *
    generalize procs[j] = q at *
    obtain⟨qs, aM, qv, ⟨bk, bn, bs, bv, bl⟩⟩ := q
    obtain⟨qa, qc, rfl, -, -⟩ := fP.out.form
    obtain⟨ba, bc, rfl, -, -⟩ := fP.out.body.form
    have c0 := hcc 0 _ rfl
    have c1 := hcc 1 _ rfl
    have c2 := hcc 2 _ rfl
    have c3 := hcc 3 _ rfl
    have c4 := hcc 4 _ rfl
    have c5 := hcc 5 _ rfl
    simp only[Nat.add_zero]at c0
    have hbl : pb < wr.heap.size := World.block_lt_of_cell? wr _ c0
    simp only[aO.val]at HC
    have oW := Lib.hid (HC.out wr (Mv.refl _ _))
    clear hcc HC hq
    go_wp2_with fail
    refine oW.out.mono ?_
    rintro e w2 ⟨rfl, hg2⟩
    have HG2 := Lib.hid (gtr HG.out hg2)
    clear hg2 c0 c1 c2 c3 c4 c5
    cases bq with
    |true =>
      have eH := Lib.hid (HT.out rfl)
      clear HT HF
      go_wp2_with fail
      go_ret
      exact⟨cZ eH.out.symm, HG2.out⟩
    |false =>
      have eH := Lib.hid (HF.out rfl)
      clear HT HF
      go_wp2_with fail
      go_roundw
      case rel => exact⟨j + 1, by go_num, by omega, HG2.out, eH.out⟩
      case measure => simp[intOf]; omega
  · have HR := Lib.hid (PO (procs.map aO.d) s (λi hi => by
      have hi' : i < procs.length := by simpa using hi
      simpa using HA.out i hi' (by omega)))
    go_wp2_with fail
    go_ret
    exact⟨cZ HR.out.symm, HG.out⟩
set_option maxRecDepth 100000 in
set_option maxHeartbeats 1600000 in
theorem yA (p : az) (s : ByteArray) (w : World) (hp : jc w p) : Calls Tryz.prog 52 #[p.val, .string s] w (rP w (gK p.d.procs s)) := by
  obtain⟨vars, vv, procs, pv, ⟨k, n, ns, kv, l⟩⟩ := p
  obtain⟨⟨va, vc, rfl⟩, ⟨pa, pc, rfl⟩, hm⟩ := hp.form
  obtain⟨ka, kc, rfl, -, -⟩ := hm.form
  clear hm
  have HG := Lib.hid (show Grow w ((w.alloc (.cells #[.slice va vars.length vc, .slice pa procs.length pc, .int .u8 k, .int .i64 n, .string ns, .slice ka l.length kc] 42)).alloc (.cells #[.string s] 9))from((Mv.refl _ w).alloc _).alloc _)
  have HX := Lib.hid (show((w.alloc (.cells #[.slice va vars.length vc, .slice pa procs.length pc, .int .u8 k, .int .i64 n, .string ns, .slice ka l.length kc] 42)).alloc (.cells #[.string s] 9)).heap[w.heap.size + 1]? = some (.cells #[.string s] 9 (0, 0))from by
    have := heap_alloc_new (w.alloc (.cells #[.slice va vars.length vc, .slice pa procs.length pc, .int .u8 k, .int .i64 n, .string ns, .slice ka l.length kc] 42)) (.cells #[.string s] 9)
    simpa using this)
  have HC := Lib.hid (Pg _ procs s _ _ _ (hp.procs.later HG.out) HX.out)
  have HE := Lib.hid (show(az.d ⟨vars, .slice va vars.length vc, procs, .slice pa procs.length pc, .mk k n ns (.slice ka l.length kc) l⟩).procs = procs.map aO.d from rfl)
  rw[HE.out]
  simp only at HC
  clear hp HX HE
  simp only[az.val]
  go_enter Tryz.func52, Tryz.ntmps52
  go_wp2_with fail
  refine HC.out.mono ?_
  rintro e w2 ⟨rfl, hg⟩
  have HG2 := Lib.hid (gtr HG.out hg)
  clear hg
  go_wp2_with fail
  go_ret
  exact⟨rfl, HG2.out⟩
def VO (Ts : Nat -> TypeId -> Bool) (B : Nat) (W : World) (b : Nat) : Prop := b < B \/ ∃ cs t z, W.heap[b]? = some (.cells cs t z) /\ Ts b t = true
def Je (W : World) (b : Nat) : Prop := ∃ o, W.heap[b]? = some o /\ o.isCells = false
def yE (Ts : Nat -> TypeId -> Bool) (W : World) (b : Nat) : Prop := ∃ cs t z, W.heap[b]? = some (.cells cs t z) /\ Ts b t = false
abbrev uB (Ts : Nat -> TypeId -> Bool) (B : Nat) (W W' : World) : Prop := Mv (λb => ¬ (VO Ts B W b \/ Je W b)) W W'
abbrev gZ (Ts : Nat -> TypeId -> Bool) (W W' : World) : Prop := Mv (λb => ¬ yE Ts W b) W W'
abbrev Bg (Ts : Nat -> TypeId -> Bool) (B : Nat) (W W' : World) : Prop := Mv (λb => ¬ (yE Ts W b \/ (B <= b /\ Je W b))) W W'
theorem Pq {p : World -> Nat -> Prop} (hp : ∀ A B b, B.heap[b]? = A.heap[b]? -> p A b -> p B b) {A B C : World} (h : Mv (λb => ¬ p A b) A B) (k : Mv (λb => ¬ p B b) B C) : Mv (λb => ¬ p A b) A C :=
  h.trans k (λb hb => by
    rcases Nat.lt_or_ge b A.heap.size with hl|hl
    · exact .inl λha => hb (hp A B b (h.block b hl (λe => e ha)) ha)
    · exact .inr hl)
theorem RB {Ts : Nat -> TypeId -> Bool} (X Y : World) (b : Nat) (h : Y.heap[b]? = X.heap[b]?) : yE Ts X b -> yE Ts Y b
  |⟨cs, t, z, hc, ht⟩ => ⟨cs, t, z, by rw[h]; exact hc, ht⟩
theorem tV {Ts : Nat -> TypeId -> Bool} {X Y Z : World} (h : gZ Ts X Y) (k : gZ Ts Y Z) : gZ Ts X Z := Pq (p := yE Ts) RB h k
theorem Bg.bd {Ts : Nat -> TypeId -> Bool} {B : Nat} {W W' : World} (h : Bg Ts B W W') : gZ Ts W W' := h.mono (λ_ hb => .inl λe => hb (.inl e))
theorem Bg.same {Ts : Nat -> TypeId -> Bool} {B : Nat} {W W' : World} (h : Bg Ts B W W') {l : Nat} {o : Obj} (hl : W.heap[l]? = some o) (ho : o.isCells = false) (hB : B <= l) : W'.heap[l]? = some o :=
  (h.block l (Array.getElem?_eq_some_iff.1 hl).1 (λe => e (.inr ⟨hB, o, hl, ho⟩))).trans hl
theorem uB.same {Ts : Nat -> TypeId -> Bool} {B : Nat} {W W' : World} (h : uB Ts B W W') {l : Nat} {o : Obj} (hl : W.heap[l]? = some o) (ho : o.isCells = false) : W'.heap[l]? = some o :=
  (h.block l (Array.getElem?_eq_some_iff.1 hl).1 (λe => e (.inr ⟨o, hl, ho⟩))).trans hl
def RD {α : Type} (P : Program) (Ts : Nat -> TypeId -> Bool) (g : Nat) (lb : Array Value) (encs : α -> Array Value) (S Sp : List α -> Prop) (w : World) : Prop :=
  ∀ (l : Nat) (J Jx : List α -> World -> Prop) (W : World), Mv (λb => False) w W -> (∀ s X Y, J s X -> uB Ts W.heap.size X Y -> J s Y) -> (∀ s X Y, Jx s X -> uB Ts W.heap.size X Y -> Jx s Y) ->
    (∀ pre x W1, J pre W1 -> Sp (pre ++ [x]) -> YieldAt Fence.wide 10 P l (encs x) W1 λe W' =>
      (e = .returned (.bool true) /\ J (pre ++ [x]) W' /\ gZ Ts W1 W') \/ (e = .returned (.bool false) /\ Jx (pre ++ [x]) W')) ->
    J [] W -> Calls P g (#[.func (.yield l) #[] #[]] ++ lb) W λe W' => (∃ v, e = .returned v) /\ ((∃ xs, S xs /\ J xs W') \/ (∃ pre, Sp pre /\ Jx pre W'))
end Go.Proofs.YtbpodipdfohikaaGreat
