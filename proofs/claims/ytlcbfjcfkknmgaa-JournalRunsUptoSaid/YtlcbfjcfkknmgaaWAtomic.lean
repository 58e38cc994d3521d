/- JournalAtomic: its walk. -/
import Derived.Test.YtlcbfjcfkknmgaaPlay
namespace Go.Proofs.Ytlcbfjcfkknmgaa
open Go.RowKit

theorem plays_all (J X L : Nat) (W : World) (hL : W.heap.size ≤ L) (hXL : X ≠ L) : ∀ f, Plays J X L W f := by
  intro f
  induction f with
  | zero => intro v ps fs el w1 O1 ht; exact ht.elim
  | succ f ih => exact play_step J X L W f hL hXL ih

theorem ent14 (c : Array Value) (w : World) : (callFunc 14 c).run Try.prog w = .ok (.enter 14 c) w := by simp [go_sem]

set_option maxHeartbeats 800000 in
theorem act_14 (J X L xb ob okb : Nat) (W : World) (f : Nat) (kv : Value) (ps : List (Nat × Int)) (fs : List Value) (el : List (Nat × Obj)) (hL : W.heap.size ≤ L) (hXL : X ≠ L) (ht : Tree W f kv) (hE : ∀ p ∈ el, p.1 ≠ L)
    (hlen : ps.length + cnt W f kv ≤ 100) (e1 : (xb, Obj.cells #[.pointer (some ⟨X, 0, none⟩)] 25 (0, 0)) ∈ el) (e2 : (ob, Obj.cells #[kv] 22 (0, 0)) ∈ el) (e3 : (okb, Obj.cells #[.bool true] 4 (0, 0)) ∈ el) (w1 : World) (O1 : Nat → Prop)
    (h : St J (fun w => Reg J X L W ps fs w ∧ Ex el w) w1 O1 fs false w1) :
    Calls Try.prog 14 #[.pointer (some ⟨xb, 0, none⟩), .pointer (some ⟨ob, 0, none⟩), .pointer (some ⟨okb, 0, none⟩)] w1
      (ActPost J (PlayOk J X L W ps fs el (cnt W f kv)) (PlayFail J X L W ps fs el (cnt W f kv)) (fun _ _ _ => False) w1 O1) := by
  have hx := cell_of_one (h.user.2 _ e1)
  have ho := cell_of_one (h.user.2 _ e2)
  have HP := Lib.hid (plays_all J X L W hL hXL f kv ps fs el w1 O1 ht hE hlen h)
  obtain ⟨ka, kn, kc, rfl⟩ := ht.form
  have HT := Lib.hid ht
  clear h ht
  go_enter Try.func14, Try.ntmps14
  go_wp2_with fail
  refine HP.out.mono ?_
  rintro e w2 ⟨he, ps2, fs2, hp, hf, hl, hst⟩
  have hk := cell_of_one (hst.user.2 _ e3)
  have fk := free_of_one (hst.user.2 _ e3)
  rcases he with rfl | ⟨x, hx0, rfl⟩
  · have HST := Lib.hid (hst.okay e3)
    clear hst
    go_wp2_with fail
    go_end0
    exact .inl ⟨fs2, _, ⟨ps2, hp, hf, hl, rfl⟩, rfl, HST.out⟩
  · have hfl := hst.user.1.len
    exact ⟨rfl, .inr (.inl ⟨fs2, _, x, ⟨hx0, ps2, hp, hf, hl, hfl, rfl⟩, undoes_57 J X L W ps2 el hL hXL hE, by omega, rfl, hst.imp fun w hw => ⟨by omega, by rw [hfl, List.take_length]; exact hw.1, hw.2⟩⟩)⟩

/-- the block of the parameter, and all that was there before -/
theorem fp_old1 {w w1 : World} {a : Obj} (hm : Mv (fun _ => False) (w.alloc a) w1) : Fp (fun w' => Old w w' ∧ w'.heap[w.heap.size]? = some a) (fun x => x ≤ w.heap.size) w1 := by
  have hs := hm.size
  simp only [World.size_alloc] at hs
  have h1 : (w.alloc a).heap[w.heap.size]? = some a := heap_alloc_new w a
  refine ⟨fun x hx => by omega, fun w2 h => ⟨fun b hb => ?_, ?_⟩⟩
  · rw [h _ (by omega), hm.block _ (by simp; omega) (fun e => e), Below.heap_alloc _ _ _ hb]
  · rw [h _ (by omega), hm.block _ (lt_of_block h1) (fun e => e)]; exact h1

/-- the four numbers of a literal -/
theorem ints_lit (w : World) (g c : Nat) (h : w.heap[g]? = some (.cells #[.int .i64 1, .int .i64 2, .int .i64 3, .int .i64 4] 3 (0, 0))) : IntsAt w (.slice (some ⟨g, 0, none⟩) 4 c) [1, 2, 3, 4] := by
  refine ⟨_, c, rfl, fun i x hx => ⟨g, 0, rfl, ?_⟩⟩
  have hi := (List.getElem?_eq_some_iff.1 hx).1
  simp at hi
  simp only [World.cell?, h]
  match i, hi, hx with
  | 0, _, hx => simp at hx; subst hx; rfl
  | 1, _, hx => simp at hx; subst hx; rfl
  | 2, _, hx => simp at hx; subst hx; rfl
  | 3, _, hx => simp at hx; subst hx; rfl

theorem ints_reg {J X L : Nat} {W w : World} {ps : List (Nat × Int)} {fs : List Value} (h : Reg J X L W ps fs w) : IntsAt w (.slice (some ⟨L, 0, none⟩) 4 4) (adds ps) :=
  ⟨_, 4, by rw [adds_len], fun i y hy => ⟨L, 0, rfl, by
    have hc := rowA_cell h.l (i := i) (List.getElem?_eq_some_iff.1 hy).1
    rw [show (adds ps).getD i 0 = y by simp [List.getD, hy]] at hc
    simpa using hc⟩⟩

theorem Reg.later {J X L : Nat} {W : World} {ps : List (Nat × Int)} {fs : List Value} {w w2 : World} (h : Reg J X L W ps fs w) (hm : Mv (fun _ => False) w w2) : Reg J X L W ps fs w2 := by
  have hk : ∀ {b : Nat} {o : Obj}, w.heap[b]? = some o → w2.heap[b]? = some o := fun {b o} hb => by rw [hm.block b (lt_of_block hb) (fun e => e)]; exact hb
  have hlt := lt_of_block h.l
  refine ⟨fun b hb => ?_, hk h.x, hk h.l, h.len, fun j f hf => ?_⟩
  · have := h.old b hb
    rcases ho : W.heap[b]? with _ | o
    · simp at ho; omega
    · rw [ho] at this; exact hk this
  · obtain ⟨bx, bi, bn, i, n, e1, e2, e3, e4, e5, e6, e⟩ := h.fn j f hf
    exact ⟨bx, bi, bn, i, n, e1, e2, e3, hk e4, hk e5, hk e6, e⟩

set_option maxRecDepth 100000 in
set_option maxHeartbeats 3200000 in
theorem atomic_walk (f : Nat) (v : Value) (w : World) (ht : Tree w f v) (hf : f ≤ 2000000) (hc : cnt w f v ≤ 2000000) :
    Calls Try.prog 3 #[v] w fun e w' => e = .returned (.bool true) ∧ Below w.heap.size w w' := by
  have HT := Lib.hid ht
  obtain ⟨va, vn, vc, rfl⟩ := ht.form
  have HA := Lib.hid (awake_ok (w.alloc (.cells #[.slice va vn vc] 22)))
  clear ht
  go_enter Try.func3, Try.ntmps3
  go_wp2_with fail
  refine HA.out.mono ?_
  rintro en w1 ⟨rfl, hm1⟩
  have hs := hm1.size
  simp only [World.size_alloc] at hs
  have hm2 : Mv (fun _ => False) w w1 := Mv.trans (O1 := fun _ => False) ((Mv.refl _ _).alloc _) hm1 (fun _ e => e.elim)
  have hfp := fp_old1 hm1
  have r0 := cell_of_one hfp.now.2
  by_cases hg : 60 < cnt w f (.slice va vn vc) ∨ 8 < dep w f (.slice va vn vc)
  · have HM2 := Lib.hid hm2
    have HG := Lib.hid (great_yes w f _ w1 HT.out hfp.now.1 hc hf hg)
    clear hm1 hm2 hfp hg
    go_wp2_with fail
    refine HG.out.mono ?_
    rintro en w' ⟨rfl, rfl⟩
    go_wp2_with fail
    go_ret
    exact ⟨rfl, HM2.out.below⟩
  · have HG := Lib.hid (great_no w f _ w1 HT.out hfp.now.1 hf (by omega) (by omega))
    have hc60 : cnt w f (.slice va vn vc) ≤ 60 := by omega
    have h1 := ((((St.begin (O0 := fun b => b < w.heap.size) hfp (hm2.mono (fun _ e => e.elim)) (fun b hb => by rcases Nat.lt_or_ge b w.heap.size with h | h; exact .inl h; exact .inr h)).give (.cells #[.int .i64 1, .int .i64 2, .int .i64 3, .int .i64 4] 3)).give (.cells #[.pointer (some ⟨w1.heap.size, 0, none⟩), .slice (some ⟨w1.heap.size + 1, 0, none⟩) 4 4] 32)).give (.cells #[.pointer (some ⟨w1.heap.size + 1 + 1, 0, none⟩)] 25)).give (.cells #[.bool true] 4)
    simp only [World.size_alloc] at h1
    have h2 := h1.imp (V := fun w' => Reg w1.heap.size (w1.heap.size + 1 + 1) (w1.heap.size + 1) w [] [] w' ∧ Ex [(w1.heap.size + 1 + 1 + 1 + 1, .cells #[.bool true] 4 (0, 0)), (w1.heap.size + 1 + 1 + 1, .cells #[.pointer (some ⟨w1.heap.size + 1 + 1, 0, none⟩)] 25 (0, 0)), (w.heap.size, .cells #[.slice va vn vc] 22 (0, 0))] w')
      (fun w' hw => ⟨⟨hw.1.1.1.1.1, hw.1.1.2, hw.1.1.1.2, rfl, by simp⟩, fun p hp => by
        simp only [List.mem_cons, List.not_mem_nil, or_false] at hp
        rcases hp with rfl | rfl | rfl
        · exact hw.2
        · exact hw.1.2
        · exact hw.1.1.1.1.2⟩)
    have hE : ∀ p ∈ [(w1.heap.size + 1 + 1 + 1 + 1, Obj.cells #[.bool true] 4 (0, 0)), (w1.heap.size + 1 + 1 + 1, Obj.cells #[.pointer (some ⟨w1.heap.size + 1 + 1, 0, none⟩)] 25 (0, 0)), (w.heap.size, Obj.cells #[.slice va vn vc] 22 (0, 0))], p.1 ≠ w1.heap.size + 1 := by
      intro p hp
      simp only [List.mem_cons, List.not_mem_nil, or_false] at hp
      rcases hp with rfl | rfl | rfl
      · show w1.heap.size + 1 + 1 + 1 + 1 ≠ _; omega
      · show w1.heap.size + 1 + 1 + 1 ≠ _; omega
      · show w.heap.size ≠ _; omega
    have hL : w.heap.size ≤ w1.heap.size + 1 := by omega
    have hXL : w1.heap.size + 1 + 1 ≠ w1.heap.size + 1 := by omega
    have hxv : (w1.heap.size + 1 + 1 + 1, Obj.cells #[.pointer (some ⟨w1.heap.size + 1 + 1, 0, none⟩)] 25 (0, 0)) ∈ [(w1.heap.size + 1 + 1 + 1 + 1, Obj.cells #[.bool true] 4 (0, 0)), (w1.heap.size + 1 + 1 + 1, Obj.cells #[.pointer (some ⟨w1.heap.size + 1 + 1, 0, none⟩)] 25 (0, 0)), (w.heap.size, Obj.cells #[.slice va vn vc] 22 (0, 0))] := by simp
    have hokv : (w1.heap.size + 1 + 1 + 1 + 1, Obj.cells #[.bool true] 4 (0, 0)) ∈ [(w1.heap.size + 1 + 1 + 1 + 1, Obj.cells #[.bool true] 4 (0, 0)), (w1.heap.size + 1 + 1 + 1, Obj.cells #[.pointer (some ⟨w1.heap.size + 1 + 1, 0, none⟩)] 25 (0, 0)), (w.heap.size, Obj.cells #[.slice va vn vc] 22 (0, 0))] := by simp
    have HAT := Lib.hid (attempt_st _ 14 #[.pointer (some ⟨w1.heap.size + 1 + 1 + 1, 0, none⟩), .pointer (some ⟨w.heap.size, 0, none⟩), .pointer (some ⟨w1.heap.size + 1 + 1 + 1 + 1, 0, none⟩)] _ _ _ _ _ _ _ _ h2 (ent14 _)
      (fun w2 O2 h3 _ => act_14 w1.heap.size (w1.heap.size + 1 + 1) (w1.heap.size + 1) (w1.heap.size + 1 + 1 + 1) w.heap.size (w1.heap.size + 1 + 1 + 1 + 1) w f _ [] [] _ hL hXL HT.out hE (by simp; omega) hxv (by simp) hokv w2 O2 h3))
    clear hm1 hm2 hfp h1 h2 hg
    generalize [(w1.heap.size + 1 + 1 + 1 + 1, Obj.cells #[.bool true] 4 (0, 0)), (w1.heap.size + 1 + 1 + 1, Obj.cells #[.pointer (some ⟨w1.heap.size + 1 + 1, 0, none⟩)] 25 (0, 0)), (w.heap.size, Obj.cells #[.slice va vn vc] 22 (0, 0))] = el at *
    go_wp2_with fail
    refine HG.out.mono ?_
    rintro en w' ⟨rfl, rfl⟩
    go_wp2_with fail
    refine HAT.out.mono ?_
    rintro e w3 (⟨fs3, U3, ⟨ps3, hp3, hf3, hl3, rfl⟩, rfl, hst3⟩ | ⟨fs3, V, x, ⟨hx0, ps3, hp3, hf3, hl3, hfp3, rfl⟩, rfl, hst3⟩ | ⟨_, _, _, _, hP, _⟩)
    · have hfl := hst3.user.1.len
      have hfl2 : fs3.length ≤ 100 := by simp at hl3; omega
      have hok := cell_of_one (hst3.user.2 _ hokv)
      have HDN := Lib.hid (hst3.imp (V := RegV w1.heap.size (w1.heap.size + 1 + 1) (w1.heap.size + 1) w ps3 el fs3) fun w hw => ⟨by omega, by rw [hfl, List.take_length]; exact hw.1, hw.2⟩)
      clear hst3 hfl
      have hst6 := HDN.out
      have xv := cell_of_one (hst6.user.2.2 _ hxv)
      have x0 := x_cell0 hst6.user.2.1.x
      have HRW := Lib.hid (rewind_st _ _ _ _ _ 0 _ (undoes_57 _ _ _ _ _ _ hL hXL hE) hst6 (Nat.zero_le _) (by first | omega | simp))
      clear hst6
      go_wp2_with fail
      refine HRW.out.mono ?_
      rintro e w7 ⟨rfl, hst7⟩
      simp only [List.take_zero] at hst7
      have hu7 := hst7.user
      simp only [RegV, List.length_nil, List.take_zero] at hu7
      have xv7 := cell_of_one (hu7.2.2 _ hxv)
      have x07 := x_cell0 hu7.2.1.x
      have x17 := x_cell1 hu7.2.1.x
      have hXlt7 := lt_of_block hu7.2.1.x
      have hxvlt7 := lt_of_block (hu7.2.2 _ hxv)
      have HL7 := Lib.hid (len_st _ _ _ _ _ _ _ hst7)
      have HIT := Lib.hid (ints_true _ _ [1, 2, 3, 4] (w7.alloc (.cells #[.int .i64 1, .int .i64 2, .int .i64 3, .int .i64 4] 3)) (ints_reg (hu7.2.1.later ((Mv.refl _ _).alloc _))) (ints_lit _ _ 4 (heap_alloc_new w7 _)) (by simp))
      have HST7 := Lib.hid hst7
      clear hst7 hu7
      go_wp2_with fail
      refine HL7.out.mono ?_
      rintro e w' ⟨rfl, rfl⟩
      go_wp2_with fail
      refine HIT.out.mono ?_
      rintro e w' ⟨rfl, q, rfl⟩
      go_wp2_with fail
      go_ret
      have hst8 := (HST7.out.alloc (.cells #[.int .i64 1, .int .i64 2, .int .i64 3, .int .i64 4] 3)).drewN q
      have hmv := hst8.mv
      exact ⟨rfl, hmv.os, hmv.tape, hmv.output, hmv.size, hst8.user.2.1.old⟩
    · simp only [List.length_nil, List.take_zero] at hst3
      have hu3 := hst3.user
      simp only [RegV, List.length_nil, List.take_zero] at hu3
      have hok := cell_of_one (hu3.2.2 _ hokv)
      have xv3 := cell_of_one (hu3.2.2 _ hxv)
      have x03 := x_cell0 hu3.2.1.x
      have x13 := x_cell1 hu3.2.1.x
      have hXlt3 := lt_of_block hu3.2.1.x
      have hxvlt3 := lt_of_block (hu3.2.2 _ hxv)
      have HIT3 := Lib.hid (ints_true _ _ [1, 2, 3, 4] (w3.alloc (.cells #[.int .i64 1, .int .i64 2, .int .i64 3, .int .i64 4] 3)) (ints_reg (hu3.2.1.later ((Mv.refl _ _).alloc _))) (ints_lit _ _ 4 (heap_alloc_new w3 _)) (by simp))
      have hxb : (x != 0) = true := by simpa using hx0
      have HST3 := Lib.hid hst3
      clear hst3 hu3
      go_wp2_with fail
      refine HIT3.out.mono ?_
      rintro e w' ⟨rfl, q0, rfl⟩
      have hst4 := (HST3.out.alloc (.cells #[.int .i64 1, .int .i64 2, .int .i64 3, .int .i64 4] 3)).drewN q0
      have HL4 := Lib.hid (len_st _ _ _ _ _ _ _ hst4)
      have HDN := Lib.hid hst4
      clear hst4
      generalize hww : (w3.alloc (.cells #[.int .i64 1, .int .i64 2, .int .i64 3, .int .i64 4] 3)).drewN q0 = w4 at *
      have xv4 := cell_of_one (HDN.out.user.2.2 _ hxv)
      have x04 := x_cell0 HDN.out.user.2.1.x
      clear hww hok xv3 x03 x13 HST3 hXlt3 hxvlt3
      go_wp2_with fail
      refine HL4.out.mono ?_
      rintro e w' ⟨rfl, rfl⟩
      have hst6 := HDN.out
      have xv := cell_of_one (hst6.user.2.2 _ hxv)
      have x0 := x_cell0 hst6.user.2.1.x
      have HRW := Lib.hid (rewind_st _ _ _ _ _ 0 _ (undoes_57 _ _ _ _ _ _ hL hXL hE) hst6 (Nat.zero_le _) (by first | omega | simp))
      clear hst6
      go_wp2_with fail
      refine HRW.out.mono ?_
      rintro e w7 ⟨rfl, hst7⟩
      simp only [List.take_zero] at hst7
      have hu7 := hst7.user
      simp only [RegV, List.length_nil, List.take_zero] at hu7
      have xv7 := cell_of_one (hu7.2.2 _ hxv)
      have x07 := x_cell0 hu7.2.1.x
      have x17 := x_cell1 hu7.2.1.x
      have hXlt7 := lt_of_block hu7.2.1.x
      have hxvlt7 := lt_of_block (hu7.2.2 _ hxv)
      have HL7 := Lib.hid (len_st _ _ _ _ _ _ _ hst7)
      have HIT := Lib.hid (ints_true _ _ [1, 2, 3, 4] (w7.alloc (.cells #[.int .i64 1, .int .i64 2, .int .i64 3, .int .i64 4] 3)) (ints_reg (hu7.2.1.later ((Mv.refl _ _).alloc _))) (ints_lit _ _ 4 (heap_alloc_new w7 _)) (by simp))
      have HST7 := Lib.hid hst7
      clear hst7 hu7
      go_wp2_with fail
      refine HL7.out.mono ?_
      rintro e w' ⟨rfl, rfl⟩
      go_wp2_with fail
      refine HIT.out.mono ?_
      rintro e w' ⟨rfl, q, rfl⟩
      go_wp2_with fail
      go_ret
      have hst8 := (HST7.out.alloc (.cells #[.int .i64 1, .int .i64 2, .int .i64 3, .int .i64 4] 3)).drewN q
      have hmv := hst8.mv
      exact ⟨rfl, hmv.os, hmv.tape, hmv.output, hmv.size, hst8.user.2.1.old⟩
    · exact hP.elim

end Go.Proofs.Ytlcbfjcfkknmgaa
