/- The law's awake: the example of the chapter. -/
import Derived.Test.YtaabkaiifplhgaaDoorLObjs
namespace Go.Proofs.YtaabkaiifplhgaaDoor
set_option linter.unusedSimpArgs false
set_option linter.unusedVariables false
open Go.RowKit Go.Instr Go.Lib Go.Sort

def mainA : ObjD := ⟨⟨#[]⟩, [], [], 0, 0, [⟨30, 0, 0, 0, 0⟩], [⟨0, ⟨#[102]⟩⟩]⟩
def procA : ObjD := ⟨⟨#[102]⟩, [], [], 0, 0, [⟨0, 0, 0, 0, 0⟩], []⟩

theorem spSort_nil : spSort [] = [] := by
  have hp := (pdq_sorts (ltOf spCmp) spSwo ([] : List Sp).toArray 0 0 (Lib.bitLen 0) true true (Nat.zero_le _) (by simp) (Or.inl rfl)).1.1
  exact List.eq_nil_of_length_eq_zero (by simpa [spSort] using hp)
theorem disj_nil : disjB [] 0 0 = true := by
  simp only [disjB, spansTo, List.length_nil, List.take_nil, List.foldlM_nil]
  show (apartB [] 0 0 && apartB [] 1 0) = true
  simp [apartB, spSort_nil, apLoop]
theorem mainA_chk : mainA.chk = 0 := by
  have h1 : framB mainA.slots mainA.cells mainA.stacks = true := by
    show (numsB 0 0 && (([] : List SlotD).all SlotD.okB && disjB [] 0 0)) = true
    rw [disj_nil]; decide
  unfold ObjD.chk
  rw [if_neg (by rw [h1]; decide), if_neg (by decide), if_neg (by decide)]
  decide +kernel
theorem procA_chk : procA.chk = 0 := by
  have h1 : framB procA.slots procA.cells procA.stacks = true := by
    show (numsB 0 0 && (([] : List SlotD).all SlotD.okB && disjB [] 0 0)) = true
    rw [disj_nil]; decide
  have h2 : procA.headB = true := by decide +kernel
  unfold ObjD.chk
  rw [if_neg (by rw [h1, h2]; decide), if_neg (by decide), if_neg (by decide)]
  decide +kernel

theorem awake_fit : Fit mainA [procA] := by
  refine ⟨mainA_chk, ?_, rfl, ?_, ?_, ?_⟩
  · intro o ho; simp at ho; subst ho; exact procA_chk
  · intro o ho; simp at ho; subst ho; decide
  · simp
  · intro x hx
    rcases hx with ⟨r, hr, rfl⟩ | ⟨o, ho, r, hr, rfl⟩
    · simp [mainA] at hr; subst hr; exact ⟨procA, by simp, rfl⟩
    · simp at ho; subst ho; simp [procA] at hr

def imgA : ImgD := ⟨[⟨30, 2, 0, 0, 0⟩, ⟨34, 0, 0, 0, 0⟩, ⟨32, 4, 0, 0, 0⟩, ⟨0, 0, 0, 0, 0⟩, ⟨33, 2, 0, 0, 0⟩], 80, 1, [⟨⟨#[102]⟩, 2⟩], 0⟩
theorem awake_link : linkD mainA [procA] = imgA := by
  have h0 : (linkD mainA [procA]).err = 0 := (linkD_zero _ _).2 ⟨awake_fit, by decide +kernel⟩
  rw [linkD_ok h0]
  rfl

theorem alloc_keep {w : World} {b : Nat} {x : Obj} (h : w.heap[b]? = some x) (o : Obj) : (w.alloc o).heap[b]? = some x := by
  have hb : b < w.heap.size := (Array.getElem?_eq_some_iff.1 h).1
  rw [Below.heap_alloc _ _ _ hb]; exact h

def mainV (n : Nat) : ObjV := ⟨mainA, .slice none 0 0, .slice none 0 0, .slice (some ⟨n, 0, none⟩) 1 1, .slice (some ⟨n + 1, 0, none⟩) 1 1⟩
def procV (n : Nat) : ObjV := ⟨procA, .slice none 0 0, .slice none 0 0, .slice (some ⟨n + 1 + 1 + 1, 0, none⟩) 1 1, .slice none 0 0⟩

theorem awake_world (w : World) : ObjAt ((((((w.alloc (.cells #[.int .u8 30, .int .i64 0, .int .i64 0, .int .i64 0, .int .i64 0] 57)).alloc (.cells #[.int .i64 0, .string ⟨#[102]⟩] 66)).alloc (.cells #[.string ⟨#[]⟩, .slice none 0 0, .slice none 0 0, .int .i64 0, .int .i64 0, .slice (some ⟨w.heap.size, 0, none⟩) 1 1, .slice (some ⟨w.heap.size + 1, 0, none⟩) 1 1] 31)).alloc (.cells #[.int .u8 0, .int .i64 0, .int .i64 0, .int .i64 0, .int .i64 0] 57)).alloc (.cells #[.string ⟨#[102]⟩, .slice none 0 0, .slice none 0 0, .int .i64 0, .int .i64 0, .slice (some ⟨w.heap.size + 1 + 1 + 1, 0, none⟩) 1 1, .slice none 0 0] 31)).alloc (.cells #[.string ⟨#[102]⟩, .slice none 0 0, .slice none 0 0, .int .i64 0, .int .i64 0, .slice (some ⟨w.heap.size + 1 + 1 + 1, 0, none⟩) 1 1, .slice none 0 0] 31)) (mainV w.heap.size) ∧ ObjsAt ((((((w.alloc (.cells #[.int .u8 30, .int .i64 0, .int .i64 0, .int .i64 0, .int .i64 0] 57)).alloc (.cells #[.int .i64 0, .string ⟨#[102]⟩] 66)).alloc (.cells #[.string ⟨#[]⟩, .slice none 0 0, .slice none 0 0, .int .i64 0, .int .i64 0, .slice (some ⟨w.heap.size, 0, none⟩) 1 1, .slice (some ⟨w.heap.size + 1, 0, none⟩) 1 1] 31)).alloc (.cells #[.int .u8 0, .int .i64 0, .int .i64 0, .int .i64 0, .int .i64 0] 57)).alloc (.cells #[.string ⟨#[102]⟩, .slice none 0 0, .slice none 0 0, .int .i64 0, .int .i64 0, .slice (some ⟨w.heap.size + 1 + 1 + 1, 0, none⟩) 1 1, .slice none 0 0] 31)).alloc (.cells #[.string ⟨#[102]⟩, .slice none 0 0, .slice none 0 0, .int .i64 0, .int .i64 0, .slice (some ⟨w.heap.size + 1 + 1 + 1, 0, none⟩) 1 1, .slice none 0 0] 31)) (.slice (some ⟨w.heap.size + 1 + 1 + 1 + 1 + 1, 0, none⟩) 1 1) [procV w.heap.size] ∧ Grow w ((((((w.alloc (.cells #[.int .u8 30, .int .i64 0, .int .i64 0, .int .i64 0, .int .i64 0] 57)).alloc (.cells #[.int .i64 0, .string ⟨#[102]⟩] 66)).alloc (.cells #[.string ⟨#[]⟩, .slice none 0 0, .slice none 0 0, .int .i64 0, .int .i64 0, .slice (some ⟨w.heap.size, 0, none⟩) 1 1, .slice (some ⟨w.heap.size + 1, 0, none⟩) 1 1] 31)).alloc (.cells #[.int .u8 0, .int .i64 0, .int .i64 0, .int .i64 0, .int .i64 0] 57)).alloc (.cells #[.string ⟨#[102]⟩, .slice none 0 0, .slice none 0 0, .int .i64 0, .int .i64 0, .slice (some ⟨w.heap.size + 1 + 1 + 1, 0, none⟩) 1 1, .slice none 0 0] 31)).alloc (.cells #[.string ⟨#[102]⟩, .slice none 0 0, .slice none 0 0, .int .i64 0, .int .i64 0, .slice (some ⟨w.heap.size + 1 + 1 + 1, 0, none⟩) 1 1, .slice none 0 0] 31)) := by
  have b0 := heap_alloc_new w (.cells #[.int .u8 30, .int .i64 0, .int .i64 0, .int .i64 0, .int .i64 0] 57)
  have b1 := heap_alloc_new (w.alloc (.cells #[.int .u8 30, .int .i64 0, .int .i64 0, .int .i64 0, .int .i64 0] 57)) (.cells #[.int .i64 0, .string ⟨#[102]⟩] 66)
  have b3 := heap_alloc_new (((w.alloc (.cells #[.int .u8 30, .int .i64 0, .int .i64 0, .int .i64 0, .int .i64 0] 57)).alloc (.cells #[.int .i64 0, .string ⟨#[102]⟩] 66)).alloc (.cells #[.string ⟨#[]⟩, .slice none 0 0, .slice none 0 0, .int .i64 0, .int .i64 0, .slice (some ⟨w.heap.size, 0, none⟩) 1 1, .slice (some ⟨w.heap.size + 1, 0, none⟩) 1 1] 31)) (.cells #[.int .u8 0, .int .i64 0, .int .i64 0, .int .i64 0, .int .i64 0] 57)
  have b5 := heap_alloc_new (((((w.alloc (.cells #[.int .u8 30, .int .i64 0, .int .i64 0, .int .i64 0, .int .i64 0] 57)).alloc (.cells #[.int .i64 0, .string ⟨#[102]⟩] 66)).alloc (.cells #[.string ⟨#[]⟩, .slice none 0 0, .slice none 0 0, .int .i64 0, .int .i64 0, .slice (some ⟨w.heap.size, 0, none⟩) 1 1, .slice (some ⟨w.heap.size + 1, 0, none⟩) 1 1] 31)).alloc (.cells #[.int .u8 0, .int .i64 0, .int .i64 0, .int .i64 0, .int .i64 0] 57)).alloc (.cells #[.string ⟨#[102]⟩, .slice none 0 0, .slice none 0 0, .int .i64 0, .int .i64 0, .slice (some ⟨w.heap.size + 1 + 1 + 1, 0, none⟩) 1 1, .slice none 0 0] 31)) (.cells #[.string ⟨#[102]⟩, .slice none 0 0, .slice none 0 0, .int .i64 0, .int .i64 0, .slice (some ⟨w.heap.size + 1 + 1 + 1, 0, none⟩) 1 1, .slice none 0 0] 31)
  simp only [World.size_alloc] at b1 b3 b5
  have d0 := alloc_keep (alloc_keep (alloc_keep (alloc_keep (alloc_keep b0 (.cells #[.int .i64 0, .string ⟨#[102]⟩] 66)) (.cells #[.string ⟨#[]⟩, .slice none 0 0, .slice none 0 0, .int .i64 0, .int .i64 0, .slice (some ⟨w.heap.size, 0, none⟩) 1 1, .slice (some ⟨w.heap.size + 1, 0, none⟩) 1 1] 31)) (.cells #[.int .u8 0, .int .i64 0, .int .i64 0, .int .i64 0, .int .i64 0] 57)) (.cells #[.string ⟨#[102]⟩, .slice none 0 0, .slice none 0 0, .int .i64 0, .int .i64 0, .slice (some ⟨w.heap.size + 1 + 1 + 1, 0, none⟩) 1 1, .slice none 0 0] 31)) (.cells #[.string ⟨#[102]⟩, .slice none 0 0, .slice none 0 0, .int .i64 0, .int .i64 0, .slice (some ⟨w.heap.size + 1 + 1 + 1, 0, none⟩) 1 1, .slice none 0 0] 31)
  have d1 := alloc_keep (alloc_keep (alloc_keep (alloc_keep b1 (.cells #[.string ⟨#[]⟩, .slice none 0 0, .slice none 0 0, .int .i64 0, .int .i64 0, .slice (some ⟨w.heap.size, 0, none⟩) 1 1, .slice (some ⟨w.heap.size + 1, 0, none⟩) 1 1] 31)) (.cells #[.int .u8 0, .int .i64 0, .int .i64 0, .int .i64 0, .int .i64 0] 57)) (.cells #[.string ⟨#[102]⟩, .slice none 0 0, .slice none 0 0, .int .i64 0, .int .i64 0, .slice (some ⟨w.heap.size + 1 + 1 + 1, 0, none⟩) 1 1, .slice none 0 0] 31)) (.cells #[.string ⟨#[102]⟩, .slice none 0 0, .slice none 0 0, .int .i64 0, .int .i64 0, .slice (some ⟨w.heap.size + 1 + 1 + 1, 0, none⟩) 1 1, .slice none 0 0] 31)
  have d3 := alloc_keep (alloc_keep b3 (.cells #[.string ⟨#[102]⟩, .slice none 0 0, .slice none 0 0, .int .i64 0, .int .i64 0, .slice (some ⟨w.heap.size + 1 + 1 + 1, 0, none⟩) 1 1, .slice none 0 0] 31)) (.cells #[.string ⟨#[102]⟩, .slice none 0 0, .slice none 0 0, .int .i64 0, .int .i64 0, .slice (some ⟨w.heap.size + 1 + 1 + 1, 0, none⟩) 1 1, .slice none 0 0] 31)
  refine ⟨⟨?_, RowAt.nil _ _ _, RowAt.nil _ _ _, ?_, ?_⟩, ⟨?_, ?_⟩, ?_⟩
  · refine ⟨(by show (0 : Nat) ≤ _; omega), by simp [mainV, mainA], by simp [mainV, mainA], by simp [mainV, mainA, In64], by simp [mainV, mainA, In64], by simp [mainV, mainA, InsOk, In64], ?_, by simp [mainV, mainA]⟩
    intro r hr
    simp [mainV, mainA] at hr
    subst hr
    exact ⟨by decide, by simp [In64]⟩
  · exact RowAt.ofBlock (l := [(⟨30, 0, 0, 0, 0⟩ : Ins)]) (fun _ => rfl) d0 rfl (by decide)
  · exact RowAt.ofBlock (l := [(⟨0, ⟨#[102]⟩⟩ : RefD)]) (fun _ => rfl) d1 rfl (by decide)
  · exact RowAt.ofBlock (l := [procV w.heap.size]) (fun _ => rfl) b5 rfl (by simp)
  · intro o ho
    simp at ho
    subst ho
    refine ⟨?_, RowAt.nil _ _ _, RowAt.nil _ _ _, ?_, RowAt.nil _ _ _⟩
    · exact ⟨(by show (1 : Nat) ≤ 9223372036854775807; omega), by simp [procV, procA], by simp [procV, procA], by simp [procV, procA, In64], by simp [procV, procA, In64], by simp [procV, procA, InsOk, In64], by simp [procV, procA], by simp [procV, procA]⟩
    · exact RowAt.ofBlock (l := [(⟨0, 0, 0, 0, 0⟩ : Ins)]) (fun _ => rfl) d3 rfl (by decide)
  · exact ((((((Mv.refl _ _).alloc _).alloc _).alloc _).alloc _).alloc _).alloc _

theorem RowAt.ins0 {w : World} {v : Value} {l : List Ins} {n : Nat} (h : RowAt 5 Ins.cells w v l) (hn : l.length = n) (h0 : 0 < n) : ∃ b off cap, v = .slice (some ⟨b, off, none⟩) n cap ∧ n ≤ cap ∧ b < w.heap.size ∧ ∀ i (hi : i < l.length), (w.cell? ⟨b, off + i * 5, none⟩ = some (.int .u8 l[i].op) ∧ w.cell? ⟨b, off + i * 5 + 1, none⟩ = some (.int .i64 l[i].a) ∧ w.cell? ⟨b, off + i * 5 + 2, none⟩ = some (.int .i64 l[i].b)) ∧ w.cell? ⟨b, off + i * 5 + 3, none⟩ = some (.int .i64 l[i].c) ∧ w.cell? ⟨b, off + i * 5 + 4, none⟩ = some (.int .i64 l[i].d) := by
  subst hn
  obtain ⟨b, off, cap, rfl, h1, h2⟩ := h.at h0
  have h3 := h.ins h0
  refine ⟨b, off, cap, rfl, h1, h3.2.2.2, fun i hi => ?_⟩
  have h4 := h.ins hi
  exact ⟨h4.1, h4.2.1, h4.2.2.1⟩

set_option maxRecDepth 100000 in
set_option maxHeartbeats 4000000 in
theorem awake_any (w : World) (ht : TabOk w) : Calls Tryd.prog 9 #[] w fun e w' => e = .returned (.bool true) ∧ Grow w w' := by
  have HT := Lib.hid ht
  clear ht
  go_enter Tryd.func9, Tryd.ntmps9
  go_wp2_with fail
  obtain ⟨h1, h2, h3⟩ := awake_world w
  have hfew : FewO mainA ([procV w.heap.size].map (·.d)) := ⟨⟨by decide, by simp, by simp [procV, procA]⟩, by decide, by simp [procV, procA]⟩
  refine (link_any (mainV w.heap.size) _ [procV w.heap.size] _ (HT.out.later h3) h1 h2 hfew).mono ?_
  have HG := Lib.hid h3
  clear h1 h2 h3 hfew
  rintro e w1 ⟨cv, sv, rfl, hg1, hc, hs⟩
  have hl : linkD (mainV w.heap.size).d ([procV w.heap.size].map (·.d)) = imgA := awake_link
  rw [hl] at hc hs ⊢
  have HG1 := Lib.hid (Mv.trans HG.out hg1 (fun _ e => e.elim))
  obtain ⟨b, off, cap, rfl, hcap, hbl, hcc⟩ := hc.ins0 (n := 5) rfl (by decide)
  obtain ⟨⟨c00, c01, c02⟩, c03, c04⟩ := hcc 0 (by decide)
  obtain ⟨⟨c20, c21, c22⟩, c23, c24⟩ := hcc 2 (by decide)
  obtain ⟨⟨c40, c41, c42⟩, c43, c44⟩ := hcc 4 (by decide)
  obtain ⟨sb, soff, scap, rfl, hscap, hsc⟩ := hs.at (i := 0) (by decide)
  have s0 := hsc 0 _ rfl
  have s1 := hsc 1 _ rfl
  have hsb := World.block_lt_of_cell? w1 _ s0
  have hm : imgA.mem = 80 := rfl
  have hst : imgA.stacks = 1 := rfl
  have he : imgA.err = 0 := rfl
  have hsl : imgA.syms.length = 1 := rfl
  have e20 : imgA.code[2] = ⟨32, 4, 0, 0, 0⟩ := rfl
  have e00 : imgA.code[0] = ⟨30, 2, 0, 0, 0⟩ := rfl
  have e40 : imgA.code[4] = ⟨33, 2, 0, 0, 0⟩ := rfl
  have es0 : imgA.syms[0] = ⟨⟨#[102]⟩, 2⟩ := rfl
  rw [e20] at c20 c21 c22 c23 c24
  rw [e00] at c00 c01 c02 c03 c04
  rw [e40] at c40 c41 c42 c43 c44
  rw [es0] at s0 s1
  rw [hsl] at hscap ⊢
  rw [hm, hst, he]
  simp only [Nat.zero_mul, Nat.add_zero] at c00 c01 c02 c03 c04 s0 s1
  clear hg1 hcc hsc hc hs hl e20 e00 e40 es0 hm hst he hsl HG
  go_wp2_with fail
  go_ret
  exact ⟨rfl, HG1.out.alloc _⟩

end Go.Proofs.YtaabkaiifplhgaaDoor
