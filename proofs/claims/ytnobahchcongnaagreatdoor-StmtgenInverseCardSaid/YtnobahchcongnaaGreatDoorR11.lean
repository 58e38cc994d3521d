import Derived.Test.YtnobahchcongnaaGreatDoorR10
import Derived.Laws.IdiomCopy
set_option linter.unusedSimpArgs false
set_option linter.unusedVariables false
set_option maxRecDepth 100000
set_option maxHeartbeats 25600000
namespace Go.Proofs.YtnobahchcongnaaGreatDoor
open Go.RowKit Go.Instr
theorem Tryz.Cb:(Tryz.prog.info? 3).map (·.size)=some 1:=by kernel_rfl
def Cq (w:World) (i:Ins) (e:Ending) (w':World):Prop:=e = .returned (.agg #[.int .u8 i.op,.int .i64 i.a,.int .i64 i.b,.int .i64 i.c,.int .i64 i.d])/\Grow w w'
theorem bJ {w:World} {X:Nat} {a b c d e:Value} {t:TypeId} (h:w.heap[X]? = some (.cells #[a,b,c,d,e] t (0,0))):((w.cell? ⟨X,0,none⟩=some a/\w.cell? ⟨X,1,none⟩=some b/\w.cell? ⟨X,2,none⟩=some c)/\w.cell? ⟨X,3,none⟩=some d/\w.cell? ⟨X,4,none⟩=some e):=by
 simp[World.cell?,h]
theorem Xc (op x0:Int) (b:Nat) (t:TypeId) (w:World) (hb:w.heap[b]? = some (.cells #[.int .i64 x0] t (0,0))) :
 Calls Tryz.prog 40 #[.int .u8 op,.slice (some ⟨b,0,none⟩) 1 1] w (Cq w ⟨op,x0,0,0,0⟩):=by
 have hbl:=lt_of_block hb;have hcp:(Builtin.copy_ #[84,84] 3 #[.slice (some ⟨w.heap.size+1,0,none⟩) 4 4,.slice (some ⟨b,0,none⟩) 1 1]).run Tryz.prog ((w.alloc (.cells #[.int .u8 0,.int .i64 0,.int .i64 0,.int .i64 0,.int .i64 0] 57)).alloc (.cells #[.int .i64 0,.int .i64 0,.int .i64 0,.int .i64 0] 113)) = .ok (goInt 1) ((w.alloc (.cells #[.int .u8 0,.int .i64 0,.int .i64 0,.int .i64 0,.int .i64 0] 57)).alloc (.cells #[.int .i64 x0,.int .i64 0,.int .i64 0,.int .i64 0] 113)):=by
  have hb2:=aS (aS hb (.cells #[.int .u8 0,.int .i64 0,.int .i64 0,.int .i64 0,.int .i64 0] 57)) (.cells #[.int .i64 0,.int .i64 0,.int .i64 0,.int .i64 0] 113);have hz:=heap_alloc_new (w.alloc (.cells #[.int .u8 0,.int .i64 0,.int .i64 0,.int .i64 0,.int .i64 0] 57)) (.cells #[.int .i64 0,.int .i64 0,.int .i64 0,.int .i64 0] 113);rw[World.size_alloc]at hz;have h:=run_copy_cells (P:=Tryz.prog) ((w.alloc (.cells #[.int .u8 0,.int .i64 0,.int .i64 0,.int .i64 0,.int .i64 0] 57)).alloc (.cells #[.int .i64 0,.int .i64 0,.int .i64 0,.int .i64 0] 113)) 84 84 3 3 (w.heap.size+1) 0 4 4 ⟨b,0,none⟩ 1 1 [.int .i64 x0] Tryz.underlying84 Tryz.Cb rfl
   (λj v hv=>by
    rw[z8,Nat.zero_add];simp only[World.cell?,hb2]
    simpa using hv)
   (λj hj=>by
    have vY:j<4:=by simp at hj;omega
    simp only[World.cell?,hz,Nat.zero_add];rcases j with _|_|_|_|j
    all_goals first|rfl|omega)
   (λj hj=>aG hz _) (by simp[Value.oneCell'])
  rw[h];simp[World.setCells,go_sem]
 have HG:=ł (show Grow w ((w.alloc (.cells #[.int .u8 op,.int .i64 x0,.int .i64 0,.int .i64 0,.int .i64 0] 57)).alloc (.cells #[.int .i64 x0,.int .i64 0,.int .i64 0,.int .i64 0] 113))from((Mv.refl _ _).alloc _).alloc _);clear hb
 go_enter Tryz.func40,Tryz.ntmps40
 go_wp2_with fail;refine bodyPost_ret (v := .agg #[.int .u8 op,.int .i64 x0,.int .i64 0,.int .i64 0,.int .i64 0]) ?_ rfl ⟨rfl,HG.out⟩;simp[results,Tryz.results40,go_sem]
theorem iy (op x0 x1:Int) (b:Nat) (t:TypeId) (w:World) (hb:w.heap[b]? = some (.cells #[.int .i64 x0,.int .i64 x1] t (0,0))) :
 Calls Tryz.prog 40 #[.int .u8 op,.slice (some ⟨b,0,none⟩) 2 2] w (Cq w ⟨op,x0,x1,0,0⟩):=by
 have hbl:=lt_of_block hb;have hcp:(Builtin.copy_ #[84,84] 3 #[.slice (some ⟨w.heap.size+1,0,none⟩) 4 4,.slice (some ⟨b,0,none⟩) 2 2]).run Tryz.prog ((w.alloc (.cells #[.int .u8 0,.int .i64 0,.int .i64 0,.int .i64 0,.int .i64 0] 57)).alloc (.cells #[.int .i64 0,.int .i64 0,.int .i64 0,.int .i64 0] 113)) = .ok (goInt 2) ((w.alloc (.cells #[.int .u8 0,.int .i64 0,.int .i64 0,.int .i64 0,.int .i64 0] 57)).alloc (.cells #[.int .i64 x0,.int .i64 x1,.int .i64 0,.int .i64 0] 113)):=by
  have hb2:=aS (aS hb (.cells #[.int .u8 0,.int .i64 0,.int .i64 0,.int .i64 0,.int .i64 0] 57)) (.cells #[.int .i64 0,.int .i64 0,.int .i64 0,.int .i64 0] 113);have hz:=heap_alloc_new (w.alloc (.cells #[.int .u8 0,.int .i64 0,.int .i64 0,.int .i64 0,.int .i64 0] 57)) (.cells #[.int .i64 0,.int .i64 0,.int .i64 0,.int .i64 0] 113);rw[World.size_alloc]at hz;have h:=run_copy_cells (P:=Tryz.prog) ((w.alloc (.cells #[.int .u8 0,.int .i64 0,.int .i64 0,.int .i64 0,.int .i64 0] 57)).alloc (.cells #[.int .i64 0,.int .i64 0,.int .i64 0,.int .i64 0] 113)) 84 84 3 3 (w.heap.size+1) 0 4 4 ⟨b,0,none⟩ 2 2 [.int .i64 x0,.int .i64 x1] Tryz.underlying84 Tryz.Cb rfl
   (λj v hv=>by
    rw[z8,Nat.zero_add];simp only[World.cell?,hb2]
    simpa using hv)
   (λj hj=>by
    have vY:j<4:=by simp at hj;omega
    simp only[World.cell?,hz,Nat.zero_add];rcases j with _|_|_|_|j
    all_goals first|rfl|omega)
   (λj hj=>aG hz _) (by simp[Value.oneCell'])
  rw[h];simp[World.setCells,go_sem]
 have HG:=ł (show Grow w ((w.alloc (.cells #[.int .u8 op,.int .i64 x0,.int .i64 x1,.int .i64 0,.int .i64 0] 57)).alloc (.cells #[.int .i64 x0,.int .i64 x1,.int .i64 0,.int .i64 0] 113))from((Mv.refl _ _).alloc _).alloc _);clear hb
 go_enter Tryz.func40,Tryz.ntmps40
 go_wp2_with fail;refine bodyPost_ret (v := .agg #[.int .u8 op,.int .i64 x0,.int .i64 x1,.int .i64 0,.int .i64 0]) ?_ rfl ⟨rfl,HG.out⟩;simp[results,Tryz.results40,go_sem]
theorem J5 (op x0 x1 x2 x3:Int) (b:Nat) (t:TypeId) (w:World) (hb:w.heap[b]? = some (.cells #[.int .i64 x0,.int .i64 x1,.int .i64 x2,.int .i64 x3] t (0,0))) :
 Calls Tryz.prog 40 #[.int .u8 op,.slice (some ⟨b,0,none⟩) 4 4] w (Cq w ⟨op,x0,x1,x2,x3⟩):=by
 have hbl:=lt_of_block hb;have hcp:(Builtin.copy_ #[84,84] 3 #[.slice (some ⟨w.heap.size+1,0,none⟩) 4 4,.slice (some ⟨b,0,none⟩) 4 4]).run Tryz.prog ((w.alloc (.cells #[.int .u8 0,.int .i64 0,.int .i64 0,.int .i64 0,.int .i64 0] 57)).alloc (.cells #[.int .i64 0,.int .i64 0,.int .i64 0,.int .i64 0] 113)) = .ok (goInt 4) ((w.alloc (.cells #[.int .u8 0,.int .i64 0,.int .i64 0,.int .i64 0,.int .i64 0] 57)).alloc (.cells #[.int .i64 x0,.int .i64 x1,.int .i64 x2,.int .i64 x3] 113)):=by
  have hb2:=aS (aS hb (.cells #[.int .u8 0,.int .i64 0,.int .i64 0,.int .i64 0,.int .i64 0] 57)) (.cells #[.int .i64 0,.int .i64 0,.int .i64 0,.int .i64 0] 113);have hz:=heap_alloc_new (w.alloc (.cells #[.int .u8 0,.int .i64 0,.int .i64 0,.int .i64 0,.int .i64 0] 57)) (.cells #[.int .i64 0,.int .i64 0,.int .i64 0,.int .i64 0] 113);rw[World.size_alloc]at hz;have h:=run_copy_cells (P:=Tryz.prog) ((w.alloc (.cells #[.int .u8 0,.int .i64 0,.int .i64 0,.int .i64 0,.int .i64 0] 57)).alloc (.cells #[.int .i64 0,.int .i64 0,.int .i64 0,.int .i64 0] 113)) 84 84 3 3 (w.heap.size+1) 0 4 4 ⟨b,0,none⟩ 4 4 [.int .i64 x0,.int .i64 x1,.int .i64 x2,.int .i64 x3] Tryz.underlying84 Tryz.Cb rfl
   (λj v hv=>by
    rw[z8,Nat.zero_add];simp only[World.cell?,hb2]
    simpa using hv)
   (λj hj=>by
    have vY:j<4:=by simp at hj;omega
    simp only[World.cell?,hz,Nat.zero_add];rcases j with _|_|_|_|j
    all_goals first|rfl|omega)
   (λj hj=>aG hz _) (by simp[Value.oneCell'])
  rw[h];simp[World.setCells,go_sem]
 have HG:=ł (show Grow w ((w.alloc (.cells #[.int .u8 op,.int .i64 x0,.int .i64 x1,.int .i64 x2,.int .i64 x3] 57)).alloc (.cells #[.int .i64 x0,.int .i64 x1,.int .i64 x2,.int .i64 x3] 113))from((Mv.refl _ _).alloc _).alloc _);clear hb
 go_enter Tryz.func40,Tryz.ntmps40
 go_wp2_with fail;refine bodyPost_ret (v := .agg #[.int .u8 op,.int .i64 x0,.int .i64 x1,.int .i64 x2,.int .i64 x3]) ?_ rfl ⟨rfl,HG.out⟩;simp[results,Tryz.results40,go_sem]
theorem wK (op x0:Int) (b:Nat) (t:TypeId) (w:World) (hb:w.heap[b]? = some (.cells #[.int .i64 x0] t (0,0))) :
 Calls Tryz.prog 81 #[.int .u8 op,.slice (some ⟨b,0,none⟩) 1 1] w (Cq w ⟨op,x0,0,0,0⟩):=by
 have hbl:=lt_of_block hb;have hcp:(Builtin.copy_ #[84,84] 3 #[.slice (some ⟨w.heap.size+1,0,none⟩) 4 4,.slice (some ⟨b,0,none⟩) 1 1]).run Tryz.prog ((w.alloc (.cells #[.int .u8 0,.int .i64 0,.int .i64 0,.int .i64 0,.int .i64 0] 57)).alloc (.cells #[.int .i64 0,.int .i64 0,.int .i64 0,.int .i64 0] 113)) = .ok (goInt 1) ((w.alloc (.cells #[.int .u8 0,.int .i64 0,.int .i64 0,.int .i64 0,.int .i64 0] 57)).alloc (.cells #[.int .i64 x0,.int .i64 0,.int .i64 0,.int .i64 0] 113)):=by
  have hb2:=aS (aS hb (.cells #[.int .u8 0,.int .i64 0,.int .i64 0,.int .i64 0,.int .i64 0] 57)) (.cells #[.int .i64 0,.int .i64 0,.int .i64 0,.int .i64 0] 113);have hz:=heap_alloc_new (w.alloc (.cells #[.int .u8 0,.int .i64 0,.int .i64 0,.int .i64 0,.int .i64 0] 57)) (.cells #[.int .i64 0,.int .i64 0,.int .i64 0,.int .i64 0] 113);rw[World.size_alloc]at hz;have h:=run_copy_cells (P:=Tryz.prog) ((w.alloc (.cells #[.int .u8 0,.int .i64 0,.int .i64 0,.int .i64 0,.int .i64 0] 57)).alloc (.cells #[.int .i64 0,.int .i64 0,.int .i64 0,.int .i64 0] 113)) 84 84 3 3 (w.heap.size+1) 0 4 4 ⟨b,0,none⟩ 1 1 [.int .i64 x0] Tryz.underlying84 Tryz.Cb rfl
   (λj v hv=>by
    rw[z8,Nat.zero_add];simp only[World.cell?,hb2]
    simpa using hv)
   (λj hj=>by
    have vY:j<4:=by simp at hj;omega
    simp only[World.cell?,hz,Nat.zero_add];rcases j with _|_|_|_|j
    all_goals first|rfl|omega)
   (λj hj=>aG hz _) (by simp[Value.oneCell'])
  rw[h];simp[World.setCells,go_sem]
 have HG:=ł (show Grow w ((w.alloc (.cells #[.int .u8 op,.int .i64 x0,.int .i64 0,.int .i64 0,.int .i64 0] 57)).alloc (.cells #[.int .i64 x0,.int .i64 0,.int .i64 0,.int .i64 0] 113))from((Mv.refl _ _).alloc _).alloc _);clear hb
 go_enter Tryz.func81,Tryz.ntmps81
 go_wp2_with fail;refine bodyPost_ret (v := .agg #[.int .u8 op,.int .i64 x0,.int .i64 0,.int .i64 0,.int .i64 0]) ?_ rfl ⟨rfl,HG.out⟩;simp[results,Tryz.results81,go_sem]
theorem gu (op x0 x1:Int) (b:Nat) (t:TypeId) (w:World) (hb:w.heap[b]? = some (.cells #[.int .i64 x0,.int .i64 x1] t (0,0))) :
 Calls Tryz.prog 81 #[.int .u8 op,.slice (some ⟨b,0,none⟩) 2 2] w (Cq w ⟨op,x0,x1,0,0⟩):=by
 have hbl:=lt_of_block hb;have hcp:(Builtin.copy_ #[84,84] 3 #[.slice (some ⟨w.heap.size+1,0,none⟩) 4 4,.slice (some ⟨b,0,none⟩) 2 2]).run Tryz.prog ((w.alloc (.cells #[.int .u8 0,.int .i64 0,.int .i64 0,.int .i64 0,.int .i64 0] 57)).alloc (.cells #[.int .i64 0,.int .i64 0,.int .i64 0,.int .i64 0] 113)) = .ok (goInt 2) ((w.alloc (.cells #[.int .u8 0,.int .i64 0,.int .i64 0,.int .i64 0,.int .i64 0] 57)).alloc (.cells #[.int .i64 x0,.int .i64 x1,.int .i64 0,.int .i64 0] 113)):=by
  have hb2:=aS (aS hb (.cells #[.int .u8 0,.int .i64 0,.int .i64 0,.int .i64 0,.int .i64 0] 57)) (.cells #[.int .i64 0,.int .i64 0,.int .i64 0,.int .i64 0] 113);have hz:=heap_alloc_new (w.alloc (.cells #[.int .u8 0,.int .i64 0,.int .i64 0,.int .i64 0,.int .i64 0] 57)) (.cells #[.int .i64 0,.int .i64 0,.int .i64 0,.int .i64 0] 113);rw[World.size_alloc]at hz;have h:=run_copy_cells (P:=Tryz.prog) ((w.alloc (.cells #[.int .u8 0,.int .i64 0,.int .i64 0,.int .i64 0,.int .i64 0] 57)).alloc (.cells #[.int .i64 0,.int .i64 0,.int .i64 0,.int .i64 0] 113)) 84 84 3 3 (w.heap.size+1) 0 4 4 ⟨b,0,none⟩ 2 2 [.int .i64 x0,.int .i64 x1] Tryz.underlying84 Tryz.Cb rfl
   (λj v hv=>by
    rw[z8,Nat.zero_add];simp only[World.cell?,hb2]
    simpa using hv)
   (λj hj=>by
    have vY:j<4:=by simp at hj;omega
    simp only[World.cell?,hz,Nat.zero_add];rcases j with _|_|_|_|j
    all_goals first|rfl|omega)
   (λj hj=>aG hz _) (by simp[Value.oneCell'])
  rw[h];simp[World.setCells,go_sem]
 have HG:=ł (show Grow w ((w.alloc (.cells #[.int .u8 op,.int .i64 x0,.int .i64 x1,.int .i64 0,.int .i64 0] 57)).alloc (.cells #[.int .i64 x0,.int .i64 x1,.int .i64 0,.int .i64 0] 113))from((Mv.refl _ _).alloc _).alloc _);clear hb
 go_enter Tryz.func81,Tryz.ntmps81
 go_wp2_with fail;refine bodyPost_ret (v := .agg #[.int .u8 op,.int .i64 x0,.int .i64 x1,.int .i64 0,.int .i64 0]) ?_ rfl ⟨rfl,HG.out⟩;simp[results,Tryz.results81,go_sem]
theorem J6 (op x0 x1 x2 x3:Int) (b:Nat) (t:TypeId) (w:World) (hb:w.heap[b]? = some (.cells #[.int .i64 x0,.int .i64 x1,.int .i64 x2,.int .i64 x3] t (0,0))) :
 Calls Tryz.prog 81 #[.int .u8 op,.slice (some ⟨b,0,none⟩) 4 4] w (Cq w ⟨op,x0,x1,x2,x3⟩):=by
 have hbl:=lt_of_block hb;have hcp:(Builtin.copy_ #[84,84] 3 #[.slice (some ⟨w.heap.size+1,0,none⟩) 4 4,.slice (some ⟨b,0,none⟩) 4 4]).run Tryz.prog ((w.alloc (.cells #[.int .u8 0,.int .i64 0,.int .i64 0,.int .i64 0,.int .i64 0] 57)).alloc (.cells #[.int .i64 0,.int .i64 0,.int .i64 0,.int .i64 0] 113)) = .ok (goInt 4) ((w.alloc (.cells #[.int .u8 0,.int .i64 0,.int .i64 0,.int .i64 0,.int .i64 0] 57)).alloc (.cells #[.int .i64 x0,.int .i64 x1,.int .i64 x2,.int .i64 x3] 113)):=by
  have hb2:=aS (aS hb (.cells #[.int .u8 0,.int .i64 0,.int .i64 0,.int .i64 0,.int .i64 0] 57)) (.cells #[.int .i64 0,.int .i64 0,.int .i64 0,.int .i64 0] 113);have hz:=heap_alloc_new (w.alloc (.cells #[.int .u8 0,.int .i64 0,.int .i64 0,.int .i64 0,.int .i64 0] 57)) (.cells #[.int .i64 0,.int .i64 0,.int .i64 0,.int .i64 0] 113);rw[World.size_alloc]at hz;have h:=run_copy_cells (P:=Tryz.prog) ((w.alloc (.cells #[.int .u8 0,.int .i64 0,.int .i64 0,.int .i64 0,.int .i64 0] 57)).alloc (.cells #[.int .i64 0,.int .i64 0,.int .i64 0,.int .i64 0] 113)) 84 84 3 3 (w.heap.size+1) 0 4 4 ⟨b,0,none⟩ 4 4 [.int .i64 x0,.int .i64 x1,.int .i64 x2,.int .i64 x3] Tryz.underlying84 Tryz.Cb rfl
   (λj v hv=>by
    rw[z8,Nat.zero_add];simp only[World.cell?,hb2]
    simpa using hv)
   (λj hj=>by
    have vY:j<4:=by simp at hj;omega
    simp only[World.cell?,hz,Nat.zero_add];rcases j with _|_|_|_|j
    all_goals first|rfl|omega)
   (λj hj=>aG hz _) (by simp[Value.oneCell'])
  rw[h];simp[World.setCells,go_sem]
 have HG:=ł (show Grow w ((w.alloc (.cells #[.int .u8 op,.int .i64 x0,.int .i64 x1,.int .i64 x2,.int .i64 x3] 57)).alloc (.cells #[.int .i64 x0,.int .i64 x1,.int .i64 x2,.int .i64 x3] 113))from((Mv.refl _ _).alloc _).alloc _);clear hb
 go_enter Tryz.func81,Tryz.ntmps81
 go_wp2_with fail;refine bodyPost_ret (v := .agg #[.int .u8 op,.int .i64 x0,.int .i64 x1,.int .i64 x2,.int .i64 x3]) ?_ rfl ⟨rfl,HG.out⟩;simp[results,Tryz.results81,go_sem]
attribute [local go_sem ↓] ni
theorem Tryz.Lj:(Tryz.prog.info? 57).map (λi=>(i.zero,i.size,i.bytes))=some (some (.agg #[.int .u8 0,.int .i64 0,.int .i64 0,.int .i64 0,.int .i64 0]),5,40):=by kernel_rfl
theorem Tryz.Hm:Elem Tryz.prog 31 57 5 40:=Elem.of Tryz.underlying31 Tryz.Lj rfl (by decide) (by decide)
theorem Ho {l:List Ins} : ∀ x∈l,∀ u∈x.cells,u.oneCell'=true:=by
 intro x _ u hu;simp[Ins.cells]at hu;rcases hu with rfl|rfl|rfl|rfl|rfl <;> rfl
abbrev dO (w:World) (base:Nat) (v:Value) (l:List Ins):Prop:=w.ownsRow base 57 5 v l.length (flat Ins.cells l)
structure bC (w0:World) (C:Nat) (sv:Value) (f:ax) (w:World) (cv:Value) (code:List Ins):Prop where
 g:Grow w0 w
 blk:w.heap[C]? = some (.cells #[sv,.int .i64 f.cells,.int .i64 f.stacks,cv] 100 (0,0))
 row:dO w w0.heap.size cv code
 hC:w0.heap.size<=C
structure cO (C:Nat) (w:World) (cv:Value) (w':World) (cv':Value):Prop where
 mv:Mv (λb=>b=C\/cv.ownBlock=some b) w w'
 own:∀ g,cv'.ownBlock=some g->cv.ownBlock=some g\/w.heap.size<=g
theorem cO.refl (C:Nat) (w:World) (cv:Value):cO C w cv w cv:=⟨Mv.refl _ _,λ_ h => .inl h⟩
theorem cO.trans {C:Nat} {w w1 w2:World} {cv Vo xM:Value} (h:cO C w cv w1 Vo) (k:cO C w1 Vo w2 xM):cO C w cv w2 xM :=
 ⟨h.mv.trans k.mv (λx e=>by
  rcases e with e|e
  · exact .inl (.inl e)
  · rcases h.own x e with e|e
    · exact .inl (.inr e)
    · exact .inr e),λg hg=>by
  rcases k.own g hg with e|e
  · exact h.own g e
  · exact .inr (Nat.le_trans h.mv.size e)⟩
theorem cO.grow {C:Nat} {w w1:World} {cv:Value} (h:Grow w w1):cO C w cv w1 cv:=⟨h.mono (λ_ e=>e.elim),λ_ h => .inl h⟩
theorem bC.grow {w0:World} {C:Nat} {sv:Value} {f:ax} {w w1:World} {cv:Value} {code:List Ins} (h:bC w0 C sv f w cv code) (hg:Grow w w1):bC w0 C sv f w1 cv code :=
 ⟨Mv.trans h.g hg (λ_ e=>e.elim),ai h.blk hg,bg h.row hg (λ_ _ e=>e),h.hC⟩
theorem bC.ne {w0:World} {C:Nat} {sv:Value} {f:ax} {w:World} {cv:Value} {code:List Ins} (h:bC w0 C sv f w cv code):cv.ownBlock≠some C:=by
 intro e;rcases h.row.2 with⟨rfl,_⟩|⟨g,cap,cur,rfl,_,hg,_⟩
 · simp[Value.ownBlock]at e
 · simp[Value.ownBlock]at e;subst e;have:=h.blk;rw[hg]at this;simp only[Option.some.injEq,Obj.cells.injEq]at this;exact absurd this.2.1 (by decide)
theorem lZ (w0:World) (C:Nat) (sv:Value) (f:ax) (w:World) (cv:Value) (code:List Ins) (lv:Value) (ls:List Ins) (hst:bC w0 C sv f w cv code) (hl:az 5 Ins.cells w lv ls) (hlen:code.length+ls.length<=1000000) :
 Calls Tryz.prog 39 #[.pointer (some ⟨C,0,none⟩),lv] w λe w'=>e = .returned (.tuple #[])/\∃ cv',bC w0 C sv f w' cv' (code ++ ls)/\cO C w cv w' cv':=by
 obtain⟨la,lc,rfl,hlc,hll⟩:=hl.form;obtain⟨ca,cc,hcv⟩:=gF hst.row;subst hcv;have hne:=hst.ne;have hblk:=hst.blk;obtain⟨a',c',w2,⟨hok,hv,hw⟩,hrow2,bz,hown2⟩:=qA Tryz.Hm (f:=Ins.cells) (λ_=>rfl) _ _ code ls w0.heap.size w hst.row hl Ho hst.g.size hlen;have hb2:w2.heap[C]? = some (.cells #[sv,.int .i64 f.cells,.int .i64 f.stacks,.slice ca code.length cc] 100 (0,0)):=by
  rw[bz.block C (lt_of_block hblk) (λe=>hne e)];exact hblk
 have hb3:=block_setCell (p:=⟨C,3,none⟩) hb2 rfl (.slice a' (code.length+ls.length) c');simp only[List.setIfInBounds_toArray,List.set_cons_zero,List.set_cons_succ]at hb3;have Iz:Mv (λb=>b=C) w2 (w2.setCell ⟨C,3,none⟩ (.slice a' (code.length+ls.length) c')):=(Mv.refl (λb=>b=C) w2).setCell (p:=⟨C,3,none⟩) (.inl rfl) _;have hC:=hst.hC;have HS:=ł (show bC w0 C sv f (w2.setCell ⟨C,3,none⟩ (.slice a' (code.length+ls.length) c')) (.slice a' (code.length+ls.length) c') (code ++ ls)from
  ⟨(hst.g.trans bz (λx e => .inr (hst.row.lt x e).1)).trans Iz (λx e => .inr (by omega)),hb3,bg hrow2 Iz (λg hg e=>by
   subst e;rcases hrow2.2 with⟨h1,_⟩|⟨g2,cap,cur,h1,_,hg2,_⟩
   · rw[h1]at hg;simp[Value.ownBlock]at hg
   · rw[h1]at hg;simp[Value.ownBlock]at hg;subst hg;rw[hb2]at hg2;simp only[Option.some.injEq,Obj.cells.injEq]at hg2;exact absurd hg2.2.1 (by decide)),hC⟩)
 have HT:=ł (show cO C w (.slice ca code.length cc) (w2.setCell ⟨C,3,none⟩ (.slice a' (code.length+ls.length) c')) (.slice a' (code.length+ls.length) c')from
  ⟨(bz.mono (λx e => .inl (.inr e))).trans Iz (λx e => .inl (.inl e)),hown2⟩)
 obtain⟨⟨k0,k1⟩,k2,k3⟩:=aC hblk;obtain⟨⟨j0,j1⟩,j2,j3⟩:=aC hb2;have AZ:=lt_of_block hblk;have ae1:=lt_of_block hb2;have ht2:=aG hb2;clear hst hl hne hblk hrow2 bz hown2 hb2 hb3 Iz
 go_enter Tryz.func39,Tryz.ntmps39
 go_wp2_with fail
 go_end0
 exact⟨rfl,_,HS.out,HT.out⟩
def jA (n0:Nat) (P F NP NM:Value) (sl:dA) (b:Bool):Nat->List Value->World->Prop
 |0,[v],_=>v=P
 |1,[v],_=>v=P
 |2,[v],_=>v=P
 |3,[v],_=>v=F
 |4,[v],_=>v=NP
 |5,[v],_=>v=NM
 |6,[v],_=>v = .tuple #[sl.val,.bool b]
 |7,[v],_=>v = .tuple #[sl.val,.bool b]
 |8,[v],_=>v=sl.val
 |9,[v],_=>v = .bool b
 |10,[v],x=>∃ g,v = .pointer (some ⟨g,0,none⟩)/\n0<=g/\x.heap[g]? = some (.cells #[.string ⟨#[]⟩,.int .u8 0,.int .i64 0,.int .i64 0] 95 (0,0))
 |11,[v],x=>∃ g,v = .pointer (some ⟨g,0,none⟩)/\n0<=g/\x.heap[g]? = some (.cells #[.string sl.name,.int .u8 sl.kind,.int .i64 sl.len,.int .i64 sl.at'] 95 (0,0))
 |12,[v],_=>v = .bool b
 |_,_,_=>True
def iV (cs:List (Option Value)) (bs:List (Option (List Int))) (c e:Nat) (add:List Ins) (w0:World) (C:Nat) (sv:Value) (f:ax) (cv:Value) (code:List Ins) (n0:Nat):Nat->List Value->World->Prop:=λj l x =>
 if j=e then ∃ cv',bC w0 C sv f x cv' (code ++ add)/\∀ g,cv'.ownBlock=some g->cv.ownBlock=some g\/n0<=g
 else if j=c then ∃ g,l=[.slice (some ⟨g,0,none⟩) add.length add.length]/\n0<=g/\g<x.heap.size/\az 5 Ins.cells x (.slice (some ⟨g,0,none⟩) add.length add.length) add
 else match bs.getD j none with
  |some xs=>∃ g,l=[.slice (some ⟨g,0,none⟩) xs.length xs.length]/\n0<=g/\x.heap[g]? = some (.cells (xs.map (λi=>Value.int .i64 i)).toArray 3 (0,0))
  |none=>match cs.getD j none with
   |some v=>l=[v]
   |none=>True
section
variable {cs:List (Option Value)} {bs:List (Option (List Int))} {c e:Nat} {add:List Ins} {w0:World} {C:Nat} {sv:Value} {f:ax} {cv:Value} {code:List Ins} {n0:Nat} {x y:World} {v u:Value} {xs:List Int} {j:Nat}
theorem jg (h:iV cs bs c e add w0 C sv f cv code n0 j [v] x) (h1:j≠e) (h2:j≠c) (h3:bs.getD j none=none) (h4:cs.getD j none=some u):v=u:=by
 unfold iV at h;rw[if_neg h1,if_neg h2,h3,h4]at h
 simpa using h
theorem jX (h1:j≠e) (h2:j≠c) (h3:bs.getD j none=none) (h4:cs.getD j none=some u) (hv:v=u):iV cs bs c e add w0 C sv f cv code n0 j [v] x:=by
 unfold iV;rw[if_neg h1,if_neg h2,h3,h4,hv]
theorem DU (h1:j≠e) (h2:j≠c) (h3:bs.getD j none=some xs) (h:∃ g,v = .slice (some ⟨g,0,none⟩) xs.length xs.length/\n0<=g/\x.heap[g]? = some (.cells (xs.map (λi=>Value.int .i64 i)).toArray 3 (0,0))):iV cs bs c e add w0 C sv f cv code n0 j [v] x:=by
 unfold iV;rw[if_neg h1,if_neg h2,h3];obtain⟨g,rfl,h⟩:=h;exact⟨g,rfl,h⟩
theorem rO (h:iV cs bs c e add w0 C sv f cv code n0 j [v] x) (h1:j≠e) (h2:j≠c) (h3:bs.getD j none=some xs):∃ g,v = .slice (some ⟨g,0,none⟩) xs.length xs.length/\n0<=g/\x.heap[g]? = some (.cells (xs.map (λi=>Value.int .i64 i)).toArray 3 (0,0)):=by
 unfold iV at h;rw[if_neg h1,if_neg h2,h3]at h;obtain⟨g,h,h'⟩:=h;exact⟨g,by simpa using h,h'⟩
theorem GY (h1:c≠e) (h:∃ g,v = .slice (some ⟨g,0,none⟩) add.length add.length/\n0<=g/\g<x.heap.size/\az 5 Ins.cells x (.slice (some ⟨g,0,none⟩) add.length add.length) add):iV cs bs c e add w0 C sv f cv code n0 c [v] x:=by
 unfold iV;rw[if_neg h1,if_pos rfl];obtain⟨g,rfl,h⟩:=h;exact⟨g,rfl,h⟩
theorem Ga (h:iV cs bs c e add w0 C sv f cv code n0 c [v] x) (h1:c≠e):∃ g,v = .slice (some ⟨g,0,none⟩) add.length add.length/\n0<=g/\g<x.heap.size/\az 5 Ins.cells x (.slice (some ⟨g,0,none⟩) add.length add.length) add:=by
 unfold iV at h;rw[if_neg h1,if_pos rfl]at h;obtain⟨g,h,h'⟩:=h;exact⟨g,by simpa using h,h'⟩
theorem GZ {l:List Value} (h:∃ cv',bC w0 C sv f x cv' (code ++ add)/\∀ g,cv'.ownBlock=some g->cv.ownBlock=some g\/n0<=g):iV cs bs c e add w0 C sv f cv code n0 e l x:=by
 unfold iV;rw[if_pos rfl];exact h
theorem Gb {l:List Value} (h:iV cs bs c e add w0 C sv f cv code n0 e l x):∃ cv',bC w0 C sv f x cv' (code ++ add)/\∀ g,cv'.ownBlock=some g->cv.ownBlock=some g\/n0<=g:=by
 unfold iV at h;rwa[if_pos rfl]at h
theorem kE (hg:Grow x y):∀ j l,iV cs bs c e add w0 C sv f cv code n0 j l x->iV cs bs c e add w0 C sv f cv code n0 j l y:=by
 intro j l h;unfold iV at h ⊢;split
 · rename_i h1;rw[if_pos h1]at h;obtain⟨cv',h2,h3⟩:=h;exact⟨cv',h2.grow hg,h3⟩
 · rename_i h1;rw[if_neg h1]at h;split
   · rename_i h2;rw[if_pos h2]at h;obtain⟨g,h3,h4,h5,h6⟩:=h;exact⟨g,h3,h4,Nat.lt_of_lt_of_le h5 hg.size,h6.later hg⟩
   · rename_i h2;rw[if_neg h2]at h;split
     · rename_i xs h3;rw[h3]at h;obtain⟨g,h4,h5,h6⟩:=h;exact⟨g,h4,h5,ai h6 hg⟩
     · rename_i h3;rw[h3]at h;exact h
theorem G5 (hm:Mv (λb=>b=C\/cv.ownBlock=some b) x y) (hC:C<n0) (ho:∀ g,cv.ownBlock=some g->g<n0):∀ j l,¬ j=e->iV cs bs c e add w0 C sv f cv code n0 j l x->iV cs bs c e add w0 C sv f cv code n0 j l y:=by
 intro j l h1 h;have hno:∀ g,n0<=g->¬ (g=C\/cv.ownBlock=some g):=λg hg e'=>by
  rcases e' with e' | e'
  · omega
  · have:=ho g e';omega
 unfold iV at h ⊢;rw[if_neg h1]at h ⊢;split
 · rename_i h2;rw[if_pos h2]at h;obtain⟨g,h3,h4,h5,h6⟩:=h;exact⟨g,h3,h4,Nat.lt_of_lt_of_le h5 hm.size,h6.stay hm (λq hq=>by simp[Value.ownBlock]at hq;subst hq;exact hno _ h4)⟩
 · rename_i h2;rw[if_neg h2]at h;split
   · rename_i xs h3;rw[h3]at h;obtain⟨g,h4,h5,h6⟩:=h;exact⟨g,h4,h5,by rw[hm.block g (lt_of_block h6) (hno g h5)];exact h6⟩
   · rename_i h3;rw[h3]at h;exact h
end
section
variable {n0:Nat} {P F NP NM:Value} {sl:dA} {b:Bool} {x y:World}
theorem jA.grow (h:Grow x y):∀ j l,jA n0 P F NP NM sl b j l x->jA n0 P F NP NM sl b j l y:=by
 intro j l;unfold jA;split
 case h_11=>rintro⟨g,h1,h2,h3⟩;exact⟨g,h1,h2,ai h3 h⟩
 case h_12=>rintro⟨g,h1,h2,h3⟩;exact⟨g,h1,h2,ai h3 h⟩
 all_goals exact id
theorem jA.keep:∀ j l,¬ j=11->¬ j=10->jA n0 P F NP NM sl b j l x->jA n0 P F NP NM sl b j l y:=by
 intro j l h1 h2;unfold jA;split
 case h_11=>exact absurd rfl h2
 case h_12=>exact absurd rfl h1
 all_goals exact id
end
theorem Xu (w0:World) (C:Nat) (sv:Value) (f:ax) (w:World) (cv:Value) (code:List Ins) (k n:Int) (s:ByteArray) (kv:Value) (l:List ae) (hst:bC w0 C sv f w cv code) (hf:fE w0 sv f) (hx:aR w0 (.mk k n s kv l)) (hlen:code.length<=900000) :
 Calls Tryz.prog 89 #[.pointer (some ⟨C,0,none⟩),ae.val (.mk k n s kv l)] w λe w'=>e = .returned (.tuple #[])/\∃ cv',bC w0 C sv f w' cv' (code ++ [⟨10,1,((au f s 1).getD noSlot).at',0,0⟩,⟨3,2,1,0,0⟩,⟨10,1,((au f s 1).getD noSlot).at',0,0⟩,⟨12,2,0,0,0⟩])/\cO C w cv w' cv':=by
 obtain⟨fa,fc,rfl,hfc,hfl⟩:=hf.row.form;obtain⟨a,cap,rfl,hcap,LK⟩:=hx.form;simp only[ae.val];have HF:=ł hf;have hga:Grow w (w.alloc (.cells #[.int .u8 k,.int .i64 n,.string s,.slice a l.length cap] 24)):=(Mv.refl _ _).alloc _;have bD:=ł (hst.grow hga);have HN:=ł (heap_alloc_new w (.cells #[.int .u8 k,.int .i64 n,.string s,.slice a l.length cap] 24));have dS:=ł (cO.grow (C:=C) (cv:=cv) hga);have AZ:C<w.heap.size:=lt_of_block hst.blk;clear hst hf hx hga
 go_enter Tryz.func89,Tryz.ntmps89
 go_wp2_with fail;have xm:w.heap.size<(w.alloc (.cells #[.int .u8 k,.int .i64 n,.string s,.slice a l.length cap] 24)).heap.size:=by simp
 generalize w.alloc (.cells #[.int .u8 k,.int .i64 n,.string s,.slice a l.length cap] 24)=w1 at *;have kL:=ł (λ(x:World) (hx:Mv (λb=>w1.heap.size<=b) w1.drew x)=>(show Grow w0 x from Mv.trans (Mv.drew bD.out.g) hx (λb hb => .inr (Nat.le_trans bD.out.g.size hb))));have mD:=ł (λ(x:World) (hx:Mv (λb=>w1.heap.size<=b) w1.drew x)=>HF.out.later (kL.out x hx));have oC:=ł (λ(x:World) (hx:Mv (λb=>w1.heap.size<=b) w1.drew x)=>(show x.heap[C]? = _ from(hx.block C (by show C<w1.heap.size;omega) (by omega)).trans bD.out.blk));have iD:=ł (λ(x:World) (hx:Mv (λb=>w1.heap.size<=b) w1.drew x)=>(show x.heap[w.heap.size]? = _ from(hx.block w.heap.size (by show w.heap.size<w1.heap.size;omega) (by omega)).trans HN.out));refine De (by kernel_rfl) 30 [some 8,some 9,some 10,some 11,some 12,some 13,some 14,some 7,some 15,some 16,some 4,none,some 5] [[],[0],[1],[2],[],[4],[3,5],[6],[7],[7],[],[10,8,6,0,1,2,3,4,5,6,7,8,10],[9,11,0,1,2,3,4,5,6,7,8,9,10,11]] [[],[0],[1],[2],[],[4],[3,5],[6],[7],[7],[],[10,8],[9]] [[0],[1],[2],[3],[4],[5],[6],[7],[8],[9],[10],[10],[12]] [[],[],[],[],[],[],[],[],[],[],[11],[],[]] rfl (by kernel_rfl) (Mv (λb=>w1.heap.size<=b)) (λ_=>Mv.refl _ _) (λx y z h1 h2=>h1.trans h2 (λ_ e => .inl e)) (jA w1.heap.size (.pointer (some ⟨C,0,none⟩)) (.agg #[.slice fa f.slots.length fc,.int .i64 f.cells,.int .i64 f.stacks]) (.pointer (some ⟨w.heap.size,2,none⟩)) (.string s) ((au f s 1).getD noSlot) (au f s 1).isSome) ?steps ?done
 case steps =>
  refine⟨?s0,?s1,?s2,?s3,?s4,?s5,?s6,?s7,?s8,?s9,?s10,?s11,?s12,trivial⟩
  case s0|s4 =>
   intro vs x hx hY;clear hY;simp only[zR];go_simp;exact⟨Mv.refl _ _,rfl,by intros;assumption⟩
  case s1 =>
   intro vs x hx hY;have h0:vs 0=(.pointer (some ⟨C,0,none⟩)):=hY 0 (by simp) (by simp);clear hY;simp only[zR,h0];go_simp;exact⟨Mv.refl _ _,rfl,by intros;assumption⟩
  case s2 =>
   intro vs x hx hY;have h1:vs 1=(.pointer (some ⟨C,0,none⟩)):=hY 1 (by simp) (by simp);clear hY;simp only[zR,h1];go_simp;exact⟨Mv.refl _ _,rfl,by intros;assumption⟩
  case s3 =>
   intro vs x hx hY;have h2:vs 2=(.pointer (some ⟨C,0,none⟩)):=hY 2 (by simp) (by simp);obtain⟨⟨k0,k1⟩,k2,k3⟩:=aC (oC.out x hx);clear hY;simp only[zR,h2];go_simp;exact⟨Mv.refl _ _,rfl,by intros;assumption⟩
  case s5 =>
   intro vs x hx hY;have h4:vs 4=(.pointer (some ⟨w.heap.size,2,none⟩)):=hY 4 (by simp) (by simp);obtain⟨⟨n0,n1⟩,n2,n3⟩:=aC (iD.out x hx);clear hY;simp only[zR,h4];go_simp;exact⟨Mv.refl _ _,rfl,by intros;assumption⟩
  case s6 =>
   intro vs x hx hY;have h3:vs 3=(.agg #[.slice fa f.slots.length fc,.int .i64 f.cells,.int .i64 f.stacks]):=hY 3 (by simp) (by simp);have h5:vs 5 = .string s:=hY 5 (by simp) (by simp);have HC:=ł (oZ (.slice fa f.slots.length fc) f s 1 x (mD.out x hx));clear hY;simp only[zR,h3,h5];go_simp;refine HC.out.mono ?_;rintro e y ⟨rfl,hg⟩;exact⟨_,rfl,hg.mono (λ_ e=>e.elim),rfl,by intros;exact jA.grow hg _ _ (by assumption)⟩
  case s7 =>
   intro vs x hx hY;have h6:vs 6=(.tuple #[((au f s 1).getD noSlot).val,.bool (au f s 1).isSome]):=hY 6 (by simp) (by simp);clear hY;simp only[zR,h6];go_simp;exact⟨Mv.refl _ _,rfl,by intros;assumption⟩
  case s8|s9 =>
   intro vs x hx hY;have h7:vs 7=(.tuple #[((au f s 1).getD noSlot).val,.bool (au f s 1).isSome]):=hY 7 (by simp) (by simp);clear hY;simp only[zR,h7];go_simp;exact⟨Mv.refl _ _,rfl,by intros;assumption⟩
  case s10 =>
   intro vs x hx hY;have hsz:w1.heap.size<=x.heap.size:=hx.size;clear hY;simp only[zR];go_simp;exact⟨(Mv.refl _ _).alloc _,⟨x.heap.size,rfl,hsz,heap_alloc_new x _⟩,by intros;exact jA.grow ((Mv.refl _ _).alloc _) _ _ (by assumption)⟩
  case s11 =>
   intro vs x hx hY;have h8:vs 8=((au f s 1).getD noSlot).val:=hY 8 (by simp) (by simp);obtain⟨g,(h10:vs 10=_),hg0,hgb⟩:=hY 10 (by simp) (by simp);obtain⟨z0,z1,z2,z3⟩:=dN hgb;have zt:=aG hgb;generalize (au f s 1).getD noSlot=sl at *;obtain⟨s0,s1,s2,s3⟩:=sl
   replace h8:vs 8 = .agg #[.string s0,.int .u8 s1,.int .i64 s2,.int .i64 s3]:=h8
   obtain⟨A7,kW⟩:=mh hgb (.string s0) (.int .u8 s1) (.int .i64 s2) (.int .i64 s3);clear hY;simp only[zR,h8,h10];go_simp;exact⟨kW.mono (λb e => .inl (by omega)),⟨g,h10,hg0,A7⟩,λj l hj hk h=>jA.keep j l hj (λe=>hk (by subst e;decide)) h⟩
  case s12 =>
   intro vs x hx hY;have h9:vs 9 = .bool (au f s 1).isSome:=hY 9 (by simp) (by simp);clear hY;simp only[zR,h9];go_simp;exact⟨Mv.refl _ _,rfl,by intros;assumption⟩
 case done =>
 intro vs wx hx hY;obtain⟨g,(tZ:vs 10=_),hg0,hgb⟩:=hY 11 (by decide) rfl;have h0:vs 0=(.pointer (some ⟨C,0,none⟩)):=hY 0 (by decide) rfl;have h1:vs 1=(.pointer (some ⟨C,0,none⟩)):=hY 1 (by decide) rfl;have h2:vs 2=(.pointer (some ⟨C,0,none⟩)):=hY 2 (by decide) rfl;have h3:vs 3=(.agg #[.slice fa f.slots.length fc,.int .i64 f.cells,.int .i64 f.stacks]):=hY 3 (by decide) rfl;have h4:vs 4=(.pointer (some ⟨w.heap.size,2,none⟩)):=hY 4 (by decide) rfl;have h5:vs 5 = .string s:=hY 5 (by decide) rfl;have h6:vs 6=(.tuple #[((au f s 1).getD noSlot).val,.bool (au f s 1).isSome]):=hY 6 (by decide) rfl;have h7:vs 7=(.tuple #[((au f s 1).getD noSlot).val,.bool (au f s 1).isSome]):=hY 7 (by decide) rfl;have h8:vs 8=((au f s 1).getD noSlot).val:=hY 8 (by decide) rfl;have h9:vs 9 = .bool (au f s 1).isSome:=hY 9 (by decide) rfl;have h12:vs 12 = .bool (au f s 1).isSome:=hY 12 (by decide) rfl;simp only[List.length_cons,List.length_nil,Nat.zero_add,Nat.reduceAdd];rw[show List.range 13=[0,1,2,3,4,5,6,7,8,9,10,11,12]from rfl];simp only[zR,tZ,h0,h1,h2,h3,h4,h5,h6,h7,h8,h9,h12];clear hY tZ h0 h1 h2 h3 h4 h5 h6 h7 h8 h9 h12;generalize hsl:(au f s 1).getD noSlot=sl at *;have lD:=ł hsl;clear hsl;have bA:=ł (show bC w0 C (.slice fa f.slots.length fc) f wx cv code from⟨kL.out wx hx,oC.out wx hx,bg (w:=w1.drew) bD.out.row hx (λg hg e=>by have:=(bD.out.row.lt g hg).2;omega),bD.out.hC⟩);have xq:=ł (dS.out.trans (⟨((Mv.refl (λb=>b=C\/cv.ownBlock=some b) w1).drew).trans (hx.mono (λx e => .inr e)) (λx e => .inl e),λ_ h => .inl h⟩:cO C w1 cv wx cv));obtain⟨q0,q1,q2,q3⟩:=dN hgb;have xN:=lt_of_block hgb;have hsx:w1.heap.size<=wx.heap.size:=hx.size;clear hx kL mD oC iD bD dS hgb;go_wp2_with fail;refine(iy 10 1 sl.at' wx.heap.size _ _ (heap_alloc_new wx _)).mono ?_;rintro e w3 ⟨rfl,hg3⟩;simp only;have hgx:Grow wx w3:=Mv.trans ((Mv.refl _ wx).alloc _) hg3 (λ_ e=>e.elim);have lQ:=ł ((bA.out.grow hgx).grow ((Mv.refl _ _).alloc (.cells #[.int .u8 10,.int .i64 1,.int .i64 sl.at',.int .i64 0,.int .i64 0] 57)));have xu:=ł (xq.out.trans (cO.grow (hgx.alloc (.cells #[.int .u8 10,.int .i64 1,.int .i64 sl.at',.int .i64 0,.int .i64 0] 57))));have dZ:=ł (heap_alloc_new w3 (.cells #[.int .u8 10,.int .i64 1,.int .i64 sl.at',.int .i64 0,.int .i64 0] 57));have Mi:C≠w3.heap.size:=by
  have:=lt_of_block bA.out.blk;have:=hgx.size;omega
 have dQ:=ł (show cv.ownBlock≠some w3.heap.size from λe=>by
  have h:=(bA.out.row.lt _ e).2;have:=hgx.size;omega)
 clear hg3 hgx q0 q1 q2 q3;go_wp2_with fail;generalize hw3:w3.heap.size=B at *;generalize w3.alloc (.cells #[.int .u8 10,.int .i64 1,.int .i64 sl.at',.int .i64 0,.int .i64 0] 57)=w4 at *;have ow:=ł (λ(x:World) (hx:Mv (λb=>b=C\/cv.ownBlock=some b) w4.drew x)=>(show x.heap[B]? = _ from(hx.block B (lt_of_block dZ.out) (λe=>by rcases e with e|e;exact Mi e.symm;exact dQ.out e)).trans dZ.out));have HST:=lQ;have kM:=ł (show C<w4.heap.size/\∀ g,cv.ownBlock=some g->g<w4.heap.size from⟨lt_of_block lQ.out.blk,λg hg=>(lQ.out.row.lt g hg).2⟩);refine rJ (by kernel_rfl) 30 [some 21,some 22,some 23,some 24,some 25,some 26,some 27,some 28,some 29] [[],[],[],[2],[],[],[5,3],[1,3,4,6],[0,7,6]] [[],[],[],[2],[],[],[5],[1,3,4,6],[0,7]] [[0],[1],[2],[3],[4],[5],[6],[7],[8]] [[],[],[],[],[],[],[],[],[]] rfl (by kernel_rfl) (Mv (λb=>b=C\/cv.ownBlock=some b)) (λ_=>Mv.refl _ _) (λx y z h1 h2=>h1.trans h2 (λ_ e => .inl e)) (iV [some ((.pointer (some ⟨C,0,none⟩))),some (.agg #[.int .u8 10,.int .i64 1,.int .i64 sl.at',.int .i64 0,.int .i64 0]),none,some (.agg #[.int .u8 3,.int .i64 2,.int .i64 1,.int .i64 0,.int .i64 0]),some (.agg #[.int .u8 10,.int .i64 1,.int .i64 sl.at',.int .i64 0,.int .i64 0]),none,some (.agg #[.int .u8 12,.int .i64 2,.int .i64 0,.int .i64 0,.int .i64 0]),none,none] [none,none,some [2,1],none,none,some [2,0],none,none,none] 7 8 [⟨10,1,sl.at',0,0⟩,⟨3,2,1,0,0⟩,⟨10,1,sl.at',0,0⟩,⟨12,2,0,0,0⟩] w0 C (.slice fa f.slots.length fc) f cv code w4.heap.size) (λ_ x=>bC w0 C (.slice fa f.slots.length fc) f x cv code) [[8]] ?z0 ?steps ?done
 case z0=>intro z hz;exact⟨Mv.drew HST.out.g,HST.out.blk,HST.out.row,HST.out.hC⟩
 case steps =>
  refine⟨?s0,?s1,?s2,?s3,?s4,?s5,?s6,?s7,?s8,trivial⟩
  case s0 =>
   intro vs x hx hY hZ;clear hY hZ;simp only[zR];go_simp;exact⟨Mv.refl _ _,by intros;assumption,jX (by decide) (by decide) rfl rfl rfl,by intros;assumption⟩
  case s1|s4 =>
   intro vs x hx hY hZ;obtain⟨⟨i0,i1,i2⟩,i3,i4⟩:=bJ (ow.out x hx);clear hY hZ;simp only[zR];go_simp;exact⟨Mv.refl _ _,by intros;assumption,jX (by decide) (by decide) rfl rfl rfl,by intros;assumption⟩
  case s2|s5 =>
   intro vs x hx hY hZ;have hsz:w4.heap.size<=x.heap.size:=hx.size;clear hY hZ;simp only[zR];go_simp;exact⟨(Mv.refl _ _).alloc _,(by first|exact λh=>bC.grow h ((Mv.refl _ _).alloc _)|(intros;exact bC.grow (by assumption) ((Mv.refl _ _).alloc _))),DU (by decide) (by decide) rfl ⟨x.heap.size,rfl,hsz,heap_alloc_new x _⟩,by intros;exact kE ((Mv.refl _ _).alloc _) _ _ (by assumption)⟩
  case s3 =>
   intro vs x hx hY hZ;obtain⟨g,(hg:vs 2=_),-,hgb⟩:=rO (hY 2 (by simp) (by simp)) (by decide) (by decide) rfl;have HC:=ł (iy 3 2 1 g _ x hgb);simp only[List.length_cons,List.length_nil,Nat.zero_add,Nat.reduceAdd]at hg;clear hY hZ;simp only[zR,hg];go_simp;refine HC.out.mono ?_;rintro e y ⟨rfl,hgr⟩;exact⟨_,rfl,hgr.mono (λ_ e=>e.elim),(by first|exact λh=>bC.grow h hgr|(intros;exact bC.grow (by assumption) hgr)),jX (by decide) (by decide) rfl rfl rfl,by intros;exact kE hgr _ _ (by assumption)⟩
  case s6 =>
   intro vs x hx hY hZ;obtain⟨g,(hg:vs 5=_),-,hgb⟩:=rO (hY 5 (by simp) (by simp)) (by decide) (by decide) rfl;have HC:=ł (iy 12 2 0 g _ x hgb);simp only[List.length_cons,List.length_nil,Nat.zero_add,Nat.reduceAdd]at hg;clear hY hZ;simp only[zR,hg];go_simp;refine HC.out.mono ?_;rintro e y ⟨rfl,hgr⟩;exact⟨_,rfl,hgr.mono (λ_ e=>e.elim),(by first|exact λh=>bC.grow h hgr|(intros;exact bC.grow (by assumption) hgr)),jX (by decide) (by decide) rfl rfl rfl,by intros;exact kE hgr _ _ (by assumption)⟩
  case s7 =>
   intro vs x hx hY hZ;have h1:vs 1 = .agg #[.int .u8 10,.int .i64 1,.int .i64 sl.at',.int .i64 0,.int .i64 0]:=jg (hY 1 (by simp) (by simp)) (by decide) (by decide) rfl rfl;have h3:vs 3 = .agg #[.int .u8 3,.int .i64 2,.int .i64 1,.int .i64 0,.int .i64 0]:=jg (hY 3 (by simp) (by simp)) (by decide) (by decide) rfl rfl;have h4:vs 4 = .agg #[.int .u8 10,.int .i64 1,.int .i64 sl.at',.int .i64 0,.int .i64 0]:=jg (hY 4 (by simp) (by simp)) (by decide) (by decide) rfl rfl;have h6:vs 6 = .agg #[.int .u8 12,.int .i64 2,.int .i64 0,.int .i64 0,.int .i64 0]:=jg (hY 6 (by simp) (by simp)) (by decide) (by decide) rfl rfl;have hsz:w4.heap.size<=x.heap.size:=hx.size;clear hY hZ;simp only[zR,h1,h3,h4,h6];go_simp;exact⟨(Mv.refl _ _).alloc _,(by first|exact λh=>bC.grow h ((Mv.refl _ _).alloc _)|(intros;exact bC.grow (by assumption) ((Mv.refl _ _).alloc _))),GY (by decide) ⟨x.heap.size,rfl,hsz,by simp,az.bO (f:=Ins.cells) (l:=([⟨10,1,sl.at',0,0⟩,⟨3,2,1,0,0⟩,⟨10,1,sl.at',0,0⟩,⟨12,2,0,0,0⟩]:List Ins)) (λ_=>rfl) (heap_alloc_new x _) rfl (by simp)⟩,by intros;exact kE ((Mv.refl _ _).alloc _) _ _ (by assumption)⟩
  case s8 =>
   intro vs x hx hY hZ;have h0:vs 0=(.pointer (some ⟨C,0,none⟩)):=jg (hY 0 (by simp) (by simp)) (by decide) (by decide) rfl rfl;obtain⟨g,(hg:vs 7=_),-,-,hrow⟩:=Ga (hY 7 (by simp) (by simp)) (by decide);have hst:=hZ 0 (by simp) (by simp);have HC:=ł (lZ w0 C (.slice fa f.slots.length fc) f x cv code (.slice (some ⟨g,0,none⟩) 4 4) ([⟨10,1,sl.at',0,0⟩,⟨3,2,1,0,0⟩,⟨10,1,sl.at',0,0⟩,⟨12,2,0,0,0⟩]:List Ins) hst hrow (by simp;omega));simp only[List.length_cons,List.length_nil,Nat.zero_add,Nat.reduceAdd]at hg;have hsz:w4.heap.size<=x.heap.size:=hx.size;clear hY hZ hst hrow;simp only[zR,h0,hg];go_simp;refine HC.out.mono ?_;rintro e y ⟨rfl,cv',hs',hto⟩;exact⟨_,rfl,hto.mv,GZ ⟨cv',hs',λq hq=>by rcases hto.own q hq with h|h;exact .inl h;exact .inr (by omega)⟩,by intros;exact G5 hto.mv kM.out.1 kM.out.2 _ _ (by assumption) (by assumption)⟩
 case done =>
 intro vs wy hxy hY _;obtain⟨cv',hst',hown'⟩:=Gb (hY 8 (by decide) rfl);simp only[List.length_cons,List.length_nil,Nat.zero_add,Nat.reduceAdd];rw[show List.range 9=[0,1,2,3,4,5,6,7,8]from rfl];simp only[zR];clear hY;have aJ:=ł (xu.out.trans (⟨((Mv.refl (λb=>b=C\/cv.ownBlock=some b) w4).drew).trans hxy (λx e => .inl e),hown'⟩:cO C w4 cv wy cv'));have zy:=ł hst';clear hst' hown' hxy HST lQ bA xq xu ow dZ;go_wp2_with fail
 go_end0
 exact⟨rfl,_,by rw[lD.out];exact zy.out,aJ.out⟩
end Go.Proofs.YtnobahchcongnaaGreatDoor
