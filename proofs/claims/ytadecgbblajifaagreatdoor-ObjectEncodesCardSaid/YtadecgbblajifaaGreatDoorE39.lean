import Derived.Test.YtadecgbblajifaaGreatDoorE38
import Derived.Laws.IdiomCopy
set_option linter.unusedSimpArgs false
set_option linter.unusedVariables false
set_option maxRecDepth 100000
set_option maxHeartbeats 25600000
namespace Go.Proofs.YtadecgbblajifaaGreatDoor
open Go.RowKit Go.Instr
theorem Tryz.sw:(Tryz.prog.info? 3).map (·.size)=some 1:=by kernel_rfl
def uj (w:World) (i:Ins) (e:Ending) (w':World):Prop:=e = .returned (.agg #[.int .u8 i.op,.int .i64 i.a,.int .i64 i.b,.int .i64 i.c,.int .i64 i.d])/\Grow w w'
theorem Bp {w:World} {X:Nat} {a b c d e:Value} {t:TypeId} (h:w.heap[X]? = some (.cells #[a,b,c,d,e] t (0,0))):((w.cell? ⟨X,0,none⟩=some a/\w.cell? ⟨X,1,none⟩=some b/\w.cell? ⟨X,2,none⟩=some c)/\w.cell? ⟨X,3,none⟩=some d/\w.cell? ⟨X,4,none⟩=some e):=by
 simp[World.cell?,h]
set_option maxRecDepth 100000 in
set_option maxHeartbeats 800000 in
theorem afY (op x0:Int) (b:Nat) (t:TypeId) (w:World) (hb:w.heap[b]? = some (.cells #[.int .i64 x0] t (0,0))) :
 Calls Tryz.prog 244 #[.int .u8 op,.slice (some ⟨b,0,none⟩) 1 1] w (uj w ⟨op,x0,0,0,0⟩):=by
 have hbl:=lt_of_block hb
 have hcp:(Builtin.copy_ #[65,65] 3 #[.slice (some ⟨w.heap.size+1,0,none⟩) 4 4,.slice (some ⟨b,0,none⟩) 1 1]).run Tryz.prog ((w.alloc (.cells #[.int .u8 0,.int .i64 0,.int .i64 0,.int .i64 0,.int .i64 0] 69)).alloc (.cells #[.int .i64 0,.int .i64 0,.int .i64 0,.int .i64 0] 98)) = .ok (goInt 1) ((w.alloc (.cells #[.int .u8 0,.int .i64 0,.int .i64 0,.int .i64 0,.int .i64 0] 69)).alloc (.cells #[.int .i64 x0,.int .i64 0,.int .i64 0,.int .i64 0] 98)):=by
  have hb2:=dG (dG hb (.cells #[.int .u8 0,.int .i64 0,.int .i64 0,.int .i64 0,.int .i64 0] 69)) (.cells #[.int .i64 0,.int .i64 0,.int .i64 0,.int .i64 0] 98)
  have hz:=heap_alloc_new (w.alloc (.cells #[.int .u8 0,.int .i64 0,.int .i64 0,.int .i64 0,.int .i64 0] 69)) (.cells #[.int .i64 0,.int .i64 0,.int .i64 0,.int .i64 0] 98)
  rw[World.size_alloc]at hz
  have h:=run_copy_cells (P:=Tryz.prog) ((w.alloc (.cells #[.int .u8 0,.int .i64 0,.int .i64 0,.int .i64 0,.int .i64 0] 69)).alloc (.cells #[.int .i64 0,.int .i64 0,.int .i64 0,.int .i64 0] 98)) 65 65 3 3 (w.heap.size+1) 0 4 4 ⟨b,0,none⟩ 1 1 [.int .i64 x0] Tryz.underlying65 Tryz.sw rfl
   (λj v hv=>by
    rw[rY,Nat.zero_add]
    simp only[World.cell?,hb2]
    simpa using hv)
   (λj hj=>by
    have iY:j<4:=by simp at hj;omega
    simp only[World.cell?,hz,Nat.zero_add]
    rcases j with _|_|_|_|j
    all_goals first|rfl|omega)
   (λj hj=>gN hz _) (by simp[Value.oneCell'])
  rw[h]
  simp[World.setCells,go_sem]
 have HG:=Lib.hid (show Grow w ((w.alloc (.cells #[.int .u8 op,.int .i64 x0,.int .i64 0,.int .i64 0,.int .i64 0] 69)).alloc (.cells #[.int .i64 x0,.int .i64 0,.int .i64 0,.int .i64 0] 98))from((Mv.refl _ _).alloc _).alloc _)
 clear hb
 go_enter Tryz.func244,Tryz.ntmps244
 go_wp2_with fail
 refine bodyPost_ret (v := .agg #[.int .u8 op,.int .i64 x0,.int .i64 0,.int .i64 0,.int .i64 0]) ?_ rfl ⟨rfl,HG.out⟩
 simp[results,Tryz.results244,go_sem]
set_option maxRecDepth 100000 in
set_option maxHeartbeats 800000 in
theorem uY (op x0 x1:Int) (b:Nat) (t:TypeId) (w:World) (hb:w.heap[b]? = some (.cells #[.int .i64 x0,.int .i64 x1] t (0,0))) :
 Calls Tryz.prog 244 #[.int .u8 op,.slice (some ⟨b,0,none⟩) 2 2] w (uj w ⟨op,x0,x1,0,0⟩):=by
 have hbl:=lt_of_block hb
 have hcp:(Builtin.copy_ #[65,65] 3 #[.slice (some ⟨w.heap.size+1,0,none⟩) 4 4,.slice (some ⟨b,0,none⟩) 2 2]).run Tryz.prog ((w.alloc (.cells #[.int .u8 0,.int .i64 0,.int .i64 0,.int .i64 0,.int .i64 0] 69)).alloc (.cells #[.int .i64 0,.int .i64 0,.int .i64 0,.int .i64 0] 98)) = .ok (goInt 2) ((w.alloc (.cells #[.int .u8 0,.int .i64 0,.int .i64 0,.int .i64 0,.int .i64 0] 69)).alloc (.cells #[.int .i64 x0,.int .i64 x1,.int .i64 0,.int .i64 0] 98)):=by
  have hb2:=dG (dG hb (.cells #[.int .u8 0,.int .i64 0,.int .i64 0,.int .i64 0,.int .i64 0] 69)) (.cells #[.int .i64 0,.int .i64 0,.int .i64 0,.int .i64 0] 98)
  have hz:=heap_alloc_new (w.alloc (.cells #[.int .u8 0,.int .i64 0,.int .i64 0,.int .i64 0,.int .i64 0] 69)) (.cells #[.int .i64 0,.int .i64 0,.int .i64 0,.int .i64 0] 98)
  rw[World.size_alloc]at hz
  have h:=run_copy_cells (P:=Tryz.prog) ((w.alloc (.cells #[.int .u8 0,.int .i64 0,.int .i64 0,.int .i64 0,.int .i64 0] 69)).alloc (.cells #[.int .i64 0,.int .i64 0,.int .i64 0,.int .i64 0] 98)) 65 65 3 3 (w.heap.size+1) 0 4 4 ⟨b,0,none⟩ 2 2 [.int .i64 x0,.int .i64 x1] Tryz.underlying65 Tryz.sw rfl
   (λj v hv=>by
    rw[rY,Nat.zero_add]
    simp only[World.cell?,hb2]
    simpa using hv)
   (λj hj=>by
    have iY:j<4:=by simp at hj;omega
    simp only[World.cell?,hz,Nat.zero_add]
    rcases j with _|_|_|_|j
    all_goals first|rfl|omega)
   (λj hj=>gN hz _) (by simp[Value.oneCell'])
  rw[h]
  simp[World.setCells,go_sem]
 have HG:=Lib.hid (show Grow w ((w.alloc (.cells #[.int .u8 op,.int .i64 x0,.int .i64 x1,.int .i64 0,.int .i64 0] 69)).alloc (.cells #[.int .i64 x0,.int .i64 x1,.int .i64 0,.int .i64 0] 98))from((Mv.refl _ _).alloc _).alloc _)
 clear hb
 go_enter Tryz.func244,Tryz.ntmps244
 go_wp2_with fail
 refine bodyPost_ret (v := .agg #[.int .u8 op,.int .i64 x0,.int .i64 x1,.int .i64 0,.int .i64 0]) ?_ rfl ⟨rfl,HG.out⟩
 simp[results,Tryz.results244,go_sem]
set_option maxRecDepth 100000 in
set_option maxHeartbeats 800000 in
theorem afZ (op x0 x1 x2:Int) (b:Nat) (t:TypeId) (w:World) (hb:w.heap[b]? = some (.cells #[.int .i64 x0,.int .i64 x1,.int .i64 x2] t (0,0))) :
 Calls Tryz.prog 244 #[.int .u8 op,.slice (some ⟨b,0,none⟩) 3 3] w (uj w ⟨op,x0,x1,x2,0⟩):=by
 have hbl:=lt_of_block hb
 have hcp:(Builtin.copy_ #[65,65] 3 #[.slice (some ⟨w.heap.size+1,0,none⟩) 4 4,.slice (some ⟨b,0,none⟩) 3 3]).run Tryz.prog ((w.alloc (.cells #[.int .u8 0,.int .i64 0,.int .i64 0,.int .i64 0,.int .i64 0] 69)).alloc (.cells #[.int .i64 0,.int .i64 0,.int .i64 0,.int .i64 0] 98)) = .ok (goInt 3) ((w.alloc (.cells #[.int .u8 0,.int .i64 0,.int .i64 0,.int .i64 0,.int .i64 0] 69)).alloc (.cells #[.int .i64 x0,.int .i64 x1,.int .i64 x2,.int .i64 0] 98)):=by
  have hb2:=dG (dG hb (.cells #[.int .u8 0,.int .i64 0,.int .i64 0,.int .i64 0,.int .i64 0] 69)) (.cells #[.int .i64 0,.int .i64 0,.int .i64 0,.int .i64 0] 98)
  have hz:=heap_alloc_new (w.alloc (.cells #[.int .u8 0,.int .i64 0,.int .i64 0,.int .i64 0,.int .i64 0] 69)) (.cells #[.int .i64 0,.int .i64 0,.int .i64 0,.int .i64 0] 98)
  rw[World.size_alloc]at hz
  have h:=run_copy_cells (P:=Tryz.prog) ((w.alloc (.cells #[.int .u8 0,.int .i64 0,.int .i64 0,.int .i64 0,.int .i64 0] 69)).alloc (.cells #[.int .i64 0,.int .i64 0,.int .i64 0,.int .i64 0] 98)) 65 65 3 3 (w.heap.size+1) 0 4 4 ⟨b,0,none⟩ 3 3 [.int .i64 x0,.int .i64 x1,.int .i64 x2] Tryz.underlying65 Tryz.sw rfl
   (λj v hv=>by
    rw[rY,Nat.zero_add]
    simp only[World.cell?,hb2]
    simpa using hv)
   (λj hj=>by
    have iY:j<4:=by simp at hj;omega
    simp only[World.cell?,hz,Nat.zero_add]
    rcases j with _|_|_|_|j
    all_goals first|rfl|omega)
   (λj hj=>gN hz _) (by simp[Value.oneCell'])
  rw[h]
  simp[World.setCells,go_sem]
 have HG:=Lib.hid (show Grow w ((w.alloc (.cells #[.int .u8 op,.int .i64 x0,.int .i64 x1,.int .i64 x2,.int .i64 0] 69)).alloc (.cells #[.int .i64 x0,.int .i64 x1,.int .i64 x2,.int .i64 0] 98))from((Mv.refl _ _).alloc _).alloc _)
 clear hb
 go_enter Tryz.func244,Tryz.ntmps244
 go_wp2_with fail
 refine bodyPost_ret (v := .agg #[.int .u8 op,.int .i64 x0,.int .i64 x1,.int .i64 x2,.int .i64 0]) ?_ rfl ⟨rfl,HG.out⟩
 simp[results,Tryz.results244,go_sem]
set_option maxRecDepth 100000 in
set_option maxHeartbeats 800000 in
theorem af0 (op x0 x1 x2 x3:Int) (b:Nat) (t:TypeId) (w:World) (hb:w.heap[b]? = some (.cells #[.int .i64 x0,.int .i64 x1,.int .i64 x2,.int .i64 x3] t (0,0))) :
 Calls Tryz.prog 244 #[.int .u8 op,.slice (some ⟨b,0,none⟩) 4 4] w (uj w ⟨op,x0,x1,x2,x3⟩):=by
 have hbl:=lt_of_block hb
 have hcp:(Builtin.copy_ #[65,65] 3 #[.slice (some ⟨w.heap.size+1,0,none⟩) 4 4,.slice (some ⟨b,0,none⟩) 4 4]).run Tryz.prog ((w.alloc (.cells #[.int .u8 0,.int .i64 0,.int .i64 0,.int .i64 0,.int .i64 0] 69)).alloc (.cells #[.int .i64 0,.int .i64 0,.int .i64 0,.int .i64 0] 98)) = .ok (goInt 4) ((w.alloc (.cells #[.int .u8 0,.int .i64 0,.int .i64 0,.int .i64 0,.int .i64 0] 69)).alloc (.cells #[.int .i64 x0,.int .i64 x1,.int .i64 x2,.int .i64 x3] 98)):=by
  have hb2:=dG (dG hb (.cells #[.int .u8 0,.int .i64 0,.int .i64 0,.int .i64 0,.int .i64 0] 69)) (.cells #[.int .i64 0,.int .i64 0,.int .i64 0,.int .i64 0] 98)
  have hz:=heap_alloc_new (w.alloc (.cells #[.int .u8 0,.int .i64 0,.int .i64 0,.int .i64 0,.int .i64 0] 69)) (.cells #[.int .i64 0,.int .i64 0,.int .i64 0,.int .i64 0] 98)
  rw[World.size_alloc]at hz
  have h:=run_copy_cells (P:=Tryz.prog) ((w.alloc (.cells #[.int .u8 0,.int .i64 0,.int .i64 0,.int .i64 0,.int .i64 0] 69)).alloc (.cells #[.int .i64 0,.int .i64 0,.int .i64 0,.int .i64 0] 98)) 65 65 3 3 (w.heap.size+1) 0 4 4 ⟨b,0,none⟩ 4 4 [.int .i64 x0,.int .i64 x1,.int .i64 x2,.int .i64 x3] Tryz.underlying65 Tryz.sw rfl
   (λj v hv=>by
    rw[rY,Nat.zero_add]
    simp only[World.cell?,hb2]
    simpa using hv)
   (λj hj=>by
    have iY:j<4:=by simp at hj;omega
    simp only[World.cell?,hz,Nat.zero_add]
    rcases j with _|_|_|_|j
    all_goals first|rfl|omega)
   (λj hj=>gN hz _) (by simp[Value.oneCell'])
  rw[h]
  simp[World.setCells,go_sem]
 have HG:=Lib.hid (show Grow w ((w.alloc (.cells #[.int .u8 op,.int .i64 x0,.int .i64 x1,.int .i64 x2,.int .i64 x3] 69)).alloc (.cells #[.int .i64 x0,.int .i64 x1,.int .i64 x2,.int .i64 x3] 98))from((Mv.refl _ _).alloc _).alloc _)
 clear hb
 go_enter Tryz.func244,Tryz.ntmps244
 go_wp2_with fail
 refine bodyPost_ret (v := .agg #[.int .u8 op,.int .i64 x0,.int .i64 x1,.int .i64 x2,.int .i64 x3]) ?_ rfl ⟨rfl,HG.out⟩
 simp[results,Tryz.results244,go_sem]
set_option maxRecDepth 100000 in
set_option maxHeartbeats 800000 in
theorem af1 (op x0:Int) (b:Nat) (t:TypeId) (w:World) (hb:w.heap[b]? = some (.cells #[.int .i64 x0] t (0,0))) :
 Calls Tryz.prog 164 #[.int .u8 op,.slice (some ⟨b,0,none⟩) 1 1] w (uj w ⟨op,x0,0,0,0⟩):=by
 have hbl:=lt_of_block hb
 have hcp:(Builtin.copy_ #[65,65] 3 #[.slice (some ⟨w.heap.size+1,0,none⟩) 4 4,.slice (some ⟨b,0,none⟩) 1 1]).run Tryz.prog ((w.alloc (.cells #[.int .u8 0,.int .i64 0,.int .i64 0,.int .i64 0,.int .i64 0] 69)).alloc (.cells #[.int .i64 0,.int .i64 0,.int .i64 0,.int .i64 0] 98)) = .ok (goInt 1) ((w.alloc (.cells #[.int .u8 0,.int .i64 0,.int .i64 0,.int .i64 0,.int .i64 0] 69)).alloc (.cells #[.int .i64 x0,.int .i64 0,.int .i64 0,.int .i64 0] 98)):=by
  have hb2:=dG (dG hb (.cells #[.int .u8 0,.int .i64 0,.int .i64 0,.int .i64 0,.int .i64 0] 69)) (.cells #[.int .i64 0,.int .i64 0,.int .i64 0,.int .i64 0] 98)
  have hz:=heap_alloc_new (w.alloc (.cells #[.int .u8 0,.int .i64 0,.int .i64 0,.int .i64 0,.int .i64 0] 69)) (.cells #[.int .i64 0,.int .i64 0,.int .i64 0,.int .i64 0] 98)
  rw[World.size_alloc]at hz
  have h:=run_copy_cells (P:=Tryz.prog) ((w.alloc (.cells #[.int .u8 0,.int .i64 0,.int .i64 0,.int .i64 0,.int .i64 0] 69)).alloc (.cells #[.int .i64 0,.int .i64 0,.int .i64 0,.int .i64 0] 98)) 65 65 3 3 (w.heap.size+1) 0 4 4 ⟨b,0,none⟩ 1 1 [.int .i64 x0] Tryz.underlying65 Tryz.sw rfl
   (λj v hv=>by
    rw[rY,Nat.zero_add]
    simp only[World.cell?,hb2]
    simpa using hv)
   (λj hj=>by
    have iY:j<4:=by simp at hj;omega
    simp only[World.cell?,hz,Nat.zero_add]
    rcases j with _|_|_|_|j
    all_goals first|rfl|omega)
   (λj hj=>gN hz _) (by simp[Value.oneCell'])
  rw[h]
  simp[World.setCells,go_sem]
 have HG:=Lib.hid (show Grow w ((w.alloc (.cells #[.int .u8 op,.int .i64 x0,.int .i64 0,.int .i64 0,.int .i64 0] 69)).alloc (.cells #[.int .i64 x0,.int .i64 0,.int .i64 0,.int .i64 0] 98))from((Mv.refl _ _).alloc _).alloc _)
 clear hb
 go_enter Tryz.func164,Tryz.ntmps164
 go_wp2_with fail
 refine bodyPost_ret (v := .agg #[.int .u8 op,.int .i64 x0,.int .i64 0,.int .i64 0,.int .i64 0]) ?_ rfl ⟨rfl,HG.out⟩
 simp[results,Tryz.results164,go_sem]
set_option maxRecDepth 100000 in
set_option maxHeartbeats 800000 in
theorem af2 (op x0 x1:Int) (b:Nat) (t:TypeId) (w:World) (hb:w.heap[b]? = some (.cells #[.int .i64 x0,.int .i64 x1] t (0,0))) :
 Calls Tryz.prog 164 #[.int .u8 op,.slice (some ⟨b,0,none⟩) 2 2] w (uj w ⟨op,x0,x1,0,0⟩):=by
 have hbl:=lt_of_block hb
 have hcp:(Builtin.copy_ #[65,65] 3 #[.slice (some ⟨w.heap.size+1,0,none⟩) 4 4,.slice (some ⟨b,0,none⟩) 2 2]).run Tryz.prog ((w.alloc (.cells #[.int .u8 0,.int .i64 0,.int .i64 0,.int .i64 0,.int .i64 0] 69)).alloc (.cells #[.int .i64 0,.int .i64 0,.int .i64 0,.int .i64 0] 98)) = .ok (goInt 2) ((w.alloc (.cells #[.int .u8 0,.int .i64 0,.int .i64 0,.int .i64 0,.int .i64 0] 69)).alloc (.cells #[.int .i64 x0,.int .i64 x1,.int .i64 0,.int .i64 0] 98)):=by
  have hb2:=dG (dG hb (.cells #[.int .u8 0,.int .i64 0,.int .i64 0,.int .i64 0,.int .i64 0] 69)) (.cells #[.int .i64 0,.int .i64 0,.int .i64 0,.int .i64 0] 98)
  have hz:=heap_alloc_new (w.alloc (.cells #[.int .u8 0,.int .i64 0,.int .i64 0,.int .i64 0,.int .i64 0] 69)) (.cells #[.int .i64 0,.int .i64 0,.int .i64 0,.int .i64 0] 98)
  rw[World.size_alloc]at hz
  have h:=run_copy_cells (P:=Tryz.prog) ((w.alloc (.cells #[.int .u8 0,.int .i64 0,.int .i64 0,.int .i64 0,.int .i64 0] 69)).alloc (.cells #[.int .i64 0,.int .i64 0,.int .i64 0,.int .i64 0] 98)) 65 65 3 3 (w.heap.size+1) 0 4 4 ⟨b,0,none⟩ 2 2 [.int .i64 x0,.int .i64 x1] Tryz.underlying65 Tryz.sw rfl
   (λj v hv=>by
    rw[rY,Nat.zero_add]
    simp only[World.cell?,hb2]
    simpa using hv)
   (λj hj=>by
    have iY:j<4:=by simp at hj;omega
    simp only[World.cell?,hz,Nat.zero_add]
    rcases j with _|_|_|_|j
    all_goals first|rfl|omega)
   (λj hj=>gN hz _) (by simp[Value.oneCell'])
  rw[h]
  simp[World.setCells,go_sem]
 have HG:=Lib.hid (show Grow w ((w.alloc (.cells #[.int .u8 op,.int .i64 x0,.int .i64 x1,.int .i64 0,.int .i64 0] 69)).alloc (.cells #[.int .i64 x0,.int .i64 x1,.int .i64 0,.int .i64 0] 98))from((Mv.refl _ _).alloc _).alloc _)
 clear hb
 go_enter Tryz.func164,Tryz.ntmps164
 go_wp2_with fail
 refine bodyPost_ret (v := .agg #[.int .u8 op,.int .i64 x0,.int .i64 x1,.int .i64 0,.int .i64 0]) ?_ rfl ⟨rfl,HG.out⟩
 simp[results,Tryz.results164,go_sem]
set_option maxRecDepth 100000 in
set_option maxHeartbeats 800000 in
theorem af3 (op x0 x1 x2:Int) (b:Nat) (t:TypeId) (w:World) (hb:w.heap[b]? = some (.cells #[.int .i64 x0,.int .i64 x1,.int .i64 x2] t (0,0))) :
 Calls Tryz.prog 164 #[.int .u8 op,.slice (some ⟨b,0,none⟩) 3 3] w (uj w ⟨op,x0,x1,x2,0⟩):=by
 have hbl:=lt_of_block hb
 have hcp:(Builtin.copy_ #[65,65] 3 #[.slice (some ⟨w.heap.size+1,0,none⟩) 4 4,.slice (some ⟨b,0,none⟩) 3 3]).run Tryz.prog ((w.alloc (.cells #[.int .u8 0,.int .i64 0,.int .i64 0,.int .i64 0,.int .i64 0] 69)).alloc (.cells #[.int .i64 0,.int .i64 0,.int .i64 0,.int .i64 0] 98)) = .ok (goInt 3) ((w.alloc (.cells #[.int .u8 0,.int .i64 0,.int .i64 0,.int .i64 0,.int .i64 0] 69)).alloc (.cells #[.int .i64 x0,.int .i64 x1,.int .i64 x2,.int .i64 0] 98)):=by
  have hb2:=dG (dG hb (.cells #[.int .u8 0,.int .i64 0,.int .i64 0,.int .i64 0,.int .i64 0] 69)) (.cells #[.int .i64 0,.int .i64 0,.int .i64 0,.int .i64 0] 98)
  have hz:=heap_alloc_new (w.alloc (.cells #[.int .u8 0,.int .i64 0,.int .i64 0,.int .i64 0,.int .i64 0] 69)) (.cells #[.int .i64 0,.int .i64 0,.int .i64 0,.int .i64 0] 98)
  rw[World.size_alloc]at hz
  have h:=run_copy_cells (P:=Tryz.prog) ((w.alloc (.cells #[.int .u8 0,.int .i64 0,.int .i64 0,.int .i64 0,.int .i64 0] 69)).alloc (.cells #[.int .i64 0,.int .i64 0,.int .i64 0,.int .i64 0] 98)) 65 65 3 3 (w.heap.size+1) 0 4 4 ⟨b,0,none⟩ 3 3 [.int .i64 x0,.int .i64 x1,.int .i64 x2] Tryz.underlying65 Tryz.sw rfl
   (λj v hv=>by
    rw[rY,Nat.zero_add]
    simp only[World.cell?,hb2]
    simpa using hv)
   (λj hj=>by
    have iY:j<4:=by simp at hj;omega
    simp only[World.cell?,hz,Nat.zero_add]
    rcases j with _|_|_|_|j
    all_goals first|rfl|omega)
   (λj hj=>gN hz _) (by simp[Value.oneCell'])
  rw[h]
  simp[World.setCells,go_sem]
 have HG:=Lib.hid (show Grow w ((w.alloc (.cells #[.int .u8 op,.int .i64 x0,.int .i64 x1,.int .i64 x2,.int .i64 0] 69)).alloc (.cells #[.int .i64 x0,.int .i64 x1,.int .i64 x2,.int .i64 0] 98))from((Mv.refl _ _).alloc _).alloc _)
 clear hb
 go_enter Tryz.func164,Tryz.ntmps164
 go_wp2_with fail
 refine bodyPost_ret (v := .agg #[.int .u8 op,.int .i64 x0,.int .i64 x1,.int .i64 x2,.int .i64 0]) ?_ rfl ⟨rfl,HG.out⟩
 simp[results,Tryz.results164,go_sem]
set_option maxRecDepth 100000 in
set_option maxHeartbeats 800000 in
theorem af4 (op x0 x1 x2 x3:Int) (b:Nat) (t:TypeId) (w:World) (hb:w.heap[b]? = some (.cells #[.int .i64 x0,.int .i64 x1,.int .i64 x2,.int .i64 x3] t (0,0))) :
 Calls Tryz.prog 164 #[.int .u8 op,.slice (some ⟨b,0,none⟩) 4 4] w (uj w ⟨op,x0,x1,x2,x3⟩):=by
 have hbl:=lt_of_block hb
 have hcp:(Builtin.copy_ #[65,65] 3 #[.slice (some ⟨w.heap.size+1,0,none⟩) 4 4,.slice (some ⟨b,0,none⟩) 4 4]).run Tryz.prog ((w.alloc (.cells #[.int .u8 0,.int .i64 0,.int .i64 0,.int .i64 0,.int .i64 0] 69)).alloc (.cells #[.int .i64 0,.int .i64 0,.int .i64 0,.int .i64 0] 98)) = .ok (goInt 4) ((w.alloc (.cells #[.int .u8 0,.int .i64 0,.int .i64 0,.int .i64 0,.int .i64 0] 69)).alloc (.cells #[.int .i64 x0,.int .i64 x1,.int .i64 x2,.int .i64 x3] 98)):=by
  have hb2:=dG (dG hb (.cells #[.int .u8 0,.int .i64 0,.int .i64 0,.int .i64 0,.int .i64 0] 69)) (.cells #[.int .i64 0,.int .i64 0,.int .i64 0,.int .i64 0] 98)
  have hz:=heap_alloc_new (w.alloc (.cells #[.int .u8 0,.int .i64 0,.int .i64 0,.int .i64 0,.int .i64 0] 69)) (.cells #[.int .i64 0,.int .i64 0,.int .i64 0,.int .i64 0] 98)
  rw[World.size_alloc]at hz
  have h:=run_copy_cells (P:=Tryz.prog) ((w.alloc (.cells #[.int .u8 0,.int .i64 0,.int .i64 0,.int .i64 0,.int .i64 0] 69)).alloc (.cells #[.int .i64 0,.int .i64 0,.int .i64 0,.int .i64 0] 98)) 65 65 3 3 (w.heap.size+1) 0 4 4 ⟨b,0,none⟩ 4 4 [.int .i64 x0,.int .i64 x1,.int .i64 x2,.int .i64 x3] Tryz.underlying65 Tryz.sw rfl
   (λj v hv=>by
    rw[rY,Nat.zero_add]
    simp only[World.cell?,hb2]
    simpa using hv)
   (λj hj=>by
    have iY:j<4:=by simp at hj;omega
    simp only[World.cell?,hz,Nat.zero_add]
    rcases j with _|_|_|_|j
    all_goals first|rfl|omega)
   (λj hj=>gN hz _) (by simp[Value.oneCell'])
  rw[h]
  simp[World.setCells,go_sem]
 have HG:=Lib.hid (show Grow w ((w.alloc (.cells #[.int .u8 op,.int .i64 x0,.int .i64 x1,.int .i64 x2,.int .i64 x3] 69)).alloc (.cells #[.int .i64 x0,.int .i64 x1,.int .i64 x2,.int .i64 x3] 98))from((Mv.refl _ _).alloc _).alloc _)
 clear hb
 go_enter Tryz.func164,Tryz.ntmps164
 go_wp2_with fail
 refine bodyPost_ret (v := .agg #[.int .u8 op,.int .i64 x0,.int .i64 x1,.int .i64 x2,.int .i64 x3]) ?_ rfl ⟨rfl,HG.out⟩
 simp[results,Tryz.results164,go_sem]
attribute [local go_sem ↓] qH
theorem Tryz.Ji:(Tryz.prog.info? 69).map (λi=>(i.zero,i.size,i.bytes))=some (some (.agg #[.int .u8 0,.int .i64 0,.int .i64 0,.int .i64 0,.int .i64 0]),5,40):=by kernel_rfl
theorem Tryz.QA:Elem Tryz.prog 34 69 5 40:=Elem.of Tryz.underlying34 Tryz.Ji rfl (by decide) (by decide)
theorem QB {l:List Ins} : ∀ x∈l,∀ u∈x.cells,u.oneCell'=true:=by
 intro x _ u hu
 simp[Ins.cells]at hu
 rcases hu with rfl|rfl|rfl|rfl|rfl <;> rfl
abbrev vO (w:World) (base:Nat) (v:Value) (l:List Ins):Prop:=w.ownsRow base 69 5 v l.length (flat Ins.cells l)
structure eY (w0:World) (C:Nat) (sv:Value) (f:fe) (w:World) (cv:Value) (code:List Ins):Prop where
 g:Grow w0 w
 blk:w.heap[C]? = some (.cells #[sv,.int .i64 f.cells,.int .i64 f.stacks,cv] 279 (0,0))
 row:vO w w0.heap.size cv code
 hC:w0.heap.size<=C
structure gL (C:Nat) (w:World) (cv:Value) (w':World) (cv':Value):Prop where
 mv:Mv (λb=>b=C\/cv.ownBlock=some b) w w'
 own:∀ g,cv'.ownBlock=some g->cv.ownBlock=some g\/w.heap.size<=g
theorem gL.refl (C:Nat) (w:World) (cv:Value):gL C w cv w cv:=⟨Mv.refl _ _,λ_ h => .inl h⟩
theorem gL.trans {C:Nat} {w w1 w2:World} {cv Wv zG:Value} (h:gL C w cv w1 Wv) (k:gL C w1 Wv w2 zG):gL C w cv w2 zG :=
 ⟨h.mv.trans k.mv (λx e=>by
  rcases e with e|e
  · exact .inl (.inl e)
  · rcases h.own x e with e|e
    · exact .inl (.inr e)
    · exact .inr e),λg hg=>by
  rcases k.own g hg with e|e
  · exact h.own g e
  · exact .inr (Nat.le_trans h.mv.size e)⟩
theorem gL.grow {C:Nat} {w w1:World} {cv:Value} (h:Grow w w1):gL C w cv w1 cv:=⟨h.mono (λ_ e=>e.elim),λ_ h => .inl h⟩
theorem eY.grow {w0:World} {C:Nat} {sv:Value} {f:fe} {w w1:World} {cv:Value} {code:List Ins} (h:eY w0 C sv f w cv code) (hg:Grow w w1):eY w0 C sv f w1 cv code :=
 ⟨Mv.trans h.g hg (λ_ e=>e.elim),aJ h.blk hg,fQ h.row hg (λ_ _ e=>e),h.hC⟩
theorem eY.ne {w0:World} {C:Nat} {sv:Value} {f:fe} {w:World} {cv:Value} {code:List Ins} (h:eY w0 C sv f w cv code):cv.ownBlock≠some C:=by
 intro e
 rcases h.row.2 with⟨rfl,_⟩|⟨g,cap,cur,rfl,_,hg,_⟩
 · simp[Value.ownBlock]at e
 · simp[Value.ownBlock]at e
   subst e
   have:=h.blk
   rw[hg]at this
   simp only[Option.some.injEq,Obj.cells.injEq]at this
   exact absurd this.2.1 (by decide)
set_option maxRecDepth 100000 in
set_option maxHeartbeats 1600000 in
theorem I1 (w0:World) (C:Nat) (sv:Value) (f:fe) (w:World) (cv:Value) (code:List Ins) (lv:Value) (ls:List Ins) (hst:eY w0 C sv f w cv code) (hl:aB 5 Ins.cells w lv ls) (hlen:code.length+ls.length<=1000000) :
 Calls Tryz.prog 243 #[.pointer (some ⟨C,0,none⟩),lv] w λe w'=>e = .returned (.tuple #[])/\∃ cv',eY w0 C sv f w' cv' (code ++ ls)/\gL C w cv w' cv':=by
 obtain⟨la,lc,rfl,hlc,hll⟩:=hl.form
 obtain⟨ca,cc,hcv⟩:=o8 hst.row
 subst hcv
 have hne:=hst.ne
 have hblk:=hst.blk
 obtain⟨a',c',w2,⟨hok,hv,hw⟩,hrow2,eG,hown2⟩:=nL Tryz.QA (f:=Ins.cells) (λ_=>rfl) _ _ code ls w0.heap.size w hst.row hl QB hst.g.size hlen
 have hb2:w2.heap[C]? = some (.cells #[sv,.int .i64 f.cells,.int .i64 f.stacks,.slice ca code.length cc] 279 (0,0)):=by
  rw[eG.block C (lt_of_block hblk) (λe=>hne e)];exact hblk
 have hb3:=block_setCell (p:=⟨C,3,none⟩) hb2 rfl (.slice a' (code.length+ls.length) c')
 simp only[List.setIfInBounds_toArray,List.set_cons_zero,List.set_cons_succ]at hb3
 have Fw:Mv (λb=>b=C) w2 (w2.setCell ⟨C,3,none⟩ (.slice a' (code.length+ls.length) c')):=(Mv.refl (λb=>b=C) w2).setCell (p:=⟨C,3,none⟩) (.inl rfl) _
 have hC:=hst.hC
 have HS:=Lib.hid (show eY w0 C sv f (w2.setCell ⟨C,3,none⟩ (.slice a' (code.length+ls.length) c')) (.slice a' (code.length+ls.length) c') (code ++ ls)from
  ⟨(hst.g.trans eG (λx e => .inr (hst.row.lt x e).1)).trans Fw (λx e => .inr (by omega)),hb3,fQ hrow2 Fw (λg hg e=>by
   subst e
   rcases hrow2.2 with⟨h1,_⟩|⟨g2,cap,cur,h1,_,hg2,_⟩
   · rw[h1]at hg;simp[Value.ownBlock]at hg
   · rw[h1]at hg
     simp[Value.ownBlock]at hg
     subst hg
     rw[hb2]at hg2
     simp only[Option.some.injEq,Obj.cells.injEq]at hg2
     exact absurd hg2.2.1 (by decide)),hC⟩)
 have HT:=Lib.hid (show gL C w (.slice ca code.length cc) (w2.setCell ⟨C,3,none⟩ (.slice a' (code.length+ls.length) c')) (.slice a' (code.length+ls.length) c')from
  ⟨(eG.mono (λx e => .inl (.inr e))).trans Fw (λx e => .inl (.inl e)),hown2⟩)
 obtain⟨⟨k0,k1⟩,k2,k3⟩:=fE hblk
 obtain⟨⟨j0,j1⟩,j2,j3⟩:=fE hb2
 have MJ:=lt_of_block hblk
 have ag5:=lt_of_block hb2
 have ht2:=gN hb2
 clear hst hl hne hblk hrow2 eG hown2 hb2 hb3 Fw
 go_enter Tryz.func243,Tryz.ntmps243
 go_wp2_with fail
 go_end0
 exact⟨rfl,_,HS.out,HT.out⟩
end Go.Proofs.YtadecgbblajifaaGreatDoor
