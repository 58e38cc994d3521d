import Derived.Test.YtnobahchcongnaaGreatDoorQ02
import Derived.Test.YtnobahchcongnaaGreatDoorRows
import Derived.Shelf.Small.Bits
import Derived.Shelf.Small.Strs
import Derived.Shelf.Small.Wraps
import Derived.Shelf.Strconv.Itoa0
import Derived.Shelf.Strings.Search1
import Derived.Shelf.Strings.Prefix
import Derived.Test.YtnobahchcongnaaGreatDoorProg
set_option linter.unusedSimpArgs false
set_option linter.unusedVariables false
set_option linter.unusedSectionVars false
set_option maxRecDepth 100000
set_option maxHeartbeats 25600000
namespace Go.Proofs.YtnobahchcongnaaGreatDoor
section
open Go.RowKit
structure Ins where
 op:Int
 a:Int
 b:Int
 c:Int
 d:Int
def Ins.cells (i:Ins):List Value:=[.int .u8 i.op,.int .i64 i.a,.int .i64 i.b,.int .i64 i.c,.int .i64 i.d]
abbrev Ins.val (i:Ins):Value := .agg #[.int .u8 i.op,.int .i64 i.a,.int .i64 i.b,.int .i64 i.c,.int .i64 i.d]
def ig (op:Int):Bool:=op == 22 || (op == 23 || op == 24)
def iQ (op:Int):Bool:=op == 25 || (op == 26 || op == 27)
def q8 (op:Int):Bool:=op == 22 || (op == 25 || (op == 30 || (op == 31 || (op == 32 || op == 33))))
def uA (op:Int):Bool:=op == 23 || (op == 24 || (op == 26 || op == 27))
def Ins.target (i:Ins):Int:=if q8 i.op then i.a else if uA i.op then i.b else 0
def Ins.Fu (i:Ins):Bool:=q8 i.op || uA i.op
def Ins.dE (i:Ins) (t:Int):Ins:=if q8 i.op then { i with a:=t } else if uA i.op then { i with b:=t } else i
theorem aD {a b:Bool} (h:a=b):Ending.returned (.bool a) = .returned (.bool b):=by rw [h]
theorem gT {k:IntKind} {a b:Int} (h:a=b):Ending.returned (.int k a) = .returned (.int k b):=by rw [h]
theorem MI (op:Int) (w:World):Calls Tryz.prog 49 #[.int .u8 op] w fun e w'=>e = .returned (.bool (ig op))∧w=w':=by
 go_enter Tryz.func49,Tryz.ntmps49
 go_wp2
 all_goals (go_ret;exact ⟨aD (by unfold ig;simp_all),rfl⟩)
theorem L9 (op:Int) (w:World):Calls Tryz.prog 50 #[.int .u8 op] w fun e w'=>e = .returned (.bool (iQ op))∧w=w':=by
 go_enter Tryz.func50,Tryz.ntmps50
 go_wp2
 all_goals (go_ret;exact ⟨aD (by unfold iQ;simp_all),rfl⟩)
theorem Ho (i:Ins) (w:World):Calls Tryz.prog 28 #[i.val] w fun e w'=>e = .returned (.tuple #[.int .i64 i.target,.bool i.Fu])∧Mv (fun _=>False) w w':=by
 obtain ⟨op,a,b,c,d⟩:=i;have HM:=ł ((Mv.refl (fun _=>False) w).alloc (.cells #[.int .u8 op,.int .i64 a,.int .i64 b,.int .i64 c,.int .i64 d] 57))
 go_enter Tryz.func28,Tryz.ntmps28
 go_wp2
 all_goals (go_ret2;refine ⟨?_,HM.out⟩;simp_all [Ins.target,Ins.Fu,q8,uA])
theorem G8 (i:Ins) (t:Int) (w:World):Calls Tryz.prog 29 #[i.val,.int .i64 t] w fun e w'=>e = .returned (i.dE t).val∧Mv (fun _=>False) w w':=by
 obtain ⟨op,a,b,c,d⟩:=i
 go_enter Tryz.func29,Tryz.ntmps29
 go_wp2
 all_goals
  refine bodyPost_ret (v:=(Ins.dE ⟨op,a,b,c,d⟩ t).val) ?_ rfl ⟨rfl,?_⟩
  · simp_all [results,Tryz.results29,go_sem,Ins.dE,q8,uA]
  · exact ((Mv.refl _ _).alloc _).alloc _
def iM (x:Int):Bool:=decide (0≤x) && decide (x<16)
def mF (x:Int):Bool:=decide (0≤x) && decide (x≤16384)
def Ai (x:Int):Bool:=decide (0≤x) && decide (x<65536)
def Fv (x:Int):Bool:=decide (8≤x) && decide (x≤23)
theorem UG (x:Int) (w:World):Calls Tryz.prog 51 #[.int .i64 x] w fun e w'=>e = .returned (.bool (iM x))∧w=w':=by
 go_enter Tryz.func51,Tryz.ntmps51
 go_wp2
 all_goals (go_ret;exact ⟨aD (by unfold iM;simp_all <;> omega),rfl⟩)
theorem Vn (x:Int) (w:World):Calls Tryz.prog 53 #[.int .i64 x] w fun e w'=>e = .returned (.bool (mF x))∧w=w':=by
 go_enter Tryz.func53,Tryz.ntmps53
 go_wp2
 all_goals (go_ret;exact ⟨aD (by unfold mF;simp_all <;> omega),rfl⟩)
theorem Wm (x:Int) (w:World):Calls Tryz.prog 54 #[.int .i64 x] w fun e w'=>e = .returned (.bool (Ai x))∧w=w':=by
 go_enter Tryz.func54,Tryz.ntmps54
 go_wp2
 all_goals (go_ret;exact ⟨aD (by unfold Ai;simp_all <;> omega),rfl⟩)
theorem UH (x:Int) (w:World):Calls Tryz.prog 52 #[.int .i64 x] w fun e w'=>e = .returned (.bool (Fv x))∧w=w':=by
 go_enter Tryz.func52,Tryz.ntmps52
 go_wp2
 all_goals (go_ret;exact ⟨aD (by unfold Fv;simp_all <;> omega),rfl⟩)
end
section
open Go.RowKit
def lT:List Int:=[0,2,2,2,2,2,2,2,1,4,2,4,2,2,2,2,2,1,1,1,1,2,1,2,2,1,2,2,2,2,1,1,1,1,0]
def qM (w:World):Prop:=∀ k,k<35→w.cell? ⟨0,k * 2+1,none⟩=some (.int .i64 (lT.getD k 0))
theorem qM.later {w w':World} (h:qM w) (hm:Mv (fun _=>False) w w'):qM w':=fun k hk=>by
 have h1:=h k hk;rw [← h1];exact World.cell?_of_block (w:=w) (w':=w') (hm.block _ (World.block_lt_of_cell? w _ h1) (fun h=>h))
def unused (n:Int) (i:Ins):Bool:=(decide (0<n) || i.a == 0) && ((decide (1<n) || i.b == 0) && ((decide (2<n) || i.c == 0) && (decide (3<n) || i.d == 0)))
def nZ (i:Ins):Bool :=
 if i.op=1∨i.op=2∨i.op=3 then (iM i.a && iM i.b) && i.a != i.b
 else if i.op=7 then iM i.a && iM i.b
 else if i.op=4∨i.op=5∨i.op=6∨i.op=8∨i.op=17∨i.op=18∨i.op=19∨i.op=20 then iM i.a
 else if i.op=9 then ((((iM i.a && iM i.b) && iM i.c) && i.a != i.b) && i.a != i.c) && Fv i.d
 else if i.op=10∨i.op=12∨i.op=13∨i.op=14∨i.op=15 then iM i.a && mF i.b
 else if i.op=11 then (((iM i.a && iM i.b) && i.a != i.b) && mF i.c) && mF i.d
 else if i.op=16∨i.op=28∨i.op=29 then mF i.a && mF i.b
 else if i.op=21 then (iM i.a && decide (1≤i.b)) && decide (i.b≤23)
 else if i.op=22∨i.op=25∨i.op=30∨i.op=31∨i.op=32∨i.op=33 then Ai i.a
 else if i.op=23∨i.op=24∨i.op=26∨i.op=27 then iM i.a && Ai i.b
 else true
def Ins.iJ (i:Ins):Bool:=decide (i.op<35) && (unused (lT.getD i.op.toNat 0) i && nZ i)
def mG (n:Int) (i:Ins) (k:Nat):Prop:=(0<k→n≤0→i.a=0)∧(1<k→n≤1→i.b=0)∧(2<k→n≤2→i.c=0)∧(3<k→n≤3→i.d=0)
theorem mG.all {n:Int} {i:Ins} (h:mG n i 4):unused n i=true:=by
 obtain ⟨h1,h2,h3,h4⟩:=h;simp only [unused,Bool.and_eq_true,Bool.or_eq_true,decide_eq_true_eq,beq_iff_eq];refine ⟨?_,?_,?_,?_⟩ <;> omega
theorem Vo {n:Int} {i:Ins} (h:n≤0) (hx:(i.a != 0)=true):unused n i=false:=by
 have h1:¬ 0<n:=by omega
 have h2:(i.a == 0)=false:=by simpa using hx
 simp [unused,h1,h2]
theorem mG.step0 {n:Int} {i:Ins} (h:mG n i 0) (hx:n≤0→i.a=0):mG n i 1:=by
 obtain ⟨h1,h2,h3,h4⟩:=h;refine ⟨fun _ => ?_,fun _ => ?_,fun _ => ?_,fun _ => ?_⟩ <;> first | exact hx | (exact h1 (by omega)) | (exact h2 (by omega)) | (exact h3 (by omega)) | omega
theorem Vp {n:Int} {i:Ins} (h:n≤1) (hx:(i.b != 0)=true):unused n i=false:=by
 have h1:¬ 1<n:=by omega
 have h2:(i.b == 0)=false:=by simpa using hx
 simp [unused,h1,h2]
theorem mG.step1 {n:Int} {i:Ins} (h:mG n i 1) (hx:n≤1→i.b=0):mG n i 2:=by
 obtain ⟨h1,h2,h3,h4⟩:=h;refine ⟨fun _ => ?_,fun _ => ?_,fun _ => ?_,fun _ => ?_⟩ <;> first | exact hx | (exact h1 (by omega)) | (exact h2 (by omega)) | (exact h3 (by omega)) | omega
theorem Vq {n:Int} {i:Ins} (h:n≤2) (hx:(i.c != 0)=true):unused n i=false:=by
 have h1:¬ 2<n:=by omega
 have h2:(i.c == 0)=false:=by simpa using hx
 simp [unused,h1,h2]
theorem mG.step2 {n:Int} {i:Ins} (h:mG n i 2) (hx:n≤2→i.c=0):mG n i 3:=by
 obtain ⟨h1,h2,h3,h4⟩:=h;refine ⟨fun _ => ?_,fun _ => ?_,fun _ => ?_,fun _ => ?_⟩ <;> first | exact hx | (exact h1 (by omega)) | (exact h2 (by omega)) | (exact h3 (by omega)) | omega
theorem Vr {n:Int} {i:Ins} (h:n≤3) (hx:(i.d != 0)=true):unused n i=false:=by
 have h1:¬ 3<n:=by omega
 have h2:(i.d == 0)=false:=by simpa using hx
 simp [unused,h1,h2]
theorem mG.YZ {n:Int} {i:Ins} (h:mG n i 3) (hx:n≤3→i.d=0):mG n i 4:=by
 obtain ⟨h1,h2,h3,h4⟩:=h;refine ⟨fun _ => ?_,fun _ => ?_,fun _ => ?_,fun _ => ?_⟩ <;> first | exact hx | (exact h1 (by omega)) | (exact h2 (by omega)) | (exact h3 (by omega)) | omega
theorem Wn (i:Ins) (w:World) (ht:qM w) (h0:0≤i.op) (h1:i.op≤255):Calls Tryz.prog 30 #[i.val] w fun e w'=>e = .returned (.bool i.iJ)∧Mv (fun _=>False) w w':=by
 obtain ⟨op,a,b,c,d⟩:=i;simp only at h0 h1;obtain ⟨o,rfl⟩:∃ o:Nat,op=o:=⟨op.toNat,by omega⟩;have HM:=ł ((Mv.refl (fun _=>False) w).alloc (.cells #[.int .u8 o,.int .i64 a,.int .i64 b,.int .i64 c,.int .i64 d] 57));by_cases hbig:(o:Int)<35
 · have hlt:o<35:=by omega
   have hcell:=ht o hlt;have HV:=ł (show ∀ q:Int,q=o→Ins.iJ ⟨q,a,b,c,d⟩=(unused (lT.getD o 0) ⟨o,a,b,c,d⟩ && nZ ⟨q,a,b,c,d⟩) from by rintro q rfl;simp [Ins.iJ,hbig]);generalize lT.getD o 0=n at *;have hG:0<w.heap.size:=World.block_lt_of_cell? w _ hcell;clear ht;have x0:∀ w,(Instr.index 113 (.agg #[.int .i64 a,.int .i64 b,.int .i64 c,.int .i64 d]) (.int .i64 0)).run Tryz.prog w = .ok (.int .i64 a) w:=fun _=>by kernel_rfl
   have x1:∀ w,(Instr.index 113 (.agg #[.int .i64 a,.int .i64 b,.int .i64 c,.int .i64 d]) (.int .i64 1)).run Tryz.prog w = .ok (.int .i64 b) w:=fun _=>by kernel_rfl
   have x2:∀ w,(Instr.index 113 (.agg #[.int .i64 a,.int .i64 b,.int .i64 c,.int .i64 d]) (.int .i64 2)).run Tryz.prog w = .ok (.int .i64 c) w:=fun _=>by kernel_rfl
   have x3:∀ w,(Instr.index 113 (.agg #[.int .i64 a,.int .i64 b,.int .i64 c,.int .i64 d]) (.int .i64 3)).run Tryz.prog w = .ok (.int .i64 d) w:=fun _=>by kernel_rfl
   go_enter Tryz.func30,Tryz.ntmps30
   go_wp2
   go_loop [17] (fun t=>∃ k:Nat,k≤4∧t = .int .i64 k∧Hid (mG n ⟨o,a,b,c,d⟩ k)) (fun t=>4 - (intOf t).toNat)
   case atStart=>exact ⟨0,by omega,rfl,ł (by simp [mG])⟩
   case round =>
    obtain ⟨k,hk,rfl,hu⟩:=hrel;obtain rfl | rfl | rfl | rfl | rfl:k=0∨k=1∨k=2∨k=3∨k=4:=by omega
    · go_wp2
      all_goals first
       | (go_ret;exact ⟨aD (by rw [HV.out _ rfl,Vo (by assumption) (by assumption)];rfl),HM.out⟩)
       | exact ⟨⟨1,by omega,rfl,ł (hu.out.step0 (by simp_all <;> omega))⟩,by simp [intOf]⟩
    · go_wp2
      all_goals first
       | (go_ret;exact ⟨aD (by rw [HV.out _ rfl,Vp (by assumption) (by assumption)];rfl),HM.out⟩)
       | exact ⟨⟨2,by omega,rfl,ł (hu.out.step1 (by simp_all <;> omega))⟩,by simp [intOf]⟩
    · go_wp2
      all_goals first
       | (go_ret;exact ⟨aD (by rw [HV.out _ rfl,Vq (by assumption) (by assumption)];rfl),HM.out⟩)
       | exact ⟨⟨3,by omega,rfl,ł (hu.out.step2 (by simp_all <;> omega))⟩,by simp [intOf]⟩
    · go_wp2
      all_goals first
       | (go_ret;exact ⟨aD (by rw [HV.out _ rfl,Vr (by assumption) (by assumption)];rfl),HM.out⟩)
       | exact ⟨⟨4,by omega,rfl,ł (hu.out.YZ (by simp_all <;> omega))⟩,by simp [intOf]⟩
    · have HU:=ł hu.out.all;clear hu hcell x0 x1 x2 x3;rcases (show o=0∨o=1∨o=2∨o=3∨o=4∨o=5∨o=6∨o=7∨o=8∨o=9∨o=10∨o=11∨o=12∨o=13∨o=14∨o=15∨o=16∨o=17∨o=18∨o=19∨o=20∨o=21∨o=22∨o=23∨o=24∨o=25∨o=26∨o=27∨o=28∨o=29∨o=30∨o=31∨o=32∨o=33∨o=34 by omega) with rfl | rfl | rfl | rfl | rfl | rfl | rfl | rfl | rfl | rfl | rfl | rfl | rfl | rfl | rfl | rfl | rfl | rfl | rfl | rfl | rfl | rfl | rfl | rfl | rfl | rfl | rfl | rfl | rfl | rfl | rfl | rfl | rfl | rfl | rfl
      all_goals
       go_wp2_with (first
        | (go_at_call 51;refine (UG _ _).mono ?_;rintro e w' ⟨rfl,rfl⟩)
        | (go_at_call 53;refine (Vn _ _).mono ?_;rintro e w' ⟨rfl,rfl⟩)
        | (go_at_call 54;refine (Wm _ _).mono ?_;rintro e w' ⟨rfl,rfl⟩)
        | (go_at_call 52;refine (UH _ _).mono ?_;rintro e w' ⟨rfl,rfl⟩))
       all_goals (go_ret;exact ⟨aD (by rw [HV.out _ (by omega),HU.out];simp_all [nZ] <;> omega),(Mv.refl _ _).alloc _⟩)
 · have hb2:¬ o<35:=by omega
   have hb3:(35:Int)≤o:=by omega
   have hd1:decide ((35:Int)≤o)=true:=by simpa using hb3
   have hd2:decide ((o:Int)<35)=false:=by simpa using hb3
   go_enter Tryz.func30,Tryz.ntmps30
   go_wp2
   go_ret;exact ⟨aD (by simp [Ins.iJ];omega),HM.out⟩
end
section
open Go.RowKit Go.Instr
def pz (w:World) (r:Nat) (o:Obj):World := { w with heap:=w.heap.setIfInBounds r o }
theorem bytes_beq (a b:ByteArray):(a == b)=decide (a=b):=by
 cases a with | mk x=>cases b with | mk y =>
 show (x == y)=_
 by_cases h:x=y
 · subst h;simp
 · have h1:(x == y)=false:=by simpa using h
   have h2:¬ (⟨x⟩:ByteArray)=⟨y⟩:=fun e=>h (by simpa using congrArg ByteArray.data e);simp [h1,h2]
instance:LawfulBEq ByteArray where
 eq_of_beq:=by intro a b h;rw [bytes_beq] at h;exact of_decide_eq_true h
 rfl:=by intro a;rw [bytes_beq];simp
theorem Ib {P:Program} {w:World} {r:Nat} {es:Array MapEntry} {c:Nat} (hb:w.heap[r]? = some (.map es c)):(getObj r).run P w = .ok (.map es c) w:=by simp [getObj,Sem.run,hb]
theorem Wo {P:Program} {w:World} {r:Nat} {es:Array MapEntry} {c:Nat} (o':Obj) (hb:w.heap[r]? = some (.map es c)):(setObj r o').run P w = .ok () (pz w r o'):=by simp [setObj,Sem.run,hb,pz]
structure KeyLaw (P:Program) (K:TypeId) {κ:Type} [BEq κ] [LawfulBEq κ] (enc:κ→Value) (desc:TypeDesc):Prop where
 hu:P.underlying K=some desc
 same:∀ a b:κ,sameNow desc (enc a) (enc b)=some (a == b)
 check:∀ (e:Bool) (n:Nat) (a:κ) (w:World),(checkKey e (n+1) K (enc a)).run P w = .ok () w
 bits:∀ a:κ,sameBits 10000 (enc a) (enc a)=true
theorem Yg {P:Program} {K:TypeId} (hu:P.underlying K=some .string):KeyLaw P K Value.string .string:=by
 refine ⟨hu,fun a b=>rfl,fun e n a w => ?_,fun a=>by simp [sameBits]⟩;simp [checkKey,run_underlying hu]
theorem Yh {P:Program} {K:TypeId} (hu:P.underlying K=some (.int .i64)):KeyLaw P K (Value.int .i64) (.int .i64):=by
 refine ⟨hu,fun a b=>by simp [sameNow],fun e n a w => ?_,fun a=>by simp [sameBits]⟩;simp [checkKey,run_underlying hu]
section
variable {κ:Type} [BEq κ] [LawfulBEq κ]
def fT (k:κ):List (κ × Value)→Nat→Option (Nat × Value)
 | [],_=>none
 | (a,x) :: l,i=>if k == a then some (i,x) else fT k l (i+1)
def qQ (l:List (κ × Value)) (k:κ):Option Value:=(fT k l 0).map (·.2)
def iN (k:κ) (v:Value):List (κ × Value)→List (κ × Value)
 | []=>[(k,v)]
 | (a,x) :: l=>if k == a then (k,v) :: l else (a,x) :: iN k v l
def j6 (enc:κ→Value) (l:List (κ × Value)) (es:List MapEntry):Prop:=es.map (fun e=>(e.key,e.val))=l.map (fun p=>(enc p.1,p.2))
theorem j6.cons {enc:κ→Value} {p:κ × Value} {l:List (κ × Value)} {es:List MapEntry} (h:j6 enc (p :: l) es):∃ e r,es=e :: r∧e.key=enc p.1∧e.val=p.2∧j6 enc l r:=by
 cases es with
 | nil=>simp [j6] at h
 | cons e r=>simp [j6] at h;exact ⟨e,r,rfl,h.1.1,h.1.2,by simpa [j6] using h.2⟩
theorem Oa {P:Program} {K:TypeId} {enc:κ→Value} {desc:TypeDesc} (L:KeyLaw P K enc desc) (k:κ):∀ (l:List (κ × Value)) (es:List MapEntry) (i:Nat),j6 enc l es→findNow desc (enc k) es i=some (fT k l i)
 | [],es,i,h=>by
  have:es=[]:=by simpa [j6] using h
  subst this;rfl
 | (a,x) :: l,es,i,h=>by
  obtain ⟨e,r,rfl,h1,h2,h3⟩:=h.cons;simp only [findNow,h1,L.same,fT];cases hka:k == a
  · simp only [Bool.false_eq_true,if_false];exact Oa L k l r (i+1) h3
  · simp only [if_true,h2]
theorem Ex (k:κ):∀ (l:List (κ × Value)) (i j:Nat) (v:Value),fT k l i=some (j,v)→i≤j∧j<i+l.length
 | [],i,j,v,h=>by simp [fT] at h
 | (a,x) :: l,i,j,v,h=>by
  simp only [fT] at h;split at h
  · simp at h;obtain ⟨rfl,_⟩:=h;simp
  · have:=Ex k l (i+1) j v h;simp;omega
def MapAt (enc:κ→Value) (w:World) (r:Nat) (l:List (κ × Value)):Prop :=
 ∃ es clock,w.heap[r]? = some (.map es clock)∧j6 enc l es.toList∧(∀ e∈es.toList,e.born<clock)∧(es.toList.map (·.born)).Nodup
theorem MapAt.lt {enc:κ→Value} {w:World} {r:Nat} {l:List (κ × Value)} (h:MapAt enc w r l):r<w.heap.size:=by
 obtain ⟨es,clock,hb,_⟩:=h;rcases Nat.lt_or_ge r w.heap.size with h' | h'
 · exact h'
 · rw [Array.getElem?_eq_none h'] at hb;cases hb
theorem MapAt.keep {enc:κ→Value} {w w':World} {r:Nat} {l:List (κ × Value)} (h:MapAt enc w r l) (hw:w'.heap[r]? = w.heap[r]?):MapAt enc w' r l:=by
 obtain ⟨es,clock,hb,rest⟩:=h;exact ⟨es,clock,by rw [hw];exact hb,rest⟩
theorem MapAt.new (enc:κ→Value) (w:World):MapAt enc (w.alloc (.map #[] 0)) w.heap.size []:=⟨#[],0,heap_alloc_new w _,by simp [j6],by simp,by simp⟩
theorem Mv.pz (w:World) (r:Nat) (o:Obj):Mv (fun b=>b=r) w (pz w r o):=by
 refine ⟨rfl,rfl,rfl,by simp [YtnobahchcongnaaGreatDoor.pz],fun b _ hne => ?_⟩;have:r≠b:=fun e=>hne e.symm;simp [YtnobahchcongnaaGreatDoor.pz,this]
theorem OI (w:World) (r:Nat) (o:Obj) (h:r<w.heap.size):(pz w r o).heap[r]? = some o:=by simp [pz,h]
variable {P:Program} {K T E:TypeId} {enc:κ→Value} {desc:TypeDesc} {w:World} {r:Nat} {l:List (κ × Value)}
theorem run_findKey (L:KeyLaw P K enc desc) (k:κ) {es:Array MapEntry} (h:j6 enc l es.toList):(findKey K (enc k) es.toList).run P w = .ok (fT k l 0) w:=by
 simp only [findKey,Sem.run_bind,run_underlying L.hu,Result.andThen_ok,Oa L k l es.toList 0 h,Sem.run_pure]
theorem run_get (L:KeyLaw P K enc desc) (ht:P.underlying T=some (.map K E)) (k:κ) (z:Value) (hz:∀ w,(zeroValue E).run P w = .ok z w) (h:MapAt enc w r l) :
 (lookup T (.map (some r)) (enc k) false).run P w = .ok ((qQ l k).getD z) w:=by
 obtain ⟨es,clock,hb,he,_⟩:=h;unfold lookup;simp only [Sem.run_bind,run_underlying ht,Result.andThen_ok,Ib hb,Sem.run_pure,L.check,run_findKey L k he];unfold qQ;cases fT k l 0 with
 | none=>simp [hz]
 | some p=>simp
theorem Ha (k:κ) (v:Value):∀ (l:List (κ × Value)) (es:List MapEntry) (i j:Nat) (x:Value),j6 enc l es→fT k l i=some (j,x)→j6 enc (iN k v l) (es.modify (j - i) fun e => { e with key:=enc k,val:=v })
 | [],es,i,j,x,_,h=>by simp [fT] at h
 | (a,y) :: l,es,i,j,x,he,h=>by
  obtain ⟨e,r,rfl,h1,h2,h3⟩:=he.cons;simp only [fT] at h;simp only [iN];cases hka:k == a
  · simp only [hka,Bool.false_eq_true,if_false] at h ⊢;have hge:=(Ex k l (i+1) j x h).1;have:=Ha k v l r (i+1) j x h3 h;rw [show j - i=j - (i+1)+1 by omega,List.modify_succ_cons];simp [j6,h1,h2] at this ⊢;exact this
  · simp only [hka,if_true] at h ⊢;simp at h;obtain ⟨rfl,_⟩:=h;simp [j6] at h3 ⊢;exact h3
theorem Nk (k:κ) (v:Value) (n:Nat):∀ (l:List (κ × Value)) (es:List MapEntry) (i:Nat),j6 enc l es→fT k l i=none→j6 enc (iN k v l) (es ++ [{ key:=enc k,val:=v,born:=n }])
 | [],es,i,he,_=>by
  have:es=[]:=by simpa [j6] using he
  subst this;simp [j6,iN]
 | (a,y) :: l,es,i,he,h=>by
  obtain ⟨e,r,rfl,h1,h2,h3⟩:=he.cons;simp only [fT] at h;simp only [iN];cases hka:k == a
  · simp only [hka,Bool.false_eq_true,if_false] at h ⊢;have:=Nk k v n l r (i+1) h3 h;simp [j6,h1,h2] at this ⊢;exact this
  · simp [hka] at h
theorem run_set (L:KeyLaw P K enc desc) (ht:P.underlying T=some (.map K E)) (k:κ) (v:Value) (h:MapAt enc w r l) :
 ∃ w',(mapUpdate T (.map (some r)) (enc k) v).run P w = .ok () w'∧MapAt enc w' r (iN k v l)∧Mv (fun b=>b=r) w w':=by
 have hlt:=h.lt;obtain ⟨es,clock,hb,he,hborn,hnd⟩:=h;have hrun:∀ o,(setObj r o).run P w = .ok () (pz w r o):=fun o=>Wo o hb;have hc:=L.check false 9999 k w;cases hf:fT k l 0 with
 | none =>
  refine ⟨pz w r (.map (es.push { key:=enc k,val:=v,born:=clock }) (clock+1)),?_,⟨_,_,OI _ _ _ hlt,?_,?_,?_⟩,Mv.pz _ _ _⟩
  · unfold mapUpdate;simp only [Sem.run_bind,run_underlying ht,Result.andThen_ok,Ib hb,hc,run_findKey L k he,hf,hrun]
  · simpa using Nk k v clock l es.toList 0 he hf
  · intro e hm;simp at hm;rcases hm with hm | rfl
    · have:=hborn e (by simpa using hm);omega
    · simp
  · simp only [Array.toList_push,List.map_append,List.map_cons,List.map_nil];refine List.nodup_append.2 ⟨hnd,by simp,?_⟩;intro a ha b hb';simp at hb';subst hb';obtain ⟨e,hm,rfl⟩:=List.mem_map.1 ha;have:=hborn e hm;omega
 | some p =>
  obtain ⟨j,x⟩:=p;have hj:=(Ex k l 0 j x hf).2;have hlen:es.toList.length=l.length:=by
   have:=congrArg List.length he
   simpa using this
  have hkey:((es[j]?).map (·.key)).getD (enc k)=enc k:=by
   have h1:=Ha (enc:=enc) k v l es.toList 0 j x he hf;have pR:j<es.size:=by simp at hlen;omega
   have h2:=congrArg (fun t=>t[j]?) he;simp only [List.getElem?_map] at h2;have hl:∀ (l:List (κ × Value)) (i:Nat),fT k l i=some (j,x)→∃ p,l[j - i]? = some p∧k=p.1:=by
    intro l
    induction l with
    | nil=>intro i h;simp [fT] at h
    | cons p l ih =>
     intro i h;obtain ⟨a,y⟩:=p;simp only [fT] at h;cases hka:k == a
     · simp only [hka,Bool.false_eq_true,if_false] at h;have hge:=(Ex k l (i+1) j x h).1;obtain ⟨p,h1,h2⟩:=ih (i+1) h;exact ⟨p,by rw [show j - i=j - (i+1)+1 by omega,List.getElem?_cons_succ];exact h1,h2⟩
     · simp only [hka,if_true] at h;simp at h;obtain ⟨rfl,_⟩:=h;exact ⟨(a,y),by simp,by simpa using hka⟩
   obtain ⟨p,h3,h4⟩:=hl l 0 hf;simp only [Nat.sub_zero] at h3;rw [h3] at h2;have h5:es[j]? = some es[j]:=Array.getElem?_eq_getElem pR;have h6:es.toList[j]? = some es[j]:=by simp
   rw [h6] at h2;simp at h2;rw [h5];simp [h2.1,h4]
  have hst:(keyThatStays (((es[j]?).map (·.key)).getD (enc k)) (enc k)).run P w = .ok (enc k) w:=by
   rw [hkey];simp [keyThatStays,L.bits]
  refine ⟨pz w r (.map (es.modify j fun e => { e with key:=enc k,val:=v }) clock),?_,⟨_,_,OI _ _ _ hlt,?_,?_,?_⟩,Mv.pz _ _ _⟩
  · unfold mapUpdate;simp only [Sem.run_bind,run_underlying ht,Result.andThen_ok,Ib hb,hc,run_findKey L k he,hf,hst,hrun]
  · have:=Ha (enc:=enc) k v l es.toList 0 j x he hf
    simpa [Array.toList_modify] using this
  · intro e hm;rw [Array.toList_modify] at hm;obtain ⟨i,hi,rfl⟩:=List.mem_iff_getElem.1 hm;rw [List.getElem_modify];have:=hborn (es.toList[i]'(by simpa using hi)) (List.getElem_mem _);split <;> exact this
  · have:(es.modify j fun e => { e with key:=enc k,val:=v }).toList.map (·.born)=es.toList.map (·.born):=by
     rw [Array.toList_modify];apply List.ext_getElem?;intro i;simp only [List.getElem?_map,List.getElem?_modify];cases es.toList[i]? <;> simp;split <;> rfl
    rw [this];exact hnd
end
end
section
open Go.RowKit Go.Instr
def xw (c:Int):Bool:=decide (97≤c) && decide (c≤122)
def rW (c:Int):Bool:=decide (48≤c) && decide (c≤57)
def qR (c:Int):Bool:=xw c || rW c
def uu (c:Int):Bool:=((c == 32 || c == 9) || c == 13) || c == 10
def xD (c:Int):Bool:=c != 10
theorem Bf (c:Int) (w:World):Calls Tryz.prog 124 #[.int .u8 c] w fun e w'=>e = .returned (.bool (xw c))∧w=w':=by
 go_enter Tryz.func124,Tryz.ntmps124
 go_wp2
 all_goals (go_ret;exact ⟨aD (by unfold xw;simp_all <;> omega),rfl⟩)
theorem zQ (c:Int) (w:World):Calls Tryz.prog 127 #[.int .u8 c] w fun e w'=>e = .returned (.bool (rW c))∧w=w':=by
 go_enter Tryz.func127,Tryz.ntmps127
 go_wp2
 all_goals (go_ret;exact ⟨aD (by unfold rW;simp_all <;> omega),rfl⟩)
theorem Eh (c:Int) (w:World):Calls Tryz.prog 128 #[.int .u8 c] w fun e w'=>e = .returned (.bool (uu c))∧w=w':=by
 go_enter Tryz.func128,Tryz.ntmps128
 go_wp2
 all_goals (go_ret;exact ⟨aD (by unfold uu;simp_all),rfl⟩)
theorem Ob (c:Int) (w:World):Calls Tryz.prog 129 #[.int .u8 c] w fun e w'=>e = .returned (.bool (xD c))∧w=w':=by
 go_enter Tryz.func129,Tryz.ntmps129
 go_wp2
 all_goals (go_ret;exact ⟨aD (by unfold xD;simp_all),rfl⟩)
theorem Oc (c:Int) (w:World):Calls Tryz.prog 126 #[.int .u8 c] w fun e w'=>e = .returned (.bool (qR c))∧w=w':=by
 go_enter Tryz.func126,Tryz.ntmps126
 go_wp2_with (first
  | (go_at_call 124;refine (Bf _ _).mono ?_;rintro e w' ⟨rfl,rfl⟩)
  | (go_at_call 127;refine (zQ _ _).mono ?_;rintro e w' ⟨rfl,rfl⟩))
 all_goals (go_ret;exact ⟨aD (by unfold qR;simp_all),rfl⟩)
def o7 (p:Int→Bool) (l:List UInt8):Nat:=(l.takeWhile fun b=>p b.toNat).length
theorem Ey (p:Int→Bool) (l:List UInt8) (k:Nat) (hk:k<l.length) (h:∀ j (hj:j<k),p (l[j].toNat)=true) (hn:p (l[k].toNat)=false):o7 p l=k:=by
 induction l generalizing k with
 | nil=>simp at hk
 | cons b l ih =>
  cases k with
  | zero=>simp at hn;simp [o7,hn]
  | succ k =>
   have h0:=h 0 (by omega);simp at h0;have:=ih k (by simpa using hk) (fun j hj=>by have:=h (j+1) (by omega);simpa using this) (by simpa using hn);simp [o7,h0] at this ⊢;exact this
theorem Ei (p:Int→Bool) (l:List UInt8) (h:∀ j (hj:j<l.length),p (l[j].toNat)=true):o7 p l=l.length:=by
 induction l with
 | nil=>rfl
 | cons b l ih =>
  have h0:=h 0 (by simp);simp at h0;have:=ih (fun j hj=>by have:=h (j+1) (by simpa using hj);simpa using this);simp [o7,h0] at this ⊢;exact this
def Fg (p:Int→Bool) (s:ByteArray) (k:Nat):Prop:=∀ j (hj:j<s.size),j<k→p (s[j].toNat)=true
theorem Wp (s:ByteArray) (w:World) (hs:s.size≤1000000000):Calls Tryz.prog 125 #[.string s,.func (.func 126) #[] #[]] w fun e w'=>e = .returned (.int .i64 (o7 qR s.data.toList))∧w=w':=by
 go_enter Tryz.func125,Tryz.ntmps125
 go_wp2_with fail
 go_loop [8] (fun t=>∃ k:Nat,k≤s.size∧t = .int .i64 k∧Hid (Fg qR s k)) (fun t=>s.size - (intOf t).toNat)
 case atStart=>exact ⟨0,Nat.zero_le _,rfl,ł (fun j _ h=>by omega)⟩
 case round =>
  obtain ⟨k,hk,rfl,hu⟩:=hrel;by_cases hlt:k<s.size
  · by_cases hc:qR (s[k].toNat)=true
    · go_wp2_with fail;refine (Oc _ _).mono ?_;rintro e w' ⟨rfl,rfl⟩;go_wp2_with fail
      go_round
      case rel=>exact ⟨k+1,by omega,by go_num,ł (fun j hj h=>by
       rcases Nat.lt_or_ge j k with h1 | h1
       · exact hu.out j hj h1
       · obtain rfl:j=k:=by omega
         exact hc)⟩
      case measure=>simp [intOf];omega
    · have hc2:qR (s[k].toNat)=false:=by simpa using hc
      have HF:=ł (Ey qR s.data.toList k (by simpa using hlt) (fun j hj=>hu.out j (by omega) hj) hc2);go_wp2_with fail;refine (Oc _ _).mono ?_;rintro e w' ⟨rfl,rfl⟩;go_wp2_with fail;go_ret;exact ⟨gT (by rw [HF.out]),rfl⟩
  · have hge:s.size≤k:=by omega
    have HF:=ł (Ei qR s.data.toList (fun j hj=>hu.out j (by simpa using hj) (Nat.lt_of_lt_of_le (by simpa using hj) hge)));go_wp2_with fail;go_ret;exact ⟨gT (by rw [HF.out];simp),rfl⟩
theorem Wq (s:ByteArray) (w:World) (hs:s.size≤1000000000):Calls Tryz.prog 125 #[.string s,.func (.func 127) #[] #[]] w fun e w'=>e = .returned (.int .i64 (o7 rW s.data.toList))∧w=w':=by
 go_enter Tryz.func125,Tryz.ntmps125
 go_wp2_with fail
 go_loop [8] (fun t=>∃ k:Nat,k≤s.size∧t = .int .i64 k∧Hid (Fg rW s k)) (fun t=>s.size - (intOf t).toNat)
 case atStart=>exact ⟨0,Nat.zero_le _,rfl,ł (fun j _ h=>by omega)⟩
 case round =>
  obtain ⟨k,hk,rfl,hu⟩:=hrel;by_cases hlt:k<s.size
  · by_cases hc:rW (s[k].toNat)=true
    · go_wp2_with fail;refine (zQ _ _).mono ?_;rintro e w' ⟨rfl,rfl⟩;go_wp2_with fail
      go_round
      case rel=>exact ⟨k+1,by omega,by go_num,ł (fun j hj h=>by
       rcases Nat.lt_or_ge j k with h1 | h1
       · exact hu.out j hj h1
       · obtain rfl:j=k:=by omega
         exact hc)⟩
      case measure=>simp [intOf];omega
    · have hc2:rW (s[k].toNat)=false:=by simpa using hc
      have HF:=ł (Ey rW s.data.toList k (by simpa using hlt) (fun j hj=>hu.out j (by omega) hj) hc2);go_wp2_with fail;refine (zQ _ _).mono ?_;rintro e w' ⟨rfl,rfl⟩;go_wp2_with fail;go_ret;exact ⟨gT (by rw [HF.out]),rfl⟩
  · have hge:s.size≤k:=by omega
    have HF:=ł (Ei rW s.data.toList (fun j hj=>hu.out j (by simpa using hj) (Nat.lt_of_lt_of_le (by simpa using hj) hge)));go_wp2_with fail;go_ret;exact ⟨gT (by rw [HF.out];simp),rfl⟩
theorem Ws (s:ByteArray) (w:World) (hs:s.size≤1000000000):Calls Tryz.prog 125 #[.string s,.func (.func 128) #[] #[]] w fun e w'=>e = .returned (.int .i64 (o7 uu s.data.toList))∧w=w':=by
 go_enter Tryz.func125,Tryz.ntmps125
 go_wp2_with fail
 go_loop [8] (fun t=>∃ k:Nat,k≤s.size∧t = .int .i64 k∧Hid (Fg uu s k)) (fun t=>s.size - (intOf t).toNat)
 case atStart=>exact ⟨0,Nat.zero_le _,rfl,ł (fun j _ h=>by omega)⟩
 case round =>
  obtain ⟨k,hk,rfl,hu⟩:=hrel;by_cases hlt:k<s.size
  · by_cases hc:uu (s[k].toNat)=true
    · go_wp2_with fail;refine (Eh _ _).mono ?_;rintro e w' ⟨rfl,rfl⟩;go_wp2_with fail
      go_round
      case rel=>exact ⟨k+1,by omega,by go_num,ł (fun j hj h=>by
       rcases Nat.lt_or_ge j k with h1 | h1
       · exact hu.out j hj h1
       · obtain rfl:j=k:=by omega
         exact hc)⟩
      case measure=>simp [intOf];omega
    · have hc2:uu (s[k].toNat)=false:=by simpa using hc
      have HF:=ł (Ey uu s.data.toList k (by simpa using hlt) (fun j hj=>hu.out j (by omega) hj) hc2);go_wp2_with fail;refine (Eh _ _).mono ?_;rintro e w' ⟨rfl,rfl⟩;go_wp2_with fail;go_ret;exact ⟨gT (by rw [HF.out]),rfl⟩
  · have hge:s.size≤k:=by omega
    have HF:=ł (Ei uu s.data.toList (fun j hj=>hu.out j (by simpa using hj) (Nat.lt_of_lt_of_le (by simpa using hj) hge)));go_wp2_with fail;go_ret;exact ⟨gT (by rw [HF.out];simp),rfl⟩
theorem Xk (s:ByteArray) (w:World) (hs:s.size≤1000000000):Calls Tryz.prog 125 #[.string s,.func (.func 129) #[] #[]] w fun e w'=>e = .returned (.int .i64 (o7 xD s.data.toList))∧w=w':=by
 go_enter Tryz.func125,Tryz.ntmps125
 go_wp2_with fail
 go_loop [8] (fun t=>∃ k:Nat,k≤s.size∧t = .int .i64 k∧Hid (Fg xD s k)) (fun t=>s.size - (intOf t).toNat)
 case atStart=>exact ⟨0,Nat.zero_le _,rfl,ł (fun j _ h=>by omega)⟩
 case round =>
  obtain ⟨k,hk,rfl,hu⟩:=hrel;by_cases hlt:k<s.size
  · by_cases hc:xD (s[k].toNat)=true
    · go_wp2_with fail;refine (Ob _ _).mono ?_;rintro e w' ⟨rfl,rfl⟩;go_wp2_with fail
      go_round
      case rel=>exact ⟨k+1,by omega,by go_num,ł (fun j hj h=>by
       rcases Nat.lt_or_ge j k with h1 | h1
       · exact hu.out j hj h1
       · obtain rfl:j=k:=by omega
         exact hc)⟩
      case measure=>simp [intOf];omega
    · have hc2:xD (s[k].toNat)=false:=by simpa using hc
      have HF:=ł (Ey xD s.data.toList k (by simpa using hlt) (fun j hj=>hu.out j (by omega) hj) hc2);go_wp2_with fail;refine (Ob _ _).mono ?_;rintro e w' ⟨rfl,rfl⟩;go_wp2_with fail;go_ret;exact ⟨gT (by rw [HF.out]),rfl⟩
  · have hge:s.size≤k:=by omega
    have HF:=ł (Ei xD s.data.toList (fun j hj=>hu.out j (by simpa using hj) (Nat.lt_of_lt_of_le (by simpa using hj) hge)));go_wp2_with fail;go_ret;exact ⟨gT (by rw [HF.out];simp),rfl⟩
end
end Go.Proofs.YtnobahchcongnaaGreatDoor
namespace Go.Proofs
open Go.Shelf
def Tryz.UX:Go.Shelf.Ren:=⟨fun | 137=>137 | 217=>140 | 266=>141 | n=>n,fun | 9=>9 | 5=>5 | 3=>3 | n=>n,fun | n=>n⟩
theorem Tryz.Yi:Go.Proofs.Lays.n137 Tryz.prog Tryz.UX := {
 mixed:=by kernel_rfl
 f137:=Tryz.func137.trans (congrArg some (by kernel_rfl))
 f217:=Tryz.func140.trans (congrArg some (by kernel_rfl))
 f266:=Tryz.func141.trans (congrArg some (by kernel_rfl))
 t3:=Tryz.underlying3
 a3:=Tryz.isAgg3
 z3:=Tryz.sizeOf3
 v3:=Tryz.zeroValue3
 t5:=Tryz.underlying5
 a5:=Tryz.isAgg5
 z5:=Tryz.sizeOf5
 v5:=Tryz.zeroValue5
 t9:=Tryz.underlying9
 a9:=Tryz.isAgg9
 z9:=Tryz.sizeOf9
 v9:=Tryz.zeroValue9 }
open Go.RowKit in
theorem Tryz.strings_IndexByte (s:ByteArray) (c:Int) (w:World) :
 Calls Tryz.prog 137 #[.string s,.int .u8 c] w fun e w'=>e = .returned (.int .i64 (Lib.indexByte s.data.toList c.toNat.toUInt8))∧w'=w:=Any.strings_IndexByte Tryz.Yi s c w
def Tryz.lays215_ren:Go.Shelf.Ren:=⟨fun | 215=>96 | n=>n,fun | 3=>3 | 4=>4 | n=>n,fun | n=>n⟩
theorem Tryz.lays215:Go.Proofs.Lays.n215 Tryz.prog Tryz.lays215_ren := {
 mixed:=by kernel_rfl
 f215:=Tryz.func96.trans (congrArg some (by kernel_rfl))
 t3:=Tryz.underlying3
 a3:=Tryz.isAgg3
 z3:=Tryz.sizeOf3
 v3:=Tryz.zeroValue3
 t4:=Tryz.underlying4
 a4:=Tryz.isAgg4
 z4:=Tryz.sizeOf4
 v4:=Tryz.zeroValue4 }
open Go.RowKit in
theorem Tryz.cmp_isNaN_int (x:Int) (w:World) :
 Calls Tryz.prog 96 #[.int .i64 x] w fun e w'=>e = .returned (.bool false)∧w'=w:=Any.cmp_isNaN_int Tryz.lays215 x w
def Tryz.UY:Go.Shelf.Ren:=⟨fun | 122=>75 | 215=>96 | n=>n,fun | 3=>3 | 4=>4 | n=>n,fun | n=>n⟩
theorem Tryz.Yj:Go.Proofs.Lays.n122 Tryz.prog Tryz.UY := {
 mixed:=by kernel_rfl
 f122:=Tryz.func75.trans (congrArg some (by kernel_rfl))
 f215:=Tryz.func96.trans (congrArg some (by kernel_rfl))
 t3:=Tryz.underlying3
 a3:=Tryz.isAgg3
 z3:=Tryz.sizeOf3
 v3:=Tryz.zeroValue3
 t4:=Tryz.underlying4
 a4:=Tryz.isAgg4
 z4:=Tryz.sizeOf4
 v4:=Tryz.zeroValue4 }
open Go.RowKit in
theorem Tryz.cmp_Compare_int (x y:Int) (w:World) :
 Calls Tryz.prog 75 #[.int .i64 x,.int .i64 y] w fun e w'=>e = .returned (.int .i64 (Lib.compareInt x y))∧w'=w:=Any.cmp_Compare_int Tryz.Yj x y w
def Tryz.lays217_ren:Go.Shelf.Ren:=⟨fun | 217=>140 | 266=>141 | n=>n,fun | 9=>9 | 5=>5 | 3=>3 | n=>n,fun | n=>n⟩
theorem Tryz.lays217:Go.Proofs.Lays.n217 Tryz.prog Tryz.lays217_ren := {
 mixed:=by kernel_rfl
 f217:=Tryz.func140.trans (congrArg some (by kernel_rfl))
 f266:=Tryz.func141.trans (congrArg some (by kernel_rfl))
 t3:=Tryz.underlying3
 a3:=Tryz.isAgg3
 z3:=Tryz.sizeOf3
 v3:=Tryz.zeroValue3
 t5:=Tryz.underlying5
 a5:=Tryz.isAgg5
 z5:=Tryz.sizeOf5
 v5:=Tryz.zeroValue5
 t9:=Tryz.underlying9
 a9:=Tryz.isAgg9
 z9:=Tryz.sizeOf9
 v9:=Tryz.zeroValue9 }
open Go.RowKit Go.Lib in
theorem Tryz.stringslite_IndexByte (s:ByteArray) (c:Int) (w:World) :
 Calls Tryz.prog 140 #[.string s,.int .u8 c] w fun e w'=>e = .returned (.int .i64 (Lib.indexByte s.data.toList c.toNat.toUInt8))∧w'=w:=Any.stringslite_IndexByte Tryz.lays217 s c w
def Tryz.lays206_ren:Go.Shelf.Ren:=⟨fun | 206=>139 | n=>n,fun | 9=>9 | 4=>4 | 3=>3 | n=>n,fun | n=>n⟩
theorem Tryz.lays206:Go.Proofs.Lays.n206 Tryz.prog Tryz.lays206_ren := {
 mixed:=by kernel_rfl
 f206:=Tryz.func139.trans (congrArg some (by kernel_rfl))
 t3:=Tryz.underlying3
 a3:=Tryz.isAgg3
 z3:=Tryz.sizeOf3
 v3:=Tryz.zeroValue3
 t4:=Tryz.underlying4
 a4:=Tryz.isAgg4
 z4:=Tryz.sizeOf4
 v4:=Tryz.zeroValue4
 t9:=Tryz.underlying9
 a9:=Tryz.isAgg9
 z9:=Tryz.sizeOf9
 v9:=Tryz.zeroValue9 }
open Go.RowKit Go.Lib in
theorem Tryz.stringslite_HasPrefix (s p:ByteArray) (w:World) :
 Calls Tryz.prog 139 #[.string s,.string p] w fun e w'=>e = .returned (.bool (Lib.hasPrefix s.data.toList p.data.toList))∧w'=w:=Any.stringslite_HasPrefix Tryz.lays206 s p w
def Tryz.Vs:Go.Shelf.Ren:=⟨fun | 99=>136 | 206=>139 | n=>n,fun | 9=>9 | 4=>4 | 3=>3 | n=>n,fun | n=>n⟩
theorem Tryz.YL:Go.Proofs.Lays.n99 Tryz.prog Tryz.Vs := {
 mixed:=by kernel_rfl
 f99:=Tryz.func136.trans (congrArg some (by kernel_rfl))
 f206:=Tryz.func139.trans (congrArg some (by kernel_rfl))
 t3:=Tryz.underlying3
 a3:=Tryz.isAgg3
 z3:=Tryz.sizeOf3
 v3:=Tryz.zeroValue3
 t4:=Tryz.underlying4
 a4:=Tryz.isAgg4
 z4:=Tryz.sizeOf4
 v4:=Tryz.zeroValue4
 t9:=Tryz.underlying9
 a9:=Tryz.isAgg9
 z9:=Tryz.sizeOf9
 v9:=Tryz.zeroValue9 }
open Go.RowKit Go.Lib in
theorem Tryz.strings_HasPrefix (s p:ByteArray) (w:World) :
 Calls Tryz.prog 136 #[.string s,.string p] w fun e w'=>e = .returned (.bool (Lib.hasPrefix s.data.toList p.data.toList))∧w'=w:=Any.strings_HasPrefix Tryz.YL s p w
end Go.Proofs
namespace Go.Proofs.YtnobahchcongnaaGreatDoor
end Go.Proofs.YtnobahchcongnaaGreatDoor
