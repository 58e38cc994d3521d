import Derived.Test.YtnobahchcongnaaGreatDoorQ40
import Derived.Test.YtnobahchcongnaaGreatDoorQ43
set_option linter.unusedSimpArgs false
set_option linter.unusedVariables false
set_option maxRecDepth 100000
set_option maxHeartbeats 25600000
namespace Go.Proofs.YtnobahchcongnaaGreatDoor
open Go.RowKit Go.Instr
theorem MW {κ:Type} [BEq κ] [LawfulBEq κ] (k x:κ) (v:Value):∀ (l:List (κ × Value)) (i:Nat),(fT x (iN k v l) i).map (·.2)=if x == k then some v else (fT x l i).map (·.2)
 | [],i=>by
  simp only [iN,fT];split <;> simp
 | (a,y) :: l,i=>by
  simp only [iN];by_cases hk:k == a
  · have hka:k=a:=by simpa using hk
    subst hka;simp only [beq_self_eq_true,if_true,fT];split <;> simp
  · have hka:¬ k=a:=by simpa using hk
    simp only [hk,Bool.false_eq_true,if_false,fT];by_cases hx:x == a
    · have hxa:x=a:=by simpa using hx
      subst hxa;have:¬ x=k:=fun e=>hka e.symm;simp [this]
    · simp only [hx,Bool.false_eq_true,if_false];exact MW k x v l (i+1)
def yx (l:List bq):List (ByteArray × Value):=l.foldl (fun d v=>iN v.name (.bool true) d) []
theorem Iu (l:List bq) (s:ByteArray):(qQ (yx l) s).getD (.bool false) = .bool (l.any fun v=>v.name == s):=by
 have h:∀ (l:List bq) (d:List (ByteArray × Value)),(qQ (l.foldl (fun d v=>iN v.name (.bool true) d) d) s).getD (.bool false)=if (l.any fun v=>v.name == s) then .bool true else (qQ d s).getD (.bool false):=by
  intro l
  induction l with
  | nil=>intro d;simp
  | cons v l ih =>
   intro d;rw [List.foldl_cons,ih,List.any_cons];by_cases hl:l.any fun v=>v.name == s
   · simp [hl]
   · simp only [hl,Bool.or_false,if_false,Bool.false_eq_true];unfold qQ;rw [MW];by_cases hv:s=v.name
     · subst hv;simp
     · have hv':¬ v.name=s:=fun e=>hv e.symm;simp [hv,hv']
 rw [yx,h l []];cases l.any fun v=>v.name == s <;> simp [qQ,fT]
theorem VX (l:List bq) (j:Nat) (h:j<l.length):yx (l.take (j+1))=iN l[j].name (.bool true) (yx (l.take j)):=by
 rw [List.take_succ_eq_append_getElem h,yx,List.foldl_append];rfl
theorem Vd (l:List bq) (j:Nat) (h:j<l.length):frameC (l.take (j+1))=kR (frameC (l.take j)) l[j]:=by
 rw [List.take_succ_eq_append_getElem h,frameC,List.foldl_append];rfl
theorem XZ (l:List bq) (j:Nat) (h:j<l.length):tZ ((l.take j).map bq.name) (l.drop j)=(((l.take j).any fun v=>v.name == l[j].name) || tZ ((l.take (j+1)).map bq.name) (l.drop (j+1))):=by
 rw [List.drop_eq_getElem_cons h,tZ,List.take_succ_eq_append_getElem h,List.map_append,List.any_map];rfl
def addNode (f:az) (n:Tree):az :=
 if n.kind=54 then (if (au f n.name 1).isSome then f else kR f ⟨n.name,1,0⟩)
 else if n.kind=55 then (if (au f n.name 3).isSome then f else kR f ⟨n.name,3,0⟩) else f
def clash (vars:List bq) (n:Tree):Bool:=(n.kind == 54 || n.kind == 55) && vars.any (fun v=>v.name == n.name)
def xS (vars:List bq) (body:Tree):az:=(je body).foldl addNode (frameC vars)
def mJ (vars:List bq) (body:Tree):Int:=if jH vars && dw body then (if tZ [] vars then 22 else if (je body).any (clash vars) then 22 else 0) else 3
def OfG (w:World) (l:List bq) (b:Tree) (e:Ending) (w':World):Prop :=
 ∃ sv,e = .returned (.tuple #[.agg #[sv,.int .i64 (if mJ l b=0 then xS l b else gU).cells,.int .i64 (if mJ l b=0 then xS l b else gU).stacks],.int .i64 (mJ l b)])∧fF w' sv (if mJ l b=0 then xS l b else gU)∧Grow w w'
theorem oJ.more {m m':Nat} {f:az} (h:oJ m f) (hm:m≤m'):oJ m' f:=by
 obtain ⟨h1,h2,h3⟩:=h;exact ⟨by omega,by omega,fun s hs=>by have:=h3 s hs;omega⟩
theorem VY (f:az) (n:Tree) (m:Nat) (h:oJ m f∧f.slots.length≤m):oJ (m+1) (addNode f n)∧(addNode f n).slots.length≤m+1:=by
 have hl:∀ v,(kR f v).slots.length=f.slots.length+1:=fun v=>by unfold kR;split;simp;split <;> simp
 unfold addNode;split
 · split
   · exact ⟨h.1.more (by omega),by omega⟩
   · exact ⟨Hw f _ m h.1 rfl,by rw [hl];omega⟩
 · split
   · split
     · exact ⟨h.1.more (by omega),by omega⟩
     · exact ⟨Hw f _ m h.1 rfl,by rw [hl];omega⟩
   · exact ⟨h.1.more (by omega),by omega⟩
theorem MF:∀ (l:List Tree) (f:az) (m:Nat),oJ m f∧f.slots.length≤m→oJ (m+l.length) (l.foldl addNode f)∧(l.foldl addNode f).slots.length≤m+l.length
 | [],f,m,h=>h
 | n :: l,f,m,h=>by
  have:=MF l (addNode f n) (m+1) (VY f n m h);rw [show m+(n :: l).length=m+1+l.length from by rw [List.length_cons];omega];exact this
theorem Mg (l:List bq) (j:Nat) (hv:jH l=true):oJ 32 (frameC (l.take j))∧(frameC (l.take j)).slots.length≤32:=by
 simp only [jH,Bool.and_eq_true,decide_eq_true_eq] at hv;have h2:(l.take j).all bq.okB=true:=List.all_eq_true.2 fun v hvm=>List.all_eq_true.1 hv.2 v (List.mem_of_mem_take hvm);have h3:(l.take j).length≤32:=by rw [List.length_take];omega
 refine ⟨(Hl (l.take j) gU 0 ⟨by simp [gU],by simp [gU],by simp [gU]⟩ h2).more (by omega),?_⟩;rw [Mj];exact h3
mutual
theorem IW:∀ (t:Tree),(je t).length=aW t
 | .mk k n s l=>by
  have:=NK l;rw [je,aW,List.length_cons];omega
theorem NK:∀ (l:List Tree),(kW l).length=cu l
 | []=>by simp [kW,cu]
 | t :: l=>by
  have h1:=IW t;have h2:=NK l;rw [kW,cu,List.length_append];omega
end
def fu (vars:List bq) (ns:List Tree):az:=ns.foldl addNode (frameC vars)
theorem Iw (vars:List bq) (ns:List Tree) (n:Tree):fu vars (ns ++ [n])=addNode (fu vars ns) n:=by simp [fu]
theorem O4 (vars:List bq) (ns:List Tree) (hv:jH vars=true):oJ (32+ns.length) (fu vars ns)∧(fu vars ns).slots.length≤32+ns.length:=by
 have:=Mg vars vars.length hv;rw [List.take_length] at this;exact MF ns _ 32 this
theorem wR (ys:List (Value × ae)) (z:Value × ae):came (ys ++ [z])=came ys ++ [z.2.t]:=by simp [came]
end Go.Proofs.YtnobahchcongnaaGreatDoor
