import Derived.Test.YtbpodipdfohikaaGreatK05
import Derived.Orders
import Derived.Deep.RegionHeld
import Derived.OrdersIn
import Derived.TacticsInMore
set_option linter.unusedSimpArgs false
set_option linter.unusedVariables false
set_option maxRecDepth 100000
set_option maxHeartbeats 25600000
namespace Go.Proofs.YtbpodipdfohikaaGreat
section
open Go.RowKit Go.Instr
structure sM where
 slots:List pE
 cells:Int
 stacks:Int
abbrev pE.val (s:pE):Value := .agg #[.string s.name,.int .u8 s.kind,.int .i64 s.len,.int .i64 s.at']
structure Ha (w:World) (sv:Value) (f:sM):Prop where
 row:ay 4 pE.cells w sv f.slots
theorem Ha.later {w w':World} {sv:Value} {f:sM} (h:Ha w sv f) (hm:Grow w w'):Ha w' sv f:=⟨h.row.later hm⟩
def Yi (name:ByteArray) (kind:Int) (s:pE):Bool:=s.name == name && s.kind == kind
def qH (f:sM) (name:ByteArray) (kind:Int):Option pE:=f.slots.find? (Yi name kind)
def noSlot:pE:=⟨⟨#[]⟩,0,0,0⟩
theorem EL (a b:ByteArray):(a.toList == b.toList)=(a == b):=by
 by_cases h:a=b
 · subst h;simp
 · have h2:(a == b)=false:=by simpa using h
   rw[h2]
   rw[beq_eq_false_iff_ne]
   intro e
   exact h (by
    cases a with|mk x=>cases b with|mk y =>
    rw[ByteArray.toList_eq,ByteArray.toList_eq]at e
    simp at e
    rw[e])
theorem dH {w:World} {X:Nat} {a b c d:Value} {t:TypeId} (h:w.heap[X]? = some (.cells #[a,b,c,d] t (0,0))) (p q r s:Value) :
 ((((w.setCell ⟨X,0,none⟩ p).setCell ⟨X,1,none⟩ q).setCell ⟨X,2,none⟩ r).setCell ⟨X,3,none⟩ s).heap[X]? = some (.cells #[p,q,r,s] t (0,0))/\Mv (λb=>b=X) w ((((w.setCell ⟨X,0,none⟩ p).setCell ⟨X,1,none⟩ q).setCell ⟨X,2,none⟩ r).setCell ⟨X,3,none⟩ s):=by
 constructor
 · have h1:=block_setCell (p:=⟨X,0,none⟩) h rfl p
   have h2:=block_setCell (p:=⟨X,1,none⟩) h1 rfl q
   have h3:=block_setCell (p:=⟨X,2,none⟩) h2 rfl r
   have h4:=block_setCell (p:=⟨X,3,none⟩) h3 rfl s
   simpa using h4
 · exact((((Mv.refl (λb=>b=X) w).setCell (p:=⟨X,0,none⟩) (.inl rfl) _).setCell (p:=⟨X,1,none⟩) (.inl rfl) _).setCell (p:=⟨X,2,none⟩) (.inl rfl) _).setCell (p:=⟨X,3,none⟩) (.inl rfl) _
theorem bB {w:World} {X:Nat} {c:Array Value} {t:TypeId} (h:w.heap[X]? = some (.cells c t (0,0))) (i:Nat):w.frozen? ⟨X,i,none⟩=false:=by simp[World.frozen?,h]
structure bC where
 name:ByteArray
 params:List au
 body:Tree
structure aN where
 name:ByteArray
 params:List au
 pv:Value
 body:ae
def aN.d (p:aN):bC:=⟨p.name,p.params,p.body.t⟩
def aN.cells (p:aN):List Value := .string p.name :: p.pv :: p.body.cells
def aN.val:aN->Value
 |⟨s,_,pv,.mk k n bs kv _⟩ => .agg #[.string s,pv,.int .u8 k,.int .i64 n,.string bs,kv]
structure zQ (w:World) (p:aN):Prop where
 name:p.name.size<=9223372036854775807
 params:ay 3 au.cells w p.pv p.params
 body:bD w p.body
theorem zQ.later {w w':World} {p:aN} (h:zQ w p) (hm:Grow w w'):zQ w' p:=⟨h.name,h.params.later hm,h.body.later hm⟩
structure uT (w:World) (v:Value) (l:List aN):Prop where
 row:ay 6 aN.cells w v l
 each:∀ p∈l,zQ w p
theorem uT.later {w w':World} {v:Value} {l:List aN} (h:uT w v l) (hm:Grow w w'):uT w' v l:=⟨h.row.later hm,λp hp=>(h.each p hp).later hm⟩
theorem zQ.form {w:World} {n:ByteArray} {p:List au} {pv:Value} {b:ae} (h:zQ w ⟨n,p,pv,b⟩):∃ a c,pv = .slice a p.length c/\p.length<=c/\p.length<=9223372036854775807:=h.params.form
theorem Ch {w:World} {X:Nat} {a0 a1 a2 a3 a4 a5:Value} {t:TypeId} (h:w.heap[X]? = some (.cells #[a0,a1,a2,a3,a4,a5] t (0,0))) (b0 b1 b2 b3 b4 b5:Value) :
 ((((((w.setCell ⟨X,0,none⟩ b0).setCell ⟨X,1,none⟩ b1).setCell ⟨X,2,none⟩ b2).setCell ⟨X,3,none⟩ b3).setCell ⟨X,4,none⟩ b4).setCell ⟨X,5,none⟩ b5).heap[X]? = some (.cells #[b0,b1,b2,b3,b4,b5] t (0,0)) /\
 Mv (λb=>b=X) w ((((((w.setCell ⟨X,0,none⟩ b0).setCell ⟨X,1,none⟩ b1).setCell ⟨X,2,none⟩ b2).setCell ⟨X,3,none⟩ b3).setCell ⟨X,4,none⟩ b4).setCell ⟨X,5,none⟩ b5):=by
 constructor
 · have h1:=block_setCell (p:=⟨X,0,none⟩) h rfl b0
   have h2:=block_setCell (p:=⟨X,1,none⟩) h1 rfl b1
   have h3:=block_setCell (p:=⟨X,2,none⟩) h2 rfl b2
   have h4:=block_setCell (p:=⟨X,3,none⟩) h3 rfl b3
   have h5:=block_setCell (p:=⟨X,4,none⟩) h4 rfl b4
   have h6:=block_setCell (p:=⟨X,5,none⟩) h5 rfl b5
   simpa using h6
 · exact((((((Mv.refl (λb=>b=X) w).setCell (p:=⟨X,0,none⟩) (.inl rfl) _).setCell (p:=⟨X,1,none⟩) (.inl rfl) _).setCell (p:=⟨X,2,none⟩) (.inl rfl) _).setCell (p:=⟨X,3,none⟩) (.inl rfl) _).setCell (p:=⟨X,4,none⟩) (.inl rfl) _).setCell (p:=⟨X,5,none⟩) (.inl rfl) _
theorem bI {w:World} {X:Nat} {c0 c1 c2 c3 c4 c5:Value} {t:TypeId} (h:w.heap[X]? = some (.cells #[c0,c1,c2,c3,c4,c5] t (0,0))):(w.cell? ⟨X,0,none⟩=some c0/\w.cell? ⟨X,1,none⟩=some c1/\w.cell? ⟨X,2,none⟩=some c2)/\w.cell? ⟨X,3,none⟩=some c3/\w.cell? ⟨X,4,none⟩=some c4/\w.cell? ⟨X,5,none⟩=some c5:=by
 simp[World.cell?,h]
end
section
open Go.RowKit
structure dQ where
 vars:List (au × Nat)
 locals:Nat
structure ai where
 cells:List (List Int)
 base:dQ
 calls:List dQ
 steps:Nat
def ai.cur (s:ai):dQ:=match s.calls.getLast? with
 |some f=>f
 |none=>s.base
def ai.setCur (s:ai) (f:dQ):ai:=if s.calls.length=0 then { s with base:=f }else { s with calls:=s.calls.set (s.calls.length - 1) f }
def bz:List (au × Nat)->ByteArray->Option (au × Nat)
 | [],_=>none
 |v :: l,n=>match bz l n with
  |some x=>some x
  |none=>if v.1.name == n then some v else none
def ai.look (s:ai) (n:ByteArray):Option (List Int):=(bz s.cur.vars n).map λv=>s.cells.getD v.2 []
def gL (look:ByteArray->Option (List Int)):Tree->Option (Int × Int)
 |.mk k n s l =>
  if k=1 then some (n,0)
  else if k=2 then match look s with
   |none=>some (0,6)
   |some c=>if c.length=1 then some (c.getD 0 0,0)else some (0,7)
  else if k=5 then match look s with
   |none=>some (0,6)
   |some c=>some (c.length,0)
  else if k=16 then match xg look l with
   | [some (x,e),some (y,f)]=>if e=0 then(if f=0 then some (if x=y then 1 else 0,0)else some (0,f))else some (0,e)
   |_=>none
  else none
where xg (look:ByteArray->Option (List Int)):List Tree->List (Option (Int × Int))
 | []=>[]
 |t :: l=>gL look t :: xg look l
def ai.val (s:ai) (t:Tree):Option (Int × Int):=if aJ t then gL s.look t else none
def aI {α β:Type} (x:Option (Except Int α)) (f:α->Option (Except Int β)):Option (Except Int β):=match x with
 |none=>none
 |some (.error e)=>some (.error e)
 |some (.ok a)=>f a
def ai.step (fuel:Nat) (s:ai):Except Int ai:=if fuel<=s.steps then .error 18 else .ok { s with steps:=s.steps+1 }
def ai.value (s:ai) (t:Tree):Option (Except Int Int):=match s.val t with
 |none=>none
 |some (v,e)=>if e=0 then some (.ok v)else some (.error e)
def ai.holds (fuel:Nat) (s:ai) (t:Tree):Option (Except Int (Bool × ai)) :=
 aI (some (s.step fuel)) λs=>aI (s.value t) λv=>some (.ok (v != 0,s))
def ai.open (s:ai) (n:ByteArray) (k x:Int):Except Int ai :=
 if(bz s.cur.vars n).isSome then .error 22
 else .ok { s.setCur ⟨s.cur.vars ++ [(⟨n,k,0⟩,s.cells.length)],s.cur.locals+1⟩with cells:=s.cells ++ [if k=1 then[x]else[]] }
def ai.close (s:ai) (n:ByteArray) (x:Int):Option (Except Int ai) :=
 if s.cur.locals=0 then some (.error 6)
 else match s.cur.vars.getLast? with
 |none=>none
 |some v =>
  if(v.1.name == n)=false then some (.error 6)
  else match s.cells[v.2]? with
  |none=>none
  |some c =>
   if(v.1.kind≠1/\v.1.kind≠3)\/(v.1.kind=1/\c.length=0)then none
   else if(v.1.kind=1/\c.getD 0 0≠x)\/(v.1.kind=3/\c.length≠0)then some (.error 16)
   else some (.ok (s.setCur ⟨s.cur.vars.dropLast,s.cur.locals - 1⟩))
def ai.args (s:ai):List au->List ByteArray->Except Int (List (au × Nat))
 |v :: vs,a :: bs=>match bz s.cur.vars a with
  |none => .error 6
  |some u=>if u.1.kind=v.kind/\u.1.len=v.len then(match s.args vs bs with
   |.ok l => .ok ((v,u.2) :: l)
   |.error e => .error e)else .error 7
 |_,_ => .ok []
def ai.enter (s:ai) (ps:List au) (bs:List ByteArray):Except Int ai :=
 if ps.length≠bs.length then .error 7
 else match s.args ps bs with
 |.error e => .error e
 |.ok l=>if 100<=s.calls.length then .error 19 else .ok { s with calls:=s.calls ++ [⟨l,0⟩] }
def ai.leave (s:ai):Except Int ai :=
 if s.calls.length=0\/s.cur.locals≠0 then .error 20 else .ok { s with calls:=s.calls.dropLast }
def ai.move (s:ai) (push:Bool) (n p:ByteArray):Option (Except Int ai) :=
 match bz s.cur.vars n with
 |none=>some (.error 6)
 |some u=>if u.1.kind≠3 then some (.error 7)else
  match bz s.cur.vars p with
  |none=>some (.error 6)
  |some v=>if v.1.kind≠1 then some (.error 7)else
   match s.cells[v.2]?,s.cells[u.2]? with
   |some [x],some c=>if u.2=v.2 then none
    else if push then(if 1000<=c.length then some (.error 5)else some (.ok { s with cells:=(s.cells.set u.2 (c ++ [x])).set v.2 [0] }))
    else if c.length=0 then some (.error 13)
    else if x≠0 then some (.error 14)
    else some (.ok { s with cells:=(s.cells.set u.2 c.dropLast).set v.2 [c.getLast?.getD 0] })
   |_,_=>none
inductive Task where
 |stmts (l:List Tree)
 |stmt (t:Tree)
 |round (t:Tree)
def jA (t:Tree) (i:Nat):Tree:=t.kids.getD i (.mk 0 0 ⟨#[]⟩ [])
def turned {α:Type} (b:Bool) (l:List α):List α:=if b then l.reverse else l
def firstT (t:Tree) (b:Bool):Tree:=if b then jA t (t.kids.length - 1)else jA t 0
def lastT (t:Tree) (b:Bool):Tree:=if b then jA t 0 else jA t (t.kids.length - 1)
def exec (P:List bC) (fuel:Nat):Nat->Task->Bool->ai->Option (Except Int ai)
 |0,_,_,_=>none
 |_+1,.stmts [],_,s=>some (.ok s)
 |g+1,.stmts (t :: r),b,s=>aI (exec P fuel g (.stmt t) b s) λs=>exec P fuel g (.stmts r) b s
 |g+1,.round t,b,s =>
  aI (exec P fuel g (.stmts (turned b (jA t 1).kids)) b s) λs =>
  aI (s.holds fuel (lastT t b)) λx =>
  if x.1 then some (.ok x.2)else
  aI (exec P fuel g (.stmts (turned b (jA t 2).kids)) b x.2) λs =>
  aI (s.holds fuel (firstT t b)) λy =>
  if y.1 then some (.error 15)else exec P fuel g (.round t) b y.2
 |g+1,.stmt t,b,s =>
  if aW t=false then none
  else if t.kind=53 then
   aI (s.holds fuel (firstT t b)) λx =>
   if x.1 then exec P fuel g (.round t) b x.2 else some (.error 15)
  else if t.kind=54 then
   aI (some (s.step fuel)) λs =>
   aI (s.value (firstT t b)) λv =>
   aI (some (s.open t.name 1 v)) λs =>
   aI (exec P fuel g (.stmts (turned b (jA t 1).kids)) b s) λs =>
   aI (some (s.step fuel)) λs =>
   aI (s.value (lastT t b)) λv=>s.close t.name v
  else if t.kind=55 then
   aI (some (s.step fuel)) λs =>
   aI (some (s.open t.name 3 0)) λs =>
   aI (exec P fuel g (.stmts (turned b (jA t 0).kids)) b s) λs =>
   aI (some (s.step fuel)) λs=>s.close t.name 0
  else if t.kind=50\/t.kind=51 then
   match P.find? (λp=>p.name == t.name)with
   |none=>none
   |some p =>
    aI (some (s.step fuel)) λs =>
    aI (some (s.enter p.params (t.kids.map Tree.name))) λs =>
    aI (exec P fuel g (.stmts (turned (b != (t.kind == 51)) p.body.kids)) (b != (t.kind == 51)) s) λs =>
    aI (some (s.step fuel)) λs=>some s.leave
  else if(t.kind=44\/t.kind=45)/\(jA t 0).kind=2 then
   aI (some (s.step fuel)) λs=>s.move (b != (t.kind == 44)) t.name (jA t 0).name
  else none
def Closed (ops:Array Oper) (L:Array Bool):Prop:=L.size=ops.size/\∀ (j:Nat) (o:Oper),ops[j]? = some o->L.getD j false=true->∀ e∈o.after,Region.binds .any e=true->L.getD e.on false=true
section
variable {P:Program} {pre:List Oper} {o:Oper} {Q:Exit->Act->World->Prop}
theorem Closed.set {L:Array Bool} {i:Nat} (hc:Closed (pre ++ [o]).toArray L) (hr:i∈Region.ready .any (pre ++ [o]).toArray L):Closed (pre ++ [o]).toArray (L.setIfInBounds i true):=by
 refine⟨by simpa using hc.1,λj oj hj hl e he hb => ?_⟩
 by_cases hij:i=j
 · subst hij
   obtain⟨_,ox,hox,hall⟩:=mem_ready.1 hr
   rw[hj]at hox;cases hox
   exact getD_set_true (hall e he hb)
 · rw[getD_set_ne false hij]at hl
   exact getD_set_true (hc.2 j oj hj hl e he hb)
end
def oV (P:Program) (R:Value->World->Prop):Result Next->Prop
 |.ok (.value v) w'=>R v w'
 |.ok .skip w'=>R undef w'
 |.ok (.enter f args) w'=>Calls P f args w' λe w''=>∃ v,e = .returned v/\R v w''
 |.ok (.row row args) w'=>Rows P row args w' R
 |_=>False
def Gives (P:Program) (o:Oper) (a:Act) (w:World) (R:Value->World->Prop):Prop:=oV P R ((execOp a.eval o).run P w)
theorem Gives.mono {P:Program} {o:Oper} {a:Act} {w:World} {R R':Value->World->Prop} (h:Gives P o a w R) (hr:∀ v w',R v w'->R' v w'):Gives P o a w R':=by
 unfold Gives at h ⊢
 generalize (execOp a.eval o).run P w=r at *
 cases r with
 |ok n w' =>
  cases n <;> simp only[oV]at h ⊢
  case value v=>exact hr _ _ h
  case skip=>exact hr _ _ h
  case enter f args =>
   refine Calls.mono h λe w'' he => ?_
   obtain⟨v,rfl,hv⟩:=he
   exact⟨v,rfl,hr _ _ hv⟩
  case row row args=>exact Rows.mono h λv w'' hv=>hr _ _ hv
 |halt x w'=>exact h.elim
theorem Gives.wp {P:Program} {o:Oper} {a:Act} {w:World} {R:Value->World->Prop} {K:Act->World->Prop} {Q:Exit->Act->World->Prop} (h:Gives P o a w R) (hK:∀ v w',R v w'->K (a.put o.dst v) w'):o.wp P a w K Q:=by
 unfold Gives at h
 unfold Oper.wp
 generalize (execOp a.eval o).run P w=r at *
 cases r with
 |ok n w' =>
  cases n <;> simp only[oV,Oper.upon]at h ⊢
  case value v=>exact hK _ _ h
  case skip=>exact hK _ _ h
  case enter f args =>
   refine Calls.mono h λe w'' he => ?_
   obtain⟨v,rfl,hr⟩:=he
   exact hK _ _ hr
  case row row args=>exact Rows.mono h λv w'' hr=>hK _ _ hr
 |halt x w'=>exact h.elim
def MU (P:Program) (R:Value->World->Prop):Result Next->Prop
 |.ok (.round l f tmps assign body) w'=>RoundIn Fence.wide 0 P l f tmps assign body w' λe w''=>∃ v,e = .returned v/\R v w''
 |r=>oV P R r
def kC (P:Program) (o:Oper) (a:Act) (w:World) (R:Value->World->Prop):Prop:=MU P R ((execOp a.eval o).run P w)
theorem Gives.wide {P:Program} {o:Oper} {a:Act} {w:World} {R:Value->World->Prop} (h:Gives P o a w R):kC P o a w R:=by
 unfold Gives at h
 unfold kC
 generalize (execOp a.eval o).run P w=r at *
 cases r with
 |ok n w' =>
  cases n
  case round l f tmps assign body=>exact h.elim
  all_goals exact h
 |halt x w'=>exact h.elim
theorem Lr {n m:Nat} {P:Program} {l:Nat} {f:FuncId} {tmps:Array Value} {assign body:Code} {w:World} {R:Ending->World->Prop} (h:RoundIn Fence.wide n P l f tmps assign body w R):RoundIn Fence.wide m P l f tmps assign body w R :=
 ⟨h.1,λc cs _=>h.2 c cs (room_wide _)⟩
theorem kC.wpIn {P:Program} {o:Oper} {a:Act} {w:World} {R:Value->World->Prop} {K:Act->World->Prop} {Q:Exit->Act->World->Prop} {n:Nat} (h:kC P o a w R) (hK:∀ v w',R v w'->K (a.put o.dst v) w'):o.wpIn Fence.wide n P a w K Q:=by
 unfold kC at h
 refine⟨λ_ _=>trivial,?_⟩
 rw[Fence.wide_round,Oper.semAt_none]
 generalize (execOp a.eval o).run P w=r at *
 cases r with
 |ok n' w' =>
  cases n' <;> simp only[MU,oV,Oper.uponIn]at h ⊢
  case value v=>exact hK _ _ h
  case skip=>exact hK _ _ h
  case enter f args =>
   refine⟨λe=>by simp[Fence.wide]at e,callsIn_wide.2 (Calls.mono h λe w'' he => ?_)⟩
   obtain⟨v,rfl,hr⟩:=he
   exact hK _ _ hr
  case row row args =>
   refine⟨λe=>by simp[Fence.wide]at e,λc cs _ => ?_⟩
   obtain⟨v,w'',hr,s⟩:=h c cs
   exact⟨v,w'',hK _ _ hr,stepsIn_wide.2 s⟩
  case round l f tmps assign body =>
   refine⟨λe=>by simp[Fence.wide]at e,Lr (RoundIn.mono h λe w'' he => ?_)⟩
   obtain⟨v,rfl,hr⟩:=he
   exact hK _ _ hr
 |halt x w'=>exact h.elim
def dstsOf (ops:Array Oper):List (Option Tmp):=ops.toList.map (·.dst)
def bK (ops:Array Oper):List (List Nat):=ops.toList.map λo=>(o.after.toList.filter (Region.binds .any)).map (·.on)
def BO (o:Oper):Bool:=match o.op with
 |.select _ _=>false
 |_=>true
def tmpsOf (o:Oper):List Tmp:=o.op.operands.toList.filterMap fun | .tmp t=>some t|_=>none
def fI (N:Nat) (ops:Array Oper) (ds:List (Option Tmp)) (ws ns us:List (List Nat)):Bool :=
 (dstsOf ops == ds) && (bK ops == ws) && (List.range ops.size).all λi=>match ops[i]? with
  |none=>false
  |some o=>o.guard.isNone && BO o && ((ws.getD i []).all λj=>decide (j<i)) &&
   ((tmpsOf o).all λt=>(List.range ops.size).all λj=>(ds.getD j none != some t) || (ws.getD i []).contains j || (ws.getD j []).contains i || (i == j)) &&
   ((us.getD i []).all λk=>k == i || (ws.getD i []).contains k) &&
   ((List.range ops.size).all λj=>j == i || (ds.getD i none).isNone || ds.getD j none != ds.getD i none) &&
   (match ds.getD i none with|some d=>decide (d<N)|none=>true) &&
   ((ns.getD i []).all λj=>(ws.getD i []).contains j) && ((tmpsOf o).all λt=>(ws.getD i []).all λj=>(ds.getD j none != some t) || (ns.getD i []).contains j)
def aK (ds:List (Option Tmp)) (vs:Nat->Value):List Nat->Act->Act
 | [],a=>a
 |j :: r,a=>aK ds vs r (a.put (ds.getD j none) (vs j))
def upd (vs:Nat->Value) (i:Nat) (v:Value):Nat->Value:=λk=>if k=i then v else vs k
theorem Mk {ds:List (Option Tmp)} {vs:Nat->Value} {d:Option Tmp} {v:Value} : ∀ (js:List Nat) (a:Act),(∀ j∈js,∀ t,d=some t->ds.getD j none≠some t)->aK ds vs js (a.put d v)=(aK ds vs js a).put d v
 | [],a,_=>rfl
 |j :: r,a,h=>by
  simp only[aK]
  rw[Act.put_comm a v (vs j) (λt ht=>h j (by simp) t ht)]
  exact Mk r _ (λk hk=>h k (by simp[hk]))
theorem uP {ds:List (Option Tmp)} {vs us:Nat->Value} : ∀ (js:List Nat) (a:Act),(∀ j∈js,vs j=us j)->aK ds vs js a=aK ds us js a
 | [],a,_=>rfl
 |j :: r,a,h=>by
  simp only[aK]
  rw[h j (by simp)]
  exact uP r _ (λk hk=>h k (by simp[hk]))
theorem qB {ds:List (Option Tmp)} {vs:Nat->Value} {x:Operand} : ∀ (js:List Nat) (a:Act),(∀ j∈js,∀ t,ds.getD j none=some t->x ≠ .tmp t)->(aK ds vs js a).eval x=a.eval x
 | [],a,_=>rfl
 |j :: r,a,h=>by
  simp only[aK]
  rw[qB r _ (λk hk=>h k (by simp[hk]))]
  exact Act.eval_put (λt ht=>h j (by simp) t ht)
theorem eval_at {ds:List (Option Tmp)} {vs:Nat->Value} {t:Tmp} {j:Nat} : ∀ (js:List Nat) (a:Act),j∈js->ds.getD j none=some t->t<a.tmps.size->(∀ k∈js,ds.getD k none=some t->k=j)->(aK ds vs js a).eval (.tmp t)=vs j
 | [],a,h,_,_,_=>by cases h
 |k :: r,a,h,hd,hs,hu=>by
  simp only[aK]
  by_cases hr:j∈r
  · refine eval_at r _ hr hd ?_ (λk' hk'=>hu k' (by simp[hk']))
    cases ds.getD k none <;> simpa[Act.put]using hs
  · have hjk:j=k:=by
     rcases List.mem_cons.1 h with e|e
     · exact e
     · exact absurd e hr
    subst hjk
    rw[qB r _ (λk hk t' ht' e=>by
     simp only[Operand.tmp.injEq]at e
     subst e
     exact hr ((hu k (by simp[hk]) ht') ▸ hk))]
    rw[hd]
    simp[Act.eval,Act.put,hs]
def dI (n:Nat) (L:Array Bool):List Nat:=(List.range n).filter λj=>L.getD j false
theorem qN {n:Nat} {L:Array Bool} {j:Nat} : j∈dI n L↔j<n/\L.getD j false=true:=by simp[dI]
def iX (f:Nat->Oper->Prop):Nat->List Oper->Prop
 |_,[]=>True
 |i,o :: r=>f i o/\iX f (i+1) r
theorem wQ {f:Nat->Oper->Prop} : ∀ (l:List Oper) (k:Nat),iX f k l->∀ i o,l[i]? = some o->f (k+i) o
 | [],k,_,i,o,h=>by simp at h
 |x :: r,k,h,0,o,ho=>by simp at ho;subst ho;exact h.1
 |x :: r,k,h,i+1,o,ho=>by
  have:=wQ r (k+1) h.2 i o (by simpa using ho)
  rw[show k+(i+1)=k+1+i by omega];exact this
theorem zw {f g:Nat->Oper->Prop} (h:∀ i o,f i o->g i o):∀ (l:List Oper) (k:Nat),iX f k l->iX g k l
 | [],_,_=>trivial
 |x :: r,k,hs=>⟨h _ _ hs.1,zw h r (k+1) hs.2⟩
section
variable {P:Program} {ops:Array Oper} {Q:Exit->Act->World->Prop}
theorem Ml {ds:List (Option Tmp)} {vs:Nat->Value} {n i:Nat} {L:Array Bool} {v:Value} {a:Act} (hi:i<n) (hl:L.getD i false=false) (hsz:i<L.size) (hd:∀ j,j<n->j≠i->∀ t,ds.getD i none=some t->ds.getD j none≠some t) :
 aK ds (upd vs i v) (dI n (L.setIfInBounds i true)) a=(aK ds vs (dI n L) a).put (ds.getD i none) v:=by
 have key:∀ (js:List Nat) (a:Act),js.Nodup->(∀ j∈js,j<n)->i∈js->aK ds (upd vs i v) (js.filter λj=>(L.setIfInBounds i true).getD j false) a=(aK ds vs (js.filter λj=>L.getD j false) a).put (ds.getD i none) v:=by
  intro js
  induction js with
  |nil=>intro a _ _ h;cases h
  |cons j r ih =>
   intro a hnd hlt hm
   simp only[List.nodup_cons]at hnd
   have hrest:∀ (a:Act),i ∉ r->aK ds (upd vs i v) (r.filter λj=>(L.setIfInBounds i true).getD j false) a=aK ds vs (r.filter λj=>L.getD j false) a:=by
    intro a hir
    have e1:(r.filter λj=>(L.setIfInBounds i true).getD j false)=r.filter λj=>L.getD j false:=by
     apply List.filter_congr
     intro k hk
     exact getD_set_ne false (λe=>hir (e ▸ hk))
    rw[e1]
    exact uP _ _ (λk hk=>by
     have:k≠i:=λe=>hir (e ▸ (List.mem_filter.1 hk).1)
     simp[upd,this])
   by_cases hji:j=i
   · subst hji
     have hset:(L.setIfInBounds j true).getD j false=true:=by simp[hsz]
     rw[List.filter_cons,List.filter_cons,if_pos hset,if_neg (by simp[hl])]
     simp only[aK]
     rw[hrest _ hnd.1]
     have:upd vs j v j=v:=by simp[upd]
     rw[this]
     exact Mk _ _ (λk hk t ht=>hd k (hlt k (by simp[(List.mem_filter.1 hk).1])) (λe=>hnd.1 (e ▸ (List.mem_filter.1 hk).1)) t ht)
   · have hir:i∈r:=by
      rcases List.mem_cons.1 hm with e|e
      · exact absurd e.symm hji
      · exact e
     have e2:(L.setIfInBounds i true).getD j false=L.getD j false:=getD_set_ne false (λe=>hji e.symm)
     have e3:upd vs i v j=vs j:=by simp[upd,hji]
     by_cases hj:L.getD j false=true
     · rw[List.filter_cons,List.filter_cons,if_pos (by rw[e2];exact hj),if_pos hj]
       simp only[aK,e3]
       exact ih _ hnd.2 (λk hk=>hlt k (by simp[hk])) hir
     · rw[List.filter_cons,List.filter_cons,if_neg (by rw[e2];exact hj),if_neg hj]
       exact ih _ hnd.2 (λk hk=>hlt k (by simp[hk])) hir
 exact key (List.range n) a List.nodup_range (λj hj=>List.mem_range.1 hj) (List.mem_range.2 hi)
end
end
end Go.Proofs.YtbpodipdfohikaaGreat
