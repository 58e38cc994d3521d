import Derived.Test.YtadecgbblajifaaGreatDoorE15
import Derived.Test.YtadecgbblajifaaGreatDoorE17
import Derived.IntWalk
set_option linter.unusedSimpArgs false
set_option linter.unusedVariables false
set_option maxRecDepth 100000
set_option maxHeartbeats 25600000
namespace Go.Proofs.YtadecgbblajifaaGreatDoor
end Go.Proofs.YtadecgbblajifaaGreatDoor
namespace Go.Proofs.YtadecgbblajifaaGreatDoor.DV
open Go
noncomputable section
def tyF (t:Nat):Option Ty:=aX (zz zA .e) t
def Cs:Cx:=⟨tyF,dL,λ_=>none,λ_=>false,λ_ _=>none,λf az d=>Pure Tryz.prog dL f az d,λf az σ id d e=>kT Tryz.prog dL f az σ id d e⟩
theorem hT:cZ Tryz.prog Cs.T:=JF
theorem hC:jH Tryz.prog Cs:=⟨λ_ _ _ h=>by simp[Cs]at h,λ_ _ _ h=>h,JF,λ_ _ h=>by simp[Cs]at h,λ_ _ _ _ _ h=>by simp[Cs]at h,λ_ _ _ _ _ _ h=>h⟩
theorem ak.ar {s:Nat} {ds:List D} (h:∀ d∈ds,ak d):ak (.ar s ds) := .of (.ar (.fz h))
theorem ak.bZ:ak .bZ:=λ_ _ _ _ _ H=>by simpa only[CR]using H
theorem hG (i:Nat):ak (Cs.gl i):=by
 show ak (dL i)
 unfold dL
 split
 · exact .fp (.ar (by simp[ak.lf]))
 · refine .fp (.ar ?_)
   intro d hd
   simp only[List.mem_cons,List.not_mem_nil,or_false]at hd
   rcases hd with rfl|rfl|rfl|rfl|rfl|rfl|rfl|rfl|rfl|rfl|rfl|rfl|rfl|rfl|rfl|rfl|rfl|rfl|rfl|rfl|rfl|rfl|rfl|rfl|rfl|rfl|rfl|rfl|rfl|rfl|rfl|rfl|rfl|rfl|rfl <;> exact .st (by simp[ak.lf])
 · exact .bZ
abbrev sD (s:ByteArray):D := .lf (.string s)
abbrev iD (x:Int):D := .lf (.int .i64 x)
abbrev nD (x:Nat):D := .lf (.int .i64 (.ofNat x))
abbrev uD (x:Int):D := .lf (.int .u8 x)
abbrev bD (x:Bool):D := .lf (.bool x)
def iW (v:aT):D := .st [1,1,1] [sD v.name,uD v.kind,iD v.len]
def kg (v:aI):D := .st [1,1,1,1] [sD v.name,uD v.kind,iD v.len,iD v.at']
def wK (v:Ins):D := .st [1,1,1,1,1] [uD v.op,iD v.a,iD v.b,iD v.c,iD v.d]
def om (v:cB):D := .st [1,1] [iD v.at',sD v.name]
abbrev qf (l:List aT):D := .sl false 3 (l.map iW)
abbrev vN (l:List aI):D := .sl false 4 (l.map kg)
abbrev Bh (l:List Ins):D := .sl false 5 (l.map wK)
abbrev Bi (l:List cB):D := .sl false 2 (l.map om)
abbrev nP (l:List aI) (a b:Int):D := .st [1,1,1] [vN l,iD a,iD b]
abbrev yu (l:List Ins) (k:List cB):D := .st [1,1] [Bh l,Bi k]
abbrev gJ (o:aO):D := .st [1,1,3,2] [sD o.name,qf o.params,nP o.slots o.cells o.stacks,yu o.code o.refs]
theorem EC (v:aT):ak (iW v) := .st (by simp[ak.lf])
theorem abq (v:aI):ak (kg v) := .st (by simp[ak.lf])
theorem ace (v:Ins):ak (wK v) := .st (by simp[ak.lf])
theorem acf (v:cB):ak (om v) := .st (by simp[ak.lf])
theorem iN (l:List aT):ak (qf l) := .row EC l
theorem iL (l:List aI):ak (vN l) := .row abq l
theorem jS (l:List Ins):ak (Bh l) := .row ace l
theorem jm (l:List cB):ak (Bi l) := .row acf l
theorem r9 (l:List aI) (a b:Int):ak (nP l a b) := .st (by simp[ak.lf,iL])
theorem aaC (l:List Ins) (k:List cB):ak (yu l k) := .st (by simp[jS,jm])
theorem aZ (o:aO):ak (gJ o) := .st (by simp[ak.lf,iN,r9,aaC])
theorem o7 {i n:Nat} (h:i<n) (hn:n<=9223372036854775807):IntKind.i64.wrap (Int.ofNat i+1)=Int.ofNat (i+1):=by
 rw[Go.IntWalk.i64_in _ ⟨by simp;omega,by simp;omega⟩];rfl
end
end Go.Proofs.YtadecgbblajifaaGreatDoor.DV
namespace Go.Proofs.YtadecgbblajifaaGreatDoor
end Go.Proofs.YtadecgbblajifaaGreatDoor
namespace Go.Proofs.YtadecgbblajifaaGreatDoor.DV
open Go
def qP (o:aO):Bool:=(decide ((o.params.length:Int) > 10) || (decide ((o.slots.length:Int) > 20) || (decide ((o.code.length:Int) > 300) || (decide ((o.refs.length:Int) > 30) || decide ((o.name.size:Int) > 40))))) || (o.params.any (λv=>decide ((v.name.size:Int) > 40)) || (o.slots.any (λv=>decide ((v.name.size:Int) > 40)) || o.refs.any λv=>decide ((v.name.size:Int) > 40)))
def oq {α:Type} (p:α->Bool) (l:List α) (i:Nat):Prop:=i<=l.length/\∀ j,j<i->∀ x,l[j]? = some x->p x=false
theorem oq.zero {α:Type} (p:α->Bool) (l:List α):oq p l 0:=⟨Nat.zero_le _,λj hj=>by omega⟩
theorem oq.succ {α:Type} {p:α->Bool} {l:List α} {i:Nat} {x:α} (h:oq p l i) (hx:l[i]? = some x) (hp:p x=false):oq p l (i+1):=by
 have hi:=(List.getElem?_eq_some_iff.1 hx).1
 refine⟨hi,λj hj y hy => ?_⟩
 rcases Nat.lt_or_ge j i with h1|h1
 · exact h.2 j h1 y hy
 · have:j=i:=by omega
   subst this
   rw[hx]at hy
   simp only[Option.some.injEq]at hy
   rw[← hy];exact hp
theorem oq.all {α:Type} {p:α->Bool} {l:List α} {i:Nat} (h:oq p l i) (hi:¬ i<l.length):l.any p=false:=by
 rw[List.any_eq_false]
 intro x hx
 obtain⟨j,hj,rfl⟩:=List.getElem_of_mem hx
 have:=h.2 j (by omega) _ (List.getElem?_eq_getElem hj)
 simp[this]
theorem El {α:Type} {p:α->Bool} {l:List α} {i:Nat} {x:α} (hx:l[i]? = some x) (hp:p x=true):l.any p=true:=List.any_eq_true.2 ⟨x,List.mem_of_getElem? hx,hp⟩
theorem nQ {α:Type} {f:α->D} {l:List α} {i:Nat} {x:α} (hx:l[i]? = some x):(l.map f)[i]? = some (f x):=by rw[List.getElem?_map,hx];rfl
theorem Rn.eq {ρ:List (Nat × Nat)} {v u:Value} (h:v=u):Rn ρ (.lf v) (.lf u):=by subst h;exact Rn.lf _
theorem FR.eq {σ:au} {v u:Value} (h:v=u):FR σ (.lf v) (.lf u):=by subst h;exact FR.lf _
theorem aaD (o:aO) (h1:o.params.length<=9223372036854775807) (h2:o.slots.length<=9223372036854775807) (h3:o.refs.length<=9223372036854775807):Pure Tryz.prog dL 18 [gJ o] (bD (qP o)):=by
 refine vI (C:=Cs) hT Tryz.func18 rfl rfl rfl (by simp[aZ]) hG λB => ?_
 unfold Tryz.f18
 repeat' (first|apply bJ|apply bK|apply bL|apply bM|apply bN|apply bO rfl|apply bP rfl|apply bR|apply bQ|apply run_seq|apply bA|apply eB|apply bC|apply bF|apply bB|apply z0 hT rfl rfl rfl rfl|apply zk rfl rfl rfl|apply z1 hT rfl rfl rfl rfl|apply zs hT rfl rfl rfl|apply za hT rfl rfl rfl rfl|apply bE|((fail_if_success apply zw rfl);apply zg rfl <;> (intro hb;rw[hb]))|apply bS rfl|apply bT rfl|(apply bU rfl <;> (intro hb;try rw[hb]))|apply bG mixed hC|apply bH|apply d0 rfl rfl rfl rfl rfl (by kernel_rfl)|apply dk rfl rfl rfl rfl (by kernel_rfl)|apply d1 rfl rfl rfl rfl (by kernel_rfl) rfl (by kernel_rfl)|apply ds rfl rfl rfl (by kernel_rfl) rfl (by kernel_rfl)|((fail_if_success apply dw rfl);apply dg rfl <;> (intro hb;rw[hb])))
 iterate 5 exact jq rfl (FR.eq (by simp_all [qP]))
 refine nO (λi=>Z [(43,some (nD i)),(42,some (nD (o.params.map iW).length)),(41,some (qf o.params)),(1,some (.ref 0 []))] [(0,some (gJ o))] 1 78) (λi=>o.params.length - i) (oq (λv=>decide ((v.name.size:Int) > 40)) o.params) 0 (.zero _ _) (dP [(0,0)] rfl hG ?_ ?_) ?_
 · repeat' (first|exact trivial|apply And.intro|exact Rn.lf _|exact Rn.ref (.head _)|exact Rn.fz (iN _)|exact Rn.fz (iL _)|exact Rn.fz (jS _)|exact Rn.fz (jm _)|exact Rn.fz (aZ _))
 · exact⟨⟨0,_,.head _,rfl,Rn.fz (aZ _),rfl,rfl,λ_ h=>h⟩,trivial⟩
 intro i hi
 repeat' (first|apply bJ|apply bK|apply bL|apply bM|apply bN|apply bO rfl|apply bP rfl|apply bR|apply bQ|apply run_seq|apply bA|apply eB|apply bC|apply bF|apply bB|apply z0 hT rfl rfl rfl rfl|apply zk rfl rfl rfl|apply z1 hT rfl rfl rfl rfl|apply zs hT rfl rfl rfl|apply za hT rfl rfl rfl rfl|apply bE|((fail_if_success apply zw rfl);apply zg rfl <;> (intro hb;rw[hb]))|apply bS rfl|apply bT rfl|(apply bU rfl <;> (intro hb;try rw[hb]))|apply bG mixed hC|apply bH|apply d0 rfl rfl rfl rfl rfl (by kernel_rfl)|apply dk rfl rfl rfl rfl (by kernel_rfl)|apply d1 rfl rfl rfl rfl (by kernel_rfl) rfl (by kernel_rfl)|apply ds rfl rfl rfl (by kernel_rfl) rfl (by kernel_rfl)|((fail_if_success apply dw rfl);apply dg rfl <;> (intro hb;rw[hb])))
 · have hl:i<o.params.length:=by simpa using hb
   obtain⟨v,hv⟩:∃ v,o.params[i]? = some v:=⟨_,List.getElem?_eq_getElem hl⟩
   apply zi hT rfl rfl rfl rfl rfl rfl rfl rfl (nQ (f:=iW) hv) rfl
   repeat' (first|apply bJ|apply bK|apply bL|apply bM|apply bN|apply bO rfl|apply bP rfl|apply bR|apply bQ|apply run_seq|apply bA|apply eB|apply bC|apply bF|apply bB|apply z0 hT rfl rfl rfl rfl|apply zk rfl rfl rfl|apply z1 hT rfl rfl rfl rfl|apply zs hT rfl rfl rfl|apply za hT rfl rfl rfl rfl|apply bE|((fail_if_success apply zw rfl);apply zg rfl <;> (intro hb;rw[hb]))|apply bS rfl|apply bT rfl|(apply bU rfl <;> (intro hb;try rw[hb]))|apply bG mixed hC|apply bH|apply d0 rfl rfl rfl rfl rfl (by kernel_rfl)|apply dk rfl rfl rfl rfl (by kernel_rfl)|apply d1 rfl rfl rfl rfl (by kernel_rfl) rfl (by kernel_rfl)|apply ds rfl rfl rfl (by kernel_rfl) rfl (by kernel_rfl)|((fail_if_success apply dw rfl);apply dg rfl <;> (intro hb;rw[hb])))
   · have:=El (p:=λv=>decide ((v.name.size:Int) > 40)) hv (by simpa using hb)
     exact jq rfl (FR.eq (by simp_all [qP]))
   · refine nZ (i+1) (hi.succ hv (by simpa using hb)) (by omega) (dP [(0,0)] rfl hG ?_ ?_)
     · refine⟨Rn.eq ?_,?_⟩
       · rw[o7 hl h1]
       repeat' (first|exact trivial|apply And.intro|exact Rn.lf _|exact Rn.ref (.head _)|exact Rn.fz (iN _)|exact Rn.fz (iL _)|exact Rn.fz (jS _)|exact Rn.fz (jm _)|exact Rn.fz (aZ _))
     · exact⟨⟨0,_,.head _,rfl,Rn.fz (aZ _),rfl,rfl,λ_ h=>h⟩,trivial⟩
 have a56:=hi.all (by simpa using hb)
 refine nO (λi=>Z [(56,some (nD i)),(55,some (nD (o.slots.map kg).length)),(54,some (vN o.slots)),(1,some (.ref 0 []))] [(0,some (gJ o))] 1 78) (λi=>o.slots.length - i) (oq (λv=>decide ((v.name.size:Int) > 40)) o.slots) 0 (.zero _ _) (dP [(0,0)] rfl hG ?_ ?_) ?_
 · repeat' (first|exact trivial|apply And.intro|exact Rn.lf _|exact Rn.ref (.head _)|exact Rn.fz (iN _)|exact Rn.fz (iL _)|exact Rn.fz (jS _)|exact Rn.fz (jm _)|exact Rn.fz (aZ _))
 · exact⟨⟨0,_,.head _,rfl,Rn.fz (aZ _),rfl,rfl,λ_ h=>h⟩,trivial⟩
 clear hi hb
 intro i hi
 repeat' (first|apply bJ|apply bK|apply bL|apply bM|apply bN|apply bO rfl|apply bP rfl|apply bR|apply bQ|apply run_seq|apply bA|apply eB|apply bC|apply bF|apply bB|apply z0 hT rfl rfl rfl rfl|apply zk rfl rfl rfl|apply z1 hT rfl rfl rfl rfl|apply zs hT rfl rfl rfl|apply za hT rfl rfl rfl rfl|apply bE|((fail_if_success apply zw rfl);apply zg rfl <;> (intro hb;rw[hb]))|apply bS rfl|apply bT rfl|(apply bU rfl <;> (intro hb;try rw[hb]))|apply bG mixed hC|apply bH|apply d0 rfl rfl rfl rfl rfl (by kernel_rfl)|apply dk rfl rfl rfl rfl (by kernel_rfl)|apply d1 rfl rfl rfl rfl (by kernel_rfl) rfl (by kernel_rfl)|apply ds rfl rfl rfl (by kernel_rfl) rfl (by kernel_rfl)|((fail_if_success apply dw rfl);apply dg rfl <;> (intro hb;rw[hb])))
 · have hl:i<o.slots.length:=by simpa using hb
   obtain⟨v,hv⟩:∃ v,o.slots[i]? = some v:=⟨_,List.getElem?_eq_getElem hl⟩
   apply zi hT rfl rfl rfl rfl rfl rfl rfl rfl (nQ (f:=kg) hv) rfl
   repeat' (first|apply bJ|apply bK|apply bL|apply bM|apply bN|apply bO rfl|apply bP rfl|apply bR|apply bQ|apply run_seq|apply bA|apply eB|apply bC|apply bF|apply bB|apply z0 hT rfl rfl rfl rfl|apply zk rfl rfl rfl|apply z1 hT rfl rfl rfl rfl|apply zs hT rfl rfl rfl|apply za hT rfl rfl rfl rfl|apply bE|((fail_if_success apply zw rfl);apply zg rfl <;> (intro hb;rw[hb]))|apply bS rfl|apply bT rfl|(apply bU rfl <;> (intro hb;try rw[hb]))|apply bG mixed hC|apply bH|apply d0 rfl rfl rfl rfl rfl (by kernel_rfl)|apply dk rfl rfl rfl rfl (by kernel_rfl)|apply d1 rfl rfl rfl rfl (by kernel_rfl) rfl (by kernel_rfl)|apply ds rfl rfl rfl (by kernel_rfl) rfl (by kernel_rfl)|((fail_if_success apply dw rfl);apply dg rfl <;> (intro hb;rw[hb])))
   · have:=El (p:=λv=>decide ((v.name.size:Int) > 40)) hv (by simpa using hb)
     exact jq rfl (FR.eq (by simp_all [qP]))
   · refine nZ (i+1) (hi.succ hv (by simpa using hb)) (by omega) (dP [(0,0)] rfl hG ?_ ?_)
     · refine⟨Rn.eq ?_,?_⟩
       · rw[o7 hl h2]
       repeat' (first|exact trivial|apply And.intro|exact Rn.lf _|exact Rn.ref (.head _)|exact Rn.fz (iN _)|exact Rn.fz (iL _)|exact Rn.fz (jS _)|exact Rn.fz (jm _)|exact Rn.fz (aZ _))
     · exact⟨⟨0,_,.head _,rfl,Rn.fz (aZ _),rfl,rfl,λ_ h=>h⟩,trivial⟩
 have a69:=hi.all (by simpa using hb)
 refine nO (λi=>Z [(69,some (nD i)),(68,some (nD (o.refs.map om).length)),(67,some (Bi o.refs)),(1,some (.ref 0 []))] [(0,some (gJ o))] 1 78) (λi=>o.refs.length - i) (oq (λv=>decide ((v.name.size:Int) > 40)) o.refs) 0 (.zero _ _) (dP [(0,0)] rfl hG ?_ ?_) ?_
 · repeat' (first|exact trivial|apply And.intro|exact Rn.lf _|exact Rn.ref (.head _)|exact Rn.fz (iN _)|exact Rn.fz (iL _)|exact Rn.fz (jS _)|exact Rn.fz (jm _)|exact Rn.fz (aZ _))
 · exact⟨⟨0,_,.head _,rfl,Rn.fz (aZ _),rfl,rfl,λ_ h=>h⟩,trivial⟩
 clear hi hb
 intro i hi
 repeat' (first|apply bJ|apply bK|apply bL|apply bM|apply bN|apply bO rfl|apply bP rfl|apply bR|apply bQ|apply run_seq|apply bA|apply eB|apply bC|apply bF|apply bB|apply z0 hT rfl rfl rfl rfl|apply zk rfl rfl rfl|apply z1 hT rfl rfl rfl rfl|apply zs hT rfl rfl rfl|apply za hT rfl rfl rfl rfl|apply bE|((fail_if_success apply zw rfl);apply zg rfl <;> (intro hb;rw[hb]))|apply bS rfl|apply bT rfl|(apply bU rfl <;> (intro hb;try rw[hb]))|apply bG mixed hC|apply bH|apply d0 rfl rfl rfl rfl rfl (by kernel_rfl)|apply dk rfl rfl rfl rfl (by kernel_rfl)|apply d1 rfl rfl rfl rfl (by kernel_rfl) rfl (by kernel_rfl)|apply ds rfl rfl rfl (by kernel_rfl) rfl (by kernel_rfl)|((fail_if_success apply dw rfl);apply dg rfl <;> (intro hb;rw[hb])))
 · have hl:i<o.refs.length:=by simpa using hb
   obtain⟨v,hv⟩:∃ v,o.refs[i]? = some v:=⟨_,List.getElem?_eq_getElem hl⟩
   apply zi hT rfl rfl rfl rfl rfl rfl rfl rfl (nQ (f:=om) hv) rfl
   repeat' (first|apply bJ|apply bK|apply bL|apply bM|apply bN|apply bO rfl|apply bP rfl|apply bR|apply bQ|apply run_seq|apply bA|apply eB|apply bC|apply bF|apply bB|apply z0 hT rfl rfl rfl rfl|apply zk rfl rfl rfl|apply z1 hT rfl rfl rfl rfl|apply zs hT rfl rfl rfl|apply za hT rfl rfl rfl rfl|apply bE|((fail_if_success apply zw rfl);apply zg rfl <;> (intro hb;rw[hb]))|apply bS rfl|apply bT rfl|(apply bU rfl <;> (intro hb;try rw[hb]))|apply bG mixed hC|apply bH|apply d0 rfl rfl rfl rfl rfl (by kernel_rfl)|apply dk rfl rfl rfl rfl (by kernel_rfl)|apply d1 rfl rfl rfl rfl (by kernel_rfl) rfl (by kernel_rfl)|apply ds rfl rfl rfl (by kernel_rfl) rfl (by kernel_rfl)|((fail_if_success apply dw rfl);apply dg rfl <;> (intro hb;rw[hb])))
   · have:=El (p:=λv=>decide ((v.name.size:Int) > 40)) hv (by simpa using hb)
     exact jq rfl (FR.eq (by simp_all [qP]))
   · refine nZ (i+1) (hi.succ hv (by simpa using hb)) (by omega) (dP [(0,0)] rfl hG ?_ ?_)
     · refine⟨Rn.eq ?_,?_⟩
       · rw[o7 hl h3]
       repeat' (first|exact trivial|apply And.intro|exact Rn.lf _|exact Rn.ref (.head _)|exact Rn.fz (iN _)|exact Rn.fz (iL _)|exact Rn.fz (jS _)|exact Rn.fz (jm _)|exact Rn.fz (aZ _))
     · exact⟨⟨0,_,.head _,rfl,Rn.fz (aZ _),rfl,rfl,λ_ h=>h⟩,trivial⟩
 have a0:=hi.all (by simpa using hb)
 exact jq rfl (FR.eq (by simp_all [qP]))
end Go.Proofs.YtadecgbblajifaaGreatDoor.DV
namespace Go.Proofs.YtadecgbblajifaaGreatDoor
end Go.Proofs.YtadecgbblajifaaGreatDoor
namespace Go.Proofs.YtadecgbblajifaaGreatDoor.DV
open Go
theorem qN {w w':World} (h:Mv (λ_=>False) w w'):(∀ b,b<w.heap.size->w'.heap[b]? = w.heap[b]?)/\w.heap.size<=w'.heap.size/\Sm w w':=⟨λb hb=>h.block b hb (λh=>h),h.size,h.os,h.tape,h.output⟩
theorem abr (s:ByteArray) (hs:s.size<=9223372036854775807):Pure Tryz.prog dL 41 [sD s] (bD (dH s)):=Im _ (by kernel_rfl) λg w vs _ _ h=>by
 simp only[aC]at h
 obtain⟨v,vs',rfl,h1,rfl⟩:=h
 rw[dh h1]
 exact(DI s w hs).mono λe w' h=>⟨h.1,qN h.2⟩
end Go.Proofs.YtadecgbblajifaaGreatDoor.DV
namespace Go.Proofs.YtadecgbblajifaaGreatDoor
section
open Go.RowKit
theorem vT {W w1:World} (hb:Grow W w1):(∀ b o,b<W.heap.size->w1.cell? ⟨b,o,none⟩=W.cell? ⟨b,o,none⟩)/\(∀ b o,b<W.heap.size->w1.frozen? ⟨b,o,none⟩=W.frozen? ⟨b,o,none⟩) :=
 ⟨λb o h=>World.cell?_of_block (w:=W) (w':=w1) (a:=⟨b,o,none⟩) (hb.block b h (λh=>h)),λb o h=>by simp[World.frozen?,hb.block b h (λh=>h)]⟩
theorem IV (w:World) (cs:Array Value) (t:TypeId) (i:Nat):(w.alloc (.cells cs t)).cell? ⟨w.heap.size,i,none⟩=cs[i]? := by
 have h:=heap_alloc_new w (.cells cs t)
 simp only[World.cell?,h]
 rfl
theorem Oi (a b:ByteArray):(a.toList == b.toList)=(a == b):=by
 have h1:a.toList=a.data.toList:=ByteArray.toList_eq a
 have h2:b.toList=b.data.toList:=ByteArray.toList_eq b
 rw[h1,h2,bytes_beq]
 cases a with|mk x=>cases b with|mk y =>
 by_cases h:x=y
 · subst h;simp
 · have h3:¬ (⟨x⟩:ByteArray)=⟨y⟩:=λe=>h (by simpa using congrArg ByteArray.data e)
   have h4:¬ x.toList=y.toList:=λe=>h (Array.toList_inj.1 e)
   simp[h3,h]
end
section
open Go.RowKit
def mX (op:Int):Bool:=l9 op || ny op
theorem Oj (op:Int) (w:World):Calls Tryz.prog 84 #[.int .u8 op] w λe w'=>e = .returned (.bool (mX op))/\w=w':=by
 have HB:=Lib.hid (show mX op=(l9 op || ny op)from rfl)
 go_enter Tryz.func84,Tryz.ntmps84
 go_wp2_with fail
 refine(NH op _).mono ?_
 rintro e w' ⟨rfl,rfl⟩
 generalize l9 op=q at *
 cases q
 · go_wp2_with fail
   refine(Nc op _).mono ?_
   rintro e w' ⟨rfl,rfl⟩
   go_wp2_with fail
   go_ret
   exact⟨ax (by rw[HB.out];rfl),rfl⟩
 · go_wp2_with fail
   go_ret
   exact⟨ax (by rw[HB.out];rfl),rfl⟩
def sS (code:List Ins) (i:Nat):Bool :=
 match code[i]? with
 |none=>false
 |some x=>if x.target<0\/(code.length:Int)<=x.target then false else match code[x.target.toNat]? with
  |none=>false
  |some y=>if(l9 x.op && !ny y.op) || (ny x.op && !l9 y.op)then false else y.target == (i:Int)
theorem aB.ins {w:World} {b off len cap:Nat} {l:List Ins} (h:aB 5 Ins.cells w (.slice (some ⟨b,off,none⟩) len cap) l) {i:Nat} (hi:i<l.length) :
 (w.cell? ⟨b,off+i * 5,none⟩=some (.int .u8 l[i].op)/\w.cell? ⟨b,off+i * 5+1,none⟩=some (.int .i64 l[i].a)/\w.cell? ⟨b,off+i * 5+2,none⟩=some (.int .i64 l[i].b))/\w.cell? ⟨b,off+i * 5+3,none⟩=some (.int .i64 l[i].c)/\w.cell? ⟨b,off+i * 5+4,none⟩=some (.int .i64 l[i].d)/\b<w.heap.size:=by
 have hc:=h.at' hi
 have c0:=hc 0 _ rfl
 exact⟨⟨c0,hc 1 _ rfl,hc 2 _ rfl⟩,hc 3 _ rfl,hc 4 _ rfl,World.block_lt_of_cell? w _ c0⟩
set_option maxRecDepth 100000 in
set_option maxHeartbeats 3200000 in
theorem Xv (v:Value) (l:List Ins) (i:Nat) (w:World) (h:aB 5 Ins.cells w v l) (hi:i<l.length):Calls Tryz.prog 85 #[v,.int .i64 i] w λe w'=>e = .returned (.bool (sS l i))/\Grow w w':=by
 obtain⟨a,cap,rfl,hcap,hlen⟩:=h.form
 obtain⟨b,off,cap',e,_,_⟩:=h.at hi
 simp only[Value.slice.injEq,true_and]at e
 obtain⟨rfl,rfl⟩:=e
 obtain⟨⟨c0,c1,c2⟩,c3,c4,hbl⟩:=h.ins hi
 have HR:=Lib.hid h
 have HB:=Lib.hid (show sS l i=(if l[i].target<0\/(l.length:Int)<=l[i].target then false else match l[l[i].target.toNat]? with
  |none=>false
  |some y=>if(l9 l[i].op && !ny y.op) || (ny l[i].op && !l9 y.op)then false else y.target == (i:Int))from by simp[sS,hi])
 have HT:=Lib.hid (Ib l[i] w)
 generalize hx:l[i]=x at *
 obtain⟨xo,xa,xb,xc,xd⟩:=x
 simp only at c0 c1 c2 c3 c4
 clear h hx
 go_enter Tryz.func85,Tryz.ntmps85
 go_wp2_with fail
 refine HT.out.mono ?_
 rintro e w1 ⟨rfl,hm1⟩
 obtain⟨hc1,hf1⟩:=vT hm1
 have hs1:=hm1.size
 have uF:=Lib.hid hm1
 generalize Ins.target ⟨xo,xa,xb,xc,xd⟩=t at *
 generalize Ins.Fb ⟨xo,xa,xb,xc,xd⟩=am at *
 have d0:w1.cell? ⟨b,off+i * 5,none⟩=some (.int .u8 xo):=by rw[hc1 _ _ hbl];exact c0
 clear hm1 hc1 hf1 c0 c1 c2 c3 c4
 by_cases ht0:t<0
 · go_wp2_with fail
   go_ret
   exact⟨ax (by rw[HB.out,if_pos (.inl ht0)]),uF.out⟩
 · by_cases htl:(l.length:Int)<=t
   · have hd1:decide (t<0)=false:=by simpa using ht0
     go_wp2_with fail
     go_ret
     exact⟨ax (by rw[HB.out,if_pos (.inr htl)]),uF.out⟩
   · obtain⟨k,rfl⟩:∃ k:Nat,t=k:=⟨t.toNat,by omega⟩
     have hkl:k<l.length:=by omega
     obtain⟨⟨e0,e1,e2⟩,e3,e4,agK⟩:=(HR.out.later uF.out).ins hkl
     have HB2:=Lib.hid (show sS l i=(if(l9 xo && !ny l[k].op) || (ny xo && !l9 l[k].op)then false else l[k].target == (i:Int))from by
      rw[HB.out,if_neg (by omega)];simp[hkl])
     have HT2:=Lib.hid (λw=>Ib l[k] w)
     generalize hy:l[k]=y at *
     obtain⟨yo,ya,yb,yc,yd⟩:=y
     simp only at e0 e1 e2 e3 e4
     clear hy
     clear ht0 htl
     cases VC:l9 xo <;> cases VD:ny yo <;> cases hlx:ny xo <;> cases VE:l9 yo
     all_goals
      go_wp2_with (first
       |(go_at_call 126;refine(NH _ _).mono ?_;rintro e w' ⟨rfl,rfl⟩)
       |(go_at_call 127;refine(Nc _ _).mono ?_;rintro e w' ⟨rfl,rfl⟩)
       |fail)
      first
       |(go_ret;exact⟨ax (by rw[HB2.out,VC,VD,hlx,VE];rfl),uF.out.alloc _⟩)
       |(refine(HT2.out _).mono ?_;rintro e w2 ⟨rfl,hm2⟩;have rR:=Lib.hid hm2;clear hm2;go_wp2_with fail;go_ret;exact⟨ax (by rw[HB2.out,VC,VD,hlx,VE];rfl),Mv.trans (uF.out.alloc _) rR.out (λ_ e=>e.elim)⟩)
end
end Go.Proofs.YtadecgbblajifaaGreatDoor
