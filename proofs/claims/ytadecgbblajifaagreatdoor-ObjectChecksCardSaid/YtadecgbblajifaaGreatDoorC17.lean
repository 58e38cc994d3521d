import Derived.Test.YtadecgbblajifaaGreatDoorC14
import Derived.Test.YtadecgbblajifaaGreatDoorC16
import Derived.IntWalk
set_option linter.unusedSimpArgs false
set_option linter.unusedVariables false
set_option maxRecDepth 100000
set_option maxHeartbeats 25600000
namespace Go.Proofs.YtadecgbblajifaaGreatDoor
end Go.Proofs.YtadecgbblajifaaGreatDoor
namespace Go.Proofs.YtadecgbblajifaaGreatDoor.DV
open Go
noncomputable section
def Pe (t:Nat):Option Ty:=aG (ql qm .e) t
def Cs:Cx:=⟨Pe,bB,λ_=>none,λ_=>false,λ_ _=>none,λf az d=>Pure Tryz.prog bB f az d,λf az σ id d e=>ER Tryz.prog bB f az σ id d e⟩
theorem hT:bZ Tryz.prog Cs.T:=yL
theorem hC:fM Tryz.prog Cs:=⟨λ_ _ _ h=>by simp[Cs]at h,λ_ _ _ h=>h,yL,λ_ _ h=>by simp[Cs]at h,λ_ _ _ _ _ h=>by simp[Cs]at h,λ_ _ _ _ _ _ h=>h⟩
theorem aF.ar {s:Nat} {ds:List D} (h:∀ d∈ds,aF d):aF (.ar s ds) := .of (.ar (.fz h))
theorem aF.aO:aF .aO:=λ_ _ _ _ _ H=>by simpa only[CR]using H
theorem hG (i:Nat):aF (Cs.gl i):=by
 show aF (bB i)
 unfold bB
 split
 · exact .fp (.ar (by simp[aF.lf]))
 · refine .fp (.ar ?_)
   intro d hd
   simp only[List.mem_cons,List.not_mem_nil,or_false]at hd
   rcases hd with rfl|rfl|rfl|rfl|rfl|rfl|rfl|rfl|rfl|rfl|rfl|rfl|rfl|rfl|rfl|rfl|rfl|rfl|rfl|rfl|rfl|rfl|rfl|rfl|rfl|rfl|rfl|rfl|rfl|rfl|rfl|rfl|rfl|rfl|rfl <;> exact .st (by simp[aF.lf])
 · exact .aO
abbrev sD (s:ByteArray):D := .lf (.string s)
abbrev iD (x:Int):D := .lf (.int .i64 x)
abbrev nD (x:Nat):D := .lf (.int .i64 (.ofNat x))
abbrev uD (x:Int):D := .lf (.int .u8 x)
abbrev bD (x:Bool):D := .lf (.bool x)
def fO (v:aH):D := .st [1,1,1] [sD v.name,uD v.kind,iD v.len]
def iN (v:ay):D := .st [1,1,1,1] [sD v.name,uD v.kind,iD v.len,iD v.at']
def pW (v:Ins):D := .st [1,1,1,1,1] [uD v.op,iD v.a,iD v.b,iD v.c,iD v.d]
def l7 (v:bC):D := .st [1,1] [iD v.at',sD v.name]
abbrev kR (l:List aH):D := .sl false 3 (l.map fO)
abbrev pz (l:List ay):D := .sl false 4 (l.map iN)
abbrev zo (l:List Ins):D := .sl false 5 (l.map pW)
abbrev uW (l:List bC):D := .sl false 2 (l.map l7)
abbrev jm (l:List ay) (a b:Int):D := .st [1,1,1] [pz l,iD a,iD b]
abbrev pE (l:List Ins) (k:List bC):D := .st [1,1] [zo l,uW k]
abbrev eP (o:aM):D := .st [1,1,3,2] [sD o.name,kR o.params,jm o.slots o.cells o.stacks,pE o.code o.refs]
theorem uX (v:aH):aF (fO v) := .st (by simp[aF.lf])
theorem MW (v:ay):aF (iN v) := .st (by simp[aF.lf])
theorem NJ (v:Ins):aF (pW v) := .st (by simp[aF.lf])
theorem NK (v:bC):aF (l7 v) := .st (by simp[aF.lf])
theorem fe (l:List aH):aF (kR l) := .row uX l
theorem eZ (l:List ay):aF (pz l) := .row MW l
theorem fZ (l:List Ins):aF (zo l) := .row NJ l
theorem gm (l:List bC):aF (uW l) := .row NK l
theorem lC (l:List ay) (a b:Int):aF (jm l a b) := .st (by simp[aF.lf,eZ])
theorem Mj (l:List Ins) (k:List bC):aF (pE l k) := .st (by simp[fZ,gm])
theorem aQ (o:aM):aF (eP o) := .st (by simp[aF.lf,fe,lC,Mj])
theorem mM {i n:Nat} (h:i<n) (hn:n<=9223372036854775807):IntKind.i64.wrap (Int.ofNat i+1)=Int.ofNat (i+1):=by
 rw[Go.IntWalk.i64_in _ ⟨by simp;omega,by simp;omega⟩];rfl
end
end Go.Proofs.YtadecgbblajifaaGreatDoor.DV
namespace Go.Proofs.YtadecgbblajifaaGreatDoor
end Go.Proofs.YtadecgbblajifaaGreatDoor
namespace Go.Proofs.YtadecgbblajifaaGreatDoor.DV
open Go
def nA (o:aM):Bool:=(decide ((o.params.length:Int) > 10) || (decide ((o.slots.length:Int) > 20) || (decide ((o.code.length:Int) > 300) || (decide ((o.refs.length:Int) > 30) || decide ((o.name.size:Int) > 40))))) || (o.params.any (λv=>decide ((v.name.size:Int) > 40)) || (o.slots.any (λv=>decide ((v.name.size:Int) > 40)) || o.refs.any λv=>decide ((v.name.size:Int) > 40)))
def jB {α:Type} (p:α->Bool) (l:List α) (i:Nat):Prop:=i<=l.length/\∀ j,j<i->∀ x,l[j]? = some x->p x=false
theorem jB.zero {α:Type} (p:α->Bool) (l:List α):jB p l 0:=⟨Nat.zero_le _,λj hj=>by omega⟩
theorem jB.succ {α:Type} {p:α->Bool} {l:List α} {i:Nat} {x:α} (h:jB p l i) (hx:l[i]? = some x) (hp:p x=false):jB p l (i+1):=by
 have hi:=(List.getElem?_eq_some_iff.1 hx).1
 refine⟨hi,λj hj y hy => ?_⟩
 rcases Nat.lt_or_ge j i with h1|h1
 · exact h.2 j h1 y hy
 · have:j=i:=by omega
   subst this
   rw[hx]at hy
   simp only[Option.some.injEq]at hy
   rw[← hy];exact hp
theorem jB.all {α:Type} {p:α->Bool} {l:List α} {i:Nat} (h:jB p l i) (hi:¬ i<l.length):l.any p=false:=by
 rw[List.any_eq_false]
 intro x hx
 obtain⟨j,hj,rfl⟩:=List.getElem_of_mem hx
 have:=h.2 j (by omega) _ (List.getElem?_eq_getElem hj)
 simp[this]
theorem uK {α:Type} {p:α->Bool} {l:List α} {i:Nat} {x:α} (hx:l[i]? = some x) (hp:p x=true):l.any p=true:=List.any_eq_true.2 ⟨x,List.mem_of_getElem? hx,hp⟩
theorem lJ {α:Type} {f:α->D} {l:List α} {i:Nat} {x:α} (hx:l[i]? = some x):(l.map f)[i]? = some (f x):=by rw[List.getElem?_map,hx];rfl
theorem Rn.eq {ρ:List (Nat × Nat)} {v u:Value} (h:v=u):Rn ρ (.lf v) (.lf u):=by subst h;exact Rn.lf _
theorem FR.eq {σ:ai} {v u:Value} (h:v=u):FR σ (.lf v) (.lf u):=by subst h;exact FR.lf _
theorem Mk (o:aM) (h1:o.params.length<=9223372036854775807) (h2:o.slots.length<=9223372036854775807) (h3:o.refs.length<=9223372036854775807):Pure Tryz.prog bB 18 [eP o] (bD (nA o)):=by
 refine x9 (C:=Cs) hT Tryz.func18 rfl rfl rfl (by simp[aQ]) hG λB => ?_
 unfold Tryz.f18
 repeat' (first|apply bM|apply bN|apply bO|apply bP|apply bQ|apply bR rfl|apply bS rfl|apply bU|apply bT|apply run_seq|apply bF|apply gF|apply bH|apply bJ|apply bG|apply z0 hT rfl rfl rfl rfl|apply zk rfl rfl rfl|apply z1 hT rfl rfl rfl rfl|apply zs hT rfl rfl rfl|apply za hT rfl rfl rfl rfl|apply bI|((fail_if_success apply zw rfl);apply zg rfl <;> (intro hb;rw[hb]))|apply bV rfl|apply bW rfl|(apply bX rfl <;> (intro hb;try rw[hb]))|apply bK mixed hC|apply bL|apply d0 rfl rfl rfl rfl rfl (by kernel_rfl)|apply dk rfl rfl rfl rfl (by kernel_rfl)|apply d1 rfl rfl rfl rfl (by kernel_rfl) rfl (by kernel_rfl)|apply ds rfl rfl rfl (by kernel_rfl) rfl (by kernel_rfl)|((fail_if_success apply dw rfl);apply dg rfl <;> (intro hb;rw[hb])))
 iterate 5 exact gP rfl (FR.eq (by simp_all [nA]))
 refine ny (λi=>Z [(43,some (nD i)),(42,some (nD (o.params.map fO).length)),(41,some (kR o.params)),(1,some (.ref 0 []))] [(0,some (eP o))] 1 78) (λi=>o.params.length - i) (jB (λv=>decide ((v.name.size:Int) > 40)) o.params) 0 (.zero _ _) (eO [(0,0)] rfl hG ?_ ?_) ?_
 · repeat' (first|exact trivial|apply And.intro|exact Rn.lf _|exact Rn.ref (.head _)|exact Rn.fz (fe _)|exact Rn.fz (eZ _)|exact Rn.fz (fZ _)|exact Rn.fz (gm _)|exact Rn.fz (aQ _))
 · exact⟨⟨0,_,.head _,rfl,Rn.fz (aQ _),rfl,rfl,λ_ h=>h⟩,trivial⟩
 intro i hi
 repeat' (first|apply bM|apply bN|apply bO|apply bP|apply bQ|apply bR rfl|apply bS rfl|apply bU|apply bT|apply run_seq|apply bF|apply gF|apply bH|apply bJ|apply bG|apply z0 hT rfl rfl rfl rfl|apply zk rfl rfl rfl|apply z1 hT rfl rfl rfl rfl|apply zs hT rfl rfl rfl|apply za hT rfl rfl rfl rfl|apply bI|((fail_if_success apply zw rfl);apply zg rfl <;> (intro hb;rw[hb]))|apply bV rfl|apply bW rfl|(apply bX rfl <;> (intro hb;try rw[hb]))|apply bK mixed hC|apply bL|apply d0 rfl rfl rfl rfl rfl (by kernel_rfl)|apply dk rfl rfl rfl rfl (by kernel_rfl)|apply d1 rfl rfl rfl rfl (by kernel_rfl) rfl (by kernel_rfl)|apply ds rfl rfl rfl (by kernel_rfl) rfl (by kernel_rfl)|((fail_if_success apply dw rfl);apply dg rfl <;> (intro hb;rw[hb])))
 · have hl:i<o.params.length:=by simpa using hb
   obtain⟨v,hv⟩:∃ v,o.params[i]? = some v:=⟨_,List.getElem?_eq_getElem hl⟩
   apply zi hT rfl rfl rfl rfl rfl rfl rfl rfl (lJ (f:=fO) hv) rfl
   repeat' (first|apply bM|apply bN|apply bO|apply bP|apply bQ|apply bR rfl|apply bS rfl|apply bU|apply bT|apply run_seq|apply bF|apply gF|apply bH|apply bJ|apply bG|apply z0 hT rfl rfl rfl rfl|apply zk rfl rfl rfl|apply z1 hT rfl rfl rfl rfl|apply zs hT rfl rfl rfl|apply za hT rfl rfl rfl rfl|apply bI|((fail_if_success apply zw rfl);apply zg rfl <;> (intro hb;rw[hb]))|apply bV rfl|apply bW rfl|(apply bX rfl <;> (intro hb;try rw[hb]))|apply bK mixed hC|apply bL|apply d0 rfl rfl rfl rfl rfl (by kernel_rfl)|apply dk rfl rfl rfl rfl (by kernel_rfl)|apply d1 rfl rfl rfl rfl (by kernel_rfl) rfl (by kernel_rfl)|apply ds rfl rfl rfl (by kernel_rfl) rfl (by kernel_rfl)|((fail_if_success apply dw rfl);apply dg rfl <;> (intro hb;rw[hb])))
   · have:=uK (p:=λv=>decide ((v.name.size:Int) > 40)) hv (by simpa using hb)
     exact gP rfl (FR.eq (by simp_all [nA]))
   · refine nT (i+1) (hi.succ hv (by simpa using hb)) (by omega) (eO [(0,0)] rfl hG ?_ ?_)
     · refine⟨Rn.eq ?_,?_⟩
       · rw[mM hl h1]
       repeat' (first|exact trivial|apply And.intro|exact Rn.lf _|exact Rn.ref (.head _)|exact Rn.fz (fe _)|exact Rn.fz (eZ _)|exact Rn.fz (fZ _)|exact Rn.fz (gm _)|exact Rn.fz (aQ _))
     · exact⟨⟨0,_,.head _,rfl,Rn.fz (aQ _),rfl,rfl,λ_ h=>h⟩,trivial⟩
 have a56:=hi.all (by simpa using hb)
 refine ny (λi=>Z [(56,some (nD i)),(55,some (nD (o.slots.map iN).length)),(54,some (pz o.slots)),(1,some (.ref 0 []))] [(0,some (eP o))] 1 78) (λi=>o.slots.length - i) (jB (λv=>decide ((v.name.size:Int) > 40)) o.slots) 0 (.zero _ _) (eO [(0,0)] rfl hG ?_ ?_) ?_
 · repeat' (first|exact trivial|apply And.intro|exact Rn.lf _|exact Rn.ref (.head _)|exact Rn.fz (fe _)|exact Rn.fz (eZ _)|exact Rn.fz (fZ _)|exact Rn.fz (gm _)|exact Rn.fz (aQ _))
 · exact⟨⟨0,_,.head _,rfl,Rn.fz (aQ _),rfl,rfl,λ_ h=>h⟩,trivial⟩
 clear hi hb
 intro i hi
 repeat' (first|apply bM|apply bN|apply bO|apply bP|apply bQ|apply bR rfl|apply bS rfl|apply bU|apply bT|apply run_seq|apply bF|apply gF|apply bH|apply bJ|apply bG|apply z0 hT rfl rfl rfl rfl|apply zk rfl rfl rfl|apply z1 hT rfl rfl rfl rfl|apply zs hT rfl rfl rfl|apply za hT rfl rfl rfl rfl|apply bI|((fail_if_success apply zw rfl);apply zg rfl <;> (intro hb;rw[hb]))|apply bV rfl|apply bW rfl|(apply bX rfl <;> (intro hb;try rw[hb]))|apply bK mixed hC|apply bL|apply d0 rfl rfl rfl rfl rfl (by kernel_rfl)|apply dk rfl rfl rfl rfl (by kernel_rfl)|apply d1 rfl rfl rfl rfl (by kernel_rfl) rfl (by kernel_rfl)|apply ds rfl rfl rfl (by kernel_rfl) rfl (by kernel_rfl)|((fail_if_success apply dw rfl);apply dg rfl <;> (intro hb;rw[hb])))
 · have hl:i<o.slots.length:=by simpa using hb
   obtain⟨v,hv⟩:∃ v,o.slots[i]? = some v:=⟨_,List.getElem?_eq_getElem hl⟩
   apply zi hT rfl rfl rfl rfl rfl rfl rfl rfl (lJ (f:=iN) hv) rfl
   repeat' (first|apply bM|apply bN|apply bO|apply bP|apply bQ|apply bR rfl|apply bS rfl|apply bU|apply bT|apply run_seq|apply bF|apply gF|apply bH|apply bJ|apply bG|apply z0 hT rfl rfl rfl rfl|apply zk rfl rfl rfl|apply z1 hT rfl rfl rfl rfl|apply zs hT rfl rfl rfl|apply za hT rfl rfl rfl rfl|apply bI|((fail_if_success apply zw rfl);apply zg rfl <;> (intro hb;rw[hb]))|apply bV rfl|apply bW rfl|(apply bX rfl <;> (intro hb;try rw[hb]))|apply bK mixed hC|apply bL|apply d0 rfl rfl rfl rfl rfl (by kernel_rfl)|apply dk rfl rfl rfl rfl (by kernel_rfl)|apply d1 rfl rfl rfl rfl (by kernel_rfl) rfl (by kernel_rfl)|apply ds rfl rfl rfl (by kernel_rfl) rfl (by kernel_rfl)|((fail_if_success apply dw rfl);apply dg rfl <;> (intro hb;rw[hb])))
   · have:=uK (p:=λv=>decide ((v.name.size:Int) > 40)) hv (by simpa using hb)
     exact gP rfl (FR.eq (by simp_all [nA]))
   · refine nT (i+1) (hi.succ hv (by simpa using hb)) (by omega) (eO [(0,0)] rfl hG ?_ ?_)
     · refine⟨Rn.eq ?_,?_⟩
       · rw[mM hl h2]
       repeat' (first|exact trivial|apply And.intro|exact Rn.lf _|exact Rn.ref (.head _)|exact Rn.fz (fe _)|exact Rn.fz (eZ _)|exact Rn.fz (fZ _)|exact Rn.fz (gm _)|exact Rn.fz (aQ _))
     · exact⟨⟨0,_,.head _,rfl,Rn.fz (aQ _),rfl,rfl,λ_ h=>h⟩,trivial⟩
 have a69:=hi.all (by simpa using hb)
 refine ny (λi=>Z [(69,some (nD i)),(68,some (nD (o.refs.map l7).length)),(67,some (uW o.refs)),(1,some (.ref 0 []))] [(0,some (eP o))] 1 78) (λi=>o.refs.length - i) (jB (λv=>decide ((v.name.size:Int) > 40)) o.refs) 0 (.zero _ _) (eO [(0,0)] rfl hG ?_ ?_) ?_
 · repeat' (first|exact trivial|apply And.intro|exact Rn.lf _|exact Rn.ref (.head _)|exact Rn.fz (fe _)|exact Rn.fz (eZ _)|exact Rn.fz (fZ _)|exact Rn.fz (gm _)|exact Rn.fz (aQ _))
 · exact⟨⟨0,_,.head _,rfl,Rn.fz (aQ _),rfl,rfl,λ_ h=>h⟩,trivial⟩
 clear hi hb
 intro i hi
 repeat' (first|apply bM|apply bN|apply bO|apply bP|apply bQ|apply bR rfl|apply bS rfl|apply bU|apply bT|apply run_seq|apply bF|apply gF|apply bH|apply bJ|apply bG|apply z0 hT rfl rfl rfl rfl|apply zk rfl rfl rfl|apply z1 hT rfl rfl rfl rfl|apply zs hT rfl rfl rfl|apply za hT rfl rfl rfl rfl|apply bI|((fail_if_success apply zw rfl);apply zg rfl <;> (intro hb;rw[hb]))|apply bV rfl|apply bW rfl|(apply bX rfl <;> (intro hb;try rw[hb]))|apply bK mixed hC|apply bL|apply d0 rfl rfl rfl rfl rfl (by kernel_rfl)|apply dk rfl rfl rfl rfl (by kernel_rfl)|apply d1 rfl rfl rfl rfl (by kernel_rfl) rfl (by kernel_rfl)|apply ds rfl rfl rfl (by kernel_rfl) rfl (by kernel_rfl)|((fail_if_success apply dw rfl);apply dg rfl <;> (intro hb;rw[hb])))
 · have hl:i<o.refs.length:=by simpa using hb
   obtain⟨v,hv⟩:∃ v,o.refs[i]? = some v:=⟨_,List.getElem?_eq_getElem hl⟩
   apply zi hT rfl rfl rfl rfl rfl rfl rfl rfl (lJ (f:=l7) hv) rfl
   repeat' (first|apply bM|apply bN|apply bO|apply bP|apply bQ|apply bR rfl|apply bS rfl|apply bU|apply bT|apply run_seq|apply bF|apply gF|apply bH|apply bJ|apply bG|apply z0 hT rfl rfl rfl rfl|apply zk rfl rfl rfl|apply z1 hT rfl rfl rfl rfl|apply zs hT rfl rfl rfl|apply za hT rfl rfl rfl rfl|apply bI|((fail_if_success apply zw rfl);apply zg rfl <;> (intro hb;rw[hb]))|apply bV rfl|apply bW rfl|(apply bX rfl <;> (intro hb;try rw[hb]))|apply bK mixed hC|apply bL|apply d0 rfl rfl rfl rfl rfl (by kernel_rfl)|apply dk rfl rfl rfl rfl (by kernel_rfl)|apply d1 rfl rfl rfl rfl (by kernel_rfl) rfl (by kernel_rfl)|apply ds rfl rfl rfl (by kernel_rfl) rfl (by kernel_rfl)|((fail_if_success apply dw rfl);apply dg rfl <;> (intro hb;rw[hb])))
   · have:=uK (p:=λv=>decide ((v.name.size:Int) > 40)) hv (by simpa using hb)
     exact gP rfl (FR.eq (by simp_all [nA]))
   · refine nT (i+1) (hi.succ hv (by simpa using hb)) (by omega) (eO [(0,0)] rfl hG ?_ ?_)
     · refine⟨Rn.eq ?_,?_⟩
       · rw[mM hl h3]
       repeat' (first|exact trivial|apply And.intro|exact Rn.lf _|exact Rn.ref (.head _)|exact Rn.fz (fe _)|exact Rn.fz (eZ _)|exact Rn.fz (fZ _)|exact Rn.fz (gm _)|exact Rn.fz (aQ _))
     · exact⟨⟨0,_,.head _,rfl,Rn.fz (aQ _),rfl,rfl,λ_ h=>h⟩,trivial⟩
 have a0:=hi.all (by simpa using hb)
 exact gP rfl (FR.eq (by simp_all [nA]))
end Go.Proofs.YtadecgbblajifaaGreatDoor.DV
namespace Go.Proofs.YtadecgbblajifaaGreatDoor
end Go.Proofs.YtadecgbblajifaaGreatDoor
namespace Go.Proofs.YtadecgbblajifaaGreatDoor.DV
open Go
theorem uA {w w':World} (h:Mv (λ_=>False) w w'):(∀ b,b<w.heap.size->w'.heap[b]? = w.heap[b]?)/\w.heap.size<=w'.heap.size/\Sm w w':=⟨λb hb=>h.block b hb (λh=>h),h.size,h.os,h.tape,h.output⟩
theorem MX (s:ByteArray) (hs:s.size<=9223372036854775807):Pure Tryz.prog bB 41 [sD s] (bD (aS s)):=tT _ (by kernel_rfl) λg w vs _ _ h=>by
 simp only[au]at h
 obtain⟨v,vs',rfl,h1,rfl⟩:=h
 rw[aP h1]
 exact(ui s w hs).mono λe w' h=>⟨h.1,uA h.2⟩
end Go.Proofs.YtadecgbblajifaaGreatDoor.DV
namespace Go.Proofs.YtadecgbblajifaaGreatDoor
section
open Go.RowKit
theorem nJ {W w1:World} (hb:Grow W w1):(∀ b o,b<W.heap.size->w1.cell? ⟨b,o,none⟩=W.cell? ⟨b,o,none⟩)/\(∀ b o,b<W.heap.size->w1.frozen? ⟨b,o,none⟩=W.frozen? ⟨b,o,none⟩) :=
 ⟨λb o h=>World.cell?_of_block (w:=W) (w':=w1) (a:=⟨b,o,none⟩) (hb.block b h (λh=>h)),λb o h=>by simp[World.frozen?,hb.block b h (λh=>h)]⟩
theorem xL (w:World) (cs:Array Value) (t:TypeId) (i:Nat):(w.alloc (.cells cs t)).cell? ⟨w.heap.size,i,none⟩=cs[i]? := by
 have h:=heap_alloc_new w (.cells cs t)
 simp only[World.cell?,h]
 rfl
theorem BJ (a b:ByteArray):(a.toList == b.toList)=(a == b):=by
 have h1:a.toList=a.data.toList:=ByteArray.toList_eq a
 have h2:b.toList=b.data.toList:=ByteArray.toList_eq b
 rw[h1,h2,bytes_beq]
 cases a with|mk x=>cases b with|mk y =>
 by_cases h:x=y
 · subst h;simp
 · have h3:¬ (⟨x⟩:ByteArray)=⟨y⟩:=λe=>h (by simpa using congrArg ByteArray.data e)
   have h4:¬ x.toList=y.toList:=λe=>h (Array.toList_inj.1 e)
   simp[h3,h]
end
section
open Go.RowKit
def pX (op:Int):Bool:=iG op || jd op
theorem JV (op:Int) (w:World):Calls Tryz.prog 84 #[.int .u8 op] w λe w'=>e = .returned (.bool (pX op))/\w=w':=by
 have HB:=Lib.hid (show pX op=(iG op || jd op)from rfl)
 go_enter Tryz.func84,Tryz.ntmps84
 go_wp2_with fail
 refine(Bp op _).mono ?_
 rintro e w' ⟨rfl,rfl⟩
 generalize iG op=q at *
 cases q
 · go_wp2_with fail
   refine(A7 op _).mono ?_
   rintro e w' ⟨rfl,rfl⟩
   go_wp2_with fail
   go_ret
   exact⟨aj (by rw[HB.out];rfl),rfl⟩
 · go_wp2_with fail
   go_ret
   exact⟨aj (by rw[HB.out];rfl),rfl⟩
def lS (code:List Ins) (i:Nat):Bool :=
 match code[i]? with
 |none=>false
 |some x=>if x.target<0\/(code.length:Int)<=x.target then false else match code[x.target.toNat]? with
  |none=>false
  |some y=>if(iG x.op && !jd y.op) || (jd x.op && !iG y.op)then false else y.target == (i:Int)
theorem aA.ins {w:World} {b off len cap:Nat} {l:List Ins} (h:aA 5 Ins.cells w (.slice (some ⟨b,off,none⟩) len cap) l) {i:Nat} (hi:i<l.length) :
 (w.cell? ⟨b,off+i * 5,none⟩=some (.int .u8 l[i].op)/\w.cell? ⟨b,off+i * 5+1,none⟩=some (.int .i64 l[i].a)/\w.cell? ⟨b,off+i * 5+2,none⟩=some (.int .i64 l[i].b))/\w.cell? ⟨b,off+i * 5+3,none⟩=some (.int .i64 l[i].c)/\w.cell? ⟨b,off+i * 5+4,none⟩=some (.int .i64 l[i].d)/\b<w.heap.size:=by
 have hc:=h.at' hi
 have c0:=hc 0 _ rfl
 exact⟨⟨c0,hc 1 _ rfl,hc 2 _ rfl⟩,hc 3 _ rfl,hc 4 _ rfl,World.block_lt_of_cell? w _ c0⟩
set_option maxRecDepth 100000 in
set_option maxHeartbeats 3200000 in
theorem Iz (v:Value) (l:List Ins) (i:Nat) (w:World) (h:aA 5 Ins.cells w v l) (hi:i<l.length):Calls Tryz.prog 85 #[v,.int .i64 i] w λe w'=>e = .returned (.bool (lS l i))/\Grow w w':=by
 obtain⟨a,cap,rfl,hcap,hlen⟩:=h.form
 obtain⟨b,off,cap',e,_,_⟩:=h.at hi
 simp only[Value.slice.injEq,true_and]at e
 obtain⟨rfl,rfl⟩:=e
 obtain⟨⟨c0,c1,c2⟩,c3,c4,hbl⟩:=h.ins hi
 have HR:=Lib.hid h
 have HB:=Lib.hid (show lS l i=(if l[i].target<0\/(l.length:Int)<=l[i].target then false else match l[l[i].target.toNat]? with
  |none=>false
  |some y=>if(iG l[i].op && !jd y.op) || (jd l[i].op && !iG y.op)then false else y.target == (i:Int))from by simp[lS,hi])
 have HT:=Lib.hid (Bq l[i] w)
 generalize hx:l[i]=x at *
 obtain⟨xo,xa,xb,xc,xd⟩:=x
 simp only at c0 c1 c2 c3 c4
 clear h hx
 go_enter Tryz.func85,Tryz.ntmps85
 go_wp2_with fail
 refine HT.out.mono ?_
 rintro e w1 ⟨rfl,hm1⟩
 obtain⟨hc1,hf1⟩:=nJ hm1
 have hs1:=hm1.size
 have sO:=Lib.hid hm1
 generalize Ins.target ⟨xo,xa,xb,xc,xd⟩=t at *
 generalize Ins.zN ⟨xo,xa,xb,xc,xd⟩=am at *
 have d0:w1.cell? ⟨b,off+i * 5,none⟩=some (.int .u8 xo):=by rw[hc1 _ _ hbl];exact c0
 clear hm1 hc1 hf1 c0 c1 c2 c3 c4
 by_cases ht0:t<0
 · go_wp2_with fail
   go_ret
   exact⟨aj (by rw[HB.out,if_pos (.inl ht0)]),sO.out⟩
 · by_cases htl:(l.length:Int)<=t
   · have hd1:decide (t<0)=false:=by simpa using ht0
     go_wp2_with fail
     go_ret
     exact⟨aj (by rw[HB.out,if_pos (.inr htl)]),sO.out⟩
   · obtain⟨k,rfl⟩:∃ k:Nat,t=k:=⟨t.toNat,by omega⟩
     have hkl:k<l.length:=by omega
     obtain⟨⟨e0,e1,e2⟩,e3,e4,Qj⟩:=(HR.out.later sO.out).ins hkl
     have HB2:=Lib.hid (show lS l i=(if(iG xo && !jd l[k].op) || (jd xo && !iG l[k].op)then false else l[k].target == (i:Int))from by
      rw[HB.out,if_neg (by omega)];simp[hkl])
     have HT2:=Lib.hid (λw=>Bq l[k] w)
     generalize hy:l[k]=y at *
     obtain⟨yo,ya,yb,yc,yd⟩:=y
     simp only at e0 e1 e2 e3 e4
     clear hy
     clear ht0 htl
     cases GU:iG xo <;> cases GV:jd yo <;> cases hlx:jd xo <;> cases GX:iG yo
     all_goals
      go_wp2_with (first
       |(go_at_call 126;refine(Bp _ _).mono ?_;rintro e w' ⟨rfl,rfl⟩)
       |(go_at_call 127;refine(A7 _ _).mono ?_;rintro e w' ⟨rfl,rfl⟩)
       |fail)
      first
       |(go_ret;exact⟨aj (by rw[HB2.out,GU,GV,hlx,GX];rfl),sO.out.alloc _⟩)
       |(refine(HT2.out _).mono ?_;rintro e w2 ⟨rfl,hm2⟩;have Pf:=Lib.hid hm2;clear hm2;go_wp2_with fail;go_ret;exact⟨aj (by rw[HB2.out,GU,GV,hlx,GX];rfl),Mv.trans (sO.out.alloc _) Pf.out (λ_ e=>e.elim)⟩)
end
end Go.Proofs.YtadecgbblajifaaGreatDoor
