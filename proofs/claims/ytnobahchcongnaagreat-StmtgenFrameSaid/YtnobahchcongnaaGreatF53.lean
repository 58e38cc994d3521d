import Derived.ProofKit
import Derived.OpenShut
import Derived.Deep.Slices
import Derived.Below
import Derived.Test.YtnobahchcongnaaGreatF41
set_option linter.unusedSimpArgs false
set_option linter.unusedVariables false
set_option maxRecDepth 100000
set_option maxHeartbeats 25600000
namespace Go.Proofs.YtnobahchcongnaaGreat
open Go.RowKit Go.Deep Go.Instr
theorem Fg (b off k:Nat):(⟨b,off,none⟩:Addr).add k=⟨b,off+k,none⟩:=by unfold Addr.add;split <;> simp_all
section
variable {H:Type} {enc:TypeId × Value->H} {W:World}
abbrev Wt (t:TypeId) (d:DataW H):Prop:=(d.weights Tryz.prog t).all (· <= reachBytes)=true
theorem Ip {e:TypeId} : ∀ {l:List (DataW H)} {d:DataW H},d∈l->(DataW.weightsAll Tryz.prog e l).all (· <= reachBytes)=true->Wt e d
 | [],d,h,_=>by cases h
 |x :: r,d,h,hw=>by
  simp only[DataW.weightsAll,List.all_append,Bool.and_eq_true]at hw;rcases List.mem_cons.1 h with rfl|h
  · exact hw.1
  · exact Ip h hw.2
theorem open_row {α:Type} (f:α->List Value) (n:Nat) {t e:TypeId} (ht:Tryz.prog.underlying t=some (.slice e)) (hc:Tryz.prog.cellsOf e=n) (hn:0<n) (hfl:∀ a,(f a).length=n) (Ok:α->Prop)
 (hopen:∀ (fuel:Nat) (cs:List Value) (y:DataW H × List MemPlace),DataW.trod enc Tryz.prog W 0 (λ_=>true) true fuel e cs=some y->Wt e y.1->∃ a,cs=f a/\Ok a)
 {fuel:Nat} {cs:List Value} {x:DataW H × List MemPlace} (h:DataW.trod enc Tryz.prog W 0 (λ_=>true) true fuel t cs=some x) (hw:Wt t x.1) :
 ∃ v l,cs=[v]/\ax n f W v l/\(∀ a∈l,Ok a)/\l.length * Tryz.prog.bytesOf e<=reachBytes:=by
 rcases open_slice ht h with⟨hcs,hx⟩|⟨a,len,cap,m,k,D,Pl,hcs,_,hl,hm,hme,hx,hel⟩
 · exact⟨_,[],hcs,ax.nil _ _ _,by simp,by simp⟩
 · simp only[if_true]at hme;subst hme;subst hx;simp only[Wt,DataW.weights,ht,List.all_cons,List.all_append,Bool.and_eq_true,decide_eq_true_eq,List.length_map,List.length_range]at hw;obtain⟨hw1,hw2,hw3⟩:=hw;rw[hc]at hel;have LU:∀ i:Fin len,∃ o:α,W.cells? 0 (a.add (i.1 * n)) n=some (f o)/\Ok o:=by
    intro i;obtain⟨cs',hc1,ht1⟩:=hel i.1 (by have:=i.2;omega);obtain⟨o,rfl,hok⟩:=hopen _ _ _ ht1 (Ip (List.mem_map.2 ⟨i.1,List.mem_range.2 i.2,rfl⟩) hw2);exact⟨o,hc1,hok⟩
   obtain⟨o,ho⟩:=Classical.axiomOfChoice LU;refine⟨_,List.ofFn o,hcs,⟨some a,m,by simp,by simpa using hl,by unfold maxLen at hm;simp;omega,λi x hx => ?_⟩,λx hx => ?_,?_⟩
   · have hi:i<len:=by have:=(List.getElem?_eq_some_iff.1 hx).1;simpa using this
     simp[hi]at hx;subst hx;have hcell:∀ j (hj:j<len) r (u:Value),(f (o ⟨j,hj⟩))[r]? = some u->W.cell? ((a.add (j * n)).add r)=some u:=by
      intro j hj r u hu;obtain⟨_,_,hcc⟩:=World.cells?_some (ho ⟨j,hj⟩).1;have hr:r<n:=by rw[← hfl (o ⟨j,hj⟩)];exact(List.getElem?_eq_some_iff.1 hu).1
      rw[hcc r hr];exact hu
     have hsp:a.spot=none:=by
      have hz:0<len:=by omega
      have h0:(f (o ⟨0,hz⟩))[0]? = some ((f (o ⟨0,hz⟩))[0]'(by rw[hfl];exact hn)):=List.getElem?_eq_getElem _;have:=World.cell?_spot (hcell 0 hz 0 _ h0)
      simpa[Addr.add]using this
     obtain⟨b,off,spot⟩:=a;simp only at hsp;subst hsp;refine⟨b,off,rfl,λr u hu => ?_⟩;have:=hcell i hi r u hu;rw[Fg,Fg]at this;exact this
   · obtain⟨i,rfl⟩:=(List.mem_ofFn).1 hx;exact(ho i).2
   · simp only[List.length_ofFn];refine Nat.le_trans ?_ hw1;exact Nat.mul_le_mul_right _ (by omega)
theorem YH {α:Type} (f:α->List Value) (n:Nat) {t e:TypeId} (ht:Tryz.prog.underlying t=some (.slice e)) (hc:Tryz.prog.cellsOf e=n) (hn:0<n) (hfl:∀ a,(f a).length=n) (Ok:α->Prop)
 {x:DataW H × List MemPlace} (hopen:∀ (fuel:Nat) (cs:List Value) (y:DataW H × List MemPlace),SizeOf.sizeOf y.1<SizeOf.sizeOf x.1->DataW.trod enc Tryz.prog W 0 (λ_=>true) true fuel e cs=some y->Wt e y.1->∃ a,cs=f a/\Ok a)
 {fuel:Nat} {cs:List Value} (h:DataW.trod enc Tryz.prog W 0 (λ_=>true) true fuel t cs=some x) (hw:Wt t x.1) :
 ∃ v l,cs=[v]/\ax n f W v l/\(∀ a∈l,Ok a)/\l.length * Tryz.prog.bytesOf e<=reachBytes:=by
 rcases open_slice ht h with⟨hcs,hx⟩|⟨a,len,cap,m,k,D,Pl,hcs,_,hl,hm,hme,hx,hel⟩
 · exact⟨_,[],hcs,ax.nil _ _ _,by simp,by simp⟩
 · simp only[if_true]at hme;subst hme;subst hx;simp only[Wt,DataW.weights,ht,List.all_cons,List.all_append,Bool.and_eq_true,decide_eq_true_eq,List.length_map,List.length_range]at hw;obtain⟨hw1,hw2,hw3⟩:=hw;rw[hc]at hel;have LU:∀ i:Fin len,∃ o:α,W.cells? 0 (a.add (i.1 * n)) n=some (f o)/\Ok o:=by
    intro i;obtain⟨cs',hc1,ht1⟩:=hel i.1 (by have:=i.2;omega);have hsz:SizeOf.sizeOf (D i.1)<SizeOf.sizeOf (DataW.slice ((List.range len).map D) ((List.range (m - len)).map λj=>D (len+j))):=by
     have:=List.sizeOf_lt_of_mem (List.mem_map.2 ⟨i.1,List.mem_range.2 i.2,rfl⟩:D i.1∈(List.range len).map D);simp only[DataW.slice.sizeOf_spec];omega
    obtain⟨o,rfl,hok⟩:=hopen _ _ _ hsz ht1 (Ip (List.mem_map.2 ⟨i.1,List.mem_range.2 i.2,rfl⟩) hw2);exact⟨o,hc1,hok⟩
   obtain⟨o,ho⟩:=Classical.axiomOfChoice LU;refine⟨_,List.ofFn o,hcs,⟨some a,m,by simp,by simpa using hl,by unfold maxLen at hm;simp;omega,λi x hx => ?_⟩,λx hx => ?_,?_⟩
   · have hi:i<len:=by have:=(List.getElem?_eq_some_iff.1 hx).1;simpa using this
     simp[hi]at hx;subst hx;have hcell:∀ j (hj:j<len) r (u:Value),(f (o ⟨j,hj⟩))[r]? = some u->W.cell? ((a.add (j * n)).add r)=some u:=by
      intro j hj r u hu;obtain⟨_,_,hcc⟩:=World.cells?_some (ho ⟨j,hj⟩).1;have hr:r<n:=by rw[← hfl (o ⟨j,hj⟩)];exact(List.getElem?_eq_some_iff.1 hu).1
      rw[hcc r hr];exact hu
     have hsp:a.spot=none:=by
      have hz:0<len:=by omega
      have h0:(f (o ⟨0,hz⟩))[0]? = some ((f (o ⟨0,hz⟩))[0]'(by rw[hfl];exact hn)):=List.getElem?_eq_getElem _;have:=World.cell?_spot (hcell 0 hz 0 _ h0)
      simpa[Addr.add]using this
     obtain⟨b,off,spot⟩:=a;simp only at hsp;subst hsp;refine⟨b,off,rfl,λr u hu => ?_⟩;have:=hcell i hi r u hu;rw[Fg,Fg]at this;exact this
   · obtain⟨i,rfl⟩:=(List.mem_ofFn).1 hx;exact(ho i).2
   · simp only[List.length_ofFn];refine Nat.le_trans ?_ hw1;exact Nat.mul_le_mul_right _ (by omega)
theorem J3 {n:Int} (h:(Lit.int .i64 n).wf=true):In64 n:=by
 simp only[Lit.wf,Bool.and_eq_true,decide_eq_true_eq]at h;have e1:IntKind.i64.min = -9223372036854775808:=by decide
 have e2:IntKind.i64.max=9223372036854775807:=by decide
 rw[e1,e2]at h;exact h
theorem _B {n:Int} (h:(Lit.int .u8 n).wf=true):0<=n/\n<=255:=by
 simp only[Lit.wf,Bool.and_eq_true,decide_eq_true_eq]at h;have e1:IntKind.u8.min=0:=by decide
 have e2:IntKind.u8.max=255:=by decide
 rw[e1,e2]at h;exact h
theorem Tryz.J4:Tryz.prog.cellsOf 9=1:=by kernel_rfl
theorem Tryz.Qc:Tryz.prog.cellsOf 3=1:=by kernel_rfl
theorem Tryz.QG:Tryz.prog.cellsOf 5=1:=by kernel_rfl
theorem Tryz.J5:Tryz.prog.cellsOf 54=3:=by kernel_rfl
theorem Tryz.YI:Tryz.prog.cellsOf 22=1:=by kernel_rfl
theorem Tryz.EP:Tryz.prog.cellsOf 26=4:=by kernel_rfl
theorem Tryz.XK:Tryz.prog.cellsOf 24=1:=by kernel_rfl
theorem Tryz.Pt:Tryz.prog.cellsOf 35=6:=by kernel_rfl
theorem Qd (fuel:Nat) (cs:List Value) (y:DataW H × List MemPlace) (h:DataW.trod enc Tryz.prog W 0 (λ_=>true) true fuel 54 cs=some y) (_:Wt 54 y.1):∃ a:aA,cs=a.cells/\(a.name.size<=9223372036854775807/\In64 a.len):=by
 obtain⟨xs,m,rfl,rfl,hcl,hxl,hf⟩:=DataW.trod_struct Tryz.underlying54 h;rw[Tryz.J5]at hcl
 match cs,hcl with
 | [c0,c1,c2],_ =>
  match xs,hxl with
  | [x0,x1,x2],_ =>
   have f0:=hf 0 _ rfl;have f1:=hf 1 _ rfl;have f2:=hf 2 _ rfl;simp[Tryz.J4,Tryz.Qc,Tryz.QG]at f0 f1 f2;obtain⟨s,e0,_,hs⟩:=DataW.trod_string Tryz.underlying9 f0;obtain⟨k,e1,_,_⟩:=DataW.trod_int Tryz.underlying5 f1;obtain⟨n,e2,_,hn⟩:=DataW.trod_int Tryz.underlying3 f2;simp at e0 e1 e2;subst e0 e1 e2;exact⟨⟨s,k,n⟩,rfl,by unfold maxLen at hs;exact hs,J3 hn⟩
theorem JI:∀ (m:Nat) (fuel:Nat) (cs:List Value) (y:DataW H × List MemPlace),SizeOf.sizeOf y.1<=m->DataW.trod enc Tryz.prog W 0 (λ_=>true) true fuel 26 cs=some y->Wt 26 y.1->∃ x:ae,cs=x.cells/\aS W x
 |0,_,_,y,hm,_,_=>by
  obtain⟨y,z⟩:=y;cases y <;> simp at hm
 |m+1,fuel,cs,y,hm,h,hw=>by
  obtain⟨xs,n',rfl,rfl,hcl,hxl,hf⟩:=DataW.trod_struct Tryz.underlying26 h;rw[Tryz.EP]at hcl
  match cs,hcl with
  | [c0,c1,c2,c3],_ =>
   match xs,hxl with
   | [x0,x1,x2,x3],_ =>
    have f0:=hf 0 _ rfl;have f1:=hf 1 _ rfl;have f2:=hf 2 _ rfl;have f3:=hf 3 _ rfl;simp[Tryz.J4,Tryz.Qc,Tryz.QG,Tryz.XK]at f0 f1 f2 f3;simp only[Wt,DataW.weights,Tryz.underlying26,List.map_cons,List.map_nil,DataW.weightsEach,List.all_append,Bool.and_eq_true]at hw;obtain⟨_,_,_,hw3,_⟩:=hw;obtain⟨k,e0,_,hk⟩:=DataW.trod_int Tryz.underlying5 f0;obtain⟨n,e1,_,hn⟩:=DataW.trod_int Tryz.underlying3 f1;obtain⟨s,e2,_,hs⟩:=DataW.trod_string Tryz.underlying9 f2;have qQ:SizeOf.sizeOf x3.1<=m:=by
     simp only[List.map_cons,List.map_nil,DataW.agg.sizeOf_spec,List.cons.sizeOf_spec]at hm;omega
    obtain⟨kv,kids,e3,hr,ho,_⟩:=YH ae.cells 4 Tryz.underlying24 Tryz.EP (by decide) (λa=>by cases a;rfl) (aS W) (λfuel cs y hlt h1 h2=>JI m fuel cs y (by omega) h1 h2) f3 hw3;simp at e0 e1 e2 e3;subst e0 e1 e2 e3;exact⟨.mk k n s _ kids,rfl,.mk (_B hk) (J3 hn) (by unfold maxLen at hs;exact hs) hr ho⟩
end
section
variable {H:Type} {enc:TypeId × Value->H} {W:World}
theorem Tryz.ZR:Tryz.prog.cellsOf 22=1:=by kernel_rfl
theorem Tryz.ZT:Tryz.prog.cellsOf 23=1:=by kernel_rfl
theorem Tryz.We:Tryz.prog.cellsOf 28=6:=by kernel_rfl
theorem XL (fuel:Nat) (cs:List Value) (y:DataW H × List MemPlace) (h:DataW.trod enc Tryz.prog W 0 (λ_=>true) true fuel 35 cs=some y) (hw:Wt 35 y.1):∃ p:ak,cs=p.cells/\(vR W p/\∀ x∈p.params,x.name.size<=9223372036854775807):=by
 obtain⟨xs,m,rfl,rfl,hcl,hxl,hf⟩:=DataW.trod_struct Tryz.underlying35 h;rw[Tryz.Pt]at hcl
 match cs,hcl with
 | [c0,c1,c2,c3,c4,c5],_ =>
  match xs,hxl with
  | [x0,x1,x2],_ =>
   have f0:=hf 0 _ rfl;have f1:=hf 1 _ rfl;have f2:=hf 2 _ rfl;simp[Tryz.J4,Tryz.YI,Tryz.EP]at f0 f1 f2;simp only[Wt,DataW.weights,Tryz.underlying35,List.map_cons,List.map_nil,DataW.weightsEach,List.all_append,Bool.and_eq_true]at hw;obtain⟨s,e0,_,hs⟩:=DataW.trod_string Tryz.underlying9 f0;obtain⟨pv,ps,e1,hp,hpo,_⟩:=open_row aA.cells 3 Tryz.underlying22 Tryz.J5 (by decide) (λ_=>rfl) _ Qd f1 hw.2.1;obtain⟨x,e2,hx⟩:=JI _ _ _ _ (Nat.le_refl _) f2 hw.2.2.1;simp at e0 e1;subst e0 e1;exact⟨⟨s,ps,_,x⟩,by rw[ak.cells,← e2],⟨⟨by unfold maxLen at hs;exact hs,hp,hx⟩,λx hx=>(hpo x hx).1⟩⟩
theorem YK (fuel:Nat) (cs:List Value) (y:DataW H × List MemPlace) (h:DataW.trod enc Tryz.prog W 0 (λ_=>true) true fuel 28 cs=some y) (hw:Wt 28 y.1):∃ p:cu,cs=[p.vv,p.pv] ++ p.main.cells/\qj W p:=by
 obtain⟨xs,m,rfl,rfl,hcl,hxl,hf⟩:=DataW.trod_struct Tryz.underlying28 h;rw[Tryz.We]at hcl
 match cs,hcl with
 | [c0,c1,c2,c3,c4,c5],_ =>
  match xs,hxl with
  | [x0,x1,x2],_ =>
   have f0:=hf 0 _ rfl;have f1:=hf 1 _ rfl;have f2:=hf 2 _ rfl;simp[Tryz.ZR,Tryz.ZT,Tryz.EP]at f0 f1 f2;simp only[Wt,DataW.weights,Tryz.underlying28,List.map_cons,List.map_nil,DataW.weightsEach,List.all_append,Bool.and_eq_true]at hw;obtain⟨vv,vs,e0,hv,hvo,_⟩:=open_row aA.cells 3 Tryz.underlying22 Tryz.J5 (by decide) (λ_=>rfl) _ Qd f0 hw.1;obtain⟨pv,ps,e1,hp,hpo,_⟩:=open_row ak.cells 6 Tryz.underlying23 Tryz.Pt (by decide) (λp=>by obtain⟨s,ps,pv,b⟩:=p;cases b;rfl) _ XL f1 hw.2.1;obtain⟨x,e2,hx⟩:=JI _ _ _ _ (Nat.le_refl _) f2 hw.2.2.1;simp at e0 e1;subst e0 e1;exact⟨⟨vs,_,ps,_,x⟩,by simp[← e2],⟨hv,λx hx=>(hvo x hx).1,⟨hp,λp hp=>(hpo p hp).1⟩,λp hp=>(hpo p hp).2,hx⟩⟩
end
end Go.Proofs.YtnobahchcongnaaGreat
