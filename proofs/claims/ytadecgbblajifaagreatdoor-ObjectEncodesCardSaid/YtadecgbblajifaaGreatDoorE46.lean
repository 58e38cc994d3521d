import Derived.Below
import Derived.Test.YtadecgbblajifaaGreatDoorE45
import Derived.ChangeOld
import Derived.Handed
set_option linter.unusedSimpArgs false
set_option linter.unusedVariables false
set_option maxRecDepth 100000
set_option maxHeartbeats 25600000
namespace Go.Proofs.YtadecgbblajifaaGreatDoor
section
open Go.RowKit Go.Deep Go.Instr
theorem DR (b off k:Nat):(⟨b,off,none⟩:Addr).add k=⟨b,off+k,none⟩:=by unfold Addr.add;split <;> simp_all
section
variable {H:Type} {enc:TypeId × Value->H} {W:World}
abbrev Wt (t:TypeId) (d:DataW H):Prop:=(d.weights Tryz.prog t).all (· <= reachBytes)=true
theorem Ht {e:TypeId} : ∀ {l:List (DataW H)} {d:DataW H},d∈l->(DataW.weightsAll Tryz.prog e l).all (· <= reachBytes)=true->Wt e d
 | [],d,h,_=>by cases h
 |x :: r,d,h,hw=>by
  simp only[DataW.weightsAll,List.all_append,Bool.and_eq_true]at hw
  rcases List.mem_cons.1 h with rfl|h
  · exact hw.1
  · exact Ht h hw.2
theorem open_row {α:Type} (f:α->List Value) (n:Nat) {t e:TypeId} (ht:Tryz.prog.underlying t=some (.slice e)) (hc:Tryz.prog.cellsOf e=n) (hn:0<n) (hfl:∀ a,(f a).length=n) (Ok:α->Prop)
 (hopen:∀ (fuel:Nat) (cs:List Value) (y:DataW H × List MemPlace),DataW.trod enc Tryz.prog W 0 (λ_=>true) true fuel e cs=some y->Wt e y.1->∃ a,cs=f a/\Ok a)
 {fuel:Nat} {cs:List Value} {x:DataW H × List MemPlace} (h:DataW.trod enc Tryz.prog W 0 (λ_=>true) true fuel t cs=some x) (hw:Wt t x.1) :
 ∃ v l,cs=[v]/\aB n f W v l/\(∀ a∈l,Ok a)/\l.length * Tryz.prog.bytesOf e<=reachBytes:=by
 rcases open_slice ht h with⟨hcs,hx⟩|⟨a,len,cap,m,k,D,Pl,hcs,_,hl,hm,hme,hx,hel⟩
 · exact⟨_,[],hcs,aB.nil _ _ _,by simp,by simp⟩
 · simp only[if_true]at hme
   subst hme
   subst hx
   simp only[Wt,DataW.weights,ht,List.all_cons,List.all_append,Bool.and_eq_true,decide_eq_true_eq,List.length_map,List.length_range]at hw
   obtain⟨hw1,hw2,hw3⟩:=hw
   rw[hc]at hel
   have Ls:∀ i:Fin len,∃ o:α,W.cells? 0 (a.add (i.1 * n)) n=some (f o)/\Ok o:=by
    intro i
    obtain⟨cs',hc1,ht1⟩:=hel i.1 (by have:=i.2;omega)
    obtain⟨o,rfl,hok⟩:=hopen _ _ _ ht1 (Ht (List.mem_map.2 ⟨i.1,List.mem_range.2 i.2,rfl⟩) hw2)
    exact⟨o,hc1,hok⟩
   obtain⟨o,ho⟩:=Classical.axiomOfChoice Ls
   refine⟨_,List.ofFn o,hcs,⟨some a,m,by simp,by simpa using hl,by unfold maxLen at hm;simp;omega,λi x hx => ?_⟩,λx hx => ?_,?_⟩
   · have hi:i<len:=by have:=(List.getElem?_eq_some_iff.1 hx).1;simpa using this
     simp[hi]at hx
     subst hx
     have hcell:∀ j (hj:j<len) r (u:Value),(f (o ⟨j,hj⟩))[r]? = some u->W.cell? ((a.add (j * n)).add r)=some u:=by
      intro j hj r u hu
      obtain⟨_,_,hcc⟩:=World.cells?_some (ho ⟨j,hj⟩).1
      have hr:r<n:=by rw[← hfl (o ⟨j,hj⟩)];exact(List.getElem?_eq_some_iff.1 hu).1
      rw[hcc r hr];exact hu
     have hsp:a.spot=none:=by
      have hz:0<len:=by omega
      have h0:(f (o ⟨0,hz⟩))[0]? = some ((f (o ⟨0,hz⟩))[0]'(by rw[hfl];exact hn)):=List.getElem?_eq_getElem _
      have:=World.cell?_spot (hcell 0 hz 0 _ h0)
      simpa[Addr.add]using this
     obtain⟨b,off,spot⟩:=a
     simp only at hsp
     subst hsp
     refine⟨b,off,rfl,λr u hu => ?_⟩
     have:=hcell i hi r u hu
     rw[DR,DR]at this
     exact this
   · obtain⟨i,rfl⟩:=(List.mem_ofFn).1 hx
     exact(ho i).2
   · simp only[List.length_ofFn]
     refine Nat.le_trans ?_ hw1
     exact Nat.mul_le_mul_right _ (by omega)
theorem Zk {α:Type} (f:α->List Value) (n:Nat) {t e:TypeId} (ht:Tryz.prog.underlying t=some (.slice e)) (hc:Tryz.prog.cellsOf e=n) (hn:0<n) (hfl:∀ a,(f a).length=n) (Ok:α->Prop)
 {x:DataW H × List MemPlace} (hopen:∀ (fuel:Nat) (cs:List Value) (y:DataW H × List MemPlace),SizeOf.sizeOf y.1<SizeOf.sizeOf x.1->DataW.trod enc Tryz.prog W 0 (λ_=>true) true fuel e cs=some y->Wt e y.1->∃ a,cs=f a/\Ok a)
 {fuel:Nat} {cs:List Value} (h:DataW.trod enc Tryz.prog W 0 (λ_=>true) true fuel t cs=some x) (hw:Wt t x.1) :
 ∃ v l,cs=[v]/\aB n f W v l/\(∀ a∈l,Ok a)/\l.length * Tryz.prog.bytesOf e<=reachBytes:=by
 rcases open_slice ht h with⟨hcs,hx⟩|⟨a,len,cap,m,k,D,Pl,hcs,_,hl,hm,hme,hx,hel⟩
 · exact⟨_,[],hcs,aB.nil _ _ _,by simp,by simp⟩
 · simp only[if_true]at hme
   subst hme
   subst hx
   simp only[Wt,DataW.weights,ht,List.all_cons,List.all_append,Bool.and_eq_true,decide_eq_true_eq,List.length_map,List.length_range]at hw
   obtain⟨hw1,hw2,hw3⟩:=hw
   rw[hc]at hel
   have Ls:∀ i:Fin len,∃ o:α,W.cells? 0 (a.add (i.1 * n)) n=some (f o)/\Ok o:=by
    intro i
    obtain⟨cs',hc1,ht1⟩:=hel i.1 (by have:=i.2;omega)
    have hsz:SizeOf.sizeOf (D i.1)<SizeOf.sizeOf (DataW.slice ((List.range len).map D) ((List.range (m - len)).map λj=>D (len+j))):=by
     have:=List.sizeOf_lt_of_mem (List.mem_map.2 ⟨i.1,List.mem_range.2 i.2,rfl⟩:D i.1∈(List.range len).map D)
     simp only[DataW.slice.sizeOf_spec];omega
    obtain⟨o,rfl,hok⟩:=hopen _ _ _ hsz ht1 (Ht (List.mem_map.2 ⟨i.1,List.mem_range.2 i.2,rfl⟩) hw2)
    exact⟨o,hc1,hok⟩
   obtain⟨o,ho⟩:=Classical.axiomOfChoice Ls
   refine⟨_,List.ofFn o,hcs,⟨some a,m,by simp,by simpa using hl,by unfold maxLen at hm;simp;omega,λi x hx => ?_⟩,λx hx => ?_,?_⟩
   · have hi:i<len:=by have:=(List.getElem?_eq_some_iff.1 hx).1;simpa using this
     simp[hi]at hx
     subst hx
     have hcell:∀ j (hj:j<len) r (u:Value),(f (o ⟨j,hj⟩))[r]? = some u->W.cell? ((a.add (j * n)).add r)=some u:=by
      intro j hj r u hu
      obtain⟨_,_,hcc⟩:=World.cells?_some (ho ⟨j,hj⟩).1
      have hr:r<n:=by rw[← hfl (o ⟨j,hj⟩)];exact(List.getElem?_eq_some_iff.1 hu).1
      rw[hcc r hr];exact hu
     have hsp:a.spot=none:=by
      have hz:0<len:=by omega
      have h0:(f (o ⟨0,hz⟩))[0]? = some ((f (o ⟨0,hz⟩))[0]'(by rw[hfl];exact hn)):=List.getElem?_eq_getElem _
      have:=World.cell?_spot (hcell 0 hz 0 _ h0)
      simpa[Addr.add]using this
     obtain⟨b,off,spot⟩:=a
     simp only at hsp
     subst hsp
     refine⟨b,off,rfl,λr u hu => ?_⟩
     have:=hcell i hi r u hu
     rw[DR,DR]at this
     exact this
   · obtain⟨i,rfl⟩:=(List.mem_ofFn).1 hx
     exact(ho i).2
   · simp only[List.length_ofFn]
     refine Nat.le_trans ?_ hw1
     exact Nat.mul_le_mul_right _ (by omega)
theorem nK {n:Int} (h:(Lit.int .i64 n).wf=true):In64 n:=by
 simp only[Lit.wf,Bool.and_eq_true,decide_eq_true_eq]at h
 have e1:IntKind.i64.min = -9223372036854775808:=by decide
 have e2:IntKind.i64.max=9223372036854775807:=by decide
 rw[e1,e2]at h
 exact h
theorem Te {n:Int} (h:(Lit.int .u8 n).wf=true):0<=n/\n<=255:=by
 simp only[Lit.wf,Bool.and_eq_true,decide_eq_true_eq]at h
 have e1:IntKind.u8.min=0:=by decide
 have e2:IntKind.u8.max=255:=by decide
 rw[e1,e2]at h
 exact h
theorem Tryz.xW:Tryz.prog.cellsOf 9=1:=by kernel_rfl
theorem Tryz.vE:Tryz.prog.cellsOf 3=1:=by kernel_rfl
theorem Tryz.Ed:Tryz.prog.cellsOf 5=1:=by kernel_rfl
theorem Tryz.I5:Tryz.prog.cellsOf 75=3:=by kernel_rfl
theorem Tryz.Iz:Tryz.prog.cellsOf 89=4:=by kernel_rfl
theorem Tryz.OG:Tryz.prog.cellsOf 22=1:=by kernel_rfl
theorem Tryz.NU:Tryz.prog.cellsOf 31=1:=by kernel_rfl
theorem Tryz.NV:Tryz.prog.cellsOf 33=3:=by kernel_rfl
theorem Tryz.IA:Tryz.prog.cellsOf 26=4:=by kernel_rfl
theorem Tryz.YE:Tryz.prog.cellsOf 24=1:=by kernel_rfl
theorem Tryz.OH:Tryz.prog.cellsOf 48=6:=by kernel_rfl
set_option maxRecDepth 100000 in
theorem Px (fuel:Nat) (cs:List Value) (y:DataW H × List MemPlace) (h:DataW.trod enc Tryz.prog W 0 (λ_=>true) true fuel 75 cs=some y) (_:Wt 75 y.1):∃ a:aT,cs=a.cells/\(a.name.size<=9223372036854775807/\In64 a.len):=by
 obtain⟨xs,m,rfl,rfl,hcl,hxl,hf⟩:=DataW.trod_struct Tryz.underlying75 h
 rw[Tryz.I5]at hcl
 match cs,hcl with
 | [c0,c1,c2],_ =>
  match xs,hxl with
  | [x0,x1,x2],_ =>
   have f0:=hf 0 _ rfl
   have f1:=hf 1 _ rfl
   have f2:=hf 2 _ rfl
   simp[Tryz.xW,Tryz.vE,Tryz.Ed]at f0 f1 f2
   obtain⟨s,e0,_,hs⟩:=DataW.trod_string Tryz.underlying9 f0
   obtain⟨k,e1,_,_⟩:=DataW.trod_int Tryz.underlying5 f1
   obtain⟨n,e2,_,hn⟩:=DataW.trod_int Tryz.underlying3 f2
   simp at e0 e1 e2
   subst e0 e1 e2
   exact⟨⟨s,k,n⟩,rfl,by unfold maxLen at hs;exact hs,nK hn⟩
set_option maxRecDepth 100000 in
theorem OI (fuel:Nat) (cs:List Value) (y:DataW H × List MemPlace) (h:DataW.trod enc Tryz.prog W 0 (λ_=>true) true fuel 89 cs=some y) (_:Wt 89 y.1):∃ a:aI,cs=a.cells/\(a.name.size<=9223372036854775807/\In64 a.len/\In64 a.at'):=by
 obtain⟨xs,m,rfl,rfl,hcl,hxl,hf⟩:=DataW.trod_struct Tryz.underlying89 h
 rw[Tryz.Iz]at hcl
 match cs,hcl with
 | [c0,c1,c2,c3],_ =>
  match xs,hxl with
  | [x0,x1,x2,x3],_ =>
   have f0:=hf 0 _ rfl
   have f1:=hf 1 _ rfl
   have f2:=hf 2 _ rfl
   have f3:=hf 3 _ rfl
   simp[Tryz.xW,Tryz.vE,Tryz.Ed]at f0 f1 f2 f3
   obtain⟨s,e0,_,hs⟩:=DataW.trod_string Tryz.underlying9 f0
   obtain⟨k,e1,_,_⟩:=DataW.trod_int Tryz.underlying5 f1
   obtain⟨n,e2,_,hn⟩:=DataW.trod_int Tryz.underlying3 f2
   obtain⟨q,e3,_,hq⟩:=DataW.trod_int Tryz.underlying3 f3
   simp at e0 e1 e2 e3
   subst e0 e1 e2 e3
   exact⟨⟨s,k,n,q⟩,rfl,by unfold maxLen at hs;exact hs,nK hn,nK hq⟩
set_option maxRecDepth 100000 in
theorem OJ:∀ (m:Nat) (fuel:Nat) (cs:List Value) (y:DataW H × List MemPlace),SizeOf.sizeOf y.1<=m->DataW.trod enc Tryz.prog W 0 (λ_=>true) true fuel 26 cs=some y->Wt 26 y.1->∃ x:aa,cs=x.cells/\fJ W x
 |0,_,_,y,hm,_,_=>by
  obtain⟨y,z⟩:=y
  cases y <;> simp at hm
 |m+1,fuel,cs,y,hm,h,hw=>by
  obtain⟨xs,n',rfl,rfl,hcl,hxl,hf⟩:=DataW.trod_struct Tryz.underlying26 h
  rw[Tryz.IA]at hcl
  match cs,hcl with
  | [c0,c1,c2,c3],_ =>
   match xs,hxl with
   | [x0,x1,x2,x3],_ =>
    have f0:=hf 0 _ rfl
    have f1:=hf 1 _ rfl
    have f2:=hf 2 _ rfl
    have f3:=hf 3 _ rfl
    simp[Tryz.xW,Tryz.vE,Tryz.Ed,Tryz.YE]at f0 f1 f2 f3
    simp only[Wt,DataW.weights,Tryz.underlying26,List.map_cons,List.map_nil,DataW.weightsEach,List.all_append,Bool.and_eq_true]at hw
    obtain⟨_,_,_,hw3,_⟩:=hw
    obtain⟨k,e0,_,hk⟩:=DataW.trod_int Tryz.underlying5 f0
    obtain⟨n,e1,_,hn⟩:=DataW.trod_int Tryz.underlying3 f1
    obtain⟨s,e2,_,hs⟩:=DataW.trod_string Tryz.underlying9 f2
    have dR:SizeOf.sizeOf x3.1<=m:=by
     simp only[List.map_cons,List.map_nil,DataW.agg.sizeOf_spec,List.cons.sizeOf_spec]at hm
     omega
    obtain⟨kv,kids,e3,hr,ho,_⟩:=Zk aa.cells 4 Tryz.underlying24 Tryz.IA (by decide) (λa=>by cases a;rfl) (fJ W) (λfuel cs y hlt h1 h2=>OJ m fuel cs y (by omega) h1 h2) f3 hw3
    simp at e0 e1 e2 e3
    subst e0 e1 e2 e3
    exact⟨.mk k n s _ kids,rfl,.mk (Te hk) (nK hn) (by unfold maxLen at hs;exact hs) hr ho⟩
set_option maxRecDepth 100000 in
theorem age (fuel:Nat) (cs:List Value) (y:DataW H × List MemPlace) (h:DataW.trod enc Tryz.prog W 0 (λ_=>true) true fuel 33 cs=some y) (hw:Wt 33 y.1):∃ (sv:Value) (f:fe),cs=[sv,.int .i64 f.cells,.int .i64 f.stacks]/\mE W sv f/\∀ s∈f.slots,In64 s.at':=by
 obtain⟨xs,m,rfl,rfl,hcl,hxl,hf⟩:=DataW.trod_struct Tryz.underlying33 h
 rw[Tryz.NV]at hcl
 match cs,hcl with
 | [c0,c1,c2],_ =>
  match xs,hxl with
  | [x0,x1,x2],_ =>
   have f0:=hf 0 _ rfl
   have f1:=hf 1 _ rfl
   have f2:=hf 2 _ rfl
   simp[Tryz.vE,Tryz.NU]at f0 f1 f2
   simp only[Wt,DataW.weights,Tryz.underlying33,List.map_cons,List.map_nil,DataW.weightsEach,List.all_append,Bool.and_eq_true]at hw
   obtain⟨sv,ss,e0,hsl,hso,_⟩:=open_row aI.cells 4 Tryz.underlying31 Tryz.Iz (by decide) (λ_=>rfl) _ OI f0 hw.1
   obtain⟨cl,e1,_,_⟩:=DataW.trod_int Tryz.underlying3 f1
   obtain⟨st,e2,_,_⟩:=DataW.trod_int Tryz.underlying3 f2
   simp at e0 e1 e2
   subst e0 e1 e2
   exact⟨_,⟨ss,cl,st⟩,rfl,⟨hsl⟩,λs hs=>(hso s hs).2.2⟩
set_option maxRecDepth 100000 in
theorem Zl (fuel:Nat) (cs:List Value) (y:DataW H × List MemPlace) (h:DataW.trod enc Tryz.prog W 0 (λ_=>true) true fuel 48 cs=some y) (hw:Wt 48 y.1):∃ p:aM,cs=p.cells/\qV W p:=by
 obtain⟨xs,m,rfl,rfl,hcl,hxl,hf⟩:=DataW.trod_struct Tryz.underlying48 h
 rw[Tryz.OH]at hcl
 match cs,hcl with
 | [c0,c1,c2,c3,c4,c5],_ =>
  match xs,hxl with
  | [x0,x1,x2],_ =>
   have f0:=hf 0 _ rfl
   have f1:=hf 1 _ rfl
   have f2:=hf 2 _ rfl
   simp[Tryz.xW,Tryz.OG,Tryz.IA]at f0 f1 f2
   simp only[Wt,DataW.weights,Tryz.underlying48,List.map_cons,List.map_nil,DataW.weightsEach,List.all_append,Bool.and_eq_true]at hw
   obtain⟨s,e0,_,hs⟩:=DataW.trod_string Tryz.underlying9 f0
   obtain⟨pv,ps,e1,hp,hpo,_⟩:=open_row aT.cells 3 Tryz.underlying22 Tryz.I5 (by decide) (λ_=>rfl) _ Px f1 hw.2.1
   obtain⟨x,e2,hx⟩:=OJ _ _ _ _ (Nat.le_refl _) f2 hw.2.2.1
   simp at e0 e1
   subst e0 e1
   exact⟨⟨s,ps,_,x⟩,by rw[aM.cells,← e2],⟨by unfold maxLen at hs;exact hs,hp,hx⟩⟩
set_option maxRecDepth 100000 in
theorem agf (fuel:Nat) (cs:List Value) (y:DataW H × List MemPlace) (h:DataW.trod enc Tryz.prog W 0 (λ_=>true) true fuel 23 cs=some y) (hw:Wt 23 y.1):∃ v l,cs=[v]/\su W v l:=by
 obtain⟨v,l,e,hr,ho,_⟩:=open_row aM.cells 6 Tryz.underlying23 Tryz.OH (by decide) (λp=>by obtain⟨s,ps,pv,b⟩:=p;cases b;rfl) _ Zl h hw
 exact⟨v,l,e,hr,ho⟩
end
end
section
open Go.RowKit Go.Deep Go.Instr
theorem Tryz.Py:Tryz.prog.cellsOf 69=5:=by kernel_rfl
theorem Tryz.Pz:Tryz.prog.cellsOf 67=2:=by kernel_rfl
theorem Tryz._D:Tryz.prog.cellsOf 39=7:=by kernel_rfl
theorem Tryz.Zm:Tryz.prog.cellsOf 34=1:=by kernel_rfl
theorem Tryz.Zn:Tryz.prog.cellsOf 35=1:=by kernel_rfl
theorem Tryz.YF:Tryz.prog.cellsOf 37=2:=by kernel_rfl
theorem Tryz.Zo:Tryz.prog.bytesOf 89=40:=by kernel_rfl
section
variable {H:Type} {enc:TypeId × Value->H} {W:World}
set_option maxRecDepth 100000 in
theorem _E (fuel:Nat) (cs:List Value) (y:DataW H × List MemPlace) (h:DataW.trod enc Tryz.prog W 0 (λ_=>true) true fuel 69 cs=some y) (_:Wt 69 y.1):∃ a:Ins,cs=a.cells/\Ke a:=by
 obtain⟨xs,m,rfl,rfl,hcl,hxl,hf⟩:=DataW.trod_struct Tryz.underlying69 h
 rw[Tryz.Py]at hcl
 match cs,hcl with
 | [c0,c1,c2,c3,c4],_ =>
  match xs,hxl with
  | [x0,x1,x2,x3,x4],_ =>
   have f0:=hf 0 _ rfl
   have f1:=hf 1 _ rfl
   have f2:=hf 2 _ rfl
   have f3:=hf 3 _ rfl
   have f4:=hf 4 _ rfl
   simp[Tryz.vE,Tryz.Ed]at f0 f1 f2 f3 f4
   obtain⟨a,e0,_,ha⟩:=DataW.trod_int Tryz.underlying5 f0
   obtain⟨b,e1,_,hb⟩:=DataW.trod_int Tryz.underlying3 f1
   obtain⟨c,e2,_,hc⟩:=DataW.trod_int Tryz.underlying3 f2
   obtain⟨d,e3,_,hd⟩:=DataW.trod_int Tryz.underlying3 f3
   obtain⟨e,e4,_,he⟩:=DataW.trod_int Tryz.underlying3 f4
   simp at e0 e1 e2 e3 e4
   subst e0 e1 e2 e3 e4
   exact⟨⟨a,b,c,d,e⟩,rfl,Te ha,nK hb,nK hc,nK hd,nK he⟩
set_option maxRecDepth 100000 in
theorem _F (fuel:Nat) (cs:List Value) (y:DataW H × List MemPlace) (h:DataW.trod enc Tryz.prog W 0 (λ_=>true) true fuel 67 cs=some y) (_:Wt 67 y.1):∃ a:cB,cs=a.cells/\(a.name.size<=9223372036854775807/\In64 a.at'):=by
 obtain⟨xs,m,rfl,rfl,hcl,hxl,hf⟩:=DataW.trod_struct Tryz.underlying67 h
 rw[Tryz.Pz]at hcl
 match cs,hcl with
 | [c0,c1],_ =>
  match xs,hxl with
  | [x0,x1],_ =>
   have f0:=hf 0 _ rfl
   have f1:=hf 1 _ rfl
   simp[Tryz.vE,Tryz.xW]at f0 f1
   obtain⟨a,e0,_,ha⟩:=DataW.trod_int Tryz.underlying3 f0
   obtain⟨s,e1,_,hs⟩:=DataW.trod_string Tryz.underlying9 f1
   simp at e0 e1
   subst e0 e1
   exact⟨⟨a,s⟩,rfl,by unfold maxLen at hs;exact hs,nK ha⟩
set_option maxRecDepth 100000 in
theorem _G (fuel:Nat) (cs:List Value) (y:DataW H × List MemPlace) (h:DataW.trod enc Tryz.prog W 0 (λ_=>true) true fuel 39 cs=some y) (hw:Wt 39 y.1):∃ o:gT,cs=o.cells/\lS W o:=by
 obtain⟨xs,m,rfl,rfl,hcl,hxl,hf⟩:=DataW.trod_struct Tryz.underlying39 h
 rw[Tryz._D]at hcl
 match cs,hcl with
 | [c0,c1,c2,c3,c4,c5,c6],_ =>
  match xs,hxl with
  | [x0,x1,x2,x3],_ =>
   have f0:=hf 0 _ rfl
   have f1:=hf 1 _ rfl
   have f2:=hf 2 _ rfl
   have f3:=hf 3 _ rfl
   simp[Tryz.xW,Tryz.OG,Tryz.NV,Tryz.YF]at f0 f1 f2 f3
   simp only[Wt,DataW.weights,Tryz.underlying39,List.map_cons,List.map_nil,DataW.weightsEach,List.all_append,Bool.and_eq_true]at hw
   obtain⟨_,hw1,hw2,hw3,_⟩:=hw
   obtain⟨s,e0,_,hs⟩:=DataW.trod_string Tryz.underlying9 f0
   obtain⟨pv,ps,e1,hp,hpo,_⟩:=open_row aT.cells 3 Tryz.underlying22 Tryz.I5 (by decide) (λ_=>rfl) _ Px f1 hw1
   obtain⟨xs2,m2,rfl,rfl,ahd,aee,hf2⟩:=DataW.trod_struct Tryz.underlying33 f2
   obtain⟨xs3,m3,-,rfl,ahe,aef,hf3⟩:=DataW.trod_struct Tryz.underlying37 f3
   match xs2,aee with
   | [u0,u1,u2],_ =>
    match xs3,aef with
    | [t0,t1],_ =>
     have g0:=hf2 0 _ rfl
     have g1:=hf2 1 _ rfl
     have g2:=hf2 2 _ rfl
     have k0:=hf3 0 _ rfl
     have k1:=hf3 1 _ rfl
     simp[Tryz.vE,Tryz.NU,Tryz.Zm,Tryz.Zn]at g0 g1 g2 k0 k1
     simp only[DataW.weights,Tryz.underlying33,List.map_cons,List.map_nil,DataW.weightsEach,List.all_append,Bool.and_eq_true]at hw2
     simp only[DataW.weights,Tryz.underlying37,List.map_cons,List.map_nil,DataW.weightsEach,List.all_append,Bool.and_eq_true]at hw3
     obtain⟨sv,ss,e2,hsl,hso,hsb⟩:=open_row aI.cells 4 Tryz.underlying31 Tryz.Iz (by decide) (λ_=>rfl) _ OI g0 hw2.1
     obtain⟨cl,e3,_,aeg⟩:=DataW.trod_int Tryz.underlying3 g1
     obtain⟨st,e4,_,aeh⟩:=DataW.trod_int Tryz.underlying3 g2
     obtain⟨cv,co,e5,hco,aei,_⟩:=open_row Ins.cells 5 Tryz.underlying34 Tryz.Py (by decide) (λ_=>rfl) _ _E k0 hw3.1
     obtain⟨rv,rf,e6,hrf,aej,_⟩:=open_row cB.cells 2 Tryz.underlying35 Tryz.Pz (by decide) (λ_=>rfl) _ _F k1 hw3.2.1
     simp at e0 e1 e2 e3 e4 e5 e6
     subst e0 e1 e2 e3 e4 e5 e6
     rw[Tryz.Zo]at hsb
     unfold reachBytes at hsb
     exact⟨⟨⟨s,ps,ss,cl,st,co,rf⟩,c1,c2,c5,c6⟩,rfl,⟨by unfold maxLen at hs;exact hs,hpo,hso,nK aeg,nK aeh,aei,aej,by simp only;omega⟩,hp,hsl,hco,hrf⟩
end
end
end Go.Proofs.YtadecgbblajifaaGreatDoor
namespace Go.Proofs.YtadecgbblajifaaGreatDoor.objectEncodes
open Go.ChangeShapes Go.WideShapes Go.ChangeAt Go.RowKit Go.Deep
theorem own:ownKnob Tryz.prog.godebug=none:=by kernel_rfl
theorem laidOut:laidOutB Tryz.prog=true:=by kernel_rfl
set_option maxRecDepth 100000 in
theorem contract (H:Type) (enc:TypeId × Value->H) (W:World) (base:Nat) (args:Array Value) (ds gs:List (DataW H)) (before:List MemPlace)
 (hval0:∀ (j:Nat) t v,Tryz.f5.params[j]? = some t->args[j]? = some v->Value.okWide Tryz.prog W .any base t v)
 (hW:DataW.Whole enc Tryz.prog Tryz.f5.params.toList Rows.objectEncodesSpec.vars false W args.toList ds gs before)
 (hwt:(DataW.weightsEach Tryz.prog (Tryz.f5.params.toList ++ Rows.objectEncodesSpec.plain.varTypes Tryz.prog) (ds ++ gs)).all (· <= reachBytes)=true) (hL:laidMetH Tryz.prog qK W) :
 Calls Tryz.prog 5 args W λe W'=>∃ v,e = .returned v/\Rows.objectEncodesSpec.post enc Tryz.prog Tryz.f5 false true false false W args v W':=by
 have hval:∀ (j:Nat) t v,Tryz.f5.params[j]? = some t->args[j]? = some v->Value.okWide Tryz.prog W .any base t v:=hval0
 have hW':=hW
 obtain⟨p,q,GG,hV,rfl,hfz,hnd⟩:=hW
 have hA:DataW.TrodAll enc Tryz.prog W 0 (λ_=>true) true Tryz.f5.params.toList args.toList ds p:=GG
 rw[Tryz.params5]at hA hval hwt
 obtain⟨v0,vs0,d0,ds0,p0,q0,hargs,rfl,rfl,h0,r0⟩:=trodAll_cons hA
 obtain⟨rfl,rfl,rfl⟩:=trodAll_nil r0
 obtain rfl:args=#[v0]:=by cases args;simp_all
 obtain⟨rfl,rfl⟩:=trodVars_none hV
 obtain⟨cs0,rfl,ahf⟩:=okWide_struct Tryz.underlying39 (hval 0 39 v0 rfl rfl)
 have k0:=h0
 have lt0:∀ x∈p0,x.block<W.heap.size:=by obtain⟨m,hm⟩:=k0;exact DataW.trod_lt m _ _ _ hm
 simp only[List.cons_append,List.nil_append,List.append_nil,DataW.weightsEach,List.all_append,Bool.and_eq_true]at hwt
 obtain⟨f0,g0⟩:=h0
 obtain⟨o,ho,hoa⟩:=_G f0 _ _ g0 hwt.1
 obtain rfl:cs0=#[.string o.d.name,o.pv,o.sv,.int .i64 o.d.cells,.int .i64 o.d.stacks,o.cv,o.rv]:=Array.toList_inj.1 ho
 clear GG hval0
 refine(DV.Xq o W hoa (_B hL) (_C hL)).mono λe W' ⟨he,h2,h3,h4⟩ => ?_
 have hg:Mv (λ_=>False) W W':=⟨h4.os,h4.tape,h4.output,h3,λb hb _=>h2 b hb⟩
 subst he
 have WW:Below W.heap.size W W':=⟨hg.os,hg.tape,hg.output,hg.size,λj hj=>hg.block j hj (λh=>h)⟩
 exact⟨_,rfl,_,_,_,[],_,[],hW',trodAll_mk1 (shut_bool Tryz.underlying4 _),(trodAll_cons_mk (Below.trod laidOut (by kernel_rfl) (of_decide_eq_true (by kernel_rfl)) k0 WW lt0) trodAll_mk0),rfl,WW.frame _,λh=>by cases h⟩
set_option maxRecDepth 100000 in
theorem lifted (os:Os) (started:os.Started) (H:Type) (enc:TypeId × Value->H) :
 ReturnsInHanded {} Tryz.checked os 5 .any (λw args=>(Rows.objectEncodesSpec.pre enc Tryz.prog Tryz.f5 [] false w args/\laidMetH Tryz.prog qK w)/\sizedMet enc Tryz.prog Tryz.f5 (OpenSpec.ofChange Rows.objectEncodesSpec) false w args)
  (Rows.objectEncodesSpec.post enc Tryz.prog Tryz.f5 false true false false):=by
 refine returnsInHanded_of_change_and (C:=Tryz.checked) (X:=λw _=>laidMetH Tryz.prog qK w) (λ_ _ _ hh h=>h.of_heap hh) own started (by kernel_rfl) Tryz.func5
  (ChangeSpec.witness_shaped (enc:=enc) (C:=Tryz.checked) (os:=os) (X:=λw _=>laidMetH Tryz.prog qK w) false (World.doorLaid Tryz.prog 400 os) #[.agg #[.string ⟨#[]⟩,.slice none 0 0,.slice none 0 0,.int .i64 0,.int .i64 0,.slice none 0 0,.slice none 0 0]] 8 rfl (World.shaped_of_RefB (by kernel_rfl) (by kernel_rfl)) (by kernel_rfl) (by kernel_rfl) (by kernel_rfl) (_A os _)) ?_
 intro W base args ds gs before hval hW _ hwt hL _
 exact contract H enc W base args ds gs before hval hW hwt hL
end Go.Proofs.YtadecgbblajifaaGreatDoor.objectEncodes
namespace Go.Proofs.YtadecgbblajifaaGreatDoor
end Go.Proofs.YtadecgbblajifaaGreatDoor
