import Derived.Test.YtnobahchcongnaaGreatDoorQ48
import Derived.ProofKit
import Derived.OpenShut
import Derived.Deep.Slices
import Derived.Below
set_option linter.unusedSimpArgs false
set_option linter.unusedVariables false
set_option maxRecDepth 100000
set_option maxHeartbeats 25600000
namespace Go.Proofs.YtnobahchcongnaaGreatDoor
section
open Go.RowKit Go.Deep Go.Instr
theorem zW (b off k:Nat):(⟨b,off,none⟩:Addr).add k=⟨b,off+k,none⟩:=by unfold Addr.add;split <;> simp_all
section
variable {H:Type} {enc:TypeId × Value→H} {W:World}
abbrev Wt (t:TypeId) (d:DataW H):Prop:=(d.weights Tryz.prog t).all (· ≤ reachBytes)=true
theorem G7 {e:TypeId} : ∀ {l:List (DataW H)} {d:DataW H},d∈l→(DataW.weightsAll Tryz.prog e l).all (· ≤ reachBytes)=true→Wt e d
 | [],d,h,_=>by cases h
 | x :: r,d,h,hw=>by
  simp only [DataW.weightsAll,List.all_append,Bool.and_eq_true] at hw;rcases List.mem_cons.1 h with rfl | h
  · exact hw.1
  · exact G7 h hw.2
theorem open_row {α:Type} (f:α→List Value) (n:Nat) {t e:TypeId} (ht:Tryz.prog.underlying t=some (.slice e)) (hc:Tryz.prog.cellsOf e=n) (hn:0<n) (hfl:∀ a,(f a).length=n) (Ok:α→Prop)
 (hopen:∀ (fuel:Nat) (cs:List Value) (y:DataW H × List MemPlace),DataW.trod enc Tryz.prog W 0 (fun _=>true) true fuel e cs=some y→Wt e y.1→∃ a,cs=f a∧Ok a)
 {fuel:Nat} {cs:List Value} {x:DataW H × List MemPlace} (h:DataW.trod enc Tryz.prog W 0 (fun _=>true) true fuel t cs=some x) (hw:Wt t x.1) :
 ∃ v l,cs=[v]∧ax n f W v l∧(∀ a∈l,Ok a)∧l.length * Tryz.prog.bytesOf e≤reachBytes:=by
 rcases open_slice ht h with ⟨hcs,hx⟩ | ⟨a,len,cap,m,k,D,Pl,hcs,_,hl,hm,hme,hx,hel⟩
 · exact ⟨_,[],hcs,ax.nil _ _ _,by simp,by simp⟩
 · simp only [if_true] at hme;subst hme;subst hx;simp only [Wt,DataW.weights,ht,List.all_cons,List.all_append,Bool.and_eq_true,decide_eq_true_eq,List.length_map,List.length_range] at hw;obtain ⟨hw1,hw2,hw3⟩:=hw;rw [hc] at hel;have Kl:∀ i:Fin len,∃ o:α,W.cells? 0 (a.add (i.1 * n)) n=some (f o)∧Ok o:=by
    intro i;obtain ⟨cs',hc1,ht1⟩:=hel i.1 (by have:=i.2;omega);obtain ⟨o,rfl,hok⟩:=hopen _ _ _ ht1 (G7 (List.mem_map.2 ⟨i.1,List.mem_range.2 i.2,rfl⟩) hw2);exact ⟨o,hc1,hok⟩
   obtain ⟨o,ho⟩:=Classical.axiomOfChoice Kl;refine ⟨_,List.ofFn o,hcs,⟨some a,m,by simp,by simpa using hl,by unfold maxLen at hm;simp;omega,fun i x hx => ?_⟩,fun x hx => ?_,?_⟩
   · have hi:i<len:=by have:=(List.getElem?_eq_some_iff.1 hx).1;simpa using this
     simp [hi] at hx;subst hx;have hcell:∀ j (hj:j<len) r (u:Value),(f (o ⟨j,hj⟩))[r]? = some u→W.cell? ((a.add (j * n)).add r)=some u:=by
      intro j hj r u hu;obtain ⟨_,_,hcc⟩:=World.cells?_some (ho ⟨j,hj⟩).1;have hr:r<n:=by rw [← hfl (o ⟨j,hj⟩)];exact (List.getElem?_eq_some_iff.1 hu).1
      rw [hcc r hr];exact hu
     have hsp:a.spot=none:=by
      have hz:0<len:=by omega
      have h0:(f (o ⟨0,hz⟩))[0]? = some ((f (o ⟨0,hz⟩))[0]'(by rw [hfl];exact hn)):=List.getElem?_eq_getElem _;have:=World.cell?_spot (hcell 0 hz 0 _ h0)
      simpa [Addr.add] using this
     obtain ⟨b,off,spot⟩:=a;simp only at hsp;subst hsp;refine ⟨b,off,rfl,fun r u hu => ?_⟩;have:=hcell i hi r u hu;rw [zW,zW] at this;exact this
   · obtain ⟨i,rfl⟩:=(List.mem_ofFn).1 hx;exact (ho i).2
   · simp only [List.length_ofFn];refine Nat.le_trans ?_ hw1;exact Nat.mul_le_mul_right _ (by omega)
theorem Xd {α:Type} (f:α→List Value) (n:Nat) {t e:TypeId} (ht:Tryz.prog.underlying t=some (.slice e)) (hc:Tryz.prog.cellsOf e=n) (hn:0<n) (hfl:∀ a,(f a).length=n) (Ok:α→Prop)
 {x:DataW H × List MemPlace} (hopen:∀ (fuel:Nat) (cs:List Value) (y:DataW H × List MemPlace),SizeOf.sizeOf y.1<SizeOf.sizeOf x.1→DataW.trod enc Tryz.prog W 0 (fun _=>true) true fuel e cs=some y→Wt e y.1→∃ a,cs=f a∧Ok a)
 {fuel:Nat} {cs:List Value} (h:DataW.trod enc Tryz.prog W 0 (fun _=>true) true fuel t cs=some x) (hw:Wt t x.1) :
 ∃ v l,cs=[v]∧ax n f W v l∧(∀ a∈l,Ok a)∧l.length * Tryz.prog.bytesOf e≤reachBytes:=by
 rcases open_slice ht h with ⟨hcs,hx⟩ | ⟨a,len,cap,m,k,D,Pl,hcs,_,hl,hm,hme,hx,hel⟩
 · exact ⟨_,[],hcs,ax.nil _ _ _,by simp,by simp⟩
 · simp only [if_true] at hme;subst hme;subst hx;simp only [Wt,DataW.weights,ht,List.all_cons,List.all_append,Bool.and_eq_true,decide_eq_true_eq,List.length_map,List.length_range] at hw;obtain ⟨hw1,hw2,hw3⟩:=hw;rw [hc] at hel;have Kl:∀ i:Fin len,∃ o:α,W.cells? 0 (a.add (i.1 * n)) n=some (f o)∧Ok o:=by
    intro i;obtain ⟨cs',hc1,ht1⟩:=hel i.1 (by have:=i.2;omega);have hsz:SizeOf.sizeOf (D i.1)<SizeOf.sizeOf (DataW.slice ((List.range len).map D) ((List.range (m - len)).map fun j=>D (len+j))):=by
     have:=List.sizeOf_lt_of_mem (List.mem_map.2 ⟨i.1,List.mem_range.2 i.2,rfl⟩:D i.1∈(List.range len).map D);simp only [DataW.slice.sizeOf_spec];omega
    obtain ⟨o,rfl,hok⟩:=hopen _ _ _ hsz ht1 (G7 (List.mem_map.2 ⟨i.1,List.mem_range.2 i.2,rfl⟩) hw2);exact ⟨o,hc1,hok⟩
   obtain ⟨o,ho⟩:=Classical.axiomOfChoice Kl;refine ⟨_,List.ofFn o,hcs,⟨some a,m,by simp,by simpa using hl,by unfold maxLen at hm;simp;omega,fun i x hx => ?_⟩,fun x hx => ?_,?_⟩
   · have hi:i<len:=by have:=(List.getElem?_eq_some_iff.1 hx).1;simpa using this
     simp [hi] at hx;subst hx;have hcell:∀ j (hj:j<len) r (u:Value),(f (o ⟨j,hj⟩))[r]? = some u→W.cell? ((a.add (j * n)).add r)=some u:=by
      intro j hj r u hu;obtain ⟨_,_,hcc⟩:=World.cells?_some (ho ⟨j,hj⟩).1;have hr:r<n:=by rw [← hfl (o ⟨j,hj⟩)];exact (List.getElem?_eq_some_iff.1 hu).1
      rw [hcc r hr];exact hu
     have hsp:a.spot=none:=by
      have hz:0<len:=by omega
      have h0:(f (o ⟨0,hz⟩))[0]? = some ((f (o ⟨0,hz⟩))[0]'(by rw [hfl];exact hn)):=List.getElem?_eq_getElem _;have:=World.cell?_spot (hcell 0 hz 0 _ h0)
      simpa [Addr.add] using this
     obtain ⟨b,off,spot⟩:=a;simp only at hsp;subst hsp;refine ⟨b,off,rfl,fun r u hu => ?_⟩;have:=hcell i hi r u hu;rw [zW,zW] at this;exact this
   · obtain ⟨i,rfl⟩:=(List.mem_ofFn).1 hx;exact (ho i).2
   · simp only [List.length_ofFn];refine Nat.le_trans ?_ hw1;exact Nat.mul_le_mul_right _ (by omega)
theorem EH {n:Int} (h:(Lit.int .i64 n).wf=true):In64 n:=by
 simp only [Lit.wf,Bool.and_eq_true,decide_eq_true_eq] at h;have e1:IntKind.i64.min = -9223372036854775808:=by decide
 have e2:IntKind.i64.max=9223372036854775807:=by decide
 rw [e1,e2] at h;exact h
theorem P9 {n:Int} (h:(Lit.int .u8 n).wf=true):0≤n∧n≤255:=by
 simp only [Lit.wf,Bool.and_eq_true,decide_eq_true_eq] at h;have e1:IntKind.u8.min=0:=by decide
 have e2:IntKind.u8.max=255:=by decide
 rw [e1,e2] at h;exact h
theorem Tryz.EI:Tryz.prog.cellsOf 9=1:=by kernel_rfl
theorem Tryz.Bo:Tryz.prog.cellsOf 3=1:=by kernel_rfl
theorem Tryz.Ja:Tryz.prog.cellsOf 5=1:=by kernel_rfl
theorem Tryz.Oy:Tryz.prog.cellsOf 50=3:=by kernel_rfl
theorem Tryz.NS:Tryz.prog.cellsOf 95=4:=by kernel_rfl
theorem Tryz.Xe:Tryz.prog.cellsOf 51=1:=by kernel_rfl
theorem Tryz.V7:Tryz.prog.cellsOf 25=1:=by kernel_rfl
theorem Tryz.V8:Tryz.prog.cellsOf 27=3:=by kernel_rfl
theorem Tryz.IA:Tryz.prog.cellsOf 24=4:=by kernel_rfl
theorem Tryz.V9:Tryz.prog.cellsOf 22=1:=by kernel_rfl
theorem Tryz.NT:Tryz.prog.cellsOf 60=6:=by kernel_rfl
theorem X5 (fuel:Nat) (cs:List Value) (y:DataW H × List MemPlace) (h:DataW.trod enc Tryz.prog W 0 (fun _=>true) true fuel 50 cs=some y) (_:Wt 50 y.1):∃ a:bq,cs=a.cells∧(a.name.size≤9223372036854775807∧In64 a.len):=by
 obtain ⟨xs,m,rfl,rfl,hcl,hxl,hf⟩:=DataW.trod_struct Tryz.underlying50 h;rw [Tryz.Oy] at hcl
 match cs,hcl with
 | [c0,c1,c2],_ =>
  match xs,hxl with
  | [x0,x1,x2],_ =>
   have f0:=hf 0 _ rfl;have f1:=hf 1 _ rfl;have f2:=hf 2 _ rfl;simp [Tryz.EI,Tryz.Bo,Tryz.Ja] at f0 f1 f2;obtain ⟨s,e0,_,hs⟩:=DataW.trod_string Tryz.underlying9 f0;obtain ⟨k,e1,_,_⟩:=DataW.trod_int Tryz.underlying5 f1;obtain ⟨n,e2,_,hn⟩:=DataW.trod_int Tryz.underlying3 f2;simp at e0 e1 e2;subst e0 e1 e2;exact ⟨⟨s,k,n⟩,rfl,by unfold maxLen at hs;exact hs,EH hn⟩
theorem Xf (fuel:Nat) (cs:List Value) (y:DataW H × List MemPlace) (h:DataW.trod enc Tryz.prog W 0 (fun _=>true) true fuel 95 cs=some y) (_:Wt 95 y.1):∃ a:dF,cs=a.cells∧(a.name.size≤9223372036854775807∧In64 a.len∧In64 a.at'):=by
 obtain ⟨xs,m,rfl,rfl,hcl,hxl,hf⟩:=DataW.trod_struct Tryz.underlying95 h;rw [Tryz.NS] at hcl
 match cs,hcl with
 | [c0,c1,c2,c3],_ =>
  match xs,hxl with
  | [x0,x1,x2,x3],_ =>
   have f0:=hf 0 _ rfl;have f1:=hf 1 _ rfl;have f2:=hf 2 _ rfl;have f3:=hf 3 _ rfl;simp [Tryz.EI,Tryz.Bo,Tryz.Ja] at f0 f1 f2 f3;obtain ⟨s,e0,_,hs⟩:=DataW.trod_string Tryz.underlying9 f0;obtain ⟨k,e1,_,_⟩:=DataW.trod_int Tryz.underlying5 f1;obtain ⟨n,e2,_,hn⟩:=DataW.trod_int Tryz.underlying3 f2;obtain ⟨q,e3,_,hq⟩:=DataW.trod_int Tryz.underlying3 f3;simp at e0 e1 e2 e3;subst e0 e1 e2 e3;exact ⟨⟨s,k,n,q⟩,rfl,by unfold maxLen at hs;exact hs,EH hn,EH hq⟩
theorem IB:∀ (m:Nat) (fuel:Nat) (cs:List Value) (y:DataW H × List MemPlace),SizeOf.sizeOf y.1≤m→DataW.trod enc Tryz.prog W 0 (fun _=>true) true fuel 24 cs=some y→Wt 24 y.1→∃ x:ae,cs=x.cells∧aV W x
 | 0,_,_,y,hm,_,_=>by
  obtain ⟨y,z⟩:=y;cases y <;> simp at hm
 | m+1,fuel,cs,y,hm,h,hw=>by
  obtain ⟨xs,n',rfl,rfl,hcl,hxl,hf⟩:=DataW.trod_struct Tryz.underlying24 h;rw [Tryz.IA] at hcl
  match cs,hcl with
  | [c0,c1,c2,c3],_ =>
   match xs,hxl with
   | [x0,x1,x2,x3],_ =>
    have f0:=hf 0 _ rfl;have f1:=hf 1 _ rfl;have f2:=hf 2 _ rfl;have f3:=hf 3 _ rfl;simp [Tryz.EI,Tryz.Bo,Tryz.Ja,Tryz.V9] at f0 f1 f2 f3;simp only [Wt,DataW.weights,Tryz.underlying24,List.map_cons,List.map_nil,DataW.weightsEach,List.all_append,Bool.and_eq_true] at hw;obtain ⟨_,_,_,hw3,_⟩:=hw;obtain ⟨k,e0,_,hk⟩:=DataW.trod_int Tryz.underlying5 f0;obtain ⟨n,e1,_,hn⟩:=DataW.trod_int Tryz.underlying3 f1;obtain ⟨s,e2,_,hs⟩:=DataW.trod_string Tryz.underlying9 f2;have jq:SizeOf.sizeOf x3.1≤m:=by
     simp only [List.map_cons,List.map_nil,DataW.agg.sizeOf_spec,List.cons.sizeOf_spec] at hm;omega
    obtain ⟨kv,kids,e3,hr,ho,_⟩:=Xd ae.cells 4 Tryz.underlying22 Tryz.IA (by decide) (fun a=>by cases a;rfl) (aV W) (fun fuel cs y hlt h1 h2=>IB m fuel cs y (by omega) h1 h2) f3 hw3;simp at e0 e1 e2 e3;subst e0 e1 e2 e3;exact ⟨.mk k n s _ kids,rfl,.mk (P9 hk) (EH hn) (by unfold maxLen at hs;exact hs) hr ho⟩
theorem Wd (fuel:Nat) (cs:List Value) (y:DataW H × List MemPlace) (h:DataW.trod enc Tryz.prog W 0 (fun _=>true) true fuel 27 cs=some y) (hw:Wt 27 y.1):∃ (sv:Value) (f:az),cs=[sv,.int .i64 f.cells,.int .i64 f.stacks]∧fF W sv f∧∀ s∈f.slots,In64 s.at':=by
 obtain ⟨xs,m,rfl,rfl,hcl,hxl,hf⟩:=DataW.trod_struct Tryz.underlying27 h;rw [Tryz.V8] at hcl
 match cs,hcl with
 | [c0,c1,c2],_ =>
  match xs,hxl with
  | [x0,x1,x2],_ =>
   have f0:=hf 0 _ rfl;have f1:=hf 1 _ rfl;have f2:=hf 2 _ rfl;simp [Tryz.Bo,Tryz.V7] at f0 f1 f2;simp only [Wt,DataW.weights,Tryz.underlying27,List.map_cons,List.map_nil,DataW.weightsEach,List.all_append,Bool.and_eq_true] at hw;obtain ⟨sv,ss,e0,hsl,hso,_⟩:=open_row dF.cells 4 Tryz.underlying25 Tryz.NS (by decide) (fun _=>rfl) _ Xf f0 hw.1;obtain ⟨cl,e1,_,_⟩:=DataW.trod_int Tryz.underlying3 f1;obtain ⟨st,e2,_,_⟩:=DataW.trod_int Tryz.underlying3 f2;simp at e0 e1 e2;subst e0 e1 e2;exact ⟨_,⟨ss,cl,st⟩,rfl,⟨hsl⟩,fun s hs=>(hso s hs).2.2⟩
theorem Xg (fuel:Nat) (cs:List Value) (y:DataW H × List MemPlace) (h:DataW.trod enc Tryz.prog W 0 (fun _=>true) true fuel 60 cs=some y) (hw:Wt 60 y.1):∃ p:aj,cs=p.cells∧vg W p:=by
 obtain ⟨xs,m,rfl,rfl,hcl,hxl,hf⟩:=DataW.trod_struct Tryz.underlying60 h;rw [Tryz.NT] at hcl
 match cs,hcl with
 | [c0,c1,c2,c3,c4,c5],_ =>
  match xs,hxl with
  | [x0,x1,x2],_ =>
   have f0:=hf 0 _ rfl;have f1:=hf 1 _ rfl;have f2:=hf 2 _ rfl;simp [Tryz.EI,Tryz.Xe,Tryz.IA] at f0 f1 f2;simp only [Wt,DataW.weights,Tryz.underlying60,List.map_cons,List.map_nil,DataW.weightsEach,List.all_append,Bool.and_eq_true] at hw;obtain ⟨s,e0,_,hs⟩:=DataW.trod_string Tryz.underlying9 f0;obtain ⟨pv,ps,e1,hp,hpo,_⟩:=open_row bq.cells 3 Tryz.underlying51 Tryz.Oy (by decide) (fun _=>rfl) _ X5 f1 hw.2.1;obtain ⟨x,e2,hx⟩:=IB _ _ _ _ (Nat.le_refl _) f2 hw.2.2.1;simp at e0 e1;subst e0 e1;exact ⟨⟨s,ps,_,x⟩,by rw [aj.cells,← e2],⟨by unfold maxLen at hs;exact hs,hp,hx⟩⟩
theorem We (fuel:Nat) (cs:List Value) (y:DataW H × List MemPlace) (h:DataW.trod enc Tryz.prog W 0 (fun _=>true) true fuel 28 cs=some y) (hw:Wt 28 y.1):∃ v l,cs=[v]∧lQ W v l:=by
 obtain ⟨v,l,e,hr,ho,_⟩:=open_row aj.cells 6 Tryz.underlying28 Tryz.NT (by decide) (fun p=>by obtain ⟨s,ps,pv,b⟩:=p;cases b;rfl) _ Xg h hw;exact ⟨v,l,e,hr,ho⟩
end
end
section
open Go.RowKit Go.Instr
theorem wrap_wrap (a b c:Int):wrap64 (wrap64 (a+b)+c)=wrap64 (a+(b+c)):=by
 unfold wrap64;omega
theorem qz (i:Ins) (t:Int):(i.dE t).op=i.op:=by
 unfold Ins.dE;split;rfl;split <;> rfl
theorem Oz {op:Int} (h:eG op=true):q8 op=true∨(q8 op=false∧uA op=true):=by
 simp only [eG,ig,iQ,Bool.or_eq_true,beq_iff_eq] at h;rcases h with (rfl | rfl | rfl) | rfl | rfl | rfl <;> decide
theorem xV {i:Ins} (h:eG i.op=true) (t:Int):(i.dE t).target=t:=by
 unfold Ins.target;rw [qz];unfold Ins.dE;rcases Oz h with h1 | ⟨h1,h2⟩
 · simp [h1]
 · simp [h1,h2]
theorem Ba (i:Ins) (t u:Int):(i.dE t).dE u=i.dE u:=by
 unfold Ins.dE;by_cases h1:q8 i.op=true
 · simp [h1]
 · by_cases h2:uA i.op=true
   · simp [h1,h2]
   · simp [h1,h2]
theorem tV (i:Ins) (a:Int):(i.shift a).op=i.op:=by
 unfold Ins.shift;split
 · exact qz _ _
 · rfl
theorem Vg (i:Ins) (a b:Int):(i.shift a).shift b=i.shift (a+b):=by
 by_cases h:eG i.op=true
 · have h1:i.shift a=i.dE (wrap64 (i.target+a)):=by unfold Ins.shift;rw [if_pos h]
   have h2:i.shift (a+b)=i.dE (wrap64 (i.target+(a+b))):=by unfold Ins.shift;rw [if_pos h]
   rw [h2];unfold Ins.shift;rw [if_pos (by rw [show (if eG i.op=true then i.dE (wrap64 (i.target+a)) else i)=i.shift a from rfl,tV];exact h)];rw [if_pos h,xV h,Ba,wrap_wrap]
 · have h1:∀ c,i.shift c=i:=fun c=>by unfold Ins.shift;rw [if_neg h]
   rw [h1,h1,h1]
theorem UD (l:List Ins) (a b:Int):bU (bU l a) b=bU l (a+b):=by
 simp only [bU,List.map_map];exact List.map_congr_left fun i _=>Vg i a b
theorem UE (l m:List Ins) (a:Int):bU (l ++ m) a=bU l a ++ bU m a:=by simp [bU]
theorem UT (r:bD) (a b:Int):(r.shift a).shift b=r.shift (a+b):=by
 simp only [bD.shift,wrap_wrap]
theorem Vh (p q r:aC):eZ (eZ p q) r=eZ p (eZ q r):=by
 have hl:((p.code ++ bU q.code p.code.length).length:Int)=(q.code.length:Int)+(p.code.length:Int):=by
  rw [List.length_append,uS];omega
 simp only [eZ,aC.mk.injEq];constructor
 · rw [hl,UE,UD,List.append_assoc]
 · rw [hl,List.map_append,List.map_map,List.append_assoc];congr 2;exact List.map_congr_left fun x _=>(UT x _ _).symm
theorem Wh (p:aC):eZ p cO=p:=by
 simp [eZ,cO,bU]
theorem Ze (l:List aC):∀ (p x:aC),l.foldl eZ (eZ p x)=eZ p (l.foldl eZ x):=by
 induction l with
 | nil=>intro p x;rfl
 | cons b l ih=>intro p x;rw [List.foldl_cons,List.foldl_cons,Vh,ih]
theorem Hz (l:List aC) (p:aC):eZ p (l.foldl eZ cO)=l.foldl eZ p:=by
 rw [← Ze,Wh]
theorem UU (a b:List aC):aK (a ++ b)=aK [aK a,aK b]:=by
 unfold aK;rw [List.foldl_append];simp only [List.foldl_cons,List.foldl_nil];rw [Hz a cO,Hz b]
theorem Ia (p:aC) (l:List aC):aK (p :: l)=eZ (eZ cO p) (aK l):=by
 unfold aK;rw [List.foldl_cons,Hz]
def kH (op:Int):Bool:=op == 30 || op == 31
def dX:List Ins→Nat→List Int
 | [],_=>[]
 | x :: l,o=>if kH x.op then (o:Int) :: dX l (o+1) else dX l (o+1)
theorem DW:∀ (l m:List Ins) (o:Nat),dX (l ++ m) o=dX l o ++ dX m (o+l.length)
 | [],m,o=>by simp [dX]
 | x :: l,m,o=>by
  simp only [List.cons_append,dX,DW l m (o+1),List.length_cons];rw [show o+1+l.length=o+(l.length+1) by omega];split <;> rfl
theorem Mm (a:Int):∀ (l:List Ins) (o:Nat),dX (bU l a) o=dX l o
 | [],o=>rfl
 | x :: l,o=>by
  have:=Mm a l (o+1);simp only [bU,List.map_cons] at this ⊢;simp only [dX,tV,this]
theorem MZ (n:Nat):∀ (l:List Ins) (o:Nat),dX l (o+n)=(dX l o).map (· + (n:Int))
 | [],o=>rfl
 | x :: l,o=>by
  have:=MZ n l (o+1);rw [show o+1+n=o+n+1 by omega] at this;simp only [dX,this];split
  · simp
  · rfl
theorem Eu:∀ (l:List Ins) (o:Nat),∀ c∈dX l o,(o:Int)≤c∧c<(o:Int)+l.length
 | [],o,c,h=>by simp [dX] at h
 | x :: l,o,c,h=>by
  have ih:=Eu l (o+1);simp only [dX] at h;rw [List.length_cons];split at h
  · rcases List.mem_cons.1 h with rfl | h
    · omega
    · have:=ih c h;omega
  · have:=ih c h;omega
theorem Na:∀ (l:List Ins) (o i:Nat) (x:Ins),l[i]? = some x→(((o+i:Nat):Int)∈dX l o↔kH x.op=true)
 | [],o,i,x,h=>by simp at h
 | y :: l,o,0,x,h=>by
  simp at h;subst h;simp only [dX,Nat.add_zero];split
  · simp [*]
  · constructor
    · intro hm;have:=Eu l (o+1) _ hm;omega
    · intro hc;exact absurd hc (by assumption)
 | y :: l,o,i+1,x,h=>by
  have ih:=Na l (o+1) i x (by simpa using h);rw [show o+1+i=o+(i+1) by omega] at ih;simp only [dX];split
  · rw [List.mem_cons,ih];constructor
    · rintro (h | h)
      · omega
      · exact h
    · exact .inr
  · exact ih
def qp (x y:Ins):Prop:=(ig x.op=true∧iQ y.op=true)∨(iQ x.op=true∧ig y.op=true)
theorem qp.symm {x y:Ins} (h:qp x y):qp y x:=h.elim (fun h => .inr ⟨h.2,h.1⟩) (fun h => .inl ⟨h.2,h.1⟩)
structure gp (S:Nat→Prop) (p:aC):Prop where
 op:∀ x∈p.code,0≤x.op∧x.op<32
 val:∀ i x,p.code[i]? = some x→¬ S i→x.iJ=true
 ex:∀ i,S i→∃ x,p.code[i]? = some x∧eG x.op=true∧In64 x.target∧∀ t,0≤t→t<65536→(x.dE t).iJ=true
 zO:∀ i x,p.code[i]? = some x→¬ S i→eG x.op=true→(∃ j y,¬ S j∧p.code[j]? = some y∧x.target=(j:Int)∧y.target=(i:Int)∧qp x y)∧∀ t,0≤t→t<65536→(x.dE t).iJ=true
 ca:∀ x∈p.code,kH x.op=true→x.a=0
 refs:p.refs.map bD.at'=dX p.code 0
theorem UF {x:Ins} (h:eG x.op=true):x.dE x.target=x:=by
 unfold Ins.dE Ins.target;rcases Oz h with h1 | ⟨h1,h2⟩
 · simp [h1]
 · simp [h1,h2]
theorem x8 {n:Int} (h:In64 n):wrap64 n=n:=by
 unfold wrap64;simp only [In64] at h;omega
theorem Zf {n:Nat} (h:n≤70000):In64 (n:Int):=by simp only [In64];omega
theorem gp.congr {S T:Nat→Prop} {p:aC} (h:gp S p) (he:∀ i,S i↔T i):gp T p:=by
 have:S=T:=funext fun i=>propext (he i);rw [← this];exact h
theorem om {α:Type} {l:List α} {i:Nat} {x:α} (h:l[i]? = some x):i<l.length:=(List.getElem?_eq_some_iff.1 h).1
theorem gp.none {S:Nat→Prop} {p:aC} (h:gp S p) (hl:p.code.length≤70000):eZ cO p=p:=by
 have hc:bU p.code 0=p.code:=by
  refine List.ext_getElem? fun i => ?_;unfold bU;rw [List.getElem?_map];rcases hx:p.code[i]? with _ | x
  · rfl
  · simp only [Option.map_some,Option.some.injEq];unfold Ins.shift;split
    · rename_i hm;have h64:In64 x.target:=by
       by_cases hs:S i
       · obtain ⟨y,hy,-,h4,-⟩:=h.ex i hs;rw [hx] at hy;obtain rfl:=Option.some.inj hy;exact h4
       · obtain ⟨⟨j,y,-,hj,ht,-⟩,-⟩:=h.zO i x hx hs hm;rw [ht];exact Zf (by have:=om hj;omega)
      rw [Int.add_zero,x8 h64,UF hm]
    · rfl
 have hr:p.refs.map (fun r=>r.shift 0)=p.refs:=by
  conv=>rhs;rw [← List.map_id p.refs]
  refine List.map_congr_left fun r hr => ?_;have hm:r.at'∈dX p.code 0:=by rw [← h.refs];exact List.mem_map.2 ⟨r,hr,rfl⟩
  have:=Eu _ _ _ hm;obtain ⟨a,n⟩:=r;simp only [bD.shift,Int.add_zero,id_eq,bD.mk.injEq,and_true];exact x8 (by simp only [In64];simp only at this;omega)
 obtain ⟨c,r⟩:=p;simp only [eZ,cO,List.nil_append,List.length_nil] at *;rw [show ((0:Nat):Int)=0 from rfl,hc,hr]
def yh (n:Nat) (S T:Nat→Prop) (i:Nat):Prop:=(i<n∧S i)∨(n≤i∧T (i - n))
theorem gp.join {S T:Nat→Prop} {p q:aC} (hp:gp S p) (hq:gp T q) (hl:p.code.length+q.code.length≤65536):gp (yh p.code.length S T) (eZ p q):=by
 have hleft:∀ i,i<p.code.length→(eZ p q).code[i]? = p.code[i]? := fun i hi=>by rw [wP,List.getElem?_append_left hi]
 have hright:∀ i,(eZ p q).code[p.code.length+i]? = (q.code[i]?).map (fun x=>x.shift p.code.length):=fun i=>by
  rw [wP,List.getElem?_append_right (by omega),bU,List.getElem?_map];congr 1;congr 1;omega
 have hsplit:∀ i x,(eZ p q).code[i]? = some x→(i<p.code.length∧p.code[i]? = some x)∨(p.code.length≤i∧∃ y,q.code[i - p.code.length]? = some y∧x=y.shift p.code.length):=fun i x hx=>by
  rcases Nat.lt_or_ge i p.code.length with h | h
  · exact .inl ⟨h,by rw [← hleft i h];exact hx⟩
  · obtain ⟨j,rfl⟩:∃ j,i=p.code.length+j:=⟨i - p.code.length,by omega⟩;rw [hright] at hx;rcases hy:q.code[j]? with _ | y
    · rw [hy] at hx;cases hx
    · rw [hy] at hx;simp only [Option.map_some,Option.some.injEq] at hx;exact .inr ⟨h,y,by rw [show p.code.length+j - p.code.length=j by omega];exact hy,hx.symm⟩
 have TW:∀ i,i<p.code.length→¬ yh p.code.length S T i→¬ S i:=fun i hi h hs=>h (.inl ⟨hi,hs⟩);have DJ:∀ i,p.code.length≤i→¬ yh p.code.length S T i→¬ T (i - p.code.length):=fun i hi h ht=>h (.inr ⟨hi,ht⟩);have hsh:∀ (y:Ins),eG y.op=true→y.shift p.code.length=y.dE (wrap64 (y.target+p.code.length)):=fun y hm=>by unfold Ins.shift;rw [if_pos hm]
 have hns:∀ (y:Ins),¬ eG y.op=true→y.shift p.code.length=y:=fun y hm=>by unfold Ins.shift;rw [if_neg hm]
 have hq2:∀ k y,q.code[k]? = some y→¬ T k→eG y.op=true→∃ j:Nat,j<q.code.length∧(y.shift p.code.length).target=((p.code.length+j:Nat):Int)∧(∃ z,¬ T j∧q.code[j]? = some z∧y.target=(j:Int)∧z.target=(k:Int)∧qp y z)∧y.shift p.code.length=y.dE ((p.code.length+j:Nat):Int):=fun k y hk hT hm=>by
  obtain ⟨⟨j,z,hj1,hj2,zK,uE,GU⟩,-⟩:=hq.zO k y hk hT hm;have hjl:=om hj2;have hw:wrap64 (y.target+p.code.length)=((p.code.length+j:Nat):Int):=by
   rw [zK,x8 (by simp only [In64];omega)];omega
  refine ⟨j,hjl,?_,⟨z,hj1,hj2,zK,uE,GU⟩,by rw [hsh y hm,hw]⟩;rw [hsh y hm,xV hm,hw]
 refine ⟨fun x hx => ?_,fun i x hx hS => ?_,fun i hS => ?_,fun i x hx hS hm => ?_,fun x hx hc => ?_,?_⟩
 · rw [wP] at hx;rcases List.mem_append.1 hx with h | h
   · exact hp.op x h
   · obtain ⟨y,hy,rfl⟩:=List.mem_map.1 h;rw [tV];exact hq.op y hy
 · rcases hsplit i x hx with ⟨hi,h⟩ | ⟨hi,y,h,rfl⟩
   · exact hp.val i x h (TW i hi hS)
   · by_cases hm:eG y.op=true
     · obtain ⟨j,hj,-,-,he⟩:=hq2 _ y h (DJ i hi hS) hm;rw [he];exact (hq.zO _ y h (DJ i hi hS) hm).2 _ (by omega) (by omega)
     · rw [hns y hm];exact hq.val _ y h (DJ i hi hS)
 · rcases hS with ⟨hi,hs⟩ | ⟨hi,ht⟩
   · obtain ⟨x,hx,h⟩:=hp.ex i hs;exact ⟨x,by rw [hleft i hi];exact hx,h⟩
   · obtain ⟨y,hy,hm,h64,hv⟩:=hq.ex _ ht;refine ⟨y.shift p.code.length,?_,by rw [tV];exact hm,?_,fun t h1 h2 => ?_⟩
     · have:=hright (i - p.code.length);rw [hy,show p.code.length+(i - p.code.length)=i by omega] at this;exact this
     · rw [hsh y hm,xV hm];simp only [In64,wrap64];omega
     · rw [hsh y hm,Ba];exact hv t h1 h2
 · rcases hsplit i x hx with ⟨hi,h⟩ | ⟨hi,y,h,rfl⟩
   · obtain ⟨⟨j,y,h1,h2,h3,h4,h5⟩,h6⟩:=hp.zO i x h (TW i hi hS) hm;have hj:=om h2;exact ⟨⟨j,y,fun e=>e.elim (fun e=>h1 e.2) (fun e=>by omega),by rw [hleft j hj];exact h2,h3,h4,h5⟩,h6⟩
   · rw [tV] at hm;obtain ⟨j,hj,ht,⟨z,z1,z2,z3,z4,z5⟩,he⟩:=hq2 _ y h (DJ i hi hS) hm;have hmz:eG z.op=true:=by
      rcases z5 with z5 | z5
      · simp [eG,z5.2]
      · simp [eG,z5.2]
     obtain ⟨k,hk,hkt,⟨u,-,-,u3,-,-⟩,-⟩:=hq2 j z z2 z1 hmz;have hki:k=i - p.code.length:=by rw [z4] at u3;omega
     refine ⟨⟨p.code.length+j,z.shift p.code.length,?_,?_,ht,?_,?_⟩,fun t h1 h2 => ?_⟩
     · rintro (e | ⟨-,e⟩)
       · omega
       · rw [show p.code.length+j - p.code.length=j by omega] at e;exact z1 e
     · rw [hright,z2];rfl
     · rw [hkt,hki];congr 1;omega
     · unfold qp;rw [tV,tV];exact z5
     · rw [hsh y hm,Ba];exact (hq.zO _ y h (DJ i hi hS) hm).2 t h1 h2
 · rw [wP] at hx;rcases List.mem_append.1 hx with h | h
   · exact hp.ca x h hc
   · obtain ⟨y,hy,rfl⟩:=List.mem_map.1 h;rw [tV] at hc;have hnm:¬ eG y.op=true:=by
      intro hm;simp only [kH,Bool.or_eq_true,beq_iff_eq] at hc;simp only [eG,ig,iQ,Bool.or_eq_true,beq_iff_eq] at hm;omega
     rw [hns y hnm];exact hq.ca y hy hc
 · rw [Ed,wP,List.map_append,hp.refs,DW,Mm,Nat.zero_add,show dX q.code p.code.length=dX q.code (0+p.code.length) by rw [Nat.zero_add],MZ,← hq.refs,List.map_map,List.map_map];congr 1;refine List.map_congr_left fun r hr => ?_;have hm:r.at'∈dX q.code 0:=by rw [← hq.refs];exact List.mem_map.2 ⟨r,hr,rfl⟩
   have:=Eu _ _ _ hm;simp only [Function.comp_apply,bD.shift];exact x8 (by simp only [In64];omega)
end
end Go.Proofs.YtnobahchcongnaaGreatDoor
