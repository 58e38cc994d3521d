import Derived.Test.YtadecgbblajifaaGreatDoorA28
import Derived.Below
import Derived.ChangeOld
import Derived.Handed
set_option linter.unusedSimpArgs false
set_option linter.unusedVariables false
set_option maxRecDepth 100000
set_option maxHeartbeats 25600000
namespace Go.Proofs.YtadecgbblajifaaGreatDoor
end Go.Proofs.YtadecgbblajifaaGreatDoor
namespace Go.Proofs.YtadecgbblajifaaGreatDoor.DV
open Go
noncomputable section
abbrev u (n:Nat):D := .lf (.int .u8 (.ofNat n))
abbrev i (n:Nat):D := .lf (.int .i64 (.ofNat n))
abbrev t (l:List UInt8):D := .lf (.string ⟨⟨l⟩⟩)
def uQ:D:=(.st [1,1,4] [ns,(.sl false 6 [(.st [1,1,4] [(t [102]),(.sl true 3 [(.st [1,1,1] [(t [120]),(u 1),ni])]),(.st [1,1,1,1] [(u 57),ni,nt,(.sl false 4 [(.st [1,1,1,1] [(u 40),ni,nt,(.sl true 4 [(.st [1,1,1,1] [(u 2),ni,(t [120]),ns]),(.st [1,1,1,1] [(u 1),(i 1),nt,ns])])])])])])]),(.st [1,1,1,1] [(u 57),ni,nt,ns])])
def uR:D:=(.st [1,1,3,2] [(t [102]),(.sl false 3 [(.st [1,1,1] [(t [120]),(u 1),ni])]),(.st [1,1,1] [(.sl false 4 [(.st [1,1,1,1] [(t [120]),(u 1),ni,ni])]),(i 1),ni]),(.st [1,1] [(.sl false 5 [(.st [1,1,1,1,1] [(u 6),(i 1),(i 1),ni,ni]),(.st [1,1,1,1,1] [(u 12),(i 1),ni,ni,ni]),(.st [1,1,1,1,1] [(u 13),(i 4),ni,ni,ni]),(.st [1,1,1,1,1] [(u 10),(i 5),ni,ni,ni]),(.st [1,1,1,1,1] [(u 1),(i 5),(i 4),ni,ni]),(.st [1,1,1,1,1] [(u 10),(i 5),ni,ni,ni]),(.st [1,1,1,1,1] [(u 12),(i 4),ni,ni,ni]),(.st [1,1,1,1,1] [(u 13),(i 1),ni,ni,ni]),(.st [1,1,1,1,1] [(u 6),(i 1),(i 1),ni,ni])]),ns])])
def Cr:D:=(.sl false 1 [(u 1),(u 102),(u 1),(u 1),(u 120),(u 1),nu,nu,nu,nu,(u 1),nu,nu,nu,nu,nu,(u 1),(u 1),(u 120),(u 1),nu,nu,nu,nu,nu,nu,nu,nu,(u 63),nu,nu,nu,(u 9),(u 6),(u 1),nu,nu,nu,nu,nu,nu,nu,(u 1),(u 12),(u 1),nu,nu,nu,nu,(u 13),(u 4),nu,nu,nu,nu,(u 10),(u 5),nu,nu,nu,nu,(u 1),(u 5),(u 4),(u 10),(u 5),nu,nu,nu,nu,(u 12),(u 4),nu,nu,nu,nu,(u 13),(u 1),nu,nu,nu,nu,(u 6),(u 1),nu,nu,nu,nu,nu,nu,nu,(u 1),nu,nu,nu,nu])
def Rv:List D:=[t [112,114,111,99,32,102,40,105,110,116,32,120,41,32,123,10,120,32,43,61,32,49,59,10,125,10,109,97,105,110,32,123,10,125,10]]
theorem Xe:pW (iV []) 28 Rv=some (.tu [uQ,ni,ni]):=by kernel_rfl
theorem Wv:pW (iV []) 13 [uQ,ni]=some (.tu [uR,ni]):=by kernel_rfl
theorem Ww:pW (iV []) 14 [uQ]=some (.tu [(.st [1,1,3,2] [nt,ns,(.st [1,1,1] [ns,ni,ni]),(.st [1,1] [ns,ns])]),ni]):=by kernel_rfl
theorem Xf:pW (iV []) 21 [uR]=some (.tu [Cr,ni]):=by kernel_rfl
theorem Xg:pW (iV []) 24 [Cr]=some (.tu [uR,ni]):=by kernel_rfl
def Ct:List (Nat × List D × D):=[(28,Rv,.tu [uQ,ni,ni]),(13,[uQ,ni],.tu [uR,ni]),(14,[uQ],.tu [(.st [1,1,3,2] [nt,ns,(.st [1,1,1] [ns,ni,ni]),(.st [1,1] [ns,ns])]),ni]),(21,[uR],.tu [Cr,ni]),(24,[Cr],.tu [uR,ni])]
theorem vJ:∀ f args d,iV [] f args=some d->Pure Tryz.prog kE f args d:=Eg [] (λ_ h=>by cases h)
theorem Xh:∀ f args d,iV Ct f args=some d->Pure Tryz.prog kE f args d:=Eg Ct (by
 intro x hx;simp only[Ct,List.mem_cons,List.not_mem_nil,or_false]at hx;rcases hx with rfl|rfl|rfl|rfl|rfl
 · exact sN (k:=100) Xe (by kernel_rfl) vJ
 · exact sN (k:=100) Wv (by kernel_rfl) vJ
 · exact sN (k:=100) Ww (by kernel_rfl) vJ
 · exact sN (k:=100) Xf (by kernel_rfl) vJ
 · exact sN (k:=100) Xg (by kernel_rfl) vJ
 )
theorem Xi:pW (iV Ct) 11 []=some (.lf (.bool true)):=by kernel_rfl
theorem U4 {w:World} (h1:Cells w 1 Co) (h2:Cells w 0 Cq):Calls Tryz.prog 11 #[] w λe w'=>e = .returned (.bool true)/\(∀ b,b<w.heap.size->w'.heap[b]? = w.heap[b]?)/\w.heap.size<=w'.heap.size/\Sm w w' :=
 (U3 (sN (k:=1) Xi rfl Xh) (by kernel_rfl) h1 h2).mono λe w' ⟨v,he,⟨g,hv⟩,h⟩=>by
  rw[bf hv]at he;exact⟨he,h⟩
end
end Go.Proofs.YtadecgbblajifaaGreatDoor.DV
namespace Go.Proofs.YtadecgbblajifaaGreatDoor
section
theorem OV {α β:Type} (f:α->β) (l:List α) (d:α) (k:Nat) (v:β) (h:(l.map f)[k]? = some v):k<l.length/\v=f (l.getD k d):=by
 rw[List.getElem?_map]at h;rcases Nat.lt_or_ge k l.length with h1|h1
 · rw[List.getElem?_eq_getElem h1]at h;refine⟨h1,?_⟩;rw[List.getD_eq_getElem?_getD,List.getElem?_eq_getElem h1]
   simpa using h.symm
 · rw[List.getElem?_eq_none h1]at h;simp at h
theorem U5 {W:World} (h:laidMetH Tryz.prog jI W):DV.Cells W 1 DV.Co:=DV.JG (λk v hv=>by
 obtain⟨h1,rfl⟩:=OV _ DV.Hw ⟨#[]⟩ k v hv;exact Su h k h1) (by simp[DV.Co,DV.Hw])
theorem Lj:DV.Cq=(List.range 70).map λk=>if k % 2=0 then .string (pU.getD (k / 2) ⟨#[]⟩)else .int .i64 (iF.getD (k / 2) 0):=by kernel_rfl
theorem U6 {W:World} (h:laidMetH Tryz.prog jI W):DV.Cells W 0 DV.Cq:=DV.JG (λk v hv=>by
 rw[Lj]at hv;obtain⟨h1,rfl⟩:=OV _ (List.range 70) 0 k v hv;have h1:k<70:=h1;have h2:(List.range 70).getD k 0=k:=by
  rw[List.getD_eq_getElem?_getD,List.getElem?_range h1];rfl
 rw[h2];have h3:=Ij h (k / 2) (by omega);split
 · rw[← h3.1];congr 2;omega
 · rw[← h3.2];congr 2;omega) (by rw[Lj];simp)
theorem Tq {W:World} (h:laidMetH Tryz.prog jI W):Calls Tryz.prog 11 #[] W (Ei W true) :=
 (DV.U4 (U5 h) (U6 h)).mono λe w' ⟨h1,h2,h3,h4⟩=>⟨h1,h4.os,h4.tape,h4.output,h3,λb hb _=>h2 b hb⟩
end
section
open Go.RowKit Go.Deep Go.Instr
theorem JI (b off k:Nat):(⟨b,off,none⟩:Addr).add k=⟨b,off+k,none⟩:=by unfold Addr.add;split <;> simp_all
section
variable {H:Type} {enc:TypeId × Value->H} {W:World}
abbrev Wt (t:TypeId) (d:DataW H):Prop:=(d.weights Tryz.prog t).all (· <= reachBytes)=true
theorem Ia {e:TypeId} : ∀ {l:List (DataW H)} {d:DataW H},d∈l->(DataW.weightsAll Tryz.prog e l).all (· <= reachBytes)=true->Wt e d
 | [],d,h,_=>by cases h
 |x :: r,d,h,hw=>by
  simp only[DataW.weightsAll,List.all_append,Bool.and_eq_true]at hw;rcases List.mem_cons.1 h with rfl|h
  · exact hw.1
  · exact Ia h hw.2
theorem open_row {α:Type} (f:α->List Value) (n:Nat) {t e:TypeId} (ht:Tryz.prog.underlying t=some (.slice e)) (hc:Tryz.prog.cellsOf e=n) (hn:0<n) (hfl:∀ a,(f a).length=n) (Ok:α->Prop)
 (hopen:∀ (fuel:Nat) (cs:List Value) (y:DataW H × List MemPlace),DataW.trod enc Tryz.prog W 0 (λ_=>true) true fuel e cs=some y->Wt e y.1->∃ a,cs=f a/\Ok a)
 {fuel:Nat} {cs:List Value} {x:DataW H × List MemPlace} (h:DataW.trod enc Tryz.prog W 0 (λ_=>true) true fuel t cs=some x) (hw:Wt t x.1) :
 ∃ v l,cs=[v]/\ai n f W v l/\(∀ a∈l,Ok a)/\l.length * Tryz.prog.bytesOf e<=reachBytes:=by
 rcases open_slice ht h with⟨hcs,hx⟩|⟨a,len,cap,m,k,D,Pl,hcs,_,hl,hm,hme,hx,hel⟩
 · exact⟨_,[],hcs,ai.nil _ _ _,by simp,by simp⟩
 · simp only[if_true]at hme;subst hme;subst hx;simp only[Wt,DataW.weights,ht,List.all_cons,List.all_append,Bool.and_eq_true,decide_eq_true_eq,List.length_map,List.length_range]at hw;obtain⟨hw1,hw2,hw3⟩:=hw;rw[hc]at hel;have Zy:∀ i:Fin len,∃ o:α,W.cells? 0 (a.add (i.1 * n)) n=some (f o)/\Ok o:=by
    intro i;obtain⟨cs',hc1,ht1⟩:=hel i.1 (by have:=i.2;omega);obtain⟨o,rfl,hok⟩:=hopen _ _ _ ht1 (Ia (List.mem_map.2 ⟨i.1,List.mem_range.2 i.2,rfl⟩) hw2);exact⟨o,hc1,hok⟩
   obtain⟨o,ho⟩:=Classical.axiomOfChoice Zy;refine⟨_,List.ofFn o,hcs,⟨some a,m,by simp,by simpa using hl,by unfold maxLen at hm;simp;omega,λi x hx => ?_⟩,λx hx => ?_,?_⟩
   · have hi:i<len:=by have:=(List.getElem?_eq_some_iff.1 hx).1;simpa using this
     simp[hi]at hx;subst hx;have hcell:∀ j (hj:j<len) r (u:Value),(f (o ⟨j,hj⟩))[r]? = some u->W.cell? ((a.add (j * n)).add r)=some u:=by
      intro j hj r u hu;obtain⟨_,_,hcc⟩:=World.cells?_some (ho ⟨j,hj⟩).1;have hr:r<n:=by rw[← hfl (o ⟨j,hj⟩)];exact(List.getElem?_eq_some_iff.1 hu).1
      rw[hcc r hr];exact hu
     have hsp:a.spot=none:=by
      have hz:0<len:=by omega
      have h0:(f (o ⟨0,hz⟩))[0]? = some ((f (o ⟨0,hz⟩))[0]'(by rw[hfl];exact hn)):=List.getElem?_eq_getElem _;have:=World.cell?_spot (hcell 0 hz 0 _ h0)
      simpa[Addr.add]using this
     obtain⟨b,off,spot⟩:=a;simp only at hsp;subst hsp;refine⟨b,off,rfl,λr u hu => ?_⟩;have:=hcell i hi r u hu;rw[JI,JI]at this;exact this
   · obtain⟨i,rfl⟩:=(List.mem_ofFn).1 hx;exact(ho i).2
   · simp only[List.length_ofFn];refine Nat.le_trans ?_ hw1;exact Nat.mul_le_mul_right _ (by omega)
theorem Yd {n:Int} (h:(Lit.int .u8 n).wf=true):0<=n/\n<=255:=by
 simp only[Lit.wf,Bool.and_eq_true,decide_eq_true_eq]at h;have e1:IntKind.u8.min=0:=by decide
 have e2:IntKind.u8.max=255:=by decide
 rw[e1,e2]at h;exact h
theorem Tryz.Wx:Tryz.prog.cellsOf 5=1:=by kernel_rfl
end
end
end Go.Proofs.YtadecgbblajifaaGreatDoor
namespace Go.Proofs.YtadecgbblajifaaGreatDoor.objectAny
open Go.ChangeShapes Go.WideShapes Go.ChangeAt Go.RowKit Go.Deep
theorem own:ownKnob Tryz.prog.godebug=none:=by kernel_rfl
theorem laidOut:laidOutB Tryz.prog=true:=by kernel_rfl
theorem Ub {H:Type} {enc:TypeId × Value->H} {W:World} (fuel:Nat) (cs:List Value) (y:DataW H × List MemPlace) (h:DataW.trod enc Tryz.prog W 0 (λ_=>true) true fuel 5 cs=some y) (_:Wt 5 y.1):∃ a:Int,cs=aJ a/\(0<=a/\a<256):=by
 obtain⟨k,e1,_,hk⟩:=DataW.trod_int Tryz.underlying5 h;have:=Yd hk;exact⟨k,e1,by omega,by omega⟩
theorem contract (H:Type) (enc:TypeId × Value->H) (W:World) (base:Nat) (args:Array Value) (ds gs:List (DataW H)) (before:List MemPlace)
 (hval0:∀ (j:Nat) t v,Tryz.f7.params[j]? = some t->args[j]? = some v->Value.okWide Tryz.prog W .any base t v)
 (hW:DataW.Whole enc Tryz.prog Tryz.f7.params.toList Rows.objectAnySpec.vars false W args.toList ds gs before)
 (hwt:(DataW.weightsEach Tryz.prog (Tryz.f7.params.toList ++ Rows.objectAnySpec.plain.varTypes Tryz.prog) (ds ++ gs)).all (· <= reachBytes)=true) (hL:laidMetH Tryz.prog jI W) :
 Calls Tryz.prog 7 args W λe W'=>∃ v,e = .returned v/\Rows.objectAnySpec.post enc Tryz.prog Tryz.f7 false true false false W args v W':=by
 have hval:∀ (j:Nat) t v,Tryz.f7.params[j]? = some t->args[j]? = some v->Value.okWide Tryz.prog W .any base t v:=hval0;have hW':=hW;obtain⟨p,q,Bn,hV,rfl,hfz,hnd⟩:=hW;have hA:DataW.TrodAll enc Tryz.prog W 0 (λ_=>true) true Tryz.f7.params.toList args.toList ds p:=Bn;rw[Tryz.params7]at hA hval hwt;obtain⟨v0,vs0,d0,ds0,p0,q0,hargs,rfl,rfl,h0,r0⟩:=trodAll_cons hA;obtain⟨rfl,rfl,rfl⟩:=trodAll_nil r0;obtain rfl:args=#[v0]:=by cases args;simp_all
 obtain⟨rfl,rfl⟩:=trodVars_none hV;have ht:=Sr hL;have haw:=Tq hL;obtain⟨a0,Zz,cap0,rfl⟩:=okWide_slice Tryz.underlying51 (hval 0 51 v0 rfl rfl);have k0:=h0;have lt0:∀ x∈p0,x.block<W.heap.size:=by obtain⟨m,hm⟩:=k0;exact DataW.trod_lt m _ _ _ hm
 simp only[List.cons_append,List.nil_append,List.append_nil,DataW.weightsEach,List.all_append,Bool.and_eq_true]at hwt;obtain⟨f0,g0⟩:=h0;obtain⟨pv,bl,hp,hpr,hpo,_⟩:=open_row aJ 1 Tryz.underlying51 Tryz.Wx (by decide) (λ_=>rfl) (λx=>0<=x/\x<256) Ub g0 hwt.1;have hpv:pv = .slice a0 Zz cap0:=by simpa[Value.cells]using hp.symm
 subst hpv;clear Bn hval0;refine(VN _ bl W hpr hpo haw ht).mono λe W' ⟨he,hg⟩ => ?_;subst he;have Rw:Below W.heap.size W W':=⟨hg.os,hg.tape,hg.output,hg.size,λj hj=>hg.block j hj (λh=>h)⟩;exact⟨_,rfl,_,_,_,[],_,[],hW',trodAll_mk1 (shut_bool Tryz.underlying4 _),(trodAll_cons_mk (Below.trod laidOut (by kernel_rfl) (of_decide_eq_true (by kernel_rfl)) k0 Rw lt0) trodAll_mk0),rfl,Rw.frame _,λh=>by cases h⟩
theorem lifted (os:Os) (started:os.Started) (H:Type) (enc:TypeId × Value->H) :
 ReturnsInHanded {} Tryz.checked os 7 .any (λw args=>(Rows.objectAnySpec.pre enc Tryz.prog Tryz.f7 [] false w args/\laidMetH Tryz.prog jI w)/\sizedMet enc Tryz.prog Tryz.f7 (OpenSpec.ofChange Rows.objectAnySpec) false w args)
  (Rows.objectAnySpec.post enc Tryz.prog Tryz.f7 false true false false):=by
 refine returnsInHanded_of_change_and (C:=Tryz.checked) (X:=λw _=>laidMetH Tryz.prog jI w) (λ_ _ _ hh h=>h.of_heap hh) own started (by kernel_rfl) Tryz.func7
  (ChangeSpec.witness_shaped (enc:=enc) (C:=Tryz.checked) (os:=os) (X:=λw _=>laidMetH Tryz.prog jI w) false (World.doorLaid Tryz.prog 400 os) #[.slice none 0 0] 8 rfl (World.shaped_of_RefB (by kernel_rfl) (by kernel_rfl)) (by kernel_rfl) (by kernel_rfl) (by kernel_rfl) (UG os _)) ?_
 intro W base args ds gs before hval hW _ hwt hL _;exact contract H enc W base args ds gs before hval hW hwt hL
end Go.Proofs.YtadecgbblajifaaGreatDoor.objectAny
namespace Go.Proofs.YtadecgbblajifaaGreatDoor
end Go.Proofs.YtadecgbblajifaaGreatDoor
