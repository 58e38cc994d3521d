import Derived.Test.YtnobahchcongnaaGreatDoorR40
import Derived.BigRegion
import Derived.Test.YtnobahchcongnaaGreatDoorR36
set_option linter.unusedSimpArgs false
set_option linter.unusedVariables false
set_option maxRecDepth 100000
set_option maxHeartbeats 25600000
namespace Go.Proofs.YtnobahchcongnaaGreatDoor
open Go.RowKit Go.Instr
def nI (f:ax) (procs:List bQ) (t:Tree):Int:=if bF t then fw f procs t else 3
def pK (f:ax) (procs:List bQ) (t:Tree):aB:=if nI f procs t=0 then aQ f procs t else cB
def Sd (w:World) (p:aB) (n:Int) (e:Ending) (w':World):Prop:=∃ v,e = .returned (.tuple #[v,.int .i64 n])/\ay w' v p/\Grow w w'
theorem abf {w:World} {X:Nat} {a b c d e:Value} {t:TypeId} (h:w.heap[X]? = some (.cells #[a,b,c,d,e] t (0,0))):w.cell? ⟨X,4,none⟩=some e:=by simp[World.cell?,h]
theorem KU (w:World) (x:ae) (sv pv:Value) (f:ax) (procs:List ak) (hx:aR w x) (hf:fE w sv f) (hp:mg w pv procs) (hok:BD f) (hpo:pY procs) (hs:aI x.t<=80) :
 Calls Tryz.prog 7 #[x.val,.agg #[sv,.int .i64 f.cells,.int .i64 f.stacks],pv] w (Sd w (pK f (procs.map ak.d) x.t) (nI f (procs.map ak.d) x.t)):=by
 obtain⟨k,n,s,kv,l⟩:=x;obtain⟨ka,kc,rfl,-,-⟩:=hx.form;obtain⟨fa,fc,rfl,hfc,hfl⟩:=hf.row.form;obtain⟨pa,pc,rfl,-,-⟩:=hp.row.form;have hgA:Grow w (((w.alloc (.cells #[.int .u8 k,.int .i64 n,.string s,.slice ka l.length kc] 24)).alloc (.cells #[.slice fa f.slots.length fc,.int .i64 f.cells,.int .i64 f.stacks] 27)).alloc (.cells #[.slice none 0 0,.slice none 0 0] 34)):=(((Mv.refl _ w).alloc _).alloc _).alloc _;have aH:=ł hgA;have HB0:=ł (show(((w.alloc (.cells #[.int .u8 k,.int .i64 n,.string s,.slice ka l.length kc] 24)).alloc (.cells #[.slice fa f.slots.length fc,.int .i64 f.cells,.int .i64 f.stacks] 27)).alloc (.cells #[.slice none 0 0,.slice none 0 0] 34)).heap[w.heap.size]? = _ from aS (aS (heap_alloc_new w _) _) _);have JV:=ł (show(((w.alloc (.cells #[.int .u8 k,.int .i64 n,.string s,.slice ka l.length kc] 24)).alloc (.cells #[.slice fa f.slots.length fc,.int .i64 f.cells,.int .i64 f.stacks] 27)).alloc (.cells #[.slice none 0 0,.slice none 0 0] 34)).heap[w.heap.size+1]? = some (.cells #[.slice fa f.slots.length fc,.int .i64 f.cells,.int .i64 f.stacks] 27 (0,0))from aS (by have:=heap_alloc_new (w.alloc (.cells #[.int .u8 k,.int .i64 n,.string s,.slice ka l.length kc] 24)) (.cells #[.slice fa f.slots.length fc,.int .i64 f.cells,.int .i64 f.stacks] 27);rwa[World.size_alloc]at this) _);have nO:=ł (show(((w.alloc (.cells #[.int .u8 k,.int .i64 n,.string s,.slice ka l.length kc] 24)).alloc (.cells #[.slice fa f.slots.length fc,.int .i64 f.cells,.int .i64 f.stacks] 27)).alloc (.cells #[.slice none 0 0,.slice none 0 0] 34)).heap[w.heap.size+1+1]? = some (.cells #[.slice none 0 0,.slice none 0 0] 34 (0,0))from by have:=heap_alloc_new ((w.alloc (.cells #[.int .u8 k,.int .i64 n,.string s,.slice ka l.length kc] 24)).alloc (.cells #[.slice fa f.slots.length fc,.int .i64 f.cells,.int .i64 f.stacks] 27)) (.cells #[.slice none 0 0,.slice none 0 0] 34);rwa[World.size_alloc,World.size_alloc]at this);have HIS:=ł (λ(z:World) (hz:Grow w z)=>Kc (.mk k n s (.slice ka l.length kc) l) z (hx.later hz));have OO:=ł (λ(z:World) (hz:Grow w z)=>YG G8 (.slice fa f.slots.length fc) (.slice pa procs.length pc) f procs (.mk k n s (.slice ka l.length kc) l) z (hf.later hz) (hp.later hz) (hx.later hz));have dV:=ł hf;have fZ:=ł hp;have FM:=ł hx;have HS:=ł hs;clear hgA hx hf hp hs;simp only[ae.val]at HIS OO ⊢;obtain⟨⟨n0,n1⟩,n2,n3⟩:=aC HB0.out;have hl0:=lt_of_block HB0.out
 go_enter Tryz.func7,Tryz.ntmps7
 go_wp2_with fail;generalize (((w.alloc (.cells #[.int .u8 k,.int .i64 n,.string s,.slice ka l.length kc] 24)).alloc (.cells #[.slice fa f.slots.length fc,.int .i64 f.cells,.int .i64 f.stacks] 27)).alloc (.cells #[.slice none 0 0,.slice none 0 0] 34))=w3 at *;refine(HIS.out _ aH.out).mono ?_;clear n0 n1 n2 n3 hl0 HIS;rintro e w4 ⟨rfl,hg4⟩;have aP:=ł hg4;clear hg4;cases hib:bF (ae.t (.mk k n s (.slice ka l.length kc) l))with
 |false =>
  have HE:=ł (show nI f (procs.map ak.d) (ae.t (.mk k n s (.slice ka l.length kc) l))=3 from by simp[nI,hib]);have HC:=ł (show pK f (procs.map ak.d) (ae.t (.mk k n s (.slice ka l.length kc) l))=cB from by simp[pK,HE.out]);have hr:=ai nO.out aP.out;obtain⟨c0,c1⟩:=aA hr;have hlr:=lt_of_block hr;have zr:=aG hr;obtain⟨hs1,hs2⟩:=set2 hr (.slice none 0 0) (.slice none 0 0);have iE:=ł hs1;have gL:=ł (show Grow w _ from(gtr aH.out aP.out).trans hs2 (λb e => .inr (by omega)));clear hs1 hs2 hr hib;go_wp2_with fail;obtain⟨t0,t1⟩:=aA iE.out;exact bodyPost_ret (v := .tuple #[.agg #[.slice none 0 0,.slice none 0 0],.int .i64 3]) (by simp[results,Tryz.results7,go_sem,t0,t1]) rfl ⟨_,by rw[HE.out],by rw[HC.out];exact ay.none _,gL.out⟩
 |true =>
  have dZ:=ł hib;have HE:=ł (show nI f (procs.map ak.d) (ae.t (.mk k n s (.slice ka l.length kc) l))=fw f (procs.map ak.d) (ae.t (.mk k n s (.slice ka l.length kc) l))from by simp[nI,hib]);clear hib;obtain⟨⟨n0,n1⟩,n2,n3⟩:=aC (ai HB0.out aP.out);obtain⟨f0,f1,f2⟩:=cK (ai JV.out aP.out);have hl0:=lt_of_block (ai HB0.out aP.out);have hl1:=lt_of_block (ai JV.out aP.out);go_wp2_with fail;refine(OO.out _ (gtr aH.out aP.out)).mono ?_;clear n0 n1 n2 n3 f0 f1 f2 hl0 hl1 OO;rintro e w5 ⟨rfl,hg5⟩;have aU:=ł (gtr aP.out hg5);clear hg5;have OP:=ł (show fw f (procs.map ak.d) (ae.t (.mk k n s (.slice ka l.length kc) l))=0->∀ (G:Nat) (z:World),gX z G (.slice fa f.slots.length fc) (.slice pa procs.length pc) f procs->Grow w z->Calls Tryz.prog 22 #[.pointer (some ⟨G,0,none⟩),ae.val (.mk k n s (.slice ka l.length kc) l)] z (bP z (aQ f (procs.map ak.d) (ae.t (.mk k n s (.slice ka l.length kc) l))))from
   λhu G z hg hz=>YS G8 G _ _ f procs hok hpo _ z hg (FM.out.later hz) dZ.out hu HS.out)
  by_cases hu:fw f (procs.map ak.d) (ae.t (.mk k n s (.slice ka l.length kc) l))=0
  · have rC:=ł (show pK f (procs.map ak.d) (ae.t (.mk k n s (.slice ka l.length kc) l))=aQ f (procs.map ak.d) (ae.t (.mk k n s (.slice ka l.length kc) l))from by rw[pK,HE.out,hu];rfl);have hE0:=HE.out.trans hu;have rq:=ł hE0;rw[hu];have hgg:Grow w5 (w5.alloc (.cells #[.slice fa f.slots.length fc,.int .i64 f.cells,.int .i64 f.stacks,.slice pa procs.length pc,.int .i64 0] 65)):=(Mv.refl _ _).alloc _;have di:=ł (gtr aU.out hgg);have Wl:=ł (heap_alloc_new w5 (.cells #[.slice fa f.slots.length fc,.int .i64 f.cells,.int .i64 f.stacks,.slice pa procs.length pc,.int .i64 0] 65));have HC:=ł (OP.out hu w5.heap.size _ ⟨Wl.out,dV.out.later (gtr aH.out di.out),fZ.out.later (gtr aH.out di.out)⟩ (gtr aH.out di.out));simp only[ae.val]at HC;clear hgg hu hE0;obtain⟨⟨n0,n1⟩,n2,n3⟩:=aC (ai HB0.out aU.out);obtain⟨f0,f1,f2⟩:=cK (ai JV.out aU.out);have hl0:=lt_of_block (ai HB0.out aU.out);have hl1:=lt_of_block (ai JV.out aU.out);go_wp2_with fail;refine HC.out.mono ?_;clear n0 n1 n2 n3 f0 f1 f2 hl0 hl1 HC OP;rintro e w7 ⟨v,rfl,hpv,xV⟩;obtain⟨ja,jc,jr,dh,rfl,hr1,hr2⟩:=hpv;generalize aQ f (procs.map ak.d) (ae.t (.mk k n s (.slice ka l.length kc) l))=P at *;have Bt:=ł (gtr di.out xV);have hgn:=ai Wl.out xV;have hr:=ai nO.out Bt.out;have g4:=abf hgn;have xN:=lt_of_block hgn;obtain⟨c0,c1⟩:=aA hr;have hlr:=lt_of_block hr;have zr:=aG hr;obtain⟨hs1,hs2⟩:=set2 hr (.slice ja P.code.length jc) (.slice jr P.refs.length dh);have iE:=ł (aS hs1 (.cells #[.slice ja P.code.length jc,.slice jr P.refs.length dh] 34));have gL:=ł (show Grow w _ from((gtr aH.out Bt.out).trans hs2 (λb e => .inr (by omega))).alloc (.cells #[.slice ja P.code.length jc,.slice jr P.refs.length dh] 34));have bB:=ł ((ay.box (show ay w7 (.agg #[.slice ja P.code.length jc,.slice jr P.refs.length dh]) P from⟨_,_,_,_,rfl,hr1,hr2⟩) hr hs2).later ((Mv.refl _ _).alloc (.cells #[.slice ja P.code.length jc,.slice jr P.refs.length dh] 34)));clear hs1 hs2 hr hgn xV hr1 hr2;go_wp2_with fail;obtain⟨t0,t1⟩:=aA iE.out;exact bodyPost_ret (v := .tuple #[.agg #[.slice ja P.code.length jc,.slice jr P.refs.length dh],.int .i64 0]) (by simp[results,Tryz.results7,go_sem,t0,t1]) rfl ⟨_,by rw[rq.out],by rw[rC.out];exact bB.out,gL.out⟩
  · have rC:=ł (show pK f (procs.map ak.d) (ae.t (.mk k n s (.slice ka l.length kc) l))=cB from by rw[pK,HE.out,if_neg hu]);have hb:(fw f (procs.map ak.d) (ae.t (.mk k n s (.slice ka l.length kc) l)) != 0)=true:=by simpa using hu
    generalize fw f (procs.map ak.d) (ae.t (.mk k n s (.slice ka l.length kc) l))=E at *;have hr:=ai nO.out aU.out;obtain⟨c0,c1⟩:=aA hr;have hlr:=lt_of_block hr;have zr:=aG hr;obtain⟨hs1,hs2⟩:=set2 hr (.slice none 0 0) (.slice none 0 0);have iE:=ł hs1;have gL:=ł (show Grow w _ from(gtr aH.out aU.out).trans hs2 (λb e => .inr (by omega)));clear hs1 hs2 hr hu OP;go_wp2_with fail;obtain⟨t0,t1⟩:=aA iE.out;exact bodyPost_ret (v := .tuple #[.agg #[.slice none 0 0,.slice none 0 0],.int .i64 E]) (by simp[results,Tryz.results7,go_sem,t0,t1]) rfl ⟨_,by rw[HE.out],by rw[rC.out];exact ay.none _,gL.out⟩
attribute [local go_sem ↓] ni
def fJ (n:Int) (i:Ins):Ins:=if bH i.inv.op then i.inv.bN (wrap64 (n - 1 - i.inv.target))else i.inv
theorem yG {n:Int} {i:Ins} (h:bH i.inv.op=true):fJ n i=i.inv.bN (wrap64 (n - 1 - i.inv.target)):=by simp[fJ,h]
theorem rQ {n:Int} {i:Ins} (h:bH i.inv.op=false):fJ n i=i.inv:=by simp[fJ,h]
def nJ (n:Int) (r:aV):aV:=⟨wrap64 (n - 1 - r.at'),r.name⟩
def bL (p:aB):aB:=⟨p.code.reverse.map (fJ p.code.length),p.refs.reverse.map (nJ p.code.length)⟩
theorem Rn {α β:Type} (f:α->β) (l:List α) (m:Nat) (h:m<l.length):(l.reverse.map f).take (l.length - m)=(l.reverse.map f).take (l.length - (m+1)) ++ [f l[m]]:=by
 have e:l.length - m=l.length - (m+1)+1:=by omega
 rw[e,List.take_succ_eq_append_getElem (by simp;omega)];congr 2;rw[List.getElem_map,List.getElem_reverse];congr 1;congr 1;omega
theorem RV {α β:Type} (f:α->β) (l:List α):(l.reverse.map f).take (l.length - 0)=l.reverse.map f:=List.take_of_length_le (by simp)
theorem Ro {α β:Type} (f:α->β) (l:List α):(l.reverse.map f).take (l.length - l.length)=[]:=by simp
structure jS (w:World) (x:World) (cv rv:Value) (code:List Ins) (refs:List aV):Prop where
 g:Grow w x
 blk:x.heap[w.heap.size]? = some (.cells #[cv,rv] 34 (0,0))
 row:dO x w.heap.size cv code
 fA:nU x w.heap.size rv refs
theorem jS.grow {w x y:World} {cv rv:Value} {code:List Ins} {refs:List aV} (h:jS w x cv rv code refs) (hm:Grow x y):jS w y cv rv code refs :=
 ⟨gtr h.g hm,ai h.blk hm,bg h.row hm (λ_ _ e=>e),bg h.fA hm (λ_ _ e=>e)⟩
theorem jS.MX {w x y:World} {cv rv:Value} {code:List Ins} {refs:List aV} (h:jS w x cv rv code refs) (hm:Mv (λb=>cv.ownBlock=some b) x y):y.heap[w.heap.size]? = some (.cells #[cv,rv] 34 (0,0)):=by
 rw[hm.block _ (lt_of_block h.blk) (λe=>dK h.row h.blk (by decide) e)];exact h.blk
theorem jS.Ua {w x y:World} {cv rv:Value} {code:List Ins} {refs:List aV} (h:jS w x cv rv code refs) (hm:Mv (λb=>rv.ownBlock=some b) x y):y.heap[w.heap.size]? = some (.cells #[cv,rv] 34 (0,0)):=by
 rw[hm.block _ (lt_of_block h.blk) (λe=>dK h.fA h.blk (by decide) e)];exact h.blk
theorem jS.Ub {w x y:World} {cv rv v:Value} {code code':List Ins} {refs:List aV} (h:jS w x cv rv code refs) (hm:Mv (λb=>cv.ownBlock=some b) x y) (hr:dO y w.heap.size v code'):jS w (y.setCell ⟨w.heap.size,0,none⟩ v) v rv code' refs:=by
 have h2:=h.MX hm;have h4:nU y w.heap.size rv refs:=bg h.fA hm (λg hg e=>BN h.fA h.row (by decide) g hg e);obtain⟨hb,hm'⟩:=Ht h2 v;exact⟨(h.g.trans hm (λb e => .inr (h.row.lt b e).1)).trans hm' (λb e => .inr (by omega)),hb,bg hr hm' (λg hg e=>by subst e;exact dK hr h2 (by decide) hg),bg h4 hm' (λg hg e=>by subst e;exact dK h4 h2 (by decide) hg)⟩
theorem jS.IL {w x y:World} {cv rv v:Value} {code:List Ins} {refs refs':List aV} (h:jS w x cv rv code refs) (hm:Mv (λb=>rv.ownBlock=some b) x y) (hr:nU y w.heap.size v refs'):jS w (y.setCell ⟨w.heap.size,1,none⟩ v) cv v code refs':=by
 have h2:=h.Ua hm;have h4:dO y w.heap.size cv code:=bg h.row hm (λg hg e=>BN h.row h.fA (by decide) g hg e);obtain⟨hb,hm'⟩:=Ll h2 v;exact⟨(h.g.trans hm (λb e => .inr (h.fA.lt b e).1)).trans hm' (λb e => .inr (by omega)),hb,bg h4 hm' (λg hg e=>by subst e;exact dK h4 h2 (by decide) hg),bg hr hm' (λg hg e=>by subst e;exact dK hr h2 (by decide) hg)⟩
theorem jS.drew {w x:World} {cv rv:Value} {code:List Ins} {refs:List aV} (h:jS w x cv rv code refs):jS w x.drew cv rv code refs:=⟨Mv.drew h.g,h.blk,h.row,h.fA⟩
theorem jS.side {w x y:World} {cv rv:Value} {code:List Ins} {refs:List aV} {X:Nat} (h:jS w x cv rv code refs) (hm:Mv (λb=>b=X) x y) (h1:w.heap.size<=X) (h2:w.heap.size≠X) (h3:∀ g,cv.ownBlock=some g->g≠X) (h4:∀ g,rv.ownBlock=some g->g≠X):jS w y cv rv code refs :=
 ⟨h.g.trans hm (λb e => .inr (by omega)),by rw[hm.block _ (lt_of_block h.blk) (λe=>h2 e)];exact h.blk,bg h.row hm (λg hg e=>h3 g hg e),bg h.fA hm (λg hg e=>h4 g hg e)⟩
theorem a2' (w:World) (A B:Obj):RowKit.Hid (((w.alloc A).alloc B).heap[w.heap.size]? = some A)/\RowKit.Hid (((w.alloc A).alloc B).heap[w.heap.size+1]? = some B)/\RowKit.Hid (Grow w ((w.alloc A).alloc B)):=⟨ł (aS (heap_alloc_new w _) _),ł (by have:=heap_alloc_new (w.alloc A) B;rwa[World.size_alloc]at this),ł (((Mv.refl _ w).alloc _).alloc _)⟩
theorem Qh (v:Value) (p:aB) (w:World) (ht:qH w) (h:ay w v p) (hck:kG p.code p.refs=(-1,0)) (hop:∀ x∈p.code,0<=x.op/\x.op<=255) (hC:p.code.length<=65536) (hR:p.refs.length<=65536) :
 Calls Tryz.prog 10 #[v] w (Sd w (bL p) 0):=by
 obtain⟨ca,cc,ra,rc,rfl,hr1,hr2⟩:=h;obtain⟨cs,rs⟩:=p;simp only at hr1 hr2 hck hop hC hR ⊢;obtain⟨ku,aZ,HG2⟩:=a2' w (.cells #[.slice ca cs.length cc,.slice ra rs.length rc] 34) (.cells #[.slice none 0 0,.slice none 0 0] 34);have OQ:=ł (λ(z:World) (hz:Grow w z)=>PY _ _ cs rs z (ht.later hz) (hr1.later hz) (hr2.later hz) hop);rw[hck]at OQ;have HR1:=ł hr1;have HR2:=ł hr2;have zA:=ł hop;have kM:=ł hC;have HLR:=ł hR;have CO:=ł (show bL ⟨cs,rs⟩=⟨cs.reverse.map (fJ cs.length),rs.reverse.map (nJ cs.length)⟩from rfl);clear ht hr1 hr2 hck hop hC hR
 go_enter Tryz.func10,Tryz.ntmps10
 go_wp2_with fail;generalize ((w.alloc (.cells #[.slice ca cs.length cc,.slice ra rs.length rc] 34)).alloc (.cells #[.slice none 0 0,.slice none 0 0] 34))=w2 at *;refine(OQ.out _ HG2.out).mono ?_;rintro e w3 ⟨rfl,hg3⟩;have aH:=ł (gtr HG2.out hg3);have q8:=ł (ai ku.out hg3);have HR3:=ł (ai aZ.out hg3);clear hg3 OQ ku aZ;have pG:=ł (show jS w3 (w3.alloc (.cells #[.slice none 0 0,.slice none 0 0] 34)) (.slice none 0 0) (.slice none 0 0) [] []from⟨(Mv.refl _ _).alloc _,heap_alloc_new w3 _,World.ownsRow_nil _ _ _ _,World.ownsRow_nil _ _ _ _⟩);obtain⟨p0,p1⟩:=aA q8.out;have hlp:=lt_of_block q8.out;have hcl:=kM.out;have hgt:decide ((65536:Int)<(cs.length:Int))=false:=by simp;omega
 have i1:IntKind.i64.wrap ((cs.length:Int) - 1)=(cs.length:Int) - 1:=IntWalk.i64_in _ (by omega);go_wp2_with fail;clear p0 p1 hlp hgt i1
 go_loopw [8] (λt wr=>∃ (m:Nat) (cv:Value),t = .int .i64 ((m:Int) - 1)/\m<=cs.length/\jS w3 wr cv (.slice none 0 0) ((cs.reverse.map (fJ cs.length)).take (cs.length - m)) []) (λt _=>(intOf t+1).toNat)
 case atStart=>exact⟨cs.length,_,rfl,Nat.le_refl _,by rw[Ro];exact pG.out⟩
 obtain⟨m,cv,rfl,hm,hst⟩:=hrel;have hlen:((cs.reverse.map (fJ cs.length)).take (cs.length - m)).length=cs.length - m:=by simp
 have mG:=ł (λ(h:m - 1<cs.length) (h2:0<m)=>show(cs.reverse.map (fJ cs.length)).take (cs.length - (m - 1))=(cs.reverse.map (fJ cs.length)).take (cs.length - m) ++ [fJ cs.length cs[m - 1]]from by
  have:=Rn (fJ cs.length) cs (m - 1) h;rwa[Nat.sub_add_cancel h2]at this)
 have uE:=ł (λ(e:m=0)=>show(cs.reverse.map (fJ cs.length)).take (cs.length - m)=cs.reverse.map (fJ cs.length)from by rw[e];exact RV _ _);generalize (cs.reverse.map (fJ cs.length)).take (cs.length - m)=ds at *;obtain⟨na,nc,pQ⟩:=gF hst.row;subst pQ;have HST:=ł hst;have hdl:ds.length<=65536:=by omega
 clear hst hlen;by_cases hlt:0<m
 · obtain⟨k,rfl⟩:∃ k,m=k+1:=⟨m - 1,by omega⟩;have hkl:k<cs.length:=by omega
   have hk1:((k+1:Nat):Int) - 1=(k:Int):=by omega
   have qO:=ł (mG.out hkl (by omega));simp only[Nat.add_sub_cancel]at qO;have hk2:IntKind.i64.wrap ((k:Int) - 1)=(k:Int) - 1:=IntWalk.i64_in _ (by omega);have hG:=gtr aH.out HST.out.g;obtain⟨b,off,cap',e,_,_⟩:=(HR1.out.later hG).at hkl;simp only[Value.slice.injEq,true_and]at e;obtain⟨rfl,rfl⟩:=e;obtain⟨⟨c0,c1,c2⟩,c3,c4,hbl⟩:=(HR1.out.later hG).ins hkl;have hpr:=ai q8.out HST.out.g;obtain⟨p0,p1⟩:=aA hpr;have hlp:=lt_of_block hpr;have dY:=ł hpr;have OT:=zA.out cs[k] (List.getElem_mem hkl);have xO:=ł (λw'=>PZ cs[k] w' OT.1 OT.2);have Ba:=ł (λ(h:bH cs[k].inv.op=true)=>yG (n:=cs.length) h);have Jp:=ł (λ(h:bH cs[k].inv.op=false)=>rQ (n:=cs.length) h);generalize hxe:cs[k]=x at *;generalize hye:x.inv=y at *;obtain⟨xo,xa,xb,xc,xd⟩:=x;obtain⟨yo,ya,yb,yc,yd⟩:=y;simp only at c0 c1 c2 c3 c4 Ba Jp;clear hxe hye mG hG hpr OT;have j5:=ł (λw'=>KG yo w');rw[hk1];go_wp2_with fail;refine(xO.out _).mono ?_;rintro e w5 ⟨rfl,hg5⟩;clear c0 c1 c2 c3 c4 p0 p1 hlp xO;have di:=ł (gtr hg5 ((Mv.refl _ w5).alloc (.cells #[.int .u8 yo,.int .i64 ya,.int .i64 yb,.int .i64 yc,.int .i64 yd] 57)));have uo:=ł (HST.out.grow di.out);have il:=ł (heap_alloc_new w5 (.cells #[.int .u8 yo,.int .i64 ya,.int .i64 yb,.int .i64 yc,.int .i64 yd] 57));have hwl:=hg5.size;go_wp2_with fail;generalize Wm:w5.alloc (.cells #[.int .u8 yo,.int .i64 ya,.int .i64 yb,.int .i64 yc,.int .i64 yd] 57)=w6 at *;have hs6:w5.heap.size<w6.heap.size:=by rw[← Wm];simp
   clear Wm;refine(j5.out _).mono ?_;rintro e w' ⟨rfl,rfl⟩;clear j5;generalize hmo:bH yo=mo at *;cases mo with
   |false =>
    have pR:=ł (Jp.out rfl);clear hmo;obtain⟨⟨d0,d1,d2⟩,d3,d4⟩:=bJ il.out;obtain⟨k0,k1⟩:=aA uo.out.blk;have Jz:=lt_of_block uo.out.blk;have afp:=uo.out.g.size;obtain⟨a',c',w7,⟨hok,hv,hw⟩,hrow2,bz⟩:=DI _ ⟨yo,ya,yb,yc,yd⟩ ds _ w6 uo.out.row uo.out.g.size (by omega);have BI:=uo.out.MX bz;obtain⟨m0,m1⟩:=aA BI;have zt:=aG BI;have xQ:=ł (uo.out.Ub bz hrow2);clear bz hrow2 BI;go_wp2_with fail
    go_roundw
    case rel=>exact⟨k,_,by first|rfl|go_num,by omega,by rw[qO.out,pR.out];simpa using xQ.out⟩
    case measure=>(simp[intOf] <;> omega)
   |true =>
    have pR:=ł (Ba.out rfl);clear hmo;have Jo:=ł (λw'=>Gm ⟨yo,ya,yb,yc,yd⟩ w');have dQ:=ł (λt w'=>F9 ⟨yo,ya,yb,yc,yd⟩ t w');obtain⟨⟨d0,d1,d2⟩,d3,d4⟩:=bJ il.out;have hlB:=lt_of_block il.out;go_wp2_with fail;refine(Jo.out _).mono ?_;rintro e w7 ⟨rfl,xV⟩;clear d0 d1 d2 d3 d4 hlB Jo;have wB:=ł (ai il.out xV);obtain⟨⟨d0,d1,d2⟩,d3,d4⟩:=bJ wB.out;have hlB:=lt_of_block wB.out;generalize NJ:Ins.target ⟨yo,ya,yb,yc,yd⟩=tg at *;clear NJ;generalize Ins.Ec ⟨yo,ya,yb,yc,yd⟩=am at *;go_wp2_with fail;refine(dQ.out _ _).mono ?_;rintro e w8 ⟨rfl,oN⟩;clear d0 d1 d2 d3 d4 hlB dQ;have nL:=ł (ai wB.out oN);have Ja:=ł ((uo.out.grow xV).grow oN);generalize hr:Ins.bN ⟨yo,ya,yb,yc,yd⟩ (wrap64 ((cs.length:Int) - 1 - tg))=r at *;obtain⟨ro,OU,rb,rc',rd⟩:=r;obtain⟨⟨f0,f1,f2⟩,f3,f4⟩:=bJ nL.out;have zf:=aG nL.out;have hlB:=lt_of_block nL.out;go_upto_region 15 with(fail);obtain⟨Fb,mW⟩:=j4 nL.out (.int .u8 ro) (.int .i64 OU) (.int .i64 rb) (.int .i64 rc') (.int .i64 rd);generalize ((((w8.setCell ⟨w5.heap.size,0,none⟩ (.int .u8 ro)).setCell ⟨w5.heap.size,1,none⟩ (.int .i64 OU)).setCell ⟨w5.heap.size,2,none⟩ (.int .i64 rb)).setCell ⟨w5.heap.size,3,none⟩ (.int .i64 rc')).setCell ⟨w5.heap.size,4,none⟩ (.int .i64 rd)=w9 at *;have Uc:jS w3 w9 (.slice na ds.length nc) (.slice none 0 0) ds []:=Ja.out.side mW (by have:=HST.out.g.size;omega) (by have:=lt_of_block HST.out.blk;omega) (λg hg=>by have:=(HST.out.row.lt g hg).2;omega) (λg hg=>by have:=(HST.out.fA.lt g hg).2;omega);have vT:=ł Uc;clear Uc f0 f1 f2 f3 f4 zf hlB;obtain⟨⟨d0,d1,d2⟩,d3,d4⟩:=bJ Fb;obtain⟨k0,k1⟩:=aA vT.out.blk;have Jz:=lt_of_block vT.out.blk;have afq:=vT.out.g.size;obtain⟨a',c',Nv,⟨hok,hv,hw⟩,hrow2,bz⟩:=DI _ ⟨ro,OU,rb,rc',rd⟩ ds _ w9 vT.out.row vT.out.g.size (by omega);have BI:=vT.out.MX bz;obtain⟨m0,m1⟩:=aA BI;have zt:=aG BI;have xQ:=ł (vT.out.Ub bz hrow2);clear bz hrow2 BI Fb mW;go_wp2_with fail
    go_roundw
    case rel=>exact⟨k,_,by first|rfl|go_num,by omega,by rw[qO.out,pR.out];simpa using xQ.out⟩
    case measure=>(simp[intOf] <;> omega)
 · have HF:=ł (uE.out (by omega));obtain rfl:m=0:=by omega
   have hk0:((0:Nat):Int) - 1 = -1:=rfl;have hpr:=ai q8.out HST.out.g;obtain⟨p0,p1⟩:=aA hpr;have hlp:=lt_of_block hpr;have dY:=ł hpr;have hlr:=HLR.out;have i2:IntKind.i64.wrap ((rs.length:Int) - 1)=(rs.length:Int) - 1:=IntWalk.i64_in _ (by omega);clear hpr mG uE;rw[HF.out]at HST;generalize Wn:cs.reverse.map (fJ cs.length)=es at *;have HES:=ł Wn;have hel:ds.length=es.length:=by rw[HF.out]
   clear Wn;rw[hk0];go_wp2_with fail;clear p0 p1 hlp i2;obtain⟨wo,hwo⟩:∃ wo:World,wo=wr:=⟨_,rfl⟩;subst hwo
   go_loopw [12] (λt wr2=>∃ (m:Nat) (rv:Value),t = .int .i64 ((m:Int) - 1)/\m<=rs.length/\jS w3 wr2 (.slice na es.length nc) rv es ((rs.reverse.map (nJ cs.length)).take (rs.length - m))) (λt _=>(intOf t+1).toNat)
   case atStart=>exact⟨rs.length,_,rfl,Nat.le_refl _,by rw[Ro];exact HST.out⟩
   obtain⟨m,rv,rfl,hm,hst⟩:=hrel;have hlen:((rs.reverse.map (nJ cs.length)).take (rs.length - m)).length=rs.length - m:=by simp
   have mG:=ł (λ(h:m - 1<rs.length) (h2:0<m)=>show(rs.reverse.map (nJ cs.length)).take (rs.length - (m - 1))=(rs.reverse.map (nJ cs.length)).take (rs.length - m) ++ [nJ cs.length rs[m - 1]]from by
    have:=Rn (nJ cs.length) rs (m - 1) h;rwa[Nat.sub_add_cancel h2]at this)
   have uE:=ł (λ(e:m=0)=>show(rs.reverse.map (nJ cs.length)).take (rs.length - m)=rs.reverse.map (nJ cs.length)from by rw[e];exact RV _ _);generalize (rs.reverse.map (nJ cs.length)).take (rs.length - m)=qs at *;obtain⟨qa,qc,zG⟩:=gF hst.fA;subst zG;have fD:=ł hst;have ll:qs.length<=65536:=by omega
   clear hst hlen HST;by_cases hlt:0<m
   · obtain⟨k,rfl⟩:∃ k,m=k+1:=⟨m - 1,by omega⟩;have hkl:k<rs.length:=by omega
     have hk1:((k+1:Nat):Int) - 1=(k:Int):=by omega
     have qO:=ł (mG.out hkl (by omega));simp only[Nat.add_sub_cancel]at qO;have hk2:IntKind.i64.wrap ((k:Int) - 1)=(k:Int) - 1:=IntWalk.i64_in _ (by omega);obtain⟨b2,Tn,cap2,e,_,uf⟩:=(HR2.out.later (gtr aH.out fD.out.g)).at hkl;simp only[Value.slice.injEq,true_and]at e;obtain⟨rfl,rfl⟩:=e;have c0:=uf 0 _ rfl;have c1:=uf 1 _ rfl;generalize hre:rs[k]=r at *;obtain⟨r0,r1⟩:=r;have Bf:=ł (show nJ cs.length ⟨r0,r1⟩=⟨wrap64 ((cs.length:Int) - 1 - r0),r1⟩from rfl);simp only[Nat.add_zero]at c0 c1;have hb2:=World.block_lt_of_cell? _ _ c0;have hpr:=ai q8.out fD.out.g;obtain⟨p0,p1⟩:=aA hpr;have hlp:=lt_of_block hpr;clear uf mG hpr;obtain⟨a4,c4,w4,⟨hok',hv',hw'⟩,hrow4,kW⟩:=Lm _ ⟨wrap64 ((cs.length:Int) - 1 - r0),r1⟩ qs _ wr.drew fD.out.drew.fA fD.out.g.size (by omega);have hok:qG Tryz.prog 32 32 (.slice qa qs.length qc) (.slice (some ⟨wr.heap.size,0,none⟩) 1 1) (wr.alloc (.cells #[.int .i64 (wrap64 ((cs.length:Int) - 1 - r0)),.string r1] 78)).drew:=hok';have hv:nA Tryz.prog 32 32 (.slice qa qs.length qc) (.slice (some ⟨wr.heap.size,0,none⟩) 1 1) (wr.alloc (.cells #[.int .i64 (wrap64 ((cs.length:Int) - 1 - r0)),.string r1] 78)).drew = .slice a4 (qs.length+1) c4:=hv';have hw:appW Tryz.prog 32 32 (.slice qa qs.length qc) (.slice (some ⟨wr.heap.size,0,none⟩) 1 1) (wr.alloc (.cells #[.int .i64 (wrap64 ((cs.length:Int) - 1 - r0)),.string r1] 78)).drew=w4:=hw';have mF:=ł (fD.out.drew.IL kW hrow4);have h2:=fD.out.drew.Ua kW;have hg4:Grow w3 w4:=fD.out.drew.g.trans kW (λb e => .inr (fD.out.fA.lt b e).1);have Wo:=ai q8.out hg4;obtain⟨p2,p3⟩:=aA Wo;have zO:=ai q8.out mF.out.g;obtain⟨p4,p5⟩:=aA zO;obtain⟨b3,afr,afs,e3,_,MZ⟩:=(HR2.out.later (gtr aH.out hg4)).at hkl;obtain⟨b4,aft,cap4,e4,_,Na⟩:=(HR2.out.later (gtr aH.out mF.out.g)).at hkl;simp only[Value.slice.injEq,true_and,Option.some.injEq,Addr.mk.injEq,and_true]at e3 e4;obtain⟨⟨rfl,rfl⟩,-⟩:=e3;obtain⟨⟨rfl,rfl⟩,-⟩:=e4;have d0:=MZ 0 _ rfl;have d1:=MZ 1 _ rfl;have f0:=Na 0 _ rfl;have f1:=Na 1 _ rfl;rw[hre]at d0 d1 f0 f1;simp only[Nat.add_zero]at d0 d1 f0 f1;obtain⟨k0,k1⟩:=aA fD.out.blk;obtain⟨m0,m1⟩:=aA h2;have zt:=aG h2;have Jz:=lt_of_block fD.out.blk;clear hrow4 kW h2 hok' hv' hw' hg4 Wo zO MZ Na;rw[hk1];go_wp2_with fail
     go_region
     go_wp2_with fail
     go_roundw
     case rel=>exact⟨k,_,by first|rfl|go_num,by omega,by rw[qO.out,Bf.out];simpa using mF.out⟩
     case measure=>(simp[intOf] <;> omega)
   · have kg:=ł (uE.out (by omega));obtain rfl:m=0:=by omega
     have hk0:((0:Nat):Int) - 1 = -1:=rfl;obtain⟨k0,k1⟩:=aA fD.out.blk;have hl1:=lt_of_block fD.out.blk;have hrb:=ai HR3.out fD.out.g;obtain⟨m0,m1⟩:=aA hrb;have hl2:=lt_of_block hrb;have zt:=aG hrb;have hs2:=aH.out.size;have hl3:=lt_of_block HR3.out;obtain⟨hs,hmv⟩:=set2 hrb (.slice na es.length nc) (.slice qa qs.length qc);have HS:=ł hs;have aJ:=ł (show Grow w _ from(gtr aH.out fD.out.g).trans hmv (λb e => .inr (by omega)));have Fj:=ł (show ay _ (.agg #[.slice na es.length nc,.slice qa qs.length qc]) (bL ⟨cs,rs⟩)from by
      rw[CO.out,← kg.out];exact⟨na,nc,qa,qc,rfl,fI (λ_=>rfl) (bg fD.out.row hmv (λg hg e=>by subst e;exact dK fD.out.row hrb (by decide) hg)),fI (λ_=>rfl) (bg fD.out.fA hmv (λg hg e=>by subst e;exact dK fD.out.fA hrb (by decide) hg))⟩)
     clear hs hmv hrb hs2 hl3 mG uE;rw[hk0];go_wp2_with fail;obtain⟨t0,t1⟩:=aA HS.out;exact bodyPost_ret (v := .tuple #[.agg #[.slice na es.length nc,.slice qa qs.length qc],.int .i64 0]) (by simp[results,Tryz.results10,go_sem,t0,t1]) rfl ⟨_,rfl,Fj.out,aJ.out⟩
theorem Dk (op:Int):dL (dL op)=op:=by
 unfold dL
 repeat' split
 all_goals omega
theorem inv_inv (x:Ins):x.inv.inv=x:=by
 obtain⟨op,a,b,c,d⟩:=x;simp only[Ins.inv,Dk]
theorem Hz (op:Int):fU (dL op)=gz op:=by
 by_cases h:op=22\/op=23\/op=24\/op=25\/op=26\/op=27
 · rcases h with rfl|rfl|rfl|rfl|rfl|rfl <;> decide
 · have h2:gz op=false:=by simp[gz];omega
   rw[h2];have h3:=Dk op;cases hj:fU (dL op)with
   |false=>rfl
   |true =>
    exfalso;simp only[fU,Bool.or_eq_true,beq_iff_eq]at hj;rcases hj with e|e|e <;> (rw[e]at h3;simp only[dL]at h3;simp at h3;omega)
theorem Lu (op:Int):gz (dL op)=fU op:=by
 have:=Hz (dL op);rw[Dk]at this;exact this.symm
theorem qC (op:Int):bH (dL op)=bH op:=by
 unfold bH;rw[Hz,Lu,Bool.or_comm]
theorem Ii (op:Int):kZ (dL op)=kZ op/\mi (dL op)=mi op:=by
 by_cases h:op=22\/op=23\/op=24\/op=25\/op=26\/op=27\/op=30\/op=31\/op=32\/op=33
 · rcases h with rfl|rfl|rfl|rfl|rfl|rfl|rfl|rfl|rfl|rfl <;> decide
 · have h1:kZ op=false:=by simp[kZ];omega
   have h2:mi op=false:=by simp[mi];omega
   rw[h1,h2];have h3:=Dk op;constructor
   · cases hj:kZ (dL op)with
     |false=>rfl
     |true =>
      exfalso;simp only[kZ,Bool.or_eq_true,beq_iff_eq]at hj;rcases hj with e|e|e|e|e|e <;> (rw[e]at h3;simp only[dL]at h3;simp at h3;omega)
   · cases hj:mi (dL op)with
     |false=>rfl
     |true =>
      exfalso;simp only[mi,Bool.or_eq_true,beq_iff_eq]at hj;rcases hj with e|e|e|e <;> (rw[e]at h3;simp only[dL]at h3;simp at h3;omega)
theorem Gt (x:Ins):x.inv.target=x.target:=by
 obtain⟨op,a,b,c,d⟩:=x;simp only[Ins.target,Ins.inv,(Ii op).1,(Ii op).2]
theorem J9 (x:Ins) (t:Int):(x.bN t).inv=x.inv.bN t:=by
 obtain⟨op,a,b,c,d⟩:=x;simp only[Ins.bN,Ins.inv,(Ii op).1,(Ii op).2];split
 · rfl
 · split <;> rfl
theorem _W (n:Int) (x:Ins) (h:bH x.op=true->0<=x.target/\x.target<n) (hn:n<=70000):fJ n (fJ n x)=x:=by
 by_cases hm:bH x.op=true
 · have hm1:bH x.inv.op=true:=by rw[show x.inv.op=dL x.op from rfl,qC];exact hm
   obtain⟨h0,h1⟩:=h hm;have e1:fJ n x=x.inv.bN (n - 1 - x.target):=by
    rw[yG hm1,Gt,mO (by simp only[In64];omega)]
   have e2:(x.inv.bN (n - 1 - x.target)).inv=x.bN (n - 1 - x.target):=by rw[J9,inv_inv]
   rw[e1,yG (by rw[e2,mK];exact hm),e2,rM hm,mO (by simp only[In64];omega),wJ,show n - 1 - (n - 1 - x.target)=x.target by omega,Pn hm]
 · have hm1:¬ bH x.inv.op=true:=by rw[show x.inv.op=dL x.op from rfl,qC];exact hm
   have e1:fJ n x=x.inv:=rQ (by simpa using hm1);rw[e1,rQ (by rw[inv_inv];simpa using hm),inv_inv]
theorem Ok0.tg {p:aB} (h:Ok0 p) {x:Ins} (hx:x∈p.code) (hm:bH x.op=true):0<=x.target/\x.target<p.code.length:=by
 obtain⟨i,hi⟩:=List.mem_iff_getElem?.1 hx;obtain⟨⟨j,y,-,hj,ht,-⟩,-⟩:=h.wG i x hi (λe=>e) hm;have:=nu hj;omega
theorem Ok0.rf {p:aB} (h:Ok0 p) {r:aV} (hr:r∈p.refs):0<=r.at'/\r.at'<p.code.length:=by
 have hm:r.at'∈dD p.code 0:=by rw[← h.refs];exact List.mem_map.2 ⟨r,hr,rfl⟩
 have:=Dr _ _ _ hm;omega
theorem Rp (p:aB):(bL p).code.length=p.code.length/\(bL p).refs.length=p.refs.length:=by simp[bL]
theorem Ok0.twice {p:aB} (h:Ok0 p) (hl:p.code.length<=65536):bL (bL p)=p:=by
 obtain⟨c,r⟩:=p;simp only[bL,List.length_map,List.length_reverse,aB.mk.injEq];simp only at hl;constructor
 · rw[← List.map_reverse,List.reverse_reverse,List.map_map]
   conv=>rhs;rw[← List.map_id c]
   refine List.map_congr_left λx hx => ?_;exact _W _ x (λhm=>by have:=h.tg hx hm;simpa using this) (by omega)
 · rw[← List.map_reverse,List.reverse_reverse,List.map_map]
   conv=>rhs;rw[← List.map_id r]
   refine List.map_congr_left λx hx => ?_;have:=h.rf hx;obtain⟨a,n⟩:=x;simp only[Function.comp,nJ,id_eq,aV.mk.injEq,and_true]at this ⊢;rw[mO (n:=(c.length:Int) - 1 - a) (by simp only[In64];omega),mO (by simp only[In64];omega)];omega
theorem ZI {p q:aB} (hp:Ok0 p) (hq:Ok0 q) (hl:p.code.length+q.code.length<=65536):bL (eF p q)=eF (bL q) (bL p):=by
 obtain⟨pc,pr⟩:=p;obtain⟨qc,qr⟩:=q;simp only at hl;simp only[bL,eF,aB.mk.injEq,List.reverse_append,List.map_append,List.length_append,tq,List.length_map,List.length_reverse];refine⟨?_,?_⟩
 · congr 1
   · rw[bR,← List.map_reverse,List.map_map];refine List.map_congr_left λx hx => ?_;simp only[Function.comp];have hx:=List.mem_reverse.1 hx;by_cases hm:bH x.op=true
     · have ht:=hq.tg hx hm;simp only at ht;have hm1:bH x.inv.op=true:=by rw[show x.inv.op=dL x.op from rfl,qC];exact hm
       have e1:x.shift pc.length=x.bN (x.target+pc.length):=by
        rw[Ins.KH hm,mO (by simp only[In64];omega)]
       have e2:(x.bN (x.target+pc.length)).inv=x.inv.bN (x.target+pc.length):=J9 _ _;rw[e1,yG (by rw[e2,mK];exact hm1),e2,rM hm1,wJ,yG hm1,Gt];congr 2;omega
     · have hm1:¬ bH x.inv.op=true:=by rw[show x.inv.op=dL x.op from rfl,qC];exact hm
       rw[Ins.KI (by simpa using hm),rQ (by simpa using hm1),rQ (by simpa using hm1)]
   · rw[bR,List.map_map];refine List.map_congr_left λx hx => ?_;simp only[Function.comp];have hx:=List.mem_reverse.1 hx;by_cases hm:bH x.op=true
     · have ht:=hp.tg hx hm;simp only at ht;have hm1:bH x.inv.op=true:=by rw[show x.inv.op=dL x.op from rfl,qC];exact hm
       rw[yG hm1,yG hm1,Gt,Ins.KH (by rw[mK];exact hm1),rM hm1,wJ];congr 1;rw[mO (n:=(pc.length:Int) - 1 - x.target) (by simp only[In64];omega)];congr 1;omega
     · have hm1:¬ bH x.inv.op=true:=by rw[show x.inv.op=dL x.op from rfl,qC];exact hm
       rw[rQ (by simpa using hm1),rQ (by simpa using hm1),Ins.KI (by simpa using hm1)]
 · congr 1
   · rw[← List.map_reverse,List.map_map];refine List.map_congr_left λx hx => ?_;have:=hq.rf (List.mem_reverse.1 hx);obtain⟨a,n⟩:=x;simp only[Function.comp,nJ,aV.shift,aV.mk.injEq,and_true]at this ⊢;rw[mO (n:=a+(pc.length:Int)) (by simp only[In64];omega)];congr 1;omega
   · rw[List.map_map];refine List.map_congr_left λx hx => ?_;have:=hp.rf (List.mem_reverse.1 hx);obtain⟨a,n⟩:=x;simp only[Function.comp,nJ,aV.shift,aV.mk.injEq,and_true]at this ⊢;rw[mO (n:=(pc.length:Int) - 1 - a) (by simp only[In64];omega)];congr 1;omega
theorem zZ:∀ (l:List aB),(∀ p∈l,Ok0 p)->aO l<=65536->bL (aL l)=aL (l.reverse.map bL)
 | [],_,_=>rfl
 |p :: l,h,ht=>by
  have ht':aO (p :: l)=p.code.length+aO l:=by simp[aO]
  rw[ht']at ht;have hp:=h p (by simp);have hl:∀ q∈l,Ok0 q:=λq hq=>h q (by simp[hq]);have ih:=zZ l hl (by omega);have hj:=rU l hl (by omega);rw[Gr,hp.none (by omega),ZI hp hj (by rw[(dI l).1];exact ht),ih,List.reverse_cons,List.map_append];simp only[aL,List.foldl_append,List.map_cons,List.map_nil,List.foldl_cons,List.foldl_nil]
theorem QK (x:Ins) (h:0<=x.op/\x.op<32):x.inv.gT=x.gT:=by
 obtain⟨op,a,b,c,d⟩:=x;simp only at h;obtain rfl|rfl|rfl|rfl|rfl|rfl|rfl|rfl|rfl|rfl|rfl|rfl|rfl|rfl|rfl|rfl|rfl|rfl|rfl|rfl|rfl|rfl|rfl|rfl|rfl|rfl|rfl|rfl|rfl|rfl|rfl|rfl:op=0\/op=1\/op=2\/op=3\/op=4\/op=5\/op=6\/op=7\/op=8\/op=9\/op=10\/op=11\/op=12\/op=13\/op=14\/op=15\/op=16\/op=17\/op=18\/op=19\/op=20\/op=21\/op=22\/op=23\/op=24\/op=25\/op=26\/op=27\/op=28\/op=29\/op=30\/op=31:=by omega
 all_goals rfl
theorem ZJ {op:Int} (h:0<=op/\op<32):0<=dL op/\dL op<32:=by
 unfold dL
 repeat' split
 all_goals omega
theorem RX (op:Int):iw (dL op)=iw op:=by
 by_cases h:op=30\/op=31
 · rcases h with rfl|rfl <;> decide
 · have h2:iw op=false:=by simp[iw];omega
   rw[h2];have h3:=Dk op;cases hj:iw (dL op)with
   |false=>rfl
   |true =>
    exfalso;simp only[iw,Bool.or_eq_true,beq_iff_eq]at hj;rcases hj with e|e <;> (rw[e]at h3;simp only[dL]at h3;simp at h3;omega)
theorem Qi (f:Ins->Ins) (hf:∀ x,iw (f x).op=iw x.op):∀ (l:List Ins),dD (l.reverse.map f) 0=(dD l 0).reverse.map λc=>(l.length:Int) - 1 - c
 | []=>rfl
 |x :: l=>by
  have ih:=Qi f hf l;have ho:=Ko 1 l 0;rw[Nat.zero_add]at ho;have hm:((dD l 0).reverse.map λc=>(l.length:Int) - 1 - c)=(((dD l 0).map λc=>c+((1:Nat):Int)).reverse.map λc=>((l.length+1:Nat):Int) - 1 - c):=by
   rw[← List.map_reverse,List.map_map];refine List.map_congr_left λc _ => ?_;simp only[Function.comp];omega
  rw[List.reverse_cons,List.map_append,Df,ih,hm];simp only[dD,List.map_cons,List.map_nil,hf,List.length_map,List.length_reverse,Nat.zero_add,ho,List.length_cons];split
  · simp
  · simp
theorem Ch (n:Int) (x:Ins):(fJ n x).op=dL x.op:=by
 unfold fJ;split
 · rw[mK];rfl
 · rfl
theorem Ok0.inv {p:aB} (h:Ok0 p) (hl:p.code.length<=65536):Ok0 (bL p):=by
 have hat:∀ i x,(bL p).code[i]? = some x->i<p.code.length/\∃ y,p.code[p.code.length - 1 - i]? = some y/\x=fJ p.code.length y:=λi x hx=>by
  have hi:=nu hx;rw[(Rp p).1]at hi;simp only[bL,List.getElem?_map]at hx;rw[List.getElem?_reverse hi]at hx;rcases hy:p.code[p.code.length - 1 - i]? with _|y
  · rw[hy]at hx;cases hx
  · rw[hy]at hx;simp only[Option.map_some,Option.some.injEq]at hx;exact⟨hi,y,rfl,hx.symm⟩
 have hto:∀ i y,p.code[i]? = some y->(bL p).code[p.code.length - 1 - i]? = some (fJ p.code.length y):=λi y hy=>by
  have hi:=nu hy;simp only[bL,List.getElem?_map];rw[List.getElem?_reverse (by omega),show p.code.length - 1 - (p.code.length - 1 - i)=i by omega,hy];rfl
 have Wp:∀ (y:Ins) t,bH y.op=true->(∀ t,0<=t->t<65536->(y.bN t).gT=true)->(0<=y.op/\y.op<32)->0<=t->t<65536->(y.inv.bN t).gT=true:=λy t hm hv ho h0 h1=>by
  rw[← J9,QK _ (by rw[mK];exact ho)];exact hv t h0 h1
 have JW:∀ (y:Ins),bH y.op=true->0<=y.target/\y.target<p.code.length->fJ p.code.length y=y.inv.bN ((p.code.length:Int) - 1 - y.target):=λy hm ht=>by
  have hm1:bH y.inv.op=true:=by rw[show y.inv.op=dL y.op from rfl,qC];exact hm
  rw[yG hm1,Gt,mO (by simp only[In64];omega)]
 refine⟨λx hx => ?_,λi x hx _ => ?_,λi hs=>hs.elim,λi x hx _ hm => ?_,λx hx hc => ?_,?_⟩
 · obtain⟨i,hi⟩:=List.mem_iff_getElem?.1 hx;obtain⟨-,y,hy,rfl⟩:=hat i x hi;rw[Ch];exact ZJ (h.op y (List.mem_of_getElem? hy))
 · obtain⟨hi,y,hy,rfl⟩:=hat i x hx;have ho:=h.op y (List.mem_of_getElem? hy);by_cases hm:bH y.op=true
   · have ht:=h.tg (List.mem_of_getElem? hy) hm;rw[JW y hm ht];exact Wp y _ hm (h.wG _ y hy (λe=>e) hm).2 ho (by omega) (by omega)
   · have hm1:¬ bH y.inv.op=true:=by rw[show y.inv.op=dL y.op from rfl,qC];exact hm
     rw[rQ (by simpa using hm1),QK y ho];exact h.val _ y hy (λe=>e)
 · obtain⟨hi,y,hy,rfl⟩:=hat i x hx;rw[Ch,qC]at hm;have ho:=h.op y (List.mem_of_getElem? hy);obtain⟨⟨j,z,-,hz,e1,e2,hop⟩,hv⟩:=h.wG _ y hy (λe=>e) hm;have hj:=nu hz;have hmz:bH z.op=true:=by
    rcases hop with e|e
    · simp[bH,e.2]
    · simp[bH,e.2]
   have hm1:bH y.inv.op=true:=by rw[show y.inv.op=dL y.op from rfl,qC];exact hm
   have hm2:bH z.inv.op=true:=by rw[show z.inv.op=dL z.op from rfl,qC];exact hmz
   refine⟨⟨p.code.length - 1 - j,fJ p.code.length z,λe=>e,hto j z hz,?_,?_,?_⟩,λt h0 h1 => ?_⟩
   · rw[JW y hm (by omega),rM hm1];omega
   · rw[JW z hmz (by omega),rM hm2];omega
   · unfold pW;rw[Ch,Ch,Hz,Lu,Lu,Hz];exact hop.elim .inr .inl
   · rw[JW y hm (by omega),wJ];exact Wp y t hm hv ho h0 h1
 · obtain⟨i,hi⟩:=List.mem_iff_getElem?.1 hx;obtain⟨-,y,hy,rfl⟩:=hat i x hi;rw[Ch,RX]at hc;have hnm:¬ bH y.inv.op=true:=by
    rw[show y.inv.op=dL y.op from rfl,qC];simp only[iw,Bool.or_eq_true,beq_iff_eq]at hc;rcases hc with e|e <;> (rw[e];decide)
   rw[rQ (by simpa using hnm)];exact h.ca y (List.mem_of_getElem? hy) hc
 · have hr:(bL p).refs.map aV.at'=(p.refs.map aV.at').reverse.map λc=>(p.code.length:Int) - 1 - c:=by
    simp only[bL,List.map_map,← List.map_reverse];refine List.map_congr_left λr hr => ?_;have:=h.rf (List.mem_reverse.1 hr);simp only[Function.comp,nJ];rw[mO (by simp only[In64];omega)]
   rw[hr,h.refs];exact(Qi (fJ p.code.length) (λx=>by rw[Ch,RX]) p.code).symm
end Go.Proofs.YtnobahchcongnaaGreatDoor
