import Derived.Test.YtnobahchcongnaaGreatF44
set_option linter.unusedSimpArgs false
set_option linter.unusedVariables false
set_option maxRecDepth 100000
set_option maxHeartbeats 25600000
namespace Go.Proofs.YtnobahchcongnaaGreat
open Go.RowKit Go.Instr
structure xW (B:Nat) (w:World) (R J:Nat) (f:Nat):Prop where
 r:w.heap[R]? = some (.cells #[.func (.func 18) #[] #[.pointer (some ⟨B,0,none⟩)]] 68 (0,0))
 j:(f=23/\∃ i,w.heap[J]? = some (.cells #[.int .i64 i] 3 (0,0)))\/(f=24/\∃ v0 a n c v2 v3 v4 v5,w.heap[J]? = some (.cells #[v0,.slice a n c,v2,v3,v4,v5] 28 (0,0)))
theorem xW.later {B:Nat} {w w':World} {R J f:Nat} (h:xW B w R J f) (hg:Grow w w'):xW B w' R J f:=by
 refine⟨ai h.r hg,?_⟩;rcases h.j with⟨rfl,i,hj⟩|⟨rfl,v0,a,n,c,v2,v3,v4,v5,hj⟩
 · exact .inl ⟨rfl,i,ai hj hg⟩
 · exact .inr ⟨rfl,v0,a,n,c,v2,v3,v4,v5,ai hj hg⟩
theorem dA.keep' {wb w w':World} {B b c:Nat} {cs:Array Value} {t:TypeId} {z:Nat × Nat} (h:dA wb B w w') (hst:mO wb B w c) (hb:w.heap[b]? = some (.cells cs t z)) (ht:t≠67) (BD:t≠32):w'.heap[b]? = some (.cells cs t z):=by
 obtain⟨v,l,h1,-,-⟩:=hst.blk;exact h.keep hb h1 ht BD
theorem xW.vI {wb:World} {B:Nat} {w w':World} {R J f c:Nat} (h:xW B w R J f) (hst:mO wb B w c) (hm:dA wb B w w'):xW B w' R J f:=by
 refine⟨hm.keep' hst h.r (by decide) (by decide),?_⟩;rcases h.j with⟨rfl,i,hj⟩|⟨rfl,v0,a,n,c,v2,v3,v4,v5,hj⟩
 · exact .inl ⟨rfl,i,hm.keep' hst hj (by decide) (by decide)⟩
 · exact .inr ⟨rfl,v0,a,n,c,v2,v3,v4,v5,hm.keep' hst hj (by decide) (by decide)⟩
theorem QD (wb:World) (B R J f:Nat) (pv:Value) (path:List Int) (s:ByteArray) (e:Int) (c:Nat) (w:World) (hr:xW B w R J f) (hst:mO wb B w c) (hpt:ax 1 kW w pv path) (hpl:path.length<=1000000) (hc:c<=900000) :
 Calls Tryz.prog f #[pv,.string s,.int .i64 e,.pointer (some ⟨R,0,none⟩),.pointer (some ⟨J,0,none⟩)] w (Kh wb B w (c+lL e)):=by
 have r0:=cell1 hr.r;have rl:=lt_of_block hr.r;rcases hr.j with⟨rfl,i,hj⟩|⟨rfl,v0,a,n,c,v2,v3,v4,v5,hj⟩
 · have j0:=cell1 hj;have jl:=lt_of_block hj;have HC:=ł (BM wb B i pv path s e c w hst hpt (by omega) hc);clear hr hst hpt hj
   go_enter Tryz.func23,Tryz.ntmps23
   go_wp2_with fail;refine HC.out.mono ?_;rintro e w2 ⟨rfl,h2,h3⟩;have H2:=ł h2;have H3:=ł h3;clear h2 h3;go_wp2_with fail
   go_end0
   exact⟨rfl,H2.out,H3.out⟩
 · rename_i cc;obtain⟨⟨j0,j1,j2⟩,j3,j4,j5⟩:=dK hj;have jl:=lt_of_block hj;have HC:=ł (BM wb B n pv path s e cc w hst hpt (by omega) hc);clear hr hst hpt hj
   go_enter Tryz.func24,Tryz.ntmps24
   go_wp2_with fail;refine HC.out.mono ?_;rintro e w2 ⟨rfl,h2,h3⟩;have H2:=ł h2;have H3:=ł h3;clear h2 h3;go_wp2_with fail
   go_end0
   exact⟨rfl,H2.out,H3.out⟩
def nD (P:List aU) (s:ByteArray) (n:Nat):Nat->List Tree->List aA->Nat
 |_,[],_=>0
 |i,t :: r,aB=>lL (pg P s n t.name i aB)+nD P s n (i+1) r aB
mutual
def gP (P:List aU):Tree->List aA->Nat
 |.mk k _ s l,aB=>lL (fu P k s l.length aB)+(if k=50\/k=51 then nD P s l.length 0 l aB else o6 P k s 0 l aB)
def o6 (P:List aU) (k:Int) (s:ByteArray):Nat->List Tree->List aA->Nat
 |_,[],_=>0
 |i,t :: r,aB=>gP P t (kT (.mk k 0 s []) i aB)+o6 P k s (i+1) r aB
end
theorem Xx (t:Tree) (i:Nat) (l:List aA):(kT t i l).length<=l.length+1:=by
 unfold kT;split
 · simp
 · split
   · simp
   · omega
def mG {α:Type} (wb:World) (n:Nat) (f:α->List Value) (T:TypeId) (w:World) (v:Value) (l:List α):Prop:=ax n f w v l/\(l≠[]->∀ g,v.ownBlock=some g->g<wb.heap.size\/∃ cs z,w.heap[g]? = some (.cells cs T z))
theorem mG.later {α:Type} {wb:World} {n:Nat} {f:α->List Value} {T:TypeId} {w w':World} {v:Value} {l:List α} (h:mG wb n f T w v l) (hg:Grow w w'):mG wb n f T w' v l :=
 ⟨h.1.later hg,λhl g e=>(h.2 hl g e).imp id (λ⟨cs,z,hb⟩=>⟨cs,z,ai hb hg⟩)⟩
theorem mG.vI {α:Type} {wb:World} {B c:Nat} {n:Nat} {f:α->List Value} {T:TypeId} {w w':World} {v:Value} {l:List α} (h:mG wb n f T w v l) (hst:mO wb B w c) (hm:dA wb B w w') (ht:T≠67:=by decide) (BD:T≠32:=by decide):mG wb n f T w' v l:=by
 obtain⟨bv,bl,hB,-,-⟩:=hst.blk;refine⟨?_,λhl g e=>(h.2 hl g e).imp id (λ⟨cs,z,hb⟩=>⟨cs,z,hm.keep' hst hb ht BD⟩)⟩;by_cases hl:l=[]
 · subst hl;obtain⟨a,cap,rfl,h1,h2⟩:=h.1.form;exact⟨a,cap,rfl,h1,h2,λi x hx=>by simp at hx⟩
 · refine h.1.stay hm λg e => ?_;rintro⟨h1,h2⟩;rcases h.2 hl g e with h3|⟨cs,z,h3⟩
   · omega
   · rcases h2 with rfl|⟨cs2,z2,h4⟩
     · rw[hB]at h3;simp only[Option.some.injEq,Obj.cells.injEq]at h3;exact BD h3.2.1.symm
     · rw[h3]at h4;simp only[Option.some.injEq,Obj.cells.injEq]at h4;exact ht h4.2.1
theorem mG.Nc {α:Type} {wb:World} {n:Nat} {f:α->List Value} {T:TypeId} {w w':World} {v v':Value} {l l':List α} (h:mG wb n f T w v l) (hg:Grow w w') (hr:ax n f w' v' l') (ho:(v'=v/\l'=l)\/∀ g,v'.ownBlock=some g->∃ cs z,w'.heap[g]? = some (.cells cs T z)):mG wb n f T w' v' l':=by
 rcases ho with⟨rfl,rfl⟩|ho
 · exact h.later hg
 · exact⟨hr,λ_ g e => .inr (ho g e)⟩
theorem mG.old {α:Type} {wb:World} {n:Nat} {f:α->List Value} {T:TypeId} {v:Value} {l:List α} (hn:∀ x,0<(f x).length) (h:ax n f wb v l):mG wb n f T wb v l:=by
 refine⟨h,λhl g e => .inl ?_⟩;have h0:0<l.length:=List.length_pos_iff.2 hl;obtain⟨b,off,cap,rfl,-,hc⟩:=h.at h0;simp only[Value.ownBlock,Option.map_some,Option.some.injEq]at e;have h1:=hc 0 _ (List.getElem?_eq_getElem (hn l[0]));have:=World.block_lt_of_cell? wb _ h1;simp only at this;omega
attribute [local go_sem ↓] lu
theorem Pf (t:Tree):1<=bA t:=by cases t;rw[bA];omega
theorem OA:∀ l:List Tree,l.length<=dz l
 | []=>Nat.zero_le _
 |t :: l=>by have:=Pf t;have:=OA l;rw[dz,List.length_cons];omega
theorem Zl (k n:Int) (s:ByteArray) (kv:Value) (l:List ae):l.length+1<=bA (ae.t (.mk k n s kv l)):=by
 have:=OA (ae.ts l);rw[ae.bT]at this;rw[ae.t,bA];omega
theorem OB (wb:World) (B:Nat) (p:cu) (hp:qj wb p) (R J f:Nat) (hfl:f=23\/f=24):∀ (m:Nat) (x:ae),SizeOf.sizeOf x<=m->aS wb x->∀ (w:World) (c:Nat) (path:List Int) (pv:Value) (aB:List aA) (vv:Value),mO wb B w c->xW B w R J f->mG wb 1 kW 3 w pv path->mG wb 3 aA.cells 54 w vv aB->c+gP p.d.procs x.t aB<=900000->path.length+bA x.t<=900000->aB.length+bA x.t<=900000 ->
 Calls Tryz.prog 22 #[p.val,x.val,pv,vv,.func (.func f) #[] #[.pointer (some ⟨R,0,none⟩),.pointer (some ⟨J,0,none⟩)]] w (Kh wb B w (c+gP p.d.procs x.t aB)):=by
 obtain⟨vars,U5,procs,U6,⟨mk,mn,ms,mv,ml⟩⟩:=p;obtain⟨⟨va,vc,rfl⟩,⟨pa,pc,rfl⟩,hm⟩:=hp.form;obtain⟨ma,mc,rfl,-,-⟩:=hm.form;have iB:=ł hp;have Al:=ł (show(cu.d ⟨vars,.slice va vars.length vc,procs,.slice pa procs.length pc,.mk mk mn ms (.slice ma ml.length mc) ml⟩).procs=procs.map ak.d from rfl);have hent:∀ (args:Array Value) (w:World),(callFunc f args).run Tryz.prog w = .ok (.enter f args) w:=by
  rcases hfl with rfl|rfl <;> intro args w <;> simp[go_sem]
 clear hp hm hfl;simp only[Al.out];generalize hP:procs.map ak.d=P at *;intro m
 induction m with
 |zero=>intro x hm;cases x;simp at hm
 |succ m ih =>
  intro x hm hx w c path pv aB vv hst hrep hpt Nf hcb hpb hvb;obtain⟨k,n,s,kv,l⟩:=x;obtain⟨ka,kc,rfl,hkc,hkl⟩:=hx.form;obtain⟨qa,qc,rfl,-,-⟩:=hpt.1.form;obtain⟨ia,ic,rfl,-,-⟩:=Nf.1.form;have fT:=ł (λ(i:Nat) (hi:i<l.length)=>ih l[i] (Nat.le_of_lt_succ (Nat.lt_of_lt_of_le (nA (k:=k) (n:=n) (s:=s) (kv := .slice ka l.length kc) (List.getElem_mem hi)) hm)) (hx.row.2.2.2.2 _ (List.getElem_mem hi)));have wZ:=ł hx;have HST:=ł hst;have Sg:=ł hrep;have rZ:=ł hpt;have Am:=ł Nf;have hsz:l.length+1<=bA (ae.t (.mk k n s (.slice ka l.length kc) l)):=Zl _ _ _ _ _;have HV:=ł (show gP P (ae.t (.mk k n s (.slice ka l.length kc) l)) aB=lL (fu P k s l.length aB)+(if k=50\/k=51 then nD P s l.length 0 (ae.ts l) aB else o6 P k s 0 (ae.ts l) aB)from by
   rw[ae.t,gP,ae.bT])
  generalize hVV:gP P (ae.t (.mk k n s (.slice ka l.length kc) l)) aB=V at *;generalize hSS:bA (ae.t (.mk k n s (.slice ka l.length kc) l))=SZ at *;obtain⟨Ei,-,bg⟩:=a2 w (.cells #[.slice va vars.length vc,.slice pa procs.length pc,.int .u8 mk,.int .i64 mn,.string ms,.slice ma ml.length mc] 28) (.cells #[.int .u8 k,.int .i64 n,.string s,.slice ka l.length kc] 26);have xz:=ł (show((w.alloc (.cells #[.slice va vars.length vc,.slice pa procs.length pc,.int .u8 mk,.int .i64 mn,.string ms,.slice ma ml.length mc] 28)).alloc (.cells #[.int .u8 k,.int .i64 n,.string s,.slice ka l.length kc] 26)).heap[w.heap.size+1]? = some (.cells #[.int .u8 k,.int .i64 n,.string s,.slice ka l.length kc] 26 (0,0))from by
   have:=heap_alloc_new (w.alloc (.cells #[.slice va vars.length vc,.slice pa procs.length pc,.int .u8 mk,.int .i64 mn,.string ms,.slice ma ml.length mc] 28)) (.cells #[.int .u8 k,.int .i64 n,.string s,.slice ka l.length kc] 26)
   simpa using this)
  clear hst hrep hpt Nf ih hx;simp only[cu.val,ae.val]at fT ⊢
  go_enter Tryz.func22,Tryz.ntmps22
  go_upto_region 1 with fail;generalize ((w.alloc (.cells #[.slice va vars.length vc,.slice pa procs.length pc,.int .u8 mk,.int .i64 mn,.string ms,.slice ma ml.length mc] 28)).alloc (.cells #[.int .u8 k,.int .i64 n,.string s,.slice ka l.length kc] 26))=w1 at *;have HK:=ł (λ(y:World) (hy:Grow w1 y)=>And.intro (ai Ei.out hy) (ai xz.out hy));refine xB 8 72 [some 14,some 15,some 16,some 17,some 18,some 19,some 20,some 21] [[],[],[],[2],[],[],[],[4,5,6]] [] [.c (.func (.func f) #[] #[.pointer (some ⟨R,0,none⟩),.pointer (some ⟨J,0,none⟩)]),.c (.slice qa path.length qc),.c (.pointer (some ⟨w.heap.size+1,2,none⟩)),.c (.string s),.c (.agg #[.slice va vars.length vc,.slice pa procs.length pc,.int .u8 mk,.int .i64 mn,.string ms,.slice ma ml.length mc]),.c (.agg #[.int .u8 k,.int .i64 n,.string s,.slice ka l.length kc]),.c (.slice ia aB.length ic),.c (.int .i64 (fu P k s l.length aB))] trivial (cz rfl) ?steps ?done
  case steps =>
   refine⟨?s0,?s1,?s2,?s3,?s4,?s5,?s6,?s7,trivial⟩
   case s0|s1|s2|s6 =>
    refine oo (λvs x hP => ?_);simp only[zS];go_simp;exact gc
   case s3|s5 =>
    refine ok HK (λvs x hG HX hP => ?_);obtain⟨⟨n0,n1⟩,n2,n3⟩:=aF HX.out.2;simp only[zS];go_simp;exact gc
   case s4 =>
    refine ok HK (λvs x hG HX hP => ?_);obtain⟨⟨x0,x1,x2⟩,x3,x4,x5⟩:=dK HX.out.1;simp only[zS];go_simp;exact gc
   case s7 =>
    refine ok HK (λvs x hG HX hP => ?_);have HC:=ł (Ym ⟨vars,.slice va vars.length vc,procs,.slice pa procs.length pc,.mk mk mn ms (.slice ma ml.length mc) ml⟩ k n s ka l kc _ aB x (iB.out.later (gtr HST.out.g (gtr bg.out hG))) (wZ.out.later (gtr HST.out.g (gtr bg.out hG))) (Am.out.later (gtr bg.out hG)).1);simp only[cu.val,Al.out]at HC;simp only[zS];go_simp;refine(HC.out).mono ?_;rintro e y ⟨rfl,hg⟩;exact⟨_,rfl,bu hg rfl⟩
  case done =>
  intro vs wx hE;have hG:=hE.grow;have jA:=ł (HST.out.grow (gtr bg.out hG));have HR1:=ł (Sg.out.later (gtr bg.out hG));have lV:=ł (HK.out _ hG);have jW:=ł (gtr bg.out hG);clear hE hG;simp only[zS,Nat.reduceAdd,List.drop_succ_cons,List.drop_zero];have HC:=ł (QD wb B R J f (.slice qa path.length qc) path s (fu P k s l.length aB) c wx HR1.out jA.out (rZ.out.later jW.out).1 (by omega) (by omega));go_wp2_with fail;refine HC.out.mono ?_;rintro e w2 ⟨rfl,Si,bK⟩;have aY:=ł Si;have lY:=ł (bK.keep' jA.out lV.out.1 (by decide) (by decide));have iD:=ł (bK.keep' jA.out lV.out.2 (by decide) (by decide));have HR2:=ł (HR1.out.vI jA.out bK);have Sj:=ł ((Am.out.later jW.out).vI jA.out bK);have Sk:=ł ((rZ.out.later jW.out).vI jA.out bK);have Bb:=ł (show dA wb B w w2 from(dA.rF jW.out).trans bK);obtain⟨⟨x0,x1,x2⟩,x3,x4,x5⟩:=dK lY.out;obtain⟨⟨n0,n1⟩,n2,n3⟩:=aF iD.out;have hxl:=lt_of_block lY.out;have hnl:=lt_of_block iD.out;clear Si bK HC HK lV Ei xz HR1 jA Sg HST Am rZ bg;by_cases hk:k=50\/k=51
  · have vE:=ł (show V=lL (fu P k s l.length aB)+nD P s l.length 0 (ae.ts l) aB from by rw[HV.out,if_pos hk]);clear HV fT;have hb:(k == 50)=true\/((k == 50)=false/\(k == 51)=true):=by
     rcases hk with rfl|rfl
     · exact .inl rfl
     · exact .inr ⟨rfl,rfl⟩
    clear hk;rcases hb with hb|⟨hb,hb2⟩
    all_goals
     go_wp2_with fail
     go_loopw [34] (λt wr=>∃ (j c':Nat),t = .int .i64 j/\j<=l.length/\mO wb B wr c'/\dA wb B w2 wr/\c'+nD P s l.length j ((ae.ts l).drop j) aB=c+V/\c'<=c+V) (λt _=>l.length - (intOf t).toNat)
     case atStart=>exact⟨0,_,rfl,Nat.zero_le _,aY.out,Mv.refl _ _,by rw[vE.out];simp only[List.drop_zero];omega,by rw[vE.out];omega⟩
     obtain⟨j,c',rfl,hj,hst',pG,hrest,hcl⟩:=hrel;have lM:=ł hst';have jB:=ł pG;have gY:=ł hrest;clear hst' pG hrest;by_cases hlt:j<l.length
     · obtain⟨kb,ko,qE,bF,-,-⟩:=wZ.out.row.2.2.2.1.at (show 0<l.length by omega);simp only[Value.slice.injEq,true_and]at bF;obtain⟨rfl,rfl⟩:=bF;have dH:=(dO wZ.out j hlt).later lM.out.g;have HE:=ł (show nD P s l.length j ((ae.ts l).drop j) aB=lL (pg P s l.length l[j].t.name j aB)+nD P s l.length (j+1) ((ae.ts l).drop (j+1)) aB from by
        rw[drop_at _ j (by rw[ae.bT];exact hlt),nD,ae.gm l j hlt])
       have Ri:=ł (λ(x:World) (hx:Grow wb x) (hv:ax 3 aA.cells x (.slice ia aB.length ic) aB)=>Wd ⟨vars,.slice va vars.length vc,procs,.slice pa procs.length pc,.mk mk mn ms (.slice ma ml.length mc) ml⟩ k n s kb ko l kc j hlt (.slice ia aB.length ic) aB x (iB.out.later hx) (wZ.out.later hx) hv);simp only[cu.val,Al.out]at Ri;generalize l[j]=y at *;obtain⟨yk,yn,ys,yv,yl⟩:=y;obtain⟨ya,yc,rfl,-,-⟩:=dH.at_.form;obtain⟨⟨d0,d1⟩,d2,d3⟩:=dH.four;have hbl:kb<wr.heap.size:=World.block_lt_of_cell? wr _ d0;have oP:=ł (heap_alloc_new wr (.cells #[.int .u8 yk,.int .i64 yn,.string ys,.slice ya yl.length yc] 26));have jQ:=ł (show Grow wr (wr.alloc (.cells #[.int .u8 yk,.int .i64 yn,.string ys,.slice ya yl.length yc] 26))from(Mv.refl _ wr).alloc _);have fA:=ł (lM.out.grow jQ.out);have wR:=ł (ai (jB.out.keep' aY.out lY.out (by decide) (by decide)) jQ.out);have nI:=ł (ai (jB.out.keep' aY.out iD.out (by decide) (by decide)) jQ.out);have HR3:=ł ((HR2.out.vI aY.out jB.out).later jQ.out);have Gg:=ł ((Sj.out.vI aY.out jB.out).later jQ.out);have Dh:=ł ((Sk.out.vI aY.out jB.out).later jQ.out);clear dH;have Sl:=ł (λx hx=>Ri.out x (gtr fA.out.g hx) (Gg.out.later hx).1);simp only[ae.t,Tree.name]at Sl HE;go_upto_region 6 with fail;generalize (wr.alloc (.cells #[.int .u8 yk,.int .i64 yn,.string ys,.slice ya yl.length yc] 26))=w3 at *;have bL:=ł (λ(y:World) (hy:Grow w3 y)=>And.intro (ai wR.out hy) (And.intro (ai nI.out hy) (ai oP.out hy)));clear d0 d1 d2 d3;refine xB 11 72 [some 39,some 40,some 41,some 42,some 43,some 44,some 45,some 46,some 47,some 48,some 49] [[],[],[],[1,2],[],[4],[],[],[],[],[6,7,8,9]] [] [.c (.func (.func f) #[] #[.pointer (some ⟨R,0,none⟩),.pointer (some ⟨J,0,none⟩)]),.c (.slice qa path.length qc),.c (.int .i64 j),.p (λv y=>∃ a c,v = .slice a (path.length+1) c/\mG wb 1 kW 3 y (.slice a (path.length+1) c) (path ++ [(j:Int)])),.c (.pointer (some ⟨wr.heap.size,2,none⟩)),.c (.string ys),.c (.agg #[.slice va vars.length vc,.slice pa procs.length pc,.int .u8 mk,.int .i64 mn,.string ms,.slice ma ml.length mc]),.c (.agg #[.int .u8 k,.int .i64 n,.string s,.slice (some ⟨kb,ko,none⟩) l.length kc]),.c (.int .i64 j),.c (.slice ia aB.length ic),.c (.int .i64 (pg P s l.length ys j aB))] ⟨⟨(λv x y hg h=>by obtain⟨a,c,hv,hr⟩:=h;exact⟨a,c,hv,hr.later hg⟩),λ_=>mg⟩,trivial⟩ (cz rfl) ?steps ?done
       case steps =>
        refine⟨?s0,?s1,?s2,?s3,?s4,?s5,?s6,?s7,?s8,?s9,?s10,trivial⟩
        case s0|s1|s2|s4|s8|s9 =>
         refine oo (λvs x hP => ?_);simp only[zS];go_simp;exact gc
        case s3 =>
         refine ok bL (λvs x hG HX hP => ?_);have HC:=ł (Pe (.slice qa path.length qc) path j x (Dh.out.later hG).1 (by omega));simp only[zS];go_simp;refine(HC.out).mono ?_;rintro e y ⟨v',rfl,⟨hr,ho⟩,hg⟩;exact⟨_,rfl,aZ hg (by have hf:=(Dh.out.later hG).Nc hg hr ho;obtain⟨a,c,h,_⟩:=hr.form;simp only[List.length_append,List.length_cons,List.length_nil,Nat.zero_add]at h;subst h;exact⟨a,c,rfl,hf⟩)⟩
        case s5 =>
         refine ok bL (λvs x hG HX hP => ?_);obtain⟨⟨n0,n1⟩,n2,n3⟩:=aF HX.out.2.2;simp only[zS];go_simp;exact gc
        case s6 =>
         refine ok bL (λvs x hG HX hP => ?_);obtain⟨⟨x0,x1,x2⟩,x3,x4,x5⟩:=dK HX.out.1;simp only[zS];go_simp;exact gc
        case s7 =>
         refine ok bL (λvs x hG HX hP => ?_);obtain⟨⟨n0,n1⟩,n2,n3⟩:=aF HX.out.2.1;simp only[zS];go_simp;exact gc
        case s10 =>
         refine ok bL (λvs x hG HX hP => ?_);have HC:=ł (Sl.out x hG);simp only[zS];go_simp;refine(HC.out).mono ?_;rintro e y ⟨rfl,hg⟩;exact⟨_,rfl,bu hg rfl⟩
       case done =>
       intro vs wx hE;have hG:=hE.grow;have p3:=hE.val 3;obtain⟨a3,c3,h3,r3⟩:=p3;have qF:=ł hG;have iO:=ł (fA.out.grow hG);have HR4:=ł (HR3.out.later hG);have gU:=ł r3;clear hE hG r3;simp only[zS,Nat.reduceAdd,h3,List.drop_succ_cons,List.drop_zero];have HC:=ł (QD wb B R J f (.slice a3 (path.length+1) c3) (path ++ [(j:Int)]) ys (pg P s l.length ys j aB) c' wx HR4.out iO.out gU.out.1 (by simp;omega) (by omega));go_wp2_with fail;refine HC.out.mono ?_;rintro e w5 ⟨rfl,fH,eX⟩;have tq:=ł fH;have tu:=ł (show dA wb B w2 w5 from(jB.out.trans ((dA.rF jQ.out).trans (dA.rF qF.out))).trans eX);clear fH eX HC;go_wp2_with fail
       go_roundw
       case rel=>exact⟨j+1,_,by go_num,by omega,tq.out,tu.out,by have:=gY.out;have:=HE.out;omega,by have:=gY.out;have:=HE.out;omega⟩
       case measure=>simp[intOf];omega
     · obtain rfl:j=l.length:=by omega
       have HF:=ł (show c'=c+V from by
        have h:=gY.out;rw[List.drop_eq_nil_of_le (by rw[ae.bT];exact Nat.le_refl _)]at h
        simpa[nD]using h)
       go_wp2_with fail
       go_end0
       exact⟨rfl,by rw[← HF.out];exact lM.out,Bb.out.trans jB.out⟩
  · have vE:=ł (show V=lL (fu P k s l.length aB)+o6 P k s 0 (ae.ts l) aB from by rw[HV.out,if_neg hk]);have k50:(k == 50)=false:=by simp;omega
    have k51:(k == 51)=false:=by simp;omega
    have HT:=ł (show ∃ T:Tree,T = .mk k 0 s []from⟨_,rfl⟩);clear HV;go_wp2_with fail
    go_loopw [55] (λt wr=>∃ (j c':Nat),t = .int .i64 j/\j<=l.length/\mO wb B wr c'/\dA wb B w2 wr/\c'+o6 P k s j ((ae.ts l).drop j) aB=c+V/\c'<=c+V) (λt _=>l.length - (intOf t).toNat)
    case atStart=>exact⟨0,_,rfl,Nat.zero_le _,aY.out,Mv.refl _ _,by rw[vE.out];simp only[List.drop_zero];omega,by rw[vE.out];omega⟩
    obtain⟨j,c',rfl,hj,hst',pG,hrest,hcl⟩:=hrel;have lM:=ł hst';have jB:=ł pG;have gY:=ł hrest;clear hst' pG hrest;by_cases hlt:j<l.length
    · obtain⟨kb,ko,qE,bF,-,-⟩:=wZ.out.row.2.2.2.1.at (show 0<l.length by omega);simp only[Value.slice.injEq,true_and]at bF;obtain⟨rfl,rfl⟩:=bF;have dH:=(dO wZ.out j hlt).later lM.out.g;have HE:=ł (show o6 P k s j ((ae.ts l).drop j) aB=gP P l[j].t (kT (.mk k 0 s []) j aB)+o6 P k s (j+1) ((ae.ts l).drop (j+1)) aB from by
       rw[drop_at _ j (by rw[ae.bT];exact hlt),o6,ae.gm l j hlt])
      have iE:=ł (E5 (k:=k) (n:=n) (s:=s) (kv := .slice (some ⟨kb,ko,none⟩) l.length kc) j hlt);have HIL:=ł (Xx (.mk k 0 s []) j aB);have aau:=ł (fT.out j hlt);generalize l[j]=y at *;obtain⟨yk,yn,ys,yv,yl⟩:=y;obtain⟨ya,yc,rfl,-,-⟩:=dH.at_.form;obtain⟨⟨d0,d1⟩,d2,d3⟩:=dH.four;have hbl:kb<wr.heap.size:=World.block_lt_of_cell? wr _ d0;have oP:=ł (heap_alloc_new wr (.cells #[.int .u8 yk,.int .i64 yn,.string ys,.slice ya yl.length yc] 26));have jQ:=ł (show Grow wr (wr.alloc (.cells #[.int .u8 yk,.int .i64 yn,.string ys,.slice ya yl.length yc] 26))from(Mv.refl _ wr).alloc _);have fA:=ł (lM.out.grow jQ.out);have wR:=ł (ai (jB.out.keep' aY.out lY.out (by decide) (by decide)) jQ.out);have nI:=ł (ai (jB.out.keep' aY.out iD.out (by decide) (by decide)) jQ.out);have HR3:=ł ((HR2.out.vI aY.out jB.out).later jQ.out);have Gg:=ł ((Sj.out.vI aY.out jB.out).later jQ.out);have Dh:=ł ((Sk.out.vI aY.out jB.out).later jQ.out);clear dH;have L9:=ł (λ(x:World) (hx:Grow _ x)=>Yl k n s (some ⟨kb,ko,none⟩) l kc j (.slice ia aB.length ic) aB x (Gg.out.later hx).1 (by omega));go_upto_region 11 with fail;generalize (wr.alloc (.cells #[.int .u8 yk,.int .i64 yn,.string ys,.slice ya yl.length yc] 26))=w3 at *;have bL:=ł (λ(y:World) (hy:Grow w3 y)=>And.intro (ai wR.out hy) (And.intro (ai nI.out hy) (ai oP.out hy)));clear d0 d1 d2 d3;refine xB 10 72 [some 60,some 61,some 62,some 63,some 64,some 65,some 66,some 67,some 68,some 69] [[],[],[],[],[2,3],[],[],[],[5,6,7],[]] [] [.c (.agg #[.slice va vars.length vc,.slice pa procs.length pc,.int .u8 mk,.int .i64 mn,.string ms,.slice ma ml.length mc]),.c (.agg #[.int .u8 yk,.int .i64 yn,.string ys,.slice ya yl.length yc]),.c (.slice qa path.length qc),.c (.int .i64 j),.p (λv y=>∃ a c,v = .slice a (path.length+1) c/\mG wb 1 kW 3 y (.slice a (path.length+1) c) (path ++ [(j:Int)])),.c (.agg #[.int .u8 k,.int .i64 n,.string s,.slice (some ⟨kb,ko,none⟩) l.length kc]),.c (.int .i64 j),.c (.slice ia aB.length ic),.p (λv y=>∃ a c,v = .slice a (kT (.mk k 0 s []) j aB).length c/\mG wb 3 aA.cells 54 y (.slice a (kT (.mk k 0 s []) j aB).length c) (kT (.mk k 0 s []) j aB)),.c (.func (.func f) #[] #[.pointer (some ⟨R,0,none⟩),.pointer (some ⟨J,0,none⟩)])] ⟨⟨(λv x y hg h=>by obtain⟨a,c,hv,hr⟩:=h;exact⟨a,c,hv,hr.later hg⟩),λ_=>mg⟩,⟨(λv x y hg h=>by obtain⟨a,c,hv,hr⟩:=h;exact⟨a,c,hv,hr.later hg⟩),λ_=>mg⟩,trivial⟩ (cz rfl) ?steps ?done
      case steps =>
       refine⟨?s0,?s1,?s2,?s3,?s4,?s5,?s6,?s7,?s8,?s9,trivial⟩
       case s0 =>
        refine ok bL (λvs x hG HX hP => ?_);obtain⟨⟨x0,x1,x2⟩,x3,x4,x5⟩:=dK HX.out.1;simp only[zS];go_simp;exact gc
       case s1 =>
        refine ok bL (λvs x hG HX hP => ?_);obtain⟨⟨n0,n1⟩,n2,n3⟩:=aF HX.out.2.2;simp only[zS];go_simp;exact gc
       case s2|s3|s6|s7|s9 =>
        refine oo (λvs x hP => ?_);simp only[zS];go_simp;exact gc
       case s4 =>
        refine ok bL (λvs x hG HX hP => ?_);have HC:=ł (Pe (.slice qa path.length qc) path j x (Dh.out.later hG).1 (by omega));simp only[zS];go_simp;refine(HC.out).mono ?_;rintro e y ⟨v',rfl,⟨hr,ho⟩,hg⟩;exact⟨_,rfl,aZ hg (by have hf:=(Dh.out.later hG).Nc hg hr ho;obtain⟨a,c,h,_⟩:=hr.form;simp only[List.length_append,List.length_cons,List.length_nil,Nat.zero_add]at h;subst h;exact⟨a,c,rfl,hf⟩)⟩
       case s5 =>
        refine ok bL (λvs x hG HX hP => ?_);obtain⟨⟨n0,n1⟩,n2,n3⟩:=aF HX.out.2.1;simp only[zS];go_simp;exact gc
       case s8 =>
        refine ok bL (λvs x hG HX hP => ?_);have HC:=ł (L9.out x hG);simp only[zS];go_simp;refine(HC.out).mono ?_;rintro e y ⟨v',rfl,⟨hr,ho⟩,hg⟩;exact⟨_,rfl,aZ hg (by have hf:=(Gg.out.later hG).Nc hg hr ho;obtain⟨a,c,h,_⟩:=hr.form;subst h;exact⟨a,c,rfl,hf⟩)⟩
      case done =>
      intro vs wx hE;have hG:=hE.grow;have p4:=hE.val 4;obtain⟨a4,c4,h4,r4⟩:=p4;have p8:=hE.val 8;obtain⟨a8,c8,h8,r8⟩:=p8;have qF:=ł hG;have iO:=ł (fA.out.grow hG);have HR4:=ł (HR3.out.later hG);have gU:=ł r4;have HVR:=ł r8;clear hE hG r4 r8;simp only[zS,Nat.reduceAdd,h4,h8,List.drop_succ_cons,List.drop_zero];have HC:=ł (aau.out wx c' (path ++ [(j:Int)]) (.slice a4 (path.length+1) c4) (kT (.mk k 0 s []) j aB) (.slice a8 (kT (.mk k 0 s []) j aB).length c8) iO.out HR4.out gU.out HVR.out (by have:=gY.out;have:=HE.out;omega) (by have:=iE.out;simp;omega) (by have:=iE.out;have:=HIL.out;omega));simp only[ae.val]at HC;go_wp2_with fail;refine HC.out.mono ?_;rintro e w5 ⟨rfl,fH,eX⟩;have tq:=ł fH;have tu:=ł (show dA wb B w2 w5 from(jB.out.trans ((dA.rF jQ.out).trans (dA.rF qF.out))).trans eX);clear fH eX HC;go_wp2_with fail
      go_roundw
      case rel=>exact⟨j+1,_,by go_num,by omega,tq.out,tu.out,by have:=gY.out;have:=HE.out;omega,by have:=gY.out;have:=HE.out;omega⟩
      case measure=>simp[intOf];omega
    · obtain rfl:j=l.length:=by omega
      have HF:=ł (show c'=c+V from by
       have h:=gY.out;rw[List.drop_eq_nil_of_le (by rw[ae.bT];exact Nat.le_refl _)]at h
       simpa[o6]using h)
      go_wp2_with fail
      go_end0
      exact⟨rfl,by rw[← HF.out];exact lM.out,Bb.out.trans jB.out⟩
theorem Ki (e:Int):lL e<=1:=by unfold lL;split <;> omega
theorem Pg (P:List aU) (s:ByteArray) (n:Nat):∀ (l:List Tree) (i:Nat) (aB:List aA),nD P s n i l aB<=dz l
 | [],_,_=>Nat.zero_le _
 |t :: r,i,aB=>by
  have:=Pg P s n r (i+1) aB;have:=Ki (pg P s n t.name i aB);have:=Pf t;rw[nD,dz];omega
mutual
theorem EM (P:List aU):∀ (t:Tree) (aB:List aA),gP P t aB<=bA t
 |.mk k n s l,aB=>by
  have h1:=Ki (fu P k s l.length aB);have h2:=Pg P s l.length l 0 aB;have h3:=OC P k s l 0 aB;rw[gP,bA];split <;> omega
theorem OC (P:List aU) (k:Int) (s:ByteArray):∀ (l:List Tree) (i:Nat) (aB:List aA),o6 P k s i l aB<=dz l
 | [],_,_=>Nat.zero_le _
 |t :: r,i,aB=>by
  have h1:=EM P t (kT (.mk k 0 s []) i aB);have h2:=OC P k s r (i+1) aB;rw[o6,dz];omega
end
mutual
theorem Ph:∀ (t:Tree) (d left:Int),0<=left->(jI t d left).1=true->(bA t:Int)<=left/\(jI t d left).2=left - bA t
 |.mk _ _ _ l,d,left,h,ht=>by
  rw[jI]at ht ⊢;split at ht
  · cases ht
  · rename_i hn;have:=OD l (d - 1) (left - 1) (by omega) ht;rw[if_neg hn,bA];omega
theorem OD:∀ (l:List Tree) (d left:Int),0<=left->(nE l d left).1=true->(dz l:Int)<=left/\(nE l d left).2=left - dz l
 | [],d,left,h,_=>by simp[dz,nE,h]
 |t :: r,d,left,h,ht=>by
  rw[nE]at ht ⊢;split at ht
  · rename_i hb;have h1:=Ph t d left h hb;have h2:=OD r d (jI t d left).2 (by omega) ht;rw[if_pos hb,dz];omega
  · rename_i hb;simp at ht
end
theorem IW {t:Tree} (h:lF t=true):bA t<=2000:=by
 simp only[lF,Bool.and_eq_true]at h;have:=(Ph t 80 2000 (by decide) h.1).1;omega
def gG (pre:List aA):List aA->Nat
 | []=>0
 |v :: r=>lL (mi pre v.name)+gG (pre ++ [v]) r
theorem Fb:∀ (l pre:List aA),gG pre l<=l.length
 | [],_=>Nat.zero_le _
 |v :: r,pre=>by
  have:=Fb r (pre ++ [v]);have:=Ki (mi pre v.name);rw[gG,List.length_cons];omega
def yZ (P:List aU) (i:Nat) (q:aU):Nat:=(if mq P q.name<i then 1 else 0)+(gG [] q.params+gP P q.body q.params)
def mr (P:List aU):Nat->List aU->Nat
 |_,[]=>0
 |i,q :: r=>yZ P i q+mr P (i+1) r
theorem PW (P:List aU) (i:Nat) (q:aU) (h:q.okB=true):yZ P i q<=2009:=by
 simp only[aU.okB,Bool.and_eq_true,decide_eq_true_eq]at h;have h1:=Fb q.params [];have h2:=EM P q.body q.params;have h3:=IW h.2.2.2;unfold yZ;split <;> omega
theorem Pj (P:List aU):∀ (l:List aU) (i:Nat),l.all aU.okB=true->mr P i l<=2009 * l.length
 | [],_,_=>Nat.zero_le _
 |q :: r,i,h=>by
  simp only[List.all_cons,Bool.and_eq_true]at h;have h1:=PW P i q h.1;have h2:=Pj P r (i+1) h.2;rw[mr,List.length_cons];omega
def vW.faults (p:vW):Nat:=if p.okB then gG [] p.vars+(mr p.procs 0 p.procs+gP p.procs p.main p.vars)else 0
def Z0 (w:World) (n:Nat) (e:Ending) (w':World):Prop:=∃ a c,e = .returned (.slice a n c)/\Grow w w'
end Go.Proofs.YtnobahchcongnaaGreat
