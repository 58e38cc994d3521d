import Derived.Test.YtbpodipdfohikaaGreatK32
import Derived.Test.YtbpodipdfohikaaGreatK41
import Derived.Test.YtbpodipdfohikaaGreatK43
import Derived.Test.YtbpodipdfohikaaGreatK29
set_option linter.unusedSimpArgs false
set_option linter.unusedVariables false
set_option maxRecDepth 100000
set_option maxHeartbeats 25600000
namespace Go.Proofs.YtbpodipdfohikaaGreat
open Go.RowKit Go.Instr
attribute [local go_sem ↓] gD
def bF (s:ByteArray):au:=⟨s,3,0⟩
set_option maxRecDepth 100000 in
set_option maxHeartbeats 6400000 in
theorem Lf (v:Value) (l:List ByteArray) (w:World) (h:ay 1 pO w v l) (hl:l.length<=1000):Calls Tryz.prog 25 #[v] w λe w'=>∃ u,e = .returned u/\w'.ownsRow w.heap.size 50 3 u (l.map bF).length (flat au.cells (l.map bF))/\Grow w w':=by
 obtain⟨va,vc,rfl,-,-⟩:=h.form
 have HV:=Lib.hid h
 clear h
 go_enter Tryz.func25,Tryz.ntmps25
 go_wp2_with fail
 go_loopw [3,8] (λlv t wr=>∃ k:Nat,t = .int .i64 k/\k<=l.length/\Grow w wr/\wr.ownsRow w.heap.size 50 3 lv ((l.take k).map bF).length (flat au.cells ((l.take k).map bF))) (λ_ t _=>l.length - (intOf t).toNat)
 case atStart=>exact⟨0,rfl,Nat.zero_le _,Mv.refl _ _,World.ownsRow_nil _ _ _ _⟩
 obtain⟨k,rfl,hk,hg,hrow⟩:=hrel
 have HG:=Lib.hid hg
 have HR:=Lib.hid hrow
 obtain⟨ra,rc,fO⟩:=dX hrow
 simp only[List.length_map,List.length_take,Nat.min_eq_left hk]at fO
 subst fO
 clear hrow hg
 by_cases hlt:k<l.length
 · obtain⟨b,off,cap',e,_,hcc⟩:=(HV.out.later HG.out).at hlt
   simp only[Value.slice.injEq,true_and]at e
   obtain⟨rfl,rfl⟩:=e
   have c0:=hcc 0 _ rfl
   simp only[Nat.add_zero,Nat.mul_one]at c0
   have hbx:=World.block_lt_of_cell? wr _ c0
   simp only at hbx
   have hG1:Grow wr (wr.alloc (.cells #[.string l[k],.int .u8 3,.int .i64 0] 50)):=(Mv.refl _ _).alloc _
   have Kk:=bu HR.out hG1 (λ_ _ e=>e)
   obtain⟨a',c',w2,⟨hok,jh,haw⟩,hr2,hm2,-⟩:=kz Tryz.Ez (f:=au.cells) sO (.slice ra k rc) (.slice (some ⟨wr.heap.size,0,none⟩) 1 1) ((l.take k).map bF) [bF l[k]] w.heap.size (wr.alloc (.cells #[.string l[k],.int .u8 3,.int .i64 0] 50)) Kk (ay.dF (f:=au.cells) (l:=[bF l[k]]) sO (heap_alloc_new wr _) (by simp[flat,au.cells,bF]) (Nat.le_of_ble_eq_true rfl)) (λy hy u hu=>by simp at hy;subst hy;simp[au.cells,bF]at hu;rcases hu with rfl|rfl|rfl <;> rfl) (gtr HG.out hG1).size (by simp;omega)
   have hlen:((l.take k).map bF).length=k:=by simp;omega
   rw[hlen]at jh
   have htk:(l.take (k+1)).map bF=(l.take k).map bF ++ [bF l[k]]:=by rw[List.take_succ_eq_append_getElem hlt,List.map_append];rfl
   have jB:=Lib.hid (show w2.ownsRow w.heap.size 50 3 (.slice a' (k+1) c') ((l.take (k+1)).map bF).length (flat au.cells ((l.take (k+1)).map bF))from by
    rw[htk]
    simp only[hlen,List.length_cons,List.length_nil,Nat.zero_add]at hr2
    exact hr2)
   have zq:=Lib.hid (bM (gtr HG.out hG1) hm2 (λb e=>(bP Kk b e).1))
   clear hcc hG1 Kk hr2 hm2 hlen htk
   generalize l[k]=s at *
   go_wp2_with fail
   go_roundw
   case rel=>exact⟨k+1,by go_num,by omega,zq.out,jB.out⟩
   case measure=>(simp[intOf] <;> omega)
 · obtain rfl:k=l.length:=by omega
   have hlt':decide ((l.length:Int)<l.length)=false:=by simp
   have HF:=Lib.hid (show wr.ownsRow w.heap.size 50 3 (.slice ra l.length rc) (l.map bF).length (flat au.cells (l.map bF))from by have:=HR.out;rwa[List.take_length]at this)
   clear HR
   go_wp2_with fail
   go_ret
   exact⟨_,rfl,HF.out,HG.out⟩
def Cz (B:Nat) (l:List au) (v:Value) (y:World):Prop:=∃ a c,v = .slice a l.length c/\y.ownsRow B 50 3 (.slice a l.length c) l.length (flat au.cells l)
theorem Cz.later {B:Nat} {l:List au} {v:Value} {x y:World} (h:Cz B l v x) (hg:Grow x y):Cz B l v y:=by
 obtain⟨a,c,h1,h2⟩:=h
 exact⟨a,c,h1,bu h2 hg (λ_ _ e=>e)⟩
def vg (n:ae) (y:World):Prop:=∃ (k m:Int) (s:ByteArray) (g c:Nat) (l:List ae) (cs:Array Value),n = .mk k m s (.slice (some ⟨g,0,none⟩) c c) l/\y.heap[g]? = some (.cells cs 40 (0,0))
theorem vg.later {n:ae} {x y:World} (h:vg n x) (hg:Grow x y):vg n y:=by
 obtain⟨k,m,s,g,c,l,cs,h1,h2⟩:=h
 exact⟨k,m,s,g,c,l,cs,h1,ah h2 hg⟩
theorem vg.fill {n:ae} {x y:World} {A B:Nat} (h:vg n x) (ho:aL (λb=>B<=b) x n) (hm:Mv (λb=>b=A) x y) (hA:A<B):vg n y:=by
 obtain⟨k,m,s,g,c,l,cs,rfl,h2⟩:=h
 refine⟨k,m,s,g,c,l,cs,rfl,(hm.block _ (lt_of_block h2) (λe => ?_)).trans h2⟩
 cases ho with
 |mk _ _ _ _ blk _=>have:=(blk g rfl).1;omega
def BN (B:Nat) (d:bC) (v:Value) (y:World):Prop:=∃ q:aN,v=q.val/\q.d=d/\y.ownsRow B 50 3 q.pv q.params.length (flat au.cells q.params)/\aL (λb=>B<=b) y q.body/\vg q.body y
theorem BN.later {B:Nat} {d:bC} {v:Value} {x y:World} (h:BN B d v x) (hg:Grow x y):BN B d v y:=by
 obtain⟨q,h1,h2,h3,h4,h5⟩:=h
 exact⟨q,h1,h2,bu h3 hg (λ_ _ e=>e),h4.later hg,h5.later hg⟩
structure gF (B:Nat) (y:World) (pv:Value) (procs:List aN):Prop where
 blk:∃ g,pv = .slice (some ⟨g,0,none⟩) 2 2/\B<=g/\y.heap[g]? = some (.cells (flat aN.cells procs).toArray 48 (0,0))
 d:procs.map aN.d=eG
 par:∀ q∈procs,y.ownsRow B 50 3 q.pv q.params.length (flat au.cells q.params)
 body:∀ q∈procs,aL (λb=>B<=b) y q.body
 top:∀ q∈procs,vg q.body y
theorem gF.later {B:Nat} {x y:World} {pv:Value} {procs:List aN} (h:gF B x pv procs) (hg:Grow x y):gF B y pv procs :=
 ⟨h.blk.imp λ_ e=>⟨e.1,e.2.1,ah e.2.2 hg⟩,h.d,λq hq=>bu (h.par q hq) hg (λ_ _ e=>e),λq hq=>(h.body q hq).later hg,λq hq=>(h.top q hq).later hg⟩
theorem gF.weak {B B':Nat} {x:World} {pv:Value} {procs:List aN} (h:gF B x pv procs) (hb:B'<=B):gF B' x pv procs :=
 ⟨h.blk.imp λ_ e=>⟨e.1,Nat.le_trans hb e.2.1,e.2.2⟩,h.d,λq hq=>qO (h.par q hq) hb,λq hq=>(h.body q hq).from hb,h.top⟩
theorem gF.fill {B A:Nat} {x y:World} {pv:Value} {procs:List aN} (h:gF B x pv procs) (hm:Mv (λb=>b=A) x y) (hA:A<B):gF B y pv procs :=
 ⟨h.blk.imp λ_ e=>⟨e.1,e.2.1,(hm.block _ (lt_of_block e.2.2) (λe2=>by have:=e.2.1;omega)).trans e.2.2⟩,h.d,λq hq=>bu (h.par q hq) hm (λg hg e=>by have:=(bP (h.par q hq) g hg).1;omega),λq hq=>(h.body q hq).stay hm (λb _ _ hb _ e=>by omega),λq hq=>(h.top q hq).fill (h.body q hq) hm hA⟩
theorem gF.len {B:Nat} {y:World} {pv:Value} {procs:List aN} (h:gF B y pv procs):procs.length=2:=by
 have:=congrArg List.length h.d
 simpa[eG]using this
theorem gF.form {B:Nat} {y:World} {pv:Value} {procs:List aN} (h:gF B y pv procs):∃ a c,pv = .slice a procs.length c:=by
 obtain⟨g,h1,-⟩:=h.blk
 exact⟨_,2,by rw[h1,h.len]⟩
theorem gF.procs {B:Nat} {y:World} {pv:Value} {procs:List aN} (h:gF B y pv procs):uT y pv procs:=by
 obtain⟨g,h1,-,h3⟩:=h.blk
 have hl:=h.len
 refine⟨?_,λq hq=>⟨?_,dW sO (h.par q hq),(h.body q hq).at⟩⟩
 · have:=ay.dF (n:=6) (f:=aN.cells) (l:=procs) (λq=>by obtain⟨_,_,_,⟨_,_,_,_,_⟩⟩:=q;rfl) h3 rfl (by omega)
   rw[hl]at this
   rw[h1];exact this
 · have hm:q.d∈eG:=by rw[← h.d];exact List.mem_map.2 ⟨q,hq,rfl⟩
   have:∀ d∈eG,d.name.size<=9223372036854775807:=by decide
   exact this q.d hm
theorem gF.params {B:Nat} {y:World} {pv:Value} {procs:List aN} (h:gF B y pv procs):∀ q∈procs,q.params.length<=1000/\∀ x∈q.params,x.name.size<=9223372036854775807:=λq hq=>by
 have hm:q.d∈eG:=by rw[← h.d];exact List.mem_map.2 ⟨q,hq,rfl⟩
 have:∀ d∈eG,d.params.length<=1000/\∀ x∈d.params,x.name.size<=9223372036854775807:=by decide
 exact this q.d hm
def E8 (B:Nat) (v:Value) (y:World):Prop:=∃ procs a c,v = .slice a 2 c/\gF B y (.slice a 2 c) procs
theorem E8.later {B:Nat} {v:Value} {x y:World} (h:E8 B v x) (hg:Grow x y):E8 B v y:=by
 obtain⟨ps,a,c,h1,h2⟩:=h
 exact⟨ps,a,c,h1,h2.later hg⟩
def Pm (w:World) (e:Ending) (w':World):Prop:=∃ pv procs,e = .returned pv/\gF w.heap.size w' pv procs/\Grow w w'
set_option maxRecDepth 100000 in
set_option maxHeartbeats 6400000 in
theorem Me (w:World):Calls Tryz.prog 18 #[] w (Pm w):=by
 have HZ:=Lib.hid (show w.heap.size<=w.heap.size from Nat.le_refl _)
 obtain⟨B,hB⟩:∃ B,B=w.heap.size:=⟨_,rfl⟩
 rw[show(w.heap.size<=w.heap.size)=(B<=w.heap.size)from by rw[hB]]at HZ
 have hBw:w.heap.size<=B:=by omega
 clear hB
 go_enter Tryz.func18,Tryz.ntmps18
 go_upto_region 1 with fail
 refine CR 10 [some 1,some 2,some 3,some 4,some 5,some 6,some 7,some 8,some 9,some 0] [[],[0],[],[1,2],[],[4],[],[5,6],[3,7],[8]] [] [.p (λv y=>∃ g,v = .slice (some ⟨g,0,none⟩) 2 2/\y.heap[g]? = some (.cells #[.string sA,.string sB] 9 (0,0))),.p (Cz B [bF sA,bF sB]),.p (pU B Ca),.p (BN B Cf),.p (λv y=>∃ g,v = .slice (some ⟨g,0,none⟩) 2 2/\y.heap[g]? = some (.cells #[.string sA,.string sG] 9 (0,0))),.p (Cz B [bF sA,bF sG]),.p (pU B BL),.p (BN B BM),.p (λv y=>∃ procs a c,v = .slice a 2 c/\gF B y (.slice a 2 c) procs),.p (λv y=>∃ procs a c,v = .slice a 2 c/\gF B y (.slice a 2 c) procs)] ⟨⟨(λv x y hg h=>by obtain⟨g,hv,hb⟩:=h;exact⟨g,hv,ah hb hg⟩),λ_=>bg⟩,⟨(λv x y hg h=>h.later hg),λ_=>bg⟩,⟨(λv x y hg h=>h.later hg),λ_=>bg⟩,⟨(λv x y hg h=>h.later hg),λ_=>bg⟩,⟨(λv x y hg h=>by obtain⟨g,hv,hb⟩:=h;exact⟨g,hv,ah hb hg⟩),λ_=>bg⟩,⟨(λv x y hg h=>h.later hg),λ_=>bg⟩,⟨(λv x y hg h=>h.later hg),λ_=>bg⟩,⟨(λv x y hg h=>h.later hg),λ_=>bg⟩,⟨(λv x y hg h=>by obtain⟨ps,a,c,hv,h⟩:=h;exact⟨ps,a,c,hv,h.later hg⟩),λ_=>bg⟩,⟨(λv x y hg h=>by obtain⟨ps,a,c,hv,h⟩:=h;exact⟨ps,a,c,hv,h.later hg⟩),λ_=>bg⟩,trivial⟩ (dm rfl) ?steps ?done
 case steps =>
  refine⟨?s0,?s1,?s2,?s3,?s4,?s5,?s6,?s7,?s8,?s9,trivial⟩
  case s0 =>
   refine oo (λvs x hP => ?_)
   simp only[zS]
   go_simp
   exact gl ⟨_,rfl,heap_alloc_new x _⟩
  case s1 =>
   refine iB (λvs x hG hP => ?_)
   have p0:=pq hP 0
   obtain⟨g0,h0,b0⟩:=p0
   have hZ:=bH hG HZ.out
   have HC:=Lib.hid (Lf (.slice (some ⟨g0,0,none⟩) 2 2) [sA,sB] x (ay.dF (f:=pO) (l:=[sA,sB]) (λ_=>rfl) b0 (by simp[flat,pO]) (Nat.le_of_ble_eq_true rfl)) (Nat.le_of_ble_eq_true rfl))
   simp only[zS,h0]
   go_simp
   refine(HC.out).mono ?_
   rintro e y ⟨u,rfl,hu,hg⟩
   obtain⟨ua,uc,rfl⟩:=dX hu
   exact⟨_,rfl,hg,ua,uc,rfl,qO hu hZ⟩
  case s2 =>
   refine iB (λvs x hG hP => ?_)
   have hZ:=bH hG HZ.out
   have HC:=Lib.hid (Tv x)
   simp only[zS]
   go_simp
   refine(HC.out).mono ?_
   rintro e y ⟨u,rfl,hu,hg⟩
   exact⟨_,rfl,hg,hu.weak hZ⟩
  case s3 =>
   refine oo (λvs x hP => ?_)
   have p1:=pq hP 1
   obtain⟨a1,c1,h1,o1⟩:=p1
   have p2:=pq hP 2
   obtain⟨g2,q2,cs2,h2,o2,t2,z2,b2⟩:=p2
   simp only[zS,h1,h2]
   go_simp
   exact gk ⟨⟨jy,_,.slice a1 2 c1,.mk 57 0 ⟨#[]⟩ (.slice (some ⟨g2,0,none⟩) 1 1) q2⟩,rfl,by simp only[aN.d,t2];rfl,o1,o2,_,_,_,_,_,_,_,rfl,b2⟩
  case s4 =>
   refine oo (λvs x hP => ?_)
   simp only[zS]
   go_simp
   exact gl ⟨_,rfl,heap_alloc_new x _⟩
  case s5 =>
   refine iB (λvs x hG hP => ?_)
   have p4:=pq hP 4
   obtain⟨g4,h4,b4⟩:=p4
   have hZ:=bH hG HZ.out
   have HC:=Lib.hid (Lf (.slice (some ⟨g4,0,none⟩) 2 2) [sA,sG] x (ay.dF (f:=pO) (l:=[sA,sG]) (λ_=>rfl) b4 (by simp[flat,pO]) (Nat.le_of_ble_eq_true rfl)) (Nat.le_of_ble_eq_true rfl))
   simp only[zS,h4]
   go_simp
   refine(HC.out).mono ?_
   rintro e y ⟨u,rfl,hu,hg⟩
   obtain⟨ua,uc,rfl⟩:=dX hu
   exact⟨_,rfl,hg,ua,uc,rfl,qO hu hZ⟩
  case s6 =>
   refine iB (λvs x hG hP => ?_)
   have hZ:=bH hG HZ.out
   have HC:=Lib.hid (Tm x)
   simp only[zS]
   go_simp
   refine(HC.out).mono ?_
   rintro e y ⟨u,rfl,hu,hg⟩
   exact⟨_,rfl,hg,hu.weak hZ⟩
  case s7 =>
   refine oo (λvs x hP => ?_)
   have p5:=pq hP 5
   obtain⟨a5,c5,h5,o5⟩:=p5
   have p6:=pq hP 6
   obtain⟨g6,q6,cs6,h6,o6,t6,z6,b6⟩:=p6
   simp only[zS,h5,h6]
   go_simp
   exact gk ⟨⟨jU,_,.slice a5 2 c5,.mk 57 0 ⟨#[]⟩ (.slice (some ⟨g6,0,none⟩) 1 1) q6⟩,rfl,by simp only[aN.d,t6];rfl,o5,o6,_,_,_,_,_,_,_,rfl,b6⟩
  case s8 =>
   refine iB (λvs x hG hP => ?_)
   have p3:=pq hP 3
   obtain⟨⟨n3,F8,pv3,⟨k3,m3,s3,v3,l3⟩⟩,h3,d3,w3,o3,y3⟩:=p3
   obtain⟨a3,c3,rfl,-,-⟩:=o3.at.form
   obtain⟨pa3,pc3,hp3⟩:=dX w3
   simp only at hp3
   subst hp3
   simp only[aN.val]at h3
   have p7:=pq hP 7
   obtain⟨⟨n7,SC,pv7,⟨k7,m7,s7,v7,l7⟩⟩,h7,d7,w7,o7,y7⟩:=p7
   obtain⟨a7,c7,rfl,-,-⟩:=o7.at.form
   obtain⟨pa7,pc7,SE⟩:=dX w7
   simp only at SE
   subst SE
   simp only[aN.val]at h7
   have hZ:=bH hG HZ.out
   simp only[zS,h3,h7]
   go_simp
   exact gl ⟨[⟨n3,F8,.slice pa3 F8.length pc3,.mk k3 m3 s3 (.slice a3 l3.length c3) l3⟩,⟨n7,SC,.slice pa7 SC.length pc7,.mk k7 m7 s7 (.slice a7 l7.length c7) l7⟩],_,_,rfl,⟨_,rfl,hZ,heap_alloc_new x _⟩,by simp only[List.map_cons,List.map_nil,d3,d7];rfl,(λq hq=>by simp only[List.mem_cons,List.mem_nil_iff,or_false]at hq;rcases hq with rfl|rfl;exact bu w3 ((Mv.refl _ _).alloc _) (λ_ _ e=>e);exact bu w7 ((Mv.refl _ _).alloc _) (λ_ _ e=>e)),(λq hq=>by simp only[List.mem_cons,List.mem_nil_iff,or_false]at hq;rcases hq with rfl|rfl;exact o3.later ((Mv.refl _ _).alloc _);exact o7.later ((Mv.refl _ _).alloc _)),(λq hq=>by simp only[List.mem_cons,List.mem_nil_iff,or_false]at hq;rcases hq with rfl|rfl;exact y3.later ((Mv.refl _ _).alloc _);exact y7.later ((Mv.refl _ _).alloc _))⟩
  case s9 =>
   refine oo (λvs x hP => ?_)
   have p8:=pq hP 8
   obtain⟨ps8,a8,c8,h8,L8⟩:=p8
   simp only[zS,h8]
   go_simp
   exact gk ⟨_,_,_,rfl,L8⟩
 case done =>
 intro vs wx hE
 have hG:=hE.zW
 have p9:=hE.val 9
 obtain⟨ps9,a9,c9,h9,L9⟩:=p9
 have HQ:=Lib.hid (show Pm w (.returned (.slice a9 2 c9)) wx from⟨_,ps9,rfl,L9.weak (by omega),hG⟩)
 clear hE
 simp only[zS,Nat.reduceAdd,h9]
 go_wp2_with fail
 go_ret
 exact HQ.out
theorem Xo {B g g1:Nat} {y:World} {kd:Int} {nm:ByteArray} (hk:0<=kd/\kd<=255) (hn:nm.size<=9223372036854775807) (hz:B<=g/\B<=g1) (hb:y.heap[g]? = some (.cells #[.int .u8 kd,.int .i64 0,.string nm,.slice (some ⟨g1,0,none⟩) 2 2] 40 (0,0)))
 (h1:y.heap[g1]? = some (.cells #[.int .u8 2,.int .i64 0,.string sA,.slice none 0 0,.int .u8 2,.int .i64 0,.string sB,.slice none 0 0] 40 (0,0))):aL (λb=>B<=b) y (.mk 57 0 ⟨#[]⟩ (.slice (some ⟨g,0,none⟩) 1 1) [.mk kd 0 nm (.slice (some ⟨g1,0,none⟩) 2 2) [.mk 2 0 sA (.slice none 0 0) [],.mk 2 0 sB (.slice none 0 0) []]]) :=
 iZ (m:=1) ⟨by decide,by decide⟩ ⟨by decide,by decide⟩ (by decide) hb hz.1 rfl (by decide) (λx hx=>by
  rw[List.mem_singleton.1 hx]
  exact iZ (m:=2) hk ⟨by decide,by decide⟩ hn h1 hz.2 rfl (by decide) (λz hz=>by
   simp only[List.mem_cons,List.mem_nil_iff,or_false]at hz
   rcases hz with rfl|rfl
   · exact qL ⟨by decide,by decide⟩ ⟨by decide,by decide⟩ (by decide)
   · exact qL ⟨by decide,by decide⟩ ⟨by decide,by decide⟩ (by decide)))
structure pz (B:Nat) (y:World) (p:aB) (kd:Int) (nm:ByteArray):Prop where
 names:p.vars=[bF sA,bF sB]
 blk:∃ g,p.vv = .slice (some ⟨g,0,none⟩) 2 2/\B<=g/\y.heap[g]? = some (.cells #[.string sA,.int .u8 3,.int .i64 0,.string sB,.int .u8 3,.int .i64 0] 50 (0,0))
 lib:gF B y p.pv p.procs
 main:aL (λb=>B<=b) y p.main
 t:p.main.t=gz [jb kd nm]
 mb:∃ g g1,B<=g/\B<=g1/\p.main = .mk 57 0 ⟨#[]⟩ (.slice (some ⟨g,0,none⟩) 1 1) [.mk kd 0 nm (.slice (some ⟨g1,0,none⟩) 2 2) [.mk 2 0 sA (.slice none 0 0) [],.mk 2 0 sB (.slice none 0 0) []]]/\y.heap[g]? = some (.cells #[.int .u8 kd,.int .i64 0,.string nm,.slice (some ⟨g1,0,none⟩) 2 2] 40 (0,0))/\y.heap[g1]? = some (.cells #[.int .u8 2,.int .i64 0,.string sA,.slice none 0 0,.int .u8 2,.int .i64 0,.string sB,.slice none 0 0] 40 (0,0))
theorem pz.later {B:Nat} {x y:World} {p:aB} {kd:Int} {nm:ByteArray} (h:pz B x p kd nm) (hg:Grow x y):pz B y p kd nm :=
 ⟨h.names,h.blk.imp λ_ e=>⟨e.1,e.2.1,ah e.2.2 hg⟩,h.lib.later hg,h.main.later hg,h.t,by obtain⟨g,g1,e1,e2,e3,e4,e5⟩:=h.mb;exact⟨g,g1,e1,e2,e3,ah e4 hg,ah e5 hg⟩⟩
theorem pz.fill {B A:Nat} {x y:World} {p:aB} {kd:Int} {nm:ByteArray} (h:pz B x p kd nm) (hm:Mv (λb=>b=A) x y) (hA:A<B):pz B y p kd nm :=
 ⟨h.names,h.blk.imp λ_ e=>⟨e.1,e.2.1,(hm.block _ (lt_of_block e.2.2) (λe2=>by have:=e.2.1;omega)).trans e.2.2⟩,h.lib.fill hm hA,h.main.stay hm (λb _ _ hb _ e=>by omega),h.t,by obtain⟨g,g1,e1,e2,e3,e4,e5⟩:=h.mb;exact⟨g,g1,e1,e2,e3,(hm.block _ (lt_of_block e4) (λe=>by omega)).trans e4,(hm.block _ (lt_of_block e5) (λe=>by omega)).trans e5⟩⟩
theorem pz.prog {B:Nat} {y:World} {p:aB} {kd:Int} {nm:ByteArray} (h:pz B y p kd nm):jm y p:=by
 obtain⟨g,h1,-,h3⟩:=h.blk
 refine⟨?_,λx hx => ?_,h.lib.procs,λq hq=>(h.lib.params q hq).2,h.main.at⟩
 · rw[h1,h.names]
   exact ay.dF (f:=au.cells) (l:=[bF sA,bF sB]) sO h3 (by simp[flat,au.cells,bF]) (Nat.le_of_ble_eq_true rfl)
 · rw[h.names]at hx
   have:∀ x∈[bF sA,bF sB],x.name.size<=9223372036854775807:=by decide
   exact this x hx
def EH (B:Nat) (kd:Int) (nm:ByteArray) (v:Value) (y:World):Prop:=∃ p:aB,v=p.val/\pz B y p kd nm
theorem EH.later {B:Nat} {kd:Int} {nm:ByteArray} {v:Value} {x y:World} (h:EH B kd nm v x) (hg:Grow x y):EH B kd nm v y:=h.imp λ_ h=>⟨h.1,h.2.later hg⟩
def Zb (kd:Int) (nm:ByteArray) (w:World) (e:Ending) (w':World):Prop:=∃ p:aB,e = .returned p.val/\(∃ B,pz B w' p kd nm/\w.heap.size<=B)/\Grow w w'
set_option maxRecDepth 100000 in
set_option maxHeartbeats 12800000 in
theorem Eg (kd:Int) (nm:ByteArray) (w:World) (hk:0<=kd/\kd<=255) (hn:nm.size<=9223372036854775807):Calls Tryz.prog 17 #[.int .u8 kd,.string nm] w (Zb kd nm w):=by
 have iC:=Lib.hid hk
 have pY:=Lib.hid hn
 have HB1:=Lib.hid (heap_alloc_new w (.cells #[.slice none 0 0,.slice none 0 0,.int .u8 0,.int .i64 0,.string ⟨#[]⟩,.slice none 0 0] 42))
 have aj:=Lib.hid (show Grow w (w.alloc (.cells #[.slice none 0 0,.slice none 0 0,.int .u8 0,.int .i64 0,.string ⟨#[]⟩,.slice none 0 0] 42))from(Mv.refl _ _).alloc _)
 have hsz:(w.alloc (.cells #[.slice none 0 0,.slice none 0 0,.int .u8 0,.int .i64 0,.string ⟨#[]⟩,.slice none 0 0] 42)).heap.size=w.heap.size+1:=by simp
 clear hk hn
 go_enter Tryz.func17,Tryz.ntmps17
 go_upto_region 1 with fail
 generalize (w.alloc (.cells #[.slice none 0 0,.slice none 0 0,.int .u8 0,.int .i64 0,.string ⟨#[]⟩,.slice none 0 0] 42))=w1 at *
 have bf:=Lib.hid (heap_alloc_new w1 (.cells #[.int .u8 2,.int .i64 0,.string ⟨#[97]⟩,.slice none 0 0] 40))
 have bV:=Lib.hid (heap_alloc_new (w1.alloc (.cells #[.int .u8 2,.int .i64 0,.string ⟨#[97]⟩,.slice none 0 0] 40)) (.cells #[.int .u8 2,.int .i64 0,.string ⟨#[98]⟩,.slice none 0 0] 40))
 have bf:=Lib.hid (bS bf.out (.cells #[.int .u8 2,.int .i64 0,.string ⟨#[98]⟩,.slice none 0 0] 40))
 have HG2:=Lib.hid (show Grow w1 ((w1.alloc (.cells #[.int .u8 2,.int .i64 0,.string ⟨#[97]⟩,.slice none 0 0] 40)).alloc (.cells #[.int .u8 2,.int .i64 0,.string ⟨#[98]⟩,.slice none 0 0] 40))from((Mv.refl _ _).alloc _).alloc _)
 rw[World.size_alloc]at bV
 go_upto_region 2 with fail
 generalize ((w1.alloc (.cells #[.int .u8 2,.int .i64 0,.string ⟨#[97]⟩,.slice none 0 0] 40)).alloc (.cells #[.int .u8 2,.int .i64 0,.string ⟨#[98]⟩,.slice none 0 0] 40))=w2 at *
 rw[hsz]at bf bV
 have HZ:=Lib.hid (show w.heap.size+1<=w2.heap.size from by have:=HG2.out.size;omega)
 obtain⟨B,hB⟩:∃ B,B=w.heap.size+1:=⟨_,rfl⟩
 rw[← hB]at HZ
 have hB1:w.heap.size<B:=by omega
 clear hB hsz
 have HK:=Lib.hid (λ(y:World) (hy:Grow w2 y)=>And.intro (ah bf.out hy) (ah bV.out hy))
 refine kK 13 22 [some 9,some 10,some 11,some 12,some 13,some 14,some 15,some 16,some 17,some 18,some 19,some 20,some 21] [[],[],[0,1],[],[],[],[],[],[6,7],[4,5,8],[9],[10],[2,3,11]] [] [.c (.agg #[.string sA,.int .u8 3,.int .i64 0]),.c (.agg #[.string sB,.int .u8 3,.int .i64 0]),.p (λv y=>∃ g,v = .slice (some ⟨g,0,none⟩) 2 2/\B<=g/\y.heap[g]? = some (.cells #[.string sA,.int .u8 3,.int .i64 0,.string sB,.int .u8 3,.int .i64 0] 50 (0,0))),.p (E8 B),.c (.int .u8 kd),.c (.string nm),.c (.agg #[.int .u8 2,.int .i64 0,.string sA,.slice none 0 0]),.c (.agg #[.int .u8 2,.int .i64 0,.string sB,.slice none 0 0]),.p (λv y=>∃ g,v = .slice (some ⟨g,0,none⟩) 2 2/\B<=g/\y.heap[g]? = some (.cells #[.int .u8 2,.int .i64 0,.string sA,.slice none 0 0,.int .u8 2,.int .i64 0,.string sB,.slice none 0 0] 40 (0,0))),.p (λv y=>∃ g,v = .agg #[.int .u8 kd,.int .i64 0,.string nm,.slice (some ⟨g,0,none⟩) 2 2]/\B<=g/\y.heap[g]? = some (.cells #[.int .u8 2,.int .i64 0,.string sA,.slice none 0 0,.int .u8 2,.int .i64 0,.string sB,.slice none 0 0] 40 (0,0))),.p (λv y=>∃ g,v = .slice (some ⟨g,0,none⟩) 1 1/\∃ g1,(B<=g/\B<=g1)/\y.heap[g]? = some (.cells #[.int .u8 kd,.int .i64 0,.string nm,.slice (some ⟨g1,0,none⟩) 2 2] 40 (0,0))/\y.heap[g1]? = some (.cells #[.int .u8 2,.int .i64 0,.string sA,.slice none 0 0,.int .u8 2,.int .i64 0,.string sB,.slice none 0 0] 40 (0,0))),.p (λv y=>∃ g,v = .agg #[.int .u8 57,.int .i64 0,.string ⟨#[]⟩,.slice (some ⟨g,0,none⟩) 1 1]/\∃ g1,(B<=g/\B<=g1)/\y.heap[g]? = some (.cells #[.int .u8 kd,.int .i64 0,.string nm,.slice (some ⟨g1,0,none⟩) 2 2] 40 (0,0))/\y.heap[g1]? = some (.cells #[.int .u8 2,.int .i64 0,.string sA,.slice none 0 0,.int .u8 2,.int .i64 0,.string sB,.slice none 0 0] 40 (0,0))),.p (EH B kd nm)] ⟨⟨(λv x y hg h=>by obtain⟨g,hv,hl,hb⟩:=h;exact⟨g,hv,hl,ah hb hg⟩),λ_=>bg⟩,⟨(λv x y hg h=>h.later hg),λ_=>bg⟩,⟨(λv x y hg h=>by obtain⟨g,hv,hl,hb⟩:=h;exact⟨g,hv,hl,ah hb hg⟩),λ_=>bg⟩,⟨(λv x y hg h=>by obtain⟨g,hv,hl,hb⟩:=h;exact⟨g,hv,hl,ah hb hg⟩),λ_=>bg⟩,⟨(λv x y hg h=>by obtain⟨g,hv,g1,hl,hb,hb1⟩:=h;exact⟨g,hv,g1,hl,ah hb hg,ah hb1 hg⟩),λ_=>bg⟩,⟨(λv x y hg h=>by obtain⟨g,hv,g1,hl,hb,hb1⟩:=h;exact⟨g,hv,g1,hl,ah hb hg,ah hb1 hg⟩),λ_=>bg⟩,⟨(λv x y hg h=>h.later hg),λ_=>bg⟩,trivial⟩ (dm rfl) ?steps ?done
 case steps =>
  refine⟨?s0,?s1,?s2,?s3,?s4,?s5,?s6,?s7,?s8,?s9,?s10,?s11,?s12,trivial⟩
  case s0 =>
   refine oo (λvs x hP => ?_)
   simp only[zS]
   go_simp
   exact gc
  case s1 =>
   refine oo (λvs x hP => ?_)
   simp only[zS]
   go_simp
   exact gc
  case s2 =>
   refine ok HK (λvs x hG HX hP => ?_)
   have hZ:=bH hG HZ.out
   simp only[zS]
   go_simp
   exact gl ⟨_,rfl,hZ,heap_alloc_new x _⟩
  case s3 =>
   refine ok HK (λvs x hG HX hP => ?_)
   have hZ:=bH hG HZ.out
   have HC:=Lib.hid (Me x)
   simp only[zS]
   go_simp
   refine(HC.out).mono ?_
   rintro e y ⟨u,ps,rfl,hl,hg⟩
   obtain⟨g,rfl,-⟩:=hl.blk
   exact⟨_,rfl,hg,ps,_,_,rfl,hl.weak hZ⟩
  case s4 =>
   refine oo (λvs x hP => ?_)
   simp only[zS]
   go_simp
   exact gc
  case s5 =>
   refine oo (λvs x hP => ?_)
   simp only[zS]
   go_simp
   exact gc
  case s6 =>
   refine ok HK (λvs x hG HX hP => ?_)
   obtain⟨⟨n0,n1⟩,n2,n3⟩:=az HX.out.1
   simp only[zS]
   go_simp
   exact gc
  case s7 =>
   refine ok HK (λvs x hG HX hP => ?_)
   obtain⟨⟨n0,n1⟩,n2,n3⟩:=az HX.out.2
   simp only[zS]
   go_simp
   exact gc
  case s8 =>
   refine ok HK (λvs x hG HX hP => ?_)
   have hZ:=bH hG HZ.out
   simp only[zS]
   go_simp
   exact gl ⟨_,rfl,hZ,heap_alloc_new x _⟩
  case s9 =>
   refine oo (λvs x hP => ?_)
   have p8:=pq hP 8
   obtain⟨g8,h8,z8,b8⟩:=p8
   simp only[zS,h8]
   go_simp
   exact gk ⟨_,rfl,z8,b8⟩
  case s10 =>
   refine ok HK (λvs x hG HX hP => ?_)
   have p9:=pq hP 9
   obtain⟨g9,h9,z9,b9⟩:=p9
   have hZ:=bH hG HZ.out
   simp only[zS,h9]
   go_simp
   exact gl ⟨_,rfl,_,⟨hZ,z9⟩,heap_alloc_new x _,bS b9 _⟩
  case s11 =>
   refine oo (λvs x hP => ?_)
   have qi:=pq hP 10
   obtain⟨g10,h10,e10,z10,b10,y10⟩:=qi
   simp only[zS,h10]
   go_simp
   exact gk ⟨_,rfl,_,z10,b10,y10⟩
  case s12 =>
   refine ok HK (λvs x hG HX hP => ?_)
   have p2:=pq hP 2
   obtain⟨g2,h2,z2,b2⟩:=p2
   have p3:=pq hP 3
   obtain⟨F8,a3,c3,h3,L3⟩:=p3
   have yV:=pq hP 11
   obtain⟨g11,h11,e11,Bc,b11,SG⟩:=yV
   simp only[zS,h2,h3,h11]
   go_simp
   exact gk ⟨⟨[bF sA,bF sB],.slice (some ⟨g2,0,none⟩) 2 2,F8,.slice a3 2 c3,.mk 57 0 ⟨#[]⟩ (.slice (some ⟨g11,0,none⟩) 1 1) [.mk kd 0 nm (.slice (some ⟨e11,0,none⟩) 2 2) [.mk 2 0 sA (.slice none 0 0) [],.mk 2 0 sB (.slice none 0 0) []]]⟩,rfl,rfl,⟨_,rfl,z2,b2⟩,L3,Xo iC.out pY.out Bc b11 SG,by simp[ae.t,ae.ts];rfl,_,_,Bc.1,Bc.2,rfl,b11,SG⟩
 case done =>
 intro vs wx hE
 have hG:=hE.grow
 have Dk:=hE.val 12
 obtain⟨⟨Pz,_e,Ri,_i,⟨k12,m12,s12,v12,uy⟩⟩,h12,SH⟩:=Dk
 have aO:=Lib.hid hG
 have rU:=Lib.hid SH
 clear hE hG SH
 simp only[zS,Nat.reduceAdd,h12,List.drop_succ_cons,List.drop_zero]
 have aA:=Lib.hid (gtr (gtr aj.out HG2.out) aO.out)
 have HB3:=Lib.hid (ah HB1.out (gtr HG2.out aO.out))
 obtain⟨hv1,hp1⟩:(∃ g,_e = .slice (some ⟨g,0,none⟩) 2 2)/\∃ a c,_i = .slice a 2 c:=by
  obtain⟨g,e,-⟩:=rU.out.blk
  obtain⟨g',e',-⟩:=rU.out.lib.blk
  exact⟨⟨g,e⟩,_,_,e'⟩
 obtain⟨gv,rfl⟩:=hv1
 obtain⟨pa,pc,rfl⟩:=hp1
 obtain⟨ma,mc,hmv,-,-⟩:=rU.out.main.at.form
 subst hmv
 simp only[aB.val]
 have ji:=Lib.hid (Ch HB3.out (.slice (some ⟨gv,0,none⟩) 2 2) (.slice pa 2 pc) (.int .u8 k12) (.int .i64 m12) (.string s12) (.slice ma uy.length mc))
 obtain⟨⟨b0,b1,b2⟩,b3,b4,b5⟩:=bI HB3.out
 have hbl:=lt_of_block HB3.out
 have zt:=bB HB3.out
 go_wp2_with fail
 obtain⟨⟨t0,t1,t2⟩,t3,t4,t5⟩:=bI ji.out.1
 exact bodyPost_ret (v := .agg #[.slice (some ⟨gv,0,none⟩) 2 2,.slice pa 2 pc,.int .u8 k12,.int .i64 m12,.string s12,.slice ma uy.length mc]) (by simp[results,Tryz.results17,go_sem,t0,t1,t2,t3,t4,t5]) rfl ⟨⟨Pz,.slice (some ⟨gv,0,none⟩) 2 2,Ri,.slice pa 2 pc,.mk k12 m12 s12 (.slice ma uy.length mc) uy⟩,rfl,⟨B,rU.out.fill ji.out.2 hB1,by omega⟩,bM aA.out ji.out.2 (λb e=>by omega)⟩
def oq (k:Int) (nm:ByteArray) (sw:Bool):Tree := .mk k 0 nm (if sw then[bR sB,bR sA]else[bR sA,bR sB])
def kG (t:Tree):Prop:=∃ k nm sw,(k=50\/k=51)/\(nm=jy\/nm=jU)/\t=oq k nm sw
def mW (ts:List Tree):jW:=⟨[bF sA,bF sB],eG,gz ts⟩
theorem Hq {Q:Tree->Prop} (h1:Q (oq 50 jy false)) (h2:Q (oq 50 jy true)) (h3:Q (oq 50 jU false)) (h4:Q (oq 50 jU true)) (h5:Q (oq 51 jy false)) (h6:Q (oq 51 jy true)) (h7:Q (oq 51 jU false)) (h8:Q (oq 51 jU true)) {t:Tree} (h:kG t):Q t:=by
 obtain⟨k,nm,sw,rfl|rfl,rfl|rfl,rfl⟩:=h <;> cases sw <;> assumption
theorem Xp {t:Tree} (h:kG t):aW t=true:=Hq (Q:=λt=>aW t=true) (by decide +kernel) (by decide +kernel) (by decide +kernel) (by decide +kernel) (by decide +kernel) (by decide +kernel) (by decide +kernel) (by decide +kernel) h
theorem V8 {t:Tree} (h:kG t):jo eG t [bF sA,bF sB]=0:=Hq (Q:=λt=>jo eG t [bF sA,bF sB]=0) (by decide +kernel) (by decide +kernel) (by decide +kernel) (by decide +kernel) (by decide +kernel) (by decide +kernel) (by decide +kernel) (by decide +kernel) h
theorem Xq {t:Tree} (h:kG t):fF (bO t)=[]:=Hq (Q:=λt=>fF (bO t)=[]) (by decide +kernel) (by decide +kernel) (by decide +kernel) (by decide +kernel) (by decide +kernel) (by decide +kernel) (by decide +kernel) (by decide +kernel) h
theorem X9 {t:Tree} (h:kG t) (d left:Int) (hd:2<=d) (hl:3<=left):fC t d left=(true,left - 3):=by
 obtain⟨k,nm,sw,-,-,rfl⟩:=h
 have v1:∀ (u:ByteArray) (d left:Int),1<=d->1<=left->fC (bR u) d left=(true,left - 1):=λu d left h1 h2=>by
  rw[bR,fC,if_neg (by omega)];rfl
 have v2:∀ (u v:ByteArray) (d left:Int),1<=d->2<=left->gX [bR u,bR v] d left=(true,left - 2):=λu v d left h1 h2=>by
  simp only[gX,v1 u d left h1 (by omega),v1 v d (left - 1) h1 (by omega),if_true,Prod.mk.injEq,true_and];omega
 have key:∀ l,gX l (d - 1) (left - 1)=(true,left - 1 - 2)->fC (.mk k 0 nm l) d left=(true,left - 3):=λl h=>by
  rw[fC,if_neg (by omega),h,Prod.mk.injEq];exact⟨rfl,by omega⟩
 cases sw
 · exact key _ (v2 _ _ _ _ (by omega) (by omega))
 · exact key _ (v2 _ _ _ _ (by omega) (by omega))
theorem MO:∀ (ts:List Tree) (d left:Int),(∀ t∈ts,kG t)->2<=d->3 * ts.length<=left->gX ts d left=(true,left - 3 * ts.length)
 | [],d,left,_,_,_=>by simp[gX]
 |t :: r,d,left,h,hd,hl=>by
  have h1:=X9 (h t (List.mem_cons_self ..)) d left hd (by simp at hl;omega)
  have h2:=MO r d (left - 3) (λu hu=>h u (List.mem_cons_of_mem _ hu)) hd (by simp at hl;omega)
  rw[gX,h1]
  show(if true=true then gX r d (left - 3)else _)=_
  rw[if_pos rfl,h2]
  simp only[List.length_cons,Prod.mk.injEq,true_and]
  omega
theorem Lg:∀ (ts:List Tree) (i:Nat),(∀ t∈ts,kG t)->lK eG 57 ⟨#[]⟩ i ts [bF sA,bF sB]=0
 | [],i,_=>by simp[lK]
 |t :: r,i,h=>by
  rw[lK,Lg r (i+1) (λu hu=>h u (List.mem_cons_of_mem _ hu))]
  rw[show kU (.mk 57 0 ⟨#[]⟩ []) i [bF sA,bF sB]=[bF sA,bF sB]from by simp[kU,Tree.kind]]
  rw[V8 (h t (List.mem_cons_self ..))]
theorem Mf:∀ (ts:List Tree),(∀ t∈ts,kG t)->fF (eD ts)=[]
 | [],_=>rfl
 |t :: r,h=>by
  have h1:=Xq (h t (List.mem_cons_self ..))
  have h2:=Mf r (λu hu=>h u (List.mem_cons_of_mem _ hu))
  unfold fF at *
  rw[eD,List.map_append,List.filter_append,h1,h2];rfl
theorem Ns (ts:List Tree) (h:∀ t∈ts,kG t) (hl:ts.length<=20):(mW ts).okB=true:=by
 have h1:iF (gz ts)=true:=by
  unfold iF
  have h2:dM (gz ts)=true:=by
   rw[gz,dM,Gm]
   have:ts.all aW=true:=List.all_eq_true.2 λt ht=>Xp (h t ht)
   rw[this];rfl
  rw[h2,gz,fC,if_neg (by omega),MO ts _ _ h (by omega) (by omega)];rfl
 have h2:eG.all bC.okB=true:=by decide +kernel
 have h3:([bF sA,bF sB]:List au).all au.decl=true:=by decide +kernel
 unfold jW.okB mW
 simp only[h1,h2,h3]
 rfl
theorem U4 (ts:List Tree) (h:∀ t∈ts,kG t) (hl:ts.length<=20):(mW ts).faults=0:=by
 have h2:gM [] [bF sA,bF sB]=0:=by decide +kernel
 have h3:kV eG 0 eG=0:=by decide +kernel
 have h4:jo eG (gz ts) [bF sA,bF sB]=0:=by
  rw[gz,jo,if_neg (by omega),Lg ts 0 h]
  simp[gW,kI]
 show(if(mW ts).okB then gM [] [bF sA,bF sB]+(kV eG 0 eG+jo eG (gz ts) [bF sA,bF sB])else 0)=0
 rw[h2,h3,h4];simp
theorem NK (ts:List Tree) (h:∀ t∈ts,kG t) (hl:ts.length<=20):AZ (mW ts)=true:=by
 have h1:=Ns ts h hl
 have h2:=U4 ts h hl
 have h3:vK (mW ts)=[]:=by
  unfold vK
  rw[h1,h2]
  have e1:nM (mW ts).procs (mW ts).procs.length=[]:=show nM eG eG.length=[]from by decide +kernel
  have e2:fF (bO (mW ts).main)=[]:=by
   show fF (bO (gz ts))=[]
   have:=Mf ts h
   unfold fF at *
   rw[gz,bO,List.map_cons,List.filter_cons,this]
   rfl
  rw[e1,e2];rfl
 unfold AZ
 rw[h1,h2,h3];rfl
end Go.Proofs.YtbpodipdfohikaaGreat
