import Derived.Test.YtbpodipdfohikaaGreatK20
set_option linter.unusedSimpArgs false
set_option linter.unusedVariables false
set_option maxRecDepth 100000
set_option maxHeartbeats 25600000
namespace Go.Proofs.YtbpodipdfohikaaGreat
open Go.RowKit Go.Instr
def sJ (want:Bool):Except Int (Bool × ai)->Except Int ai
 |.ok (b,s)=>if b=want then .ok s else .error 15
 |.error n => .error n
set_option maxRecDepth 100000 in
set_option maxHeartbeats 6400000 in
theorem KL (w0:World) (p:aB) (fuel k:Nat) (w:World) (xx:aM) (s:ai) (n:ae) (want:Bool) (res:Except Int (Bool × ai)) (h:aG w0 p fuel k w xx s) (hno:aL (λ_=>True) w n) (hv:s.holds fuel n.t=some res):Calls Tryz.prog 131 #[.pointer (some ⟨xx.R,0,none⟩),n.val,.bool want] w (dx w0 p fuel k xx w (sJ want res)):=by
 have hn:=hno.at
 have HH:=Lib.hid (λz (hz:Grow w z)=>LM w0 p fuel k z xx s n res (h.later hz) ((ax.grow (x:=xx) hz).tree hno) hv)
 obtain⟨nk,nn,ns,nv,nl⟩:=n
 obtain⟨na,nc,rfl,-,-⟩:=hn.form
 have aj:=Lib.hid (show Grow w (w.alloc (.cells #[.int .u8 nk,.int .i64 nn,.string ns,.slice na nl.length nc] 40))from(Mv.refl _ w).alloc _)
 have bf:=Lib.hid (heap_alloc_new w (.cells #[.int .u8 nk,.int .i64 nn,.string ns,.slice na nl.length nc] 40))
 clear hn hno hv h
 simp only[ae.val]at HH ⊢
 have HC:=Lib.hid (HH.out _ aj.out)
 clear HH
 go_enter Tryz.func131,Tryz.ntmps131
 go_wp2_with fail
 refine HC.out.mono ?_
 clear HC
 intro e w2 hq
 unfold tL at hq
 cases res with
 |error m =>
  obtain⟨⟨rfl,hm⟩,hg⟩:=hq
  exact⟨rfl,⟨rfl,hm⟩,.of (ax.grow aj.out) hg⟩
 |ok q =>
  obtain⟨b,s'⟩:=q
  obtain⟨rfl,x',hr,hs⟩:=hq
  have HR:=Lib.hid ((ax.grow aj.out).trans hr)
  have HS:=Lib.hid hs
  clear hr hs
  have HF:=Lib.hid (show sJ want (.ok (b,s'))=if b=want then .ok s' else .error 15 from rfl)
  generalize sJ want (.ok (b,s'))=A at *
  have uw:=GZ 15 w2 (by decide)
  cases b <;> cases want
  case true.true =>
   go_wp2_with fail
   go_end0
   rw[HF.out]
   exact⟨rfl,x',HR.out,HS.out⟩
  case false.false =>
   go_wp2_with fail
   go_end0
   rw[HF.out]
   exact⟨rfl,x',HR.out,HS.out⟩
  all_goals
   go_wp2_with fail
   refine uw.mono ?_
   rintro e w3 ⟨rfl,rfl⟩
   refine⟨rfl,?_⟩
   rw[HF.out]
   exact⟨⟨rfl,by decide⟩,.of HR.out (.new HS.out.g (Mv.refl _ _))⟩
def vE (w:World) (G H:Nat) (CA CB X Y:Array Value) (s:Nat) (y:World):Prop :=
 ((Grow w y/\w.heap.size+2<G/\w.heap.size+2<H)/\(y.heap[G]? = some (.cells CA 40 (0,0))/\y.heap[H]? = some (.cells CB 40 (0,0)))) /\
 (y.heap[w.heap.size+1]? = some (.cells (if s=0 then #[.int .u8 0,.int .i64 0,.string ⟨#[]⟩,.slice none 0 0]else X) 40 (0,0))/\y.heap[w.heap.size+1+1]? = some (.cells (if s=2 then Y else #[.int .u8 0,.int .i64 0,.string ⟨#[]⟩,.slice none 0 0]) 40 (0,0)))
theorem vE.one {w:World} {G H:Nat} {CA CB X Y:Array Value} {x y:World} (h:vE w G H CA CB X Y 0 x) (hm:Mv (λb=>b=w.heap.size+1) x y) (hb:y.heap[w.heap.size+1]? = some (.cells X 40 (0,0))):vE w G H CA CB X Y 1 y :=
 ⟨⟨⟨bM h.1.1.1 hm (λb e=>by omega),h.1.1.2⟩,(hm.block _ (lt_of_block h.1.2.1) (λe=>by have:=h.1.1.2;omega)).trans h.1.2.1,(hm.block _ (lt_of_block h.1.2.2) (λe=>by have:=h.1.1.2;omega)).trans h.1.2.2⟩,hb,(hm.block _ (lt_of_block h.2.2) (λe=>by omega)).trans h.2.2⟩
theorem vE.two {w:World} {G H:Nat} {CA CB X Y:Array Value} {x y:World} (h:vE w G H CA CB X Y 1 x) (hm:Mv (λb=>b=w.heap.size+1+1) x y) (hb:y.heap[w.heap.size+1+1]? = some (.cells Y 40 (0,0))):vE w G H CA CB X Y 2 y :=
 ⟨⟨⟨bM h.1.1.1 hm (λb e=>by omega),h.1.1.2⟩,(hm.block _ (lt_of_block h.1.2.1) (λe=>by have:=h.1.1.2;omega)).trans h.1.2.1,(hm.block _ (lt_of_block h.1.2.2) (λe=>by have:=h.1.1.2;omega)).trans h.1.2.2⟩,(hm.block _ (lt_of_block h.2.1) (λe=>by omega)).trans h.2.1,hb⟩
theorem BA {w:World} {l:List ae} {b off cap:Nat} (h:ay 4 ae.cells w (.slice (some ⟨b,off,none⟩) l.length cap) l) (hn:∀ x∈l,bD w x) {i:Nat} (hi:i<l.length):∃ k n s a c m,l[i] = .mk k n s (.slice a m.length c) m/\((w.cell? ⟨b,off+i * 4,none⟩=some (.int .u8 k)/\w.cell? ⟨b,off+i * 4+1,none⟩=some (.int .i64 n))/\w.cell? ⟨b,off+i * 4+2,none⟩=some (.string s)/\w.cell? ⟨b,off+i * 4+3,none⟩=some (.slice a m.length c)):=by
 have hc:=h.at' hi
 have hx:=hn _ (List.getElem_mem hi)
 generalize l[i]=x at *
 obtain⟨k,n,s,v,m⟩:=x
 obtain⟨a,c,rfl,-,-⟩:=hx.form
 exact⟨k,n,s,a,c,m,rfl,⟨hc 0 _ rfl,hc 1 _ rfl⟩,hc 2 _ rfl,hc 3 _ rfl⟩
set_option maxRecDepth 100000 in
set_option maxHeartbeats 6400000 in
theorem MC (w:World) (n:ae) (k nn:Int) (ns:ByteArray) (nv:Value) (nl:List ae) (he:n = .mk k nn ns nv nl) (hno:bD w n) (hl:0<nl.length) (b:Bool):Calls Tryz.prog 129 #[n.val,.bool b] w λe w'=>∃ x y:ae,(nl[0]? = some x/\nl[nl.length - 1]? = some y)/\e = .returned (.tuple #[(if b then y else x).val,(if b then x else y).val])/\Grow w w':=by
 subst he
 obtain⟨na,nc,rfl,hnc,hnl⟩:=hno.form
 obtain⟨-,-,-,hrow,qW⟩:=hno.row
 obtain⟨kb,ko,nQ,dz,-,-⟩:=hrow.at hl
 simp only[Value.slice.injEq,true_and]at dz
 obtain⟨rfl,rfl⟩:=dz
 generalize k=nk at *
 obtain⟨i,hi⟩:∃ i,i+1=nl.length:=⟨nl.length - 1,by omega⟩
 have HX0:=Lib.hid (λ(y:World) (hy:Grow w y)=>And.intro (BA (hrow.later hy) (λx hx=>(qW x hx).later hy) hl) (BA (hrow.later hy) (λx hx=>(qW x hx).later hy) (i:=i) (by omega)))
 obtain⟨⟨ak,an,as',aa,ac,al,ea,-⟩,bk,bn,bs,ba,bc,bl,eb,-⟩:=HX0.out w (Mv.refl _ _)
 have lC:=Lib.hid (λ(y:World) (hy:Grow w y)=>show((y.cell? ⟨kb,ko,none⟩=some (.int .u8 ak)/\y.cell? ⟨kb,ko+1,none⟩=some (.int .i64 an))/\y.cell? ⟨kb,ko+2,none⟩=some (.string as')/\y.cell? ⟨kb,ko+3,none⟩=some (.slice aa al.length ac))/\((y.cell? ⟨kb,ko+i * 4,none⟩=some (.int .u8 bk)/\y.cell? ⟨kb,ko+i * 4+1,none⟩=some (.int .i64 bn))/\y.cell? ⟨kb,ko+i * 4+2,none⟩=some (.string bs)/\y.cell? ⟨kb,ko+i * 4+3,none⟩=some (.slice ba bl.length bc))from by
  obtain⟨⟨_,_,_,_,_,_,e1,h1⟩,_,_,_,_,_,_,e2,h2⟩:=HX0.out y hy
  rw[ea]at e1;rw[eb]at e2
  simp only[ae.mk.injEq,Value.slice.injEq]at e1 e2
  obtain⟨rfl,rfl,rfl,⟨rfl,-,rfl⟩,rfl⟩:=e1
  obtain⟨rfl,rfl,rfl,⟨rfl,-,rfl⟩,rfl⟩:=e2
  simp only[Nat.zero_mul,Nat.add_zero]at h1
  exact⟨h1,h2⟩)
 have lG:=Lib.hid (show nl[0]? = some (.mk ak an as' (.slice aa al.length ac) al)/\nl[nl.length - 1]? = some (.mk bk bn bs (.slice ba bl.length bc) bl)from⟨by rw[List.getElem?_eq_getElem hl,ea],by rw[show nl.length - 1=i from by omega,List.getElem?_eq_getElem (by omega),eb]⟩)
 have HL:=Lib.hid hl
 have HI:=Lib.hid hi
 have HW:=Lib.hid (show IntKind.i64.wrap ((nl.length:Int) - 1)=(i:Int)from by
  rw[show(nl.length:Int) - 1=(i:Int)from by omega]
  exact IntWalk.i64_in _ (by omega))
 have aA:=Lib.hid (show Grow w (((w.alloc (.cells #[.int .u8 nk,.int .i64 nn,.string ns,.slice (some ⟨kb,ko,none⟩) nl.length nc] 40)).alloc (.cells #[.int .u8 0,.int .i64 0,.string ⟨#[]⟩,.slice none 0 0] 40)).alloc (.cells #[.int .u8 0,.int .i64 0,.string ⟨#[]⟩,.slice none 0 0] 40))from((((Mv.refl _ w).alloc _).alloc _).alloc _))
 have fQ:=Lib.hid (show(((w.alloc (.cells #[.int .u8 nk,.int .i64 nn,.string ns,.slice (some ⟨kb,ko,none⟩) nl.length nc] 40)).alloc (.cells #[.int .u8 0,.int .i64 0,.string ⟨#[]⟩,.slice none 0 0] 40)).alloc (.cells #[.int .u8 0,.int .i64 0,.string ⟨#[]⟩,.slice none 0 0] 40)).heap[w.heap.size]? = some (.cells #[.int .u8 nk,.int .i64 nn,.string ns,.slice (some ⟨kb,ko,none⟩) nl.length nc] 40 (0,0))from bS (bS (heap_alloc_new w _) _) _)
 have HR1:=Lib.hid (show(((w.alloc (.cells #[.int .u8 nk,.int .i64 nn,.string ns,.slice (some ⟨kb,ko,none⟩) nl.length nc] 40)).alloc (.cells #[.int .u8 0,.int .i64 0,.string ⟨#[]⟩,.slice none 0 0] 40)).alloc (.cells #[.int .u8 0,.int .i64 0,.string ⟨#[]⟩,.slice none 0 0] 40)).heap[w.heap.size+1]? = some (.cells #[.int .u8 0,.int .i64 0,.string ⟨#[]⟩,.slice none 0 0] 40 (0,0))from bS (by have:=heap_alloc_new (w.alloc (.cells #[.int .u8 nk,.int .i64 nn,.string ns,.slice (some ⟨kb,ko,none⟩) nl.length nc] 40)) (.cells #[.int .u8 0,.int .i64 0,.string ⟨#[]⟩,.slice none 0 0] 40);rwa[World.size_alloc]at this) _)
 have HR2:=Lib.hid (show(((w.alloc (.cells #[.int .u8 nk,.int .i64 nn,.string ns,.slice (some ⟨kb,ko,none⟩) nl.length nc] 40)).alloc (.cells #[.int .u8 0,.int .i64 0,.string ⟨#[]⟩,.slice none 0 0] 40)).alloc (.cells #[.int .u8 0,.int .i64 0,.string ⟨#[]⟩,.slice none 0 0] 40)).heap[w.heap.size+1+1]? = some (.cells #[.int .u8 0,.int .i64 0,.string ⟨#[]⟩,.slice none 0 0] 40 (0,0))from by have:=heap_alloc_new ((w.alloc (.cells #[.int .u8 nk,.int .i64 nn,.string ns,.slice (some ⟨kb,ko,none⟩) nl.length nc] 40)).alloc (.cells #[.int .u8 0,.int .i64 0,.string ⟨#[]⟩,.slice none 0 0] 40)) (.cells #[.int .u8 0,.int .i64 0,.string ⟨#[]⟩,.slice none 0 0] 40);rwa[World.size_alloc,World.size_alloc]at this)
 have oI:=Lib.hid (show(((w.alloc (.cells #[.int .u8 nk,.int .i64 nn,.string ns,.slice (some ⟨kb,ko,none⟩) nl.length nc] 40)).alloc (.cells #[.int .u8 0,.int .i64 0,.string ⟨#[]⟩,.slice none 0 0] 40)).alloc (.cells #[.int .u8 0,.int .i64 0,.string ⟨#[]⟩,.slice none 0 0] 40)).heap.size=w.heap.size+3 from by simp)
 clear hno hrow qW hl hi hnl hnc ea eb HX0
 simp only[ae.val]
 go_enter Tryz.func129,Tryz.ntmps129
 go_upto_region 1 with fail
 generalize (((w.alloc (.cells #[.int .u8 nk,.int .i64 nn,.string ns,.slice (some ⟨kb,ko,none⟩) nl.length nc] 40)).alloc (.cells #[.int .u8 0,.int .i64 0,.string ⟨#[]⟩,.slice none 0 0] 40)).alloc (.cells #[.int .u8 0,.int .i64 0,.string ⟨#[]⟩,.slice none 0 0] 40))=w3 at *
 have HK:=Lib.hid (λ(y:World) (hy:Grow w3 y)=>And.intro (ah fQ.out hy) (lC.out y (gtr aA.out hy)))
 refine wg 25 [some 8,some 9,some 10,some 11,some 12,some 13,some 14,some 15,some 16,some 17,some 18,some 19,some 6,some 7,none,none] [[],[0],[1],[2],[],[4],[],[6],[7],[8],[5,9],[10],[],[],[12,3],[13,11]] [] [.c (.pointer (some ⟨w.heap.size,3,none⟩)),.c (.slice (some ⟨kb,ko,none⟩) nl.length nc),.c (.pointer (some ⟨kb,ko,none⟩)),.c (.agg #[.int .u8 ak,.int .i64 an,.string as',.slice aa al.length ac]),.c (.pointer (some ⟨w.heap.size,3,none⟩)),.c (.slice (some ⟨kb,ko,none⟩) nl.length nc),.c (.pointer (some ⟨w.heap.size,3,none⟩)),.c (.slice (some ⟨kb,ko,none⟩) nl.length nc),.c (.int .i64 (nl.length:Nat)),.c (.int .i64 (i:Nat)),.c (.pointer (some ⟨kb,ko+i * 4,none⟩)),.c (.agg #[.int .u8 bk,.int .i64 bn,.string bs,.slice ba bl.length bc]),.al 14 3 #[.int .u8 0,.int .i64 0,.string ⟨#[]⟩,.slice none 0 0] 40,.al 15 11 #[.int .u8 0,.int .i64 0,.string ⟨#[]⟩,.slice none 0 0] 40,.st 12,.st 13] trivial (dm rfl) ?steps ?done
 case steps =>
  refine⟨?s0,?s1,?s2,?s3,?s4,?s5,?s6,?s7,?s8,?s9,?s10,?s11,?s12,?s13,?s14,?s15,trivial⟩
  case s0 =>
   refine oo (λvs x hP => ?_)
   simp only[zS]
   go_simp
   exact gc
  case s1 =>
   refine ok HK (λvs x hG HX hP => ?_)
   obtain⟨⟨n0,n1⟩,n2,n3⟩:=az HX.out.1
   simp only[zS]
   go_simp
   exact gc
  case s2 =>
   refine ok HK (λvs x hG HX hP => ?_)
   have hbd:0<nl.length:=HL.out
   simp only[zS]
   go_simp
   exact gc
  case s3 =>
   refine ok HK (λvs x hG HX hP => ?_)
   obtain⟨⟨d0,d1⟩,d2,d3⟩:=HX.out.2.1
   simp only[zS]
   go_simp
   exact gc
  case s4 =>
   refine oo (λvs x hP => ?_)
   simp only[zS]
   go_simp
   exact gc
  case s5 =>
   refine ok HK (λvs x hG HX hP => ?_)
   obtain⟨⟨n0,n1⟩,n2,n3⟩:=az HX.out.1
   simp only[zS]
   go_simp
   exact gc
  case s6 =>
   refine oo (λvs x hP => ?_)
   simp only[zS]
   go_simp
   exact gc
  case s7 =>
   refine ok HK (λvs x hG HX hP => ?_)
   obtain⟨⟨n0,n1⟩,n2,n3⟩:=az HX.out.1
   simp only[zS]
   go_simp
   exact gc
  case s8 =>
   refine oo (λvs x hP => ?_)
   simp only[zS]
   go_simp
   exact gc
  case s9 =>
   refine ok HK (λvs x hG HX hP => ?_)
   have hw:=HW.out
   simp only[zS]
   go_simp
   exact gc
  case s10 =>
   refine ok HK (λvs x hG HX hP => ?_)
   have hbd:i<nl.length:=by have:=HI.out;omega
   simp only[zS]
   go_simp
   exact gc
  case s11 =>
   refine ok HK (λvs x hG HX hP => ?_)
   obtain⟨⟨d0,d1⟩,d2,d3⟩:=HX.out.2.2
   simp only[zS]
   go_simp
   exact gc
  case s12 =>
   refine oz (λvs x => ?_)
   simp only[zS]
   go_simp
   exact⟨rfl,rfl⟩
  case s13 =>
   refine oz (λvs x => ?_)
   simp only[zS]
   go_simp
   exact⟨rfl,rfl⟩
  case s14 =>
   refine os (λvs x g hg hb hv => ?_)
   have h3:vs 3 = .agg #[.int .u8 ak,.int .i64 an,.string as',.slice aa al.length ac]:=hv
   obtain⟨c0,c1,c2,c3⟩:=fV hb
   have zt:=bB hb
   simp only[zS,hg,h3]
   go_simp
   exact⟨(dH hb _ _ _ _).1,(dH hb _ _ _ _).2⟩
  case s15 =>
   refine os (λvs x g hg hb hv => ?_)
   have h11:vs 11 = .agg #[.int .u8 bk,.int .i64 bn,.string bs,.slice ba bl.length bc]:=hv
   obtain⟨c0,c1,c2,c3⟩:=fV hb
   have zt:=bB hb
   simp only[zS,hg,h11]
   go_simp
   exact⟨(dH hb _ _ _ _).1,(dH hb _ _ _ _).2⟩
 case done =>
 intro vs wz hE
 have hG:=hE.grow
 obtain⟨g12,a12,uy,m12,b12⟩:=hE.box 12
 obtain⟨g13,Da,yF,m13,b13⟩:=hE.box 13
 have aO:=Lib.hid hG
 have HA:=Lib.hid b12
 have HB:=Lib.hid b13
 have bE:=Lib.hid (And.intro uy yF)
 clear hE hG b12 b13 m12 m13
 simp only[gJ,zS]at HA HB
 simp only[zS,Nat.reduceAdd,a12,Da]
 have gu:=Lib.hid (gtr aA.out aO.out)
 have OM:=Lib.hid (show w.heap.size+2<g12/\w.heap.size+2<g13 from by have h1:w3.heap.size<=g12:=bE.out.1;have h2:w3.heap.size<=g13:=bE.out.2;have:=oI.out;omega)
 have yB:=Lib.hid (ah HR1.out aO.out)
 have um:=Lib.hid (ah HR2.out aO.out)
 clear HK fQ HR1 HR2 aA aO bE lC HL HI HW oI
 cases b with
 |true =>
  go_upto_region 3 with fail
  refine wx (λ_ _=>False) 25 [some 21,some 22,none,none] [[],[],[0],[1]] [some (.agg #[.int .u8 bk,.int .i64 bn,.string bs,.slice ba bl.length bc]),some (.agg #[.int .u8 ak,.int .i64 an,.string as',.slice aa al.length ac]),none,none] [2,3] (vE w g12 g13 #[.int .u8 ak,.int .i64 an,.string as',.slice aa al.length ac] #[.int .u8 bk,.int .i64 bn,.string bs,.slice ba bl.length bc] #[.int .u8 bk,.int .i64 bn,.string bs,.slice ba bl.length bc] #[.int .u8 ak,.int .i64 an,.string as',.slice aa al.length ac]) ⟨⟨⟨gu.out.drew,OM.out⟩,HA.out,HB.out⟩,yB.out,um.out⟩ ?steps ?fin (λ_ _ _ _ h=>h.elim)
  case steps =>
   refine⟨?s0,?s1,?s2,?s3,trivial⟩
   case s0 =>
    refine xm (λs x hM => ?_)
    obtain⟨⟨c0,c1⟩,c2,c3⟩:=az hM.1.2.2
    have hlb:=lt_of_block hM.1.2.2
    clear hM
    simp only[zS]
    go_simp
    exact⟨rfl,rfl⟩
   case s1 =>
    refine xm (λs x hM => ?_)
    obtain⟨⟨c0,c1⟩,c2,c3⟩:=az hM.1.2.1
    have hlb:=lt_of_block hM.1.2.1
    clear hM
    simp only[zS]
    go_simp
    exact⟨rfl,rfl⟩
   case s2 =>
    refine xw 0 (λx hM=>Gives.x ?_)
    have hb:x.heap[w.heap.size+1]? = some (.cells #[.int .u8 0,.int .i64 0,.string ⟨#[]⟩,.slice none 0 0] 40 (0,0)):=hM.2.1
    have hs:=dH hb (.int .u8 bk) (.int .i64 bn) (.string bs) (.slice ba bl.length bc)
    have HM:=Lib.hid (hM.one hs.2 hs.1)
    obtain⟨⟨c0,c1⟩,c2,c3⟩:=az hb
    have zt:=bB hb
    have hlb:=lt_of_block hb
    clear hM hb hs
    simp only[zS,cv,List.getD_cons_zero,List.getD_cons_succ,Option.getD_some]
    go_simp
    exact HM.out
   case s3 =>
    refine xw 1 (λx hM=>Gives.x ?_)
    have hb:x.heap[w.heap.size+1+1]? = some (.cells #[.int .u8 0,.int .i64 0,.string ⟨#[]⟩,.slice none 0 0] 40 (0,0)):=hM.2.2
    have hs:=dH hb (.int .u8 ak) (.int .i64 an) (.string as') (.slice aa al.length ac)
    have HM:=Lib.hid (hM.two hs.2 hs.1)
    obtain⟨⟨c0,c1⟩,c2,c3⟩:=az hb
    have zt:=bB hb
    have hlb:=lt_of_block hb
    clear hM hb hs
    simp only[zS,cv,List.getD_cons_zero,List.getD_cons_succ,Option.getD_some]
    go_simp
    exact HM.out
  case fin =>
  intro x hM
  obtain⟨⟨c0,c1⟩,c2,c3⟩:=az hM.2.1
  obtain⟨⟨d0,d1⟩,d2,d3⟩:=az hM.2.2
  have HM:=Lib.hid hM.1.1.1
  clear hM
  simp only[zS,Nat.reduceAdd,cv,List.getD_cons_zero,List.getD_cons_succ,Option.getD_some]
  go_wp2_with fail
  exact bodyPost_ret (v := .tuple #[.agg #[.int .u8 bk,.int .i64 bn,.string bs,.slice ba bl.length bc],.agg #[.int .u8 ak,.int .i64 an,.string as',.slice aa al.length ac]]) (by simp[results,Tryz.results129,go_sem,c0,c1,c2,c3,d0,d1,d2,d3]) rfl ⟨_,_,lG.out,rfl,HM.out⟩
 |false =>
  go_upto_region 4 with fail
  refine wx (λ_ _=>False) 25 [some 23,some 24,none,none] [[],[],[0],[1]] [some (.agg #[.int .u8 ak,.int .i64 an,.string as',.slice aa al.length ac]),some (.agg #[.int .u8 bk,.int .i64 bn,.string bs,.slice ba bl.length bc]),none,none] [2,3] (vE w g12 g13 #[.int .u8 ak,.int .i64 an,.string as',.slice aa al.length ac] #[.int .u8 bk,.int .i64 bn,.string bs,.slice ba bl.length bc] #[.int .u8 ak,.int .i64 an,.string as',.slice aa al.length ac] #[.int .u8 bk,.int .i64 bn,.string bs,.slice ba bl.length bc]) ⟨⟨⟨gu.out.drew,OM.out⟩,HA.out,HB.out⟩,yB.out,um.out⟩ ?steps ?fin (λ_ _ _ _ h=>h.elim)
  case steps =>
   refine⟨?s0,?s1,?s2,?s3,trivial⟩
   case s0 =>
    refine xm (λs x hM => ?_)
    obtain⟨⟨c0,c1⟩,c2,c3⟩:=az hM.1.2.1
    have hlb:=lt_of_block hM.1.2.1
    clear hM
    simp only[zS]
    go_simp
    exact⟨rfl,rfl⟩
   case s1 =>
    refine xm (λs x hM => ?_)
    obtain⟨⟨c0,c1⟩,c2,c3⟩:=az hM.1.2.2
    have hlb:=lt_of_block hM.1.2.2
    clear hM
    simp only[zS]
    go_simp
    exact⟨rfl,rfl⟩
   case s2 =>
    refine xw 0 (λx hM=>Gives.x ?_)
    have hb:x.heap[w.heap.size+1]? = some (.cells #[.int .u8 0,.int .i64 0,.string ⟨#[]⟩,.slice none 0 0] 40 (0,0)):=hM.2.1
    have hs:=dH hb (.int .u8 ak) (.int .i64 an) (.string as') (.slice aa al.length ac)
    have HM:=Lib.hid (hM.one hs.2 hs.1)
    obtain⟨⟨c0,c1⟩,c2,c3⟩:=az hb
    have zt:=bB hb
    have hlb:=lt_of_block hb
    clear hM hb hs
    simp only[zS,cv,List.getD_cons_zero,List.getD_cons_succ,Option.getD_some]
    go_simp
    exact HM.out
   case s3 =>
    refine xw 1 (λx hM=>Gives.x ?_)
    have hb:x.heap[w.heap.size+1+1]? = some (.cells #[.int .u8 0,.int .i64 0,.string ⟨#[]⟩,.slice none 0 0] 40 (0,0)):=hM.2.2
    have hs:=dH hb (.int .u8 bk) (.int .i64 bn) (.string bs) (.slice ba bl.length bc)
    have HM:=Lib.hid (hM.two hs.2 hs.1)
    obtain⟨⟨c0,c1⟩,c2,c3⟩:=az hb
    have zt:=bB hb
    have hlb:=lt_of_block hb
    clear hM hb hs
    simp only[zS,cv,List.getD_cons_zero,List.getD_cons_succ,Option.getD_some]
    go_simp
    exact HM.out
  case fin =>
  intro x hM
  obtain⟨⟨c0,c1⟩,c2,c3⟩:=az hM.2.1
  obtain⟨⟨d0,d1⟩,d2,d3⟩:=az hM.2.2
  have HM:=Lib.hid hM.1.1.1
  clear hM
  simp only[zS,Nat.reduceAdd,cv,List.getD_cons_zero,List.getD_cons_succ,Option.getD_some]
  go_wp2_with fail
  exact bodyPost_ret (v := .tuple #[.agg #[.int .u8 ak,.int .i64 an,.string as',.slice aa al.length ac],.agg #[.int .u8 bk,.int .i64 bn,.string bs,.slice ba bl.length bc]]) (by simp[results,Tryz.results129,go_sem,c0,c1,c2,c3,d0,d1,d2,d3]) rfl ⟨_,_,lG.out,rfl,HM.out⟩
attribute [local go_sem ↓] gD
mutual
def iK:Tree->Option Int
 |.mk k n _ l=>if k=1 then some n else if k=2\/k=3\/k=4\/k=5 then none else match BJ l with
  | [some x]=>if(nI k x).2=0 then some (nI k x).1 else none
  | [some x,some y]=>if(bZ k x y).2=0 then some (bZ k x y).1 else none
  |_=>none
def BJ:List Tree->List (Option Int)
 | []=>[]
 |t :: l=>iK t :: BJ l
end
theorem LP (l:List Tree):BJ l=l.map iK:=by
 induction l with
 |nil=>rfl
 |cons t l ih=>rw[BJ,ih];rfl
structure bU where
 k:Int
 n:Int
 s:ByteArray
 a:Option Addr
 m:Nat
 c:Nat
 r:Option Int
def bU.nd (x:bU):List Value:=[.int .u8 x.k,.int .i64 x.n,.string x.s,.slice x.a x.m x.c]
def bU.cells (x:bU):List Value:=[.int .u8 x.k,.int .i64 x.n,.string x.s,.slice x.a x.m x.c,.int .i64 (x.r.getD 0),.bool x.r.isSome]
theorem EA (x:bU):x.cells.length=6:=rfl
theorem ND (x:bU):x.nd.length=4:=rfl
def EE (w:World) (r:Option Int) (e:Ending) (w':World):Prop:=∃ k n s a m c,e = .returned (.agg #[.int .u8 k,.int .i64 n,.string s,.slice a m c,.int .i64 (r.getD 0),.bool r.isSome])/\Grow w w'
theorem Tryz.WL:(Tryz.prog.info? 175).map (λi=>(i.zero,i.size,i.bytes))=some (some (.agg #[.int .u8 0,.int .i64 0,.string ⟨#[]⟩,.slice none 0 0,.int .i64 0,.bool false]),6,72):=by kernel_rfl
theorem Tryz.WM:Elem Tryz.prog 186 175 6 72:=Elem.of Tryz.underlying186 Tryz.WL rfl (by decide) (by decide)
def NU (w:World) (l:List ae) (e:Ending) (w':World):Prop:=∃ a c fl,e = .returned (.slice a fl.length c)/\fl.length=l.length/\w'.ownsRow w.heap.size 175 6 (.slice a fl.length c) fl.length (flat bU.cells fl)/\fl.map bU.r=l.map (λx=>iK x.t)/\Grow w w'
set_option maxRecDepth 100000 in
set_option maxHeartbeats 6400000 in
theorem WN (kv:Value) (l:List ae) (w:World) (hr:ay 4 ae.cells w kv l) (hn:∀ x∈l,bD w x) (hl:l.length<=1000) (hc:∀ x∈l,∀ z,Grow w z->Calls Tryz.prog 143 #[x.val] z (EE z (iK x.t))):Calls Tryz.prog 154 #[kv,.func (.func 143) #[] #[]] w (NU w l):=by
 obtain⟨ka,kc,rfl,-,-⟩:=hr.form
 have HR:=Lib.hid hr
 have HN:=Lib.hid hn
 have HC:=Lib.hid hc
 have hent:∀ args w,(callFunc 143 args).run Tryz.prog w = .ok (.enter 143 args) w:=by intro args w;simp[go_sem]
 clear hr hn hc
 go_enter Tryz.func154,Tryz.ntmps154
 go_wp2_with fail
 go_loopw [5,10] (λv t wr=>∃ (i:Nat) (fl:List bU),t = .int .i64 i/\i<=l.length/\fl.length=i/\wr.ownsRow w.heap.size 175 6 v fl.length (flat bU.cells fl)/\fl.map bU.r=(l.take i).map (λx=>iK x.t)/\Grow w wr) (λ_ t _=>l.length - (intOf t).toNat)
 case atStart=>exact⟨0,[],rfl,Nat.zero_le _,rfl,World.ownsRow_nil _ _ _ _,rfl,Mv.refl _ _⟩
 obtain⟨i,fl,rfl,hi,hfl,hrow,hmap,hg⟩:=hrel
 have HG:=Lib.hid hg
 have HW:=Lib.hid hrow
 have HM:=Lib.hid hmap
 have JB:=Lib.hid hfl
 obtain⟨fa,fc,jP⟩:=dX hrow
 rw[hfl]at jP
 subst jP
 clear hg hrow hmap hfl
 rcases Nat.lt_or_ge i l.length with hlt|hge
 · have hdl:decide ((i:Int)<l.length)=true:=by simp;omega
   obtain⟨kb,ko,cap,e,_,-⟩:=HR.out.at hlt
   simp only[Value.slice.injEq,true_and]at e
   obtain⟨rfl,rfl⟩:=e
   have hnl:=HN.out _ (List.getElem_mem hlt)
   have yE:=Lib.hid (λz (hz:Grow w z)=>HC.out _ (List.getElem_mem hlt) z hz)
   have Fq:=Lib.hid (show(l.take (i+1)).map (λx=>iK x.t)=(l.take i).map (λx=>iK x.t) ++ [iK l[i].t]from by rw[List.take_succ_eq_append_getElem hlt,List.map_append];rfl)
   obtain⟨k,n,s,a,c,m,hke,⟨d0,d1⟩,d2,d3⟩:=BA (HR.out.later HG.out) (λx hx=>(HN.out x hx).later HG.out) hlt
   rw[hke]at yE Fq
   simp only[ae.val]at yE
   have hkl:=World.block_lt_of_cell? wr _ d0
   simp only at hkl
   have OO:=Lib.hid (yE.out _ (gtr HG.out ((Mv.refl (λ_=>False) wr).alloc (.cells #[.int .u8 k,.int .i64 n,.string s,.slice a m.length c] 40))))
   have hbd:(i:Int)<(l.length:Nat):=by omega
   generalize iK (ae.t (.mk k n s (.slice a m.length c) m))=R at *
   clear hke hnl yE
   go_wp2_with fail
   refine OO.out.mono ?_
   rintro e w2 ⟨k',n',s',a2,m',c2,rfl,hg⟩
   have hgw:Grow wr w2:=gtr ((Mv.refl (λ_=>False) wr).alloc _) hg
   have hgx:Grow w2 (w2.alloc (.cells #[.int .u8 k',.int .i64 n',.string s',.slice a2 m' c2,.int .i64 (R.getD 0),.bool R.isSome] 175)):=(Mv.refl _ _).alloc _
   have xy:=bu (bu HW.out hgw (λ_ _ e=>e)) hgx (λ_ _ e=>e)
   have nY:=JB.out
   have xz:(w2.alloc (.cells #[.int .u8 k',.int .i64 n',.string s',.slice a2 m' c2,.int .i64 (R.getD 0),.bool R.isSome] 175)).ownsRow w.heap.size 175 6 (.slice fa fl.length fc) fl.length (flat bU.cells fl):=by rw[nY];rw[nY]at xy;exact xy
   obtain⟨a',c',w3,⟨hok,jh,haw⟩,hr2,hm2,-⟩:=kz Tryz.WM (f:=bU.cells) EA (.slice fa fl.length fc) (.slice (some ⟨w2.heap.size,0,none⟩) 1 1) fl [bU.mk k' n' s' a2 m' c2 R] w.heap.size _ xz (ay.dF (f:=bU.cells) (l:=[bU.mk k' n' s' a2 m' c2 R]) EA (heap_alloc_new w2 _) (by simp[flat,bU.cells]) (Nat.le_of_ble_eq_true rfl)) (λy hy u hu=>by simp at hy;subst hy;simp[bU.cells]at hu;rcases hu with rfl|rfl|rfl|rfl|rfl|rfl <;> rfl) (gtr (gtr HG.out hgw) hgx).size (by simp;omega)
   have jB:=Lib.hid (show(fl ++ [bU.mk k' n' s' a2 m' c2 R]:List bU).length=i+1/\w3.ownsRow w.heap.size 175 6 (.slice a' (i+1) c') (fl ++ [bU.mk k' n' s' a2 m' c2 R]).length (flat bU.cells (fl ++ [bU.mk k' n' s' a2 m' c2 R]))/\(fl ++ [bU.mk k' n' s' a2 m' c2 R]).map bU.r=(l.take (i+1)).map (λx=>iK x.t)/\Grow w w3 from by
    refine⟨by simp[nY],?_,?_,bM (gtr (gtr HG.out hgw) hgx) hm2 (λb e=>(bP xz b e).1)⟩
    · simp only[nY,List.length_cons,List.length_nil,Nat.zero_add]at hr2
      exact hr2
    · rw[List.map_append,HM.out,Fq.out];rfl)
   rw[nY]at hok jh haw
   clear hg hgw hgx xy xz hr2 hm2 nY OO
   simp only[List.length_cons,List.length_nil,Nat.zero_add]at hok jh haw
   generalize R.getD 0=rv at *
   generalize R.isSome=rb at *
   go_wp2_with fail
   go_roundw
   case rel=>exact⟨i+1,_,by go_num,by omega,jB.out.1,jB.out.2.1,jB.out.2.2.1,jB.out.2.2.2⟩
   case measure=>simp[intOf];omega
 · obtain rfl:i=l.length:=by omega
   have hdl:decide ((l.length:Int)<l.length)=false:=by simp
   have HQ:=Lib.hid (show NU w l (.returned (.slice fa l.length fc)) wr from by
    have h1:=HW.out
    have h2:=HM.out
    have h3:=JB.out
    rw[List.take_length]at h2
    exact⟨fa,fc,fl,by rw[h3],h3,by rw[h3]at h1 ⊢;exact h1,h2,HG.out⟩)
   clear HW HM JB
   go_wp2_with fail
   go_ret
   exact HQ.out
attribute [local go_sem ↓] gD
set_option maxRecDepth 100000 in
theorem Vu (k n:Int) (s:ByteArray) (a:Option Addr) (m c:Nat) (v:Int) (b:Bool) (w:World):Calls Tryz.prog 158 #[.agg #[.int .u8 k,.int .i64 n,.string s,.slice a m c,.int .i64 v,.bool b]] w λe w'=>e = .returned (.agg #[.int .u8 k,.int .i64 n,.string s,.slice a m c])/\Grow w w':=by
 have hg1:Grow w ((w.alloc (.cells #[.int .u8 k,.int .i64 n,.string s,.slice a m c,.int .i64 v,.bool b] 175)).alloc (.cells #[.int .u8 0,.int .i64 0,.string ⟨#[]⟩,.slice none 0 0] 40)):=((Mv.refl _ w).alloc _).alloc _
 have hb1:=bS (heap_alloc_new w (.cells #[.int .u8 k,.int .i64 n,.string s,.slice a m c,.int .i64 v,.bool b] 175)) (.cells #[.int .u8 0,.int .i64 0,.string ⟨#[]⟩,.slice none 0 0] 40)
 have hb2:=heap_alloc_new (w.alloc (.cells #[.int .u8 k,.int .i64 n,.string s,.slice a m c,.int .i64 v,.bool b] 175)) (.cells #[.int .u8 0,.int .i64 0,.string ⟨#[]⟩,.slice none 0 0] 40)
 rw[World.size_alloc]at hb2
 go_enter Tryz.func158,Tryz.ntmps158
 go_upto_region 1 with fail
 generalize ((w.alloc (.cells #[.int .u8 k,.int .i64 n,.string s,.slice a m c,.int .i64 v,.bool b] 175)).alloc (.cells #[.int .u8 0,.int .i64 0,.string ⟨#[]⟩,.slice none 0 0] 40))=w1 at *
 have dU:=Lib.hid (dH hb2 (.int .u8 k) (.int .i64 n) (.string s) (.slice a m c))
 obtain⟨⟨b0,b1,b2⟩,b3,b4,b5⟩:=bI hb1
 have hl1:=lt_of_block hb1
 obtain⟨⟨c0,c1⟩,c2,c3⟩:=az hb2
 have hl2:=lt_of_block hb2
 have zt:=bB hb2
 have HG:=Lib.hid hg1
 clear hb1 hb2 hg1
 go_wp2_with fail
 obtain⟨⟨t0,t1⟩,t2,t3⟩:=az dU.out.1
 exact bodyPost_ret (v := .agg #[.int .u8 k,.int .i64 n,.string s,.slice a m c]) (by simp[results,Tryz.results158,go_sem,t0,t1,t2,t3]) rfl ⟨rfl,bM HG.out dU.out.2 (λb e=>by omega)⟩
def Yo (w:World) (e:Ending) (w':World):Prop:=∃ a n c,e = .returned (.slice a n c)/\Grow w w'
theorem BV {w:World} {a:Option Addr} {n c:Nat} {fl:List bU} (h:ay 6 bU.cells w (.slice a n c) fl) {i:Nat} (hi:i<fl.length):∃ b o,a=some ⟨b,o,none⟩/\((w.cell? ⟨b,o+i * 6,none⟩=some (.int .u8 fl[i].k)/\w.cell? ⟨b,o+i * 6+1,none⟩=some (.int .i64 fl[i].n)/\w.cell? ⟨b,o+i * 6+2,none⟩=some (.string fl[i].s))/\w.cell? ⟨b,o+i * 6+3,none⟩=some (.slice fl[i].a fl[i].m fl[i].c)/\w.cell? ⟨b,o+i * 6+4,none⟩=some (.int .i64 (fl[i].r.getD 0))/\w.cell? ⟨b,o+i * 6+5,none⟩=some (.bool fl[i].r.isSome))/\b<w.heap.size:=by
 obtain⟨b,o,cap,e,_,hc⟩:=h.at hi
 simp only[Value.slice.injEq]at e
 obtain⟨rfl,-,-⟩:=e
 have c0:=hc 0 _ rfl
 exact⟨b,o,rfl,⟨⟨by simpa using c0,hc 1 _ rfl,hc 2 _ rfl⟩,hc 3 _ rfl,hc 4 _ rfl,hc 5 _ rfl⟩,World.block_lt_of_cell? w _ c0⟩
set_option maxRecDepth 100000 in
set_option maxHeartbeats 6400000 in
theorem Vv (a:Option Addr) (c:Nat) (fl:List bU) (w:World) (hr:ay 6 bU.cells w (.slice a fl.length c) fl) (hl:fl.length<=1000):Calls Tryz.prog 157 #[.slice a fl.length c,.func (.func 158) #[] #[]] w (Yo w):=by
 have HR:=Lib.hid hr
 have hent:∀ args w,(callFunc 158 args).run Tryz.prog w = .ok (.enter 158 args) w:=by intro args w;simp[go_sem]
 clear hr
 go_enter Tryz.func157,Tryz.ntmps157
 go_wp2_with fail
 go_loopw [5,10] (λv t wr=>∃ (i:Nat),t = .int .i64 i/\i<=fl.length/\wr.ownsRow w.heap.size 40 4 v (fl.take i).length (flat bU.nd (fl.take i))/\Grow w wr) (λ_ t _=>fl.length - (intOf t).toNat)
 case atStart=>exact⟨0,rfl,Nat.zero_le _,World.ownsRow_nil _ _ _ _,Mv.refl _ _⟩
 obtain⟨i,rfl,hi,hrow,hg⟩:=hrel
 have HG:=Lib.hid hg
 have HW:=Lib.hid hrow
 obtain⟨fa,fc,jP⟩:=dX hrow
 have htl:(fl.take i).length=i:=by simp;omega
 rw[htl]at jP
 subst jP
 clear hg hrow
 rcases Nat.lt_or_ge i fl.length with hlt|hge
 · have hdl:decide ((i:Int)<fl.length)=true:=by simp;omega
   obtain⟨b,o,rfl,⟨⟨d0,d1,d2⟩,d3,d4,d5⟩,hkl⟩:=BV (HR.out.later HG.out) hlt
   have Fq:=Lib.hid (show fl.take (i+1)=fl.take i ++ [fl[i]]from List.take_succ_eq_append_getElem hlt)
   have hbd:(i:Int)<(fl.length:Nat):=by omega
   generalize hq:fl[i]=q at *
   obtain⟨k,n,s,a,m,c',r⟩:=q
   simp only at d0 d1 d2 d3 d4 d5
   have HF:=Lib.hid (λz=>Vu k n s a m c' (r.getD 0) r.isSome z)
   generalize r.getD 0=rv at *
   generalize r.isSome=rb at *
   clear hq
   go_wp2_with fail
   refine(HF.out _).mono ?_
   rintro e w2 ⟨rfl,hg⟩
   have hgw:Grow wr w2:=gtr ((Mv.refl (λ_=>False) wr).alloc _) hg
   have hgx:Grow w2 (w2.alloc (.cells #[.int .u8 k,.int .i64 n,.string s,.slice a m c'] 40)):=(Mv.refl _ _).alloc _
   have xy:=bu (bu HW.out hgw (λ_ _ e=>e)) hgx (λ_ _ e=>e)
   have xz:(w2.alloc (.cells #[.int .u8 k,.int .i64 n,.string s,.slice a m c'] 40)).ownsRow w.heap.size 40 4 (.slice fa (fl.take i).length fc) (fl.take i).length (flat bU.nd (fl.take i)):=by rw[htl];rw[htl]at xy;exact xy
   obtain⟨a',c'',w3,⟨hok,jh,haw⟩,hr2,hm2,-⟩:=kz Tryz.Mo (f:=bU.nd) ND (.slice fa (fl.take i).length fc) (.slice (some ⟨w2.heap.size,0,none⟩) 1 1) (fl.take i) [bU.mk k n s a m c' r] w.heap.size _ xz (ay.dF (f:=bU.nd) (l:=[bU.mk k n s a m c' r]) ND (heap_alloc_new w2 _) (by simp[flat,bU.nd]) (Nat.le_of_ble_eq_true rfl)) (λy hy u hu=>by simp at hy;subst hy;simp[bU.nd]at hu;rcases hu with rfl|rfl|rfl|rfl <;> rfl) (gtr (gtr HG.out hgw) hgx).size (by simp;omega)
   have jB:=Lib.hid (show w3.ownsRow w.heap.size 40 4 (.slice a' (i+1) c'') (fl.take (i+1)).length (flat bU.nd (fl.take (i+1)))/\Grow w w3 from by
    refine⟨?_,bM (gtr (gtr HG.out hgw) hgx) hm2 (λb e=>(bP xz b e).1)⟩
    rw[Fq.out]
    simp only[htl,List.length_cons,List.length_nil,Nat.zero_add]at hr2
    exact hr2)
   rw[htl]at hok jh haw
   clear hg hgw hgx xy xz hr2 hm2 htl
   simp only[List.length_cons,List.length_nil,Nat.zero_add]at hok jh haw
   go_wp2_with fail
   go_roundw
   case rel=>exact⟨i+1,by go_num,by omega,jB.out.1,jB.out.2⟩
   case measure=>simp[intOf];omega
 · obtain rfl:i=fl.length:=by omega
   have hdl:decide ((fl.length:Int)<fl.length)=false:=by simp
   clear HW htl
   go_wp2_with fail
   go_ret
   exact⟨_,_,_,rfl,HG.out⟩
def NV (w:World) (e:Ending) (w':World):Prop:=∃ k n s a m c,e = .returned (.agg #[.int .u8 k,.int .i64 n,.string s,.slice a m c])/\Grow w w'
end Go.Proofs.YtbpodipdfohikaaGreat
