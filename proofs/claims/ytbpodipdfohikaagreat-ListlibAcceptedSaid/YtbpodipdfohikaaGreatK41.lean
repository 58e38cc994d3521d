import Derived.Test.YtbpodipdfohikaaGreatK38
import Derived.Test.YtbpodipdfohikaaGreatK40
set_option linter.unusedSimpArgs false
set_option linter.unusedVariables false
set_option maxRecDepth 100000
set_option maxHeartbeats 25600000
namespace Go.Proofs.YtbpodipdfohikaaGreat
open Go.RowKit Go.Instr
abbrev JZ:Array Value:=#[.slice none 0 0,.bool false]
theorem MM (J:Nat) (w:World) (hb:w.heap[J]? = some (.cells JZ 104 (0,0))):Calls Tryz.prog 85 #[.pointer (some ⟨J,0,none⟩)] w λe w'=>e = .returned (.int .i64 0)/\w=w':=by
 obtain⟨c0,-⟩:=Ij hb
 have hl:=lt_of_block hb
 clear hb
 go_enter Tryz.func85,Tryz.ntmps85
 go_wp2_with fail
 go_ret
 exact⟨rfl,rfl⟩
theorem U2 (a b c:Value) (w:World) :
 CallsD Tryz.prog 86 #[a,b,c] .returning w λe u' w'=>e = .returned (.tuple #[])/\u' = .returning/\w=w':=by
 refine callsD_of_wpS Tryz.func86 rfl λc₀ cs hu => ?_
 simp only[Tryz.ntmps86,List.size_toArray,List.length_cons,List.length_nil,Nat.reduceAdd,Nat.reduceSub,Array.replicate_succ,Array.replicate_zero,List.push_toArray,List.append_toArray,List.nil_append,List.cons_append]
 apply wpS_seq
 apply wpS_region
 simp[wpOpsS,go_sem,recoverD,hu,Exit.thenS]
 apply wpS_of_wp
 go_wp2
 cases c₀
 simp_all [bodyPostS,results,Tryz.results86]
theorem Uj (x:Value) (w:World):(Instr.typeAssert (.iface 142 x) 20 142 true).run Tryz.prog w = .ok (.tuple #[x,.bool true]) w:=by kernel_rfl
def YL (E:Nat) (n:Int) (older:List PanicEntry) (w:World) (e:Ending) (u':FrameMode) (w':World):Prop :=
 e = .returned (.tuple #[])/\u' = .panicking ({ v := .iface 142 (.agg #[.int .i64 n]),recovered:=true } :: older)/\Mv (λb=>b=E) w w'/\w'.heap[E]? = some (.cells #[.int .i64 n] 25 (0,0))
set_option maxRecDepth 100000 in
set_option maxHeartbeats 1600000 in
theorem U3 (J A F E:Nat) (x:Int) (older:List PanicEntry) (w:World)
 (hA:w.heap[A]? = some (.cells #[.pointer (some ⟨J,0,none⟩)] 101 (0,0))) (hF:w.heap[F]? = some (.cells #[.int .i64 0] 3 (0,0))) (hE:w.heap[E]? = some (.cells #[.int .i64 0] 25 (0,0))) (hJ:w.heap[J]? = some (.cells JZ 104 (0,0))) :
 CallsD Tryz.prog 86 #[.pointer (some ⟨A,0,none⟩),.pointer (some ⟨F,0,none⟩),.pointer (some ⟨E,0,none⟩)] (.panicking ({ v := .iface 142 (.agg #[.int .i64 x]),recovered:=false } :: older)) w
  (YL E x older w):=by
 have a0:=cell1 hA
 have b0:=cell1 hF
 have HL:=Lib.hid (λq=>(MM J (w.drewN q) (by simpa using hJ)))
 have HE:=Lib.hid hE
 have hta:=Uj
 clear hA hF hE hJ
 have hgt:decide ((0:Int)<0)=false:=by decide
 refine callsD_of_wpS Tryz.func86 rfl λc₀ cs hu => ?_
 simp only[Tryz.ntmps86,List.size_toArray,List.length_cons,List.length_nil,Nat.reduceAdd,Nat.reduceSub,Array.replicate_succ,Array.replicate_zero,List.push_toArray,List.append_toArray,List.nil_append,List.cons_append]
 apply wpS_seq
 apply wpS_region
 simp[wpOpsS,go_sem,recoverD,hu,Exit.thenS]
 apply wpS_of_wp
 go_wp2
 go_quiet ((go_at_call 85;exact Calls.quiet_of_same ((HL.out _).mono (λ_ _ hx=>⟨hx.1,hx.2.symm⟩))))
 have HE2:=Lib.hid (show(w.drewN nq).heap[E]? = _ from by simpa using HE.out)
 have HM:=Lib.hid (show Mv (λb=>b=E) w (w.drewN nq)from su (Mv.refl _ _) nq)
 generalize w.drewN nq=w2 at *
 have e0:=cell1 HE2.out
 have fe:=bB HE2.out
 have hE2:=lt_of_block HE2.out
 clear a0 b0 hgt
 go_wp2
 refine⟨rfl,_,rfl,_,results_none rfl _ _ _,rfl,rfl,?_,?_⟩
 · exact(((HM.out.setCell (p:=⟨E,0,none⟩) (.inl rfl) _)).alloc _)
 · rw[Below.heap_alloc _ _ _ (by simpa using hE2)]
   have:=block_setCell (p:=⟨E,0,none⟩) HE2.out rfl (.int .i64 x)
   simpa using this
theorem GM (w:World) (a b c:Obj):(((w.alloc a).alloc b).alloc c).heap[w.heap.size]? = some a/\(((w.alloc a).alloc b).alloc c).heap[w.heap.size+1]? = some b/\(((w.alloc a).alloc b).alloc c).heap[w.heap.size+1+1]? = some c:=by
 refine⟨?_,?_,?_⟩
 · rw[Below.heap_alloc _ _ _ (by simp;omega),Below.heap_alloc _ _ _ (by simp)];exact heap_alloc_new w a
 · rw[Below.heap_alloc _ _ _ (by simp)];have:=heap_alloc_new (w.alloc a) b;simpa using this
 · have:=heap_alloc_new ((w.alloc a).alloc b) c;simpa using this
def Z9 (w:World) (Q:World->World->Prop) (X:Int->World->World->Prop) (w1:World) (e:Ending) (w2:World):Prop :=
 (∀ b o,w.heap.size<=b->w1.heap[b]? = some o->w2.heap[b]? = some o)/\((e = .returned (.tuple #[])/\Q w1 w2)\/∃ n,e=Aa n/\n≠0/\X n w1 w2)
def _d (w:World) (Q:World->World->Prop) (X:Int->World->World->Prop) (e:Ending) (w':World):Prop :=
 ∃ w1 w2 E,Grow w w1/\w.heap.size<=E/\E<w1.heap.size/\Mv (λb=>b=E) w2 w'/\((e = .returned (.int .i64 0)/\Q w1 w2)\/∃ n,e = .returned (.int .i64 n)/\n≠0/\X n w1 w2)
set_option maxRecDepth 100000 in
set_option maxHeartbeats 1600000 in
theorem Uk (J k:Nat) (cap:Array Value) (w:World) (wj:World) (Q:World->World->Prop) (X:Int->World->World->Prop) (hJ:w.heap[J]? = some (.cells JZ 104 (0,0))) (Sa:wj.heap.size<=J) (hent:∀ w,(callFunc k cap).run Tryz.prog w = .ok (.enter k cap) w)
 (hact:∀ w1,Grow w w1->Calls Tryz.prog k cap w1 (Z9 wj Q X w1)) (Sb:wj.heap.size<=w.heap.size) :
 Calls Tryz.prog 59 #[.pointer (some ⟨J,0,none⟩),.func (.func k) #[] cap] w (_d w Q X):=by
 have hgr:Grow w (((w.alloc (.cells #[.pointer (some ⟨J,0,none⟩)] 101)).alloc (.cells #[.int .i64 0] 25)).alloc (.cells #[.int .i64 0] 3)):=(((Mv.refl _ _).alloc _).alloc _).alloc _
 have HC:=Lib.hid (hact _ hgr)
 have HL:=Lib.hid (MM J ((w.alloc (.cells #[.pointer (some ⟨J,0,none⟩)] 101)).alloc (.cells #[.int .i64 0] 25)) (bS (bS hJ _) _))
 have HG:=Lib.hid hgr
 obtain⟨n1,n2,n3⟩:=GM w (.cells #[.pointer (some ⟨J,0,none⟩)] 101) (.cells #[.int .i64 0] 25) (.cells #[.int .i64 0] 3)
 have bf:=Lib.hid n1
 have bV:=Lib.hid n2
 have fQ:=Lib.hid n3
 have wD:=Lib.hid (ah hJ hgr)
 have heq:∀ w:World,(binOp .eql 1 (.func (.func k) #[] cap) .nilFunc).run Tryz.prog w = .ok (.bool false) w:=λw=>Gc w _ _ _ Tryz.underlying1
 have HJL:=Lib.hid Sa
 have F5:=Lib.hid Sb
 clear hact hgr n1 n2 n3 hJ Sa Sb
 go_enter_defers Tryz.func59,Tryz.ntmps59
 go_wp2_with fail
 refine HL.out.mono ?_
 rintro e w' ⟨rfl,rfl⟩
 go_wp2_with fail
 have hW1:w.heap.size+1<(((w.alloc (.cells #[.pointer (some ⟨J,0,none⟩)] 101)).alloc (.cells #[.int .i64 0] 25)).alloc (.cells #[.int .i64 0] 3)).heap.size:=by simp
 generalize (((w.alloc (.cells #[.pointer (some ⟨J,0,none⟩)] 101)).alloc (.cells #[.int .i64 0] 25)).alloc (.cells #[.int .i64 0] 3))=w1 at *
 have HW1:=Lib.hid hW1
 clear hW1 HL
 refine HC.out.mono ?_
 rintro e w2 ⟨hk,⟨rfl,hQ⟩|⟨n,rfl,hn,hX⟩⟩
 · have HE2:=Lib.hid (hk _ _ (by have:=F5.out;omega) bV.out)
   have HQ:=Lib.hid hQ
   have e0:=cell1 HE2.out
   have fe:=bB HE2.out
   have hel:=lt_of_block HE2.out
   clear hk hQ HC
   go_wp2_with fail
   refine leaves_cons (f:=86) (args:=#[.pointer (some ⟨w.heap.size,0,none⟩),.pointer (some ⟨w.heap.size+1+1,0,none⟩),.pointer (some ⟨w.heap.size+1,0,none⟩)]) (by simp) (by simp[go_sem]) ?_
   refine(U2 _ _ _ _).mono ?_
   rintro e u' w'' ⟨rfl,rfl,rfl⟩
   have hb:=block_setCell (p:=⟨w.heap.size+1,0,none⟩) HE2.out rfl (.int .i64 0)
   have Kc:=cell1 (a := .int .i64 0) (by simpa using hb)
   refine⟨.int .i64 0,?_,w1,w2,w.heap.size+1,HG.out,by omega,HW1.out,(Mv.refl (λb=>b=w.heap.size+1) w2).setCell (p:=⟨w.heap.size+1,0,none⟩) (.inl rfl) _,.inl ⟨rfl,HQ.out⟩⟩
   simp[results,Tryz.results59,go_sem,Kc]
 · have HX:=Lib.hid hX
   have ik:=Lib.hid (U3 J w.heap.size (w.heap.size+1+1) (w.heap.size+1) n [] w2 (hk _ _ (by have:=F5.out;omega) bf.out) (hk _ _ (by have:=F5.out;omega) fQ.out) (hk _ _ (by have:=F5.out;omega) bV.out) (hk _ _ HJL.out wD.out))
   have HN:=Lib.hid hn
   clear hk hX hn HC
   unfold Aa
   go_wp2_with fail
   refine leaves_cons (f:=86) (args:=#[.pointer (some ⟨w.heap.size,0,none⟩),.pointer (some ⟨w.heap.size+1+1,0,none⟩),.pointer (some ⟨w.heap.size+1,0,none⟩)]) (by simp) (by simp[go_sem]) ?_
   refine ik.out.mono ?_
   rintro e u' w'' ⟨rfl,rfl,JD,Kc⟩
   have hE4:=cell1 Kc
   refine⟨.int .i64 n,?_,w1,w2,w.heap.size+1,HG.out,by omega,HW1.out,JD,.inr ⟨n,rfl,HN.out,HX.out⟩⟩
   simp[results,Tryz.results59,go_sem,hE4]
theorem aG.other {w0:World} {p:aB} {fuel k:Nat} {w w':World} {x:aM} {s:ai} {E:Nat} (h:aG w0 p fuel k w x s) (hm:Mv (λb=>b=E) w w') (ho:x.ρ E = .other) (hl:w0.heap.size<=E):aG w0 p fuel k w' x s:=by
 have st:=h.stays hm (λr=>r = .other) (λg e _=>by subst e;exact ho)
 exact⟨bM h.g hm (λb e=>by subst e;exact hl),st.run (λe=>by cases e),st.store (λe=>by cases e),st.tape (λe=>by cases e),h.kL,λj hj hj'=>st.fr j hj hj' (λe=>by cases e) (λe=>by cases e),st.calls (λe=>by cases e),λi hi=>st.cell i hi (λe=>by cases e) (λe=>by cases e),st.gQ (λe=>by cases e),h.pK,h.low,h.dY,h.re,h.rl,h.bd⟩
set_option maxRecDepth 100000 in
set_option maxHeartbeats 6400000 in
theorem X7 {w0:World} {vars:List au} {vv:Value} {procs:List aN} {pv:Value} {mk mn:Int} {ms:ByteArray} {ma:Option Addr} {mc:Nat} {ml:List ae} {fuel k g:Nat} (w:World) (x:aM) (s:ai) (res:Except Int ai) (A B C:Nat) (b:Bool)
 (hbl:uY w0 ⟨vars,vv,procs,pv,.mk mk mn ms (.slice ma ml.length mc) ml⟩ fuel k g) (h:aG w0 ⟨vars,vv,procs,pv,.mk mk mn ms (.slice ma ml.length mc) ml⟩ fuel k w x s) (hno:aL (λ_=>True) w0 (.mk mk mn ms (.slice ma ml.length mc) ml)) (hex:exec (procs.map aN.d) fuel g (.stmts (turned b (ae.t (.mk mk mn ms (.slice ma ml.length mc) ml)).kids)) b s=some res)
 (hA:w.heap[A]? = some (.cells #[.pointer (some ⟨x.R,0,none⟩)] 97 (0,0))) (hB:w.heap[B]? = some (.cells #[vv,pv,.int .u8 mk,.int .i64 mn,.string ms,.slice ma ml.length mc] 42 (0,0))) (hC:w.heap[C]? = some (.cells #[.bool b] 4 (0,0))) :
 Calls Tryz.prog 60 #[.pointer (some ⟨A,0,none⟩),.pointer (some ⟨B,0,none⟩),.pointer (some ⟨C,0,none⟩)] w (dx w0 ⟨vars,vv,procs,pv,.mk mk mn ms (.slice ma ml.length mc) ml⟩ fuel k x w res):=by
 have HC:=Lib.hid (hbl w x s res _ b h hno hex)
 have a0:=cell1 hA
 have c0:=cell1 hC
 obtain⟨⟨b0,b1,b2⟩,b3,b4,b5⟩:=bI hB
 have hla:=lt_of_block hA
 have hlb:=lt_of_block hB
 have hlc:=lt_of_block hC
 simp only[ae.val]at HC
 clear hbl h hno hex hA hB hC
 go_enter Tryz.func60,Tryz.ntmps60
 go_wp2_with fail
 refine HC.out.mono ?_
 intro e w2 hq
 cases res with
 |error n =>
  obtain⟨⟨rfl,hn0⟩,hg⟩:=hq
  refine⟨rfl,?_⟩
  exact⟨⟨rfl,hn0⟩,hg⟩
 |ok s' =>
  obtain⟨rfl,hx⟩:=hq
  have HX:=Lib.hid hx
  clear hx
  go_wp2_with fail
  go_end0
  exact⟨rfl,HX.out⟩
def NJ (w:World) (res:Except Int ai) (e:Ending) (w':World):Prop:=match res with
 |.ok s'=>∃ ev M steps vs,e = .returned (.tuple #[ev,.agg #[.slice (some ⟨M,0,none⟩) s'.outs.length s'.outs.length,.slice none 0 0,.slice none 0 0,.int .i64 steps,.int .i64 0]])/\iH w w' M s'.outs vs/\vs.length=s'.outs.length
 |.error n=>n≠0/\(∃ ev a m c,e = .returned (.tuple #[ev,.agg #[.slice a m c,.slice none 0 0,.slice none 0 0,.int .i64 0,.int .i64 n]]))/\Grow w w'
theorem V4 {w:World} {base g n:Nat} (hb:w.heap[g]? = some (.cells (Array.replicate n (.int .i64 0)) 3 (0,0))) (hl:base<=g) (hn:n<=1000000):w.ownsRow base 3 1 (.slice (some ⟨g,0,none⟩) n n) (List.replicate n (0:Int)).length (flat aU (List.replicate n (0:Int))):=by
 rw[LY]
 refine⟨by simp,.inr ⟨g,n,_,by simp,hl,hb,by simp,by simp only[maxLen];omega,by simp,?_⟩⟩
 simp
theorem Xk (n:Nat) (w:World) (hn:n<=1000000):(Instr.makeSlice 22 (.int .i64 n) (.int .i64 n)).run Tryz.prog w = .ok (.slice (some ⟨w.heap.size,0,none⟩) n n) (w.alloc (.cells (Array.replicate n (.int .i64 0)) 3)):=by
 obtain⟨i0,hi,hz0,hz1,hz2⟩:=info_parts Tryz.Na
 have:=run_make (P:=Tryz.prog) w 22 3 i0 _ Tryz.underlying22 hi hz0 .i64 .i64 n n (by omega) (Int.le_refl _) (by rw[hz2];omega) (by omega)
 have hm:madeCells (Value.int .i64 0).cells (n * i0.size)=Array.replicate n (.int .i64 0):=by
  rw[hz1,Nat.mul_one]
  apply Array.ext
  · simp[madeCells]
  · intro j h1 h2
    simp[madeCells,Value.cells,Nat.mod_one]
 simp only[Int.toNat_natCast]at this
 rw[hm]at this
 exact this
set_option maxRecDepth 100000 in
set_option maxHeartbeats 12800000 in
theorem V5 (p:aB) (cv:Value) (L:List (List Int)) (fuel k g:Nat) (w:World) (res:Except Int ai) (hp:jm w p) (hpb:∀ q∈p.procs,aL (λ_=>True) w q.body) (hm:aL (λ_=>True) w p.main) (hpl:∀ q∈p.procs,q.params.length<=k) (hok:p.d.okB=true) (hfa:p.d.faults=0)
 (hc:Vs w cv L) (hval:oW p.vars=true) (hlen:L.length=p.vars.length) (hk3:∀ i (h:i<p.vars.length),p.vars[i].kind=3) (hL:∀ i (h:i<L.length),L[i].length<=1000) (hkk:p.vars.length<=k) (hk2:k<=1000) (hfu:fuel<=500000)
 (hex:exec (p.procs.map aN.d) fuel g (.stmts p.main.t.kids) false ⟨L,⟨p.vars.zipIdx,0⟩,[],0⟩=some res) (hout:∀ s',res = .ok s'->s'.base.locals=0/\s'.base.vars.length<=900000) :
 Calls Tryz.prog 33 #[p.val,.agg #[cv,.slice none 0 0,.slice none 0 0],.int .i64 fuel,.bool false] w (NJ w res):=by
 have F6:p.procs.length<=64:=by
  unfold jW.okB at hok
  simp only[Bool.and_eq_true,decide_eq_true_eq]at hok
  have:=hok.1.2.1
  simpa[aB.d]using this
 have il:=Lib.hid (λy (hy:Grow w y)=>Bj p y (hp.later hy))
 have jf:=Lib.hid (λy (hy:Grow w y)=>GG p y (hp.later hy))
 rw[hok]at il
 rw[hfa]at jf
 have jB:=Lib.hid (λy (hy:Grow w y)=>X6 p.vv cv p.vars L y (hp.vars.later hy) (hc.later hy) hval hlen hk3 hL)
 have IV:=Lib.hid (λy (hy:Grow w y)=>(X5 (fuel:=fuel) (k:=k) (hp.later hy) (λq hq=>(hpb q hq).up hy) hpl g).2)
 have lF:=Lib.hid (λy (hy:Grow w y)=>Ui cv L y (hc.later hy) (by have:=hk2;omega) (λi hi=>by have:=hL i hi;omega))
 obtain⟨vars,vv,procs,pv,m⟩:=p
 obtain⟨⟨va,vc,rfl⟩,⟨pa,pc,rfl⟩,-⟩:=hp.form
 obtain⟨ca,cc,rfl⟩:=hc.form
 obtain⟨mk,mn,ms,mv,ml⟩:=m
 obtain⟨ma,mc,rfl,-,-⟩:=hm.at.form
 simp only at hpb hm hpl hval hlen hk3 hkk hex F6 jB
 have HM:=Lib.hid (λy (hy:Grow w y)=>hm.up hy)
 have iE:=Lib.hid hex
 have IW:=Lib.hid hout
 have IX:=Lib.hid (λ(wb w4 w6:World) (S T:Nat) (aH:List Nat) (dL:List Value) (u1 u2:Value) (R:Nat) (ev:Value) (el:List Int) (h:nN wb w4 S T vars L vars.length aH dL u1 u2) (hg:Grow w4 w6) hR hRl he hel=>h.start (p:=⟨vars,.slice va vars.length vc,procs,.slice pa procs.length pc,.mk mk mn ms (.slice ma ml.length mc) ml⟩) (fuel:=fuel) (k:=k) (w':=w6) (R:=R) (ev:=ev) (el:=el) hg hR hRl he hel hlen hL hkk hk2 hfu)
 clear hp hpb hm hpl hok hfa hval hk3 hL hkk hk2 hex hout hc
 rw[hlen]at jB lF ⊢
 clear hlen
 simp only[aB.val,aB.cells,ae.cells]at il jf IX ⊢
 have hG1:Grow w ((((w.alloc (.cells #[.slice va vars.length vc,.slice pa procs.length pc,.int .u8 mk,.int .i64 mn,.string ms,.slice ma ml.length mc] 42)).alloc (.cells #[.slice ca vars.length cc,.slice none 0 0,.slice none 0 0] 54)).alloc (.cells #[.bool false] 4)).alloc (.cells #[.slice none 0 0,.slice none 0 0,.slice none 0 0,.int .i64 0,.int .i64 0] 56)):=((((Mv.refl _ w).alloc _).alloc _).alloc _).alloc _
 obtain⟨n1,n2,n3⟩:=GM w (.cells #[.slice va vars.length vc,.slice pa procs.length pc,.int .u8 mk,.int .i64 mn,.string ms,.slice ma ml.length mc] 42) (.cells #[.slice ca vars.length cc,.slice none 0 0,.slice none 0 0] 54) (.cells #[.bool false] 4)
 have n4:=heap_alloc_new (((w.alloc (.cells #[.slice va vars.length vc,.slice pa procs.length pc,.int .u8 mk,.int .i64 mn,.string ms,.slice ma ml.length mc] 42)).alloc (.cells #[.slice ca vars.length cc,.slice none 0 0,.slice none 0 0] 54)).alloc (.cells #[.bool false] 4)) (.cells #[.slice none 0 0,.slice none 0 0,.slice none 0 0,.int .i64 0,.int .i64 0] 56)
 simp only[World.size_alloc]at n4
 have HB:=Lib.hid (And.intro (And.intro (bS n1 (.cells #[.slice none 0 0,.slice none 0 0,.slice none 0 0,.int .i64 0,.int .i64 0] 56)) (bS n2 (.cells #[.slice none 0 0,.slice none 0 0,.slice none 0 0,.int .i64 0,.int .i64 0] 56))) (And.intro (bS n3 (.cells #[.slice none 0 0,.slice none 0 0,.slice none 0 0,.int .i64 0,.int .i64 0] 56)) n4))
 have aj:=Lib.hid hG1
 clear n1 n2 n3 n4 hG1
 go_enter Tryz.func33,Tryz.ntmps33
 go_upto_region 1 with fail
 generalize ((((w.alloc (.cells #[.slice va vars.length vc,.slice pa procs.length pc,.int .u8 mk,.int .i64 mn,.string ms,.slice ma ml.length mc] 42)).alloc (.cells #[.slice ca vars.length cc,.slice none 0 0,.slice none 0 0] 54)).alloc (.cells #[.bool false] 4)).alloc (.cells #[.slice none 0 0,.slice none 0 0,.slice none 0 0,.int .i64 0,.int .i64 0] 56))=w1 at *
 obtain⟨⟨b0,b1,b2⟩,b3,b4,b5⟩:=bI HB.out.1.1
 have hbl:=lt_of_block HB.out.1.1
 go_wp2_with fail
 refine(il.out _ aj.out).mono ?_
 rintro e w2 ⟨rfl,hg⟩
 have HG2:=Lib.hid (gtr aj.out hg)
 have HB2:=Lib.hid (And.intro (And.intro (ah HB.out.1.1 hg) (ah HB.out.1.2 hg)) (And.intro (ah HB.out.2.1 hg) (ah HB.out.2.2 hg)))
 clear hg il HB aj b0 b1 b2 b3 b4 b5 hbl
 obtain⟨⟨b0,b1,b2⟩,b3,b4,b5⟩:=bI HB2.out.1.1
 have hbl:=lt_of_block HB2.out.1.1
 go_wp2_with fail
 refine(jf.out _ HG2.out).mono ?_
 rintro e w3 ⟨fa,fc,rfl,hg⟩
 have aA:=Lib.hid (gtr HG2.out hg)
 have HB3:=Lib.hid (And.intro (And.intro (ah HB2.out.1.1 hg) (ah HB2.out.1.2 hg)) (And.intro (ah HB2.out.2.1 hg) (ah HB2.out.2.2 hg)))
 clear hg jf HB2 HG2 b0 b1 b2 b3 b4 b5 hbl
 obtain⟨⟨b0,b1,b2⟩,b3,b4,b5⟩:=bI HB3.out.1.1
 have hbl:=lt_of_block HB3.out.1.1
 obtain⟨s0,s1,s2⟩:=dR HB3.out.1.2
 have hsl:=lt_of_block HB3.out.1.2
 go_wp2_with fail
 refine(jB.out _ aA.out).mono ?_
 rintro e w4 ⟨S,rfl,T,aH,dL,u1,u2,hnu⟩
 have Ke:=Lib.hid hnu
 have bY:=Lib.hid (ah HB3.out.1.1 hnu.g)
 clear hnu jB b0 b1 b2 b3 b4 b5 hbl s0 s1 s2 hsl
 go_upto_region 6 with fail
 have HK:=Lib.hid (λ(y:World) (hy:Grow w4 y)=>ah bY.out hy)
 refine wg 66 [some 37,some 38,some 39,some 40,some 41,some 42,some 43,some 44,some 45,some 12,none] [[],[],[],[],[3],[4],[5],[0,1,2,6],[7],[],[9,8]] [] [.c (.agg #[.slice va vars.length vc,.slice pa procs.length pc,.int .u8 mk,.int .i64 mn,.string ms,.slice ma ml.length mc]),.c (.pointer (some ⟨S,0,none⟩)),.c (.int .i64 (fuel:Nat)),.c (.pointer (some ⟨w.heap.size,1,none⟩)),.c (.slice pa procs.length pc),.c (.int .i64 (procs.length:Nat)),.p (λv y=>∃ q,v = .slice (some ⟨q,0,none⟩) procs.length procs.length/\(w4.heap.size<=q/\y.heap[q]? = some (.cells (Array.replicate procs.length (.int .i64 0)) 3 (0,0)))),.p (λv y=>∃ q,v = .agg #[.slice va vars.length vc,.slice pa procs.length pc,.int .u8 mk,.int .i64 mn,.string ms,.slice ma ml.length mc,.pointer (some ⟨S,0,none⟩),.int .i64 0,.int .i64 fuel,.slice (some ⟨q,0,none⟩) procs.length procs.length]/\(w4.heap.size<=q/\y.heap[q]? = some (.cells (Array.replicate procs.length (.int .i64 0)) 3 (0,0)))),.p (λv y=>∃ R,v = .pointer (some ⟨R,0,none⟩)/\∃ q,(w4.heap.size<=R/\w4.heap.size<=q)/\y.heap[R]? = some (.cells #[.slice va vars.length vc,.slice pa procs.length pc,.int .u8 mk,.int .i64 mn,.string ms,.slice ma ml.length mc,.pointer (some ⟨S,0,none⟩),.int .i64 0,.int .i64 fuel,.slice (some ⟨q,0,none⟩) procs.length procs.length] 99 (0,0))/\y.heap[q]? = some (.cells (Array.replicate procs.length (.int .i64 0)) 3 (0,0))),.al 10 8 #[.pointer none] 97,.st 9] ⟨⟨(λv x y hg h=>by obtain⟨q,hv,h1,hb⟩:=h;exact⟨q,hv,h1,ah hb hg⟩),λ_=>(λz hz g v x y hb hm h=>by simp[Kd.zero,Sp.k]at hz;subst hz;obtain⟨q,hv,h1,h3⟩:=h;exact⟨q,hv,h1,(hm.block _ (lt_of_block h3) (fA h3 hb (by decide))).trans h3⟩)⟩,⟨(λv x y hg h=>by obtain⟨q,hv,h1,hb⟩:=h;exact⟨q,hv,h1,ah hb hg⟩),λ_=>(λz hz g v x y hb hm h=>by simp[Kd.zero,Sp.k]at hz;subst hz;obtain⟨q,hv,h1,h3⟩:=h;exact⟨q,hv,h1,(hm.block _ (lt_of_block h3) (fA h3 hb (by decide))).trans h3⟩)⟩,⟨(λv x y hg h=>by obtain⟨R,hv,q,h1,h2,h3⟩:=h;exact⟨R,hv,q,h1,ah h2 hg,ah h3 hg⟩),λ_=>(λz hz g v x y hb hm h=>by simp[Kd.zero,Sp.k]at hz;subst hz;obtain⟨R,hv,q,h1,h2,h3⟩:=h;exact⟨R,hv,q,h1,(hm.block _ (lt_of_block h2) (fA h2 hb (by decide))).trans h2,(hm.block _ (lt_of_block h3) (fA h3 hb (by decide))).trans h3⟩)⟩,trivial⟩ (dm rfl) ?steps ?done
 case steps =>
  refine⟨?s0,?s1,?s2,?s3,?s4,?s5,?s6,?s7,?s8,?s9,?s10,trivial⟩
  case s0 =>
   refine ok HK (λvs x hG HX hP => ?_)
   obtain⟨⟨b0,b1,b2⟩,b3,b4,b5⟩:=bI HX.out
   have hbl:=lt_of_block HX.out
   simp only[zS]
   go_simp
   exact gc
  case s1 =>
   refine oo (λvs x hP => ?_)
   simp only[zS]
   go_simp
   exact gc
  case s2 =>
   refine oo (λvs x hP => ?_)
   simp only[zS]
   go_simp
   exact gc
  case s3 =>
   refine oo (λvs x hP => ?_)
   simp only[zS]
   go_simp
   exact gc
  case s4 =>
   refine ok HK (λvs x hG HX hP => ?_)
   obtain⟨⟨b0,b1,b2⟩,b3,b4,b5⟩:=bI HX.out
   have hbl:=lt_of_block HX.out
   simp only[zS]
   go_simp
   exact gc
  case s5 =>
   refine oo (λvs x hP => ?_)
   simp only[zS]
   go_simp
   exact gc
  case s6 =>
   refine ok HK (λvs x hG HX hP => ?_)
   have hmk:=Xk procs.length x (by omega)
   simp only[zS]
   go_simp
   exact gl ⟨_,rfl,hG.size,heap_alloc_new x _⟩
  case s7 =>
   refine oo (λvs x hP => ?_)
   have p6:=pq hP 6
   obtain⟨q6,h6,i6,j6⟩:=p6
   simp only[zS,h6]
   go_simp
   exact gk ⟨_,rfl,i6,j6⟩
  case s8 =>
   refine ok HK (λvs x hG HX hP => ?_)
   have p7:=pq hP 7
   obtain⟨q7,h7,i7,j7⟩:=p7
   simp only[zS,h7]
   go_simp
   exact gl ⟨_,rfl,_,⟨hG.size,i7⟩,heap_alloc_new x _,bS j7 _⟩
  case s9 =>
   refine oz (λvs x => ?_)
   simp only[zS]
   go_simp
   exact⟨rfl,rfl⟩
  case s10 =>
   refine os (λvs x g hg hb hv => ?_)
   have p8:=hv
   obtain⟨R8,h8,q8,z8,e8⟩:=p8
   obtain c0:=cell1 hb
   have zt:=bB hb
   simp only[zS,hg,h8]
   go_simp
   exact⟨(set1 hb _).1,(set1 hb _).2⟩
 case done =>
 intro vs w6 hE
 have hG:=hE.grow
 have p6:=hE.val 6
 obtain⟨q6,h6,i6,j6⟩:=p6
 have p7:=hE.val 7
 obtain⟨q7,h7,i7,j7⟩:=p7
 have p8:=hE.val 8
 obtain⟨R8,h8,q8,z8,e8⟩:=p8
 obtain⟨g9,a9,l9,m9,b9⟩:=hE.box 9
 simp only[gJ,zS,h8]at b9
 simp only[zS,Nat.reduceAdd,h6,h7,h8,a9]
 have HRW:=Lib.hid (V4 (base:=w4.heap.size) e8.2 z8.2 (by omega))
 obtain⟨x,Sc,Sd,hxo,Sg,hst⟩:=IX.out w3 w4 w6 S T aH dL u1 u2 R8 (.slice (some ⟨q8,0,none⟩) procs.length procs.length) (List.replicate procs.length 0) Ke.out hG e8.1 z8.1 HRW.out (by simp)
 have HX:=Lib.hid (And.intro (And.intro Sc Sd) (And.intro hxo (Sg _ _ _ b9)))
 have HST:=Lib.hid hst
 have Cy:=Lib.hid (And.intro b9 (lt_of_block b9))
 have uf:=Lib.hid hG
 clear hE hG Sc Sd hxo Sg hst IX HRW e8 z8 b9 l9 m9
 have HJ:=Lib.hid (heap_alloc_new w6 (.cells JZ 104))
 have wK:=Lib.hid (show Grow w6 (w6.alloc (.cells JZ 104))from(Mv.refl _ _).alloc _)
 have IY:=Lib.hid (Uk w6.heap.size 60 #[.pointer (some ⟨g9,0,none⟩),.pointer (some ⟨w.heap.size,0,none⟩),.pointer (some ⟨w.heap.size+1+1,0,none⟩)] (w6.alloc (.cells JZ 104)) w6
  (λy1 y2=>∃ s',res = .ok s'/\∃ x',ax x x' y1 y2/\aG w3 ⟨vars,.slice va vars.length vc,procs,.slice pa procs.length pc,.mk mk mn ms (.slice ma ml.length mc) ml⟩ fuel k y2 x' s')
  (λn y1 y2=>res = .error n/\Grow w3 y2) HJ.out (Nat.le_refl _) (λw=>by simp[go_sem]) (λy1 hy1=>by
   have hy:Grow w6 y1:=gtr wK.out hy1
   have hs1:=HST.out.later hy
   have hT:=ah Cy.out.1 hy
   rw[← HX.out.1.1]at hT
   refine(X7 (b:=false) y1 x _ res g9 w.heap.size (w.heap.size+1+1) (IV.out w3 aA.out) hs1 (HM.out w3 aA.out) (by rw[turned];exact iE.out) hT (ah HB3.out.1.1 hs1.g) (ah HB3.out.2.1 hs1.g)).mono ?_
   intro e y2 hq
   cases res with
   |ok s' =>
    obtain⟨rfl,x',hr,hs⟩:=hq
    exact⟨λb o hb ho=>hr.keep ho (HX.out.2.1 b hb),.inl ⟨rfl,s',rfl,x',hr,hs⟩⟩
   |error n =>
    obtain⟨⟨rfl,hn⟩,hg,x',hr⟩:=hq
    exact⟨λb o hb ho=>hr.keep ho (HX.out.2.1 b hb),.inr ⟨n,rfl,hn,rfl,hg⟩⟩) wK.out.size)
 go_wp2_with fail
 refine IY.out.mono ?_
 rintro e w9 ⟨y1,y2,E,hy1,hE1,hE2,DK,⟨rfl,s',rfl,x',hr,hs⟩|⟨n,rfl,hn,rfl,hg⟩⟩
 · have Si:x.ρ E = .other:=HX.out.2.1 E (Nat.le_trans wK.out.size hE1)
   have DL:=wK.out.size
   have hl3:=HST.out.g.size
   have uB:=Lib.hid (hs.other DK (hr.o E hE2 Si) (by omega))
   have Sj:=Lib.hid (show w9.heap[g9]? = some (.cells #[.pointer (some ⟨R8,0,none⟩)] 97 (0,0))from by
    have h1:=ah Cy.out.1 (gtr wK.out hy1)
    have h2:=hr.keep h1 HX.out.2.2
    rw[DK.block g9 (lt_of_block h2) (λe=>by have:=Cy.out.2;omega)]
    exact h2)
   have Kg:=Lib.hid (And.intro (hr.R.trans HX.out.1.1) (hr.S.trans HX.out.1.2))
   have Sk:=Lib.hid (IW.out s' rfl)
   have iT:=Lib.hid (ah HB3.out.2.2 uB.out.g)
   clear hr hs Si DL hl3 DK hy1 hE1 hE2 IY HX HST Cy wK HJ IV iE IW HM Ke bY
   go_upto_region 10 with fail
   have mE:=Lib.hid (λ(y:World) (hy:Grow w9 y)=>And.intro (ah Sj.out hy) (uB.out.later hy))
   refine kK 12 66 [some 55,some 56,some 57,some 58,some 59,some 60,some 61,some 62,some 63,some 64,some 65,some 8] [[],[0],[1],[2],[],[4],[],[6],[7],[8],[5,9],[3]] [] [.c (.pointer (some ⟨R8,0,none⟩)),.c (.pointer (some ⟨R8,0,none⟩)),.c (.pointer (some ⟨R8,9,none⟩)),.c (x'.ev),.c (.pointer (some ⟨S,0,none⟩)),.p (λv y=>∃ M,v = .agg #[.slice (some ⟨M,0,none⟩) s'.outs.length s'.outs.length,.slice none 0 0,.slice none 0 0]/\∃ vs,iH w9 y M s'.outs vs/\vs.length=s'.outs.length),.c (.pointer (some ⟨R8,0,none⟩)),.c (.pointer (some ⟨R8,0,none⟩)),.c (.pointer (some ⟨R8,7,none⟩)),.c (.int .i64 s'.steps),.p (λv y=>∃ M,v = .agg #[.slice (some ⟨M,0,none⟩) s'.outs.length s'.outs.length,.slice none 0 0,.slice none 0 0,.int .i64 s'.steps,.int .i64 0]/\∃ vs,iH w9 y M s'.outs vs/\vs.length=s'.outs.length),.c (x'.ev)] ⟨⟨(λv x y hg h=>by obtain⟨M,hv,vs,hu,hl⟩:=h;exact⟨M,hv,vs,hu.later hg,hl⟩),λ_=>bg⟩,⟨(λv x y hg h=>by obtain⟨M,hv,vs,hu,hl⟩:=h;exact⟨M,hv,vs,hu.later hg,hl⟩),λ_=>bg⟩,trivial⟩ (dm rfl) ?steps ?done
   case steps =>
    refine⟨?s0,?s1,?s2,?s3,?s4,?s5,?s6,?s7,?s8,?s9,?s10,?s11,trivial⟩
    case s0 =>
     refine ok mE (λvs x hG HX hP => ?_)
     have t0:=cell1 HX.out.1
     have htl:=lt_of_block HX.out.1
     simp only[zS]
     go_simp
     exact gc
    case s1 =>
     refine oo (λvs x hP => ?_)
     simp only[zS]
     go_simp
     exact gc
    case s2 =>
     refine oo (λvs x hP => ?_)
     simp only[zS]
     go_simp
     exact gc
    case s3 =>
     refine ok mE (λvs x hG HX hP => ?_)
     have hst:=HX.out.2
     obtain⟨⟨-,r7⟩,-,r9⟩:=hst.cells
     have hrl:=lt_of_block hst.run
     rw[Kg.out.1]at r7 r9 hrl
     clear hst
     simp only[zS]
     go_simp
     exact gc
    case s4 =>
     refine oo (λvs x hP => ?_)
     simp only[zS]
     go_simp
     exact gc
    case s5 =>
     refine ok mE (λvs x hG HX hP => ?_)
     have mZ:=V3 _ _ _ _ x _ _ HX.out.2 Sk.out.1 Sk.out.2
     rw[Kg.out.2]at mZ
     have HC:=Lib.hid mZ
     clear mZ
     simp only[zS]
     go_simp
     refine(HC.out).mono ?_
     rintro e y ⟨M,rfl,us,hu,hl⟩
     exact⟨_,rfl,hu.g,_,rfl,us,hu.weak hG,hl⟩
    case s6 =>
     refine ok mE (λvs x hG HX hP => ?_)
     have t0:=cell1 HX.out.1
     have htl:=lt_of_block HX.out.1
     simp only[zS]
     go_simp
     exact gc
    case s7 =>
     refine oo (λvs x hP => ?_)
     simp only[zS]
     go_simp
     exact gc
    case s8 =>
     refine oo (λvs x hP => ?_)
     simp only[zS]
     go_simp
     exact gc
    case s9 =>
     refine ok mE (λvs x hG HX hP => ?_)
     have hst:=HX.out.2
     obtain⟨⟨-,r7⟩,-,r9⟩:=hst.cells
     have hrl:=lt_of_block hst.run
     rw[Kg.out.1]at r7 r9 hrl
     clear hst
     simp only[zS]
     go_simp
     exact gc
    case s10 =>
     refine oo (λvs x hP => ?_)
     have p5:=pq hP 5
     obtain⟨M5,h5,Sl,u5,k5⟩:=p5
     simp only[zS,h5]
     go_simp
     exact gk ⟨_,rfl,Sl,u5,k5⟩
    case s11 =>
     refine oo (λvs x hP => ?_)
     simp only[zS]
     go_simp
     exact gc
   case done =>
   intro vs wx hE
   have hG:=hE.grow
   have p5:=hE.val 5
   obtain⟨M5,h5,Sl,u5,k5⟩:=p5
   have qi:=hE.val 10
   obtain⟨Ap,h10,acB,Sm,k10⟩:=qi
   simp only[zS,Nat.reduceAdd,h5,h10,List.drop_succ_cons,List.drop_zero]
   have dZ:=Lib.hid (ah iT.out hG)
   have aO:=Lib.hid (gtr aA.out (gtr uB.out.g hG))
   have ug:=Lib.hid ((Sm.weak uB.out.g).weak aA.out)
   have rU:=Lib.hid k10
   clear hE hG u5 Sm k5 k10 mE Sj iT
   have gB:=Lib.hid (EN dZ.out (.slice (some ⟨Ap,0,none⟩) s'.outs.length s'.outs.length) (.slice none 0 0) (.slice none 0 0) (.int .i64 s'.steps) (.int .i64 0))
   obtain⟨⟨c0,c1,c2⟩,c3,c4⟩:=nK dZ.out
   have hbl:=lt_of_block dZ.out
   have zt:=bB dZ.out
   go_wp2_with fail
   obtain⟨⟨t0,t1,t2⟩,t3,t4⟩:=nK gB.out.1
   exact bodyPost_ret (v := .tuple #[x'.ev,.agg #[.slice (some ⟨Ap,0,none⟩) s'.outs.length s'.outs.length,.slice none 0 0,.slice none 0 0,.int .i64 s'.steps,.int .i64 0]]) (by simp[results,Tryz.results33,go_sem,t0,t1,t2,t3,t4]) rfl ⟨_,Ap,_,_,rfl,ug.out.fill dZ.out gB.out.2 (by omega),rU.out⟩
 · have DL:=wK.out.size
   have hl3:=HST.out.g.size
   have oK:=Lib.hid (bM hg DK (λb e=>by omega))
   have hne:(n != 0)=true:=by simpa using hn
   have HN:=Lib.hid hn
   clear hn hg DK hy1 hE1 hE2 IY HX HST Cy wK HJ IV iE IW HM Ke bY DL hl3
   obtain⟨s0,s1,s2⟩:=dR (ah HB3.out.1.2 oK.out)
   have hsl:=lt_of_block (ah HB3.out.1.2 oK.out)
   go_wp2_with fail
   refine(lF.out _ (gtr aA.out oK.out)).mono ?_
   rintro e CG ⟨a,m,c,rfl,hg⟩
   have aO:=Lib.hid (gtr oK.out hg)
   clear hg s0 s1 s2 hsl
   have dZ:=Lib.hid (ah HB3.out.2.2 aO.out)
   have gB:=Lib.hid (EN dZ.out (.slice a m c) (.slice none 0 0) (.slice none 0 0) (.int .i64 0) (.int .i64 n))
   obtain⟨⟨c0,c1,c2⟩,c3,c4⟩:=nK dZ.out
   have hbl:=lt_of_block dZ.out
   have zt:=bB dZ.out
   go_wp2_with fail
   obtain⟨⟨t0,t1,t2⟩,t3,t4⟩:=nK gB.out.1
   exact bodyPost_ret (v := .tuple #[.slice none 0 0,.agg #[.slice a m c,.slice none 0 0,.slice none 0 0,.int .i64 0,.int .i64 n]]) (by simp[results,Tryz.results33,go_sem,t0,t1,t2,t3,t4]) rfl ⟨HN.out,⟨_,_,_,_,rfl⟩,bM (gtr aA.out aO.out) gB.out.2 (λb e=>by omega)⟩
def Pk (w:World) (res:Except Int ai) (e:Ending) (w':World):Prop:=match res with
 |.ok s'=>∃ M steps vs,e = .returned (.agg #[.slice (some ⟨M,0,none⟩) s'.outs.length s'.outs.length,.slice none 0 0,.slice none 0 0,.int .i64 steps,.int .i64 0])/\iH w w' M s'.outs vs/\vs.length=s'.outs.length
 |.error n=>n≠0/\(∃ a m c,e = .returned (.agg #[.slice a m c,.slice none 0 0,.slice none 0 0,.int .i64 0,.int .i64 n]))/\Grow w w'
set_option maxRecDepth 100000 in
set_option maxHeartbeats 6400000 in
theorem Ul (vars:List au) (va:Option Addr) (vc:Nat) (procs:List aN) (pa:Option Addr) (pc:Nat) (mk mn:Int) (ms:ByteArray) (ma:Option Addr) (ml:List ae) (mc:Nat) (ca:Option Addr) (cn cc:Nat) (fuel:Nat) (w:World) (res:Except Int ai)
 (HST:∀ z,Grow w z->Calls Tryz.prog 33 #[.agg #[.slice va vars.length vc,.slice pa procs.length pc,.int .u8 mk,.int .i64 mn,.string ms,.slice ma ml.length mc],.agg #[.slice ca cn cc,.slice none 0 0,.slice none 0 0],.int .i64 fuel,.bool false] z (NJ z res)) :
 Calls Tryz.prog 21 #[.agg #[.slice va vars.length vc,.slice pa procs.length pc,.int .u8 mk,.int .i64 mn,.string ms,.slice ma ml.length mc],.agg #[.slice ca cn cc,.slice none 0 0,.slice none 0 0],.int .i64 fuel] w (Pk w res):=by
 have HS:=Lib.hid HST
 clear HST
 have hG1:Grow w (((w.alloc (.cells #[.slice va vars.length vc,.slice pa procs.length pc,.int .u8 mk,.int .i64 mn,.string ms,.slice ma ml.length mc] 42)).alloc (.cells #[.slice ca cn cc,.slice none 0 0,.slice none 0 0] 54)).alloc (.cells #[.slice none 0 0,.slice none 0 0,.slice none 0 0,.int .i64 0,.int .i64 0] 56)):=(((Mv.refl _ w).alloc _).alloc _).alloc _
 obtain⟨n1,n2,n3⟩:=GM w (.cells #[.slice va vars.length vc,.slice pa procs.length pc,.int .u8 mk,.int .i64 mn,.string ms,.slice ma ml.length mc] 42) (.cells #[.slice ca cn cc,.slice none 0 0,.slice none 0 0] 54) (.cells #[.slice none 0 0,.slice none 0 0,.slice none 0 0,.int .i64 0,.int .i64 0] 56)
 obtain⟨⟨b0,b1,b2⟩,b3,b4,b5⟩:=bI n1
 have hbl:=lt_of_block n1
 obtain⟨s0,s1,s2⟩:=dR n2
 have hsl:=lt_of_block n2
 have aj:=Lib.hid hG1
 have HB:=Lib.hid n3
 clear n1 n2 n3 hG1
 go_enter Tryz.func21,Tryz.ntmps21
 go_upto_region 1 with fail
 generalize (((w.alloc (.cells #[.slice va vars.length vc,.slice pa procs.length pc,.int .u8 mk,.int .i64 mn,.string ms,.slice ma ml.length mc] 42)).alloc (.cells #[.slice ca cn cc,.slice none 0 0,.slice none 0 0] 54)).alloc (.cells #[.slice none 0 0,.slice none 0 0,.slice none 0 0,.int .i64 0,.int .i64 0] 56))=w1 at *
 have HC:=Lib.hid (HS.out _ aj.out)
 clear HS
 go_wp2_with fail
 refine HC.out.mono ?_
 clear HC b0 b1 b2 b3 b4 b5 hbl s0 s1 s2 hsl
 intro e w2 hq
 cases res with
 |error n =>
  obtain⟨hn,⟨ev,a,m,c,rfl⟩,hg⟩:=hq
  have HG2:=Lib.hid (gtr aj.out hg)
  have HB2:=Lib.hid (ah HB.out hg)
  have HN:=Lib.hid hn
  clear hn hg aj HB
  have fQ:=Lib.hid (heap_alloc_new w2 (.cells #[.slice a m c,.slice none 0 0,.slice none 0 0,.int .i64 0,.int .i64 n] 56))
  have aA:=Lib.hid (show Grow w (w2.alloc (.cells #[.slice a m c,.slice none 0 0,.slice none 0 0,.int .i64 0,.int .i64 n] 56))from HG2.out.alloc _)
  have HB3:=Lib.hid (show(w2.alloc (.cells #[.slice a m c,.slice none 0 0,.slice none 0 0,.int .i64 0,.int .i64 n] 56)).heap[w.heap.size+1+1]? = _ from bS HB2.out _)
  go_upto_region 2 with fail
  generalize (w2.alloc (.cells #[.slice a m c,.slice none 0 0,.slice none 0 0,.int .i64 0,.int .i64 n] 56))=w3 at *
  have gB:=Lib.hid (EN HB3.out (.slice a m c) (.slice none 0 0) (.slice none 0 0) (.int .i64 0) (.int .i64 n))
  obtain⟨⟨c0,c1,c2⟩,c3,c4⟩:=nK HB3.out
  obtain⟨⟨d0,d1,d2⟩,d3,d4⟩:=nK fQ.out
  have hbl:=lt_of_block HB3.out
  have hnl:=lt_of_block fQ.out
  have zt:=bB HB3.out
  go_wp2_with fail
  obtain⟨⟨t0,t1,t2⟩,t3,t4⟩:=nK gB.out.1
  exact bodyPost_ret (v := .agg #[.slice a m c,.slice none 0 0,.slice none 0 0,.int .i64 0,.int .i64 n]) (by simp[results,Tryz.results21,go_sem,t0,t1,t2,t3,t4]) rfl ⟨HN.out,⟨_,_,_,rfl⟩,bM aA.out gB.out.2 (λb e=>by omega)⟩
 |ok s' =>
  obtain⟨ev,M,steps,us,rfl,hu,hl⟩:=hq
  have HG2:=Lib.hid (gtr aj.out hu.g)
  have HB2:=Lib.hid (ah HB.out hu.g)
  have fQ:=Lib.hid (heap_alloc_new w2 (.cells #[.slice (some ⟨M,0,none⟩) s'.outs.length s'.outs.length,.slice none 0 0,.slice none 0 0,.int .i64 steps,.int .i64 0] 56))
  have aA:=Lib.hid (show Grow w2 (w2.alloc (.cells #[.slice (some ⟨M,0,none⟩) s'.outs.length s'.outs.length,.slice none 0 0,.slice none 0 0,.int .i64 steps,.int .i64 0] 56))from(Mv.refl _ _).alloc _)
  have HB3:=Lib.hid (ah HB2.out aA.out)
  have HU3:=Lib.hid ((hu.weak aj.out).later aA.out)
  have HL:=Lib.hid hl
  clear hu hl aj HB HG2 aA HB2
  go_upto_region 2 with fail
  generalize (w2.alloc (.cells #[.slice (some ⟨M,0,none⟩) s'.outs.length s'.outs.length,.slice none 0 0,.slice none 0 0,.int .i64 steps,.int .i64 0] 56))=w3 at *
  have gB:=Lib.hid (EN HB3.out (.slice (some ⟨M,0,none⟩) s'.outs.length s'.outs.length) (.slice none 0 0) (.slice none 0 0) (.int .i64 steps) (.int .i64 0))
  obtain⟨⟨c0,c1,c2⟩,c3,c4⟩:=nK HB3.out
  obtain⟨⟨d0,d1,d2⟩,d3,d4⟩:=nK fQ.out
  have hbl:=lt_of_block HB3.out
  have hnl:=lt_of_block fQ.out
  have zt:=bB HB3.out
  go_wp2_with fail
  obtain⟨⟨t0,t1,t2⟩,t3,t4⟩:=nK gB.out.1
  exact bodyPost_ret (v := .agg #[.slice (some ⟨M,0,none⟩) s'.outs.length s'.outs.length,.slice none 0 0,.slice none 0 0,.int .i64 steps,.int .i64 0]) (by simp[results,Tryz.results21,go_sem,t0,t1,t2,t3,t4]) rfl ⟨M,_,_,rfl,HU3.out.fill HB3.out gB.out.2 (by omega),HL.out⟩
end Go.Proofs.YtbpodipdfohikaaGreat
