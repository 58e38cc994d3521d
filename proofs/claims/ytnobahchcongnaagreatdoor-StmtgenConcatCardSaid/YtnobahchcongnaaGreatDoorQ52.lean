import Derived.Test.YtnobahchcongnaaGreatDoorQ51
import Derived.Test.YtnobahchcongnaaGreatDoorTie
import Derived.LaidMore
import Derived.JoinedTies
import Derived.ChangeSame
import Derived.JoinedOf
import Derived.Stop.Joined
set_option linter.unusedSimpArgs false
set_option linter.unusedVariables false
set_option maxRecDepth 100000
set_option maxHeartbeats 25600000
namespace Go.Proofs.YtnobahchcongnaaGreatDoor
section
open Go.RowKit Go.Instr
def pg (kv:Value) (l:List ae):ae := .mk 57 0 ⟨#[]⟩ kv l
def partT (l:List ae):Tree := .mk 57 0 ⟨#[]⟩ (ae.ts l)
theorem Pv (kv:Value) (l:List ae):(pg kv l).t=partT l:=by rw [pg,ae.t,partT]
theorem X9 {w:World} {a:Option Addr} {cap:Nat} {l:List ae} (h:ax 4 ae.cells w (.slice a l.length cap) l) (h0:0<l.length):∃ b off,a=some ⟨b,off,none⟩:=by
 obtain ⟨a',cap',e,h2,h3,h4⟩:=h;simp only [Value.slice.injEq,true_and] at e;obtain ⟨rfl,rfl⟩:=e;obtain ⟨b,off,e,_⟩:=h4 0 l[0] (List.getElem?_eq_getElem h0);exact ⟨b,off,e⟩
theorem Ya {w:World} {a:Option Addr} {cap:Nat} {l:List ae} (h:ax 4 ae.cells w (.slice a l.length cap) l) (k:Nat) (hk:k≤l.length):ax 4 ae.cells w (.slice a k cap) (l.take k):=by
 obtain ⟨a',cap',e,h2,h3,h4⟩:=h;simp only [Value.slice.injEq,true_and] at e;obtain ⟨rfl,rfl⟩:=e;have hl:(l.take k).length=k:=by rw [List.length_take];omega
 refine ⟨a,cap,by rw [hl],by omega,by omega,fun i x hx => ?_⟩;have hi:=om hx;rw [List.getElem?_take_of_lt (by omega)] at hx;exact h4 i x hx
theorem Xh {w:World} {a a2:Option Addr} {cap:Nat} {l:List ae} (h:ax 4 ae.cells w (.slice a l.length cap) l) (k:Nat) (hk:k≤l.length) (ha:0<k→a2=a):ax 4 ae.cells w (.slice a2 k cap) (l.take k):=by
 rcases Nat.eq_zero_or_pos k with rfl | h0
 · exact ⟨a2,cap,rfl,Nat.zero_le _,by simp,fun i x hx=>by simp at hx⟩
 · rw [ha h0];exact Ya h k hk
theorem Yb {w:World} {a:Option Addr} {cap:Nat} {l:List ae} (h:ax 4 ae.cells w (.slice a l.length cap) l) (k:Nat) (hk:k≤l.length) (a2:Option Addr) (ha:k<l.length→a2=a.map (·.add (k * 4))):ax 4 ae.cells w (.slice a2 (l.length - k) (cap - k)) (l.drop k):=by
 obtain ⟨a',cap',e,h2,h3,h4⟩:=h;simp only [Value.slice.injEq,true_and] at e;obtain ⟨rfl,rfl⟩:=e;have hl:(l.drop k).length=l.length - k:=by rw [List.length_drop]
 refine ⟨a2,cap - k,by rw [hl],by omega,by omega,fun i x hx => ?_⟩;have hi:=om hx;rw [List.getElem?_drop] at hx;obtain ⟨b,off,e,hc⟩:=h4 (k+i) x hx;refine ⟨b,off+k * 4,?_,fun j u hu => ?_⟩
 · rw [ha (by omega),e];simp only [Option.map_some,Option.some.injEq];exact zW b off (k * 4)
 · have:=hc j u hu;rwa [show off+k * 4+i * 4+j=off+(k+i) * 4+j from by omega]
theorem YK {w:World} {k n:Int} {s:ByteArray} {kv kv2:Value} {l l2:List ae} (h:aV w (.mk k n s kv l)) (hr:ax 4 ae.cells w kv2 l2) (hs:∀ x∈l2,x∈l):aV w (pg kv2 l2) :=
 .mk (by decide) (by simp [In64]) (by decide) hr (fun x hx=>h.row.2.2.2.2 x (hs x hx))
theorem IC:∀ (a b:List Tree),cu (a ++ b)=cu a+cu b
 | [],b=>by simp [cu]
 | t :: a,b=>by rw [List.cons_append,cu,cu,IC a b];omega
theorem IE {k n:Int} {s:ByteArray} {kv kv2:Value} {l l2:List ae} (h:aW (ae.t (.mk k n s kv l))≤80) (hl:cu (ae.ts l2)≤cu (ae.ts l)):aW (pg kv2 l2).t≤80:=by
 rw [ae.t,aW] at h;rw [pg,ae.t,aW];omega
theorem EX (l:List ae) (k:Nat):ae.ts (l.take k)=(ae.ts l).take k:=by rw [ae.dP,ae.dP,List.map_take]
theorem EY (l:List ae) (k:Nat):ae.ts (l.drop k)=(ae.ts l).drop k:=by rw [ae.dP,ae.dP,List.map_drop]
theorem size_take (l:List ae) (k:Nat):cu (ae.ts (l.take k))≤cu (ae.ts l):=by
 have:=IC ((ae.ts l).take k) ((ae.ts l).drop k);rw [List.take_append_drop] at this;rw [EX];omega
theorem size_drop (l:List ae) (k:Nat):cu (ae.ts (l.drop k))≤cu (ae.ts l):=by
 have:=IC ((ae.ts l).take k) ((ae.ts l).drop k);rw [List.take_append_drop] at this;rw [EY];omega
theorem Jk {f:az} {procs:List cB} {k n:Int} {s:ByteArray} {kv kv2:Value} {l l2:List ae} (h:lJ f procs (ae.t (.mk k n s kv l))=0) (hs:∀ x∈ae.ts l2,x∈ae.ts l):lJ f procs (pg kv2 l2).t=0∧dw (pg kv2 l2).t=true:=by
 have hib:dw (ae.t (.mk k n s kv l))=true:=by
  rcases hb:dw (ae.t (.mk k n s kv l)) with _ | _
  · rw [lJ,hb] at h;cases h
  · rfl
 rw [lJ,hib,if_pos rfl,ae.t,fQ,Ee] at h;have hz:=D8 _ h;rw [ae.t,dw] at hib;simp only [Bool.and_eq_true] at hib;have hal:=hib.2.2;rw [Ec] at hal;have h2:dw (pg kv2 l2).t=true:=by
  rw [pg,ae.t,dw,Ec];simp only [Bool.and_eq_true];exact ⟨rfl,rfl,List.all_eq_true.2 fun x hx=>List.all_eq_true.1 hal x (hs x hx)⟩
 refine ⟨?_,h2⟩;rw [lJ,h2,if_pos rfl,pg,ae.t,fQ,Ee];refine D5 _ fun j hj => ?_;rw [List.getElem_map];have hm:=hs _ (List.getElem_mem (l:=ae.ts l2) (n:=j) (by simpa using hj));obtain ⟨i,hi,e⟩:=List.mem_iff_getElem.1 hm;rw [← e];have:=hz i (by simpa using hi);rwa [List.getElem_map] at this
theorem Xi (f:az) (procs:List cB) (k n:Int) (s:ByteArray) (kv:Value) (l:List ae) (i:Nat):aR f procs (ae.t (.mk k n s kv l))=aK [aR f procs (partT (l.take i)),aR f procs (partT (l.drop i))]:=by
 rw [partT,partT,ae.t,aR,aR,aR,Bi,Bi,Bi,EX,EY,← UU,← List.map_append,List.take_append_drop]
structure Parts (f:az) (procs:List cB) (P P1 P2:aC):Prop where
 j:P=aK [P1,P2]
 c1:kZ P1.code P1.refs=(-1,0)
 c2:kZ P2.code P2.refs=(-1,0)
 o1:∀ x∈P1.code,0≤x.op∧x.op≤255
 o2:∀ x∈P2.code,0≤x.op∧x.op≤255
 tc:aP [P1,P2]≤65536
 tr:bS [P1,P2]≤1000
 r:P.refs.length≤1000
theorem Yc {f:az} (hf:gN f) {procs:List cB} (hp:wN procs) {k n:Int} {s:ByteArray} {kv:Value} {l:List ae} (h:lJ f procs (ae.t (.mk k n s kv l))=0) (hs:aW (ae.t (.mk k n s kv l))≤80) (i:Nat) :
 Parts f procs (aR f procs (ae.t (.mk k n s kv l))) (aR f procs (partT (l.take i))) (aR f procs (partT (l.drop i))):=by
 have hj:=Xi f procs k n s kv l i;have b1:=(Jk (kv2 := .slice none 0 0) h (l2:=l.take i) (fun x hx=>by rw [EX] at hx;exact List.mem_of_mem_take hx)).2;have b2:=(Jk (kv2 := .slice none 0 0) h (l2:=l.drop i) (fun x hx=>by rw [EY] at hx;exact List.mem_of_mem_drop hx)).2;have o1:=Jc hf procs hp _ b1 (IE (kv2 := .slice none 0 0) hs (size_take l i));have o2:=Jc hf procs hp _ b2 (IE (kv2 := .slice none 0 0) hs (size_drop l i));rw [Pv] at o1 o2;have hle:=Io f procs hp.ok (ae.t (.mk k n s kv l));have e1:=(dY [aR f procs (partT (l.take i)),aR f procs (partT (l.drop i))]);rw [← hj] at e1;have t1:∀ P Q:aC,aP [P,Q]=P.code.length+Q.code.length∧bS [P,Q]=P.refs.length+Q.refs.length:=fun P Q=>by simp [aP,bS]
 refine ⟨hj,o1.check,o2.check,fun x hx => ?_,fun x hx => ?_,by omega,by omega,by omega⟩
 · have:=o1.op x hx;omega
 · have:=o2.op x hx;omega
theorem Vl (w:World) (x:ae) (sv pv:Value) (f:az) (procs:List aj) (m:Int) (ht:qM w) (hx:aV w x) (hf:fF w sv f) (h64:∀ s∈f.slots,In64 s.at') (hp:lQ w pv procs) (hm0:0≤m) (hm1:m≤255) :
 Calls Tryz.prog 3 #[x.val,.agg #[sv,.int .i64 f.cells,.int .i64 f.stacks],pv,.int .u8 m] w fun e w'=>e = .returned (.bool true)∧Grow w w':=by
 obtain ⟨k,n,s,kv,l⟩:=x;obtain ⟨ka,kc,rfl,hkc,hkl⟩:=hx.form;obtain ⟨fa,fc,rfl,hfc,hfl⟩:=hf.row.form;obtain ⟨pa,pc,rfl,-,hpl⟩:=hp.row.form;obtain ⟨HB0,HB1,HG2⟩:=a2 w (.cells #[.int .u8 k,.int .i64 n,.string s,.slice ka l.length kc] 24) (.cells #[.slice fa f.slots.length fc,.int .i64 f.cells,.int .i64 f.stacks] 27);have LJ:=ł (fun (z:World) (hz:Grow w z)=>V4 z (ht.later hz));have LK:=ł (fun (z:World) (hz:Grow w z)=>YE z (.mk k n s (.slice ka l.length kc) l) _ _ f procs (hx.later hz) (hf.later hz) (hp.later hz));have zF:=ł ht;have zM:=ł hx;have bF:=ł hf;have fK:=ł hp;have H64:=ł h64;clear ht hx hf hp h64;simp only [ae.val] at LK ⊢
 go_enter Tryz.func3,Tryz.ntmps3
 go_wp2_with fail;generalize ((w.alloc (.cells #[.int .u8 k,.int .i64 n,.string s,.slice ka l.length kc] 24)).alloc (.cells #[.slice fa f.slots.length fc,.int .i64 f.cells,.int .i64 f.stacks] 27))=w2 at *;refine (LJ.out _ HG2.out).mono ?_;rintro e w3 ⟨rfl,hg3⟩;have aG:=ł (gtr HG2.out hg3);obtain ⟨⟨n0,n1⟩,n2,n3⟩:=aF (ai HB0.out hg3);obtain ⟨f0,f1,f2⟩:=cK (ai HB1.out hg3);have hl0:=lt_of_block (ai HB0.out hg3);have hl1:=lt_of_block (ai HB1.out hg3);have HB0:=ł (ai HB0.out hg3);have HB1:=ł (ai HB1.out hg3);clear hg3;go_wp2_with fail;refine (LK.out _ aG.out).mono ?_;clear n0 n1 n2 n3 f0 f1 f2 hl0 hl1 LK;rintro e w4 ⟨b,rfl,hb,hg4⟩;have aN:=ł (gtr aG.out hg4);have HB0:=ł (ai HB0.out hg4);have HB1:=ł (ai HB1.out hg4);have Ua:=ł hb;clear hg4 hb;cases b with
 | false =>
  go_wp2_with fail;refine (LJ.out _ aN.out).mono ?_;rintro e w5 ⟨rfl,hg5⟩;have aS:=ł (gtr aN.out hg5);clear hg5;go_wp2_with fail;go_ret;exact ⟨rfl,aS.out⟩
 | true =>
  have CE:=ł (Ua.out.1 rfl);obtain ⟨⟨n0,n1⟩,n2,n3⟩:=aF HB0.out;have hl0:=lt_of_block HB0.out;by_cases hk:k=57
  · subst hk;have A8:=ł (CE.out.fr H64.out);have hst:aW (ae.t (.mk 57 n s (.slice ka l.length kc) l))≤80:=by
     have h1:=CE.out.sz;have:=(IZ (ae.t (.mk 57 n s (.slice ka l.length kc) l)) 80 (by decide)).2.2 h1;omega
    have HST:=ł hst;have LM:=ł (fun (x:ae) (hs:aW x.t≤80) (z:World) (hz:Grow w z) (hx:aV z x)=>Iy z x (.slice fa f.slots.length fc) (.slice pa procs.length pc) f procs hx (bF.out.later hz) (fK.out.later hz) A8.out.2 CE.out.pr hs);have uO:=ł (LM.out (.mk 57 n s (.slice ka l.length kc) l) HST.out w4 aN.out (zM.out.later aN.out));simp only [ae.val] at uO;obtain ⟨f0,f1,f2⟩:=cK HB1.out;have hl1:=lt_of_block HB1.out;have acL:l.length≤80:=by
     have:=Bd (ae.ts l);rw [ae.cZ] at this;rw [ae.t,aW] at hst;omega
    clear hst;go_wp2_with fail;refine uO.out.mono ?_;clear n0 n1 n2 n3 f0 f1 f2 hl0 hl1 uO;rintro e w5 ⟨v,rfl,hpv,hg5⟩;have rC:=ł (fun (h:lJ f (procs.map aj.d) (ae.t (.mk 57 n s (.slice ka l.length kc) l))=0)=>show oG f (procs.map aj.d) (ae.t (.mk 57 n s (.slice ka l.length kc) l))=aR f (procs.map aj.d) (ae.t (.mk 57 n s (.slice ka l.length kc) l)) from by rw [oG,if_pos h]);have wI:=ł (fun (h:lJ f (procs.map aj.d) (ae.t (.mk 57 n s (.slice ka l.length kc) l))=0) (i:Nat)=>Yc A8.out.1 CE.out.pr.prb h HST.out i);have LP:=ł (fun (h:lJ f (procs.map aj.d) (ae.t (.mk 57 n s (.slice ka l.length kc) l))=0) (k2:Value) (l2:List ae) (hsz:cu (ae.ts l2)≤cu (ae.ts l)) (hs:∀ x∈ae.ts l2,x∈ae.ts l) (hs2:∀ x∈l2,x∈l) (z:World) (hz:Grow w z) (hr:ax 4 ae.cells z k2 l2) =>
     show Calls Tryz.prog 7 #[.agg #[.int .u8 57,.int .i64 0,.string ⟨#[]⟩,k2],.agg #[.slice fa f.slots.length fc,.int .i64 f.cells,.int .i64 f.stacks],.slice pa procs.length pc] z (Ji z (aR f (procs.map aj.d) (partT l2)) 0) from by
      have e:=(Jk (kv2:=k2) h hs).1;have:=LM.out (pg k2 l2) (IE (kv2:=k2) HST.out hsz) z hz (YK (zM.out.later hz) hr hs2);rw [e,show oG f (procs.map aj.d) (pg k2 l2).t=aR f (procs.map aj.d) (pg k2 l2).t from by rw [oG,if_pos e],Pv] at this;exact this)
    generalize lJ f (procs.map aj.d) (ae.t (.mk 57 n s (.slice ka l.length kc) l))=E at *;generalize oG f (procs.map aj.d) (ae.t (.mk 57 n s (.slice ka l.length kc) l))=P0 at *;generalize aR f (procs.map aj.d) (ae.t (.mk 57 n s (.slice ka l.length kc) l))=P at *;obtain ⟨ja,jc,jr,bW,rfl,hr1,hr2⟩:=hpv;have hga:Grow w5 (w5.alloc (.cells #[.slice ja P0.code.length jc,.slice jr P0.refs.length bW] 34)):=(Mv.refl _ _).alloc _;have bP:=ł (gtr aN.out (gtr hg5 hga));have Ub:=ł (heap_alloc_new w5 (.cells #[.slice ja P0.code.length jc,.slice jr P0.refs.length bW] 34));have Uc:=ł (ay.later (show ay w5 (.agg #[.slice ja P0.code.length jc,.slice jr P0.refs.length bW]) P0 from ⟨_,_,_,_,rfl,hr1,hr2⟩) hga);have gI:=ł (ai HB0.out (gtr hg5 hga));have LQ:=ł (ai HB1.out (gtr hg5 hga));obtain ⟨⟨n0,n1⟩,n2,n3⟩:=aF (ai HB0.out (gtr hg5 hga));have hl0:=lt_of_block (ai HB0.out (gtr hg5 hga));clear hr1 hr2 hg5 hga HB0 HB1;by_cases hE:E=0
    · subst hE;have hP:P0=P:=rC.out rfl;subst hP;have HEE:=ł (rfl:(0:Int)=0);obtain ⟨K,hK,hKl⟩:∃ K:Nat,Int.tmod m ((l.length:Int)+1)=K∧K≤l.length:=by
       have h0:=Int.tmod_nonneg ((l.length:Int)+1) hm0;have h1:=Int.tmod_lt_of_pos m (show (0:Int)<(l.length:Int)+1 by omega);exact ⟨(Int.tmod m ((l.length:Int)+1)).toNat,by omega,by omega⟩
      have hw1:=IntWalk.i64_in ((l.length:Int)+1) (by omega);have hK2:m % ((l.length:Int)+1)=K:=by rw [← hK,Int.tmod_eq_emod_of_nonneg hm0]
      have hz:(((l.length:Int)+1) == 0)=false:=by simp;omega
      have HT:=ł (wI.out rfl K);have Ud:=ł (fun (a2:Option Addr) (z:World) (hz:Grow w z) (hr:ax 4 ae.cells z (.slice a2 K kc) (l.take K))=>LP.out rfl (.slice a2 K kc) (l.take K) (size_take l K) (fun x hx=>by rw [EX] at hx;exact List.mem_of_mem_take hx) (fun x hx=>List.mem_of_mem_take hx) z hz hr);have uL:=ł (fun (a2:Option Addr) (z:World) (hz:Grow w z) (hr:ax 4 ae.cells z (.slice a2 (l.length - K) (kc - K)) (l.drop K))=>LP.out rfl (.slice a2 (l.length - K) (kc - K)) (l.drop K) (size_drop l K) (fun x hx=>by rw [EY] at hx;exact List.mem_of_mem_drop hx) (fun x hx=>List.mem_of_mem_drop hx) z hz hr);have HKB:=ł (fun (h:0<K)=>X9 zM.out.row.2.2.2.1 (by omega));have DL:=ł (And.intro hKl hkc);generalize aR f (procs.map aj.d) (partT (l.take K))=P1 at *;generalize aR f (procs.map aj.d) (partT (l.drop K))=P2 at *;go_upto_region 7 with fail;have Ue:=ł zM.out.row.2.2.2.1;clear n0 n1 n2 n3 hl0 hK hK2 hz hw1 wI LP LM zM CE A8 HST Ua HEE rC;generalize hw6:w5.alloc (.cells #[.slice ja P0.code.length jc,.slice jr P0.refs.length bW] 34)=w6 at *;clear hw6;generalize w5.heap.size=x9 at *;clear HG2 aG aN;have fA:=ł (fun (y:World) (hy:Grow w6 y)=>And.intro (ai gI.out hy) (And.intro (ai LQ.out hy) (Ue.out.later (gtr bP.out hy))));refine wg 108 [some 52,some 53,some 54,some 55,some 56,some 57,some 58,some 59,some 51,some 60,some 61,some 12,none,some 13] [[],[0],[],[1,2],[3],[],[],[4,5,6],[7],[8],[8],[],[11,9],[10]] [3,4] [.c (.pointer (some ⟨w.heap.size,3,none⟩)),.c (.slice ka l.length kc),.c (.int .i64 (K:Int)),.p (fun v y=>∃ a2,v = .slice a2 K kc∧ax 4 ae.cells y (.slice a2 K kc) (l.take K)),.p (fun v y=>∃ a2,v = .agg #[.int .u8 57,.int .i64 0,.string ⟨#[]⟩,.slice a2 K kc]∧ax 4 ae.cells y (.slice a2 K kc) (l.take K)),.c (.agg #[.slice fa f.slots.length fc,.int .i64 f.cells,.int .i64 f.stacks]),.c (.slice pa procs.length pc),.p (fun v y=>∃ a c r d,v = .tuple #[.agg #[.slice a (P1).code.length c,.slice r (P1).refs.length d],.int .i64 0]∧ay y (.agg #[.slice a (P1).code.length c,.slice r (P1).refs.length d]) (P1)),.p (fun v y=>∃ a c r d,v = .tuple #[.agg #[.slice a (P1).code.length c,.slice r (P1).refs.length d],.int .i64 0]∧ay y (.agg #[.slice a (P1).code.length c,.slice r (P1).refs.length d]) (P1)),.p (fun v y=>ay y v (P1)),.c (.int .i64 0),.al 12 9 #[.slice none 0 0,.slice none 0 0] 34,.st 11,.c (.int .i64 0)] ⟨⟨(fun v x y hg h=>by obtain ⟨a,hv,hb⟩:=h;exact ⟨a,hv,hb.later hg⟩),by simp⟩,⟨(fun v x y hg h=>by obtain ⟨a,hv,hb⟩:=h;exact ⟨a,hv,hb.later hg⟩),by simp⟩,⟨(fun v x y hg h=>by obtain ⟨a,c,r,d,hv,hb⟩:=h;exact ⟨a,c,r,d,hv,hb.later hg⟩),fun _=>(fun z hz g v x y hb hm h=>by simp [Kd.zero,Sp.k] at hz;subst hz;obtain ⟨a,c,r,d,hv,hp⟩:=h;exact ⟨a,c,r,d,hv,hp.box hb hm⟩)⟩,⟨(fun v x y hg h=>by obtain ⟨a,c,r,d,hv,hb⟩:=h;exact ⟨a,c,r,d,hv,hb.later hg⟩),fun _=>(fun z hz g v x y hb hm h=>by simp [Kd.zero,Sp.k] at hz;subst hz;obtain ⟨a,c,r,d,hv,hp⟩:=h;exact ⟨a,c,r,d,hv,hp.box hb hm⟩)⟩,sP,trivial⟩ (dJ rfl) ?steps ?done
      case steps =>
       refine ⟨?s0,?s1,?s2,?s3,?s4,?s5,?s6,?s7,?s8,?s9,?s10,?s11,?s12,?s13,trivial⟩
       case s0 | s2 | s6 | s13 =>
        refine oo (fun vs x hP => ?_);simp only [zS];go_simp;exact gc
       case s1 =>
        refine ok fA (fun vs x hG HX hP => ?_);obtain ⟨⟨n0,n1⟩,n2,n3⟩:=aF HX.out.1;simp only [zS];go_simp;exact gc
       case s3 =>
        refine ok fA (fun vs x hG HX hP => ?_);have hkb:=DL.out;have hk0:(0:Int)≤(K:Int):=by omega
        have hk1:(K:Int)≤(kc:Int):=by omega
        have hk2:(K:Int)≤(l.length:Int):=by omega
        simp only [zS];go_simp;exact gk ⟨_,rfl,Xh HX.out.2.2 K DL.out.1 (fun h=>by obtain ⟨b,off,e⟩:=HKB.out h;rw [e] <;> first | rfl | simp [zW])⟩
       case s4 =>
        refine oo (fun vs x hP => ?_);obtain ⟨a3,h3,b3⟩:=pq hP 3;simp only [zS,h3];go_simp;exact gk ⟨a3,rfl,b3⟩
       case s5 =>
        refine ok fA (fun vs x hG HX hP => ?_);obtain ⟨f0,f1,f2⟩:=cK HX.out.2.1;simp only [zS];go_simp;exact gc
       case s7 =>
        refine ok fA (fun vs x hG HX hP => ?_);obtain ⟨a4,h4,b4⟩:=pq hP 4;have HC:=ł (Ud.out a4 x (gtr bP.out hG) b4);simp only [zS,h4];go_simp;refine (HC.out).mono ?_;rintro e y ⟨v,rfl,hp,hg⟩;obtain ⟨qa,qc,qr,qd,rfl,hq1,hq2⟩:=hp;exact ⟨_,rfl,aY hg ⟨_,_,_,_,rfl,⟨_,_,_,_,rfl,hq1,hq2⟩⟩⟩
       case s8 =>
        refine oo (fun vs x hP => ?_);obtain ⟨LU,LV,LW,LX,h7,b7⟩:=pq hP 7 (k:=fun h=>by cases (show false=true from h));simp only [zS,h7];go_simp;exact gk ⟨_,_,_,_,rfl,b7⟩
       case s9 =>
        refine oo (fun vs x hP => ?_);obtain ⟨DN,DR,DT,DU,h8,b8⟩:=pq hP 8 (k:=fun h=>by cases (show false=true from h));simp only [zS,h8];go_simp;exact gk b8
       case s10 =>
        refine oo (fun vs x hP => ?_);obtain ⟨DN,DR,DT,DU,h8,b8⟩:=pq hP 8 (k:=fun h=>by cases (show false=true from h));simp only [zS,h8];go_simp;exact gc
       case s11 =>
        refine oz (fun vs x => ?_);simp only [zS];go_simp;exact ⟨rfl,rfl⟩
       case s12 =>
        refine os (fun vs x g hg hb hv => ?_);obtain ⟨dM,dN,dV,dW,h9,c9,f9⟩:=hv;obtain ⟨c0,c1⟩:=aB hb;have zt:=aJ hb;simp only [zS,hg,h9];go_simp;exact set2 hb _ _
      case done =>
      intro vs w7 hE;have hG:=hE.grow;obtain ⟨LU,LV,LW,LX,h7,b7⟩:=hE.val 7;obtain ⟨DN,DR,DT,DU,h8,b8⟩:=hE.val 8;obtain ⟨dM,dN,dV,dW,h9,c9,f9⟩:=hE.val 9;obtain ⟨g11,Dt,Du,m11,b11⟩:=hE.box 11;simp only [zS,h9] at b11;simp only [zS,Nat.reduceAdd,h7,h8,h9,Dt];have tF:=ł (gtr bP.out hG);have AP:=ł (ai gI.out hG);have Uf:=ł (ai LQ.out hG);have Q7:=ł (ai Ub.out hG);have Q8:=ł (Uc.out.later hG);have DC:=ł (show ay w7 (.agg #[.slice dM (P1).code.length dN,.slice dV (P1).refs.length dW]) P1 from ⟨_,_,_,_,rfl,c9,f9⟩);simp only [bI] at b11;have Q9:=ł b11;clear hE hG b11 c9 f9 Ud fA gI LQ Ub Uc;obtain ⟨x12,_F⟩:∃ q,q=g11:=⟨_,rfl⟩;subst _F;obtain ⟨ya,hy⟩:∃ q,q=dM:=⟨_,rfl⟩;subst hy;obtain ⟨yb,hy⟩:∃ q,q=dN:=⟨_,rfl⟩;subst hy;obtain ⟨yc,hy⟩:∃ q,q=dV:=⟨_,rfl⟩;subst hy;obtain ⟨yd,hy⟩:∃ q,q=dW:=⟨_,rfl⟩;subst hy;clear Du m11;go_upto_region 8 with fail;have rG:=ł (fun (y:World) (hy:Grow w7 y)=>And.intro (ai AP.out hy) (And.intro (ai Uf.out hy) (Ue.out.later (gtr tF.out hy))));refine wg 108 [some 63,some 64,some 65,some 66,some 67,some 68,some 69,some 70,some 62,some 71,some 72,some 14,none,some 15] [[],[0],[],[1,2],[3],[],[],[4,5,6],[7],[8],[8],[],[11,9],[10]] [3,4] [.c (.pointer (some ⟨w.heap.size,3,none⟩)),.c (.slice ka l.length kc),.c (.int .i64 (K:Int)),.p (fun v y=>∃ a2,v = .slice a2 (l.length - K) (kc - K)∧ax 4 ae.cells y (.slice a2 (l.length - K) (kc - K)) (l.drop K)),.p (fun v y=>∃ a2,v = .agg #[.int .u8 57,.int .i64 0,.string ⟨#[]⟩,.slice a2 (l.length - K) (kc - K)]∧ax 4 ae.cells y (.slice a2 (l.length - K) (kc - K)) (l.drop K)),.c (.agg #[.slice fa f.slots.length fc,.int .i64 f.cells,.int .i64 f.stacks]),.c (.slice pa procs.length pc),.p (fun v y=>∃ a c r d,v = .tuple #[.agg #[.slice a (P2).code.length c,.slice r (P2).refs.length d],.int .i64 0]∧ay y (.agg #[.slice a (P2).code.length c,.slice r (P2).refs.length d]) (P2)),.p (fun v y=>∃ a c r d,v = .tuple #[.agg #[.slice a (P2).code.length c,.slice r (P2).refs.length d],.int .i64 0]∧ay y (.agg #[.slice a (P2).code.length c,.slice r (P2).refs.length d]) (P2)),.p (fun v y=>ay y v (P2)),.c (.int .i64 0),.al 12 9 #[.slice none 0 0,.slice none 0 0] 34,.st 11,.c (.int .i64 0)] ⟨⟨(fun v x y hg h=>by obtain ⟨a,hv,hb⟩:=h;exact ⟨a,hv,hb.later hg⟩),by simp⟩,⟨(fun v x y hg h=>by obtain ⟨a,hv,hb⟩:=h;exact ⟨a,hv,hb.later hg⟩),by simp⟩,⟨(fun v x y hg h=>by obtain ⟨a,c,r,d,hv,hb⟩:=h;exact ⟨a,c,r,d,hv,hb.later hg⟩),fun _=>(fun z hz g v x y hb hm h=>by simp [Kd.zero,Sp.k] at hz;subst hz;obtain ⟨a,c,r,d,hv,hp⟩:=h;exact ⟨a,c,r,d,hv,hp.box hb hm⟩)⟩,⟨(fun v x y hg h=>by obtain ⟨a,c,r,d,hv,hb⟩:=h;exact ⟨a,c,r,d,hv,hb.later hg⟩),fun _=>(fun z hz g v x y hb hm h=>by simp [Kd.zero,Sp.k] at hz;subst hz;obtain ⟨a,c,r,d,hv,hp⟩:=h;exact ⟨a,c,r,d,hv,hp.box hb hm⟩)⟩,sP,trivial⟩ (dJ rfl) ?steps ?done
      case steps =>
       refine ⟨?s0,?s1,?s2,?s3,?s4,?s5,?s6,?s7,?s8,?s9,?s10,?s11,?s12,?s13,trivial⟩
       case s0 | s2 | s6 | s13 =>
        refine oo (fun vs x hP => ?_);simp only [zS];go_simp;exact gc
       case s1 =>
        refine ok rG (fun vs x hG HX hP => ?_);obtain ⟨⟨n0,n1⟩,n2,n3⟩:=aF HX.out.1;simp only [zS];go_simp;exact gc
       case s3 =>
        refine ok rG (fun vs x hG HX hP => ?_);have hkb:=DL.out;have hk0:(0:Int)≤(K:Int):=by omega
        have hk1:(K:Int)≤(kc:Int):=by omega
        have hk2:(K:Int)≤(l.length:Int):=by omega
        simp only [zS];go_simp;exact gk ⟨_,rfl,Yb HX.out.2.2 K DL.out.1 _ (fun h=>by have:=DL.out;rw [if_neg (by omega)])⟩
       case s4 =>
        refine oo (fun vs x hP => ?_);obtain ⟨a3,h3,b3⟩:=pq hP 3;simp only [zS,h3];go_simp;exact gk ⟨a3,rfl,b3⟩
       case s5 =>
        refine ok rG (fun vs x hG HX hP => ?_);obtain ⟨f0,f1,f2⟩:=cK HX.out.2.1;simp only [zS];go_simp;exact gc
       case s7 =>
        refine ok rG (fun vs x hG HX hP => ?_);obtain ⟨a4,h4,b4⟩:=pq hP 4;have HC:=ł (uL.out a4 x (gtr tF.out hG) b4);simp only [zS,h4];go_simp;refine (HC.out).mono ?_;rintro e y ⟨v,rfl,hp,hg⟩;obtain ⟨qa,qc,qr,qd,rfl,hq1,hq2⟩:=hp;exact ⟨_,rfl,aY hg ⟨_,_,_,_,rfl,⟨_,_,_,_,rfl,hq1,hq2⟩⟩⟩
       case s8 =>
        refine oo (fun vs x hP => ?_);obtain ⟨LU,LV,LW,LX,h7,b7⟩:=pq hP 7 (k:=fun h=>by cases (show false=true from h));simp only [zS,h7];go_simp;exact gk ⟨_,_,_,_,rfl,b7⟩
       case s9 =>
        refine oo (fun vs x hP => ?_);obtain ⟨DN,DR,DT,DU,h8,b8⟩:=pq hP 8 (k:=fun h=>by cases (show false=true from h));simp only [zS,h8];go_simp;exact gk b8
       case s10 =>
        refine oo (fun vs x hP => ?_);obtain ⟨DN,DR,DT,DU,h8,b8⟩:=pq hP 8 (k:=fun h=>by cases (show false=true from h));simp only [zS,h8];go_simp;exact gc
       case s11 =>
        refine oz (fun vs x => ?_);simp only [zS];go_simp;exact ⟨rfl,rfl⟩
       case s12 =>
        refine os (fun vs x g hg hb hv => ?_);obtain ⟨dM,dN,dV,dW,h9,c9,f9⟩:=hv;obtain ⟨c0,c1⟩:=aB hb;have zt:=aJ hb;simp only [zS,hg,h9];go_simp;exact set2 hb _ _
      case done =>
      intro vs w8 hE;have hG:=hE.grow;obtain ⟨LU,LV,LW,LX,h7,b7⟩:=hE.val 7;obtain ⟨DN,DR,DT,DU,h8,b8⟩:=hE.val 8;obtain ⟨dM,dN,dV,dW,h9,c9,f9⟩:=hE.val 9;obtain ⟨g11,Dt,Du,m11,b11⟩:=hE.box 11;simp only [zS,h9] at b11;simp only [zS,Nat.reduceAdd,h7,h8,h9,Dt];have mi:=ł (gtr tF.out hG);have Ra:=ł (ai Q7.out hG);have Rb:=ł (Q8.out.later hG);have Rc:=ł (DC.out.later hG);have rM:=ł (show ay w8 (.agg #[.slice dM (P2).code.length dN,.slice dV (P2).refs.length dW]) P2 from ⟨_,_,_,_,rfl,c9,f9⟩);simp only [bI] at b11;have Km:=ł b11;have Jz:=ł (ai Q9.out hG);obtain ⟨k0,k1⟩:=aB Jz.out;obtain ⟨k2,k3⟩:=aB Km.out;have hlk:=lt_of_block Jz.out;have hll:=lt_of_block Km.out;clear hE hG b11 c9 f9 uL rG AP Uf Q7 Q8 DC Q9 Du m11;have rJ:Grow w8 (w8.alloc (.cells #[.slice ya P1.code.length yb,.slice yc P1.refs.length yd,.slice dM P2.code.length dN,.slice dV P2.refs.length dW] 34)):=(Mv.refl _ _).alloc _;have qj:=ł (gtr mi.out rJ);have hps:=qB (vs:=[(.slice ya P1.code.length yb,.slice yc P1.refs.length yd),(.slice dM P2.code.length dN,.slice dV P2.refs.length dW)]) (l:=[P1,P2]) (heap_alloc_new w8 (.cells #[.slice ya P1.code.length yb,.slice yc P1.refs.length yd,.slice dM P2.code.length dN,.slice dV P2.refs.length dW] 34)) rfl ⟨Rc.out.later rJ,rM.out.later rJ,trivial⟩;have nK:=ł (MX _ [P1,P2] _ (zF.out.later qj.out) hps (fun p hp=>by
       simp only [List.mem_cons,List.not_mem_nil,or_false] at hp;rcases hp with rfl | rfl
       · exact HT.out.c1
       · exact HT.out.c2) (fun p hp=>by
       simp only [List.mem_cons,List.not_mem_nil,or_false] at hp;rcases hp with rfl | rfl
       · exact HT.out.o1
       · exact HT.out.o2) HT.out.tc (by have:=HT.out.tr;omega) (by simp))
      have Re:=ł (ai Ra.out rJ);have Rf:=ł (Rb.out.later rJ);simp only [List.length_cons,List.length_nil,Nat.zero_add,Nat.reduceAdd] at nK;rw [← HT.out.j] at nK;clear rJ hps Rc rM Jz Km Ra Rb;go_wp2_with fail;generalize w8.alloc (.cells #[.slice ya P1.code.length yb,.slice yc P1.refs.length yd,.slice dM P2.code.length dN,.slice dV P2.refs.length dW] 34)=w9 at *;refine nK.out.mono ?_;clear k0 k1 k2 k3 hlk hll nK;rintro e uB ⟨v,rfl,hp,hg⟩;obtain ⟨za,zb,zc,zd,rfl,hz1,hz2⟩:=hp;have hga:Grow uB (uB.alloc (.cells #[.slice za P0.code.length zb,.slice zc P0.refs.length zd] 34)):=(Mv.refl _ _).alloc _;have F5:=ł (gtr qj.out (gtr hg hga));have Rh:=ł (heap_alloc_new uB (.cells #[.slice za P0.code.length zb,.slice zc P0.refs.length zd] 34));have GY:=ł (ay.later (show ay uB (.agg #[.slice za P0.code.length zb,.slice zc P0.refs.length zd]) P0 from ⟨_,_,_,_,rfl,hz1,hz2⟩) hga);have Ri:=ł (ai Re.out (gtr hg hga));have Rj:=ł (Rf.out.later (gtr hg hga));have LY:=ł (MX (.slice none 0 0) [] (uB.alloc (.cells #[.slice za P0.code.length zb,.slice zc P0.refs.length zd] 34)) (zF.out.later F5.out) ⟨[],rfl,ax.nil _ _ _,fun i h=>(by simp at h)⟩ (by simp) (by simp) (by decide) (by decide) (by decide));rw [show aK []=cO from rfl] at LY;clear hz1 hz2 hg hga Re Rf;go_wp2_with fail;generalize uB.alloc (.cells #[.slice za P0.code.length zb,.slice zc P0.refs.length zd] 34)=xE at *;generalize uB.heap.size=x16 at *;refine LY.out.mono ?_;clear LY;rintro e xG ⟨v,rfl,hp,hg⟩;obtain ⟨ua,ub,uc,ud,rfl,hz1,hz2⟩:=hp;simp only [cO,List.length_nil] at hz1 hz2 ⊢;have hga:Grow xG (xG.alloc (.cells #[.slice ua 0 ub,.slice uc 0 ud] 34)):=(Mv.refl _ _).alloc _;have _G:=ł (gtr F5.out (gtr hg hga));have Rk:=ł (heap_alloc_new xG (.cells #[.slice ua 0 ub,.slice uc 0 ud] 34));have KU:=ł (ay.later (show ay xG (.agg #[.slice ua 0 ub,.slice uc 0 ud]) cO from ⟨_,_,_,_,rfl,hz1,hz2⟩) hga);have Rl:=ł (ai Ri.out (gtr hg hga));have _H:=ł (Rj.out.later (gtr hg hga));have Qc:=ł (ai Rh.out (gtr hg hga));have _I:=ł (GY.out.later (gtr hg hga));have bG:=ł (EF _ _ P0 P0 (xG.alloc (.cells #[.slice ua 0 ub,.slice uc 0 ud] 34)) _H.out _I.out (by have:=HT.out.r;omega) (by have:=HT.out.r;omega));obtain ⟨k0,k1⟩:=aB Rl.out;obtain ⟨k2,k3⟩:=aB Qc.out;have hlk:=lt_of_block Rl.out;have hll:=lt_of_block Qc.out;clear hz1 hz2 hg hga Ri Rj Rh GY;go_wp2_with fail;refine bG.out.mono ?_;clear k0 k1 k2 k3 hlk hll bG;rintro e F8 ⟨b,rfl,hb,hg⟩;obtain rfl:b=true:=hb.2 trivial;have Cz:=ł (gtr _G.out hg);have HS2:=ł (EF _ _ cO cO F8 (KU.out.later hg) (ay.none _) (by simp [cO]) (by simp [cO]));obtain ⟨k0,k1⟩:=aB (ai Rk.out hg);have hlk:=lt_of_block (ai Rk.out hg);clear hg hb;go_wp2_with fail;refine HS2.out.mono ?_;clear k0 k1 hlk HS2;rintro e Kr ⟨b,rfl,hb,hg⟩;obtain rfl:b=true:=hb.2 trivial;have Ki:=ł (gtr Cz.out hg);clear hg hb;go_wp2_with fail;go_ret;exact ⟨rfl,Ki.out⟩
    · have g1:(E != 0)=true:=by simpa using hE
      clear n0 n1 n2 n3 hl0;go_wp2_with fail;go_ret;exact ⟨rfl,bP.out⟩
  · have g1:(k != 57)=true:=by simpa using hk
    go_wp2_with fail;refine (LJ.out _ aN.out).mono ?_;rintro e w5 ⟨rfl,hg5⟩;have aS:=ł (gtr aN.out hg5);clear hg5;go_wp2_with fail;go_ret;exact ⟨rfl,aS.out⟩
end
section
open Go.ChangeShapes Go.WideShapes Go.RowKit Go.Instr
abbrev zY : List (String × DataW Unit) := [("backstep/isa.table", Rows.laid_backstep_isa_table)]
theorem Tryz.YX : Tryz.prog.globalNamed "backstep/isa.table" = some 0 := by kernel_rfl
theorem Tryz.YY:(Tryz.prog.globals[0]?).map (·.type)=some 116:=by kernel_rfl
theorem Tryz.Yd:Tryz.prog.cellsOf 115=2:=by kernel_rfl
theorem Xj {H:Type} : ∃ l:List (DataW H),Rows.laid_backstep_isa_table = .agg l∧∀ i,i<35→∃ s,l[i]? = some (.agg [.lit (.string s),.lit (.int .i64 (lT.getD i 0))]):=by
 refine ⟨_,rfl,fun i hi => ?_⟩
 match i,hi with
 | 0,_=>exact ⟨_,rfl⟩
 | 1,_=>exact ⟨_,rfl⟩
 | 2,_=>exact ⟨_,rfl⟩
 | 3,_=>exact ⟨_,rfl⟩
 | 4,_=>exact ⟨_,rfl⟩
 | 5,_=>exact ⟨_,rfl⟩
 | 6,_=>exact ⟨_,rfl⟩
 | 7,_=>exact ⟨_,rfl⟩
 | 8,_=>exact ⟨_,rfl⟩
 | 9,_=>exact ⟨_,rfl⟩
 | 10,_=>exact ⟨_,rfl⟩
 | 11,_=>exact ⟨_,rfl⟩
 | 12,_=>exact ⟨_,rfl⟩
 | 13,_=>exact ⟨_,rfl⟩
 | 14,_=>exact ⟨_,rfl⟩
 | 15,_=>exact ⟨_,rfl⟩
 | 16,_=>exact ⟨_,rfl⟩
 | 17,_=>exact ⟨_,rfl⟩
 | 18,_=>exact ⟨_,rfl⟩
 | 19,_=>exact ⟨_,rfl⟩
 | 20,_=>exact ⟨_,rfl⟩
 | 21,_=>exact ⟨_,rfl⟩
 | 22,_=>exact ⟨_,rfl⟩
 | 23,_=>exact ⟨_,rfl⟩
 | 24,_=>exact ⟨_,rfl⟩
 | 25,_=>exact ⟨_,rfl⟩
 | 26,_=>exact ⟨_,rfl⟩
 | 27,_=>exact ⟨_,rfl⟩
 | 28,_=>exact ⟨_,rfl⟩
 | 29,_=>exact ⟨_,rfl⟩
 | 30,_=>exact ⟨_,rfl⟩
 | 31,_=>exact ⟨_,rfl⟩
 | 32,_=>exact ⟨_,rfl⟩
 | 33,_=>exact ⟨_,rfl⟩
 | 34,_=>exact ⟨_,rfl⟩
 | n+35,h=>exact absurd h (by omega)
theorem Vm {W:World} (h:laidMetH Tryz.prog zY W):qM W:=by
 rw [MakeChecks.laidMetH_plain _ _ _ (by kernel_rfl)] at h;obtain ⟨ps,⟨g0,t0,cs0,f0,p0,q0,hg0,ht0,hv0,hd0,_,_⟩,_⟩:=h;obtain rfl:=Option.some.inj (Tryz.YX.symm.trans hg0);obtain rfl:=Option.some.inj (Tryz.YY.symm.trans ht0);obtain ⟨l,hl,LD⟩:=Xj (H:=Unit);rw [hl] at hd0;obtain ⟨xs,m1,rfl,hx1,hlen,Ug,hel⟩:=DataW.trod_array Tryz.underlying116 hd0;simp only [Prod.mk.injEq,DataW.agg.injEq] at hx1;intro k hk;obtain ⟨s,hs⟩:=LD k hk;have Uh:=hel k hk;rw [hx1.1,List.getElem?_map] at hs;cases hxk:xs[k]? with
 | none=>rw [hxk] at hs;simp at hs
 | some x =>
  rw [hxk] at hs Uh;simp only [Option.map_some,Option.some.injEq] at hs;obtain ⟨ys,m2,rfl,hx2,hcl,hyl,hf⟩:=DataW.trod_struct Tryz.underlying115 Uh
  match ys,hyl with
  | [y0,y1],_ =>
   have f1:=hf 1 _ rfl;obtain ⟨n,e1,e2,_⟩:=DataW.trod_int Tryz.underlying3 (show DataW.trod _ _ _ _ _ _ _ _ _=some y1 from f1);rw [hx2] at hs;simp only [List.map_cons,List.map_nil,DataW.agg.injEq,List.cons.injEq,and_true] at hs;have hn:n=lT.getD k 0:=by
    have:=hs.2;rw [e2] at this
    simpa using this
   rw [World.var?_cell hg0 hv0 (k * 2+1)];have c1:Tryz.prog.cellsOf 3=1:=Tryz.Bo;have h3:(cs0.toList.drop (k * 2))[1]? = some (.int .i64 n):=by
    have h4:=congrArg (fun t=>t[0]?) e1;simp only [Tryz.Yd,c1] at h4;simp [List.getElem?_drop,List.getElem?_take] at h4
    simpa [List.getElem?_drop] using h4.2
   rw [List.getElem?_drop] at h3;rw [← hn]
   simpa using h3
theorem Ye (os:Os) (args:Array Value):laidMetH Tryz.prog zY ((World.doorLaid Tryz.prog 400 os).forCall (fun _ _=>0) ⟨#[],args,[]⟩).memory :=
 laidMetH_of_parts3 (fuel:=8) (laidMet_of_run' 8 (by kernel_rfl) (by kernel_rfl)) (by kernel_rfl) (by kernel_rfl)
end
end Go.Proofs.YtnobahchcongnaaGreatDoor
