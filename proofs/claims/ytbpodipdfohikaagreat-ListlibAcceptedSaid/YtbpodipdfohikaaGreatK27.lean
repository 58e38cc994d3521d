import Derived.Test.YtbpodipdfohikaaGreatK26
set_option linter.unusedSimpArgs false
set_option linter.unusedVariables false
set_option maxRecDepth 100000
set_option maxHeartbeats 25600000
namespace Go.Proofs.YtbpodipdfohikaaGreat
open Go.RowKit Go.Instr
set_option maxRecDepth 100000 in
set_option maxHeartbeats 6400000 in
theorem TZ (x:ae) (s:ByteArray) (B:Nat) (k n:Int) (kv:Value) (w:World) (hx:bD w x) (hB:w.heap[B]? = some (.cells #[.int .u8 k,.int .i64 n,.string s,kv] 40 (0,0))) :
 Calls Tryz.prog 108 #[x.val,.pointer (some ⟨B,0,none⟩)] w (eP w (x.t.name == s)):=by
 obtain⟨xk,xn,xs,CJ,xl⟩:=x
 obtain⟨xa,gZ,rfl,-,-⟩:=hx.form
 have aj:=Lib.hid (show Grow w (w.alloc (.cells #[.int .u8 xk,.int .i64 xn,.string xs,.slice xa xl.length gZ] 40))from(Mv.refl _ _).alloc _)
 have HB1:=Lib.hid (heap_alloc_new w (.cells #[.int .u8 xk,.int .i64 xn,.string xs,.slice xa xl.length gZ] 40))
 have HB2:=Lib.hid (bS hB (.cells #[.int .u8 xk,.int .i64 xn,.string xs,.slice xa xl.length gZ] 40))
 have HQ:=Lib.hid (Lu xs s)
 simp only[ae.val,ae.t,Tree.name]
 clear hx hB
 go_enter Tryz.func108,Tryz.ntmps108
 go_upto_region 1 with fail
 generalize (w.alloc (.cells #[.int .u8 xk,.int .i64 xn,.string xs,.slice xa xl.length gZ] 40))=w1 at *
 obtain⟨⟨n0,n1⟩,n2,n3⟩:=az HB1.out
 obtain⟨⟨m0,m1⟩,m2,m3⟩:=az HB2.out
 have hl1:=lt_of_block HB1.out
 have hl2:=lt_of_block HB2.out
 go_wp2_with fail
 go_ret
 exact⟨aV HQ.out,aj.out⟩
set_option maxRecDepth 100000 in
set_option maxHeartbeats 6400000 in
theorem Tu (pv:Value) (l:List ae) (s:ByteArray) (B:Nat) (k n:Int) (kv:Value) (w:World) (hp:ay 4 ae.cells w pv l) (hx:∀ x∈l,bD w x) (hB:w.heap[B]? = some (.cells #[.int .u8 k,.int .i64 n,.string s,kv] 40 (0,0))) :
 Calls Tryz.prog 127 #[pv,.func (.func 108) #[] #[.pointer (some ⟨B,0,none⟩)]] w λe w'=>∃ r:Int,e = .returned (.int .i64 r)/\decide (0<=r)=((ae.ts l).any λm=>m.name == s)/\Grow w w':=by
 obtain⟨pa,pc,rfl,-,hpl⟩:=hp.form
 have HP:=Lib.hid hp
 have HX:=Lib.hid hx
 have HB:=Lib.hid hB
 clear hp hx hB
 go_enter Tryz.func127,Tryz.ntmps127
 go_wp2_with fail
 go_loopw [8] (λt wr=>∃ i:Nat,t = .int .i64 i/\i<=l.length/\Grow w wr/\∀ a (ha:a<l.length),a<i->(l[a].t.name == s)=false) (λt _=>l.length - (intOf t).toNat)
 case atStart=>exact⟨0,rfl,Nat.zero_le _,Mv.refl _ _,λa _ h=>by omega⟩
 obtain⟨i,rfl,hi,hg,hno⟩:=hrel
 have HG:=Lib.hid hg
 have dC:=Lib.hid hno
 clear hg hno
 by_cases hlt:i<l.length
 · obtain⟨b,off,cap',e,_,hcc⟩:=(HP.out.later HG.out).at hlt
   simp only[Value.slice.injEq,true_and]at e
   obtain⟨rfl,rfl⟩:=e
   have hxo:=HX.out l[i] (List.getElem_mem hlt)
   have HC:=Lib.hid (TZ l[i] s B k n kv wr (hxo.later HG.out) (ah HB.out HG.out))
   have HT:=Lib.hid (show(l[i].t.name == s)=true->((ae.ts l).any λm=>m.name == s)=true from λh=>List.any_eq_true.2 ⟨l[i].t,by rw[ae.jv];exact List.mem_map.2 ⟨l[i],List.getElem_mem hlt,rfl⟩,h⟩)
   have gT:=Lib.hid (show(l[i].t.name == s)=false->∀ a (ha:a<l.length),a<i+1->(l[a].t.name == s)=false from λh a ha hai=>by
    rcases Nat.lt_or_ge a i with h1|h1
    · exact dC.out a ha h1
    · obtain rfl:a=i:=by omega
      exact h)
   generalize l[i]=x at HC HT gT hxo hcc
   obtain⟨xk,xn,xs,CJ,xl⟩:=x
   obtain⟨xa,gZ,rfl,-,-⟩:=hxo.form
   simp only[ae.val]at HC
   generalize ((ae.t (.mk xk xn xs (.slice xa xl.length gZ) xl)).name == s)=q at *
   have c0:=hcc 0 _ rfl
   have c1:=hcc 1 _ rfl
   have c2:=hcc 2 _ rfl
   have c3:=hcc 3 _ rfl
   simp only[Nat.add_zero]at c0
   have hbl:b<wr.heap.size:=World.block_lt_of_cell? wr _ c0
   clear hcc hxo dC
   go_wp2_with fail
   refine HC.out.mono ?_
   rintro e w5 ⟨rfl,hg5⟩
   have bG:=Lib.hid (gtr HG.out hg5)
   clear hg5 c0 c1 c2 c3 hbl
   cases q with
   |true =>
    have HRR:=Lib.hid (HT.out rfl)
    go_wp2_with fail
    go_ret
    exact⟨_,rfl,by rw[HRR.out];simp,bG.out⟩
   |false =>
    have ow:=Lib.hid (gT.out rfl)
    go_wp2_with fail
    go_roundw
    case rel=>exact⟨i+1,by go_num,by omega,bG.out,ow.out⟩
    case measure=>simp[intOf];omega
 · obtain rfl:i=l.length:=by omega
   have HRR:=Lib.hid (show((ae.ts l).any λm=>m.name == s)=false from by
    rw[List.any_eq_false]
    intro t ht
    rw[ae.jv]at ht
    obtain⟨x,hx,rfl⟩:=List.mem_map.1 ht
    obtain⟨a,ha,rfl⟩:=List.mem_iff_getElem.1 hx
    rw[dC.out a ha ha];simp)
   go_wp2_with fail
   go_ret
   exact⟨_,rfl,by rw[HRR.out];rfl,HG.out⟩
set_option maxRecDepth 100000 in
set_option maxHeartbeats 6400000 in
theorem TF (pv:Value) (l:List ae) (s:ByteArray) (B:Nat) (k n:Int) (kv:Value) (w:World) (hp:ay 4 ae.cells w pv l) (hx:∀ x∈l,bD w x) (hB:w.heap[B]? = some (.cells #[.int .u8 k,.int .i64 n,.string s,kv] 40 (0,0))) :
 Calls Tryz.prog 107 #[pv,.func (.func 108) #[] #[.pointer (some ⟨B,0,none⟩)]] w (eP w ((ae.ts l).any λm=>m.name == s)):=by
 have HC:=Lib.hid (Tu pv l s B k n kv w hp hx hB)
 obtain⟨pa,pc,rfl,-,hpl⟩:=hp.form
 generalize ((ae.ts l).any λm=>m.name == s)=q at *
 clear hp hx hB
 go_enter Tryz.func107,Tryz.ntmps107
 go_wp2_with fail
 refine HC.out.mono ?_
 rintro e w5 ⟨r,rfl,rfl,hg5⟩
 have bG:=Lib.hid hg5
 clear hg5
 go_wp2_with fail
 go_ret
 exact⟨rfl,bG.out⟩
theorem uQ {w:World} {a:Option Addr} {c:Nat} {l:List ae} (h:ay 4 ae.cells w (.slice a l.length c) l) (h0:0<l.length):∃ b o,a=some ⟨b,o,none⟩ /\
 ∀ y,Grow w y->∀ i (hi:i<l.length),(∀ (j:Nat) (u:Value),(ae.cells l[i])[j]? = some u->y.cell? ⟨b,o+i * 4+j,none⟩=some u):=by
 obtain⟨b,o,c',e,-,-⟩:=h.at h0
 simp only[Value.slice.injEq,true_and]at e
 obtain⟨rfl,rfl⟩:=e
 exact⟨b,o,rfl,λy hy i hi=>(h.later hy).at' hi⟩
theorem sK (w:World) (k n:Int) (s:ByteArray) (a:Option Addr) (m c:Nat):Grow w (w.alloc (.cells #[.int .u8 k,.int .i64 n,.string s,.slice a m c] 40))/\(w.alloc (.cells #[.int .u8 k,.int .i64 n,.string s,.slice a m c] 40)).heap[w.heap.size]? = some (.cells #[.int .u8 k,.int .i64 n,.string s,.slice a m c] 40 (0,0)):=⟨(Mv.refl _ _).alloc _,heap_alloc_new _ _⟩
theorem WV {k:Int} (h:¬ (40<=k/\k<=53)/\k≠56):(k == 56)=false/\(k == 40)=false/\(k == 41)=false/\(k == 42)=false/\(k == 43)=false/\(k == 44)=false/\(k == 45)=false/\(k == 46)=false/\(k == 47)=false/\(k == 48)=false/\(k == 49)=false/\(k == 50)=false/\(k == 51)=false/\(k == 52)=false/\(k == 53)=false:=by
 refine⟨?_,?_,?_,?_,?_,?_,?_,?_,?_,?_,?_,?_,?_,?_,?_⟩ <;> simp <;> omega
set_option maxRecDepth 100000 in
set_option maxHeartbeats 12800000 in
theorem VH (k n:Int) (s:ByteArray) (a:Option Addr) (m c:Nat) (w:World) (h:¬ (40<=k/\k<=53)/\k≠56):Calls Tryz.prog 81 #[.agg #[.int .u8 k,.int .i64 n,.string s,.slice a m c]] w (pR w (⟨#[]⟩,0)):=by
 obtain⟨k0,k1,k2,k3,k4,k5,k6,k7,k8,k9,k10,k11,k12,k13,k14⟩:=WV h
 obtain⟨hg,hb⟩:=sK w k n s a m c
 have HG:=Lib.hid hg
 have HB:=Lib.hid hb
 clear hg hb h
 go_enter Tryz.func81,Tryz.ntmps81
 go_upto_region 1 with fail
 generalize (w.alloc (.cells #[.int .u8 k,.int .i64 n,.string s,.slice a m c] 40))=w1 at *
 obtain⟨⟨n0,n1⟩,n2,n3⟩:=az HB.out
 have hbl:=lt_of_block HB.out
 go_wp2_with fail
 go_ret2
 exact⟨rfl,HG.out⟩
set_option maxRecDepth 100000 in
set_option maxHeartbeats 12800000 in
theorem Yu (n:Int) (s:ByteArray) (a:Option Addr) (c:Nat) (y:ae) (r:List ae) (w:World) (hr:ay 4 ae.cells w (.slice a (y :: r).length c) (y :: r)):Calls Tryz.prog 81 #[.agg #[.int .u8 56,.int .i64 n,.string s,.slice a (y :: r).length c]] w (pR w (y.t.name,9)):=by
 obtain⟨b,o,rfl,hcc⟩:=uQ hr (by simp)
 obtain⟨hg,hb⟩:=sK w 56 n s (some ⟨b,o,none⟩) (y :: r).length c
 have hc:=hcc _ hg 0 (by simp)
 obtain⟨yk,yn,ys,yQ,yl⟩:=y
 have c2:=hc 2 _ rfl
 have HG:=Lib.hid hg
 have HB:=Lib.hid hb
 simp only[ae.t,Tree.name,List.length_cons,Nat.zero_mul,Nat.add_zero]at c2 HG HB ⊢
 clear hg hb hr hcc hc
 go_enter Tryz.func81,Tryz.ntmps81
 go_upto_region 1 with fail
 generalize (w.alloc (.cells #[.int .u8 56,.int .i64 n,.string s,.slice (some ⟨b,o,none⟩) (r.length+1) c] 40))=w1 at *
 have hbb:b<w1.heap.size:=World.block_lt_of_cell? w1 _ c2
 obtain⟨⟨n0,n1⟩,n2,n3⟩:=az HB.out
 have hbl:=lt_of_block HB.out
 go_wp2_with fail
 go_ret2
 exact⟨rfl,HG.out⟩
set_option maxRecDepth 100000 in
set_option maxHeartbeats 12800000 in
theorem Yv (n:Int) (s:ByteArray) (a:Option Addr) (c:Nat) (y:ae) (r:List ae) (w:World) (hr:ay 4 ae.cells w (.slice a (y :: r).length c) (y :: r)) (hy:bD w y):Calls Tryz.prog 81 #[.agg #[.int .u8 53,.int .i64 n,.string s,.slice a (y :: r).length c]] w (pR w (⟨#[]⟩,if(lS y.t).isSome then 10 else 0)):=by
 obtain⟨b,o,rfl,hcc⟩:=uQ hr (by simp)
 obtain⟨hg,hb⟩:=sK w 53 n s (some ⟨b,o,none⟩) (y :: r).length c
 have hc:=hcc _ hg 0 (by simp)
 have HC:=Lib.hid (Gf y _ (hy.later hg))
 obtain⟨yk,yn,ys,yQ,yl⟩:=y
 obtain⟨ya,yc,rfl,-,-⟩:=hy.form
 have c0:=hc 0 _ rfl
 have c1:=hc 1 _ rfl
 have c2:=hc 2 _ rfl
 have c3:=hc 3 _ rfl
 have HG:=Lib.hid hg
 have HB:=Lib.hid hb
 generalize (lS (ae.t (.mk yk yn ys (.slice ya yl.length yc) yl))).isSome=q at *
 obtain⟨E,hE⟩:∃ E:Int,E=if q then 10 else 0:=⟨_,rfl⟩
 rw[← hE]
 have HE:=Lib.hid hE
 clear hE
 simp only[ae.val,List.length_cons,Nat.zero_mul,Nat.add_zero]at c0 c1 c2 c3 HG HB HC ⊢
 clear hg hb hr hcc hc hy
 go_enter Tryz.func81,Tryz.ntmps81
 go_upto_region 1 with fail
 generalize (w.alloc (.cells #[.int .u8 53,.int .i64 n,.string s,.slice (some ⟨b,o,none⟩) (r.length+1) c] 40))=w1 at *
 have hbb:b<w1.heap.size:=World.block_lt_of_cell? w1 _ c2
 obtain⟨⟨n0,n1⟩,n2,n3⟩:=az HB.out
 have hbl:=lt_of_block HB.out
 go_wp2_with fail
 refine HC.out.mono ?_
 rintro e w2 ⟨rfl,hg2⟩
 have HG2:=Lib.hid (gtr HG.out hg2)
 clear hg2
 cases q with
 |true =>
  go_wp2_with fail
  go_ret2
  rw[HE.out]
  exact⟨rfl,HG2.out⟩
 |false =>
  go_wp2_with fail
  go_ret2
  rw[HE.out]
  exact⟨rfl,HG2.out⟩
set_option maxRecDepth 100000 in
set_option maxHeartbeats 12800000 in
theorem Yw (n:Int) (s:ByteArray) (a:Option Addr) (c:Nat) (y z1 z2 z:ae) (r:List ae) (w:World) (hr:ay 4 ae.cells w (.slice a (y :: z1 :: z2 :: z :: r).length c) (y :: z1 :: z2 :: z :: r)) (hy:bD w y) (hz:bD w z):Calls Tryz.prog 81 #[.agg #[.int .u8 52,.int .i64 n,.string s,.slice a (y :: z1 :: z2 :: z :: r).length c]] w (pR w (⟨#[]⟩,if(lS z.t).isSome && !(lS y.t).isSome then 10 else 0)):=by
 obtain⟨b,o,rfl,hcc⟩:=uQ hr (by simp)
 obtain⟨hg,hb⟩:=sK w 52 n s (some ⟨b,o,none⟩) (y :: z1 :: z2 :: z :: r).length c
 have fq:=Lib.hid hcc
 have HC:=Lib.hid (λx (hx:Grow w x)=>Gf y x (hy.later hx))
 have HD:=Lib.hid (Gf z _ (hz.later hg))
 obtain⟨yk,yn,ys,yQ,yl⟩:=y
 obtain⟨ya,yc,rfl,-,-⟩:=hy.form
 obtain⟨zk,zn,zs,Q7,zl⟩:=z
 obtain⟨za,zc,rfl,-,-⟩:=hz.form
 have hc:=hcc _ hg 3 (by simp)
 have d0:=hc 0 _ rfl
 have d1:=hc 1 _ rfl
 have d2:=hc 2 _ rfl
 have d3:=hc 3 _ rfl
 have HG:=Lib.hid hg
 have HB:=Lib.hid hb
 generalize (lS (ae.t (.mk yk yn ys (.slice ya yl.length yc) yl))).isSome=q at *
 generalize (lS (ae.t (.mk zk zn zs (.slice za zl.length zc) zl))).isSome=p at *
 obtain⟨E,hE⟩:∃ E:Int,E=if p && !q then 10 else 0:=⟨_,rfl⟩
 rw[← hE]
 have HE:=Lib.hid hE
 clear hE
 have HY:=Lib.hid (λx (hx:Grow w x)=>And.intro (fq.out x hx 0 (by simp) 0 _ rfl) (And.intro (fq.out x hx 0 (by simp) 1 _ rfl) (And.intro (fq.out x hx 0 (by simp) 2 _ rfl) (fq.out x hx 0 (by simp) 3 _ rfl))))
 simp only[ae.val,List.length_cons,Nat.zero_mul,Nat.add_zero,Nat.reduceMul]at d0 d1 d2 d3 HG HB HC HD HY ⊢
 clear hg hb hr hcc hc hy hz fq
 go_enter Tryz.func81,Tryz.ntmps81
 go_upto_region 1 with fail
 generalize (w.alloc (.cells #[.int .u8 52,.int .i64 n,.string s,.slice (some ⟨b,o,none⟩) (r.length+1+1+1+1) c] 40))=w1 at *
 have hbb:b<w1.heap.size:=World.block_lt_of_cell? w1 _ d2
 obtain⟨⟨n0,n1⟩,n2,n3⟩:=az HB.out
 have hbl:=lt_of_block HB.out
 go_wp2_with fail
 refine HD.out.mono ?_
 rintro e w2 ⟨rfl,hg2⟩
 have HG2:=Lib.hid (gtr HG.out hg2)
 have HB2:=Lib.hid (ah HB.out hg2)
 clear hg2 hbb n0 n1 n2 n3 hbl d0 d1 d2 d3
 cases p with
 |false =>
  go_wp2_with fail
  go_ret2
  rw[HE.out]
  exact⟨rfl,HG2.out⟩
 |true =>
  obtain⟨d0,d1,d2,d3⟩:=HY.out w2 HG2.out
  have hbb:b<w2.heap.size:=World.block_lt_of_cell? w2 _ d2
  obtain⟨⟨n0,n1⟩,n2,n3⟩:=az HB2.out
  have hbl:=lt_of_block HB2.out
  have mq:=Lib.hid (HC.out w2 HG2.out)
  go_wp2_with fail
  refine mq.out.mono ?_
  rintro e w3 ⟨rfl,hg3⟩
  have aA:=Lib.hid (gtr HG2.out hg3)
  clear hg3
  cases q with
  |true =>
   go_wp2_with fail
   go_ret2
   rw[HE.out]
   exact⟨rfl,aA.out⟩
  |false =>
   go_wp2_with fail
   go_ret2
   rw[HE.out]
   exact⟨rfl,aA.out⟩
set_option maxRecDepth 100000 in
set_option maxHeartbeats 12800000 in
theorem Yx (k n:Int) (s:ByteArray) (a:Option Addr) (c:Nat) (y z:ae) (r:List ae) (w:World) (hk:k=40\/k=41\/k=42) (hr:ay 4 ae.cells w (.slice a (y :: z :: r).length c) (y :: z :: r)) (hy:bD w y) (hz:bD w z) (hys:bL y.t<=900000) (hyk:y.t.kind=3->y.t.kids≠[]) (hzs:bL z.t<=900000):Calls Tryz.prog 81 #[.agg #[.int .u8 k,.int .i64 n,.string s,.slice a (y :: z :: r).length c]] w (pR w (lg 8 (if ig y.t.name y.t || tN y.t.name z.t then some y.t.name else none))):=by
 obtain⟨b,o,rfl,hcc⟩:=uQ hr (by simp)
 obtain⟨hg,hb⟩:=sK w k n s (some ⟨b,o,none⟩) (y :: z :: r).length c
 have fq:=Lib.hid hcc
 have HC:=Lib.hid (KM y y.t.name _ (hy.later hg) hys hyk)
 have HD:=Lib.hid (λx (hx:Grow w x)=>KE z y.t.name x (hz.later hx) hzs)
 obtain⟨yk,yn,ys,yQ,yl⟩:=y
 obtain⟨ya,yc,rfl,-,-⟩:=hy.form
 obtain⟨zk,zn,zs,Q7,zl⟩:=z
 obtain⟨za,zc,rfl,-,-⟩:=hz.form
 have hc:=hcc _ hg 0 (by simp)
 have d0:=hc 0 _ rfl
 have d1:=hc 1 _ rfl
 have d2:=hc 2 _ rfl
 have d3:=hc 3 _ rfl
 have HG:=Lib.hid hg
 have HB:=Lib.hid hb
 have Q8:=show(ae.t (.mk yk yn ys (.slice ya yl.length yc) yl)).name=ys from rfl
 rw[Q8]at HC HD ⊢
 generalize ig ys (ae.t (.mk yk yn ys (.slice ya yl.length yc) yl))=p at *
 generalize tN ys (ae.t (.mk zk zn zs (.slice za zl.length zc) zl))=q at *
 obtain⟨E,hE⟩:∃ E,E=lg 8 (if p || q then some ys else none):=⟨_,rfl⟩
 rw[← hE]
 have HE:=Lib.hid hE
 clear hE Q8
 have HY:=Lib.hid (λx (hx:Grow w x)=>And.intro (fq.out x hx 1 (by simp) 0 _ rfl) (And.intro (fq.out x hx 1 (by simp) 1 _ rfl) (And.intro (fq.out x hx 1 (by simp) 2 _ rfl) (fq.out x hx 1 (by simp) 3 _ rfl))))
 simp only[ae.val,List.length_cons,Nat.zero_mul,Nat.add_zero,Nat.one_mul]at d0 d1 d2 d3 HG HB HC HD HY ⊢
 clear hg hb hr hcc hc hy hz fq hys hyk hzs
 rcases hk with rfl|rfl|rfl
 all_goals
  go_enter Tryz.func81,Tryz.ntmps81
  go_upto_region 1 with fail
  generalize (w.alloc (.cells #[.int .u8 _,.int .i64 n,.string s,.slice (some ⟨b,o,none⟩) (r.length+1+1) c] 40))=w1 at *
  have hbb:b<w1.heap.size:=World.block_lt_of_cell? w1 _ d2
  obtain⟨⟨n0,n1⟩,n2,n3⟩:=az HB.out
  have hbl:=lt_of_block HB.out
  go_wp2_with fail
  refine HC.out.mono ?_
  rintro e w2 ⟨rfl,hg2⟩
  have HG2:=Lib.hid (gtr HG.out hg2)
  have HB2:=Lib.hid (ah HB.out hg2)
  clear hg2 hbb n0 n1 n2 n3 hbl d0 d1 d2 d3
  cases p with
  |true =>
   go_wp2_with fail
   go_ret2
   rw[HE.out]
   exact⟨rfl,HG2.out⟩
  |false =>
   obtain⟨d0,d1,d2,d3⟩:=HY.out w2 HG2.out
   have hbb:b<w2.heap.size:=World.block_lt_of_cell? w2 _ d2
   obtain⟨⟨n0,n1⟩,n2,n3⟩:=az HB2.out
   have hbl:=lt_of_block HB2.out
   have mq:=Lib.hid (HD.out w2 HG2.out)
   go_wp2_with fail
   refine mq.out.mono ?_
   rintro e w3 ⟨rfl,hg3⟩
   have aA:=Lib.hid (gtr HG2.out hg3)
   clear hg3
   cases q with
   |true =>
    go_wp2_with fail
    go_ret2
    rw[HE.out]
    exact⟨rfl,aA.out⟩
   |false =>
    go_wp2_with fail
    go_ret2
    rw[HE.out]
    exact⟨rfl,aA.out⟩
def xL (w:World) (x:ae):Prop:=bD w x/\bL x.t<=900000/\(x.t.kind=3->x.t.kids≠[])
theorem xL.later {w w':World} {x:ae} (h:xL w x) (hg:Grow w w'):xL w' x:=⟨h.1.later hg,h.2⟩
theorem Ho {w:World} {b:Nat} (cs:Array Value) (l:List ByteArray) (hb:w.heap[b]? = some (.cells cs 9 (0,0))) (hc:cs.toList=flat Am l) (hl:l.length<=9223372036854775807):ay 1 Am w (.slice (some ⟨b,0,none⟩) l.length l.length) l :=
 ay.dF (λ_=>rfl) hb hc hl
set_option maxRecDepth 100000 in
set_option maxHeartbeats 12800000 in
theorem Yy (k n:Int) (s:ByteArray) (a:Option Addr) (c:Nat) (y:ae) (r:List ae) (w:World) (hk:k=44\/k=45) (hr:ay 4 ae.cells w (.slice a (y :: r).length c) (y :: r)) (hx:∀ x∈y :: r,xL w x):Calls Tryz.prog 81 #[.agg #[.int .u8 k,.int .i64 n,.string s,.slice a (y :: r).length c]] w (pR w (lg 8 (kW (ae.ts (y :: r)) [y.t.name,s]))):=by
 obtain⟨b,o,rfl,hcc⟩:=uQ hr (by simp)
 obtain⟨hg,hb⟩:=sK w k n s (some ⟨b,o,none⟩) (y :: r).length c
 have fq:=Lib.hid hcc
 have HA:=(λnv x (hx':Grow w x) (hn:ay 1 Am x nv [y.t.name,s])=>GJ _ nv _ [y.t.name,s] x (hr.later hx') hn (λm hm=>(hx m hm).later hx'))
 obtain⟨⟨E1,E2⟩,hE⟩:∃ E:ByteArray × Int,E=lg 8 (kW (ae.ts (y :: r)) [y.t.name,s]):=⟨_,rfl⟩
 rw[← hE]at HA ⊢
 clear hE
 obtain⟨yk,yn,ys,yQ,yl⟩:=y
 obtain⟨ya,yc,rfl,-,-⟩:=(hx _ (List.mem_cons_self ..)).1.form
 rw[show(ae.t (.mk yk yn ys (.slice ya yl.length yc) yl)).name=ys from rfl]at HA
 have wE:=Lib.hid HA
 have HG:=Lib.hid hg
 have HB:=Lib.hid hb
 have HY:=Lib.hid (λx (hx:Grow w x)=>fq.out x hx 0 (by simp) 2 _ rfl)
 simp only[ae.val,List.length_cons,Nat.zero_mul,Nat.add_zero,Nat.one_mul]at HG HB wE HY ⊢
 clear hg hb hr hcc hx fq HA
 obtain⟨w1,hw1⟩:∃ w1,w1=w.alloc (.cells #[.int .u8 k,.int .i64 n,.string s,.slice (some ⟨b,o,none⟩) (r.length+1) c] 40):=⟨_,rfl⟩
 rw[← hw1]at HG HB
 rcases hk with rfl|rfl
 all_goals
  go_enter Tryz.func81,Tryz.ntmps81
  go_upto_region 1 with fail
  rw[← hw1]
  clear hw1
  obtain⟨⟨n0,n1⟩,n2,n3⟩:=az HB.out
  have hbl:=lt_of_block HB.out
  go_upto_region 15 with fail
  clear n0 n1 n2 n3 hbl
  have HK:=Lib.hid (λ(x:World) (hx:Grow w1 x)=>And.intro (ah HB.out hx) (And.intro (HY.out x (gtr HG.out hx)) (gtr HG.out hx)))
  refine wg 136 [some 65,some 66,some 67,some 68,some 69,some 70,some 71,some 72,some 73,some 74,some 75,some 76,some 77,some 2,some 3] [[],[0],[],[2],[3],[4],[5],[],[7],[6,8],[1,9],[10],[10],[11],[12]] [] [.c (.pointer (some ⟨w.heap.size,3,none⟩)),.c (.slice (some ⟨b,o,none⟩) (r.length+1) c),.c (.pointer (some ⟨w.heap.size,3,none⟩)),.c (.slice (some ⟨b,o,none⟩) (r.length+1) c),.c (.pointer (some ⟨b,o,none⟩)),.c (.pointer (some ⟨b,o+2,none⟩)),.c (.string ys),.c (.pointer (some ⟨w.heap.size,2,none⟩)),.c (.string s),.p (λv y=>∃ g,v = .slice (some ⟨g,0,none⟩) 2 2/\y.heap[g]? = some (.cells #[.string ys,.string s] 9 (0,0))),.c (.tuple #[.string E1,.int .i64 E2]),.c (.string E1),.c (.int .i64 E2),.c (.string E1),.c (.int .i64 E2)] ⟨⟨(λv x y hg h=>by obtain⟨g,hv,hb⟩:=h;exact⟨g,hv,ah hb hg⟩),λ_=>bg⟩,trivial⟩ (dm rfl) ?steps ?done
  case steps =>
   refine⟨?s0,?s1,?s2,?s3,?s4,?s5,?s6,?s7,?s8,?s9,?s10,?s11,?s12,?s13,?s14,trivial⟩
   case s0 =>
    refine oo (λvs x hP => ?_)
    simp only[zS]
    go_simp
    exact gc
   case s1 =>
    refine ok HK (λvs x hG HX hP => ?_)
    obtain⟨⟨n0,n1⟩,n2,n3⟩:=az HX.out.1
    have hbl:=lt_of_block HX.out.1
    simp only[zS]
    go_simp
    exact gc
   case s2 =>
    refine oo (λvs x hP => ?_)
    simp only[zS]
    go_simp
    exact gc
   case s3 =>
    refine ok HK (λvs x hG HX hP => ?_)
    obtain⟨⟨n0,n1⟩,n2,n3⟩:=az HX.out.1
    have hbl:=lt_of_block HX.out.1
    simp only[zS]
    go_simp
    exact gc
   case s4 =>
    refine oo (λvs x hP => ?_)
    simp only[zS]
    go_simp
    exact gc
   case s5 =>
    refine oo (λvs x hP => ?_)
    simp only[zS]
    go_simp
    exact gc
   case s6 =>
    refine ok HK (λvs x hG HX hP => ?_)
    have d2:=HX.out.2.1
    have hfl:=World.block_lt_of_cell? x _ d2
    simp only at hfl
    simp only[zS]
    go_simp
    exact gc
   case s7 =>
    refine oo (λvs x hP => ?_)
    simp only[zS]
    go_simp
    exact gc
   case s8 =>
    refine ok HK (λvs x hG HX hP => ?_)
    obtain⟨⟨n0,n1⟩,n2,n3⟩:=az HX.out.1
    have hbl:=lt_of_block HX.out.1
    simp only[zS]
    go_simp
    exact gc
   case s9 =>
    refine oo (λvs x hP => ?_)
    simp only[zS]
    go_simp
    exact gl ⟨_,rfl,heap_alloc_new x _⟩
   case s10 =>
    refine ok HK (λvs x hG HX hP => ?_)
    have p9:=pq hP 9
    obtain⟨g9,h9,b9⟩:=p9
    have HC:=wE.out _ x HX.out.2.2 (Ho _ [ys,s] b9 rfl (by simp))
    simp only[zS,h9]
    go_simp
    refine(HC).mono ?_
    rintro e y ⟨rfl,hg⟩
    exact⟨_,rfl,gq hg rfl⟩
   case s11 =>
    refine oo (λvs x hP => ?_)
    simp only[zS]
    go_simp
    exact gc
   case s12 =>
    refine oo (λvs x hP => ?_)
    simp only[zS]
    go_simp
    exact gc
   case s13 =>
    refine oo (λvs x hP => ?_)
    simp only[zS]
    go_simp
    exact gc
   case s14 =>
    refine oo (λvs x hP => ?_)
    simp only[zS]
    go_simp
    exact gc
  case done =>
  intro vs wx hE
  have hG:=hE.grow
  have p9:=hE.val 9
  obtain⟨g9,h9,b9⟩:=p9
  have aO:=Lib.hid (gtr HG.out hG)
  have gu:=Lib.hid hG
  clear hE hG
  simp only[zS,Nat.reduceAdd,h9]
  go_wp2_with fail
  go_ret2
  exact⟨rfl,aO.out⟩
set_option maxRecDepth 100000 in
set_option maxHeartbeats 12800000 in
theorem Yz (k n:Int) (s:ByteArray) (a:Option Addr) (c:Nat) (y:ae) (r:List ae) (w:World) (hk:k=46\/k=47\/k=48\/k=49) (hr:ay 4 ae.cells w (.slice a (y :: r).length c) (y :: r)) (hx:∀ x∈y :: r,xL w x):Calls Tryz.prog 81 #[.agg #[.int .u8 k,.int .i64 n,.string s,.slice a (y :: r).length c]] w (pR w (lg 8 (kW (ae.ts (y :: r)) [y.t.name]))):=by
 obtain⟨b,o,rfl,hcc⟩:=uQ hr (by simp)
 obtain⟨hg,hb⟩:=sK w k n s (some ⟨b,o,none⟩) (y :: r).length c
 have fq:=Lib.hid hcc
 have HA:=(λnv x (hx':Grow w x) (hn:ay 1 Am x nv [y.t.name])=>GJ _ nv _ [y.t.name] x (hr.later hx') hn (λm hm=>(hx m hm).later hx'))
 obtain⟨⟨E1,E2⟩,hE⟩:∃ E:ByteArray × Int,E=lg 8 (kW (ae.ts (y :: r)) [y.t.name]):=⟨_,rfl⟩
 rw[← hE]at HA ⊢
 clear hE
 obtain⟨yk,yn,ys,yQ,yl⟩:=y
 obtain⟨ya,yc,rfl,-,-⟩:=(hx _ (List.mem_cons_self ..)).1.form
 rw[show(ae.t (.mk yk yn ys (.slice ya yl.length yc) yl)).name=ys from rfl]at HA
 have wE:=Lib.hid HA
 have HG:=Lib.hid hg
 have HB:=Lib.hid hb
 have HY:=Lib.hid (λx (hx:Grow w x)=>fq.out x hx 0 (by simp) 2 _ rfl)
 simp only[ae.val,List.length_cons,Nat.zero_mul,Nat.add_zero,Nat.one_mul]at HG HB wE HY ⊢
 clear hg hb hr hcc hx fq HA
 obtain⟨w1,hw1⟩:∃ w1,w1=w.alloc (.cells #[.int .u8 k,.int .i64 n,.string s,.slice (some ⟨b,o,none⟩) (r.length+1) c] 40):=⟨_,rfl⟩
 rw[← hw1]at HG HB
 rcases hk with rfl|rfl|rfl|rfl
 all_goals
  go_enter Tryz.func81,Tryz.ntmps81
  go_upto_region 1 with fail
  rw[← hw1]
  clear hw1
  obtain⟨⟨n0,n1⟩,n2,n3⟩:=az HB.out
  have hbl:=lt_of_block HB.out
  go_upto_region 20 with fail
  clear n0 n1 n2 n3 hbl
  have HK:=Lib.hid (λ(x:World) (hx:Grow w1 x)=>And.intro (ah HB.out hx) (And.intro (HY.out x (gtr HG.out hx)) (gtr HG.out hx)))
  refine wg 136 [some 83,some 84,some 85,some 86,some 87,some 88,some 89,some 90,some 91,some 92,some 93,some 2,some 3] [[],[0],[],[2],[3],[4],[5],[6],[1,7],[8],[8],[9],[10]] [] [.c (.pointer (some ⟨w.heap.size,3,none⟩)),.c (.slice (some ⟨b,o,none⟩) (r.length+1) c),.c (.pointer (some ⟨w.heap.size,3,none⟩)),.c (.slice (some ⟨b,o,none⟩) (r.length+1) c),.c (.pointer (some ⟨b,o,none⟩)),.c (.pointer (some ⟨b,o+2,none⟩)),.c (.string ys),.p (λv y=>∃ g,v = .slice (some ⟨g,0,none⟩) 1 1/\y.heap[g]? = some (.cells #[.string ys] 9 (0,0))),.c (.tuple #[.string E1,.int .i64 E2]),.c (.string E1),.c (.int .i64 E2),.c (.string E1),.c (.int .i64 E2)] ⟨⟨(λv x y hg h=>by obtain⟨g,hv,hb⟩:=h;exact⟨g,hv,ah hb hg⟩),λ_=>bg⟩,trivial⟩ (dm rfl) ?steps ?done
  case steps =>
   refine⟨?s0,?s1,?s2,?s3,?s4,?s5,?s6,?s7,?s8,?s9,?s10,?s11,?s12,trivial⟩
   case s0 =>
    refine oo (λvs x hP => ?_)
    simp only[zS]
    go_simp
    exact gc
   case s1 =>
    refine ok HK (λvs x hG HX hP => ?_)
    obtain⟨⟨n0,n1⟩,n2,n3⟩:=az HX.out.1
    have hbl:=lt_of_block HX.out.1
    simp only[zS]
    go_simp
    exact gc
   case s2 =>
    refine oo (λvs x hP => ?_)
    simp only[zS]
    go_simp
    exact gc
   case s3 =>
    refine ok HK (λvs x hG HX hP => ?_)
    obtain⟨⟨n0,n1⟩,n2,n3⟩:=az HX.out.1
    have hbl:=lt_of_block HX.out.1
    simp only[zS]
    go_simp
    exact gc
   case s4 =>
    refine oo (λvs x hP => ?_)
    simp only[zS]
    go_simp
    exact gc
   case s5 =>
    refine oo (λvs x hP => ?_)
    simp only[zS]
    go_simp
    exact gc
   case s6 =>
    refine ok HK (λvs x hG HX hP => ?_)
    have d2:=HX.out.2.1
    have hfl:=World.block_lt_of_cell? x _ d2
    simp only at hfl
    simp only[zS]
    go_simp
    exact gc
   case s7 =>
    refine oo (λvs x hP => ?_)
    simp only[zS]
    go_simp
    exact gl ⟨_,rfl,heap_alloc_new x _⟩
   case s8 =>
    refine ok HK (λvs x hG HX hP => ?_)
    have p7:=pq hP 7
    obtain⟨g7,h7,b7⟩:=p7
    have HC:=wE.out _ x HX.out.2.2 (Ho _ [ys] b7 rfl (by simp))
    simp only[zS,h7]
    go_simp
    refine(HC).mono ?_
    rintro e y ⟨rfl,hg⟩
    exact⟨_,rfl,gq hg rfl⟩
   case s9 =>
    refine oo (λvs x hP => ?_)
    simp only[zS]
    go_simp
    exact gc
   case s10 =>
    refine oo (λvs x hP => ?_)
    simp only[zS]
    go_simp
    exact gc
   case s11 =>
    refine oo (λvs x hP => ?_)
    simp only[zS]
    go_simp
    exact gc
   case s12 =>
    refine oo (λvs x hP => ?_)
    simp only[zS]
    go_simp
    exact gc
  case done =>
  intro vs wx hE
  have hG:=hE.grow
  have p7:=hE.val 7
  obtain⟨g7,h7,b7⟩:=p7
  have aO:=Lib.hid (gtr HG.out hG)
  have gu:=Lib.hid hG
  clear hE hG
  simp only[zS,Nat.reduceAdd,h7]
  go_wp2_with fail
  go_ret2
  exact⟨rfl,aO.out⟩
set_option maxRecDepth 100000 in
set_option maxHeartbeats 12800000 in
theorem YA (n:Int) (s:ByteArray) (a:Option Addr) (c:Nat) (y z:ae) (r:List ae) (w:World) (hr:ay 4 ae.cells w (.slice a (y :: z :: r).length c) (y :: z :: r)) (hx:∀ x∈y :: z :: r,xL w x):Calls Tryz.prog 81 #[.agg #[.int .u8 43,.int .i64 n,.string s,.slice a (y :: z :: r).length c]] w (pR w (lg 8 (kW (ae.ts (y :: z :: r)) [y.t.name,z.t.name]))):=by
 obtain⟨b,o,rfl,hcc⟩:=uQ hr (by simp)
 obtain⟨hg,hb⟩:=sK w 43 n s (some ⟨b,o,none⟩) (y :: z :: r).length c
 have fq:=Lib.hid hcc
 have HA:=(λnv x (hx':Grow w x) (hn:ay 1 Am x nv [y.t.name,z.t.name])=>GJ _ nv _ [y.t.name,z.t.name] x (hr.later hx') hn (λm hm=>(hx m hm).later hx'))
 obtain⟨⟨E1,E2⟩,hE⟩:∃ E:ByteArray × Int,E=lg 8 (kW (ae.ts (y :: z :: r)) [y.t.name,z.t.name]):=⟨_,rfl⟩
 rw[← hE]at HA ⊢
 clear hE
 obtain⟨yk,yn,ys,yQ,yl⟩:=y
 obtain⟨ya,yc,rfl,-,-⟩:=(hx _ (List.mem_cons_self ..)).1.form
 obtain⟨zk,zn,zs,Q7,zl⟩:=z
 obtain⟨za,zc,rfl,-,-⟩:=(hx _ (List.mem_cons_of_mem _ (List.mem_cons_self ..))).1.form
 rw[show(ae.t (.mk yk yn ys (.slice ya yl.length yc) yl)).name=ys from rfl,show(ae.t (.mk zk zn zs (.slice za zl.length zc) zl)).name=zs from rfl]at HA
 have wE:=Lib.hid HA
 have HG:=Lib.hid hg
 have HB:=Lib.hid hb
 have HY:=Lib.hid (λx (hx:Grow w x)=>And.intro (fq.out x hx 0 (by simp) 0 _ rfl) (And.intro (fq.out x hx 0 (by simp) 1 _ rfl) (And.intro (fq.out x hx 0 (by simp) 2 _ rfl) (fq.out x hx 0 (by simp) 3 _ rfl))))
 have HZ:=Lib.hid (λx (hx:Grow w x)=>And.intro (fq.out x hx 1 (by simp) 0 _ rfl) (And.intro (fq.out x hx 1 (by simp) 1 _ rfl) (And.intro (fq.out x hx 1 (by simp) 2 _ rfl) (fq.out x hx 1 (by simp) 3 _ rfl))))
 clear hr hcc hx fq HA
 simp only[ae.val,List.length_cons,Nat.zero_mul,Nat.add_zero,Nat.one_mul]at HG HB wE HY HZ ⊢
 clear hg hb
 go_enter Tryz.func81,Tryz.ntmps81
 go_upto_region 1 with fail
 generalize (w.alloc (.cells #[.int .u8 43,.int .i64 n,.string s,.slice (some ⟨b,o,none⟩) (r.length+1+1) c] 40))=w1 at *
 obtain⟨⟨n0,n1⟩,n2,n3⟩:=az HB.out
 have hbl:=lt_of_block HB.out
 go_upto_region 11 with fail
 clear n0 n1 n2 n3 hbl
 have HK:=Lib.hid (λ(x:World) (hx:Grow w1 x)=>And.intro (ah HB.out hx) (And.intro (HY.out x (gtr HG.out hx)) (HZ.out x (gtr HG.out hx))))
 refine wg 136 [some 44,some 45,some 46,some 47,some 48,some 49,some 50,some 51,some 5,some 6,none,none] [[],[0],[1],[2],[],[4],[5],[6],[],[],[8,3],[9,7]] [] [.c (.pointer (some ⟨w.heap.size,3,none⟩)),.c (.slice (some ⟨b,o,none⟩) (r.length+1+1) c),.c (.pointer (some ⟨b,o,none⟩)),.c (.agg #[.int .u8 yk,.int .i64 yn,.string ys,.slice ya yl.length yc]),.c (.pointer (some ⟨w.heap.size,3,none⟩)),.c (.slice (some ⟨b,o,none⟩) (r.length+1+1) c),.c (.pointer (some ⟨b,o+4,none⟩)),.c (.agg #[.int .u8 zk,.int .i64 zn,.string zs,.slice za zl.length zc]),.al 10 3 #[.int .u8 0,.int .i64 0,.string ⟨#[]⟩,.slice none 0 0] 40,.al 11 7 #[.int .u8 0,.int .i64 0,.string ⟨#[]⟩,.slice none 0 0] 40,.st 8,.st 9] trivial (dm rfl) ?steps ?done
 case steps =>
  refine⟨?s0,?s1,?s2,?s3,?s4,?s5,?s6,?s7,?s8,?s9,?s10,?s11,trivial⟩
  case s0 =>
   refine oo (λvs x hP => ?_)
   simp only[zS]
   go_simp
   exact gc
  case s1 =>
   refine ok HK (λvs x hG HX hP => ?_)
   obtain⟨⟨n0,n1⟩,n2,n3⟩:=az HX.out.1
   have hbl:=lt_of_block HX.out.1
   simp only[zS]
   go_simp
   exact gc
  case s2 =>
   refine ok HK (λvs x hG HX hP => ?_)
   have hi0:(0:Int)<(r.length:Int)+1+1:=by omega
   simp only[zS]
   go_simp
   exact gc
  case s3 =>
   refine ok HK (λvs x hG HX hP => ?_)
   obtain⟨d0,d1,d2,d3⟩:=HX.out.2.1
   have hfl:=World.block_lt_of_cell? x _ d2
   simp only at hfl
   simp only[zS]
   go_simp
   exact gc
  case s4 =>
   refine oo (λvs x hP => ?_)
   simp only[zS]
   go_simp
   exact gc
  case s5 =>
   refine ok HK (λvs x hG HX hP => ?_)
   obtain⟨⟨n0,n1⟩,n2,n3⟩:=az HX.out.1
   have hbl:=lt_of_block HX.out.1
   simp only[zS]
   go_simp
   exact gc
  case s6 =>
   refine ok HK (λvs x hG HX hP => ?_)
   have hi1:(1:Int)<(r.length:Int)+1+1:=by omega
   simp only[zS]
   go_simp
   exact gc
  case s7 =>
   refine ok HK (λvs x hG HX hP => ?_)
   obtain⟨d0,d1,d2,d3⟩:=HX.out.2.2
   have hfl:=World.block_lt_of_cell? x _ d2
   simp only at hfl
   simp only[zS]
   go_simp
   exact gc
  case s8 =>
   refine oz (λvs x => ?_)
   simp only[zS]
   go_simp
   exact⟨rfl,rfl⟩
  case s9 =>
   refine oz (λvs x => ?_)
   simp only[zS]
   go_simp
   exact⟨rfl,rfl⟩
  case s10 =>
   refine os (λvs x g hg hb hv => ?_)
   have h3:vs 3 = .agg #[.int .u8 yk,.int .i64 yn,.string ys,.slice ya yl.length yc]:=hv
   obtain⟨c0,c1,c2,c3⟩:=fV hb
   have zt:=bB hb
   simp only[zS,hg,h3]
   go_simp
   exact⟨(dH hb _ _ _ _).1,(dH hb _ _ _ _).2⟩
  case s11 =>
   refine os (λvs x g hg hb hv => ?_)
   have h7:vs 7 = .agg #[.int .u8 zk,.int .i64 zn,.string zs,.slice za zl.length zc]:=hv
   obtain⟨c0,c1,c2,c3⟩:=fV hb
   have zt:=bB hb
   simp only[zS,hg,h7]
   go_simp
   exact⟨(dH hb _ _ _ _).1,(dH hb _ _ _ _).2⟩
 case done =>
 intro vs wx hE
 have hG:=hE.grow
 obtain⟨g8,a8,l8,m8,b8⟩:=hE.box 8
 obtain⟨g9,a9,l9,m9,b9⟩:=hE.box 9
 have aO:=Lib.hid (gtr HG.out hG)
 have dZ:=Lib.hid (ah HB.out hG)
 have Q9:=Lib.hid b8
 have iT:=Lib.hid b9
 clear hE hG b8 b9
 simp only[zS,Nat.reduceAdd,a8,a9]
 obtain⟨⟨n0,n1⟩,n2,n3⟩:=az dZ.out
 have hbl:=lt_of_block dZ.out
 obtain⟨⟨d0,d1⟩,d2,d3⟩:=az Q9.out
 have acp:=lt_of_block Q9.out
 obtain⟨⟨e0,e1⟩,e2,e3⟩:=az iT.out
 have acr:=lt_of_block iT.out
 have ku:=Lib.hid (aO.out.alloc (.cells #[.string ys,.string zs] 9))
 have HC:=Lib.hid (wE.out _ _ ku.out (Ho _ [ys,zs] (heap_alloc_new wx (.cells #[.string ys,.string zs] 9)) rfl (by simp)))
 go_wp2_with fail
 refine HC.out.mono ?_
 rintro e w3 ⟨rfl,hg3⟩
 have aA:=Lib.hid (gtr ku.out hg3)
 clear hg3
 go_wp2_with fail
 go_ret2
 exact⟨rfl,aA.out⟩
end Go.Proofs.YtbpodipdfohikaaGreat
