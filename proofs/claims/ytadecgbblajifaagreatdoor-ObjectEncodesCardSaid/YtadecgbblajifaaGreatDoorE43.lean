import Derived.Test.YtadecgbblajifaaGreatDoorE42
set_option linter.unusedSimpArgs false
set_option linter.unusedVariables false
set_option maxRecDepth 100000
set_option maxHeartbeats 25600000
namespace Go.Proofs.YtadecgbblajifaaGreatDoor
open Go.RowKit Go.Instr
attribute [local go_sem ↓] qH
def acz (w:World) (v:Value) (l:List Int) (n:Nat) (e:Ending) (w':World):Prop:=(pI n l=none/\e = .returned (.tuple #[.int .i64 0,.slice none 0 0,.bool false])/\Grow w w')\/∃ x r a c,pI n l=some (x,r)/\e = .returned (.tuple #[.int .i64 x,.slice a r.length c,.bool true])/\aB 1 aL w' (.slice a r.length c) r/\Grow w w'/\qm (.slice a r.length c) v
set_option maxRecDepth 100000 in
set_option maxHeartbeats 6400000 in
theorem I4 (v:Value) (l:List Int) (n:Nat) (w:World) (h:aB 1 aL w v l) (hB:dW l):Calls Tryz.prog 89 #[v,.int .i64 n] w (acz w v l n):=by
 obtain⟨a,cap,rfl,hcap,Fs⟩:=h.form
 by_cases hn:l.length<n
 · have hn':(l.length:Int)<(n:Int):=by omega
   have HP:=Lib.hid (show pI n l=none from by unfold pI;rw[if_pos hn])
   clear h
   go_enter Tryz.func89,Tryz.ntmps89
   go_wp2_with fail
   first|go_ret3|skip
   exact .inl ⟨HP.out,rfl,Mv.refl _ _⟩
 · have hn':¬ (l.length:Int)<(n:Int):=by omega
   have hnl:(n:Int)<=(l.length:Nat):=by omega
   have hnc:n<=cap:=by omega
   have HP:=Lib.hid (show pI n l=some (gp (l.take n),l.drop n)from by unfold pI;rw[if_neg hn])
   have HR:=Lib.hid h
   have HN:=Lib.hid hn
   have HT:=Lib.hid (OA h n (by omega) a (λ_=>rfl))
   have uN:=Lib.hid (show(l.take n).length=n from by simp;omega)
   have qF:=Lib.hid (show dW (l.take n)from λc hc=>hB c (List.mem_of_mem_take hc))
   generalize hout:l.take n=out at *
   clear h hn
   go_enter Tryz.func89,Tryz.ntmps89
   go_wp2_with fail
   go_loopw [7,18] (λnv t wr=>∃ k:Nat,t = .int .i64 k/\k<=n/\nv = .int .i64 (gp (out.take k))/\wr=w) (λ_ t _=>n - (intOf t).toNat)
   case atStart=>exact⟨0,rfl,Nat.zero_le _,rfl,rfl⟩
   obtain⟨k,rfl,hk,rfl,rfl⟩:=hrel
   by_cases hlt:k<n
   · have hkk:(k:Int)<(n:Nat):=by omega
     have hko:k<out.length:=by rw[uN.out];exact hlt
     have HT2:=HT.out
     rw[show aB 1 aL wr (.slice a n cap) out=aB 1 aL wr (.slice a out.length cap) out from by rw[uN.out]]at HT2
     obtain⟨b,off,cap',e,_,hcc⟩:=HT2.at hko
     simp only[Value.slice.injEq,true_and]at e
     obtain⟨rfl,rfl⟩:=e
     have c0:=hcc 0 _ rfl
     simp only[Nat.add_zero,Nat.mul_one]at c0
     have hbl:=World.block_lt_of_cell? _ _ c0
     have hby:=qF.out out[k] (List.getElem_mem _)
     have HST:=Lib.hid (show gp (out.take (k+1))=lY (gp (out.take k)) out[k]from by
      unfold gp
      rw[List.take_succ_eq_append_getElem hko,List.foldl_append];rfl)
     have adH:=Dy (out.take k)
     generalize gp (out.take k)=N at *
     generalize out[k]=c at *
     have MC:=Lib.hid (λ(y:Int) h1 h2=>Qq y c h1 h2 hby.1 hby.2)
     clear HT2 hko hcc
     go_wp2_with fail
     refine⟨⟨k+1,by go_num,by omega,?_,trivial⟩,by simp[intOf];omega⟩
     have hw:wrap64 (N * 256)=(N * 256+9223372036854775808) % 18446744073709551616 - 9223372036854775808:=by unfold wrap64;rfl
     have hs:lY N c=(N * 256+c+9223372036854775808) % 18446744073709551616 - 9223372036854775808:=rfl
     rw[MC.out _ (by omega) (by omega),HST.out,hs,hw]
     congr 1
     omega
   · obtain rfl:k=n:=by omega
     have hlt':¬ ((k:Int)<(k:Nat)):=by omega
     have jM:=Lib.hid (show out.take k=out from by rw[List.take_of_length_le];rw[uN.out];exact Nat.le_refl _)
     rw[jM.out]
     clear HT qF
     by_cases hck:cap=k
     · have hkl:l.length=k:=by omega
       have HD:=Lib.hid (NQ HR.out k (by omega) a (cap - k) (by omega) (λh=>by omega))
       have hz1:cap - k=0:=by omega
       have hz2:l.length - k=0:=by omega
       subst hck
       have Wz:=Lib.hid (show(l.drop cap).length=0 from by rw[List.length_drop];omega)
       rw[hkl]at *
       rw[Nat.sub_self]at HD
       clear hz1 hz2 hkl
       go_wp2_with fail
       go_region
       go_wp2_with fail
       first|go_ret3|skip
       have HD2:=HD.out
       exact .inr ⟨_,_,a,0,HP.out,by rw[Wz.out];rfl,by rw[Wz.out];exact HD2.later (Mv.refl _ _).drew,(Mv.refl _ _).drew,Iy⟩
     · have HD:=Lib.hid (OB HR.out k (by omega) (a.map (·.add k)) (λ_=>by rw[Nat.mul_one]))
       go_wp2_with fail
       go_region
       go_wp2_with fail
       first|go_ret3|skip
       have HD2:=HD.out
       exact .inr ⟨_,_,a.map (·.add k),cap - k,HP.out,by rw[List.length_drop];rfl,by rw[List.length_drop];exact HD2.later (Mv.refl _ _).drew,(Mv.refl _ _).drew,Pt⟩
theorem aaU (xs:List Int) (x:Int) (h:xs.length<4):(#[.int .i64 (xs.getD 0 0),.int .i64 (xs.getD 1 0),.int .i64 (xs.getD 2 0),.int .i64 (xs.getD 3 0)]:Array Value).setIfInBounds xs.length (.int .i64 x)=#[.int .i64 ((xs ++ [x]).getD 0 0),.int .i64 ((xs ++ [x]).getD 1 0),.int .i64 ((xs ++ [x]).getD 2 0),.int .i64 ((xs ++ [x]).getD 3 0)]:=by
 match xs,h with
 | [],_=>rfl
 | [_],_=>rfl
 | [_,_],_=>rfl
 | [_,_,_],_=>rfl
 |_ :: _ :: _ :: _ :: _,h=>simp at h;omega
theorem aaV {a b c d:Int} (u:Int) (o:Nat) (h:∀ (j:Nat) (x:Value),(aL u)[j]? = some x->(#[.int .i64 a,.int .i64 b,.int .i64 c,.int .i64 d]:Array Value)[o+j]? = some x):False:=by
 have h0:=h 0 _ rfl
 rcases o with _|_|_|_|o <;> simp at h0
def adK (w:World) (v:Value) (l:List Int) (e:Ending) (w':World):Prop:=(gK l=none/\∃ E,E≠0/\e = .returned (.tuple #[.agg #[.int .u8 0,.int .i64 0,.int .i64 0,.int .i64 0,.int .i64 0],.slice none 0 0,.int .i64 E])/\Grow w w')\/∃ i r a c,gK l=some (i,r)/\e = .returned (.tuple #[i.val,.slice a r.length c,.int .i64 0])/\aB 1 aL w' (.slice a r.length c) r/\Grow w w'/\qm (.slice a r.length c) v
theorem yz {α β:Type} {p:Pa α} {f:α->Pa β} {b:List Int} (h:p b=none):iX p f b=none:=by unfold iX;rw[h]
theorem yA {α β:Type} {p:Pa α} {f:α->Pa β} {b r:List Int} {x:α} (h:p b=some (x,r)):iX p f b=f x r:=by unfold iX;rw[h]
theorem QC (c:Int) (cs:List Int):pX (c :: cs)=iX (pI (iJ c)) λx=>iX (pX cs) λxs=>oJ (x :: xs):=rfl
theorem aaW {cs b:List Int} {c:Int} {f:List Int × List Int->List Int × List Int} {R:Option (List Int × List Int)} (h:R=(pX (c :: cs) b).map f) (hn:pI (iJ c) b=none):R=none:=by
 rw[h,QC,yz hn];rfl
theorem aaX {cs b r xs:List Int} {c x:Int} {R:Option (List Int × List Int)} (h:R=(pX (c :: cs) b).map λq=>(xs ++ q.1,q.2)) (hn:pI (iJ c) b=some (x,r)):R=(pX cs r).map λq=>((xs ++ [x]) ++ q.1,q.2):=by
 rw[h,QC,yA hn]
 cases hq:pX cs r with
 |none=>rw[yz hq];rfl
 |some q=>rw[yA (x:=q.1) (r:=q.2) (by rw[hq])];simp[oJ]
set_option maxRecDepth 100000 in
set_option maxHeartbeats 12800000 in
theorem YD (v:Value) (l:List Int) (w:World) (h:aB 1 aL w v l) (hB:dW l) (ht:cZ w):Calls Tryz.prog 90 #[v] w (adK w v l):=by
 obtain⟨va,vc,rfl,-,-⟩:=h.form
 have hg1:Grow w (w.alloc (.cells #[.int .u8 0,.int .i64 0,.int .i64 0,.int .i64 0,.int .i64 0] 69)):=(Mv.refl _ _).alloc _
 have HB1:=Lib.hid (heap_alloc_new w (.cells #[.int .u8 0,.int .i64 0,.int .i64 0,.int .i64 0,.int .i64 0] 69))
 have jM:=Lib.hid (I4 _ l 1 _ (h.later hg1) hB)
 have aP:=Lib.hid hg1
 have HRW:=Lib.hid h
 have HT:=Lib.hid ht
 have qF:=Lib.hid hB
 have MP:=Lib.hid (show gK l=iX (pI 1) (λop=>if op<35 then iX (pX (lZ op)) λxs=>zQ (sV op xs)else λ_=>none) l from rfl)
 have xG:=Lib.hid (Nat.le_refl w.heap.size)
 clear h hB ht hg1
 go_enter Tryz.func90,Tryz.ntmps90
 go_wp2_with fail
 refine jM.out.mono ?_
 generalize (w.alloc (.cells #[.int .u8 0,.int .i64 0,.int .i64 0,.int .i64 0,.int .i64 0] 69))=w1 at *
 generalize hao:w.heap.size=AO at *
 have xG:=Lib.hid (show w.heap.size<=AO from by omega)
 clear hao jM
 rintro e w2 (⟨hno,rfl,hg⟩|⟨x,r,a,c,hso,rfl,hr,hg,hsv⟩)
 · have jA:=Lib.hid (show gK l=none from by rw[MP.out,yz hno])
   have HG2:=Lib.hid (jJ aP.out hg)
   have HB2:=Lib.hid (aJ HB1.out hg)
   clear hno hg HB1 aP
   have HS:=Lib.hid (y5 HB2.out (.int .u8 0) (.int .i64 0) (.int .i64 0) (.int .i64 0) (.int .i64 0))
   have zr:=gN HB2.out
   have hlr:=lt_of_block HB2.out
   obtain⟨⟨c0,c1⟩,c2,c3,c4⟩:=j4 HB2.out
   go_wp2_with fail
   clear c0 c1 c2 c3 c4
   obtain⟨⟨t0,t1⟩,t2,t3,t4⟩:=j4 HS.out.1
   exact bodyPost_ret (v := .tuple #[.agg #[.int .u8 0,.int .i64 0,.int .i64 0,.int .i64 0,.int .i64 0],.slice none 0 0,.int .i64 4]) (by simp[results,Tryz.results90,go_sem,t0,t1,t2,t3,t4]) rfl (.inl ⟨jA.out,4,by decide,rfl,HG2.out.trans HS.out.2 (λb e => .inr (by have:=xG.out;omega))⟩)
 have G8:=Lib.hid (show gK l=_ from by rw[MP.out,yA hso])
 have hx:=Bj 1 (by decide) _ _ _ qF.out hso
 have uH:=Lib.hid (AA qF.out hx.1)
 have hx0:=hx.2.1
 have hx1:x<256:=hx.2.2
 have HR2:=Lib.hid hr
 have xH:=Lib.hid hsv
 have MQ:=Lib.hid (show ∀ g,(Value.slice va l.length vc).ownBlock=some g->g<w.heap.size from λg e=>by
  have hl:0<l.length:=by
   have:=hso
   unfold pI at this
   split at this
   · cases this
   · omega
  obtain⟨b,off,cap,e2,_,hcc⟩:=HRW.out.at hl
  rw[e2]at e
  simp only[Value.ownBlock,Option.some.injEq]at e
  subst e
  exact World.block_lt_of_cell? w _ (hcc 0 _ rfl))
 have HG2:=Lib.hid (jJ aP.out hg)
 have HB2:=Lib.hid (aJ HB1.out hg)
 clear hso hg hr hx HB1 aP MP hsv HRW
 by_cases lD:x<35
 case neg =>
  have jA:=Lib.hid (show gK l=none from by rw[G8.out,if_neg lD])
  have hge:(35:Int)<=x:=by omega
  clear lD G8
  have HS:=Lib.hid (y5 HB2.out (.int .u8 0) (.int .i64 0) (.int .i64 0) (.int .i64 0) (.int .i64 0))
  have zr:=gN HB2.out
  have hlr:=lt_of_block HB2.out
  obtain⟨⟨c0,c1⟩,c2,c3,c4⟩:=j4 HB2.out
  go_wp2_with fail
  clear c0 c1 c2 c3 c4
  obtain⟨⟨t0,t1⟩,t2,t3,t4⟩:=j4 HS.out.1
  exact bodyPost_ret (v := .tuple #[.agg #[.int .u8 0,.int .i64 0,.int .i64 0,.int .i64 0,.int .i64 0],.slice none 0 0,.int .i64 3]) (by simp[results,Tryz.results90,go_sem,t0,t1,t2,t3,t4]) rfl (.inl ⟨jA.out,3,by decide,rfl,HG2.out.trans HS.out.2 (λb e => .inr (by have:=xG.out;omega))⟩)
 have hge:¬ (35:Int)<=x:=by omega
 have G9:=Lib.hid (show gK l=_ from by rw[G8.out,if_pos lD])
 obtain⟨o,rfl⟩:∃ o:Nat,x=o:=⟨x.toNat,by omega⟩
 have ho:o<35:=by omega
 have qA:=Lib.hid (λz=>Ny o z ho)
 have hcl:=Jg (op:=(o:Int)) (by omega) lD
 have hce:lZ (o:Int)=cK (ug.getD o ⟨#[]⟩):=by simp[lZ]
 rw[hce]at G9 hcl
 have MB:=Lib.hid (show(ug.getD o ⟨#[]⟩).size<=4 from by rw[← qJ];exact hcl.2)
 generalize ug.getD o ⟨#[]⟩=cs at *
 have WA:=Lib.hid (λ(i:Ins) (z:World) (hz:Grow w z) (h1:i.op=o)=>Io i z (HT.out.later hz) (by omega) (by omega))
 have hom:(o:Int) % 256=o:=by omega
 have ag6:decide ((35:Int)<=o)=false:=by simpa using hge
 clear hcl hce lD G8 hx0 hx1
 have cu:=Lib.hid (jJ HG2.out (show Grow w2 (w2.alloc (.cells #[.int .i64 0,.int .i64 0,.int .i64 0,.int .i64 0] 98))from(Mv.refl _ _).alloc _))
 have GZ:=Lib.hid (heap_alloc_new w2 (.cells #[.int .i64 0,.int .i64 0,.int .i64 0,.int .i64 0] 98))
 have HB3:=Lib.hid (aJ HB2.out (show Grow w2 (w2.alloc (.cells #[.int .i64 0,.int .i64 0,.int .i64 0,.int .i64 0] 98))from(Mv.refl _ _).alloc _))
 have HR3:=Lib.hid (HR2.out.later (show Grow w2 (w2.alloc (.cells #[.int .i64 0,.int .i64 0,.int .i64 0,.int .i64 0] 98))from(Mv.refl _ _).alloc _))
 have WB:=Lib.hid (show w.heap.size<=w2.heap.size from HG2.out.size)
 have LX:=Lib.hid (show AO≠w2.heap.size from by have:=lt_of_block HB2.out;omega)
 go_upto_region 7 with fail
 generalize (w2.alloc (.cells #[.int .i64 0,.int .i64 0,.int .i64 0,.int .i64 0] 98))=w3 at *
 generalize w2.heap.size=AX at *
 clear HB2 HR2 HG2
 go_wp2_with fail
 refine(qA.out _).mono ?_
 rintro e w4 ⟨rfl,rfl⟩
 clear qA
 go_wp2_with fail
 go_loopw [0,6,28] (λbv okv t wr=>∃ (j:Nat) (xs rest:List Int) (qa:Option Addr) (qc:Nat),t = .int .i64 j/\j<=cs.size/\okv = .bool true/\bv = .slice qa rest.length qc/\xs.length=j/\aB 1 aL wr (.slice qa rest.length qc) rest/\dW rest/\wr.heap[AX]? = some (.cells #[.int .i64 (xs.getD 0 0),.int .i64 (xs.getD 1 0),.int .i64 (xs.getD 2 0),.int .i64 (xs.getD 3 0)] 98 (0,0))/\pX (cK cs) r=(pX ((cK cs).drop j) rest).map (λq=>(xs ++ q.1,q.2))/\Mv (λb=>b=AX) w3 wr/\qm (.slice qa rest.length qc) (.slice va l.length vc)) (λ_ _ t _=>cs.size - (intOf t).toNat)
 case atStart=>exact⟨0,[],r,a,c,rfl,Nat.zero_le _,rfl,rfl,rfl,HR3.out,uH.out,GZ.out,by rw[List.drop_zero];cases pX (cK cs) r <;> rfl,Mv.refl _ _,xH.out⟩
 obtain⟨j,xs,rest,qa,qc,rfl,hj,rfl,rfl,hxl,hrow,hby,hbx,hpx,hmv,hsv⟩:=hrel
 have qG:=Lib.hid hsv
 have nG:=Lib.hid hrow
 have uT:=Lib.hid hby
 have uU:=Lib.hid hbx
 have mh:=Lib.hid hpx
 have oP:=Lib.hid hmv
 have MR:=Lib.hid hxl
 have zW:=Lib.hid ((hmv.block _ (lt_of_block HB3.out) (λe=>LX.out e)).trans HB3.out)
 have CY:=Lib.hid (cu.out.trans hmv (λb e => .inr (by have:=WB.out;omega)))
 have hc4:=MB.out
 clear hrow hby hbx hpx hmv hxl hsv HR3 uH GZ HB3 cu
 by_cases hjs:j<cs.size
 · have hjk:(j:Int)<(cs.size:Nat):=by omega
   have BZ:(cK cs)[j]'(by rw[qJ];exact hjs)=(cs[j].toNat:Int):=by simp[cK];rfl
   have HDR:=Lib.hid (show(cK cs).drop j=(cs[j].toNat:Int) :: (cK cs).drop (j+1)from by rw[← BZ,← List.drop_eq_getElem_cons])
   rw[HDR.out]at mh
   have nA:=Lib.hid (Ox (cs[j].toNat:Int))
   have WC:=Lib.hid (λ(z:World) (hz:Grow wr z)=>I4 _ rest (iJ (cs[j].toNat:Int)) z (nG.out.later hz) uT.out)
   have GU:=Lib.hid (show j<4 from by omega)
   have CJ:=Lib.hid hjs
   clear BZ HDR
   go_wp2_with fail
   refine(nA.out _).mono ?_
   rintro e w5 ⟨rfl,rfl⟩
   clear nA
   go_wp2_with fail
   refine(WC.out _ (Mv.refl _ _)).mono ?_
   clear WC
   have iY:=GU.out
   have ag7:(j:Int)<4:=by omega
   rintro e w6 (⟨hno,rfl,hg⟩|⟨y,r2,a2,c2,hso,rfl,hr2,hg,hsv⟩)
   · have jA:=Lib.hid (show gK l=none from by rw[G9.out,yz (aaW mh.out hno)])
     have oW:=Lib.hid (aJ uU.out hg)
     have CZ:=Lib.hid (aJ zW.out hg)
     have jh:=Lib.hid (jJ CY.out hg)
     have zX:=Lib.hid ((Mv.refl (λb=>b=AX) w6).setCell (p:=⟨AX,j,none⟩) (.inl rfl) (.int .i64 0))
     have Ha:=Lib.hid ((zX.out.block _ (lt_of_block CZ.out) (λe=>LX.out e)).trans CZ.out)
     have HG7:=Lib.hid (jh.out.trans zX.out (λb e => .inr (by have:=WB.out;omega)))
     have cx:=Ea oW.out iY
     have zx:=gN oW.out
     have hlx:=lt_of_block oW.out
     clear hno hg uU zW CY nG uT mh oP
     go_upto_region 12 with fail
     generalize (w6.setCell ⟨AX,j,none⟩ (.int .i64 0))=w7 at *
     clear cx zx hlx oW CZ jh zX
     have HS:=Lib.hid (y5 Ha.out (.int .u8 0) (.int .i64 0) (.int .i64 0) (.int .i64 0) (.int .i64 0))
     have zr:=gN Ha.out
     have hlr:=lt_of_block Ha.out
     obtain⟨⟨c0,c1⟩,c2,c3,c4⟩:=j4 Ha.out
     go_wp2_with fail
     clear c0 c1 c2 c3 c4
     obtain⟨⟨t0,t1⟩,t2,t3,t4⟩:=j4 HS.out.1
     exact bodyPost_ret (v := .tuple #[.agg #[.int .u8 0,.int .i64 0,.int .i64 0,.int .i64 0,.int .i64 0],.slice none 0 0,.int .i64 4]) (by simp[results,Tryz.results90,go_sem,t0,t1,t2,t3,t4]) rfl (.inl ⟨jA.out,4,by decide,rfl,HG7.out.trans HS.out.2 (λb e => .inr (by have:=xG.out;omega))⟩)
   · have oW:=Lib.hid (aJ uU.out hg)
     have CZ:=Lib.hid (aJ zW.out hg)
     have zX:=Lib.hid ((Mv.refl (λb=>b=AX) w6).setCell (p:=⟨AX,j,none⟩) (.inl rfl) (.int .i64 y))
     have HY7:=Lib.hid (show(w6.setCell ⟨AX,j,none⟩ (.int .i64 y)).heap[AX]? = some (.cells #[.int .i64 ((xs ++ [y]).getD 0 0),.int .i64 ((xs ++ [y]).getD 1 0),.int .i64 ((xs ++ [y]).getD 2 0),.int .i64 ((xs ++ [y]).getD 3 0)] 98 (0,0))from by
      have h1:=block_setCell (p:=⟨AX,j,none⟩) oW.out rfl (.int .i64 y)
      have h2:=aaU xs y (by rw[MR.out];exact iY)
      rw[MR.out]at h2
      simp only at h1
      rw[h2]at h1
      exact h1)
     have CO:=Lib.hid (xV hr2 (λu o e=>aaV u o e) oW.out zX.out)
     have zT:=Lib.hid ((oP.out.trans hg (λ_ e=>e.elim)).trans zX.out (λ_ e => .inl e))
     have MS:=Lib.hid (show dW r2 from by
      have:=hso
      unfold pI at this
      split at this
      · cases this
      · simp only[Option.some.injEq,Prod.mk.injEq]at this
        rw[← this.2]
        exact λc hc=>uT.out c (List.mem_of_mem_drop hc))
     have HP7:=Lib.hid (aaX mh.out hso)
     have Hd:=Lib.hid (hsv.trans qG.out)
     have HL7:=Lib.hid (show(xs ++ [y]).length=j+1 from by rw[List.length_append,MR.out];rfl)
     have cx:=Ea oW.out iY
     have zx:=gN oW.out
     have hlx:=lt_of_block oW.out
     clear hso hg hr2 hsv uU zW CY nG uT mh oP oW CZ
     go_wp2_with fail
     go_roundw
     case rel=>exact⟨j+1,(xs ++ [y]:List Int),r2,a2,c2,by go_num,by omega,rfl,rfl,HL7.out,CO.out,MS.out,HY7.out,HP7.out,zT.out,Hd.out⟩
     case measure=>(simp[intOf] <;> omega)
 · obtain rfl:j=cs.size:=by omega
   have hjk:¬ ((cs.size:Int)<(cs.size:Nat)):=by omega
   have C8:=Lib.hid (show gK l=zQ (sV o xs) rest from by
    rw[G9.out,yA (x:=xs) (r:=rest)]
    rw[mh.out,List.drop_of_length_le (by rw[qJ];exact Nat.le_refl _)]
    show(some (([]:List Int),rest)).map _=_
    simp)
   clear G9 mh oP
   generalize hi:sV o xs=i at *
   obtain⟨io,ia,ib,ic,id⟩:=i
   simp only[sV,Ins.mk.injEq]at hi
   obtain⟨rfl,h1,h2,h3,h4⟩:=hi
   rw[h1,h2,h3,h4]at uU
   obtain⟨⟨x0,x1⟩,x2,x3⟩:=fE uU.out
   have hlx:=lt_of_block uU.out
   have MU:=Lib.hid (jJ CY.out (show Grow wr (wr.alloc (.cells #[.int .u8 o,.int .i64 ia,.int .i64 ib,.int .i64 ic,.int .i64 id] 69))from(Mv.refl _ _).alloc _))
   have He:=Lib.hid (heap_alloc_new wr (.cells #[.int .u8 o,.int .i64 ia,.int .i64 ib,.int .i64 ic,.int .i64 id] 69))
   have WE:=Lib.hid (aJ zW.out (show Grow wr (wr.alloc (.cells #[.int .u8 o,.int .i64 ia,.int .i64 ib,.int .i64 ic,.int .i64 id] 69))from(Mv.refl _ _).alloc _))
   have WG:=Lib.hid (nG.out.later (show Grow wr (wr.alloc (.cells #[.int .u8 o,.int .i64 ia,.int .i64 ib,.int .i64 ic,.int .i64 id] 69))from(Mv.refl _ _).alloc _))
   clear h1 h2 h3 h4
   go_upto_region 16 with fail
   generalize (wr.alloc (.cells #[.int .u8 o,.int .i64 ia,.int .i64 ib,.int .i64 ic,.int .i64 id] 69))=w8 at *
   generalize wr.heap.size=AI at *
   clear x0 x1 x2 x3 hlx uU zW CY nG
   obtain⟨⟨i0,i1⟩,i2,i3,i4⟩:=j4 He.out
   have xI:=lt_of_block He.out
   have HC:=Lib.hid (WA.out ⟨o,ia,ib,ic,id⟩ w8 MU.out rfl)
   go_wp2_with fail
   refine HC.out.mono ?_
   rintro e w9 ⟨rfl,hg⟩
   have WH:=Lib.hid (jJ MU.out hg)
   have WI:=Lib.hid (aJ He.out hg)
   have uV:=Lib.hid (aJ WE.out hg)
   have HR9:=Lib.hid (WG.out.later hg)
   clear hg HC WA i0 i1 i2 i3 i4 xI He WE WG MU
   by_cases hv:Ins.gF ⟨o,ia,ib,ic,id⟩=true
   · have xJ:=Lib.hid (show gK l=some (⟨o,ia,ib,ic,id⟩,rest)from by rw[C8.out];unfold zQ;rw[if_pos hv])
     rw[hv]
     obtain⟨⟨i0,i1⟩,i2,i3,i4⟩:=j4 WI.out
     have xI:=lt_of_block WI.out
     have HS:=Lib.hid (y5 uV.out (.int .u8 o) (.int .i64 ia) (.int .i64 ib) (.int .i64 ic) (.int .i64 id))
     have HRZ:=Lib.hid (HR9.out.stay HS.out.2 (λq hq e=>by have h1:=MQ.out q (qG.out q hq);have h2:=xG.out;omega))
     have zr:=gN uV.out
     have hlr:=lt_of_block uV.out
     obtain⟨⟨c0,c1⟩,c2,c3,c4⟩:=j4 uV.out
     go_wp2_with fail
     clear c0 c1 c2 c3 c4 i0 i1 i2 i3 i4
     obtain⟨⟨t0,t1⟩,t2,t3,t4⟩:=j4 HS.out.1
     exact bodyPost_ret (v := .tuple #[.agg #[.int .u8 o,.int .i64 ia,.int .i64 ib,.int .i64 ic,.int .i64 id],.slice qa rest.length qc,.int .i64 0]) (by simp[results,Tryz.results90,go_sem,t0,t1,t2,t3,t4]) rfl (.inr ⟨_,rest,qa,qc,xJ.out,rfl,HRZ.out,WH.out.trans HS.out.2 (λb e => .inr (by have:=xG.out;omega)),qG.out⟩)
   · have jA:=Lib.hid (show gK l=none from by rw[C8.out];unfold zQ;rw[if_neg hv])
     have uG:Ins.gF ⟨o,ia,ib,ic,id⟩=false:=by simpa using hv
     rw[uG]
     clear hv uG
     have HS:=Lib.hid (y5 uV.out (.int .u8 0) (.int .i64 0) (.int .i64 0) (.int .i64 0) (.int .i64 0))
     have zr:=gN uV.out
     have hlr:=lt_of_block uV.out
     obtain⟨⟨c0,c1⟩,c2,c3,c4⟩:=j4 uV.out
     go_wp2_with fail
     clear c0 c1 c2 c3 c4
     obtain⟨⟨t0,t1⟩,t2,t3,t4⟩:=j4 HS.out.1
     exact bodyPost_ret (v := .tuple #[.agg #[.int .u8 0,.int .i64 0,.int .i64 0,.int .i64 0,.int .i64 0],.slice none 0 0,.int .i64 3]) (by simp[results,Tryz.results90,go_sem,t0,t1,t2,t3,t4]) rfl (.inl ⟨jA.out,3,by decide,rfl,WH.out.trans HS.out.2 (λb e => .inr (by have:=xG.out;omega))⟩)
def y9 (w:World) (l:List Int) (e:Ending) (w':World):Prop:=(ql l=none/\∃ E,E≠0/\e = .returned (.tuple #[.slice none 0 0,.int .i64 E])/\Grow w w')\/∃ is a c,ql l=some is/\e = .returned (.tuple #[.slice a is.length c,.int .i64 0])/\aB 5 Ins.cells w' (.slice a is.length c) is/\Grow w w'
theorem aaY {α:Type} {p:Pa α} {b:List Int} {k:Nat} {f:List α × List Int->List α × List Int} {R:Option (List α × List Int)} (h:R=(pN p (k+1) b).map f) (hn:p b=none):R=none:=by
 rw[h,show pN p (k+1)=iX p λx=>iX (pN p k) λl=>oJ (x :: l)from rfl,yz hn];rfl
theorem aaZ {α:Type} {p:Pa α} {b r:List Int} {xs:List α} {x:α} {k:Nat} {R:Option (List α × List Int)} (h:R=(pN p (k+1) b).map λq=>(xs ++ q.1,q.2)) (hn:p b=some (x,r)):R=(pN p k r).map λq=>((xs ++ [x]) ++ q.1,q.2):=by
 rw[h,show pN p (k+1)=iX p λx=>iX (pN p k) λl=>oJ (x :: l)from rfl,yA hn]
 cases hq:pN p k r with
 |none=>rw[yz hq];rfl
 |some q=>rw[yA (x:=q.1) (r:=q.2) (by rw[hq])];simp[oJ]
set_option maxRecDepth 100000 in
set_option maxHeartbeats 12800000 in
theorem agp (v:Value) (l:List Int) (w:World) (h:aB 1 aL w v l) (hB:dW l) (ht:cZ w):Calls Tryz.prog 55 #[v] w (y9 w l):=by
 obtain⟨va,vc,rfl,-,-⟩:=h.form
 have jM:=Lib.hid (I4 _ l 4 w h hB)
 have HT:=Lib.hid ht
 have HRW:=Lib.hid h
 have qF:=Lib.hid hB
 have HAS:=Lib.hid (show ∀ n r is,pI 4 l=some (n,r)->¬ 65536<n->pN gK n.toNat r=some (is,[])->ql l=some is from λn r is h1 h2 h3=>aaP h1 h2 h3)
 have zY:=Lib.hid (show(pI 4 l=none->ql l=none)/\(∀ n r,pI 4 l=some (n,r)->65536<n->ql l=none)/\(∀ n r,pI 4 l=some (n,r)->pN gK n.toNat r=none->ql l=none)/\(∀ n r is q,pI 4 l=some (n,r)->pN gK n.toNat r=some (is,q)->q≠[]->ql l=none)from by
  refine⟨λe => ?_,λn r e e2 => ?_,λn r e e2 => ?_,λn r is q e e2 hq => ?_⟩ <;> (unfold ql;rw[e])
  · simp only[];rw[if_pos e2]
  · simp only[]
    split
    · rfl
    · rw[e2]
  · simp only[]
    split
    · rfl
    · rw[e2]
      cases q with
      |nil=>exact absurd rfl hq
      |cons a b=>rfl)
 clear h hB ht
 go_enter Tryz.func55,Tryz.ntmps55
 go_wp2_with fail
 refine jM.out.mono ?_
 clear jM
 rintro e w2 (⟨hno,rfl,hg⟩|⟨n,r,a,c,hso,rfl,hr,hg,hsv⟩)
 · have HZ:=Lib.hid (show y9 w l (.returned (.tuple #[.slice none 0 0,.int .i64 4])) w2 from .inl ⟨zY.out.1 hno,4,by decide,rfl,hg⟩)
   clear hno hg
   go_wp2_with fail
   go_ret2
   exact HZ.out
 have hx:=Bj 4 (by decide) _ _ _ qF.out hso
 have uH:=Lib.hid (AA qF.out hx.1)
 have hn0:=hx.2.1
 have xJ:=Lib.hid hso
 have HR2:=Lib.hid hr
 have HG2:=Lib.hid hg
 have xH:=Lib.hid hsv
 have MQ:=Lib.hid (show ∀ g,(Value.slice va l.length vc).ownBlock=some g->g<w.heap.size from λg e=>by
  have hl:0<l.length:=by
   have:=hso
   unfold pI at this
   split at this
   · cases this
   · omega
  obtain⟨b,off,cap,e2,_,hcc⟩:=HRW.out.at hl
  rw[e2]at e
  simp only[Value.ownBlock,Option.some.injEq]at e
  subst e
  exact World.block_lt_of_cell? w _ (hcc 0 _ rfl))
 clear hso hr hg hsv hx HRW
 by_cases hbig:65536<n
 · have HZ:=Lib.hid (show y9 w l (.returned (.tuple #[.slice none 0 0,.int .i64 5])) w2 from .inl ⟨zY.out.2.1 _ _ xJ.out hbig,5,by decide,rfl,HG2.out⟩)
   go_wp2_with fail
   go_ret2
   exact HZ.out
 obtain⟨m,rfl⟩:∃ m:Nat,n=m:=⟨n.toNat,by omega⟩
 have hm:m<=65536:=by omega
 have Me:=Lib.hid zY.out.2.2
 have GL:=Lib.hid (λis (h3:pN gK m r=some (is,[]))=>HAS.out _ _ is xJ.out (by omega) (by rw[Int.toNat_natCast];exact h3))
 have HPF:=Lib.hid (λ(h3:pN gK m r=none)=>zY.out.2.2.1 _ _ xJ.out (by rw[Int.toNat_natCast];exact h3))
 have HPG:=Lib.hid (λis q (h3:pN gK m r=some (is,q))=>zY.out.2.2.2 _ _ is q xJ.out (by rw[Int.toNat_natCast];exact h3))
 clear HAS zY Me xJ
 go_wp2_with fail
 go_loopw [0,6,21] (λbv lv t wr=>∃ (k:Nat) (is:List Ins) (rest:List Int) (qa:Option Addr) (qc:Nat) (ra:Option Addr) (rc:Nat),t = .int .i64 k/\k<=m/\bv = .slice qa rest.length qc/\lv = .slice ra is.length rc/\is.length=k/\aB 1 aL wr (.slice qa rest.length qc) rest/\dW rest/\jV w2 wr (.slice ra is.length rc) is/\pN gK m r=(pN gK (m - k) rest).map (λq=>(is ++ q.1,q.2))/\qm (.slice qa rest.length qc) (.slice va l.length vc)) (λ_ _ t _=>m - (intOf t).toNat)
 case atStart=>exact⟨0,[],r,a,c,none,0,rfl,Nat.zero_le _,rfl,rfl,rfl,HR2.out,uH.out,⟨Mv.refl _ _,World.ownsRow_nil _ _ _ _⟩,by rw[Nat.sub_zero];cases pN gK m r <;> rfl,xH.out⟩
 obtain⟨k,is,rest,qa,qc,ra,rc,rfl,hk,rfl,rfl,hil,hrow,hby,hst,hpn,WJ⟩:=hrel
 have HQV:=Lib.hid WJ
 have nG:=Lib.hid hrow
 have uT:=Lib.hid hby
 have qG:=Lib.hid hst
 have mh:=Lib.hid hpn
 have WK:=Lib.hid hil
 clear hrow hby hst hpn hil WJ HR2 uH xH
 by_cases hlt:k<m
 · have hkk:(k:Int)<(m:Nat):=by omega
   rw[show m - k=(m - (k+1))+1 from by omega]at mh
   have WL:=Lib.hid (YD _ rest wr nG.out uT.out ((HT.out.later HG2.out).later qG.out.g))
   go_wp2_with fail
   refine WL.out.mono ?_
   clear WL
   rintro e w5 (⟨hno,E,hE,rfl,hg⟩|⟨i,r2,a2,c2,hso,rfl,hr2,hg,hsv⟩)
   · have HZ:=Lib.hid (show ∀ z,Grow w5 z->y9 w l (.returned (.tuple #[.slice none 0 0,.int .i64 E])) z from λz hz => .inl ⟨HPF.out (aaY mh.out hno),E,hE,rfl,jJ HG2.out (jJ qG.out.g (jJ hg hz))⟩)
     have dE:(E != 0)=true:=by simpa using hE
     have dE':(E == 0)=false:=by simpa using hE
     clear hno hg hE
     go_wp2_with fail
     go_ret2
     exact HZ.out _ ((Mv.refl _ _).alloc _)
   · have HB2:=Lib.hid (aaQ _ _ _ uT.out hso)
     have xq:=Lib.hid (aaZ mh.out hso)
     obtain⟨io,ia,ib,ic,id⟩:=i
     have hga:Grow w5 (w5.alloc (.cells #[.int .u8 io,.int .i64 ia,.int .i64 ib,.int .i64 ic,.int .i64 id] 69)):=(Mv.refl _ _).alloc _
     have WM:=Lib.hid (heap_alloc_new w5 (.cells #[.int .u8 io,.int .i64 ia,.int .i64 ib,.int .i64 ic,.int .i64 id] 69))
     have WN:=Lib.hid (hr2.later hga)
     have C9:=Lib.hid ((qG.out.grow hg).grow hga)
     have xH:=Lib.hid (hsv.trans HQV.out)
     clear hso hr2 hg hsv hga nG qG mh
     go_upto_region 12 with fail
     generalize (w5.alloc (.cells #[.int .u8 io,.int .i64 ia,.int .i64 ib,.int .i64 ic,.int .i64 id] 69))=w6 at *
     generalize w5.heap.size=AI at *
     obtain⟨⟨i0,i1⟩,i2,i3,i4⟩:=j4 WM.out
     have xI:=lt_of_block WM.out
     have hil:is.length<=65536:=by have:=WK.out;omega
     obtain⟨a',c',w7,⟨hok,iI,haw⟩,hrow2,eG⟩:=Eb _ ⟨io,ia,ib,ic,id⟩ is _ w6 C9.out.row (by have:=C9.out.g.size;omega) (by omega)
     simp only at hok iI haw
     have CO:=Lib.hid (WN.out.stay eG (λq hq e=>by
      have h1:=MQ.out q (xH.out q hq)
      have h2:=(C9.out.row.lt q e).1
      have h3:=HG2.out.size
      omega))
     have Hd:=Lib.hid (C9.out.app hrow2 eG)
     have MS:=Lib.hid (AA uT.out HB2.out.1)
     have WO:=Lib.hid (show is.length+1=(is ++ [(⟨io,ia,ib,ic,id⟩:Ins)]).length from by simp)
     clear hrow2 eG WN C9
     go_wp2_with fail
     rw[WO.out]at Hd ⊢
     go_roundw
     case rel=>exact⟨k+1,is ++ [⟨io,ia,ib,ic,id⟩],r2,a2,c2,a',c',by go_num,by omega,rfl,rfl,by rw[← WO.out,WK.out],CO.out,MS.out,Hd.out,xq.out,xH.out⟩
     case measure=>(simp[intOf] <;> omega)
 · obtain rfl:k=m:=by omega
   have hkk:¬ ((k:Int)<(k:Nat)):=by omega
   have C8:=Lib.hid (show pN gK k r=some (is,rest)from by rw[mh.out,Nat.sub_self];show(some (([]:List Ins),rest)).map _=_;simp)
   have GY:=Lib.hid (jJ HG2.out qG.out.g)
   by_cases hrl:0<rest.length
   · have ag8:(0:Int)<(rest.length:Nat):=by omega
     have HZ:=Lib.hid (show y9 w l (.returned (.tuple #[.slice none 0 0,.int .i64 3])) wr from .inl ⟨HPG.out _ _ C8.out (λe=>by rw[e]at hrl;cases hrl),3,by decide,rfl,GY.out⟩)
     go_wp2_with fail
     go_ret2
     exact HZ.out
   · have hr0:rest=[]:=by cases rest with|nil=>rfl|cons x y=>simp at hrl
     subst hr0
     have HZ:=Lib.hid (show y9 w l (.returned (.tuple #[.slice ra is.length rc,.int .i64 0])) wr from .inr ⟨is,ra,rc,GL.out is C8.out,rfl,Ng (λ_=>rfl) qG.out.row,GY.out⟩)
     go_wp2_with fail
     go_ret2
     exact HZ.out
end Go.Proofs.YtadecgbblajifaaGreatDoor
