import Derived.Test.YtadecgbblajifaaGreatDoorA07
import Derived.Test.YtadecgbblajifaaGreatDoorA09
set_option linter.unusedSimpArgs false
set_option linter.unusedVariables false
set_option maxRecDepth 100000
set_option maxHeartbeats 25600000
namespace Go.Proofs.YtadecgbblajifaaGreatDoor
section
open Go.RowKit Go.Instr
attribute [local go_sem ↓] jG
def XD (w:World) (v:Value) (l:List Int) (n:Nat) (e:Ending) (w':World):Prop:=(pI n l=none/\e = .returned (.tuple #[.int .i64 0,.slice none 0 0,.bool false])/\Grow w w')\/∃ x r a c,pI n l=some (x,r)/\e = .returned (.tuple #[.int .i64 x,.slice a r.length c,.bool true])/\ai 1 aJ w' (.slice a r.length c) r/\Grow w w'/\lh (.slice a r.length c) v
theorem C9 (v:Value) (l:List Int) (n:Nat) (w:World) (h:ai 1 aJ w v l) (hB:aS l):Calls Tryz.prog 89 #[v,.int .i64 n] w (XD w v l n):=by
 obtain⟨a,cap,rfl,hcap,Ad⟩:=h.form;by_cases hn:l.length<n
 · have hn':(l.length:Int)<(n:Int):=by omega
   have HP:=ł (show pI n l=none from by unfold pI;rw[if_pos hn]);clear h
   go_enter Tryz.func89,Tryz.ntmps89
   go_wp2_with fail
   first|go_ret3|skip
   exact .inl ⟨HP.out,rfl,Mv.refl _ _⟩
 · have hn':¬ (l.length:Int)<(n:Int):=by omega
   have hnl:(n:Int)<=(l.length:Nat):=by omega
   have hnc:n<=cap:=by omega
   have HP:=ł (show pI n l=some (aF (l.take n),l.drop n)from by unfold pI;rw[if_neg hn]);have HR:=ł h;have HN:=ł hn;have HT:=ł (IV h n (by omega) a (λ_=>rfl));have GH:=ł (show(l.take n).length=n from by simp;omega);have iP:=ł (show aS (l.take n)from λc hc=>hB c (List.mem_of_mem_take hc));generalize hout:l.take n=out at *;clear h hn
   go_enter Tryz.func89,Tryz.ntmps89
   go_wp2_with fail
   go_loopw [7,18] (λnv t wr=>∃ k:Nat,t = .int .i64 k/\k<=n/\nv = .int .i64 (aF (out.take k))/\wr=w) (λ_ t _=>n - (intOf t).toNat)
   case atStart=>exact⟨0,rfl,Nat.zero_le _,rfl,rfl⟩
   obtain⟨k,rfl,hk,rfl,rfl⟩:=hrel;by_cases hlt:k<n
   · have hkk:(k:Int)<(n:Nat):=by omega
     have hko:k<out.length:=by rw[GH.out];exact hlt
     have HT2:=HT.out;rw[show ai 1 aJ wr (.slice a n cap) out=ai 1 aJ wr (.slice a out.length cap) out from by rw[GH.out]]at HT2;obtain⟨b,off,cap',e,_,hcc⟩:=HT2.at hko;simp only[Value.slice.injEq,true_and]at e;obtain⟨rfl,rfl⟩:=e;have c0:=hcc 0 _ rfl;simp only[Nat.add_zero,Nat.mul_one]at c0;have hbl:=World.block_lt_of_cell? _ _ c0;have hby:=iP.out out[k] (List.getElem_mem _);have HST:=ł (show aF (out.take (k+1))=iJ (aF (out.take k)) out[k]from by
      unfold aF;rw[List.take_succ_eq_append_getElem hko,List.foldl_append];rfl)
     have Yq:=yT (out.take k);generalize aF (out.take k)=N at *;generalize out[k]=c at *;have Gw:=ł (λ(y:Int) h1 h2=>JM y c h1 h2 hby.1 hby.2);clear HT2 hko hcc;go_wp2_with fail;refine⟨⟨k+1,by go_num,by omega,?_,trivial⟩,by simp[intOf];omega⟩;have hw:wrap64 (N * 256)=(N * 256+9223372036854775808) % 18446744073709551616 - 9223372036854775808:=by unfold wrap64;rfl
     have hs:iJ N c=(N * 256+c+9223372036854775808) % 18446744073709551616 - 9223372036854775808:=rfl;rw[Gw.out _ (by omega) (by omega),HST.out,hs,hw];congr 1;omega
   · obtain rfl:k=n:=by omega
     have hlt':¬ ((k:Int)<(k:Nat)):=by omega
     have rC:=ł (show out.take k=out from by rw[List.take_of_length_le];rw[GH.out];exact Nat.le_refl _);rw[rC.out];clear HT iP;by_cases hck:cap=k
     · have hkl:l.length=k:=by omega
       have HD:=ł (IA HR.out k (by omega) a (cap - k) (by omega) (λh=>by omega));have hz1:cap - k=0:=by omega
       have hz2:l.length - k=0:=by omega
       subst hck;have Qq:=ł (show(l.drop cap).length=0 from by rw[List.length_drop];omega);rw[hkl]at *;rw[Nat.sub_self]at HD;clear hz1 hz2 hkl;go_wp2_with fail
       go_region
       go_wp2_with fail
       first|go_ret3|skip
       have HD2:=HD.out;exact .inr ⟨_,_,a,0,HP.out,by rw[Qq.out];rfl,by rw[Qq.out];exact HD2.later (Mv.refl _ _).drew,(Mv.refl _ _).drew,CQ⟩
     · have HD:=ł (IW HR.out k (by omega) (a.map (·.add k)) (λ_=>by rw[Nat.mul_one]));go_wp2_with fail
       go_region
       go_wp2_with fail
       first|go_ret3|skip
       have HD2:=HD.out;exact .inr ⟨_,_,a.map (·.add k),cap - k,HP.out,by rw[List.length_drop];rfl,by rw[List.length_drop];exact HD2.later (Mv.refl _ _).drew,(Mv.refl _ _).drew,Jm⟩
theorem Vz (xs:List Int) (x:Int) (h:xs.length<4):(#[.int .i64 (xs.getD 0 0),.int .i64 (xs.getD 1 0),.int .i64 (xs.getD 2 0),.int .i64 (xs.getD 3 0)]:Array Value).setIfInBounds xs.length (.int .i64 x)=#[.int .i64 ((xs ++ [x]).getD 0 0),.int .i64 ((xs ++ [x]).getD 1 0),.int .i64 ((xs ++ [x]).getD 2 0),.int .i64 ((xs ++ [x]).getD 3 0)]:=by
 match xs,h with
 | [],_=>rfl
 | [_],_=>rfl
 | [_,_],_=>rfl
 | [_,_,_],_=>rfl
 |_ :: _ :: _ :: _ :: _,h=>simp at h;omega
theorem VA {a b c d:Int} (u:Int) (o:Nat) (h:∀ (j:Nat) (x:Value),(aJ u)[j]? = some x->(#[.int .i64 a,.int .i64 b,.int .i64 c,.int .i64 d]:Array Value)[o+j]? = some x):False:=by
 have h0:=h 0 _ rfl;rcases o with _|_|_|_|o <;> simp at h0
def Yw (w:World) (v:Value) (l:List Int) (e:Ending) (w':World):Prop:=(bY l=none/\∃ E,E≠0/\e = .returned (.tuple #[.agg #[.int .u8 0,.int .i64 0,.int .i64 0,.int .i64 0,.int .i64 0],.slice none 0 0,.int .i64 E])/\Grow w w')\/∃ i r a c,bY l=some (i,r)/\e = .returned (.tuple #[i.val,.slice a r.length c,.int .i64 0])/\ai 1 aJ w' (.slice a r.length c) r/\Grow w w'/\lh (.slice a r.length c) v
theorem nI {α β:Type} {p:Pa α} {f:α->Pa β} {b:List Int} (h:p b=none):au p f b=none:=by unfold au;rw[h]
theorem nJ {α β:Type} {p:Pa α} {f:α->Pa β} {b r:List Int} {x:α} (h:p b=some (x,r)):au p f b=f x r:=by unfold au;rw[h]
theorem JV (c:Int) (cs:List Int):pX (c :: cs)=au (pI (dW c)) λx=>au (pX cs) λxs=>dL (x :: xs):=rfl
theorem VB {cs b:List Int} {c:Int} {f:List Int × List Int->List Int × List Int} {R:Option (List Int × List Int)} (h:R=(pX (c :: cs) b).map f) (hn:pI (dW c) b=none):R=none:=by
 rw[h,JV,nI hn];rfl
theorem VC {cs b r xs:List Int} {c x:Int} {R:Option (List Int × List Int)} (h:R=(pX (c :: cs) b).map λq=>(xs ++ q.1,q.2)) (hn:pI (dW c) b=some (x,r)):R=(pX cs r).map λq=>((xs ++ [x]) ++ q.1,q.2):=by
 rw[h,JV,nJ hn];cases hq:pX cs r with
 |none=>rw[nI hq];rfl
 |some q=>rw[nJ (x:=q.1) (r:=q.2) (by rw[hq])];simp[dL]
theorem SS (v:Value) (l:List Int) (w:World) (h:ai 1 aJ w v l) (hB:aS l) (ht:bW w):Calls Tryz.prog 90 #[v] w (Yw w v l):=by
 obtain⟨va,vc,rfl,-,-⟩:=h.form;have hg1:Grow w (w.alloc (.cells #[.int .u8 0,.int .i64 0,.int .i64 0,.int .i64 0,.int .i64 0] 69)):=(Mv.refl _ _).alloc _;have HB1:=ł (heap_alloc_new w (.cells #[.int .u8 0,.int .i64 0,.int .i64 0,.int .i64 0,.int .i64 0] 69));have rC:=ł (C9 _ l 1 _ (h.later hg1) hB);have gW:=ł hg1;have HRW:=ł h;have HT:=ł ht;have iP:=ł hB;have GJ:=ł (show bY l=au (pI 1) (λop=>if op<35 then au (pX (je op)) λxs=>uj (nO op xs)else λ_=>none) l from rfl);have rD:=ł (Nat.le_refl w.heap.size);clear h hB ht hg1
 go_enter Tryz.func90,Tryz.ntmps90
 go_wp2_with fail;refine rC.out.mono ?_;generalize (w.alloc (.cells #[.int .u8 0,.int .i64 0,.int .i64 0,.int .i64 0,.int .i64 0] 69))=w1 at *;generalize hao:w.heap.size=AO at *;have rD:=ł (show w.heap.size<=AO from by omega);clear hao rC;rintro e w2 (⟨hno,rfl,hg⟩|⟨x,r,a,c,hso,rfl,hr,hg,hsv⟩)
 · have lM:=ł (show bY l=none from by rw[GJ.out,nI hno]);have HG2:=ł (dw gW.out hg);have HB2:=ł (aD HB1.out hg);clear hno hg HB1 gW;have HS:=ł (wK HB2.out (.int .u8 0) (.int .i64 0) (.int .i64 0) (.int .i64 0) (.int .i64 0));have zr:=bC HB2.out;have hlr:=lt_of_block HB2.out;obtain⟨⟨c0,c1⟩,c2,c3,c4⟩:=gM HB2.out;go_wp2_with fail;clear c0 c1 c2 c3 c4;obtain⟨⟨t0,t1⟩,t2,t3,t4⟩:=gM HS.out.1;exact bodyPost_ret (v := .tuple #[.agg #[.int .u8 0,.int .i64 0,.int .i64 0,.int .i64 0,.int .i64 0],.slice none 0 0,.int .i64 4]) (by simp[results,Tryz.results90,go_sem,t0,t1,t2,t3,t4]) rfl (.inl ⟨lM.out,4,by decide,rfl,HG2.out.trans HS.out.2 (λb e => .inr (by have:=rD.out;omega))⟩)
 have Bw:=ł (show bY l=_ from by rw[GJ.out,nJ hso]);have hx:=dP 1 (by decide) _ _ _ iP.out hso;have ku:=ł (bU iP.out hx.1);have hx0:=hx.2.1;have hx1:x<256:=hx.2.2;have HR2:=ł hr;have rE:=ł hsv;have GK:=ł (show ∀ g,(Value.slice va l.length vc).ownBlock=some g->g<w.heap.size from λg e=>by
  have hl:0<l.length:=by
   have:=hso;unfold pI at this;split at this
   · cases this
   · omega
  obtain⟨b,off,cap,e2,_,hcc⟩:=HRW.out.at hl;rw[e2]at e;simp only[Value.ownBlock,Option.some.injEq]at e;subst e;exact World.block_lt_of_cell? w _ (hcc 0 _ rfl))
 have HG2:=ł (dw gW.out hg);have HB2:=ł (aD HB1.out hg);clear hso hg hr hx HB1 gW GJ hsv HRW;by_cases gX:x<35
 case neg =>
  have lM:=ł (show bY l=none from by rw[Bw.out,if_neg gX]);have hge:(35:Int)<=x:=by omega
  clear gX Bw;have HS:=ł (wK HB2.out (.int .u8 0) (.int .i64 0) (.int .i64 0) (.int .i64 0) (.int .i64 0));have zr:=bC HB2.out;have hlr:=lt_of_block HB2.out;obtain⟨⟨c0,c1⟩,c2,c3,c4⟩:=gM HB2.out;go_wp2_with fail;clear c0 c1 c2 c3 c4;obtain⟨⟨t0,t1⟩,t2,t3,t4⟩:=gM HS.out.1;exact bodyPost_ret (v := .tuple #[.agg #[.int .u8 0,.int .i64 0,.int .i64 0,.int .i64 0,.int .i64 0],.slice none 0 0,.int .i64 3]) (by simp[results,Tryz.results90,go_sem,t0,t1,t2,t3,t4]) rfl (.inl ⟨lM.out,3,by decide,rfl,HG2.out.trans HS.out.2 (λb e => .inr (by have:=rD.out;omega))⟩)
 have hge:¬ (35:Int)<=x:=by omega
 have Bz:=ł (show bY l=_ from by rw[Bw.out,if_pos gX]);obtain⟨o,rfl⟩:∃ o:Nat,x=o:=⟨x.toNat,by omega⟩;have ho:o<35:=by omega
 have lJ:=ł (λz=>Io o z ho);have hcl:=Dm (op:=(o:Int)) (by omega) gX;have hce:je (o:Int)=aX (oq.getD o ⟨#[]⟩):=by simp[je]
 rw[hce]at Bz hcl;have Gu:=ł (show(oq.getD o ⟨#[]⟩).size<=4 from by rw[← nA];exact hcl.2);generalize oq.getD o ⟨#[]⟩=cs at *;have Qr:=ł (λ(i:Ins) (z:World) (hz:Grow w z) (h1:i.op=o)=>CO i z (HT.out.later hz) (by omega) (by omega));have hom:(o:Int) % 256=o:=by omega
 have aav:decide ((35:Int)<=o)=false:=by simpa using hge
 clear hcl hce gX Bw hx0 hx1;have fP:=ł (dw HG2.out (show Grow w2 (w2.alloc (.cells #[.int .i64 0,.int .i64 0,.int .i64 0,.int .i64 0] 98))from(Mv.refl _ _).alloc _));have Qt:=ł (heap_alloc_new w2 (.cells #[.int .i64 0,.int .i64 0,.int .i64 0,.int .i64 0] 98));have HB3:=ł (aD HB2.out (show Grow w2 (w2.alloc (.cells #[.int .i64 0,.int .i64 0,.int .i64 0,.int .i64 0] 98))from(Mv.refl _ _).alloc _));have HR3:=ł (HR2.out.later (show Grow w2 (w2.alloc (.cells #[.int .i64 0,.int .i64 0,.int .i64 0,.int .i64 0] 98))from(Mv.refl _ _).alloc _));have Qu:=ł (show w.heap.size<=w2.heap.size from HG2.out.size);have Gz:=ł (show AO≠w2.heap.size from by have:=lt_of_block HB2.out;omega);go_upto_region 7 with fail;generalize (w2.alloc (.cells #[.int .i64 0,.int .i64 0,.int .i64 0,.int .i64 0] 98))=w3 at *;generalize w2.heap.size=AX at *;clear HB2 HR2 HG2;go_wp2_with fail;refine(lJ.out _).mono ?_;rintro e w4 ⟨rfl,rfl⟩;clear lJ;go_wp2_with fail
 go_loopw [0,6,28] (λbv Z0 t wr=>∃ (j:Nat) (xs rest:List Int) (qa:Option Addr) (qc:Nat),t = .int .i64 j/\j<=cs.size/\Z0 = .bool true/\bv = .slice qa rest.length qc/\xs.length=j/\ai 1 aJ wr (.slice qa rest.length qc) rest/\aS rest/\wr.heap[AX]? = some (.cells #[.int .i64 (xs.getD 0 0),.int .i64 (xs.getD 1 0),.int .i64 (xs.getD 2 0),.int .i64 (xs.getD 3 0)] 98 (0,0))/\pX (aX cs) r=(pX ((aX cs).drop j) rest).map (λq=>(xs ++ q.1,q.2))/\Mv (λb=>b=AX) w3 wr/\lh (.slice qa rest.length qc) (.slice va l.length vc)) (λ_ _ t _=>cs.size - (intOf t).toNat)
 case atStart=>exact⟨0,[],r,a,c,rfl,Nat.zero_le _,rfl,rfl,rfl,HR3.out,ku.out,Qt.out,by rw[List.drop_zero];cases pX (aX cs) r <;> rfl,Mv.refl _ _,rE.out⟩
 obtain⟨j,xs,rest,qa,qc,rfl,hj,rfl,rfl,hxl,hrow,hby,hbx,hpx,hmv,hsv⟩:=hrel;have lN:=ł hsv;have jB:=ł hrow;have pg:=ł hby
 have pz:=ł hbx;have iQ:=ł hpx;have kg:=ł hmv;have GL:=ł hxl;have uo:=ł ((hmv.block _ (lt_of_block HB3.out) (λe=>Gz.out e)).trans HB3.out);have xR:=ł (fP.out.trans hmv (λb e => .inr (by have:=Qu.out;omega)));have hc4:=Gu.out;clear hrow hby hbx hpx hmv hxl hsv HR3 ku Qt HB3 fP;by_cases hjs:j<cs.size
 · have hjk:(j:Int)<(cs.size:Nat):=by omega
   have wJ:(aX cs)[j]'(by rw[nA];exact hjs)=(cs[j].toNat:Int):=by simp[aX];rfl
   have HDR:=ł (show(aX cs).drop j=(cs[j].toNat:Int) :: (aX cs).drop (j+1)from by rw[← wJ,← List.drop_eq_getElem_cons]);rw[HDR.out]at iQ;have Bu:=ł (IM (cs[j].toNat:Int));have Qv:=ł (λ(z:World) (hz:Grow wr z)=>C9 _ rest (dW (cs[j].toNat:Int)) z (jB.out.later hz) pg.out);have Bt:=ł (show j<4 from by omega);have xL:=ł hjs;clear wJ HDR;go_wp2_with fail;refine(Bu.out _).mono ?_;rintro e w5 ⟨rfl,rfl⟩;clear Bu;go_wp2_with fail;refine(Qv.out _ (Mv.refl _ _)).mono ?_;clear Qv;have jC:=Bt.out;have aaw:(j:Int)<4:=by omega
   rintro e w6 (⟨hno,rfl,hg⟩|⟨y,r2,a2,c2,hso,rfl,hr2,hg,hsv⟩)
   · have lM:=ł (show bY l=none from by rw[Bz.out,nI (VB iQ.out hno)]);have ky:=ł (aD pz.out hg);have xS:=ł (aD uo.out hg);have xN:=ł (dw xR.out hg);have uq:=ł ((Mv.refl (λb=>b=AX) w6).setCell (p:=⟨AX,j,none⟩) (.inl rfl) (.int .i64 0));have rF:=ł ((uq.out.block _ (lt_of_block xS.out) (λe=>Gz.out e)).trans xS.out);have BA:=ł (xN.out.trans uq.out (λb e => .inr (by have:=Qu.out;omega)));have cx:=zg ky.out jC;have zx:=bC ky.out;have hlx:=lt_of_block ky.out;clear hno hg pz uo xR jB pg iQ kg;go_upto_region 12 with fail;generalize (w6.setCell ⟨AX,j,none⟩ (.int .i64 0))=w7 at *;clear cx zx hlx ky xS xN uq;have HS:=ł (wK rF.out (.int .u8 0) (.int .i64 0) (.int .i64 0) (.int .i64 0) (.int .i64 0));have zr:=bC rF.out;have hlr:=lt_of_block rF.out;obtain⟨⟨c0,c1⟩,c2,c3,c4⟩:=gM rF.out;go_wp2_with fail;clear c0 c1 c2 c3 c4;obtain⟨⟨t0,t1⟩,t2,t3,t4⟩:=gM HS.out.1;exact bodyPost_ret (v := .tuple #[.agg #[.int .u8 0,.int .i64 0,.int .i64 0,.int .i64 0,.int .i64 0],.slice none 0 0,.int .i64 4]) (by simp[results,Tryz.results90,go_sem,t0,t1,t2,t3,t4]) rfl (.inl ⟨lM.out,4,by decide,rfl,BA.out.trans HS.out.2 (λb e => .inr (by have:=rD.out;omega))⟩)
   · have ky:=ł (aD pz.out hg);have xS:=ł (aD uo.out hg);have uq:=ł ((Mv.refl (λb=>b=AX) w6).setCell (p:=⟨AX,j,none⟩) (.inl rfl) (.int .i64 y));have Z4:=ł (show(w6.setCell ⟨AX,j,none⟩ (.int .i64 y)).heap[AX]? = some (.cells #[.int .i64 ((xs ++ [y]).getD 0 0),.int .i64 ((xs ++ [y]).getD 1 0),.int .i64 ((xs ++ [y]).getD 2 0),.int .i64 ((xs ++ [y]).getD 3 0)] 98 (0,0))from by
      have h1:=block_setCell (p:=⟨AX,j,none⟩) ky.out rfl (.int .i64 y);have h2:=Vz xs y (by rw[GL.out];exact jC);rw[GL.out]at h2;simp only at h1;rw[h2]at h1;exact h1)
     have ry:=ł (qf hr2 (λu o e=>VA u o e) ky.out uq.out);have uk:=ł ((kg.out.trans hg (λ_ e=>e.elim)).trans uq.out (λ_ e => .inl e));have GM:=ł (show aS r2 from by
      have:=hso;unfold pI at this;split at this
      · cases this
      · simp only[Option.some.injEq,Prod.mk.injEq]at this;rw[← this.2];exact λc hc=>pg.out c (List.mem_of_mem_drop hc))
     have Z5:=ł (VC iQ.out hso);have BB:=ł (hsv.trans lN.out);have Z6:=ł (show(xs ++ [y]).length=j+1 from by rw[List.length_append,GL.out];rfl);have cx:=zg ky.out jC;have zx:=bC ky.out;have hlx:=lt_of_block ky.out;clear hso hg hr2 hsv pz uo xR jB pg iQ kg ky xS;go_wp2_with fail
     go_roundw
     case rel=>exact⟨j+1,(xs ++ [y]:List Int),r2,a2,c2,by go_num,by omega,rfl,rfl,Z6.out,ry.out,GM.out,Z4.out,Z5.out,uk.out,BB.out⟩
     case measure=>(simp[intOf] <;> omega)
 · obtain rfl:j=cs.size:=by omega
   have hjk:¬ ((cs.size:Int)<(cs.size:Nat)):=by omega
   have xU:=ł (show bY l=uj (nO o xs) rest from by
    rw[Bz.out,nJ (x:=xs) (r:=rest)];rw[iQ.out,List.drop_of_length_le (by rw[nA];exact Nat.le_refl _)]
    show(some (([]:List Int),rest)).map _=_
    simp)
   clear Bz iQ kg;generalize hi:nO o xs=i at *;obtain⟨io,ia,ib,ic,id⟩:=i;simp only[nO,Ins.mk.injEq]at hi;obtain⟨rfl,h1,h2,h3,h4⟩:=hi;rw[h1,h2,h3,h4]at pz;obtain⟨⟨x0,x1⟩,x2,x3⟩:=mi pz.out;have hlx:=lt_of_block pz.out;have uu:=ł (dw xR.out (show Grow wr (wr.alloc (.cells #[.int .u8 o,.int .i64 ia,.int .i64 ib,.int .i64 ic,.int .i64 id] 69))from(Mv.refl _ _).alloc _));have BC:=ł (heap_alloc_new wr (.cells #[.int .u8 o,.int .i64 ia,.int .i64 ib,.int .i64 ic,.int .i64 id] 69));have Qw:=ł (aD uo.out (show Grow wr (wr.alloc (.cells #[.int .u8 o,.int .i64 ia,.int .i64 ib,.int .i64 ic,.int .i64 id] 69))from(Mv.refl _ _).alloc _));have Qx:=ł (jB.out.later (show Grow wr (wr.alloc (.cells #[.int .u8 o,.int .i64 ia,.int .i64 ib,.int .i64 ic,.int .i64 id] 69))from(Mv.refl _ _).alloc _));clear h1 h2 h3 h4;go_upto_region 16 with fail;generalize (wr.alloc (.cells #[.int .u8 o,.int .i64 ia,.int .i64 ib,.int .i64 ic,.int .i64 id] 69))=w8 at *;generalize wr.heap.size=AI at *;clear x0 x1 x2 x3 hlx pz uo xR jB;obtain⟨⟨i0,i1⟩,i2,i3,i4⟩:=gM BC.out;have rG:=lt_of_block BC.out;have HC:=ł (Qr.out ⟨o,ia,ib,ic,id⟩ w8 uu.out rfl);go_wp2_with fail;refine HC.out.mono ?_;rintro e w9 ⟨rfl,hg⟩;have Qy:=ł (dw uu.out hg);have Qz:=ł (aD BC.out hg);have pE:=ł (aD Qw.out hg);have Z7:=ł (Qx.out.later hg);clear hg HC Qr i0 i1 i2 i3 i4 rG BC Qw Qx uu;by_cases hv:Ins.bR ⟨o,ia,ib,ic,id⟩=true
   · have rH:=ł (show bY l=some (⟨o,ia,ib,ic,id⟩,rest)from by rw[xU.out];unfold uj;rw[if_pos hv]);rw[hv];obtain⟨⟨i0,i1⟩,i2,i3,i4⟩:=gM Qz.out;have rG:=lt_of_block Qz.out;have HS:=ł (wK pE.out (.int .u8 o) (.int .i64 ia) (.int .i64 ib) (.int .i64 ic) (.int .i64 id));have Z8:=ł (Z7.out.stay HS.out.2 (λq hq e=>by have h1:=GK.out q (lN.out q hq);have h2:=rD.out;omega));have zr:=bC pE.out;have hlr:=lt_of_block pE.out;obtain⟨⟨c0,c1⟩,c2,c3,c4⟩:=gM pE.out;go_wp2_with fail;clear c0 c1 c2 c3 c4 i0 i1 i2 i3 i4;obtain⟨⟨t0,t1⟩,t2,t3,t4⟩:=gM HS.out.1;exact bodyPost_ret (v := .tuple #[.agg #[.int .u8 o,.int .i64 ia,.int .i64 ib,.int .i64 ic,.int .i64 id],.slice qa rest.length qc,.int .i64 0]) (by simp[results,Tryz.results90,go_sem,t0,t1,t2,t3,t4]) rfl (.inr ⟨_,rest,qa,qc,rH.out,rfl,Z8.out,Qy.out.trans HS.out.2 (λb e => .inr (by have:=rD.out;omega)),lN.out⟩)
   · have lM:=ł (show bY l=none from by rw[xU.out];unfold uj;rw[if_neg hv]);have pF:Ins.bR ⟨o,ia,ib,ic,id⟩=false:=by simpa using hv
     rw[pF];clear hv pF;have HS:=ł (wK pE.out (.int .u8 0) (.int .i64 0) (.int .i64 0) (.int .i64 0) (.int .i64 0));have zr:=bC pE.out;have hlr:=lt_of_block pE.out;obtain⟨⟨c0,c1⟩,c2,c3,c4⟩:=gM pE.out;go_wp2_with fail;clear c0 c1 c2 c3 c4;obtain⟨⟨t0,t1⟩,t2,t3,t4⟩:=gM HS.out.1;exact bodyPost_ret (v := .tuple #[.agg #[.int .u8 0,.int .i64 0,.int .i64 0,.int .i64 0,.int .i64 0],.slice none 0 0,.int .i64 3]) (by simp[results,Tryz.results90,go_sem,t0,t1,t2,t3,t4]) rfl (.inl ⟨lM.out,3,by decide,rfl,Qy.out.trans HS.out.2 (λb e => .inr (by have:=rD.out;omega))⟩)
def tK (w:World) (l:List Int) (e:Ending) (w':World):Prop:=(dQ l=none/\∃ E,E≠0/\e = .returned (.tuple #[.slice none 0 0,.int .i64 E])/\Grow w w')\/∃ is a c,dQ l=some is/\e = .returned (.tuple #[.slice a is.length c,.int .i64 0])/\ai 5 Ins.cells w' (.slice a is.length c) is/\Grow w w'
theorem VD {α:Type} {p:Pa α} {b:List Int} {k:Nat} {f:List α × List Int->List α × List Int} {R:Option (List α × List Int)} (h:R=(pN p (k+1) b).map f) (hn:p b=none):R=none:=by
 rw[h,show pN p (k+1)=au p λx=>au (pN p k) λl=>dL (x :: l)from rfl,nI hn];rfl
theorem VE {α:Type} {p:Pa α} {b r:List Int} {xs:List α} {x:α} {k:Nat} {R:Option (List α × List Int)} (h:R=(pN p (k+1) b).map λq=>(xs ++ q.1,q.2)) (hn:p b=some (x,r)):R=(pN p k r).map λq=>((xs ++ [x]) ++ q.1,q.2):=by
 rw[h,show pN p (k+1)=au p λx=>au (pN p k) λl=>dL (x :: l)from rfl,nJ hn];cases hq:pN p k r with
 |none=>rw[nI hq];rfl
 |some q=>rw[nJ (x:=q.1) (r:=q.2) (by rw[hq])];simp[dL]
theorem Us (v:Value) (l:List Int) (w:World) (h:ai 1 aJ w v l) (hB:aS l) (ht:bW w):Calls Tryz.prog 55 #[v] w (tK w l):=by
 obtain⟨va,vc,rfl,-,-⟩:=h.form;have rC:=ł (C9 _ l 4 w h hB);have HT:=ł ht;have HRW:=ł h;have iP:=ł hB;have HAS:=ł (show ∀ n r is,pI 4 l=some (n,r)->¬ 65536<n->pN bY n.toNat r=some (is,[])->dQ l=some is from λn r is h1 h2 h3=>Vp h1 h2 h3);have uw:=ł (show(pI 4 l=none->dQ l=none)/\(∀ n r,pI 4 l=some (n,r)->65536<n->dQ l=none)/\(∀ n r,pI 4 l=some (n,r)->pN bY n.toNat r=none->dQ l=none)/\(∀ n r is q,pI 4 l=some (n,r)->pN bY n.toNat r=some (is,q)->q≠[]->dQ l=none)from by
  refine⟨λe => ?_,λn r e e2 => ?_,λn r e e2 => ?_,λn r is q e e2 hq => ?_⟩ <;> (unfold dQ;rw[e])
  · simp only[];rw[if_pos e2]
  · simp only[];split
    · rfl
    · rw[e2]
  · simp only[];split
    · rfl
    · rw[e2];cases q with
      |nil=>exact absurd rfl hq
      |cons a b=>rfl)
 clear h hB ht
 go_enter Tryz.func55,Tryz.ntmps55
 go_wp2_with fail;refine rC.out.mono ?_;clear rC;rintro e w2 (⟨hno,rfl,hg⟩|⟨n,r,a,c,hso,rfl,hr,hg,hsv⟩)
 · have HZ:=ł (show tK w l (.returned (.tuple #[.slice none 0 0,.int .i64 4])) w2 from .inl ⟨uw.out.1 hno,4,by decide,rfl,hg⟩);clear hno hg;go_wp2_with fail
   go_ret2
   exact HZ.out
 have hx:=dP 4 (by decide) _ _ _ iP.out hso;have ku:=ł (bU iP.out hx.1);have hn0:=hx.2.1;have rH:=ł hso;have HR2:=ł hr;have HG2:=ł hg;have rE:=ł hsv;have GK:=ł (show ∀ g,(Value.slice va l.length vc).ownBlock=some g->g<w.heap.size from λg e=>by
  have hl:0<l.length:=by
   have:=hso;unfold pI at this;split at this
   · cases this
   · omega
  obtain⟨b,off,cap,e2,_,hcc⟩:=HRW.out.at hl;rw[e2]at e;simp only[Value.ownBlock,Option.some.injEq]at e;subst e;exact World.block_lt_of_cell? w _ (hcc 0 _ rfl))
 clear hso hr hg hsv hx HRW;by_cases hbig:65536<n
 · have HZ:=ł (show tK w l (.returned (.tuple #[.slice none 0 0,.int .i64 5])) w2 from .inl ⟨uw.out.2.1 _ _ rH.out hbig,5,by decide,rfl,HG2.out⟩);go_wp2_with fail
   go_ret2
   exact HZ.out
 obtain⟨m,rfl⟩:∃ m:Nat,n=m:=⟨n.toNat,by omega⟩;have hm:m<=65536:=by omega
 have uy:=ł uw.out.2.2;have jA:=ł (λis (h3:pN bY m r=some (is,[]))=>HAS.out _ _ is rH.out (by omega) (by rw[Int.toNat_natCast];exact h3));have Z9:=ł (λ(h3:pN bY m r=none)=>uw.out.2.2.1 _ _ rH.out (by rw[Int.toNat_natCast];exact h3));have _d:=ł (λis q (h3:pN bY m r=some (is,q))=>uw.out.2.2.2 _ _ is q rH.out (by rw[Int.toNat_natCast];exact h3));clear HAS uw uy rH;go_wp2_with fail
 go_loopw [0,6,21] (λbv lv t wr=>∃ (k:Nat) (is:List Ins) (rest:List Int) (qa:Option Addr) (qc:Nat) (ra:Option Addr) (rc:Nat),t = .int .i64 k/\k<=m/\bv = .slice qa rest.length qc/\lv = .slice ra is.length rc/\is.length=k/\ai 1 aJ wr (.slice qa rest.length qc) rest/\aS rest/\qC w2 wr (.slice ra is.length rc) is/\pN bY m r=(pN bY (m - k) rest).map (λq=>(is ++ q.1,q.2))/\lh (.slice qa rest.length qc) (.slice va l.length vc)) (λ_ _ t _=>m - (intOf t).toNat)
 case atStart=>exact⟨0,[],r,a,c,none,0,rfl,Nat.zero_le _,rfl,rfl,rfl,HR2.out,ku.out,⟨Mv.refl _ _,World.ownsRow_nil _ _ _ _⟩,by rw[Nat.sub_zero];cases pN bY m r <;> rfl,rE.out⟩
 obtain⟨k,is,rest,qa,qc,ra,rc,rfl,hk,rfl,rfl,hil,hrow,hby,hst,hpn,QA⟩:=hrel;have _e:=ł QA;have jB:=ł hrow;have pg:=ł hby
 have lN:=ł hst;have iQ:=ł hpn;have QB:=ł hil;clear hrow hby hst hpn hil QA HR2 ku rE;by_cases hlt:k<m
 · have hkk:(k:Int)<(m:Nat):=by omega
   rw[show m - k=(m - (k+1))+1 from by omega]at iQ;have QC:=ł (SS _ rest wr jB.out pg.out ((HT.out.later HG2.out).later lN.out.g));go_wp2_with fail;refine QC.out.mono ?_;clear QC;rintro e w5 (⟨hno,E,hE,rfl,hg⟩|⟨i,r2,a2,c2,hso,rfl,hr2,hg,hsv⟩)
   · have HZ:=ł (show ∀ z,Grow w5 z->tK w l (.returned (.tuple #[.slice none 0 0,.int .i64 E])) z from λz hz => .inl ⟨Z9.out (VD iQ.out hno),E,hE,rfl,dw HG2.out (dw lN.out.g (dw hg hz))⟩);have dE:(E != 0)=true:=by simpa using hE
     have _i:(E == 0)=false:=by simpa using hE
     clear hno hg hE;go_wp2_with fail
     go_ret2
     exact HZ.out _ ((Mv.refl _ _).alloc _)
   · have HB2:=ł (JQ _ _ _ pg.out hso);have rJ:=ł (VE iQ.out hso);obtain⟨io,ia,ib,ic,id⟩:=i;have hga:Grow w5 (w5.alloc (.cells #[.int .u8 io,.int .i64 ia,.int .i64 ib,.int .i64 ic,.int .i64 id] 69)):=(Mv.refl _ _).alloc _;have QD:=ł (heap_alloc_new w5 (.cells #[.int .u8 io,.int .i64 ia,.int .i64 ib,.int .i64 ic,.int .i64 id] 69));have QE:=ł (hr2.later hga);have xV:=ł ((lN.out.grow hg).grow hga);have rE:=ł (hsv.trans _e.out);clear hso hr2 hg hsv hga jB lN iQ;go_upto_region 12 with fail;generalize (w5.alloc (.cells #[.int .u8 io,.int .i64 ia,.int .i64 ib,.int .i64 ic,.int .i64 id] 69))=w6 at *;generalize w5.heap.size=AI at *;obtain⟨⟨i0,i1⟩,i2,i3,i4⟩:=gM QD.out;have rG:=lt_of_block QD.out;have hil:is.length<=65536:=by have:=QB.out;omega
     obtain⟨a',c',w7,⟨hok,fM,haw⟩,hrow2,eX⟩:=Vy _ ⟨io,ia,ib,ic,id⟩ is _ w6 xV.out.row (by have:=xV.out.g.size;omega) (by omega);simp only at hok fM haw;have ry:=ł (QE.out.stay eX (λq hq e=>by
      have h1:=GK.out q (rE.out q hq);have h2:=(xV.out.row.lt q e).1;have h3:=HG2.out.size
      omega))
     have BB:=ł (xV.out.app hrow2 eX);have GM:=ł (bU pg.out HB2.out.1);have uA:=ł (show is.length+1=(is ++ [(⟨io,ia,ib,ic,id⟩:Ins)]).length from by simp);clear hrow2 eX QE xV;go_wp2_with fail;rw[uA.out]at BB ⊢
     go_roundw
     case rel=>exact⟨k+1,is ++ [⟨io,ia,ib,ic,id⟩],r2,a2,c2,a',c',by go_num,by omega,rfl,rfl,by rw[← uA.out,QB.out],ry.out,GM.out,BB.out,rJ.out,rE.out⟩
     case measure=>(simp[intOf] <;> omega)
 · obtain rfl:k=m:=by omega
   have hkk:¬ ((k:Int)<(k:Nat)):=by omega
   have xU:=ł (show pN bY k r=some (is,rest)from by rw[iQ.out,Nat.sub_self];show(some (([]:List Ins),rest)).map _=_;simp);have BD:=ł (dw HG2.out lN.out.g);by_cases hrl:0<rest.length
   · have aax:(0:Int)<(rest.length:Nat):=by omega
     have HZ:=ł (show tK w l (.returned (.tuple #[.slice none 0 0,.int .i64 3])) wr from .inl ⟨_d.out _ _ xU.out (λe=>by rw[e]at hrl;cases hrl),3,by decide,rfl,BD.out⟩);go_wp2_with fail
     go_ret2
     exact HZ.out
   · have hr0:rest=[]:=by cases rest with|nil=>rfl|cons x y=>simp at hrl
     subst hr0;have HZ:=ł (show tK w l (.returned (.tuple #[.slice ra is.length rc,.int .i64 0])) wr from .inr ⟨is,ra,rc,jA.out is xU.out,rfl,pY (λ_=>rfl) lN.out.row,BD.out⟩);go_wp2_with fail
     go_ret2
     exact HZ.out
end
section
open Go.RowKit
def qO (k n:Int):Bool:=if k=1\/k=3 then n == 0 else if k=2 then decide (1<=n) && decide (n<=16)else false
def aL.sQ (v:aL):Bool:=gq v.name && qO v.kind v.len
theorem R5 (v:aL) (w:World) (hs:v.name.size<=9223372036854775807):Calls Tryz.prog 82 #[v.val] w λe w'=>e = .returned (.bool v.sQ)/\Grow w w':=by
 obtain⟨s,k,n⟩:=v;simp only at hs
 go_enter Tryz.func82,Tryz.ntmps82
 go_wp2_with fail;refine(Jh s _ hs).mono ?_;rintro e w1 ⟨rfl,hm⟩;obtain⟨hc,hf⟩:=qB hm;have HM:=ł (Mv.trans (O1:=λ_=>False) ((Mv.refl (λ_=>False) w).alloc _) hm (λ_ e=>e.elim));have HN:=ł (show aL.sQ ⟨s,k,n⟩=(gq s && qO k n)from rfl);generalize gq s=q at *;clear hm;by_cases hq:q=true
 · subst hq;by_cases h1:k=1
   · subst h1;go_wp2_with fail;go_ret;exact⟨aC (by rw[HN.out];simp[qO]),HM.out⟩
   · have h1b:(k == 1)=false:=by simpa using h1
     by_cases h3:k=3
     · subst h3;go_wp2_with fail;go_ret;exact⟨aC (by rw[HN.out];simp[qO]),HM.out⟩
     · have h3b:(k == 3)=false:=by simpa using h3
       by_cases h2:k=2
       · subst h2;go_wp2_with fail
         all_goals (go_ret;exact⟨aC (by rw[HN.out];simp_all [qO] <;> omega),HM.out⟩)
       · have h2b:(k == 2)=false:=by simpa using h2
         have HL:=ł (show qO k n=false from by simp[qO,h1,h2,h3]);clear h1 h2 h3;go_wp2_with fail;go_ret;exact⟨aC (by rw[HN.out,HL.out];rfl),HM.out⟩
 · have hq2:q=false:=by simpa using hq
   subst hq2;go_wp2_with fail;go_ret;exact⟨aC (by rw[HN.out];rfl),HM.out⟩
def mD (l:List aL) (s:ByteArray):Bool:=l.all λv => !(v.name == s)
def nC (l:List aL) (i:Nat):Bool:=(List.range i).all λk=>match l[k]? with
 |some v=>v.sQ && mD (l.take k) v.name
 |none=>true
def aA.qD (o:aA):Bool:=if o.name.size=0 then decide (o.params.length=0)else gq o.name && (decide (o.params.length<=8) && nC o.params o.params.length)
theorem RI (l:List aL) (i:Nat) (h:i<l.length):nC l (i+1)=(nC l i && (l[i].sQ && mD (l.take i) l[i].name)):=by
 unfold nC;rw[List.range_succ,List.all_append];simp[h]
theorem Sq (l:List aL) (s:ByteArray) (j:Nat) (h:j<l.length):mD (l.take (j+1)) s=(mD (l.take j) s && !(l[j].name == s)):=by
 unfold mD;rw[List.take_succ_eq_append_getElem h,List.all_append];simp
theorem RB (l:List aL) (i n:Nat) (hin:i<n) (h:i<l.length) (hf:(l[i].sQ && mD (l.take i) l[i].name)=false):nC l n=false:=by
 unfold nC;apply Bool.eq_false_iff.2;intro hall;have:=List.all_eq_true.1 hall i (by simp;exact hin);rw[List.getElem?_eq_getElem h]at this;simp only at this;rw[hf]at this;cases this
theorem R6 (l:List aL) (s:ByteArray) (i j:Nat) (hij:j<i) (h:j<l.length) (he:(l[j].name == s)=true):mD (l.take i) s=false:=by
 unfold mD;apply Bool.eq_false_iff.2;intro hall;have:=List.all_eq_true.1 hall l[j] (by rw[List.mem_iff_getElem?];exact⟨j,by rw[List.getElem?_take,if_pos hij,List.getElem?_eq_getElem h]⟩);simp[he]at this
theorem SV (o:bX) (w:World) (h:mF w o):Calls Tryz.prog 38 #[o.val] w λe w'=>e = .returned (.bool o.d.qD)/\Grow w w':=by
 obtain⟨⟨s,l,sl,cl,st,co,rf⟩,pv,sv,cv,rv⟩:=o;have hl:=h.params;have hs:=h.ok.name;have hpn:=h.ok.params;simp only at hl hs hpn;obtain⟨a,cap,hpv,hcap,hlen⟩:=hl.form;subst hpv;have HL:=ł hl;have uy:=ł hpn;clear h hl hpn;by_cases h0:s.size=0
 · obtain rfl:=Ic (s:=s) (by omega);have HB:=ł (show aA.qD ⟨⟨#[]⟩,l,sl,cl,st,co,rf⟩=decide (l.length=0)from if_pos rfl)
   go_enter Tryz.func38,Tryz.ntmps38
   go_wp2_with fail;go_ret;exact⟨aC (by rw[HB.out];by_cases hh:l.length=0 <;> simp[hh]),(Mv.refl _ _).alloc _⟩
 · have hne:=yN (s:=s) (by omega);have HB:=ł (show aA.qD ⟨s,l,sl,cl,st,co,rf⟩=(gq s && (decide (l.length<=8) && nC l l.length))from by simp[aA.qD,h0])
   go_enter Tryz.func38,Tryz.ntmps38
   go_wp2_with fail;refine(Jh s _ hs).mono ?_;rintro e w1 ⟨rfl,hm⟩;obtain⟨hc,hf⟩:=qB hm;have hM:=Mv.trans (O1:=λ_=>False) ((Mv.refl (λ_=>False) w).alloc (.cells #[.string s,.slice a l.length cap,sv,.int .i64 cl,.int .i64 st,cv,rv] 39)) hm (λ_ e=>e.elim);have hbx:w1.heap[w.heap.size]? = some (.cells #[.string s,.slice a l.length cap,sv,.int .i64 cl,.int .i64 st,cv,rv] 39 (0,0)):=by
    rw[hm.block _ (by simp) (λh=>h)];exact heap_alloc_new w _
   have HM:=ł hM;have xQ:=ł hbx;generalize gq s=q at *;clear hm hM hbx;by_cases hq:q=true
   · subst hq;by_cases h8:l.length<=8
     · have HP:Hid (True):=ł trivial;go_wp2_with fail;clear hc hf
       go_loopw [27] (λt wr=>∃ k:Nat,t = .int .i64 k/\k<=l.length/\Grow w1 wr/\nC l k=true) (λt _=>l.length - (intOf t).toNat)
       case atStart=>exact⟨0,rfl,Nat.zero_le _,Mv.refl _ _,rfl⟩
       obtain⟨k,rfl,hk,hg,hpt⟩:=hrel;have HG:=ł hg;have o8:=ł hpt;have hbr:wr.heap[w.heap.size]? = some (.cells #[.string s,.slice a l.length cap,sv,.int .i64 cl,.int .i64 st,cv,rv] 39 (0,0)):=by
        rw[hg.block _ (lt_of_block xQ.out) (λh=>h)];exact xQ.out
       have hbl:=lt_of_block hbr;have p1:wr.cell? ⟨w.heap.size,1,none⟩=some (.slice a l.length cap):=by simp[World.cell?,hbr]
       have ku:=ł hbr;have hgm:=Mv.trans HM.out hg (λ_ e=>e.elim);have QF:=ł hgm;have hrow:=HL.out.later hgm;clear hg hpt hbr hgm;by_cases hlt:k<l.length
       · obtain⟨b,off,cap',e,_,hcc⟩:=hrow.at hlt;simp only[Value.slice.injEq,true_and]at e;obtain⟨rfl,rfl⟩:=e;have c0:=hcc 0 _ rfl;have c1:=hcc 1 _ rfl;have c2:=hcc 2 _ rfl;simp only[Nat.add_zero]at c0;have hbb:b<wr.heap.size:=World.block_lt_of_cell? wr _ c0;have HS:=ł (RI l k hlt);have QG:=ł (RB l k l.length hlt hlt);have QH:=(uy.out l[k] (List.getElem_mem hlt)).1;have HRO:=ł hrow;generalize hvk:l[k]=vk at *;obtain⟨vs,BF,BG⟩:=vk;simp only at c0 c1 c2 QH;have HVK:=ł hvk;clear hcc hrow hvk;go_wp2_with fail;refine(R5 ⟨vs,BF,BG⟩ _ QH).mono ?_;rintro e w2 ⟨rfl,hm2⟩;obtain⟨hc2,hf2⟩:=qB hm2;have hg2:=Mv.trans HG.out (Mv.trans ((Mv.refl (λ_=>False) wr).alloc (.cells #[.string vs,.int .u8 BF,.int .i64 BG] 75)) hm2 (λ_ e=>e.elim)) (λ_ e=>e.elim);have hsz2:=hm2.size;simp only[World.size_alloc]at hsz2;have hn2:w2.cell? ⟨wr.heap.size,0,none⟩=some (.string vs):=by rw[hc2 _ _ (by simp),C8];rfl
         have hp2:w2.cell? ⟨w.heap.size,1,none⟩=some (.slice (some ⟨b,off,none⟩) l.length cap):=by rw[hc2 _ _ (by simp;omega)];rw[← p1];exact World.cell?_of_block (w:=wr) (w':=wr.alloc _) (Below.heap_alloc _ _ _ hbl)
         have HG2:=ł hg2;have Nz:=Mv.trans QF.out (Mv.trans ((Mv.refl (λ_=>False) wr).alloc (.cells #[.string vs,.int .u8 BF,.int .i64 BG] 75)) hm2 (λ_ e=>e.elim)) (λ_ e=>e.elim);have Fu:=ł Nz;generalize aL.sQ ⟨vs,BF,BG⟩=dq at *;clear hm2 hg2 Nz hc2 hf2 c0 c1 c2 p1;by_cases QJ:dq=true
         · subst QJ;go_wp2_with fail;obtain⟨wo,rfl⟩:∃ wo:World,wo=wr:=⟨_,rfl⟩
           go_loopw [40] (λt wr2=>∃ j:Nat,t = .int .i64 j/\j<=k/\Grow w2 wr2/\mD (l.take j) vs=true) (λt _=>k - (intOf t).toNat)
           case atStart=>exact⟨0,rfl,Nat.zero_le _,Mv.refl _ _,rfl⟩
           obtain⟨j,rfl,hj,hg3,hfr⟩:=hrel;have fP:=ł hg3;have BH:=ł hfr;have hrow3:=(HL.out.later Fu.out).later hg3;have BI:wr.cell? ⟨wo.heap.size,0,none⟩=some (.string vs):=by rw[(qB hg3).1 _ _ (by omega)];exact hn2
           have NA:=hg3.size;clear hg3 hfr;by_cases hjk:j<k
           · have hjl:j<l.length:=by omega
             have hcc:=hrow3.at' hjl;have c0:=hcc 0 _ rfl;have c1:=hcc 1 _ rfl;have c2:=hcc 2 _ rfl;simp only[Nat.add_zero]at c0;have aay:b<wr.heap.size:=World.block_lt_of_cell? wr _ c0;have hnl:wo.heap.size<wr.heap.size:=by omega
             have _j:=ł (Sq l vs j hjl);have _k:=ł (R6 l vs k j hjk hjl);generalize _l:l[j]=vj at *;obtain⟨js,jk,jn⟩:=vj;simp only at c0 c1 c2;clear hcc _l hrow3;have xW:=ł (IX js vs);by_cases GN:(js.toList == vs.toList)=true
             · have GQ:=ł (show(js == vs)=true from by rw[← xW.out];exact GN);go_wp2_with fail;go_ret;exact⟨aC (by rw[HB.out,QG.out (by rw[_k.out GQ.out];rfl)];simp),(Mv.trans Fu.out fP.out (λ_ e=>e.elim)).alloc _⟩
             · have Yx:(js.toList == vs.toList)=false:=by simpa using GN
               have GQ:=ł (show(js == vs)=false from by rw[← xW.out];exact Yx);clear GN;go_wp2_with fail
               go_roundw
               case rel=>exact⟨j+1,by go_num,by omega,fP.out.alloc _,by rw[_j.out,BH.out,GQ.out];rfl⟩
               case measure=>simp[intOf];omega
           · obtain rfl:j=k:=by omega
             clear hrow3;go_wp2_with fail
             go_roundw
             case rel=>exact⟨j+1,by go_num,by omega,Mv.trans HG2.out fP.out (λ_ e=>e.elim),by rw[HS.out,o8.out,BH.out];rfl⟩
             case measure=>simp[intOf];omega
         · have Yy:dq=false:=by simpa using QJ
           subst Yy;go_wp2_with fail;go_ret;exact⟨aC (by rw[HB.out,QG.out rfl];simp),Fu.out⟩
       · obtain rfl:k=l.length:=by omega
         clear hrow;go_wp2_with fail;go_ret;exact⟨aC (by rw[HB.out,o8.out];simp[h8]),QF.out⟩
     · go_wp2_with fail;go_ret;exact⟨aC (by rw[HB.out];simp[h8]),HM.out⟩
   · have hq2:q=false:=by simpa using hq
     subst hq2;go_wp2_with fail;go_ret;exact⟨aC (by rw[HB.out];rfl),HM.out⟩
end
end Go.Proofs.YtadecgbblajifaaGreatDoor
