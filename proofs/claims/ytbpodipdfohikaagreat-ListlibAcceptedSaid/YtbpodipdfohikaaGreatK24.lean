import Derived.Test.YtbpodipdfohikaaGreatK23
import Derived.StillTailTactics
set_option linter.unusedSimpArgs false
set_option linter.unusedVariables false
set_option maxRecDepth 100000
set_option maxHeartbeats 25600000
namespace Go.Proofs.YtbpodipdfohikaaGreat
open Go.RowKit Go.Instr
attribute [local go_sem ↓] gD
def pO (s:ByteArray):List Value:=[.string s]
structure mH (s:ai) (ps:List au) (bs:List ByteArray) (i:Nat) (L:List (au × Nat)):Prop where
 len:L.length=i
 vars:L.map Prod.fst=ps.take i
 ids:∀ u∈L,u.2<s.cells.length
 rest:s.args ps bs=match s.args (ps.drop i) (bs.drop i)with
  |.ok l => .ok (L ++ l)
  |.error e => .error e
theorem mH.zero (s:ai) (ps:List au) (bs:List ByteArray):mH s ps bs 0 []:=⟨rfl,rfl,λ_ h=>(by cases h),(by
 simp only[List.drop_zero,List.nil_append]
 cases s.args ps bs <;> rfl)⟩
theorem mH.none {s:ai} {ps:List au} {bs:List ByteArray} {i:Nat} {L:List (au × Nat)} (h:mH s ps bs i L) (h1:i<ps.length) (h2:i<bs.length) (hl:bz s.cur.vars bs[i]=none):s.args ps bs = .error 6:=by
 have:=h.rest
 rw[List.drop_eq_getElem_cons h1,List.drop_eq_getElem_cons h2,ai.args,hl]at this
 exact this
theorem mH.wrong {s:ai} {ps:List au} {bs:List ByteArray} {i:Nat} {L:List (au × Nat)} {u:au × Nat} (h:mH s ps bs i L) (h1:i<ps.length) (h2:i<bs.length) (hl:bz s.cur.vars bs[i]=some u) (hk:¬ (u.1.kind=ps[i].kind/\u.1.len=ps[i].len)):s.args ps bs = .error 7:=by
 have:=h.rest
 rw[List.drop_eq_getElem_cons h1,List.drop_eq_getElem_cons h2,ai.args,hl]at this
 simp only[if_neg hk]at this
 exact this
theorem mH.next {s:ai} {ps:List au} {bs:List ByteArray} {i:Nat} {L:List (au × Nat)} {u:au × Nat} (h:mH s ps bs i L) (h1:i<ps.length) (h2:i<bs.length) (hl:bz s.cur.vars bs[i]=some u) (hk:u.1.kind=ps[i].kind/\u.1.len=ps[i].len) (hu:u.2<s.cells.length):mH s ps bs (i+1) (L ++ [(ps[i],u.2)]):=by
 have:=h.rest
 rw[List.drop_eq_getElem_cons h1,List.drop_eq_getElem_cons h2,ai.args,hl]at this
 simp only[if_pos hk]at this
 refine⟨by simp[h.len],by rw[List.map_append,h.vars,List.take_succ_eq_append_getElem h1];rfl,λv hv => ?_,?_⟩
 · rcases List.mem_append.1 hv with hv|hv
   · exact h.ids v hv
   · rw[List.mem_singleton.1 hv];exact hu
 · rw[this]
   cases s.args (ps.drop (i+1)) (bs.drop (i+1))with
   |error e=>rfl
   |ok l=>simp
theorem mH.all {s:ai} {ps:List au} {bs:List ByteArray} {L:List (au × Nat)} (h:mH s ps bs ps.length L) (h2:bs.length=ps.length):s.args ps bs = .ok L/\L.map Prod.fst=ps:=by
 have e:s.args [] [] = .ok []:=by simp[ai.args]
 have:=h.rest
 rw[List.drop_length,← h2,List.drop_length,e]at this
 exact⟨by simpa using this,by rw[h.vars,List.take_length]⟩
structure sU (wb:World) (x:aM) (N:Nat) (w:World) (L:List (au × Nat)) (u1 u2:Value):Prop where
 g:Grow wb w
 blk:w.heap[N]? = some (.cells #[u1,u2,.int .i64 0] 131 (0,0))
 low:wb.heap.size<=N
 vars:w.ownsRow wb.heap.size 50 3 u1 (L.map Prod.fst).length (flat au.cells (L.map Prod.fst))
 cls:w.ownsRow wb.heap.size 136 1 u2 (L.map λu=>x.aH u.2).length (flat jK (L.map λu=>x.aH u.2))
theorem sU.later {wb:World} {x:aM} {N:Nat} {w w':World} {L:List (au × Nat)} {u1 u2:Value} (h:sU wb x N w L u1 u2) (hg:Grow w w'):sU wb x N w' L u1 u2:=⟨gtr h.g hg,ah h.blk hg,h.low,bu h.vars hg (λ_ _ e=>e),bu h.cls hg (λ_ _ e=>e)⟩
theorem sU.more {wb:World} {x:aM} {N:Nat} {w w':World} {L:List (au × Nat)} {u1 u2 v1 v2:Value} {d:au} {i:Nat} (h:sU wb x N w L u1 u2) (ha:BZ wb.heap.size N 0 #[u1,u2,.int .i64 0] 131 u1 u2 (L.map Prod.fst) (L.map λu=>x.aH u.2) d (x.aH i) w w' v1 v2):sU wb x N w' (L ++ [(d,i)]) v1 v2 :=
 ⟨bM h.g ha.mv (λg e=>by
  rcases e with rfl|e|e
  · exact h.low
  · exact(bP h.vars g e).1
  · exact(bP h.cls g e).1),by simpa using ha.blk,h.low,by simpa using ha.vars,by simpa using ha.cls⟩
theorem aG.entered {w0:World} {p:aB} {fuel k:Nat} {w w5 w6 w7:World} {x:aM} {s:ai} {N:Nat} {L:List (au × Nat)} {u1 u2:Value} {a:Option Addr} {c:Nat} (h:aG w0 p fuel k w x s) (hf:∀ b,w.heap.size<=b->x.ρ b = .other) (hN:sU w x N w5 L u1 u2) (ZH:∀ u∈L,u.2<s.cells.length)
 (hrow:w6.ownsRow w0.heap.size 131 3 (.slice a ((x.fv.tail.zip s.calls).length+1) c) ((x.fv.tail.zip s.calls) ++ [((u1,u2),(⟨L,0⟩:dQ))]).length (flat qf ((x.fv.tail.zip s.calls) ++ [((u1,u2),(⟨L,0⟩:dQ))]))) (yJ:Mv (λg=>x.cv.ownBlock=some g) w5 w6) (hnew:∀ g,(Value.slice a ((x.fv.tail.zip s.calls).length+1) c).ownBlock=some g->x.cv.ownBlock=some g\/w5.heap.size<=g)
 (h7:w7=w6.setCell ⟨x.S,3,none⟩ (.slice a ((x.fv.tail.zip s.calls).length+1) c)) (hcl:s.calls.length<100) (hL:L.length<=k+s.steps):∃ x',ax x x' w w7/\aG w0 p fuel k w7 x' { s with calls:=s.calls ++ [⟨L,0⟩] } := by
 have hg:=hN.g
 have h5:=h.later hg
 have hz:=uX h
 obtain⟨v,hv,hs⟩:=h5.store
 have ncv:x.cv.ownBlock≠some x.S:=bW h5.calls hs (by decide)
 have hs6:=(yJ.block x.S (lt_of_block hs) ncv).trans hs
 have AU:Mv (λg=>g=x.S) w6 w7:=by rw[h7];exact(Mv.refl (λg=>g=x.S) w6).setCell (p:=⟨x.S,3,none⟩) (.inl rfl) _
 have Fv:w7.heap[x.S]? = some (.cells #[v.1,v.2,.int .i64 s.base.locals,.slice a ((x.fv.tail.zip s.calls).length+1) c,.pointer (some ⟨x.tp,0,none⟩)] 134 (0,0)):=by
  have:=block_setCell (p:=⟨x.S,3,none⟩) hs6 rfl (.slice a ((x.fv.tail.zip s.calls).length+1) c)
  rw[h7,this];simp
 have hm:Mv (λg=>g=x.S\/x.cv.ownBlock=some g) w5 w7:=(yJ.mono λ_ e => .inl (.inr e)).trans AU (λ_ e => .inl (.inl e))
 have st:=h5.stays hm (λr=>r = .store\/r = .calls) (λg e _=>by
  rcases e with rfl|e
  · exact .inl h5.dY.2.1
  · exact .inr (h5.rl g e))
 have nk:∀ r:je,r ≠ .store->r ≠ .calls->¬ (r = .store\/r = .calls):=λr a b e=>e.elim a b
 have r7:=bu hrow AU (λg e e2=>(bW hrow hs6 (by decide):_≠_) (e2 ▸ e))
 have kv:=bu hN.vars hm (λg e e2=>by
  rcases e2 with rfl|e2
  · exact bW hN.vars hs (by decide) e
  · exact uN hN.vars h5.calls (by decide) g e e2)
 have kc:=bu hN.cls hm (λg e e2=>by
  rcases e2 with rfl|e2
  · exact bW hN.cls hs (by decide) e
  · exact uN hN.cls h5.calls (by decide) g e e2)
 have wk:∀ {e n:Nat} {v:Value} {m:Nat} {l:List Value},w7.ownsRow w.heap.size e n v m l->w7.ownsRow w0.heap.size e n v m l:=λh1=>⟨h1.1,h1.2.imp id (λ⟨g,cap,cur,e1,e2,e3⟩=>⟨g,cap,cur,e1,Nat.le_trans h.size e2,e3⟩)⟩
 let ρ':Nat->je:=λg=>if w.heap.size<=g/\u1.ownBlock=some g then .vars (s.calls.length+1)else if w.heap.size<=g/\u2.ownBlock=some g then .cls (s.calls.length+1)else if w5.heap.size<=g/\(Value.slice a ((x.fv.tail.zip s.calls).length+1) c).ownBlock=some g then .calls else x.ρ g
 have hρ:∀ g,x.ρ g ≠ .other->ρ' g=x.ρ g:=λg hn=>by
  have hgl:¬ w.heap.size<=g:=λh1=>hn (hf g h1)
  have e3:¬ w5.heap.size<=g:=by have:=hg.size;omega
  simp only[ρ',hgl,e3,false_and,if_false]
 have no:∀ {g:Nat} {r:je},x.ρ g=r->r ≠ .other->ρ' g=r:=λhr hn=>(hρ _ (by rw[hr];exact hn)).trans hr
 have hfl:x.fv.length=s.calls.length+1:=h.kL
 obtain⟨f0,fl,jP⟩:∃ f0 fl,x.fv=f0 :: fl:=by
  cases hq:x.fv with
  |nil=>rw[hq]at hfl;simp at hfl
  |cons a l=>exact⟨a,l,rfl⟩
 have nY:fl.length=s.calls.length:=by rw[jP]at hfl;simpa using hfl
 have ZI:((x.fv ++ [(u1,u2)]).tail.zip (s.calls ++ [⟨L,0⟩]))=(x.fv.tail.zip s.calls) ++ [((u1,u2),(⟨L,0⟩:dQ))]:=by
  rw[jP]
  simp only[List.cons_append,List.tail_cons]
  rw[List.zip_append nY]
  rfl
 refine⟨{ x with cv := .slice a ((x.fv.tail.zip s.calls).length+1) c,fv:=x.fv ++ [(u1,u2)],ρ:=ρ' },⟨rfl,rfl,λg hgl hn => ?_,?_,λg cs z hgb => ?_⟩,?_,st.run (nk _ (λe=>by cases e) (λe=>by cases e)),⟨v,?_,Fv⟩,st.tape (nk _ (λe=>by cases e) (λe=>by cases e)),by simp[hfl],λj hj hj' => ?_,?_,λi hi=>(st.cell i hi (nk _ (λe=>by cases e) (λe=>by cases e)) (nk _ (λe=>by cases e) (λe=>by cases e))).ext hρ rfl rfl,st.gQ (nk _ (λe=>by cases e) (λe=>by cases e)),h.pK,h.low,⟨no h.dY.1 (λe=>by cases e),no h.dY.2.1 (λe=>by cases e),no h.dY.2.2 (λe=>by cases e)⟩,λg hg'=>no (h.re g hg') (λe=>by cases e),λg hg' => ?_,⟨h.bd.1,λf hf' => ?_,by simp;omega,h.bd.2.2.2⟩⟩
 · have e1:¬ w.heap.size<=g:=by omega
   have e3:¬ w5.heap.size<=g:=by have:=hg.size;omega
   simp only[ρ',e1,e3,false_and,if_false];exact hn
 · refine(hg.mono (λ_ e=>e.elim)).trans hm (λg e => ?_)
   rcases e with rfl|e
   · exact .inl (by rw[h.dY.2.1];exact λe=>by cases e)
   · exact .inl (by rw[h.rl g e];exact λe=>by cases e)
 · have h1:=ah hgb hg
   rw[hm.block g (lt_of_block h1) (λe => ?_)]
   · exact h1
   · rcases e with rfl|e
     · rw[hs]at h1;simp only[Option.some.injEq,Obj.cells.injEq]at h1;exact absurd h1.2.1 (by decide)
     · exact bW h5.calls h1 (by decide) e
 · exact bM h5.g hm (λg e=>by
    rcases e with rfl|e
    · exact h.low.2.1
    · exact(bP h5.calls g e).1)
 · rw[List.getElem?_append_left (by omega)];exact hv
 · rcases Nat.lt_or_ge j x.fv.length with hj2|hj2
   · have qd:j<s.frames.length:=by rw[← h.QT];exact hj2
     have ea:(x.fv ++ [(u1,u2)])[j]'(by simp;omega)=x.fv[j]:=List.getElem_append_left hj2
     have eb:(ai.frames { s with calls:=s.calls ++ [⟨L,0⟩] })[j]=s.frames[j]:=by
      simp only[ai.frames,← List.cons_append]
      exact List.getElem_append_left qd
     simp only[ea,eb]
     exact(st.fr j hj2 qd (nk _ (λe=>by cases e) (λe=>by cases e)) (nk _ (λe=>by cases e) (λe=>by cases e))).ext hρ (λ_ _=>rfl) (Nat.le_refl _)
   · have CV:j<(x.fv ++ [(u1,u2)]).length:=hj
     have hjn:j=s.calls.length+1:=by simp at CV;omega
     subst hjn
     have ea:(x.fv ++ [(u1,u2)])[s.calls.length+1]'CV=(u1,u2):=by
      rw[List.getElem_append_right (by omega)]
      simp[hfl]
     have eb:(ai.frames { s with calls:=s.calls ++ [⟨L,0⟩] })[s.calls.length+1]=⟨L,0⟩:=by
      simp only[ai.frames,List.getElem_cons_succ]
      rw[List.getElem_append_right (by omega)]
      simp
     simp only[ea,eb]
     refine⟨wk kv,wk kc,λg hg' => ?_,λg hg' => ?_,ZH⟩
     · have hu:u1.ownBlock=some g:=hg'
       have h1:w.heap.size<=g:=(bP hN.vars g hu).1
       simp only[ρ',h1,hu,and_self,if_true]
     · have hu:u2.ownBlock=some g:=hg'
       have h1:w.heap.size<=g:=(bP hN.cls g hu).1
       have h2:u1.ownBlock≠some g:=λe=>uN hN.cls hN.vars (by decide) g hu e
       simp only[ρ',h1,h2,hu,and_self,and_false,if_true,if_false]
 · simp only[ZI]
   simpa using r7
 · have hg2:(Value.slice a ((x.fv.tail.zip s.calls).length+1) c).ownBlock=some g:=hg'
   rcases hnew g hg2 with e|e
   · exact no (h.rl g e) (λe=>by cases e)
   · have e1:u1.ownBlock≠some g:=λe'=>uN kv r7 (by decide) g e' hg2
     have e2:u2.ownBlock≠some g:=λe'=>uN kc r7 (by decide) g e' hg2
     simp only[ρ',e1,e2,and_false,if_false,e,hg2,and_self,if_true]
 · simp only[ai.frames,List.mem_cons,List.mem_append,List.mem_singleton]at hf'
   rcases hf' with rfl|hf' | hf' | hf'
   · exact h.bd.2.1 _ (by simp[ai.frames])
   · exact h.bd.2.1 f (by simp[ai.frames,hf'])
   · rw[hf'];exact⟨hL,by simp⟩
   · cases hf'
theorem Tryz.Yr:(Tryz.prog.info? 131).map (λi=>(i.zero,i.size,i.bytes))=some (some (.agg #[.slice none 0 0,.slice none 0 0,.int .i64 0]),3,56):=by kernel_rfl
theorem Tryz.Yt:Elem Tryz.prog 132 131 3 56:=Elem.of Tryz.underlying132 Tryz.Yr rfl (by decide) (by decide)
set_option maxRecDepth 100000 in
set_option maxHeartbeats 12800000 in
theorem TW (w0:World) (p:aB) (fuel k:Nat) (w:World) (x:aM) (s:ai) (pv av:Value) (ps:List au) (bs:List ByteArray) (h:aG w0 p fuel k w x s) (hp:ay 3 au.cells w pv ps) (ha:ay 1 pO w av bs) (hl:ps.length<=1000) (hf:∀ b,w.heap.size<=b->x.ρ b = .other) (hpk:ps.length<=k) :
 Calls Tryz.prog 136 #[.pointer (some ⟨x.S,0,none⟩),pv,av] w (eT w0 p fuel k x w (s.enter ps bs)):=by
 have HS:=Lib.hid h
 have HF:=Lib.hid hf
 obtain⟨va,vc,rfl,oF,hvl⟩:=hp.form
 obtain⟨aa,ac,rfl,hac,hal⟩:=ha.form
 have HP:=Lib.hid hp
 have HA:=Lib.hid ha
 have hB:=heap_alloc_new w (.cells #[.slice none 0 0,.slice none 0 0,.int .i64 0] 131)
 have hG1:Grow w (w.alloc (.cells #[.slice none 0 0,.slice none 0 0,.int .i64 0] 131)):=(Mv.refl _ w).alloc _
 have HN:=Lib.hid (show sU w x w.heap.size (w.alloc (.cells #[.slice none 0 0,.slice none 0 0,.int .i64 0] 131)) [] (.slice none 0 0) (.slice none 0 0)from⟨hG1,hB,Nat.le_refl _,World.ownsRow_nil _ _ _ _,World.ownsRow_nil _ _ _ _⟩)
 have HC:=Lib.hid (wN w0 p fuel k _ x s (h.later hG1))
 have HE:=Lib.hid (show s.enter ps bs=if ps.length≠bs.length then .error 7 else match s.args ps bs with
  |.error e => .error e
  |.ok l=>if 100<=s.calls.length then .error 19 else .ok { s with calls:=s.calls ++ [⟨l,0⟩] }from rfl)
 have hS:=h.store
 generalize s.enter ps bs=RES at *
 clear h hp ha hB hf
 by_cases hlen:ps.length=bs.length
 · have HLEN:=Lib.hid hlen
   rw[← hlen]at hac hal ⊢
   clear hlen
   go_enter Tryz.func136,Tryz.ntmps136
   go_wp2_with fail
   generalize (w.alloc (.cells #[.slice none 0 0,.slice none 0 0,.int .i64 0] 131))=w1 at *
   refine HC.out.mono ?_
   rintro e w2 ⟨⟨b,o,rfl,fJ⟩,rfl⟩
   have uA:=Lib.hid fJ
   clear HC fJ
   go_wp2_with fail
   go_loopw [23] (λt wr=>∃ (i:Nat) (L:List (au × Nat)) (u1 u2:Value),t = .int .i64 i/\i<=ps.length/\mH s ps bs i L/\sU w x w.heap.size wr L u1 u2) (λt _=>ps.length - (intOf t).toNat)
   case atStart=>exact⟨0,[],_,_,rfl,Nat.zero_le _,mH.zero _ _ _,HN.out⟩
   obtain⟨i,L,u1,u2,rfl,hi,hU,hN⟩:=hrel
   have HU:=Lib.hid hU
   have HX:=Lib.hid hN
   clear hU hN HN
   rcases Nat.lt_or_ge i ps.length with hlt|hge
   · have hlb:i<bs.length:=by have:=HLEN.out;omega
     have EX:decide ((i:Int)<ps.length)=true:=by simp;omega
     obtain⟨pb,po,jd,ep,_,hpc⟩:=(HP.out.later HX.out.g).at hlt
     obtain⟨ab,ao,ZJ,ea,_,hac⟩:=(HA.out.later HX.out.g).at hlb
     simp only[Value.slice.injEq,true_and]at ep ea
     obtain⟨rfl,rfl⟩:=ep
     obtain⟨rfl,-,rfl⟩:=ea
     have p0:=hpc 0 _ rfl
     have p1:=hpc 1 _ rfl
     have p2:=hpc 2 _ rfl
     have a0:=hac 0 _ rfl
     simp only[Nat.add_zero,Nat.mul_one]at p0 a0
     have hpb:=World.block_lt_of_cell? wr _ p0
     have hab:=World.block_lt_of_cell? wr _ a0
     simp only at hpb hab
     have dC:=Lib.hid (λhl=>HU.out.none hlt hlb hl)
     have Fw:=Lib.hid (λu hl hk=>HU.out.wrong (u:=u) hlt hlb hl hk)
     have gT:=Lib.hid (λu hl hk hu=>HU.out.next (u:=u) hlt hlb hl hk hu)
     clear hpc hac
     generalize ps[i]=d at *
     generalize bs[i]=an at *
     obtain⟨dn,dk,dl⟩:=d
     simp only at Fw gT
     have oK:=Lib.hid (show Grow wr (wr.alloc (.cells #[.string dn,.int .u8 dk,.int .i64 dl] 50))from(Mv.refl _ wr).alloc _)
     have iT:=Lib.hid (heap_alloc_new wr (.cells #[.string dn,.int .u8 dk,.int .i64 dl] 50))
     have HY:=Lib.hid (HS.out.later (gtr HX.out.g oK.out))
     have JE:=Lib.hid (HX.out.later oK.out)
     obtain⟨⟨d0,d1,d2⟩,hbl,hfz⟩:=HY.out.qJ uA.out
     have iQ:=Lib.hid (Bz b o (x.cur s).1 (s.cur.vars.map Prod.fst) an _ d0 (dW (f:=au.cells) (λ_=>rfl) HY.out.gY.vars))
     obtain⟨b0,b1,b2⟩:=dR iT.out
     have hbx:=lt_of_block iT.out
     clear hfz
     go_wp2_with fail
     generalize (wr.alloc (.cells #[.string dn,.int .u8 dk,.int .i64 dl] 50))=y at *
     refine iQ.out.mono ?_
     rintro e w3 ⟨⟨ix,rfl,hix⟩,rfl⟩
     clear iQ
     rcases hix.last with⟨rfl,hlv⟩|⟨j,hj,rfl,hlv⟩
     · have bT:=Lib.hid (show RES = .error 6 from by rw[HE.out,if_neg (by simp[HLEN.out]),dC.out hlv])
       clear hix hlv Fw gT dC d0 d1 d2 p0 p1 p2 a0
       go_wp2_with fail
       go_ret
       rw[bT.out]
       exact⟨⟨rfl,by decide⟩,.new HY.out.g (gtr HX.out.g oK.out)⟩
     · obtain⟨hic,hcell⟩:=HY.out.cellOf (List.getElem_mem hj)
       have fO:=dW (f:=au.cells) (λ_=>rfl) HY.out.gY.vars
       have mY:=dW (f:=jK) wV HY.out.gY.cls
       have hj1:j<(s.cur.vars.map Prod.fst).length:=by simpa using hj
       have hj2:j<(s.cur.vars.map λu=>x.aH u.2).length:=by simpa using hj
       obtain⟨vb,vo,OH,ev,_,vF⟩:=fO.at hj1
       obtain⟨qb,qo,Zq,ep,_,Ak⟩:=mY.at hj2
       rw[ev]at d0
       rw[ep]at d1
       simp only[List.length_map]at d0 d1
       have v1:=vF 1 _ rfl
       have v2:=vF 2 _ rfl
       have q0:=Ak 0 _ rfl
       simp only[Nat.add_zero,Nat.mul_one,List.getElem_map]at v1 v2 q0
       have hvb:=World.block_lt_of_cell? y _ v1
       have yz:=World.block_lt_of_cell? y _ q0
       simp only at hvb yz
       have OU:=Lib.hid (Fw.out _ hlv)
       have OV:=Lib.hid (λhk=>gT.out _ hlv hk hic)
       clear hix hlv Fw gT dC vF Ak fO mY ev ep p0 p1 p2 a0 hcell
       generalize s.cur.vars[j]=u at *
       obtain⟨⟨un,uk,ul⟩,ui⟩:=u
       simp only at *
       by_cases hk:uk=dk/\ul=dl
       · obtain⟨rfl,rfl⟩:=hk
         go_wp2_with fail
         go_region
         go_wp2_with fail
         refine wp_region_still_tail 8 (by kernel_rfl) (by kernel_rfl) ?_
         simp only[List.take_succ_cons,List.take_zero,List.drop_succ_cons,List.drop_zero]
         change wpStill _ _ y.drew.drew _ _ _
         repeat still_step
         refine wpStill_nil ?_
         change wpList _ _ _ _ _ y.drew.drew
         have HG2:=Lib.hid (show Grow y y.drew.drew from((Mv.refl _ y).drew).drew)
         have hny:=JE.out.later HG2.out
         have hLn:L.length<=900000:=by have:=HU.out.len;omega
         have pM:=Lib.hid (Ex w.heap.size w.heap.size 0 #[u1,u2,.int .i64 0] 131 u1 u2 (L.map Prod.fst) (L.map λu=>x.aH u.2) ⟨dn,uk,ul⟩ (x.aH ui) y.drew.drew hny.blk rfl rfl hny.vars hny.cls hny.g.size (by decide) (by decide) (by simpa using hLn) (by simpa using hLn))
         have HNZ:=Lib.hid hny
         clear hny
         generalize y.drew.drew=z at *
         go_wp2_with fail
         refine pM.out.mono ?_
         rintro e w6 ⟨rfl,v1',v2',hfa⟩
         have pY:=Lib.hid (HNZ.out.more hfa)
         clear hfa pM d0 d1 d2 v1 v2 q0 b0 b1 b2
         go_wp2_with fail
         go_roundw
         case rel=>exact⟨i+1,L ++ [(⟨dn,uk,ul⟩,ui)],v1',v2',by go_num,by omega,OV.out (by simp),pY.out⟩
         case measure=>simp[intOf] <;> omega
       · have bT:=Lib.hid (show RES = .error 7 from by rw[HE.out,if_neg (by simp[HLEN.out]),OU.out hk])
         have bJ:=Lib.hid (show eT w0 p fuel k x w RES (.returned (.int .i64 7)) y.drew from by
          rw[bT.out];exact⟨⟨rfl,by decide⟩,.new HY.out.g.drew (gtr HX.out.g oK.out).drew⟩)
         clear OU OV
         by_cases hk1:uk=dk
         · have hk2:¬ ul=dl:=λe=>hk ⟨hk1,e⟩
           subst hk1
           have e2:(ul != dl)=true:=by simpa using hk2
           clear hk hk2
           go_wp2_with fail
           go_region
           go_wp2_with fail
           go_ret
           exact bJ.out
         · have e1:(uk != dk)=true:=by simpa using hk1
           clear hk hk1
           go_wp2_with fail
           go_region
           go_wp2_with fail
           go_ret
           exact bJ.out
   · obtain rfl:i=ps.length:=by omega
     have OW:=HU.out.all HLEN.out.symm
     have HE2:=Lib.hid (show RES=if 100<=s.calls.length then .error 19 else .ok { s with calls:=s.calls ++ [⟨L,0⟩] }from by rw[HE.out,if_neg (by simp[HLEN.out]),OW.1])
     have AV:=Lib.hid HU.out.len
     have HID:=Lib.hid HU.out.ids
     have HS2:=Lib.hid (HS.out.later HX.out.g)
     obtain⟨sv,-,hst⟩:=HS2.out.store
     have s3:wr.cell? ⟨x.S,3,none⟩=some x.cv:=by simp[World.cell?,hst]
     have hsl:=lt_of_block hst
     have zt:=bB hst
     obtain⟨ca,cc,hcv⟩:=dX HS2.out.calls
     rw[uX HS2.out]at hcv
     rw[hcv]at s3
     have hcl:s.calls.length<=100:=HS.out.bd.2.2.1
     have hlt:decide ((ps.length:Int)<ps.length)=false:=by simp
     clear OW HU HE
     by_cases OX:100<=s.calls.length
     · have bT:=Lib.hid (show RES = .error 19 from by rw[HE2.out,if_pos OX])
       have hge:decide ((100:Int)<=s.calls.length)=true:=by simp;omega
       clear HE2 hst
       generalize s.calls.length=nc at *
       go_wp2_with fail
       go_ret
       rw[bT.out]
       exact⟨⟨rfl,by decide⟩,.new HS2.out.g HX.out.g⟩
     · have bT:=Lib.hid (show RES = .ok { s with calls:=s.calls ++ [⟨L,0⟩] }from by rw[HE2.out,if_neg OX])
       have hge:decide ((100:Int)<=s.calls.length)=false:=by simp;omega
       have hz:=uX HS.out
       have hgA:Grow wr ((wr.alloc (.cells #[u1,u2,.int .i64 0] 131)).drew):=((Mv.refl _ wr).alloc _).drew
       have hzl:(x.fv.tail.zip s.calls).length+1<=1000000:=by omega
       obtain⟨a4,c4,w4,⟨hok,jh,haw⟩,hr4,kJ,oJ⟩:=kz Tryz.Yt (f:=qf) zO x.cv (.slice (some ⟨wr.heap.size,0,none⟩) 1 1) (x.fv.tail.zip s.calls) [((u1,u2),(⟨L,0⟩:dQ))] w0.heap.size ((wr.alloc (.cells #[u1,u2,.int .i64 0] 131)).drew) (bu HS2.out.calls hgA (λ_ _ e=>e)) (ay.dF (f:=qf) (l:=[((u1,u2),(⟨L,0⟩:dQ))]) zO (show((wr.alloc (.cells #[u1,u2,.int .i64 0] 131)).drew).heap[wr.heap.size]? = _ from heap_alloc_new wr _) (by simp[flat,qf]) (by simp)) (λy hy u hu=>by
        have hy':y=((u1,u2),(⟨L,0⟩:dQ)):=by simpa using hy
        subst hy'
        obtain⟨a1,c1,e1⟩:=dX HX.out.vars
        obtain⟨a2,c2,e2⟩:=dX HX.out.cls
        simp only[qf,e1,e2,List.mem_cons,List.mem_nil_iff,or_false]at hu
        rcases hu with rfl|rfl|rfl <;> rfl) (Nat.le_trans HS2.out.size hgA.size) (by simpa using hzl)
       have hs4:=(kJ.block x.S (by have:=hgA.size;omega) (bW HS2.out.calls hst (by decide))).trans (ah hst hgA)
       have QV:=bB hs4
       have acm:=lt_of_block hs4
       have s4:w4.cell? ⟨x.S,3,none⟩=some x.cv:=by simp[World.cell?,hs4]
       obtain⟨⟨n0,n1,n2⟩,hnl⟩:=And.intro (dR HX.out.blk) (lt_of_block HX.out.blk)
       have jZ:=Lib.hid (HS.out.entered (w7:=w4.setCell ⟨x.S,3,none⟩ (.slice a4 ((x.fv.tail.zip s.calls).length+1) c4)) HF.out (HX.out.later hgA) HID.out hr4 kJ (λg hg=>oJ g hg) rfl (by omega) (by have:=AV.out;omega))
       rw[hcv]at hok jh haw s4
       rw[hz]at jZ
       clear HE2 hgA hr4 kJ oJ hs4 hst
       go_wp2_with fail
       go_region
       go_wp2_with fail
       go_ret
       rw[bT.out]
       exact⟨rfl,jZ.out⟩
 · have bT:=Lib.hid (show RES = .error 7 from by rw[HE.out,if_pos hlen])
   have hne:((ps.length:Int) != bs.length)=true:=by
    have:(ps.length:Int)≠bs.length:=by omega
    simpa using this
   have HG:=Lib.hid (qZ.new (x:=x) HS.out.g (Mv.refl _ w))
   clear HE hlen HC HN hS
   go_enter Tryz.func136,Tryz.ntmps136
   go_wp2_with fail
   go_ret
   rw[bT.out]
   exact⟨⟨rfl,by decide⟩,HG.out⟩
theorem Vx (w0:World) (p:aB) (fuel k:Nat) (w:World) (x:aM) (s:ai) (pv av:Value) (ps:List au) (bs:List ByteArray) (h:aG w0 p fuel k w x s) (hp:ay 3 au.cells w pv ps) (ha:ay 1 pO w av bs) (hl:ps.length<=1000) (hpk:ps.length<=k) :
 Calls Tryz.prog 136 #[.pointer (some ⟨x.S,0,none⟩),pv,av] w (eT w0 p fuel k x w (s.enter ps bs)):=by
 obtain⟨x1,hr,hf,h1⟩:=h.fresh
 have:=TW w0 p fuel k w x1 s pv av ps bs h1 hp ha hl hf hpk
 rw[hr.S]at this
 exact this.mono λe w' hq=>hq.trans hr
end Go.Proofs.YtbpodipdfohikaaGreat
