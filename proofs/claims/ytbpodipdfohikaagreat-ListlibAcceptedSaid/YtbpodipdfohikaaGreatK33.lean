import Derived.Test.YtbpodipdfohikaaGreatK25
set_option linter.unusedSimpArgs false
set_option linter.unusedVariables false
set_option maxRecDepth 100000
set_option maxHeartbeats 25600000
namespace Go.Proofs.YtbpodipdfohikaaGreat
open Go.RowKit Go.Instr
theorem Ub {l:List au} {n:ByteArray} {i j:Int} (h:sS l n i) (k:sS l n j):i=j:=by
 rcases h with⟨rfl,h⟩|⟨a,ha,rfl,h1,h2⟩ <;> rcases k with⟨rfl,k⟩|⟨b,hb,rfl,k1,k2⟩
 · rfl
 · have:=h b hb;rw[k1]at this;cases this
 · have:=k a ha;rw[h1]at this;cases this
 · rcases Nat.lt_trichotomy a b with e|e|e
   · have:=h2 b hb e;rw[k1]at this;cases this
   · rw[e]
   · have:=k2 a ha e;rw[h1]at this;cases this
theorem wT (l:List au) (n:ByteArray):∃ i,sS l n i:=by
 induction l with
 |nil=>exact⟨-1,.inl ⟨rfl,λj h=>by simp at h⟩⟩
 |cons a l ih =>
  obtain⟨i,hi⟩:=ih
  rcases hi with⟨rfl,h⟩|⟨j,hj,rfl,h1,h2⟩
  · by_cases hn:(a.name == n)=true
    · refine⟨0,.inr ⟨0,by simp,rfl,hn,λj' h' hlt => ?_⟩⟩
      obtain⟨m,rfl⟩:∃ m,j'=m+1:=⟨j' - 1,by omega⟩
      exact h m (by simpa using h')
    · refine⟨-1,.inl ⟨rfl,λj hj => ?_⟩⟩
      cases j with
      |zero=>simpa using hn
      |succ m=>exact h m (by simpa using hj)
  · refine⟨(j+1:Nat),.inr ⟨j+1,by simpa using hj,rfl,h1,λj' h' hlt => ?_⟩⟩
    obtain⟨m,rfl⟩:∃ m,j'=m+1:=⟨j' - 1,by omega⟩
    exact h2 m (by simpa using h') (by omega)
theorem VN {V:List (au × Nat)} {n:ByteArray} {u:au × Nat} (h:bz V n=some u):∃ j,∃ hj:j<V.length,sS (V.map Prod.fst) n j/\V[j]=u:=by
 obtain⟨i,hi⟩:=wT (V.map Prod.fst) n
 rcases hi.last with⟨rfl,h2⟩|⟨j,hj,rfl,h2⟩
 · rw[h2]at h;cases h
 · exact⟨j,hj,hi,by rw[h2]at h;exact Option.some.inj h⟩
set_option maxRecDepth 100000 in
set_option maxHeartbeats 3200000 in
theorem Ef (w0:World) (p:aB) (fuel k:Nat) (w:World) (x:aM) (s:ai) (n:ByteArray) (u:au × Nat) (h:aG w0 p fuel k w x s) (hu:bz s.cur.vars n=some u):Calls Tryz.prog 150 #[.pointer (some ⟨x.S,0,none⟩),.string n] w λe w'=>e = .returned (.pointer (some ⟨x.aH u.2,0,none⟩))/\∃ m,w'=w.drewN m:=by
 have HS:=Lib.hid h
 have HC:=Lib.hid (wN w0 p fuel k w x s h)
 have hvl:s.cur.vars.length<=9223372036854775807:=by
  obtain⟨_,_,e,_,h⟩:=(dW (f:=au.cells) (λ_=>rfl) h.gY.vars).form
  simpa using h
 obtain⟨j,hj,hix,RH⟩:=VN hu
 have qh:=Lib.hid hix
 clear h hu hix
 go_enter Tryz.func150,Tryz.ntmps150
 go_wp2_with fail
 refine HC.out.mono ?_
 rintro e w2 ⟨⟨b,o,rfl,fJ⟩,rfl⟩
 obtain⟨⟨d0,d1,d2⟩,hbl,hfz⟩:=HS.out.qJ fJ
 have iQ:=Lib.hid (λm=>(Bz b o (x.cur s).1 (s.cur.vars.map Prod.fst) n (w.drewN m) (cZ d0 (su (Mv.refl _ w) m)) (dW (f:=au.cells) (λ_=>rfl) (HS.out.later (su (Mv.refl _ w) m)).gY.vars)).mono (R':=λe w'=>e = .returned (.int .i64 (j:Int))/\w'=w.drewN m) (λe w' hq=>by
  obtain⟨⟨i,rfl,hi⟩,rfl⟩:=hq
  exact⟨by rw[Ub hi qh.out],rfl⟩))
 have hrow:=dW (f:=jK) wV HS.out.gY.cls
 have hj2:j<(s.cur.vars.map λu=>x.aH u.2).length:=by simpa using hj
 obtain⟨pb,po,jd,e,_,hcc⟩:=hrow.at hj2
 rw[e]at d1
 have p0:=hcc 0 _ rfl
 simp only[Nat.add_zero,Nat.mul_one,List.getElem_map,RH]at p0
 have hpl:=World.block_lt_of_cell? w _ p0
 simp only at hpl
 simp only[List.length_map]at d1
 clear hcc hrow e RH hj2 fJ
 generalize s.cur.vars.length=nv at *
 go_wp2_with fail
 go_quiet ((go_at_call 135;exact Calls.quiet_of_same (iQ.out _)))
 go_wp2_with fail
 go_ret
 exact⟨rfl,nq,rfl⟩
theorem row_one {base g cap:Nat} {w w':World} {a b:Int} {e t:TypeId} {cs:Array Value} (h:w.ownsRow base e 1 (.slice (some ⟨g,0,none⟩) 1 cap) [a].length (flat aU [a])) (hb:w.heap[g]? = some (.cells cs t (0,0))) (hb':w'.heap[g]? = some (.cells (cs.setIfInBounds 0 (.int .i64 b)) t (0,0))):w'.ownsRow base e 1 (.slice (some ⟨g,0,none⟩) 1 cap) [b].length (flat aU [b]):=by
 refine⟨by simp[flat,aU],.inr ?_⟩
 rcases h.2 with⟨e1,-⟩|⟨g',cap',cur,e1,h1,h2,h3,h4,h5,h6⟩
 · cases e1
 · simp only[List.length_cons,List.length_nil,Nat.zero_add,Value.slice.injEq,Option.some.injEq,Addr.mk.injEq,true_and,and_true]at e1
   obtain⟨rfl,rfl⟩:=e1
   rw[hb]at h2
   simp only[Option.some.injEq,Obj.cells.injEq,and_true]at h2
   obtain⟨rfl,rfl⟩:=h2
   refine⟨g,cap,_,by simp,h1,hb',by simpa using h3,h4,by simpa using h5,?_⟩
   simp only[Array.toList_setIfInBounds,List.length_cons,List.length_nil,Nat.zero_add,Nat.mul_one]at h6 ⊢
   rw[List.take_set,h6]
   rfl
theorem aG.moved {w0:World} {p:aB} {fuel k:Nat} {w w':World} {x:aM} {s:ai} {u v g:Nat} {iu:Value} {cu:List Int} {nv:Int} {cap:Nat} (h:aG w0 p fuel k w x s) (hf:∀ b,w.heap.size<=b->x.ρ b = .other) (hu:u<s.cells.length) (hv:v<s.cells.length) (huv:u≠v) (hgv:x.iv v = .slice (some ⟨g,0,none⟩) 1 cap)
 (hm:Mv (λb=>(x.iv u).ownBlock=some b\/b=x.aH u\/b=g) w w') (hbu:w'.heap[x.aH u]? = some (.cells #[iu] 138 (0,0))) (hru:w'.ownsRow w0.heap.size 3 1 iu cu.length (flat aU cu)) (hnu:∀ b,iu.ownBlock=some b->(x.iv u).ownBlock=some b\/w.heap.size<=b) (hl:cu.length<=1000)
 (fO:w'.ownsRow w0.heap.size 3 1 (x.iv v) [nv].length (flat aU [nv])):∃ x',ax x x' w w'/\aG w0 p fuel k w' x' { s with cells:=(s.cells.set u cu).set v [nv] } := by
 have cU:=h.cell u hu
 have cV:=h.cell v hv
 have og:(x.iv v).ownBlock=some g:=by rw[hgv];rfl
 have rg:x.ρ g = .items v:=cV.ri g og
 let ρ':Nat->je:=λb=>if w.heap.size<=b/\iu.ownBlock=some b then .items u else x.ρ b
 have hρ:∀ b,x.ρ b ≠ .other->ρ' b=x.ρ b:=λb hn=>by
  have:¬ w.heap.size<=b:=λe=>hn (hf b e)
  simp only[ρ',this,false_and,if_false]
 let x1:aM := { x with ρ:=ρ',iv:=λi=>if i=u then iu else x.iv i }
 have no:∀ {b:Nat} {r:je},x.ρ b=r->r ≠ .other->ρ' b=r:=λhr hn=>(hρ _ (by rw[hr];exact hn)).trans hr
 have BX:∀ b,((x.iv u).ownBlock=some b\/b=x.aH u\/b=g)->x.ρ b = .items u\/x.ρ b = .cell u\/x.ρ b = .items v:=λb e=>by
  rcases e with e|rfl|rfl
  · exact .inl (cU.ri b e)
  · exact .inr (.inl cU.rb)
  · exact .inr (.inr rg)
 have st:=h.stays hm (λr=>r = .items u\/r = .cell u\/r = .items v) (λb e _=>BX b e)
 have nk:∀ r:je,(∀ i,r ≠ .items i)->(∀ i,r ≠ .cell i)->¬ (r = .items u\/r = .cell u\/r = .items v):=λr h1 h2 e=>by
  rcases e with e|e|e
  · exact h1 _ e
  · exact h2 _ e
  · exact h1 _ e
 obtain⟨b0,hb0,hs0⟩:=st.store (nk _ (λ_ e=>by cases e) (λ_ e=>by cases e))
 refine⟨x1,⟨rfl,rfl,λb hb e => ?_,hm.mono λb e => .inl (by rcases BX b e with e|e|e <;> rw[e] <;> exact λe=>by cases e),λb cs z hb => ?_⟩,⟨?_,st.run (nk _ (λ_ e=>by cases e) (λ_ e=>by cases e)),⟨b0,hb0,hs0⟩,st.tape (nk _ (λ_ e=>by cases e) (λ_ e=>by cases e)),h.kL,λj hj hj' => ?_,st.calls (nk _ (λ_ e=>by cases e) (λ_ e=>by cases e)),λi hi => ?_,st.gQ (nk _ (λ_ e=>by cases e) (λ_ e=>by cases e)),h.pK,h.low,⟨no h.dY.1 (λe=>by cases e),no h.dY.2.1 (λe=>by cases e),no h.dY.2.2 (λe=>by cases e)⟩,λb hb=>no (h.re b hb) (λe=>by cases e),λb hb=>no (h.rl b hb) (λe=>by cases e),?_⟩⟩
 · have:¬ w.heap.size<=b:=by omega
   simp only[x1,ρ',this,false_and,if_false];exact e
 · rw[hm.block b (lt_of_block hb) (λe => ?_)]
   · exact hb
   · rcases e with e|rfl|rfl
     · obtain⟨-,c2,z2,h2⟩:=bP cU.row b e
       rw[hb]at h2
       simp only[Option.some.injEq,Obj.cells.injEq]at h2
       exact absurd h2.2.1 (by decide)
     · have h2:=cU.blk
       rw[hb]at h2
       simp only[Option.some.injEq,Obj.cells.injEq]at h2
       exact absurd h2.2.1 (by decide)
     · obtain⟨-,c2,z2,h2⟩:=bP cV.row b og
       rw[hb]at h2
       simp only[Option.some.injEq,Obj.cells.injEq]at h2
       exact absurd h2.2.1 (by decide)
 · refine bM h.g hm (λb e => ?_)
   rcases e with e|rfl|rfl
   · exact(bP cU.row b e).1
   · exact cU.low
   · exact(bP cV.row b og).1
 · have hl2:((s.cells.set u cu).set v [nv]).length=s.cells.length:=by simp
   have:=(st.fr j hj hj' (nk _ (λ_ e=>by cases e) (λ_ e=>by cases e)) (nk _ (λ_ e=>by cases e) (λ_ e=>by cases e))).ext (x':=x1) (m':=s.cells.length) hρ (λi _=>rfl) (Nat.le_refl _)
   simp only[hl2]
   exact this
 · have hi2:i<s.cells.length:=by simpa using hi
   by_cases e1:i=u
   · subst e1
     have e2:((s.cells.set i cu).set v [nv])[i]=cu:=by rw[List.getElem_set_ne (Ne.symm huv),List.getElem_set_self]
     simp only[e2]
     refine⟨by simp only[x1,if_true];exact hbu,cU.low,no cU.rb (λe=>by cases e),by simp only[x1,if_true];exact hru,λb hb => ?_,hl⟩
     simp only[x1,if_true]at hb
     rcases hnu b hb with e|e
     · exact no (cU.ri b e) (λe=>by cases e)
     · simp only[x1,ρ',e,hb,true_and,if_true]
   · by_cases e2:i=v
     · subst e2
       have e3:((s.cells.set u cu).set i [nv])[i]=[nv]:=by rw[List.getElem_set_self]
       simp only[e3]
       have hbl:=st.cell
       refine⟨?_,cV.low,no cV.rb (λe=>by cases e),by simp only[x1,e1,if_false];exact fO,λb hb => ?_,by simp⟩
       · simp only[x1,e1,if_false]
         rw[hm.block _ (lt_of_block cV.blk) (λe => ?_)]
         · exact cV.blk
         · have:=BX _ e
           rw[cV.rb]at this
           rcases this with e|e|e
           · cases e
           · cases e;exact huv rfl
           · cases e
       · simp only[x1,e1,if_false]at hb
         exact no (cV.ri b hb) (λe=>by cases e)
     · have e3:((s.cells.set u cu).set v [nv])[i]=s.cells[i]:=by rw[List.getElem_set_ne (Ne.symm e2),List.getElem_set_ne (Ne.symm e1)]
       simp only[e3]
       refine(st.cell i hi2 (λe => ?_) (λe => ?_)).ext (x':=x1) hρ rfl (by simp only[x1,e1,if_false])
       · rcases e with e|e|e
         · cases e
         · cases e;exact e1 rfl
         · cases e
       · rcases e with e|e|e
         · cases e;exact e1 rfl
         · cases e
         · cases e;exact e2 rfl
 · simp only[List.length_set]
   exact h.bd
attribute [local go_sem ↓] gD
theorem Tryz.YE:(Tryz.prog.info? 3).map (λi=>(i.zero,i.size,i.bytes))=some (some (.int .i64 0),1,8):=by kernel_rfl
theorem Tryz.YF:Elem Tryz.prog 22 3 1 8:=Elem.of Tryz.underlying22 Tryz.YE rfl (by decide) (by decide)
def tq (s:ai) (u v:Nat) (c:List Int) (val:Int):Except Int ai:=if 1000<=c.length then .error 5 else .ok { s with cells:=(s.cells.set u (c ++ [val])).set v [0] }
def pV (s:ai) (u v:Nat) (c:List Int) (val:Int):Except Int ai:=if c.length=0 then .error 13 else if val≠0 then .error 14 else .ok { s with cells:=(s.cells.set u c.dropLast).set v [c.getLast?.getD 0] }
theorem aG.MK {w0:World} {p:aB} {fuel k:Nat} {w:World} {x:aM} {s:ai} {u v g cap:Nat} {c:List Int} {val:Int} (h:aG w0 p fuel k w x s) (hu:s.cells[u]? = some c) (hv:s.cells[v]? = some [val]) (hgv:x.iv v = .slice (some ⟨g,0,none⟩) 1 cap) :
 ∃ ia ic,x.iv u = .slice ia c.length ic/\c.length<=1000/\w.heap[x.aH u]? = some (.cells #[.slice ia c.length ic] 138 (0,0))/\w.ownsRow w0.heap.size 3 1 (.slice ia c.length ic) c.length (flat aU c) /\
  w.ownsRow w0.heap.size 3 1 (x.iv v) [val].length (flat aU [val])/\(∃ cs,w.heap[g]? = some (.cells cs 3 (0,0))/\cs[0]? = some (.int .i64 val))/\(u≠v->(x.iv u).ownBlock≠some g)/\g≠x.aH u/\u<s.cells.length/\v<s.cells.length:=by
 obtain⟨lu,eu⟩:=List.getElem?_eq_some_iff.1 hu
 obtain⟨lv,ev⟩:=List.getElem?_eq_some_iff.1 hv
 have cU:=h.cell u lu
 have cV:=h.cell v lv
 rw[eu]at cU
 rw[ev]at cV
 obtain⟨ia,ic,hi⟩:=dX cU.row
 have og:(x.iv v).ownBlock=some g:=by rw[hgv];rfl
 have hblk:=cU.blk
 have hrow:=cU.row
 have hg:∃ cs,w.heap[g]? = some (.cells cs 3 (0,0))/\cs[0]? = some (.int .i64 val):=by
  rcases cV.row.2 with⟨e,h0⟩|⟨g',cap',cur,e,h1,h2,h3,h4,h5,h6⟩
  · rw[hgv]at e;cases e
  · rw[hgv]at e
    simp only[List.length_cons,List.length_nil,Nat.zero_add,Value.slice.injEq,Option.some.injEq,Addr.mk.injEq,true_and,and_true]at e
    obtain⟨rfl,rfl⟩:=e
    refine⟨cur,h2,?_⟩
    have h7:(cur.toList.take 1)[0]? = some (.int .i64 val):=by
     have:cur.toList.take 1=flat aU [val]:=by simpa using h6
     rw[this];rfl
    rw[List.getElem?_take_of_lt (by omega)]at h7
    simpa using h7
 refine⟨ia,ic,hi,cU.few,by rw[← hi];exact hblk,by rw[← hi];exact hrow,cV.row,hg,λhn e => ?_,λe => ?_,lu,lv⟩
 · have h1:=cU.ri g e
   have h2:=cV.ri g og
   rw[h1]at h2
   cases h2;exact hn rfl
 · have h2:=cV.ri g og
   rw[e,cU.rb]at h2;cases h2
set_option maxRecDepth 100000 in
set_option maxHeartbeats 6400000 in
theorem VO (w0:World) (p:aB) (fuel k:Nat) (w:World) (x:aM) (s:ai) (u v g cap:Nat) (c:List Int) (val:Int) (h:aG w0 p fuel k w x s) (hf:∀ b,w.heap.size<=b->x.ρ b = .other) (hu:s.cells[u]? = some c) (hv:s.cells[v]? = some [val]) (huv:u≠v) (hgv:x.iv v = .slice (some ⟨g,0,none⟩) 1 cap) :
 Calls Tryz.prog 152 #[.int .u8 44,.pointer (some ⟨g,0,none⟩),.pointer (some ⟨x.aH u,0,none⟩)] w (eT w0 p fuel k x w (tq s u v c val)):=by
 obtain⟨ia,ic,hi,hc,hb,hr,fO,⟨cs,hg,hg0⟩,qj,hga,lu,lv⟩:=h.MK hu hv hgv
 have qj:=qj huv
 have c0:w.cell? ⟨x.aH u,0,none⟩=some (.slice ia c.length ic):=by simp[World.cell?,hb]
 have g0:w.cell? ⟨g,0,none⟩=some (.int .i64 val):=by simp[World.cell?,hg,hg0]
 have hbl:=lt_of_block hb
 have hgl:=lt_of_block hg
 have HS:=Lib.hid h
 by_cases EF:1000<=c.length
 · have hd:decide ((1000:Int)<=c.length)=true:=by simp;omega
   have HR:=Lib.hid (show tq s u v c val = .error 5 from by unfold tq;rw[if_pos EF])
   clear h hr fO hi hb hg hg0 hu hv EF
   generalize c.length=n at *
   go_enter Tryz.func152,Tryz.ntmps152
   go_wp2_with fail
   go_ret
   rw[HR.out]
   exact⟨⟨rfl,by decide⟩,.new HS.out.g (Mv.refl _ _)⟩
 · have hd:decide ((1000:Int)<=c.length)=false:=by simp;omega
   have HR:=Lib.hid (show tq s u v c val = .ok { s with cells:=(s.cells.set u (c ++ [val])).set v [0] }from by unfold tq;rw[if_neg EF])
   have hgA:Grow w ((w.alloc (.cells #[.int .i64 val] 3)).drew):=((Mv.refl _ w).alloc _).drew
   obtain⟨a4,c4,w4,⟨hok,jh,haw⟩,hr4,kJ,oJ⟩:=kz Tryz.YF (f:=aU) jk (.slice ia c.length ic) (.slice (some ⟨w.heap.size,0,none⟩) 1 1) c [val] w0.heap.size ((w.alloc (.cells #[.int .i64 val] 3)).drew) (bu hr hgA (λ_ _ e=>e)) (ay.dF (f:=aU) (l:=[val]) jk (show((w.alloc (.cells #[.int .i64 val] 3)).drew).heap[w.heap.size]? = _ from heap_alloc_new w _) (by simp[flat,aU]) (by simp)) (λy hy u hu=>by simp[aU]at hu;subst hu;rfl) (Nat.le_trans h.size hgA.size) (by simp;omega)
   simp only[List.length_cons,List.length_nil,Nat.zero_add]at hr4 oJ
   rw[hi]at qj
   have nb:(Value.slice ia c.length ic).ownBlock≠some (x.aH u):=bW hr hb (by decide)
   have hWs:((w.alloc (.cells #[.int .i64 val] 3)).drew).heap.size=w.heap.size+1:=by show(World.alloc _ _).heap.size=_;simp
   have hb4:=(kJ.block (x.aH u) (by omega) nb).trans (ah hb hgA)
   have hg4:=(kJ.block g (by omega) qj).trans (ah hg hgA)
   have QV:=bB hb4
   have ZC:=lt_of_block hb4
   have s4:w4.cell? ⟨x.aH u,0,none⟩=some (.slice ia c.length ic):=by simp[World.cell?,hb4]
   have hb5:=block_setCell (p:=⟨x.aH u,0,none⟩) hb4 rfl (.slice a4 (c.length+1) c4)
   have uz:=(Mv.refl (λb=>b=x.aH u) w4).setCell (p:=⟨x.aH u,0,none⟩) (.inl rfl) (.slice a4 (c.length+1) c4)
   have hg5:=(uz.block g (lt_of_block hg4) hga).trans hg4
   have fK:=bu hr4 uz (λb e e2=>by
    subst e2
    rcases oJ _ e with e|e
    · exact nb e
    · omega)
   have J3:(w4.setCell ⟨x.aH u,0,none⟩ (.slice a4 (c.length+1) c4)).heap.size=w4.heap.size:=World.size_setCell ..
   have O9:Mv (λb=>(x.iv u).ownBlock=some b\/b=x.aH u\/b=g) w (w4.setCell ⟨x.aH u,0,none⟩ (.slice a4 (c.length+1) c4)):=((hgA.mono (λ_ e=>e.elim)).trans (kJ.mono (O1:=λb=>(x.iv u).ownBlock=some b\/b=x.aH u\/b=g) (λb e => .inl (.inl (by rw[hi];exact e)))) (λ_ e => .inl e)).trans (uz.mono (O1:=λb=>(x.iv u).ownBlock=some b\/b=x.aH u\/b=g) (λb e => .inl (.inr (.inl e)))) (λ_ e => .inl e)
   generalize ZX:w4.setCell ⟨x.aH u,0,none⟩ (.slice a4 (c.length+1) c4)=w5 at *
   have FC:=bB hg5
   have acy:=lt_of_block hg5
   have g5:w5.cell? ⟨g,0,none⟩=some (.int .i64 val):=by simp[World.cell?,hg5,hg0]
   have mo:=block_setCell (p:=⟨g,0,none⟩) hg5 rfl (.int .i64 0)
   have yJ:=(Mv.refl (λb=>b=g) w5).setCell (p:=⟨g,0,none⟩) (.inl rfl) (.int .i64 0)
   have jZ:=Lib.hid (h.moved (w':=w5.setCell ⟨g,0,none⟩ (.int .i64 0)) (u:=u) (v:=v) (g:=g) (iu := .slice a4 (c.length+1) c4) (cu:=c ++ [val]) (nv:=0) hf lu lv huv hgv (O9.trans (yJ.mono (O1:=λb=>(x.iv u).ownBlock=some b\/b=x.aH u\/b=g) (λb e => .inl (.inr (.inr e)))) (λ_ e => .inl e)) ((yJ.block _ (lt_of_block hb5) (Ne.symm hga)).trans hb5) (bu fK yJ (λb e e2=>by
    subst e2
    rcases oJ _ e with e|e
    · exact qj e
    · omega)) (λb e=>(oJ b e).imp (λe=>by rw[hi];exact e) (λe=>by omega)) (by simp;omega) (by
    rw[hgv]
    exact row_one (w:=w) (a:=val) (by rw[← hgv];exact fO) hg mo))
   have HS2:=HS
   clear h hr fO hb hg hg0 hu hv EF hr4 kJ oJ hb4 hg4 hb5 uz hg5 fK J3 O9 mo yJ hf hgA hWs
   generalize c.length=n at *
   go_enter Tryz.func152,Tryz.ntmps152
   go_wp2_with fail
   go_region
   try simp only[ZX]
   go_wp2_with fail
   go_ret
   rw[HR.out]
   exact⟨rfl,jZ.out⟩
set_option maxRecDepth 100000 in
set_option maxHeartbeats 6400000 in
theorem WY (w0:World) (p:aB) (fuel k:Nat) (w:World) (x:aM) (s:ai) (u v g cap:Nat) (c:List Int) (val:Int) (h:aG w0 p fuel k w x s) (hf:∀ b,w.heap.size<=b->x.ρ b = .other) (hu:s.cells[u]? = some c) (hv:s.cells[v]? = some [val]) (huv:u≠v) (hgv:x.iv v = .slice (some ⟨g,0,none⟩) 1 cap) :
 Calls Tryz.prog 152 #[.int .u8 45,.pointer (some ⟨g,0,none⟩),.pointer (some ⟨x.aH u,0,none⟩)] w (eT w0 p fuel k x w (pV s u v c val)):=by
 obtain⟨ia,ic,hi,hc,hb,hr,fO,⟨cs,hg,hg0⟩,qj,hga,lu,lv⟩:=h.MK hu hv hgv
 have qj:=qj huv
 have c0:w.cell? ⟨x.aH u,0,none⟩=some (.slice ia c.length ic):=by simp[World.cell?,hb]
 have g0:w.cell? ⟨g,0,none⟩=some (.int .i64 val):=by simp[World.cell?,hg,hg0]
 have hbl:=lt_of_block hb
 have hgl:=lt_of_block hg
 have HS:=Lib.hid h
 by_cases hE:c=[]
 · have HR:=Lib.hid (show pV s u v c val = .error 13 from by unfold pV;rw[if_pos (by rw[hE];rfl)])
   have hd:((c.length:Int) == 0)=true:=by rw[hE];rfl
   clear h hr fO hi hb hg hg0 hu hv hE
   generalize c.length=n at *
   go_enter Tryz.func152,Tryz.ntmps152
   go_wp2_with fail
   go_ret
   rw[HR.out]
   exact⟨⟨rfl,by decide⟩,.new HS.out.g (Mv.refl _ _)⟩
 obtain⟨l,e,rfl⟩:∃ l e,c=l ++ [e]:=⟨c.dropLast,c.getLast hE,(List.dropLast_concat_getLast hE).symm⟩
 have hln:(l ++ [e]).length=l.length+1:=by simp
 have hd:(((l.length+1:Nat):Int) == 0)=false:=by
  have:((l.length+1:Nat):Int)≠0:=by omega
  simpa using this
 by_cases hval:val=0
 · subst hval
   have HR:=Lib.hid (show pV s u v (l ++ [e]) 0 = .ok { s with cells:=(s.cells.set u l).set v [e] }from by unfold pV;rw[if_neg (by simp),if_neg (by simp)];simp)
   obtain⟨ab,ao,ZJ,ea,_,hcc⟩:=(dW (f:=aU) jk hr).at (i:=l.length) (by simp)
   have a0:=hcc 0 (.int .i64 e) (by simp[aU])
   rw[hln]at ea
   simp only[Nat.add_zero,Nat.mul_one]at a0
   have hal:=World.block_lt_of_cell? w _ a0
   simp only at hal
   rw[hi]at qj
   have nb:(Value.slice ia (l ++ [e]).length ic).ownBlock≠some (x.aH u):=bW hr hb (by decide)
   have hg1:=block_setCell (p:=⟨g,0,none⟩) hg rfl (.int .i64 e)
   have hm1:=(Mv.refl (λb=>b=g) w).setCell (p:=⟨g,0,none⟩) (.inl rfl) (.int .i64 e)
   have hb1:=(hm1.block _ hbl (Ne.symm hga)).trans hb
   have hr1:=bu hr hm1 (λb e e2=>by subst e2;exact qj e)
   have Pb:(w.setCell ⟨g,0,none⟩ (.int .i64 e)).ownsRow w0.heap.size 3 1 (.slice (some ⟨g,0,none⟩) 1 cap) [e].length (flat aU [e]):=row_one (w:=w) (a:=0) (by rw[← hgv];exact fO) hg hg1
   have hzg:=bB hg
   generalize acz:w.setCell ⟨g,0,none⟩ (.int .i64 e)=w1 at *
   have hz1:=bB hb1
   have OP:=lt_of_block hb1
   have c1:w1.cell? ⟨x.aH u,0,none⟩=some (.slice ia (l ++ [e]).length ic):=by simp[World.cell?,hb1]
   have hb2:=block_setCell (p:=⟨x.aH u,0,none⟩) hb1 rfl (.slice ia l.length ic)
   have hm2:=(Mv.refl (λb=>b=x.aH u) w1).setCell (p:=⟨x.aH u,0,none⟩) (.inl rfl) (.slice ia l.length ic)
   have hr1':=BF (f:=aU) jk (by rw[← hln];exact hr1)
   have jZ:=Lib.hid (h.moved (w':=w1.setCell ⟨x.aH u,0,none⟩ (.slice ia l.length ic)) (u:=u) (v:=v) (g:=g) (iu := .slice ia l.length ic) (cu:=l) (nv:=e) hf lu lv huv hgv ((hm1.mono (O1:=λb=>(x.iv u).ownBlock=some b\/b=x.aH u\/b=g) (λb e => .inl (.inr (.inr e)))).trans (hm2.mono (O1:=λb=>(x.iv u).ownBlock=some b\/b=x.aH u\/b=g) (λb e => .inl (.inr (.inl e)))) (λ_ e => .inl e)) hb2 (bu hr1' hm2 (λb e e2=>by
    subst e2
    exact nb ((wW _ _ _ _ _).trans e))) (λb e => .inl (by rw[hi];exact(wW _ _ _ _ _).trans e)) (by simp at hc;omega) (by
    rw[hgv]
    exact bu Pb hm2 (λb e e2=>by
     have:g=b:=by simpa[Value.ownBlock]using e
     exact hga (this.trans e2))))
   rw[hln]at c0 c1
   have Dt:((l.length+1:Nat):Int) - 1=(l.length:Int):=by omega
   have hlt:l.length<l.length+1:=by omega
   have jE:l.length<=1000:=by omega
   have hcap:l.length+1<=ic:=by have:=ay.cap (dW (f:=aU) jk hr);omega
   have hie:ia=some ⟨ab,ao,none⟩:=by simpa using congrArg (λz=>match z with | .slice a _ _=>a|_=>none) ea
   subst hie
   clear h hr fO hi hb hg hg0 hu hv hE hg1 hm1 hb1 hr1 Pb hb2 hm2 hr1' hcc ea hc hln nb qj hf
   generalize l.length=m at *
   go_enter Tryz.func152,Tryz.ntmps152
   go_wp2_with fail
   go_ret
   rw[HR.out]
   exact⟨rfl,jZ.out⟩
 · have HR:=Lib.hid (show pV s u v (l ++ [e]) val = .error 14 from by unfold pV;rw[if_neg (by simp),if_pos hval])
   have hd2:(val != 0)=true:=by simpa using hval
   rw[hln]at c0
   have jE:l.length<=1000:=by omega
   clear h hr fO hi hb hg hg0 hu hv hE hval hc hln
   generalize l.length=m at *
   go_enter Tryz.func152,Tryz.ntmps152
   go_wp2_with fail
   go_ret
   rw[HR.out]
   exact⟨⟨rfl,by decide⟩,.new HS.out.g (Mv.refl _ _)⟩
def IK (s:ai) (ns:ByteArray) (nl:List ae) (u v:au × Nat) (c:List Int) (val:Int):Prop :=
 ∃ kn ks kv kl,nl=[.mk 2 kn ks kv kl]/\fH (ae.t (.mk 2 kn ks kv kl))=true/\bz s.cur.vars ns=some u/\bz s.cur.vars ks=some v/\s.cells[u.2]? = some c/\s.cells[v.2]? = some [val]/\u.2≠v.2
theorem ML {base:Nat} {w:World} {v:Value} {a:Int} {e:TypeId} (h:w.ownsRow base e 1 v [a].length (flat aU [a])):∃ g cap,v = .slice (some ⟨g,0,none⟩) 1 cap:=by
 rcases h.2 with⟨_,h0⟩|⟨g,cap,cur,e1,_⟩
 · simp at h0
 · exact⟨g,cap,e1⟩
theorem Nn {w:World} {k nn:Int} {ns:ByteArray} {nv:Value} {kk kn:Int} {ks:ByteArray} {kv:Value} {kl:List ae} (hn:bD w (.mk k nn ns nv [.mk kk kn ks kv kl])):∃ kb ko nc,nv = .slice (some ⟨kb,ko,none⟩) 1 nc/\bD w (.mk kk kn ks kv kl)/\(∃ ka kc,kv = .slice ka kl.length kc) /\
 w.cell? ⟨kb,ko,none⟩=some (.int .u8 kk)/\w.cell? ⟨kb,ko+1,none⟩=some (.int .i64 kn)/\w.cell? ⟨kb,ko+2,none⟩=some (.string ks)/\w.cell? ⟨kb,ko+3,none⟩=some kv:=by
 obtain⟨-,-,-,hr,hk⟩:=hn.row
 have fB:=hk _ (List.mem_singleton.2 rfl)
 obtain⟨ka,kc,dz,-,-⟩:=fB.form
 obtain⟨b,o,nc,e,_,hc⟩:=hr.at (i:=0) (by simp)
 have c0:=hc 0 _ rfl
 have c1:=hc 1 _ rfl
 have c2:=hc 2 _ rfl
 have c3:=hc 3 _ rfl
 simp only[Nat.zero_mul,Nat.add_zero]at c0 c1 c2 c3
 exact⟨b,o,nc,e,fB,⟨ka,kc,dz⟩,c0,c1,c2,c3⟩
theorem eT.int {w0:World} {p:aB} {fuel k:Nat} {x:aM} {w w':World} {res:Except Int ai} {e:Ending} (h:eT w0 p fuel k x w res e w'):∃ n,e = .returned (.int .i64 n):=by
 unfold eT at h
 split at h
 · exact⟨_,h.1⟩
 · exact⟨_,h.1.1⟩
set_option maxRecDepth 100000 in
set_option maxHeartbeats 6400000 in
theorem TG (w0:World) (p:aB) (fuel k:Nat) (w:World) (x:aM) (s:ai) (nn:Int) (ns:ByteArray) (nv:Value) (nl:List ae) (u v:au × Nat) (c:List Int) (val:Int) (h:aG w0 p fuel k w x s) (hf:∀ b,w.heap.size<=b->x.ρ b = .other) (hn:bD w (.mk 44 nn ns nv nl)) (hp:IK s ns nl u v c val) :
 Calls Tryz.prog 141 #[.pointer (some ⟨x.S,0,none⟩),ae.val (.mk 44 nn ns nv nl)] w (eT w0 p fuel k x w (tq s u.2 v.2 c val)):=by
 obtain⟨kn,ks,kv,kl,rfl,hpl,Du,hlv,uF,hcv,huv⟩:=hp
 obtain⟨kb,ko,nc,yI,hnk,⟨ka,kc,rfl⟩,d0,d1,d2,d3⟩:=Nn hn
 subst yI
 have cV:=h.cell v.2 (List.getElem?_eq_some_iff.1 hcv).1
 rw[(List.getElem?_eq_some_iff.1 hcv).2]at cV
 obtain⟨g,cap,hgv⟩:=ML cV.row
 have mZ:=Lib.hid (λz (hz:Grow w z)=>ah cV.blk hz)
 rw[hgv]at mZ
 have J4:=Lib.hid Du
 have HS:=Lib.hid h
 have kr:=Lib.hid (λz (hz:Grow w z)=>VO w0 p fuel k z x s u.2 v.2 g cap c val (h.later hz) (λb hb=>hf b (Nat.le_trans hz.size hb)) uF hcv huv hgv)
 have Dv:=Lib.hid (λz (hz:Grow w z)=>Ef w0 p fuel k z x s ks v (h.later hz) hlv)
 have vZ:=Lib.hid (λz (hz:Grow w z)=>K9 149 x.S kn ks (.slice ka kl.length kc) kl z (hnk.later hz) hpl)
 have aj:=Lib.hid (show Grow w (w.alloc (.cells #[.int .u8 44,.int .i64 nn,.string ns,.slice (some ⟨kb,ko,none⟩) 1 nc] 40))from(Mv.refl _ w).alloc _)
 have bf:=Lib.hid (heap_alloc_new w (.cells #[.int .u8 44,.int .i64 nn,.string ns,.slice (some ⟨kb,ko,none⟩) 1 nc] 40))
 have HD:=Lib.hid (λz (hz:Grow w z)=>And.intro (And.intro (cZ d0 hz) (cZ d1 hz)) (And.intro (cZ d2 hz) (cZ d3 hz)))
 have hkl:=World.block_lt_of_cell? w _ d0
 have yX:=Lib.hid (λz (hz:Grow w z)=>show kb<z.heap.size from Nat.lt_of_lt_of_le hkl hz.size)
 clear h hf hn hpl Du hlv uF hcv cV hgv d0 d1 d2 d3 hnk hkl
 obtain⟨⟨d0,d1⟩,d2,d3⟩:=HD.out _ aj.out
 have hkl:=yX.out _ aj.out
 have xN:=Lib.hid (vZ.out _ aj.out)
 simp only[ae.val,wh,List.length_cons,List.length_nil,Nat.zero_add]at xN ⊢
 go_enter Tryz.func141,Tryz.ntmps141
 go_wp2_with fail
 generalize (w.alloc (.cells #[.int .u8 44,.int .i64 nn,.string ns,.slice (some ⟨kb,ko,none⟩) 1 nc] 40))=w1 at *
 refine xN.out.mono ?_
 rintro e w2 ⟨rfl,hg⟩
 have HG2:=Lib.hid (gtr aj.out hg)
 have bV:=Lib.hid (ah bf.out hg)
 clear hg xN bf aj d0 d1 d2 d3 hkl
 obtain⟨⟨d0,d1⟩,d2,d3⟩:=HD.out _ HG2.out
 have hkl:=yX.out _ HG2.out
 obtain⟨⟨n0,n1⟩,n2,n3⟩:=az bV.out
 have hnl:=lt_of_block bV.out
 go_wp2_with fail
 refine(Dv.out _ HG2.out).mono ?_
 rintro e w3 ⟨rfl,m,rfl⟩
 have aA:=Lib.hid (su HG2.out m)
 have fQ:=Lib.hid (ah bV.out (su (Mv.refl _ w2) m))
 clear HG2 bV d0 d1 d2 d3 n0 n1 n2 n3 hnl hkl vZ Dv HD yX
 generalize w2.drewN m=w3 at *
 have Dw:=Lib.hid (mZ.out _ aA.out)
 have cv0:=cell1 Dw.out
 have hcl:=lt_of_block Dw.out
 obtain⟨⟨n0,n1⟩,n2,n3⟩:=az fQ.out
 have hnl:=lt_of_block fQ.out
 go_upto_region 34 with fail
 have HK:=Lib.hid (λ(y:World) (hy:Grow w3 y)=>And.intro (ah fQ.out hy) (HS.out.later (gtr aA.out hy)))
 refine kK 7 148 [some 135,some 136,some 137,some 138,some 139,some 140,some 141] [[],[0],[],[],[],[4],[3,5]] [] [.c (.pointer (some ⟨w.heap.size,0,none⟩)),.c (.int .u8 44),.c (.pointer (some ⟨g,0,none⟩)),.c (.pointer (some ⟨x.S,0,none⟩)),.c (.pointer (some ⟨w.heap.size,2,none⟩)),.c (.string ns),.c (.pointer (some ⟨x.aH u.2,0,none⟩))] trivial (dm rfl) ?steps ?done
 case steps =>
  refine⟨?s0,?s1,?s2,?s3,?s4,?s5,?s6,trivial⟩
  case s0 =>
   refine oo (λvs x hP => ?_)
   simp only[zS]
   go_simp
   exact gc
  case s1 =>
   refine ok HK (λvs x1 hG HX hP => ?_)
   obtain⟨⟨n0,n1⟩,n2,n3⟩:=az HX.out.1
   simp only[zS]
   go_simp
   exact gc
  case s2 =>
   refine oo (λvs x hP => ?_)
   simp only[zS]
   go_simp
   exact gc
  case s3 =>
   refine oo (λvs x hP => ?_)
   simp only[zS]
   go_simp
   exact gc
  case s4 =>
   refine oo (λvs x hP => ?_)
   simp only[zS]
   go_simp
   exact gc
  case s5 =>
   refine ok HK (λvs x1 hG HX hP => ?_)
   obtain⟨⟨n0,n1⟩,n2,n3⟩:=az HX.out.1
   simp only[zS]
   go_simp
   exact gc
  case s6 =>
   refine ok HK (λvs x1 hG HX hP => ?_)
   have HC:=Lib.hid (Ef w0 p fuel k x1 x s ns u HX.out.2 J4.out)
   simp only[zS]
   go_simp
   refine(HC.out).mono ?_
   rintro e y ⟨rfl,m9,rfl⟩
   exact⟨_,rfl,gq (su (Mv.refl _ _) m9) rfl⟩
 case done =>
 intro vs wx hE
 have hG:=hE.grow
 have aO:=Lib.hid (gtr aA.out hG)
 clear hE hG
 simp only[zS,Nat.reduceAdd,List.drop_succ_cons,List.drop_zero]
 go_wp2_with fail
 refine(kr.out _ aO.out).mono ?_
 intro e w4 hq
 obtain⟨n,rfl⟩:=hq.int
 have HQ:=Lib.hid (eT.trans (ax.grow aO.out) hq)
 clear hq
 go_wp2_with fail
 go_ret
 exact HQ.out
set_option maxRecDepth 100000 in
set_option maxHeartbeats 6400000 in
theorem Uc (w0:World) (p:aB) (fuel k:Nat) (w:World) (x:aM) (s:ai) (nn:Int) (ns:ByteArray) (nv:Value) (nl:List ae) (u v:au × Nat) (c:List Int) (val:Int) (h:aG w0 p fuel k w x s) (hf:∀ b,w.heap.size<=b->x.ρ b = .other) (hn:bD w (.mk 45 nn ns nv nl)) (hp:IK s ns nl u v c val) :
 Calls Tryz.prog 141 #[.pointer (some ⟨x.S,0,none⟩),ae.val (.mk 45 nn ns nv nl)] w (eT w0 p fuel k x w (pV s u.2 v.2 c val)):=by
 obtain⟨kn,ks,kv,kl,rfl,hpl,Du,hlv,uF,hcv,huv⟩:=hp
 obtain⟨kb,ko,nc,yI,hnk,⟨ka,kc,rfl⟩,d0,d1,d2,d3⟩:=Nn hn
 subst yI
 have cV:=h.cell v.2 (List.getElem?_eq_some_iff.1 hcv).1
 rw[(List.getElem?_eq_some_iff.1 hcv).2]at cV
 obtain⟨g,cap,hgv⟩:=ML cV.row
 have mZ:=Lib.hid (λz (hz:Grow w z)=>ah cV.blk hz)
 rw[hgv]at mZ
 have J4:=Lib.hid Du
 have HS:=Lib.hid h
 have kr:=Lib.hid (λz (hz:Grow w z)=>WY w0 p fuel k z x s u.2 v.2 g cap c val (h.later hz) (λb hb=>hf b (Nat.le_trans hz.size hb)) uF hcv huv hgv)
 have Dv:=Lib.hid (λz (hz:Grow w z)=>Ef w0 p fuel k z x s ks v (h.later hz) hlv)
 have vZ:=Lib.hid (λz (hz:Grow w z)=>K9 149 x.S kn ks (.slice ka kl.length kc) kl z (hnk.later hz) hpl)
 have aj:=Lib.hid (show Grow w (w.alloc (.cells #[.int .u8 45,.int .i64 nn,.string ns,.slice (some ⟨kb,ko,none⟩) 1 nc] 40))from(Mv.refl _ w).alloc _)
 have bf:=Lib.hid (heap_alloc_new w (.cells #[.int .u8 45,.int .i64 nn,.string ns,.slice (some ⟨kb,ko,none⟩) 1 nc] 40))
 have HD:=Lib.hid (λz (hz:Grow w z)=>And.intro (And.intro (cZ d0 hz) (cZ d1 hz)) (And.intro (cZ d2 hz) (cZ d3 hz)))
 have hkl:=World.block_lt_of_cell? w _ d0
 have yX:=Lib.hid (λz (hz:Grow w z)=>show kb<z.heap.size from Nat.lt_of_lt_of_le hkl hz.size)
 clear h hf hn hpl Du hlv uF hcv cV hgv d0 d1 d2 d3 hnk hkl
 obtain⟨⟨d0,d1⟩,d2,d3⟩:=HD.out _ aj.out
 have hkl:=yX.out _ aj.out
 have xN:=Lib.hid (vZ.out _ aj.out)
 simp only[ae.val,wh,List.length_cons,List.length_nil,Nat.zero_add]at xN ⊢
 go_enter Tryz.func141,Tryz.ntmps141
 go_wp2_with fail
 generalize (w.alloc (.cells #[.int .u8 45,.int .i64 nn,.string ns,.slice (some ⟨kb,ko,none⟩) 1 nc] 40))=w1 at *
 refine xN.out.mono ?_
 rintro e w2 ⟨rfl,hg⟩
 have HG2:=Lib.hid (gtr aj.out hg)
 have bV:=Lib.hid (ah bf.out hg)
 clear hg xN bf aj d0 d1 d2 d3 hkl
 obtain⟨⟨d0,d1⟩,d2,d3⟩:=HD.out _ HG2.out
 have hkl:=yX.out _ HG2.out
 obtain⟨⟨n0,n1⟩,n2,n3⟩:=az bV.out
 have hnl:=lt_of_block bV.out
 go_wp2_with fail
 refine(Dv.out _ HG2.out).mono ?_
 rintro e w3 ⟨rfl,m,rfl⟩
 have aA:=Lib.hid (su HG2.out m)
 have fQ:=Lib.hid (ah bV.out (su (Mv.refl _ w2) m))
 clear HG2 bV d0 d1 d2 d3 n0 n1 n2 n3 hnl hkl vZ Dv HD yX
 generalize w2.drewN m=w3 at *
 have Dw:=Lib.hid (mZ.out _ aA.out)
 have cv0:=cell1 Dw.out
 have hcl:=lt_of_block Dw.out
 obtain⟨⟨n0,n1⟩,n2,n3⟩:=az fQ.out
 have hnl:=lt_of_block fQ.out
 go_upto_region 34 with fail
 have HK:=Lib.hid (λ(y:World) (hy:Grow w3 y)=>And.intro (ah fQ.out hy) (HS.out.later (gtr aA.out hy)))
 refine kK 7 148 [some 135,some 136,some 137,some 138,some 139,some 140,some 141] [[],[0],[],[],[],[4],[3,5]] [] [.c (.pointer (some ⟨w.heap.size,0,none⟩)),.c (.int .u8 45),.c (.pointer (some ⟨g,0,none⟩)),.c (.pointer (some ⟨x.S,0,none⟩)),.c (.pointer (some ⟨w.heap.size,2,none⟩)),.c (.string ns),.c (.pointer (some ⟨x.aH u.2,0,none⟩))] trivial (dm rfl) ?steps ?done
 case steps =>
  refine⟨?s0,?s1,?s2,?s3,?s4,?s5,?s6,trivial⟩
  case s0 =>
   refine oo (λvs x hP => ?_)
   simp only[zS]
   go_simp
   exact gc
  case s1 =>
   refine ok HK (λvs x1 hG HX hP => ?_)
   obtain⟨⟨n0,n1⟩,n2,n3⟩:=az HX.out.1
   simp only[zS]
   go_simp
   exact gc
  case s2 =>
   refine oo (λvs x hP => ?_)
   simp only[zS]
   go_simp
   exact gc
  case s3 =>
   refine oo (λvs x hP => ?_)
   simp only[zS]
   go_simp
   exact gc
  case s4 =>
   refine oo (λvs x hP => ?_)
   simp only[zS]
   go_simp
   exact gc
  case s5 =>
   refine ok HK (λvs x1 hG HX hP => ?_)
   obtain⟨⟨n0,n1⟩,n2,n3⟩:=az HX.out.1
   simp only[zS]
   go_simp
   exact gc
  case s6 =>
   refine ok HK (λvs x1 hG HX hP => ?_)
   have HC:=Lib.hid (Ef w0 p fuel k x1 x s ns u HX.out.2 J4.out)
   simp only[zS]
   go_simp
   refine(HC.out).mono ?_
   rintro e y ⟨rfl,m9,rfl⟩
   exact⟨_,rfl,gq (su (Mv.refl _ _) m9) rfl⟩
 case done =>
 intro vs wx hE
 have hG:=hE.grow
 have aO:=Lib.hid (gtr aA.out hG)
 clear hE hG
 simp only[zS,Nat.reduceAdd,List.drop_succ_cons,List.drop_zero]
 go_wp2_with fail
 refine(kr.out _ aO.out).mono ?_
 intro e w4 hq
 obtain⟨n,rfl⟩:=hq.int
 have HQ:=Lib.hid (eT.trans (ax.grow aO.out) hq)
 clear hq
 go_wp2_with fail
 go_ret
 exact HQ.out
end Go.Proofs.YtbpodipdfohikaaGreat
