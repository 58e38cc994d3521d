import Derived.Test.YtbpodipdfohikaaGreatK22
set_option linter.unusedSimpArgs false
set_option linter.unusedVariables false
set_option maxRecDepth 100000
set_option maxHeartbeats 25600000
namespace Go.Proofs.YtbpodipdfohikaaGreat
open Go.RowKit Go.Instr
theorem aG.Hy {w0:World} {p:aB} {fuel k:Nat} {w:World} {x:aM} {s:ai} (h:aG w0 p fuel k w x s) {b o:Nat} (hc:lV x s b o):∃ cs t,w.heap[b]? = some (.cells cs t (0,0))/\(t=134\/t=131)/\cs[o]? = some (x.cur s).1/\cs[o+1]? = some (x.cur s).2/\cs[o+2]? = some (.int .i64 s.cur.locals):=by
 obtain⟨⟨d0,d1,d2⟩,hbl,-⟩:=h.qJ hc
 have key:∃ cs t,w.heap[b]? = some (.cells cs t (0,0))/\(t=134\/t=131):=by
  rcases hc with⟨-,rfl,-⟩|⟨-,⟨cap,hcv⟩,-⟩
  · obtain⟨v,-,hs⟩:=h.store
    exact⟨_,_,hs,.inl rfl⟩
  · rcases h.calls.2 with⟨e,_⟩|⟨g,c2,u2,e,_,hb2,_⟩
    · rw[hcv]at e;cases e
    · rw[hcv]at e
      simp only[Value.slice.injEq,Option.some.injEq,Addr.mk.injEq]at e
      obtain⟨⟨rfl,-⟩,-,-⟩:=e
      exact⟨_,_,hb2,.inr rfl⟩
 obtain⟨cs,t,hb,ht⟩:=key
 refine⟨cs,t,hb,ht,?_,?_,?_⟩
 · simpa[World.cell?,hb]using d0
 · simpa[World.cell?,hb]using d1
 · simpa[World.cell?,hb]using d2
def Slk (k:Nat) (s:ai):Prop:=s.cells.length+1<=k+s.steps/\s.cur.vars.length+1<=k+s.steps/\s.cur.locals+1<=k+s.steps
def ai.more (s:ai) (d:au) (l:List Int):ai := { s.setCur ⟨s.cur.vars ++ [(d,s.cells.length)],s.cur.locals+1⟩with cells:=s.cells ++ [l] }
theorem aG.opened {w0:World} {p:aB} {fuel k:Nat} {w:World} {x:aM} {s:ai} {b o C:Nat} {d:au} {iv:Value} {l:List Int} {w5 w6 w7:World} {cs:Array Value} {t:TypeId} {u1 u2:Value} (h:aG w0 p fuel k w x s) (hf:∀ b,w.heap.size<=b->x.ρ b = .other) (hc:lV x s b o) (hg:Grow w w5)
 (hC:w5.heap[C]? = some (.cells #[iv] 138 (0,0))) (yG:w.heap.size<=C) (jg:w5.ownsRow w.heap.size 3 1 iv l.length (flat aU l)) (hl:l.length<=1000) (hb:w5.heap[b]? = some (.cells cs t (0,0))) (ht:t=134\/t=131)
 (ha:BZ w0.heap.size b o cs t (x.cur s).1 (x.cur s).2 (s.cur.vars.map Prod.fst) (s.cur.vars.map λu=>x.aH u.2) d C w5 w6 u1 u2) (h7:w7=w6.setCell ⟨b,o+2,none⟩ (.int .i64 ((s.cur.locals:Int)+1))) (hsl:Slk k s):∃ x',ax x x' w w7/\aG w0 p fuel k w7 x' (s.more d l):=by
 have h5:=h.later hg
 have ach:=lt_of_block hC
 have hv:=h5.gY
 have EW:∀ g,iv.ownBlock=some g->w.heap.size<=g/\g<w5.heap.size:=λg e=>by
  obtain⟨h1,c',z',h2⟩:=bP jg g e
  exact⟨h1,lt_of_block h2⟩
 have ZE:iv.ownBlock≠some C:=bW jg hC (by decide)
 have hbl:b<w.heap.size:=by
  obtain⟨_,hbl,_⟩:=h.qJ hc
  exact hbl
 let ρ':Nat->je:=λg=>if g=C then .cell s.cells.length else if iv.ownBlock=some g then .items s.cells.length else if w5.heap.size<=g/\u1.ownBlock=some g then .vars s.calls.length else if w5.heap.size<=g/\u2.ownBlock=some g then .cls s.calls.length else x.ρ g
 have hρ:∀ g,x.ρ g ≠ .other->ρ' g=x.ρ g:=λg hn=>by
  have hgl:g<w.heap.size:=by
   rcases Nat.lt_or_ge g w.heap.size with h1|h1
   · exact h1
   · exact absurd (hf g h1) hn
  have e1:g≠C:=by omega
  have e2:iv.ownBlock≠some g:=λe=>by have:=(EW g e).1;omega
  have e3:¬ w5.heap.size<=g:=by have:=hg.size;omega
  simp only[ρ',e1,e2,e3,if_false,false_and]
 let x1:aM := { x with ρ:=ρ',aH:=λi=>if i=s.cells.length then C else x.aH i,iv:=λi=>if i=s.cells.length then iv else x.iv i }
 have h1:aG w0 p fuel k w5 x1 { s with cells:=s.cells ++ [l] } := by
  refine h5.XO (x':=x1) rfl hρ (λi hi => ?_) ?_ hsl.1
  · have e:¬ i=s.cells.length:=by omega
    exact⟨by simp only[x1,e,if_false],by simp only[x1,e,if_false]⟩
  · refine⟨by simp only[x1,if_true];exact hC,by simp only[x1,if_true];exact Nat.le_trans h.size yG,by simp only[x1,if_true,ρ'],by simp only[x1,if_true];exact⟨jg.1,jg.2.imp id (λ⟨g,cap,cur,e1,e2,e3⟩=>⟨g,cap,cur,e1,Nat.le_trans h.size e2,e3⟩)⟩,λg hg' => ?_,hl⟩
    simp only[x1,if_true]at hg'
    have:g≠C:=λe=>ZE (e ▸ hg')
    simp only[x1,ρ',this,hg',if_true,if_false]
 have hc1:lV x1 { s with cells:=s.cells ++ [l] } b o:=hc
 let x2:aM := { x1 with fv:=x1.fv.set s.calls.length (u1,u2) }
 have JC:t≠50:=by rcases ht with rfl|rfl <;> decide
 have htc:t≠136:=by rcases ht with rfl|rfl <;> decide
 have Fv:=block_setCell (p:=⟨b,o+2,none⟩) ha.blk rfl (.int .i64 ((s.cur.locals:Int)+1))
 have AU:Mv (λg=>g=b) w6 w7:=by rw[h7];exact(Mv.refl (λg=>g=b) w6).setCell (p:=⟨b,o+2,none⟩) (.inl rfl) _
 rw[← h7]at Fv
 have _9:u1.ownBlock≠some b:=bW ha.vars ha.blk JC
 have nu2:u2.ownBlock≠some b:=bW ha.cls ha.blk htc
 have hmv:Mv (λg=>g=b\/(x.cur s).1.ownBlock=some g\/(x.cur s).2.ownBlock=some g) w5 w7:=ha.mv.trans AU (λg e => .inl (.inl e))
 have had:(s.cur.vars.map λu=>x1.aH u.2)=s.cur.vars.map λu=>x.aH u.2:=List.map_congr_left λu hu=>by
  have e:¬ u.2=s.cells.length:=by have:=hv.ids u hu;omega
  simp only[x1,e,if_false]
 have h2:=h1.NF (w':=w7) (x':=x2) (f':=⟨s.cur.vars ++ [(d,s.cells.length)],s.cur.locals+1⟩) hc1 hb rfl (λ_ _=>rfl) hmv (by rw[Fv];rfl) (by
  refine⟨?_,?_,λg hg' => ?_,λg hg' => ?_,λu hu => ?_⟩
  · have:=bu ha.vars AU (λg e e2=>_9 (e2 ▸ e))
    simpa using this
  · have:=bu ha.cls AU (λg e e2=>nu2 (e2 ▸ e))
    rw[← had]at this
    simpa[x2,x1]using this
  · rcases ha.n1 g hg' with e|e
    · exact(hρ g (by rw[hv.rv g e];exact λe=>by cases e)).trans (hv.rv g e)
    · have e1:g≠C:=by omega
      have e2:iv.ownBlock≠some g:=λe'=>by have:=(EW g e').2;omega
      have hu:u1.ownBlock=some g:=hg'
      simp only[x2,x1,ρ',e1,e2,e,hu,if_false,if_true,and_self]
  · rcases ha.n2 g hg' with e|e
    · exact(hρ g (by rw[hv.rc g e];exact λe=>by cases e)).trans (hv.rc g e)
    · have e1:g≠C:=by omega
      have e2:iv.ownBlock≠some g:=λe'=>by have:=(EW g e').2;omega
      have hu:u2.ownBlock=some g:=hg'
      have e3:u1.ownBlock≠some g:=λe'=>uN ha.cls ha.vars (by decide) g hu e'
      simp only[x2,x1,ρ',e1,e2,e3,e,hu,if_false,if_true,and_self,and_false]
  · simp only[List.mem_append,List.mem_singleton]at hu
    rcases hu with hu|rfl
    · have:=hv.ids u hu;simp;omega
    · simp) (by have:=hsl.2;simp;omega)
 have e2:({ s with cells:=s.cells ++ [l] } : ai).setCur ⟨s.cur.vars ++ [(d,s.cells.length)],s.cur.locals+1⟩=s.more d l:=by
  unfold ai.more ai.setCur
  split <;> rfl
 rw[e2]at h2
 refine⟨x2,⟨rfl,rfl,λg hg' hn => ?_,?_,λg c z hn => ?_⟩,h2⟩
 · have e1:g≠C:=by omega
   have e2:iv.ownBlock≠some g:=λe=>by have:=(EW g e).1;omega
   have e3:¬ w5.heap.size<=g:=by have:=hg.size;omega
   simp only[x2,x1,ρ',e1,e2,e3,if_false,false_and]
   exact hn
 · refine(hg.mono (λ_ e=>e.elim)).trans hmv (λg e => ?_)
   rcases e with rfl|e|e
   · exact .inl (by rcases hc.role h with e|e <;> rw[e] <;> exact λe=>by cases e)
   · exact .inl (by rw[hv.rv g e];exact λe=>by cases e)
   · exact .inl (by rw[hv.rc g e];exact λe=>by cases e)
 · have wm:=ah hn hg
   rw[hmv.block g (lt_of_block wm) (λe => ?_)]
   · exact wm
   · rcases e with rfl|e|e
     · rw[hb]at wm
       simp only[Option.some.injEq,Obj.cells.injEq]at wm
       rcases ht with rfl|rfl
       · exact absurd wm.2.1 (by decide)
       · exact absurd wm.2.1 (by decide)
     · exact bW hv.vars wm (by decide) e
     · exact bW hv.cls wm (by decide) e
def eT (w0:World) (p:aB) (fuel k:Nat) (x:aM) (w:World) (res:Except Int ai) (e:Ending) (w':World):Prop:=match res with
 |.ok s'=>e = .returned (.int .i64 0)/\∃ x',ax x x' w w'/\aG w0 p fuel k w' x' s'
 |.error n=>(e = .returned (.int .i64 n)/\n≠0)/\qZ w0 x w w'
theorem eT.trans {w0:World} {p:aB} {fuel k:Nat} {x x1:aM} {w w1 w':World} {res:Except Int ai} {e:Ending} (hr:ax x x1 w w1) (h:eT w0 p fuel k x1 w1 res e w'):eT w0 p fuel k x w res e w':=by
 cases res with
 |error n=>exact⟨h.1,.of hr h.2⟩
 |ok s =>
  obtain⟨h1,x',h2,h3⟩:=h
  exact⟨h1,x',hr.trans h2,h3⟩
set_option maxRecDepth 100000 in
set_option maxHeartbeats 6400000 in
theorem UE (w0:World) (p:aB) (fuel k:Nat) (w:World) (x:aM) (s:ai) (n:ByteArray) (kd val:Int) (h:aG w0 p fuel k w x s) (hf:∀ b,w.heap.size<=b->x.ρ b = .other) (hk:kd=1\/kd=3) (hsl:Slk k s) :
 Calls Tryz.prog 120 #[.pointer (some ⟨x.S,0,none⟩),.agg #[.string n,.int .u8 kd,.int .i64 0],.int .i64 val] w (eT w0 p fuel k x w (s.open n kd val)):=by
 have HS:=Lib.hid h
 have HF:=Lib.hid hf
 have mX:=Lib.hid hsl
 have yH:s.cur.vars.length<=900000:=by have:=hsl.2.1;have:=h.bd;omega
 have hB:=heap_alloc_new w (.cells #[.string n,.int .u8 kd,.int .i64 0] 50)
 have hG1:Grow w (w.alloc (.cells #[.string n,.int .u8 kd,.int .i64 0] 50)):=(Mv.refl _ w).alloc _
 have HC:=Lib.hid (wN w0 p fuel k _ x s (h.later hG1))
 have aj:=Lib.hid hG1
 have HB:=Lib.hid hB
 obtain⟨b0,b1,b2⟩:=dR hB
 have hbl:=lt_of_block hB
 clear h hf hsl hG1 hB
 generalize hW:(w.alloc (.cells #[.string n,.int .u8 kd,.int .i64 0] 50))=w1 at *
 rcases hk with rfl|rfl
 · go_enter Tryz.func120,Tryz.ntmps120
   go_wp2_with fail
   refine HC.out.mono ?_
   rintro e w2 ⟨⟨b,o,rfl,fJ⟩,rfl⟩
   have uA:=Lib.hid fJ
   have H1:=Lib.hid (HS.out.later aj.out)
   obtain⟨cs,t,hbb,ht,k0,k1,k2⟩:=H1.out.Hy fJ
   obtain⟨⟨d0,d1,d2⟩,OP,hfz⟩:=H1.out.qJ fJ
   have iQ:=Lib.hid (Bz b o (x.cur s).1 (s.cur.vars.map Prod.fst) n w1 d0 (dW (f:=au.cells) (λ_=>rfl) H1.out.gY.vars))
   have hg5:Grow w1 ((w1.alloc (.cells #[.slice (some ⟨w1.heap.size+1,0,none⟩) 1 1] 138)).alloc (.cells #[.int .i64 val] 3)):=((Mv.refl _ w1).alloc _).alloc _
   have hb5:=ah hbb hg5
   have hv5:=(H1.out.later hg5).gY
   have pM:=Lib.hid (Ex w0.heap.size b o cs t (x.cur s).1 (x.cur s).2 (s.cur.vars.map Prod.fst) (s.cur.vars.map λu=>x.aH u.2) ⟨n,1,0⟩ w1.heap.size _ hb5 k0 k1 hv5.vars hv5.cls (Nat.le_trans H1.out.size hg5.size) (by rcases ht with rfl|rfl <;> decide) (by rcases ht with rfl|rfl <;> decide) (by simpa using yH) (by simpa using yH))
   have eH:=Lib.hid hb5
   have HT:=Lib.hid ht
   have wu:=Lib.hid k2
   have bG:=Lib.hid hg5
   clear fJ HC hbb k0 k1 k2 hg5 hb5 hv5 ht
   go_wp2_with fail
   refine iQ.out.mono ?_
   rintro e w3 ⟨⟨i,rfl,hix⟩,rfl⟩
   clear iQ
   rcases hix.last with⟨rfl,hl⟩|⟨j,hj,rfl,hl⟩
   · have bT:=Lib.hid (show s.open n 1 val = .ok (s.more ⟨n,1,0⟩ [val])from by unfold ai.open;rw[hl];rfl)
     have hlo:s.cur.locals<=900000:=by have:=mX.out.2.2;have:=HS.out.bd;omega
     clear hix hl
     generalize s.open n 1 val=RES at *
     go_wp2_with fail
     refine pM.out.mono ?_
     rintro e w6 ⟨rfl,u1,u2,ha⟩
     have HA:=Lib.hid ha
     have hbk:=ha.blk
     have l2:w6.cell? ⟨b,o+2,none⟩=some (.int .i64 s.cur.locals):=by
      rw[World.cell?,hbk]
      simp only[Option.isSome_none,Bool.false_eq_true,if_false]
      rw[Array.getElem?_setIfInBounds_ne (by omega),Array.getElem?_setIfInBounds_ne (by omega)]
      exact wu.out
     have zt:=bB hbk
     have ZF:=lt_of_block hbk
     have jZ:=Lib.hid (HS.out.opened (C:=w1.heap.size) (iv:=(.slice (some ⟨w1.heap.size+1,0,none⟩) 1 1)) (l:=[val]) (w7:=w6.setCell ⟨b,o+2,none⟩ (.int .i64 ((s.cur.locals:Int)+1))) HF.out uA.out (gtr aj.out bG.out) (bS (heap_alloc_new w1 _) _) aj.out.size ⟨rfl,.inr ⟨w1.heap.size+1,1,#[.int .i64 val],rfl,Nat.le_succ_of_le aj.out.size,(by have:=heap_alloc_new (w1.alloc (.cells #[.slice (some ⟨w1.heap.size+1,0,none⟩) 1 1] 138)) (.cells #[.int .i64 val] 3);rwa[World.size_alloc]at this),Nat.le_refl _,by decide,rfl,rfl⟩⟩ (Nat.le_of_ble_eq_true rfl) eH.out HT.out ha rfl mX.out)
     clear pM ha hbk d0 d1 d2 hfz
     generalize s.cur.locals=nl at *
     go_wp2_with fail
     go_ret
     rw[bT.out]
     exact⟨rfl,jZ.out⟩
   · have bT:=Lib.hid (show s.open n 1 val = .error 22 from by unfold ai.open;rw[hl];rfl)
     clear hix hl
     generalize s.open n 1 val=RES at *
     go_wp2_with fail
     go_ret
     rw[bT.out]
     exact⟨⟨rfl,by decide⟩,.new H1.out.g aj.out⟩
 · go_enter Tryz.func120,Tryz.ntmps120
   go_wp2_with fail
   refine HC.out.mono ?_
   rintro e w2 ⟨⟨b,o,rfl,fJ⟩,rfl⟩
   have uA:=Lib.hid fJ
   have H1:=Lib.hid (HS.out.later aj.out)
   obtain⟨cs,t,hbb,ht,k0,k1,k2⟩:=H1.out.Hy fJ
   obtain⟨⟨d0,d1,d2⟩,OP,hfz⟩:=H1.out.qJ fJ
   have iQ:=Lib.hid (Bz b o (x.cur s).1 (s.cur.vars.map Prod.fst) n w1 d0 (dW (f:=au.cells) (λ_=>rfl) H1.out.gY.vars))
   have hg5:Grow w1 (w1.alloc (.cells #[.slice none 0 0] 138)):=(Mv.refl _ w1).alloc _
   have hb5:=ah hbb hg5
   have hv5:=(H1.out.later hg5).gY
   have pM:=Lib.hid (Ex w0.heap.size b o cs t (x.cur s).1 (x.cur s).2 (s.cur.vars.map Prod.fst) (s.cur.vars.map λu=>x.aH u.2) ⟨n,3,0⟩ w1.heap.size _ hb5 k0 k1 hv5.vars hv5.cls (Nat.le_trans H1.out.size hg5.size) (by rcases ht with rfl|rfl <;> decide) (by rcases ht with rfl|rfl <;> decide) (by simpa using yH) (by simpa using yH))
   have eH:=Lib.hid hb5
   have HT:=Lib.hid ht
   have wu:=Lib.hid k2
   have bG:=Lib.hid hg5
   clear fJ HC hbb k0 k1 k2 hg5 hb5 hv5 ht
   go_wp2_with fail
   refine iQ.out.mono ?_
   rintro e w3 ⟨⟨i,rfl,hix⟩,rfl⟩
   clear iQ
   rcases hix.last with⟨rfl,hl⟩|⟨j,hj,rfl,hl⟩
   · have bT:=Lib.hid (show s.open n 3 val = .ok (s.more ⟨n,3,0⟩ [])from by unfold ai.open;rw[hl];rfl)
     have hlo:s.cur.locals<=900000:=by have:=mX.out.2.2;have:=HS.out.bd;omega
     clear hix hl
     generalize s.open n 3 val=RES at *
     go_wp2_with fail
     refine pM.out.mono ?_
     rintro e w6 ⟨rfl,u1,u2,ha⟩
     have HA:=Lib.hid ha
     have hbk:=ha.blk
     have l2:w6.cell? ⟨b,o+2,none⟩=some (.int .i64 s.cur.locals):=by
      rw[World.cell?,hbk]
      simp only[Option.isSome_none,Bool.false_eq_true,if_false]
      rw[Array.getElem?_setIfInBounds_ne (by omega),Array.getElem?_setIfInBounds_ne (by omega)]
      exact wu.out
     have zt:=bB hbk
     have ZF:=lt_of_block hbk
     have jZ:=Lib.hid (HS.out.opened (C:=w1.heap.size) (iv:=(.slice none 0 0)) (l:=[]) (w7:=w6.setCell ⟨b,o+2,none⟩ (.int .i64 ((s.cur.locals:Int)+1))) HF.out uA.out (gtr aj.out bG.out) (heap_alloc_new w1 _) aj.out.size (World.ownsRow_nil _ _ _ _) (Nat.le_of_ble_eq_true rfl) eH.out HT.out ha rfl mX.out)
     clear pM ha hbk d0 d1 d2 hfz
     generalize s.cur.locals=nl at *
     go_wp2_with fail
     go_ret
     rw[bT.out]
     exact⟨rfl,jZ.out⟩
   · have bT:=Lib.hid (show s.open n 3 val = .error 22 from by unfold ai.open;rw[hl];rfl)
     clear hix hl
     generalize s.open n 3 val=RES at *
     go_wp2_with fail
     go_ret
     rw[bT.out]
     exact⟨⟨rfl,by decide⟩,.new H1.out.g aj.out⟩
theorem MF (w0:World) (p:aB) (fuel k:Nat) (w:World) (x:aM) (s:ai) (n:ByteArray) (kd val:Int) (h:aG w0 p fuel k w x s) (hk:kd=1\/kd=3) (hsl:Slk k s) :
 Calls Tryz.prog 120 #[.pointer (some ⟨x.S,0,none⟩),.agg #[.string n,.int .u8 kd,.int .i64 0],.int .i64 val] w (eT w0 p fuel k x w (s.open n kd val)):=by
 obtain⟨x1,hr,hf,h1⟩:=h.fresh
 have:=UE w0 p fuel k w x1 s n kd val h1 hf hk hsl
 rw[hr.S]at this
 exact this.mono λe w' hq=>hq.trans hr
theorem wW (a:Option Addr) (n m c d:Nat):(Value.slice a n c).ownBlock=(Value.slice a m d).ownBlock:=by cases a <;> rfl
theorem cells3 {w w':World} {b o:Nat} {cs:Array Value} {t:TypeId} {u1 u2 u3:Value} (hb:w.heap[b]? = some (.cells cs t (0,0))) (hw:w'=((w.setCell ⟨b,o,none⟩ u1).setCell ⟨b,o+1,none⟩ u2).setCell ⟨b,o+2,none⟩ u3) :
 w'.heap[b]? = some (.cells (((cs.setIfInBounds o u1).setIfInBounds (o+1) u2).setIfInBounds (o+2) u3) t (0,0))/\Mv (λg=>g=b) w w':=by
 have h1:=block_setCell (p:=⟨b,o,none⟩) hb rfl u1
 have h2:=block_setCell (p:=⟨b,o+1,none⟩) h1 rfl u2
 have h3:=block_setCell (p:=⟨b,o+2,none⟩) h2 rfl u3
 subst hw
 exact⟨h3,(((Mv.refl (λg=>g=b) w).setCell (p:=⟨b,o,none⟩) (.inl rfl) u1).setCell (p:=⟨b,o+1,none⟩) (.inl rfl) u2).setCell (p:=⟨b,o+2,none⟩) (.inl rfl) u3⟩
theorem aG.popped {w0:World} {p:aB} {fuel k:Nat} {w w':World} {x:aM} {s:ai} {b o:Nat} {init:List (au × Nat)} {v:au × Nat} {va pa:Option Addr} {vc pc:Nat} (h:aG w0 p fuel k w x s) (hc:lV x s b o) (hv:s.cur.vars=init ++ [v]) (hx:x.cur s=(.slice va (init.length+1) vc,.slice pa (init.length+1) pc))
 (hw:w'=((w.drew.setCell ⟨b,o,none⟩ (.slice va init.length vc)).setCell ⟨b,o+1,none⟩ (.slice pa init.length pc)).setCell ⟨b,o+2,none⟩ (.int .i64 ((s.cur.locals:Int) - 1))) (hl:s.cur.locals≠0) :
 ∃ x',ax x x' w w'/\aG w0 p fuel k w' x' (s.setCur ⟨s.cur.vars.dropLast,s.cur.locals - 1⟩):=by
 obtain⟨cs,t,hb,ht,k0,k1,k2⟩:=h.Hy hc
 have hb':w.drew.heap[b]? = some (.cells cs t (0,0)):=hb
 obtain⟨hb3,JD⟩:=cells3 (u3 := .int .i64 ((s.cur.locals:Int) - 1)) hb' hw
 have hm:Mv (λg=>g=b) w w':=(Mv.refl (λg=>g=b) w).drew.trans JD (λ_ e => .inl e)
 have hf:=h.gY
 rw[hx]at hf
 have JC:t≠50:=by rcases ht with rfl|rfl <;> decide
 have htc:t≠136:=by rcases ht with rfl|rfl <;> decide
 have e3:(s.cur.locals:Int) - 1=((s.cur.locals - 1:Nat):Int):=by omega
 have hbd:=h.bd.2.1 s.cur (by obtain⟨h1,h2⟩:=zD s;rw[← h2];exact List.getElem_mem h1)
 have r1:w.ownsRow w0.heap.size 50 3 (.slice va (init.map Prod.fst).length vc) (init.map Prod.fst).length (flat au.cells (init.map Prod.fst)):=by
  have:=hf.vars
  simp only[hv,List.map_append,List.map_cons,List.map_nil]at this
  exact BF (f:=au.cells) (λ_=>rfl) (by simpa using this)
 have r2:w.ownsRow w0.heap.size 136 1 (.slice pa (init.map λu=>x.aH u.2).length pc) (init.map λu=>x.aH u.2).length (flat jK (init.map λu=>x.aH u.2)):=by
  have:=hf.cls
  simp only[hv,List.map_append,List.map_cons,List.map_nil]at this
  exact BF (f:=jK) wV (by simpa using this)
 have nb1:=bW hf.vars hb JC
 have nb2:=bW hf.cls hb htc
 have hdl:s.cur.vars.dropLast=init:=by rw[hv];simp
 refine⟨{ x with fv:=x.fv.set s.calls.length (.slice va init.length vc,.slice pa init.length pc) },⟨rfl,rfl,λ_ _ e=>e,?_,λg c z hn => ?_⟩,h.NF hc hb rfl (λ_ _=>rfl) (hm.mono λ_ e => .inl (.inl e)) (by rw[← e3];exact hb3) ?_ ?_⟩
 · exact hm.mono λg e => .inl (by
    subst e
    rcases hc.role h with e|e <;> rw[e] <;> exact λe=>by cases e)
 · rw[hm.block g (lt_of_block hn) (λe => ?_)]
   · exact hn
   · subst e
     rw[hb]at hn
     simp only[Option.some.injEq,Obj.cells.injEq]at hn
     rcases ht with rfl|rfl
     · exact absurd hn.2.1 (by decide)
     · exact absurd hn.2.1 (by decide)
 · rw[hdl]
   refine⟨?_,?_,λg hg=>hf.rv g ((wW _ _ _ _ _).trans hg),λg hg=>hf.rc g ((wW _ _ _ _ _).trans hg),λu hu=>hf.ids u (by rw[hv];simp[hu])⟩
   · have:=bu r1 hm (λg e e2=>nb1 ((wW _ _ _ _ _).trans (e2 ▸ e)))
     simpa using this
   · have:=bu r2 hm (λg e e2=>nb2 ((wW _ _ _ _ _).trans (e2 ▸ e)))
     simpa using this
 · rw[hdl]
   rw[hv]at hbd
   simp only[List.length_append,List.length_cons,List.length_nil]at hbd
   exact⟨by simp only;omega,by simp only;omega⟩
set_option maxRecDepth 100000 in
set_option maxHeartbeats 12800000 in
theorem LU (w0:World) (p:aB) (fuel k:Nat) (w:World) (x:aM) (s:ai) (n:ByteArray) (val:Int) (res:Except Int ai) (h:aG w0 p fuel k w x s) (hr:s.close n val=some res) :
 Calls Tryz.prog 121 #[.pointer (some ⟨x.S,0,none⟩),.string n,.int .i64 val] w (eT w0 p fuel k x w res):=by
 have HS:=Lib.hid h
 have HC:=Lib.hid (wN w0 p fuel k w x s h)
 have yH:s.cur.vars.length<=900000/\s.cur.locals<=900000:=by
  have:=h.bd.2.1 s.cur (by obtain⟨h1,h2⟩:=zD s;rw[← h2];exact List.getElem_mem h1)
  have:=h.bd
  omega
 obtain⟨va,vc,hvs⟩:=dX h.gY.vars
 obtain⟨pa,pc,hps⟩:=dX h.gY.cls
 simp only[List.length_map]at hvs hps
 have HR:=Lib.hid hr
 clear h
 go_enter Tryz.func121,Tryz.ntmps121
 go_wp2_with fail
 refine HC.out.mono ?_
 rintro e w2 ⟨⟨b,o,rfl,fJ⟩,rfl⟩
 have uA:=Lib.hid fJ
 obtain⟨⟨d0,d1,d2⟩,hbl,hfz⟩:=HS.out.qJ fJ
 have hf0:=hfz o
 have hf1:=hfz (o+1)
 have hf2:=hfz (o+2)
 rw[hvs]at d0
 rw[hps]at d1
 clear HC fJ hfz
 by_cases hl:s.cur.locals=0
 · have bT:=Lib.hid (show res = .error 6 from by unfold ai.close at hr;rw[if_pos hl]at hr;exact(Option.some.inj hr).symm)
   have dl:((s.cur.locals:Int) == 0)=true:=by rw[hl];rfl
   clear hl hr
   generalize s.cur.locals=nl at *
   generalize s.cur.vars.length=nv at *
   go_wp2_with fail
   go_ret
   rw[bT.out]
   exact⟨⟨rfl,by decide⟩,.new HS.out.g (Mv.refl _ _)⟩
 · have hgl:∃ init v,s.cur.vars=init ++ [v]:=by
    unfold ai.close at hr
    rw[if_neg hl]at hr
    cases hg:s.cur.vars.getLast? with
    |none=>rw[hg]at hr;cases hr
    |some v =>
     obtain⟨ys,e⟩:=List.getLast?_eq_some_iff.1 hg
     exact⟨ys,v,e⟩
   obtain⟨init,v,jg⟩:=hgl
   have yI:s.cur.vars.length=init.length+1:=by rw[jg];simp
   have hmem:v∈s.cur.vars:=by rw[jg];simp
   obtain⟨hcl,hcell⟩:=HS.out.cellOf hmem
   have hr2:(if(v.1.name == n)=false then some (.error 6)else if(v.1.kind≠1/\v.1.kind≠3)\/(v.1.kind=1/\s.cells[v.2].length=0)then none else if(v.1.kind=1/\s.cells[v.2].getD 0 0≠val)\/(v.1.kind=3/\s.cells[v.2].length≠0)then some (.error 16)else some (.ok (s.setCur ⟨s.cur.vars.dropLast,s.cur.locals - 1⟩)))=some res:=by
    rw[← hr]
    unfold ai.close
    have hgl:s.cur.vars.getLast? = some v:=by rw[jg];simp
    rw[if_neg hl]
    simp only[hgl,List.getElem?_eq_getElem hcl]
   have OQ:=Lib.hid (λw' hw=>HS.out.popped (w':=w') (va:=va) (vc:=vc) (pa:=pa) (pc:=pc) uA.out jg (by rw[← yI];exact Prod.ext hvs hps) hw hl)
   have fO:=dW (f:=au.cells) (λ_=>rfl) HS.out.gY.vars
   have mY:=dW (f:=jK) wV HS.out.gY.cls
   have hm1:init.length<(s.cur.vars.map Prod.fst).length:=by simp;omega
   have hm2:init.length<(s.cur.vars.map λu=>x.aH u.2).length:=by simp;omega
   obtain⟨vb,vo,OH,ev,_,vF⟩:=fO.at hm1
   obtain⟨pb,po,jd,ep,_,Ak⟩:=mY.at hm2
   rw[hvs]at ev
   rw[hps]at ep
   simp only[Value.slice.injEq]at ev ep
   obtain⟨rfl,-,rfl⟩:=ev
   obtain⟨rfl,-,rfl⟩:=ep
   have QW:(s.cur.vars.map Prod.fst)[init.length]=v.1:=by simp[jg]
   have QX:(s.cur.vars.map λu=>x.aH u.2)[init.length]=x.aH v.2:=by simp[jg]
   rw[QW]at vF
   rw[QX]at Ak
   have v0:=vF 0 _ rfl
   have v1:=vF 1 _ rfl
   have p0:=Ak 0 _ rfl
   simp only[Nat.add_zero,Nat.mul_one]at v0 p0
   have hvb:=World.block_lt_of_cell? w _ v0
   have hpb:=World.block_lt_of_cell? w _ p0
   simp only at hvb hpb
   have i0:w.cell? ⟨x.aH v.2,0,none⟩=some (x.iv v.2):=by simp[World.cell?,hcell.blk]
   have hil:=lt_of_block hcell.blk
   have hrow:=dW (f:=aU) jk hcell.row
   obtain⟨ia,ic,ZG⟩:=dX hcell.row
   rw[ZG]at i0 hrow
   have vG:=hcell.few
   have dl:((s.cur.locals:Int) == 0)=false:=by
    have:(s.cur.locals:Int)≠0:=by omega
    simpa using this
   rw[yI]at d0 d1
   have hi9:init.length<=900000:=by omega
   obtain⟨aci,acj⟩:=yH
   have HB1:((init.length+1:Nat):Int) - 1=(init.length:Int):=by omega
   have Qw:init.length<init.length+1:=by omega
   have vH:init.length+1<=vc/\init.length+1<=pc:=by
    have h1:=fO.form
    have h2:=mY.form
    rw[hvs]at h1
    rw[hps]at h2
    obtain⟨_,_,e,h1,_⟩:=h1
    obtain⟨_,_,e',h2,_⟩:=h2
    simp only[Value.slice.injEq]at e e'
    simp only[List.length_map]at h1 h2
    omega
   obtain⟨vH,Al⟩:=vH
   have hnb:(v.1.name == n)=true\/(v.1.name == n)=false:=by cases(v.1.name == n) <;> simp
   generalize s.setCur ⟨s.cur.vars.dropLast,s.cur.locals - 1⟩=SF at *
   clear hr HR jg yI hmem hcell hl hm1 hm2 vF Ak QW QX fO mY hvs hps
   generalize s.cur.locals=nl at *
   obtain⟨⟨vn,vk,vl⟩,vi⟩:=v
   simp only at *
   have hbb:=EL vn n
   generalize s.cells[vi]=c at *
   generalize x.aH vi=ca at *
   generalize init.length=m at *
   rcases hnb with hnb|hnb
   · rw[hnb]at hbb
     simp only[hnb,Bool.true_eq_false,if_false]at hr2
     by_cases hk1:vk=1
     · subst hk1
       obtain⟨c0,cr,rfl⟩:∃ c0 cr,c=c0 :: cr:=by
        cases c with
        |nil=>simp at hr2
        |cons a l=>exact⟨a,l,rfl⟩
       obtain⟨ib,io,ack,ei,_,OT⟩:=hrow.at (i:=0) (by simp)
       simp only[Value.slice.injEq]at ei
       obtain⟨rfl,-,rfl⟩:=ei
       have c00:=OT 0 _ rfl
       simp only[Nat.zero_mul,Nat.add_zero,List.getElem_cons_zero]at c00
       have hib:=World.block_lt_of_cell? w _ c00
       simp only at hib
       clear OT hrow
       simp only[List.length_cons]at i0 vG
       have hle:0<cr.length+1:=by omega
       generalize cr.length+1=cl at *
       by_cases hcv:c0=val
       · have bT:=Lib.hid (show res = .ok SF from by simp[hcv]at hr2;exact hr2.symm)
         have dc:(c0 != val)=false:=by simp[hcv]
         clear hr2 hcv hnb
         go_wp2_with fail
         go_region
         go_wp2_with fail
         go_ret
         rw[bT.out]
         exact⟨rfl,OQ.out _ rfl⟩
       · have bT:=Lib.hid (show res = .error 16 from by simp[hcv]at hr2;exact hr2.symm)
         have dc:(c0 != val)=true:=by simp[hcv]
         clear hr2 hcv hnb
         go_wp2_with fail
         go_ret
         rw[bT.out]
         exact⟨⟨rfl,by decide⟩,.new HS.out.g (Mv.refl _ _)⟩
     · by_cases hk3:vk=3
       · subst hk3
         cases c with
         |nil =>
          have bT:=Lib.hid (show res = .ok SF from by simp at hr2;exact hr2.symm)
          clear hr2 hnb
          simp only[List.length_nil]at i0
          go_wp2_with fail
          go_region
          go_wp2_with fail
          go_ret
          rw[bT.out]
          exact⟨rfl,OQ.out _ rfl⟩
         |cons a l =>
          have bT:=Lib.hid (show res = .error 16 from by simp at hr2;exact hr2.symm)
          clear hr2 hnb
          simp only[List.length_cons]at i0 vG
          have hgt:0<l.length+1:=by omega
          generalize l.length+1=cl at *
          go_wp2_with fail
          go_ret
          rw[bT.out]
          exact⟨⟨rfl,by decide⟩,.new HS.out.g (Mv.refl _ _)⟩
       · simp[hk1,hk3]at hr2
   · rw[hnb]at hbb
     have bT:=Lib.hid (show res = .error 6 from by simp[hnb]at hr2;exact hr2.symm)
     clear hr2 hnb
     go_wp2_with fail
     go_ret
     rw[bT.out]
     exact⟨⟨rfl,by decide⟩,.new HS.out.g (Mv.refl _ _)⟩
theorem aG.left {w0:World} {p:aB} {fuel k:Nat} {w w':World} {x:aM} {s:ai} {a:Option Addr} {m c:Nat} (h:aG w0 p fuel k w x s) (hn:s.calls.length=m+1) (hcv:x.cv = .slice a (m+1) c) (hw:w'=w.drew.setCell ⟨x.S,3,none⟩ (.slice a m c)) :
 ∃ x',ax x x' w w'/\aG w0 p fuel k w' x' { s with calls:=s.calls.dropLast } := by
 obtain⟨v,hv,hs⟩:=h.store
 have hm:Mv (λg=>g=x.S) w w':=by rw[hw];exact((Mv.refl (λg=>g=x.S) w).drew).setCell (p:=⟨x.S,3,none⟩) (.inl rfl) _
 have hb:w'.heap[x.S]? = some (.cells #[v.1,v.2,.int .i64 s.base.locals,.slice a m c,.pointer (some ⟨x.tp,0,none⟩)] 134 (0,0)):=by
  have:=block_setCell (w:=w.drew) (p:=⟨x.S,3,none⟩) hs rfl (.slice a m c)
  rw[hw,this];simp
 have st:=h.stays hm (λr=>r = .store) (λg e _=>by subst e;exact h.dY.2.1)
 have hfl:=h.kL
 have hz:x.fv.length=m+2:=by omega
 obtain⟨f0,fl,jP⟩:∃ f0 fl,x.fv=f0 :: fl:=by
  cases hq:x.fv with
  |nil=>rw[hq]at hz;simp at hz
  |cons a l=>exact⟨a,l,rfl⟩
 have nY:fl.length=m+1:=by rw[jP]at hz;simpa using hz
 have hfe:fl≠[]:=by intro e;rw[e]at nY;simp at nY
 have hce:s.calls≠[]:=by intro e;rw[e]at hn;simp at hn
 have e1:=List.dropLast_concat_getLast hfe
 have e2:=List.dropLast_concat_getLast hce
 have e3:x.fv.dropLast=f0 :: fl.dropLast:=by rw[jP];exact List.dropLast_cons_of_ne_nil hfe
 have hrow:w'.ownsRow w0.heap.size 131 3 (.slice a m c) (fl.dropLast.zip s.calls.dropLast).length (flat qf (fl.dropLast.zip s.calls.dropLast)):=by
  have h1:=st.calls (λe=>by cases e)
  have h2:fl.zip s.calls=fl.dropLast.zip s.calls.dropLast ++ [(fl.getLast hfe,s.calls.getLast hce)]:=by
   conv=>lhs;rw[← e1,← e2]
   rw[List.zip_append (by simp;omega)]
   rfl
  rw[hcv,jP]at h1
  simp only[List.tail_cons,h2]at h1
  have hl:(fl.dropLast.zip s.calls.dropLast).length=m:=by simp;omega
  have:=BF (f:=qf) zO (by rw[hl];exact h1)
  rw[hl]at this ⊢
  exact this
 refine⟨{ x with cv := .slice a m c,fv:=x.fv.dropLast },⟨rfl,rfl,λ_ _ e=>e,hm.mono λg e => .inl (by subst e;rw[h.dY.2.1];exact λe=>by cases e),λg cs z hg => ?_⟩,bM h.g hm (λb e=>by subst e;exact h.low.2.1),st.run (λe=>by cases e),⟨v,?_,hb⟩,st.tape (λe=>by cases e),?_,λj hj hj' => ?_,?_,λi hi=>(st.cell i hi (λe=>by cases e) (λe=>by cases e)).ext (λ_ _=>rfl) rfl rfl,st.gQ (λe=>by cases e),h.pK,h.low,h.dY,h.re,λg hg=>h.rl g (by rw[hcv];exact(wW _ _ _ _ _).trans hg),⟨h.bd.1,λf hf=>h.bd.2.1 f ?_,by have:=h.bd.2.2.1;simp;omega,h.bd.2.2.2⟩⟩
 · rw[hm.block g (lt_of_block hg) (λe => ?_)]
   · exact hg
   · subst e;rw[hs]at hg;simp only[Option.some.injEq,Obj.cells.injEq]at hg;exact absurd hg.2.1 (by decide)
 · rw[e3];rw[jP]at hv;simpa using hv
 · simp;omega
 · have hj2:j<x.fv.length:=by have:j<x.fv.dropLast.length:=hj;simp at this;omega
   have qd:j<s.frames.length:=by rw[← h.QT];exact hj2
   have ea:x.fv.dropLast[j]=x.fv[j]:=List.getElem_dropLast ..
   have eb:(ai.frames { s with calls:=s.calls.dropLast })[j]=s.frames[j]:=by
    simp only[ai.frames]at hj' ⊢
    cases j with
    |zero=>rfl
    |succ j=>simp only[List.getElem_cons_succ];exact List.getElem_dropLast ..
   simp only[ea,eb]
   exact(st.fr j hj2 qd (λe=>by cases e) (λe=>by cases e)).ext (λ_ _=>rfl) (λ_ _=>rfl) (Nat.le_refl _)
 · rw[e3];exact hrow
 · simp only[ai.frames,List.mem_cons]at hf ⊢
   exact hf.imp id (λe=>List.dropLast_subset _ e)
set_option maxRecDepth 100000 in
set_option maxHeartbeats 6400000 in
theorem Vw (w0:World) (p:aB) (fuel k:Nat) (w:World) (x:aM) (s:ai) (h:aG w0 p fuel k w x s):Calls Tryz.prog 137 #[.pointer (some ⟨x.S,0,none⟩)] w (eT w0 p fuel k x w s.leave):=by
 have HS:=Lib.hid h
 have HC:=Lib.hid (wN w0 p fuel k w x s h)
 have hcl:s.calls.length<=100:=h.bd.2.2.1
 have hlo:s.cur.locals<=900000:=by
  have:=h.bd.2.1 s.cur (by obtain⟨h1,h2⟩:=zD s;rw[← h2];exact List.getElem_mem h1)
  have:=h.bd
  omega
 obtain⟨v,hv,hs⟩:=h.store
 have s3:w.cell? ⟨x.S,3,none⟩=some x.cv:=by simp[World.cell?,hs]
 have hsl:=lt_of_block hs
 have zt:=bB hs
 obtain⟨ca,cc,hcv⟩:=dX h.calls
 have hz:=uX h
 rw[hz]at hcv
 by_cases h0:s.calls.length=0
 · have bT:=Lib.hid (show s.leave = .error 20 from by unfold ai.leave;rw[if_pos (.inl h0)])
   rw[h0]at hcv
   rw[hcv]at s3
   clear h hv hs hz hcv h0
   generalize s.leave=RES at *
   go_enter Tryz.func137,Tryz.ntmps137
   go_wp2_with fail
   go_ret
   rw[bT.out]
   exact⟨⟨rfl,by decide⟩,.new HS.out.g (Mv.refl _ _)⟩
 · obtain⟨m,hm⟩:∃ m,s.calls.length=m+1:=⟨s.calls.length - 1,by omega⟩
   rw[hm]at hcv hcl
   have Aq:=Lib.hid (λw' hw=>h.left (w':=w') hm hcv hw)
   rw[hcv]at s3
   have hcc:m+1<=cc:=by
    obtain⟨_,_,e,h1,_⟩:=(dW zO h.calls).form
    rw[hcv]at e
    simp only[Value.slice.injEq]at e
    omega
   have HE:=Lib.hid (show s.leave=if s.cur.locals≠0 then .error 20 else .ok { s with calls:=s.calls.dropLast }from by unfold ai.leave;simp[hm])
   have hne:(((m+1:Nat):Int) == 0)=false:=by
    have:((m+1:Nat):Int)≠0:=by omega
    simpa using this
   have HB1:((m+1:Nat):Int) - 1=(m:Int):=by omega
   clear h hv hs hz hcv h0
   generalize s.leave=RES at *
   go_enter Tryz.func137,Tryz.ntmps137
   go_wp2_with fail
   refine HC.out.mono ?_
   rintro e w2 ⟨⟨b,o,rfl,fJ⟩,rfl⟩
   obtain⟨⟨d0,d1,d2⟩,hbl,hfz⟩:=HS.out.qJ fJ
   clear HC fJ d0 d1 hfz
   by_cases hl:s.cur.locals=0
   · have bT:=Lib.hid (show RES = .ok { s with calls:=s.calls.dropLast }from by rw[HE.out,hl];rfl)
     rw[hl]at d2
     clear hl HE
     go_wp2_with fail
     go_region
     go_wp2_with fail
     go_ret
     rw[bT.out]
     exact⟨rfl,Aq.out _ rfl⟩
   · have bT:=Lib.hid (show RES = .error 20 from by rw[HE.out,if_pos hl])
     have hgt:0<s.cur.locals:=by omega
     clear hl HE
     generalize s.cur.locals=nl at *
     go_wp2_with fail
     go_ret
     rw[bT.out]
     exact⟨⟨rfl,by decide⟩,.new HS.out.g (Mv.refl _ _)⟩
end Go.Proofs.YtbpodipdfohikaaGreat
