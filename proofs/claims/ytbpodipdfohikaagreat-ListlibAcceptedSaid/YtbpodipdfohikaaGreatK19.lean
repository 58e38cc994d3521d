import Derived.Test.YtbpodipdfohikaaGreatK18
set_option linter.unusedSimpArgs false
set_option linter.unusedVariables false
set_option maxRecDepth 100000
set_option maxHeartbeats 25600000
namespace Go.Proofs.YtbpodipdfohikaaGreat
open Go.RowKit
inductive je where
 |run|store|tape|gQ|calls|other
 |cell (i:Nat)|items (i:Nat)|vars (j:Nat)|cls (j:Nat)
structure aM where
 ρ:Nat->je
 aH:Nat->Nat
 iv:Nat->Value
 fv:List (Value × Value)
 cv:Value
 ev:Value
 el:List Int
 R:Nat
 S:Nat
 tp:Nat
def qf (x:(Value × Value) × dQ):List Value:=[x.1.1,x.1.2,.int .i64 x.2.locals]
theorem zO (x:(Value × Value) × dQ):(qf x).length=3:=rfl
def jK (a:Nat):List Value:=[.pointer (some ⟨a,0,none⟩)]
theorem wV (a:Nat):(jK a).length=1:=rfl
theorem jk (a:Int):(aU a).length=1:=rfl
def ai.frames (s:ai):List dQ:=s.base :: s.calls
structure nX (n0:Nat) (w:World) (x:aM) (m:Nat) (v:Value × Value) (f:dQ) (j:Nat):Prop where
 vars:w.ownsRow n0 50 3 v.1 (f.vars.map Prod.fst).length (flat au.cells (f.vars.map Prod.fst))
 cls:w.ownsRow n0 136 1 v.2 (f.vars.map λu=>x.aH u.2).length (flat jK (f.vars.map λu=>x.aH u.2))
 rv:∀ g,v.1.ownBlock=some g->x.ρ g = .vars j
 rc:∀ g,v.2.ownBlock=some g->x.ρ g = .cls j
 ids:∀ u∈f.vars,u.2<m
structure qR (n0:Nat) (w:World) (x:aM) (i:Nat) (l:List Int):Prop where
 blk:w.heap[x.aH i]? = some (.cells #[x.iv i] 138 (0,0))
 low:n0<=x.aH i
 rb:x.ρ (x.aH i) = .cell i
 row:w.ownsRow n0 3 1 (x.iv i) l.length (flat aU l)
 ri:∀ g,(x.iv i).ownBlock=some g->x.ρ g = .items i
 few:l.length<=1000
structure aG (w0:World) (p:aB) (fuel k:Nat) (w:World) (x:aM) (s:ai):Prop where
 g:Grow w0 w
 run:w.heap[x.R]? = some (.cells (p.cells ++ [.pointer (some ⟨x.S,0,none⟩),.int .i64 s.steps,.int .i64 fuel,x.ev]).toArray 99 (0,0))
 store:∃ b,x.fv[0]? = some b/\w.heap[x.S]? = some (.cells #[b.1,b.2,.int .i64 s.base.locals,x.cv,.pointer (some ⟨x.tp,0,none⟩)] 134 (0,0))
 tape:w.heap[x.tp]? = some (.cells #[.slice none 0 0,.slice none 0 0] 156 (0,0))
 kL:x.fv.length=s.calls.length+1
 fr:∀ j (h:j<x.fv.length) (h':j<s.frames.length),nX w0.heap.size w x s.cells.length x.fv[j] s.frames[j] j
 calls:w.ownsRow w0.heap.size 131 3 x.cv (x.fv.tail.zip s.calls).length (flat qf (x.fv.tail.zip s.calls))
 cell:∀ i (h:i<s.cells.length),qR w0.heap.size w x i s.cells[i]
 gQ:w.ownsRow w0.heap.size 3 1 x.ev x.el.length (flat aU x.el)
 pK:x.el.length=p.procs.length
 low:w0.heap.size<=x.R/\w0.heap.size<=x.S/\w0.heap.size<=x.tp
 dY:x.ρ x.R = .run/\x.ρ x.S = .store/\x.ρ x.tp = .tape
 re:∀ g,x.ev.ownBlock=some g->x.ρ g = .gQ
 rl:∀ g,x.cv.ownBlock=some g->x.ρ g = .calls
 bd:s.cells.length<=k+s.steps/\(∀ f∈s.frames,f.vars.length<=k+s.steps/\f.locals<=k+s.steps)/\s.calls.length<=100/\s.steps<=fuel/\fuel<=500000/\k<=1000
theorem aG.QT {w0:World} {p:aB} {fuel k:Nat} {w:World} {x:aM} {s:ai} (h:aG w0 p fuel k w x s):x.fv.length=s.frames.length:=by rw[h.kL];rfl
theorem nX.mv {n0:Nat} {w w':World} {x:aM} {m:Nat} {v:Value × Value} {f:dQ} {j:Nat} {O:Nat->Prop} (h:nX n0 w x m v f j) (hm:Mv O w w') (hO:∀ g,O g->x.ρ g ≠ .vars j/\x.ρ g ≠ .cls j):nX n0 w' x m v f j :=
 ⟨bu h.vars hm (λg hg e=>(hO g e).1 (h.rv g hg)),bu h.cls hm (λg hg e=>(hO g e).2 (h.rc g hg)),h.rv,h.rc,h.ids⟩
theorem qR.mv {n0:Nat} {w w':World} {x:aM} {i:Nat} {l:List Int} {O:Nat->Prop} (h:qR n0 w x i l) (hm:Mv O w w') (hO:∀ g,O g->x.ρ g ≠ .cell i/\x.ρ g ≠ .items i):qR n0 w' x i l :=
 ⟨by rw[hm.block _ (lt_of_block h.blk) (λe=>(hO _ e).1 h.rb)];exact h.blk,h.low,h.rb,bu h.row hm (λg hg e=>(hO g e).2 (h.ri g hg)),h.ri,h.few⟩
theorem aG.later {w0:World} {p:aB} {fuel k:Nat} {w w':World} {x:aM} {s:ai} (h:aG w0 p fuel k w x s) (hg:Grow w w'):aG w0 p fuel k w' x s:=by
 obtain⟨b,hb,hs⟩:=h.store
 exact⟨gtr h.g hg,ah h.run hg,⟨b,hb,ah hs hg⟩,ah h.tape hg,h.kL,λj hj hj'=>(h.fr j hj hj').mv hg (λ_ e=>e.elim),bu h.calls hg (λ_ _ e=>e),λi hi=>(h.cell i hi).mv hg (λ_ e=>e.elim),bu h.gQ hg (λ_ _ e=>e),h.pK,h.low,h.dY,h.re,h.rl,h.bd⟩
theorem aG.step {w0:World} {p:aB} {fuel k:Nat} {w w':World} {x:aM} {s:ai} (h:aG w0 p fuel k w x s) (hf:s.steps<fuel) (hm:Mv (λb=>b=x.R) w w') (hr:w'.heap[x.R]? = some (.cells (p.cells ++ [.pointer (some ⟨x.S,0,none⟩),.int .i64 ((s.steps+1:Nat):Int),.int .i64 fuel,x.ev]).toArray 99 (0,0))):aG w0 p fuel k w' x { s with steps:=s.steps+1 } := by
 obtain⟨b,hb,hs⟩:=h.store
 have hro:=h.dY.1
 have hne:∀ g,g=x.R->∀ r:je,x.ρ g=r->r = .run:=λg e r hr=>by subst e;rw[hro]at hr;exact hr.symm
 refine⟨bM h.g hm (λb e=>by subst e;exact h.low.1),hr,⟨b,hb,?_⟩,?_,h.kL,λj hj hj'=>(h.fr j hj hj').mv hm (λg e=>⟨λhr=>(by have:=hne g e _ hr;cases this),λhr=>(by have:=hne g e _ hr;cases this)⟩),bu h.calls hm (λg hg e=>(by have:=hne g e _ (h.rl g hg);cases this)),λi hi=>(h.cell i hi).mv hm (λg e=>⟨λhr=>(by have:=hne g e _ hr;cases this),λhr=>(by have:=hne g e _ hr;cases this)⟩),bu h.gQ hm (λg hg e=>(by have:=hne g e _ (h.re g hg);cases this)),h.pK,h.low,h.dY,h.re,h.rl,by have:=h.bd.1;simp only;omega,λf hf=>(by have:=h.bd.2.1 f hf;simp only;omega),h.bd.2.2.1,by simp only;omega,h.bd.2.2.2.2⟩
 · rw[hm.block _ (lt_of_block hs) (λe=>(by have:=hne _ e _ h.dY.2.1;cases this))];exact hs
 · rw[hm.block _ (lt_of_block h.tape) (λe=>(by have:=hne _ e _ h.dY.2.2;cases this))];exact h.tape
theorem zD (s:ai):∃ h:s.calls.length<s.frames.length,s.frames[s.calls.length]=s.cur:=by
 refine⟨by simp[ai.frames],?_⟩
 unfold ai.frames ai.cur
 cases hc:s.calls with
 |nil=>rfl
 |cons a l =>
  simp only[List.length_cons,List.getElem_cons_succ]
  rw[List.getLast?_cons]
  simp only
  cases l with
  |nil=>rfl
  |cons b l=>simp[List.getLast?_eq_getElem?]
structure ax (x x':aM) (w w':World):Prop where
 R:x'.R=x.R
 S:x'.S=x.S
 o:∀ b,b<w.heap.size->x.ρ b = .other->x'.ρ b = .other
 m:Mv (λb=>x.ρ b ≠ .other) w w'
 n:∀ (b:Nat) (cs:Array Value) (z:Nat × Nat),w.heap[b]? = some (.cells cs 40 z)->w'.heap[b]? = some (.cells cs 40 z)
theorem ax.refl (x:aM) (w:World):ax x x w w:=⟨rfl,rfl,λ_ _ e=>e,Mv.refl _ _,λ_ _ _ h=>h⟩
theorem ax.trans {x x' Fj:aM} {w w' w'':World} (h:ax x x' w w') (k:ax x' Fj w' w''):ax x Fj w w'' :=
 ⟨k.R.trans h.R,k.S.trans h.S,λb hb e=>k.o b (Nat.lt_of_lt_of_le hb h.m.size) (h.o b hb e),h.m.trans k.m (λb hb=>by
  rcases Nat.lt_or_ge b w.heap.size with h1|h1
  · exact .inl λe=>hb (h.o b h1 e)
  · exact .inr h1),λb cs z hb=>k.n b cs z (h.n b cs z hb)⟩
theorem ax.grow {x:aM} {w w':World} (h:Grow w w'):ax x x w w':=⟨rfl,rfl,λ_ _ e=>e,h.mono (λ_ e=>e.elim),λ_ _ _ hb=>ah hb h⟩
theorem ax.keep {x x':aM} {w w':World} (h:ax x x' w w') {b:Nat} {o:Obj} (hb:w.heap[b]? = some o) (ho:x.ρ b = .other):w'.heap[b]? = some o:=(h.m.block b (lt_of_block hb) (λe=>e ho)).trans hb
theorem ax.tree {x x':aM} {w w':World} (h:ax x x' w w') {n:ae} (hn:aL (λ_=>True) w n):aL (λ_=>True) w' n :=
 hn.stay (O:=λb=>¬ ∃ cs z,w.heap[b]? = some (.cells cs 40 z)) ⟨h.m.os,h.m.tape,h.m.output,h.m.size,λb hb e=>by
  have⟨cs,z,hc⟩:=Classical.not_not.1 e
  rw[hc];exact h.n b cs z hc⟩ (λb cs z _ hc e=>e ⟨cs,z,hc⟩)
theorem aG.fresh {w0:World} {p:aB} {fuel k:Nat} {w:World} {x:aM} {s:ai} (h:aG w0 p fuel k w x s):∃ x1:aM,ax x x1 w w/\(∀ b,w.heap.size<=b->x1.ρ b = .other)/\aG w0 p fuel k w x1 s:=by
 have key:∀ b,b<w.heap.size->(if b<w.heap.size then x.ρ b else je.other)=x.ρ b:=λb hb=>if_pos hb
 have tK:∀ {b:Nat} {o:Obj},w.heap[b]? = some o->(if b<w.heap.size then x.ρ b else je.other)=x.ρ b:=λhb=>key _ (lt_of_block hb)
 refine⟨{ x with ρ:=λb=>if b<w.heap.size then x.ρ b else .other },⟨rfl,rfl,λb hb e=>(key b hb).trans e,Mv.refl _ _,λ_ _ _ h=>h⟩,λb hb=>if_neg (by omega),?_⟩
 obtain⟨b,hb,hs⟩:=h.store
 refine⟨h.g,h.run,⟨b,hb,hs⟩,h.tape,h.kL,λj hj hj' => ?_,h.calls,λi hi => ?_,h.gQ,h.pK,h.low,⟨(tK h.run).trans h.dY.1,(tK hs).trans h.dY.2.1,(tK h.tape).trans h.dY.2.2⟩,λg hg => ?_,λg hg => ?_,h.bd⟩
 · have f:=h.fr j hj hj'
   refine⟨f.vars,f.cls,λg hg => ?_,λg hg => ?_,f.ids⟩
   · obtain⟨-,cs,z,hc⟩:=bP f.vars g hg
     exact(tK hc).trans (f.rv g hg)
   · obtain⟨-,cs,z,hc⟩:=bP f.cls g hg
     exact(tK hc).trans (f.rc g hg)
 · have f:=h.cell i hi
   refine⟨f.blk,f.low,(tK f.blk).trans f.rb,f.row,λg hg => ?_,f.few⟩
   obtain⟨-,cs,z,hc⟩:=bP f.row g hg
   exact(tK hc).trans (f.ri g hg)
 · obtain⟨-,cs,z,hc⟩:=bP h.gQ g hg
   exact(tK hc).trans (h.re g hg)
 · obtain⟨-,cs,z,hc⟩:=bP h.calls g hg
   exact(tK hc).trans (h.rl g hg)
def Aa (n:Int):Ending := .panicked [{ v := .iface 142 (.agg #[.int .i64 n]),recovered:=false }]
theorem GZ (n:Int) (w:World) (h:n≠0):Calls Tryz.prog 133 #[.int .i64 n] w λe w'=>e=Aa n/\w=w':=by
 have e0:(n == 0)=false:=by simpa using h
 go_enter Tryz.func133,Tryz.ntmps133
 go_wp2
 all_goals exact⟨rfl,rfl,rfl⟩
theorem DZ (r:Value) (n:Int) (w:World):Calls Tryz.prog 119 #[r,.int .i64 n] w λe w'=>e=(if n=0 then .returned (.tuple #[])else Aa n)/\w=w':=by
 by_cases h:n=0
 · subst h
   go_enter Tryz.func119,Tryz.ntmps119
   go_wp2_with fail
   go_end0
   exact⟨rfl,rfl⟩
 · have e0:(n != 0)=true:=by simpa using h
   rw[if_neg h]
   have HC:=Lib.hid (GZ n w h)
   clear h
   go_enter Tryz.func119,Tryz.ntmps119
   go_wp2_with fail
   refine HC.out.mono ?_
   rintro e w2 ⟨rfl,rfl⟩
   exact⟨rfl,rfl,rfl⟩
theorem aG.cells {w0:World} {p:aB} {fuel k:Nat} {w:World} {x:aM} {s:ai} (h:aG w0 p fuel k w x s):(w.cell? ⟨x.R,6,none⟩=some (.pointer (some ⟨x.S,0,none⟩))/\w.cell? ⟨x.R,7,none⟩=some (.int .i64 s.steps))/\w.cell? ⟨x.R,8,none⟩=some (.int .i64 fuel)/\w.cell? ⟨x.R,9,none⟩=some x.ev:=by
 obtain⟨vars,vv,procs,pv,⟨k,n,s,kv,l⟩⟩:=p
 have:=h.run
 simp only[aB.cells,ae.cells]at this
 simp[World.cell?,this]
theorem aG.XL {w0:World} {p:aB} {fuel k:Nat} {w:World} {x:aM} {s:ai} (h:aG w0 p fuel k w x s) (hf:¬ fuel<=s.steps):aG w0 p fuel k (w.setCell ⟨x.R,7,none⟩ (.int .i64 ((s.steps:Int)+1))) x { s with steps:=s.steps+1 } := by
 have hb:=block_setCell (p:=⟨x.R,7,none⟩) h.run rfl (.int .i64 ((s.steps:Int)+1))
 refine h.step (by omega) ((Mv.refl (λb=>b=x.R) w).setCell (p:=⟨x.R,7,none⟩) (.inl rfl) _) ?_
 rw[hb]
 obtain⟨vars,vv,procs,pv,⟨k,n,s,kv,l⟩⟩:=p
 simp[aB.cells,ae.cells]
theorem aG.Y3 {w0:World} {p:aB} {fuel k:Nat} {w:World} {x:aM} {s:ai} (h:aG w0 p fuel k w x s) (b:Nat) (e:b=x.R):x.ρ b ≠ .other:=by
 subst e;rw[h.dY.1];exact λe=>by cases e
def qZ (w0:World) (x:aM) (w w':World):Prop:=Grow w0 w'/\∃ x',ax x x' w w'
theorem qZ.new {w0:World} {x:aM} {w w':World} (h:Grow w0 w') (hg:Grow w w'):qZ w0 x w w':=⟨h,x,ax.grow hg⟩
theorem qZ.of {w0:World} {x x1:aM} {w w1 w':World} (hr:ax x x1 w w1) (h:qZ w0 x1 w1 w'):qZ w0 x w w':=⟨h.1,h.2.imp λ_ h2=>hr.trans h2⟩
def dx (w0:World) (p:aB) (fuel k:Nat) (x:aM) (w:World) (res:Except Int ai) (e:Ending) (w':World):Prop:=match res with
 |.ok s'=>e = .returned (.tuple #[])/\∃ x',ax x x' w w'/\aG w0 p fuel k w' x' s'
 |.error n=>(e=Aa n/\n≠0)/\qZ w0 x w w'
set_option maxRecDepth 100000 in
set_option maxHeartbeats 1600000 in
theorem uS (w0:World) (p:aB) (fuel k:Nat) (w:World) (x:aM) (s:ai) (h:aG w0 p fuel k w x s):Calls Tryz.prog 118 #[.pointer (some ⟨x.R,0,none⟩)] w (dx w0 p fuel k x w (s.step fuel)):=by
 obtain⟨⟨c6,c7⟩,c8,c9⟩:=h.cells
 have hl:=lt_of_block h.run
 have hfz:w.frozen? ⟨x.R,7,none⟩=false:=bB h.run 7
 have HS:=Lib.hid h
 have hb1:s.steps<=500000:=by have:=h.bd.2.2;omega
 have hb2:fuel<=500000:=h.bd.2.2.2.2.1
 clear h
 by_cases hf:fuel<=s.steps
 · have hE:s.step fuel = .error 18:=by simp[ai.step,hf]
   have hd:decide ((fuel:Int)<=s.steps)=true:=by simp;omega
   rw[hE]
   go_enter Tryz.func118,Tryz.ntmps118
   go_wp2_with fail
   go_region
   go_wp2_with fail
   refine(GZ 18 _ (by decide)).mono ?_
   rintro e w2 ⟨rfl,rfl⟩
   exact⟨rfl,⟨rfl,by decide⟩,.new HS.out.g.drew (Mv.refl _ _).drew⟩
 · have hE:s.step fuel = .ok { s with steps:=s.steps+1 } := by simp[ai.step,hf]
   have hd:decide ((fuel:Int)<=s.steps)=false:=by simp;omega
   rw[hE]
   go_enter Tryz.func118,Tryz.ntmps118
   go_wp2_with fail
   go_region
   have HN:=Lib.hid ((HS.out.later ((Mv.refl (λ_=>False) w).drew)).XL hf)
   have HR:=Lib.hid (show ax x x w (w.drew.setCell ⟨x.R,7,none⟩ (.int .i64 ((s.steps:Int)+1)))from⟨rfl,rfl,λ_ _ e=>e,(((Mv.refl (λb=>b=x.R) w).drew).setCell (p:=⟨x.R,7,none⟩) (.inl rfl) _).mono (λb e => .inl (HS.out.Y3 b e)),λb cs z hb=>(((Mv.refl (λb=>b=x.R) w).drew.setCell (p:=⟨x.R,7,none⟩) (.inl rfl) (.int .i64 ((s.steps:Int)+1))).block b (lt_of_block hb) (λe=>by subst e;rw[HS.out.run]at hb;simp at hb)).trans hb⟩)
   go_wp2_with fail
   go_end0
   exact⟨rfl,x,HR.out,HN.out⟩
def lV (x:aM) (s:ai) (b o:Nat):Prop:=(s.calls.length=0/\b=x.S/\o=0)\/(0<s.calls.length/\(∃ cap,x.cv = .slice (some ⟨b,0,none⟩) s.calls.length cap)/\o=(s.calls.length - 1) * 3)
def aM.cur (x:aM) (s:ai):Value × Value:=x.fv.getD s.calls.length (.slice none 0 0,.slice none 0 0)
theorem aG.gY {w0:World} {p:aB} {fuel k:Nat} {w:World} {x:aM} {s:ai} (h:aG w0 p fuel k w x s):nX w0.heap.size w x s.cells.length (x.cur s) s.cur s.calls.length:=by
 obtain⟨hl,he⟩:=zD s
 have hx:s.calls.length<x.fv.length:=by rw[h.kL];omega
 have:=h.fr s.calls.length hx hl
 rw[he]at this
 rwa[show x.cur s=x.fv[s.calls.length] by simp[aM.cur,List.getD,hx]]
theorem uX {w0:World} {p:aB} {fuel k:Nat} {w:World} {x:aM} {s:ai} (h:aG w0 p fuel k w x s):(x.fv.tail.zip s.calls).length=s.calls.length:=by
 simp[h.kL]
theorem aG.qJ {w0:World} {p:aB} {fuel k:Nat} {w:World} {x:aM} {s:ai} (h:aG w0 p fuel k w x s) {b o:Nat} (hc:lV x s b o):(w.cell? ⟨b,o,none⟩=some (x.cur s).1/\w.cell? ⟨b,o+1,none⟩=some (x.cur s).2/\w.cell? ⟨b,o+2,none⟩=some (.int .i64 s.cur.locals))/\b<w.heap.size/\(∀ i,w.frozen? ⟨b,i,none⟩=false):=by
 rcases hc with⟨h0,rfl,rfl⟩|⟨h0,⟨cap,hcv⟩,rfl⟩
 · obtain⟨v,hv,hs⟩:=h.store
   have hn:s.calls=[]:=List.eq_nil_of_length_eq_zero h0
   have fJ:s.cur=s.base:=by simp[ai.cur,hn]
   have _5:x.cur s=v:=by simp[aM.cur,h0,List.getD,hv]
   rw[fJ,_5]
   refine⟨?_,lt_of_block hs,bB hs⟩
   simp[World.cell?,hs]
 · have hr:=dW zO h.calls
   have hz:=uX h
   have hi:s.calls.length - 1<(x.fv.tail.zip s.calls).length:=by omega
   rw[hcv]at hr
   have hcell:=hr.at' hi
   have hx:s.calls.length<x.fv.length:=by rw[h.kL];omega
   have hel:(x.fv.tail.zip s.calls)[s.calls.length - 1]=(x.cur s,s.cur):=by
    rw[List.getElem_zip]
    congr 1
    · rw[List.getElem_tail]
      simp only[aM.cur,List.getD]
      have e:s.calls.length - 1+1=s.calls.length:=by omega
      simp only[e]
      simp[hx]
    · unfold ai.cur
      rw[List.getLast?_eq_getElem?,List.getElem?_eq_getElem (by omega)]
   rw[hel]at hcell
   have c0:=hcell 0 _ rfl
   have c1:=hcell 1 _ rfl
   have c2:=hcell 2 _ rfl
   simp only[Nat.zero_add,Nat.add_zero]at c0 c1 c2
   refine⟨⟨c0,c1,c2⟩,World.block_lt_of_cell? w _ c0,λi => ?_⟩
   obtain⟨-,cs,z,hb⟩:=bP h.calls b (by rw[hcv];rfl)
   rcases h.calls.2 with⟨e,_⟩|⟨g,c2,u2,e,_,hb2,_⟩
   · rw[hcv]at e;simp at e
   · rw[hcv]at e
     simp only[Value.slice.injEq,Option.some.injEq,Addr.mk.injEq]at e
     obtain⟨⟨rfl,-⟩,-,-⟩:=e
     exact bB hb2 i
set_option maxRecDepth 100000 in
set_option maxHeartbeats 1600000 in
theorem wN (w0:World) (p:aB) (fuel k:Nat) (w:World) (x:aM) (s:ai) (h:aG w0 p fuel k w x s):Calls Tryz.prog 134 #[.pointer (some ⟨x.S,0,none⟩)] w λe w'=>(∃ b o,e = .returned (.pointer (some ⟨b,o,none⟩))/\lV x s b o)/\w=w':=by
 obtain⟨v,hv,hs⟩:=h.store
 have s3:w.cell? ⟨x.S,3,none⟩=some x.cv:=by simp[World.cell?,hs]
 have hsl:=lt_of_block hs
 have hz:=uX h
 have hcl:s.calls.length<=100:=h.bd.2.2.1
 by_cases h0:s.calls.length=0
 · have hcv:∃ a c,x.cv = .slice a 0 c:=by
    obtain⟨a,c,e⟩:=dX h.calls
    rw[hz,h0]at e;exact⟨a,c,e⟩
   obtain⟨a,c,hcv⟩:=hcv
   rw[hcv]at s3
   have HC:=Lib.hid (show lV x s x.S 0 from .inl ⟨h0,rfl,rfl⟩)
   clear h hv hs hcv hz h0
   go_enter Tryz.func134,Tryz.ntmps134
   go_wp2_with fail
   go_ret
   exact⟨⟨_,_,rfl,HC.out⟩,rfl⟩
 · have hcv:∃ b c,x.cv = .slice (some ⟨b,0,none⟩) s.calls.length c:=by
    rcases h.calls.2 with⟨e,he⟩|⟨g,c2,u2,e,_⟩
    · rw[hz]at he;omega
    · exact⟨g,c2,by rw[e,hz]⟩
   obtain⟨b,c,hcv⟩:=hcv
   rw[hcv]at s3
   have HC:=Lib.hid (show lV x s b ((s.calls.length - 1) * 3)from .inr ⟨by omega,⟨c,hcv⟩,rfl⟩)
   have h1:0<s.calls.length:=by omega
   clear h hv hs hcv hz h0
   generalize s.calls.length=n at *
   obtain⟨m,rfl⟩:∃ m,n=m+1:=⟨n - 1,by omega⟩
   simp only[Nat.add_sub_cancel]at HC
   have hd:decide (0<((m+1:Nat):Int))=true:=by simp
   have HE:((m+1:Nat):Int) - 1=(m:Int):=by omega
   have hlt:m<m+1:=by omega
   go_enter Tryz.func134,Tryz.ntmps134
   go_wp2_with fail
   go_ret
   exact⟨⟨_,_,rfl,HC.out⟩,rfl⟩
def sS (l:List au) (n:ByteArray) (i:Int):Prop:=(i = -1/\∀ j (h:j<l.length),(l[j].name == n)=false)\/∃ j,∃ h:j<l.length,i=j/\(l[j].name == n)=true/\∀ j' (h':j'<l.length),j<j'->(l[j'].name == n)=false
theorem K6 (l:List (au × Nat)) (n:ByteArray) (h:∀ j (hj:j<l.length),(l[j].1.name == n)=false):bz l n=none:=by
 induction l with
 |nil=>rfl
 |cons v l ih =>
  have h1:=ih (λj hj=>h (j+1) (by simpa using hj))
  have h2:=h 0 (by simp)
  rw[bz,h1]
  simp only[List.getElem_cons_zero]at h2
  simp[h2]
theorem LH (n:ByteArray):∀ (l:List (au × Nat)) (i:Nat) (hi:i<l.length),(l[i].1.name == n)=true->(∀ j (hj:j<l.length),i<j->(l[j].1.name == n)=false)->bz l n=some l[i]
 | [],i,hi,_,_=>by simp at hi
 |v :: l,0,_,h,hn=>by
  rw[bz,K6 l n (λj hj=>hn (j+1) (by simpa using hj) (by omega))]
  simp only[List.getElem_cons_zero]at h ⊢
  simp[h]
 |v :: l,i+1,hi,h,hn=>by
  have:=LH n l i (by simpa using hi) h (λj hj hij=>hn (j+1) (by simpa using hj) (by omega))
  rw[bz,this]
  rfl
theorem sS.last {l:List (au × Nat)} {n:ByteArray} {i:Int} (h:sS (l.map Prod.fst) n i):(i = -1/\bz l n=none)\/∃ j,∃ h:j<l.length,i=j/\bz l n=some l[j]:=by
 rcases h with⟨rfl,h⟩|⟨j,hj,rfl,h1,h2⟩
 · exact .inl ⟨rfl,K6 l n (λj hj=>by have:=h j (by simpa using hj);simpa using this)⟩
 · have hj':j<l.length:=by simpa using hj
   exact .inr ⟨j,hj',rfl,LH n l j hj' (by simpa using h1) (λj' h' hlt=>by have:=h2 j' (by simpa using h') hlt;simpa using this)⟩
set_option maxRecDepth 100000 in
set_option maxHeartbeats 1600000 in
theorem Bz (b o:Nat) (v:Value) (l:List au) (n:ByteArray) (w:World) (hv:w.cell? ⟨b,o,none⟩=some v) (hr:ay 3 au.cells w v l):Calls Tryz.prog 135 #[.pointer (some ⟨b,o,none⟩),.string n] w λe w'=>(∃ i,e = .returned (.int .i64 i)/\sS l n i)/\w=w':=by
 obtain⟨va,vc,rfl,oF,hvl⟩:=hr.form
 have HR:=Lib.hid hr
 have hbl:=World.block_lt_of_cell? w _ hv
 simp only at hbl
 clear hr
 go_enter Tryz.func135,Tryz.ntmps135
 go_wp2_with fail
 go_loopw [5] (λt wr=>∃ i:Int,t = .int .i64 i /\ -1<=i/\i<l.length/\wr=w/\∀ j (hj:j<l.length),i<(j:Int)->(l[j].name == n)=false) (λt _=>(intOf t+1).toNat)
 case atStart=>exact⟨(l.length:Int) - 1,rfl,by omega,by omega,rfl,λj hj h=>by omega⟩
 obtain⟨i,rfl,hi1,hi2,rfl,hall⟩:=hrel
 have HA:=Lib.hid hall
 clear hall
 by_cases hneg:0<=i
 · obtain⟨j,rfl⟩:=Int.eq_ofNat_of_zero_le hneg
   have hk:j<l.length:=by omega
   obtain⟨vb,off,cap',e,_,hcc⟩:=HR.out.at hk
   simp only[Value.slice.injEq,true_and]at e
   obtain⟨rfl,rfl⟩:=e
   have c0:=hcc 0 _ rfl
   have HT:=Lib.hid (λ(h:(l[j].name == n)=true)=>show sS l n j from .inr ⟨j,hk,rfl,h,λj' h' hlt=>HA.out j' h' (by omega)⟩)
   have HF:=Lib.hid (λ(h:(l[j].name == n)=false) (j':Nat) (hj:j'<l.length) (hij:(j:Int) - 1<j')=>show(l[j'].name == n)=false from by
    by_cases hjk:j'=j
    · subst hjk;exact h
    · exact HA.out j' hj (by omega))
   generalize l[j]=x at *
   obtain⟨xs,xk,xn⟩:=x
   have hbb:=EL xs n
   simp only[Nat.add_zero]at c0
   have acb:vb<wr.heap.size:=World.block_lt_of_cell? wr _ c0
   have hge:decide ((0:Int)<=j)=true:=by simp
   clear hcc
   cases hn:(xs == n)with
   |true =>
    rw[hn]at hbb
    have yj:=Lib.hid (HT.out hn)
    clear HT HF hn
    go_wp2_with fail
    go_ret
    exact⟨⟨_,rfl,yj.out⟩,rfl⟩
   |false =>
    rw[hn]at hbb
    have HX:=Lib.hid (HF.out hn)
    clear HT HF hn
    go_wp2_with fail
    go_roundw
    case rel=>exact⟨(j:Int) - 1,by go_num,by omega,by omega,trivial,HX.out⟩
    case measure=>simp[intOf] <;> omega
 · have hge:decide (0<=i)=false:=by simp;omega
   have yj:=Lib.hid (show sS l n (-1)from .inl ⟨rfl,λj hj=>HA.out j hj (by omega)⟩)
   clear HA
   go_wp2_with fail
   go_ret
   exact⟨⟨_,rfl,yj.out⟩,rfl⟩
theorem LJ:∀ (l:List (au × Nat)) (n:ByteArray) (u:au × Nat),bz l n=some u->u∈l/\u.1.name=n
 | [],_,_,h=>by cases h
 |a :: l,n,u,h=>by
  rw[bz]at h
  cases h2:bz l n with
  |some y =>
   rw[h2]at h
   have e:y=u:=by simpa using h
   have:=LJ l n y h2
   rw[e]at this
   exact⟨List.mem_cons_of_mem _ this.1,this.2⟩
  |none =>
   rw[h2]at h
   by_cases he:(a.1.name == n)=true
   · simp only[he,if_true,Option.some.injEq]at h
     subst h
     exact⟨by simp,by simpa using he⟩
   · simp[he]at h
def aM.look (x:aM) (s:ai) (n:ByteArray):Value:=match bz s.cur.vars n with
 |none => .slice none 0 0
 |some u=>x.iv u.2
theorem aG.cellOf {w0:World} {p:aB} {fuel k:Nat} {w:World} {x:aM} {s:ai} (h:aG w0 p fuel k w x s) {u:au × Nat} (hu:u∈s.cur.vars):∃ hi:u.2<s.cells.length,qR w0.heap.size w x u.2 s.cells[u.2]:=by
 have hi:=h.gY.ids u hu
 exact⟨hi,h.cell _ hi⟩
theorem aG.Ni {w0:World} {p:aB} {fuel k:Nat} {w:World} {x:aM} {s:ai} (h:aG w0 p fuel k w x s) (n:ByteArray):ay 1 aU w (x.look s n) ((s.look n).getD [])/\((s.look n).getD []).length<=1000:=by
 unfold aM.look ai.look
 cases hl:bz s.cur.vars n with
 |none=>exact⟨ay.nil _ _ _,by simp⟩
 |some u =>
  have hm:u∈s.cur.vars:=(LJ _ n u hl).1
  obtain⟨hi,hc⟩:=h.cellOf hm
  simp only[Option.map_some,Option.getD_some,List.getD,List.getElem?_eq_getElem hi]
  exact⟨dW jk hc.row,hc.few⟩
set_option maxRecDepth 100000 in
set_option maxHeartbeats 3200000 in
theorem K7 (w0:World) (p:aB) (fuel k:Nat) (w:World) (x:aM) (s:ai) (n:ByteArray) (h:aG w0 p fuel k w x s):Calls Tryz.prog 149 #[.pointer (some ⟨x.S,0,none⟩),.string n] w λe w'=>e = .returned (.tuple #[x.look s n,.bool (s.look n).isSome])/\w=w':=by
 have HS:=Lib.hid h
 have HC:=Lib.hid (wN w0 p fuel k w x s h)
 have hvl:s.cur.vars.length<=9223372036854775807:=by
  obtain⟨_,_,e,_,h⟩:=(dW (f:=au.cells) (λ_=>rfl) h.gY.vars).form
  simpa using h
 clear h
 go_enter Tryz.func149,Tryz.ntmps149
 go_wp2_with fail
 refine HC.out.mono ?_
 rintro e w2 ⟨⟨b,o,rfl,fJ⟩,rfl⟩
 obtain⟨⟨d0,d1,d2⟩,hbl,hfz⟩:=HS.out.qJ fJ
 have iQ:=Lib.hid (Bz b o (x.cur s).1 (s.cur.vars.map Prod.fst) n w d0 (dW (f:=au.cells) (λ_=>rfl) HS.out.gY.vars))
 clear fJ
 go_wp2_with fail
 refine iQ.out.mono ?_
 rintro e w3 ⟨⟨i,rfl,hix⟩,rfl⟩
 have AR:=Lib.hid (show x.look s n=match bz s.cur.vars n with
  |none => .slice none 0 0
  |some u=>x.iv u.2 from rfl)
 have vT:=Lib.hid (show(s.look n).isSome=(bz s.cur.vars n).isSome from by unfold ai.look;simp)
 rcases hix.last with⟨rfl,hl⟩|⟨j,hj,rfl,hl⟩
 · have HV:=Lib.hid (show x.look s n = .slice none 0 0 from by rw[AR.out,hl])
   have HB:=Lib.hid (show(s.look n).isSome=false from by rw[vT.out,hl];rfl)
   clear hl hix
   go_wp2_with fail
   go_ret2
   refine⟨?_,rfl⟩
   rw[HV.out,HB.out]
   rfl
 · have HV:=Lib.hid (show x.look s n=x.iv s.cur.vars[j].2 from by rw[AR.out,hl])
   have HB:=Lib.hid (show(s.look n).isSome=true from by rw[vT.out,hl];rfl)
   obtain⟨hi,hc⟩:=HS.out.cellOf (List.getElem_mem hj)
   obtain⟨ca,cc,hcv⟩:=dX HS.out.gY.cls
   have hrow:=dW (f:=jK) wV HS.out.gY.cls
   have hj2:j<(s.cur.vars.map λu=>x.aH u.2).length:=by simpa using hj
   obtain⟨pb,po,jd,e,_,hcc⟩:=hrow.at hj2
   rw[e]at d1
   have p0:=hcc 0 _ rfl
   simp only[Nat.add_zero,Nat.mul_one,List.getElem_map]at p0
   have i0:w.cell? ⟨x.aH s.cur.vars[j].2,0,none⟩=some (x.iv s.cur.vars[j].2):=by simp[World.cell?,hc.blk]
   have hil:=lt_of_block hc.blk
   have hpl:=World.block_lt_of_cell? w _ p0
   simp only at hpl
   simp only[List.length_map]at d1
   have hd:decide ((j:Int)<0)=false:=by simp
   clear hl hix hcc hc hcv hrow e AR vT
   generalize s.cur.vars[j].2=u at *
   obtain⟨ia,iN,ic,jg⟩:∃ a n c,x.iv u = .slice a n c:=by
    have:=(HS.out.cell u hi).row
    obtain⟨a,c,e⟩:=dX this
    exact⟨a,_,c,e⟩
   rw[jg]at i0 HV
   clear jg
   generalize s.cur.vars.length=nv at *
   go_wp2_with fail
   go_ret2
   refine⟨?_,rfl⟩
   rw[HV.out,HB.out]
   rfl
def Ik (s:ai) (n:ByteArray) (w:World) (e:Ending) (w':World):Prop:=∃ v,e = .returned (.tuple #[v,.bool (s.look n).isSome])/\ay 1 aU w' v ((s.look n).getD [])/\Grow w w'
set_option maxRecDepth 100000 in
set_option maxHeartbeats 1600000 in
theorem abx (w0:World) (p:aB) (fuel k:Nat) (w:World) (x:aM) (s:ai) (n:ByteArray) (h:aG w0 p fuel k w x s):Calls Tryz.prog 149 #[.pointer (some ⟨x.S,0,none⟩),.string n] w (Ik s n w):=by
 refine(K7 w0 p fuel k w x s n h).mono ?_
 rintro e w2 ⟨rfl,rfl⟩
 exact⟨_,rfl,(h.Ni n).1,Mv.refl _ _⟩
set_option maxRecDepth 100000 in
set_option maxHeartbeats 1600000 in
theorem Ws (w0:World) (p:aB) (fuel k:Nat) (w:World) (x:aM) (s:ai) (n:ByteArray) (h:aG w0 p fuel k w x s):Calls Tryz.prog 145 #[.pointer (some ⟨x.S,0,none⟩),.string n] w (Ik s n w):=by
 have HL:=Lib.hid (K7 w0 p fuel k w x s n h)
 have hr:=h.Ni n
 have HC:=Lib.hid (Gr (x.look s n) ((s.look n).getD []) w hr.1 (by omega))
 obtain⟨a,c,hv,-,-⟩:=hr.1.form
 rw[hv]at HL HC
 clear h hr hv
 go_enter Tryz.func145,Tryz.ntmps145
 go_wp2_with fail
 refine HL.out.mono ?_
 rintro e w2 ⟨rfl,rfl⟩
 go_wp2_with fail
 refine HC.out.mono ?_
 rintro e w3 ⟨v',rfl,hrow,-,hg⟩
 obtain⟨a',c',rfl,-,-⟩:=hrow.form
 have HR:=Lib.hid hrow
 have HG:=Lib.hid hg
 clear hrow hg HL HC
 go_wp2_with fail
 go_ret2
 exact⟨_,rfl,HR.out,HG.out⟩
def wh (r:Int × Int) (w:World) (e:Ending) (w':World):Prop:=e = .returned (.tuple #[.int .i64 r.1,.int .i64 r.2])/\Grow w w'
structure qU (w:World) (f S:Nat) (s:ai):Prop where
 fn:f=149\/f=145
 call:∀ z,Grow w z->∀ n,Calls Tryz.prog f #[.pointer (some ⟨S,0,none⟩),.string n] z (Ik s n z)
theorem qU.later {w w':World} {f S:Nat} {s:ai} (h:qU w f S s) (hg:Grow w w'):qU w' f S s:=⟨h.fn,λz hz=>h.call z (gtr hg hz)⟩
theorem qU.gQ {w:World} {f S:Nat} {s:ai} (h:qU w f S s):∀ (args:Array Value) (w:World),(callFunc f args).run Tryz.prog w = .ok (.enter f args) w:=by
 rcases h.fn with rfl|rfl <;> intro args w <;> simp[go_sem]
set_option maxRecDepth 100000 in
set_option maxHeartbeats 3200000 in
theorem Wt (k n:Int) (s:ByteArray) (ka:Option Addr) (l:List ae) (kc:Nat) (f S:Nat) (st:ai) (w:World) (r:Int × Int) (hk:k=2\/k=5) (hf:qU w f S st) (hr:gL st.look (ae.t (.mk k n s (.slice ka l.length kc) l))=some r) :
 Calls Tryz.prog 166 #[.agg #[.int .u8 k,.int .i64 n,.string s,.slice ka l.length kc],.func (.func f) #[.pointer (some ⟨S,0,none⟩)] #[]] w (wh r w):=by
 have hent:=hf.gQ
 have aj:=Lib.hid (show Grow w (w.alloc (.cells #[.int .u8 k,.int .i64 n,.string s,.slice ka l.length kc] 40))from(Mv.refl _ w).alloc _)
 have bf:=Lib.hid (heap_alloc_new w (.cells #[.int .u8 k,.int .i64 n,.string s,.slice ka l.length kc] 40))
 have HC:=Lib.hid (hf.call _ aj.out s)
 rw[ae.t,gL]at hr
 have HR:=Lib.hid hr
 clear hf hr
 go_enter Tryz.func166,Tryz.ntmps166
 go_wp2_with fail
 generalize (w.alloc (.cells #[.int .u8 k,.int .i64 n,.string s,.slice ka l.length kc] 40))=w1 at *
 refine HC.out.mono ?_
 rintro e w2 ⟨v,rfl,hrow,hg⟩
 have HG2:=Lib.hid (gtr aj.out hg)
 have hn2:=ah bf.out hg
 obtain⟨⟨n0,n1⟩,n2,n3⟩:=az hn2
 have hnl:=lt_of_block hn2
 obtain⟨va,vc,rfl,-,hvl⟩:=hrow.form
 have HRW:=Lib.hid hrow
 clear hg hn2 hrow HC
 cases hlk:st.look s with
 |none =>
  have HF:=Lib.hid (show r=(0,6)from by
   have h:=HR.out
   rcases hk with rfl|rfl <;> simp[hlk]at h <;> exact h.symm)
  rw[hlk]at HRW
  clear hlk HR
  simp only[Option.getD_none,Option.isSome_none]
  go_wp2_with fail
  go_ret2
  exact⟨by rw[HF.out];rfl,HG2.out⟩
 |some c =>
  rw[hlk]at HRW
  simp only[Option.getD_some,Option.isSome_some,hlk]at HRW hvl ⊢
  rcases hk with rfl|rfl
  · by_cases h1:c.length=1
    · obtain⟨b,off,cap,e,_,hcc⟩:=HRW.out.at (show 0<c.length by omega)
      simp only[Value.slice.injEq,true_and]at e
      obtain⟨rfl,rfl⟩:=e
      have c0:=hcc 0 _ rfl
      simp only[Nat.zero_mul,Nat.add_zero]at c0
      have HF:=Lib.hid (show r=(c[0],0)from by
       have h:=HR.out
       simp only[hlk]at h
       rw[if_neg (by decide),if_pos True.intro,if_pos h1]at h
       simp only[Option.some.injEq]at h
       rw[← h,List.getD,List.getElem?_eq_getElem (by omega)];rfl)
      have hbl:=World.block_lt_of_cell? w2 _ c0
      simp only at hbl
      generalize c[0]=y at *
      rw[h1]
      clear hcc HR h1
      go_wp2_with fail
      go_ret2
      exact⟨by rw[HF.out];rfl,HG2.out⟩
    · have HF:=Lib.hid (show r=(0,7)from by
       have h:=HR.out
       simp only[hlk]at h
       rw[if_neg (by decide),if_pos True.intro,if_neg h1]at h
       simpa using h.symm)
      have hne:((c.length:Int) != 1)=true:=by simp;omega
      clear HR h1
      go_wp2_with fail
      go_ret2
      exact⟨by rw[HF.out];rfl,HG2.out⟩
  · have HF:=Lib.hid (show r=((c.length:Int),0)from by
     have h:=HR.out
     simp only[hlk]at h
     rw[if_neg (by decide),if_neg (by decide),if_pos True.intro]at h
     simpa using h.symm)
    clear HR
    go_wp2_with fail
    go_ret2
    exact⟨by rw[HF.out];rfl,HG2.out⟩
end Go.Proofs.YtbpodipdfohikaaGreat
