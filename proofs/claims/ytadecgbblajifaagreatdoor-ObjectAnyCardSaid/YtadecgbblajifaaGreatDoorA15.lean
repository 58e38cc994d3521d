import Derived.Test.YtadecgbblajifaaGreatDoorA14
set_option linter.unusedSimpArgs false
set_option linter.unusedVariables false
set_option maxRecDepth 100000
set_option maxHeartbeats 25600000
namespace Go.Proofs.YtadecgbblajifaaGreatDoor
open Go.RowKit Go.Instr
attribute [local go_sem ↓] jG
theorem p8 {α β γ:Type} (p:Pa α) (f:α->Pa β) (g:β->Pa γ):au (au p f) g=au p λx=>au (f x) g:=by
 funext b;unfold au;cases p b with
 |none=>rfl
 |some x=>rfl
theorem vN {α β:Type} (x:α) (f:α->Pa β):au (dL x) f=f x:=rfl
theorem iD {β:Type} (st:Option (List Int)) (n:Nat) (K:Int->Pa β):st.bind (au (pI n) K)=(rB st n).2.bind (K (aF (rB st n).1)):=by
 rcases st with _|l
 · rfl
 · by_cases hl:l.length<n
   · rw[qg hl]
     show au (pI n) K l=none
     exact nI (by unfold pI;rw[if_pos hl])
   · rw[qA hl]
     show au (pI n) K l=K (aF (l.take n)) (l.drop n)
     exact nJ (by unfold pI;rw[if_neg hl])
theorem KN {β:Type} (st:Option (List Int)) (n:Nat) (K:List Int->Pa β):st.bind (au (pB n) K)=(rB st n).2.bind (K (rB st n).1):=by
 rcases st with _|l
 · rfl
 · by_cases hl:l.length<n
   · rw[qg hl]
     show au (pB n) K l=none
     exact nI (by unfold pB;rw[if_pos hl])
   · rw[qA hl]
     show au (pB n) K l=K (l.take n) (l.drop n)
     exact nJ (by unfold pB;rw[if_neg hl])
theorem zy {β:Type} (st:Option (List Int)) (K:ByteArray->Pa β):st.bind (au jd K)=(rS st).2.bind (K (eG (rS st).1)):=by
 unfold jd rS;rw[p8,iD,p8,KN];rfl
theorem iX {st:Option (List Int)} {n:Nat} {x:Int} (hB:∀ l,st=some l->aS l) (hn:n<=4) (hx:aF (rB st n).1=x):0<=x/\x<4294967296:=by
 have h1:=(dN hB n).1;have h2:=DL st n;rw[yU h1 (by omega)]at hx;obtain⟨h3,h4⟩:=rW h1;have h5:(256:Int) ^ (rB st n).1.length<=4294967296:=by
  rcases(by omega:(rB st n).1.length=0\/(rB st n).1.length=1\/(rB st n).1.length=2\/(rB st n).1.length=3\/(rB st n).1.length=4)with e|e|e|e|e <;> rw[e] <;> decide
 omega
theorem vO {st:Option (List Int)} {x:Int} (hB:∀ l,st=some l->aS l) (hx:aF (rB st 1).1=x):0<=x/\x<256:=by
 have h1:=(dN hB 1).1;have h2:=DL st 1;rw[yU h1 (by omega)]at hx;obtain⟨h3,h4⟩:=rW h1;have h5:(256:Int) ^ (rB st 1).1.length<=256:=by
  rcases(by omega:(rB st 1).1.length=0\/(rB st 1).1.length=1)with e|e <;> rw[e] <;> decide
 omega
def gu (m N:Nat) (st:Option (List Int)):Prop:=∀ l,st=some l->m+l.length<=N
theorem gu.rd {m N:Nat} {st:Option (List Int)} (h:gu m N st) (n:Nat):gu (m+n) N (rB st n).2:=by
 intro l e;rcases st with _|q
 · cases e
 · by_cases hl:q.length<n
   · rw[qg hl]at e;cases e
   · rw[qA hl]at e;obtain rfl:=Option.some.inj e;have:=h q rfl;simp only[List.length_drop];omega
theorem gu.str {m N:Nat} {st:Option (List Int)} (h:gu m N st):gu (m+1) N (rS st).2:=λl e=>by
 have:=(h.rd 1).rd (aF (rB st 1).1).toNat l e;omega
theorem gu.low {m m' N:Nat} {st:Option (List Int)} (h:gu m N st) (hm:m'<=m):gu m' N st:=λl e=>by have:=h l e;omega
theorem zi {st:Option (List Int)} (hB:∀ l,st=some l->aS l):∀ l,(rS st).2=some l->aS l:=(dN (dN hB 1).2 _).2
structure aY (w:World) (AO AR AQ:Nat) (z:World) (st:Option (List Int)) (o:aA) (pv sv rv:Value):Prop where
 rd:kr z AR w.heap.size st
 box:z.heap[AQ]? = some (.cells #[.string o.name,pv,sv,.int .i64 o.cells,.int .i64 o.stacks,.slice none 0 0,rv] 39 (0,0))
 res:z.heap[AO]? = some (.cells #[.string ⟨#[]⟩,.slice none 0 0,.slice none 0 0,.int .i64 0,.int .i64 0,.slice none 0 0,.slice none 0 0] 39 (0,0))
 ps:z.ownsRow w.heap.size 75 3 pv o.params.length (flat aL.cells o.params)
 ss:z.ownsRow w.heap.size 89 4 sv o.slots.length (flat aG.cells o.slots)
 rs:z.ownsRow w.heap.size 67 2 rv o.refs.length (flat aI.cells o.refs)
 g:Grow w z
 ao:w.heap.size<=AO/\w.heap.size<=AR/\w.heap.size<=AQ/\AO≠AQ
section
variable {w z z':World} {AO AR AQ:Nat} {st st':Option (List Int)} {o:aA} {pv sv rv:Value}
theorem aY.G5 (h:aY w AO AR AQ z st o pv sv rv):∃ v,z.heap[AR]? = some (.cells #[v,.bool st.isNone] 102 (0,0)):=by
 obtain⟨v,h1,-⟩:=h.rd;exact⟨v,h1⟩
theorem aY.ne (h:aY w AO AR AQ z st o pv sv rv):AR≠AQ/\AR≠AO:=by
 obtain⟨v,h1⟩:=h.G5;constructor
 · rintro rfl;have h2:=h.box;rw[h1]at h2;simp only[Option.some.injEq,Obj.cells.injEq]at h2;exact absurd h2.2.1 (by decide)
 · rintro rfl;have h2:=h.res;rw[h1]at h2;simp only[Option.some.injEq,Obj.cells.injEq]at h2;exact absurd h2.2.1 (by decide)
theorem aY.read (h:aY w AO AR AQ z st o pv sv rv) (hs:kr z' AR w.heap.size st') (hm:Mv (λb=>b=AR) z z'):aY w AO AR AQ z' st' o pv sv rv:=by
 obtain⟨n1,n2⟩:=h.ne;obtain⟨v,hb⟩:=h.G5;refine⟨hs,(hm.block _ (lt_of_block h.box) (λe=>n1 e.symm)).trans h.box,(hm.block _ (lt_of_block h.res) (λe=>n2 e.symm)).trans h.res,?_,?_,?_,h.g.trans hm (λb e => .inr (by rw[e];exact h.ao.2.1)),h.ao⟩
 · exact aU h.ps hm (λg e eo=>iA h.ps hb (by decide) (by rw[e,eo]))
 · exact aU h.ss hm (λg e eo=>iA h.ss hb (by decide) (by rw[e,eo]))
 · exact aU h.rs hm (λg e eo=>iA h.rs hb (by decide) (by rw[e,eo]))
theorem I4 {α:Type} {n:Nat} {f:α->List Value} {v:Value} (h:ai n f z v []):ai n f z' v []:=by
 obtain⟨a,cap,e,h1,h2,_⟩:=h;exact⟨a,cap,e,h1,h2,λi x hx=>by simp at hx⟩
theorem kr.mv {X N:Nat} {O:Nat->Prop} (h:kr z X N st) (hm:Mv O z z') (h1:¬ O X) (h2:∀ b,O b->N<=b):kr z' X N st:=by
 obtain⟨v,hb,hr⟩:=h;refine⟨v,(hm.block _ (lt_of_block hb) h1).trans hb,λl e => ?_⟩;obtain⟨h3,h4⟩:=hr l e;refine⟨?_,h4⟩;cases l with
 |nil=>exact I4 h3
 |cons x l=>exact h3.stay hm (λg e2 eo=>by have:=h4 (by simp) g e2;have:=h2 g eo;omega)
theorem aY.mv {O:Nat->Prop} (h:aY w AO AR AQ z st o pv sv rv) (hm:Mv O z z') (hO:∀ b,O b->w.heap.size<=b/\b≠AO/\b≠AR/\b≠AQ) (hp:∀ b,pv.ownBlock=some b->¬ O b) (hs:∀ b,sv.ownBlock=some b->¬ O b) (hr:∀ b,rv.ownBlock=some b->¬ O b):aY w AO AR AQ z' st o pv sv rv :=
 ⟨h.rd.mv hm (λe=>(hO _ e).2.2.1 rfl) (λb e=>(hO b e).1),(hm.block _ (lt_of_block h.box) (λe=>(hO _ e).2.2.2 rfl)).trans h.box,(hm.block _ (lt_of_block h.res) (λe=>(hO _ e).2.1 rfl)).trans h.res,aU h.ps hm hp,aU h.ss hm hs,aU h.rs hm hr,h.g.trans hm (λb e => .inr (hO b e).1),h.ao⟩
theorem aY.grow (h:aY w AO AR AQ z st o pv sv rv) (hm:Grow z z'):aY w AO AR AQ z' st o pv sv rv:=h.mv hm (λ_ e=>e.elim) (λ_ _ e=>e) (λ_ _ e=>e) (λ_ _ e=>e)
theorem aY.AP {O:Nat->Prop} (h:aY w AO AR AQ z st o pv sv rv) (hm0:Mv O z z') (hO:∀ b,O b->w.heap.size<=b/\b≠AO/\b≠AR/\b≠AQ) (j:Nat) (v:Value) {o':aA} {pv' rM rv':Value} (hps:z'.ownsRow w.heap.size 75 3 pv' o'.params.length (flat aL.cells o'.params)) (hss:z'.ownsRow w.heap.size 89 4 rM o'.slots.length (flat aG.cells o'.slots)) (hrs:z'.ownsRow w.heap.size 67 2 rv' o'.refs.length (flat aI.cells o'.refs))
 (hb:(#[.string o.name,pv,sv,.int .i64 o.cells,.int .i64 o.stacks,.slice none 0 0,rv]:Array Value).setIfInBounds j v=#[.string o'.name,pv',rM,.int .i64 o'.cells,.int .i64 o'.stacks,.slice none 0 0,rv']):aY w AO AR AQ (z'.setCell ⟨AQ,j,none⟩ v) st o' pv' rM rv':=by
 have iK:=(hm0.block _ (lt_of_block h.box) (λe=>(hO _ e).2.2.2 rfl)).trans h.box;have hm:Mv (λb=>b=AQ) z' (z'.setCell ⟨AQ,j,none⟩ v):=(Mv.refl (λb=>b=AQ) z').setCell (p:=⟨AQ,j,none⟩) (.inl rfl) v;have h1:=block_setCell (p:=⟨AQ,j,none⟩) iK rfl v;simp only at h1;rw[hb]at h1;obtain⟨n1,n2⟩:=h.ne;have hrd:=h.rd.mv hm0 (λe=>(hO _ e).2.2.1 rfl) (λb e=>(hO b e).1);have hres:=(hm0.block _ (lt_of_block h.res) (λe=>(hO _ e).2.1 rfl)).trans h.res;refine⟨hrd.mv hm n1 (λb e=>by rw[e];exact h.ao.2.2.1),h1,(hm.block _ (lt_of_block hres) h.ao.2.2.2).trans hres,?_,?_,?_,(h.g.trans hm0 (λb e => .inr (hO b e).1)).trans hm (λb e => .inr (by rw[e];exact h.ao.2.2.1)),h.ao⟩
 · exact aU hps hm (λg e eo=>iA hps iK (by decide) (by rw[e,eo]))
 · exact aU hss hm (λg e eo=>iA hss iK (by decide) (by rw[e,eo]))
 · exact aU hrs hm (λg e eo=>iA hrs iK (by decide) (by rw[e,eo]))
theorem aY.upd (h:aY w AO AR AQ z st o pv sv rv) (j:Nat) (v:Value) {o':aA} {pv' rM rv':Value} (hps:z.ownsRow w.heap.size 75 3 pv' o'.params.length (flat aL.cells o'.params)) (hss:z.ownsRow w.heap.size 89 4 rM o'.slots.length (flat aG.cells o'.slots)) (hrs:z.ownsRow w.heap.size 67 2 rv' o'.refs.length (flat aI.cells o'.refs))
 (hb:(#[.string o.name,pv,sv,.int .i64 o.cells,.int .i64 o.stacks,.slice none 0 0,rv]:Array Value).setIfInBounds j v=#[.string o'.name,pv',rM,.int .i64 o'.cells,.int .i64 o'.stacks,.slice none 0 0,rv']):aY w AO AR AQ (z.setCell ⟨AQ,j,none⟩ v) st o' pv' rM rv':=h.AP (Mv.refl (λ_=>False) z) (λ_ e=>e.elim) j v hps hss hrs hb
theorem aY.apart (h:aY w AO AR AQ z st o pv sv rv) {b:Nat} {cs:Array Value} {T:TypeId} {f:Nat × Nat} (hb:z.heap[b]? = some (.cells cs T f)) (h1:T≠39) (h2:T≠102):b≠AO/\b≠AR/\b≠AQ:=by
 obtain⟨v,hr⟩:=h.G5;refine⟨?_,?_,?_⟩ <;> rintro rfl
 · have:=h.res;rw[hb]at this;simp only[Option.some.injEq,Obj.cells.injEq]at this;exact h1 this.2.1
 · rw[hb]at hr;simp only[Option.some.injEq,Obj.cells.injEq]at hr;exact h2 hr.2.1
 · have:=h.box;rw[hb]at this;simp only[Option.some.injEq,Obj.cells.injEq]at this;exact h1 this.2.1
theorem aY.yh (h:aY w AO AR AQ z st o pv sv rv) {b:Nat} {cs:Array Value} {T:TypeId} {f:Nat × Nat} (hb:z.heap[b]? = some (.cells cs T f)) (h1:T≠39) (h2:T≠102) (hm:Mv (λb=>b=AR) z z'):z'.heap[b]? = some (.cells cs T f) :=
 (hm.block _ (lt_of_block hb) (h.apart hb h1 h2).2.1).trans hb
theorem aY.fill (h:aY w AO AR AQ z st o pv sv rv) {b:Nat} {cs:Array Value} {T:TypeId} {f:Nat × Nat} (hb:z.heap[b]? = some (.cells cs T f)) (h1:T≠39) (h2:T≠102) (hw:w.heap.size<=b) (hp:∀ g,pv.ownBlock=some g->g≠b) (hs:∀ g,sv.ownBlock=some g->g≠b) (hr:∀ g,rv.ownBlock=some g->g≠b) (hm:Mv (λg=>g=b) z z'):aY w AO AR AQ z' st o pv sv rv :=
 h.mv hm (λg e=>by subst e;exact⟨hw,h.apart hb h1 h2⟩) hp hs hr
theorem aY.QY (h:aY w AO AR AQ z st o pv sv rv):(∀ g,pv.ownBlock=some g->g<z.heap.size)/\(∀ g,sv.ownBlock=some g->g<z.heap.size)/\(∀ g,rv.ownBlock=some g->g<z.heap.size):=by
 refine⟨λg e => ?_,λg e => ?_,λg e => ?_⟩
 · obtain⟨-,cs,f,h2⟩:=eT h.ps g e;exact lt_of_block h2
 · obtain⟨-,cs,f,h2⟩:=eT h.ss g e;exact lt_of_block h2
 · obtain⟨-,cs,f,h2⟩:=eT h.rs g e;exact lt_of_block h2
end
theorem Tryz.VH:(Tryz.prog.info? 89).map (λi=>(i.zero,i.size,i.bytes))=some (some (.agg #[.string ⟨#[]⟩,.int .u8 0,.int .i64 0,.int .i64 0]),4,40):=by kernel_rfl
theorem Tryz.VI:Elem Tryz.prog 31 89 4 40:=Elem.of Tryz.underlying31 Tryz.VH rfl (by decide) (by decide)
theorem Tryz.VJ:(Tryz.prog.info? 67).map (λi=>(i.zero,i.size,i.bytes))=some (some (.agg #[.int .i64 0,.string ⟨#[]⟩]),2,24):=by kernel_rfl
theorem Tryz.VK:Elem Tryz.prog 35 67 2 24:=Elem.of Tryz.underlying35 Tryz.VJ rfl (by decide) (by decide)
theorem Tryz.VL:(Tryz.prog.info? 75).map (λi=>(i.zero,i.size,i.bytes))=some (some (.agg #[.string ⟨#[]⟩,.int .u8 0,.int .i64 0]),3,32):=by kernel_rfl
theorem Tryz.VM:Elem Tryz.prog 22 75 3 32:=Elem.of Tryz.underlying22 Tryz.VL rfl (by decide) (by decide)
theorem nG {z z':World} {N:Nat} {v:Value} {l:List Int} {O:Nat->Prop} (h:ai 1 aJ z v l/\ko v N l) (hm:Mv O z z') (hO:∀ b,O b->N<=b):ai 1 aJ z' v l/\ko v N l:=by
 refine⟨?_,h.2⟩;cases l with
 |nil=>exact I4 h.1
 |cons x l=>exact h.1.stay hm (λg e2 eo=>by have:=h.2 (by simp) g e2;have:=hO g eo;omega)
theorem Dp (v:aL):v.cells.length=3:=rfl
theorem Dq (v:aG):v.cells.length=4:=rfl
theorem Dr (v:aI):v.cells.length=2:=rfl
def yj (s:ByteArray) (ps:List aL) (c st:Int) (ss:List aG) (co:List Int) (rf:List aI):Pa (aA × List Int):=dL (⟨s,ps,ss,c,st,[],rf⟩,co)
def ym (s:ByteArray) (ps:List aL) (c st:Int) (ss:List aG):Pa (aA × List Int):=au (pI 4) λq=>au (pB q.toNat) λco=>au (pI 4) λk=>au (pN ou k.toNat) (yj s ps c st ss co)
def uE (s:ByteArray) (ps:List aL):Pa (aA × List Int):=au (pI 4) λc=>au (pI 4) λst=>au (pI 2) λm=>au (pN nN m.toNat) (ym s ps c st)
theorem Uw:iG=au jd λs=>au (pI 1) λn=>au (pN mM n.toNat) (uE s):=rfl
theorem Dt {α β:Type} (p:Pa α) (k:Nat) (K:List α->Pa β) (pre:List α):(au (pN p (k+1)) λl=>K (pre ++ l))=au p λx=>au (pN p k) λl=>K ((pre ++ [x]) ++ l):=by
 rw[show pN p (k+1)=au p λx=>au (pN p k) λl=>dL (x :: l)from rfl,p8];congr 1;funext x;rw[p8];congr 1;funext l;rw[vN];simp
theorem Ux {β:Type} (k:Nat) (K:List aL->Pa β) (pre:List aL):(au (pN mM (k+1)) λl=>K (pre ++ l))=au jd λs=>au (pI 1) λkd=>au (pI 1) λn=>au (pN mM k) λl=>K ((pre ++ [⟨s,kd,n⟩]) ++ l):=by
 rw[Dt];unfold mM;simp only[p8,vN]
theorem TH {β:Type} (k:Nat) (K:List aG->Pa β) (pre:List aG):(au (pN nN (k+1)) λl=>K (pre ++ l))=au jd λs=>au (pI 1) λkd=>au (pI 1) λn=>au (pI 4) λa=>au (pN nN k) λl=>K ((pre ++ [⟨s,kd,n,a⟩]) ++ l):=by
 rw[Dt];unfold nN;simp only[p8,vN]
theorem Uy {β:Type} (k:Nat) (K:List aI->Pa β) (pre:List aI):(au (pN ou (k+1)) λl=>K (pre ++ l))=au (pI 4) λa=>au jd λs=>au (pN ou k) λl=>K ((pre ++ [⟨a,s⟩]) ++ l):=by
 rw[Dt];unfold ou;simp only[p8,vN]
theorem CS {α β:Type} {p:Pa α} {st:Option (List Int)} {k:Nat} {K:List α->Pa β} {pre:List α} (h:st=none\/k=0):st.bind (au (pN p k) λl=>K (pre ++ l))=st.bind (K pre):=by
 rcases h with rfl|rfl
 · rfl
 · show st.bind (au (dL []) λl=>K (pre ++ l))=_
   rw[vN,List.append_nil]
def dh:Option ((aA × List Int) × List Int)->Int × aA
 |none=>(4,eu)
 |some (x,r)=>match dQ x.2 with
  |none=>(3,eu)
  |some c=>if r=[]then(if aA.bT { x.1 with code:=c } = 0 then(0,{ x.1 with code:=c })else(aA.bT { x.1 with code:=c },eu))else(3,eu)
def iL (b:List Int):Int:=(dh (iG b)).1
def fG (b:List Int):aA:=(dh (iG b)).2
theorem Uz {s:ByteArray} {pv sv rv:Value} {a b:Int} (u:Ins) (o:Nat) (h:∀ (j:Nat) (c:Value),(Ins.cells u)[j]? = some c->(#[.string s,pv,sv,.int .i64 a,.int .i64 b,.slice none 0 0,rv]:Array Value)[o+j]? = some c):False:=by
 have h0:=h 0 _ rfl;have h1:=h 1 _ rfl;have h2:=h 2 _ rfl;have h3:=h 3 _ rfl;have h4:=h 4 _ rfl;rcases o with _|_|_|o
 · simp at h0
 · simp at h4
 · simp at h3
 · rcases o with _|_|_|_|o <;> simp at h0 h1 h2 h3 h4
theorem I5 {o:aA} {co:List Int} {c:List Ins} (h:xE o co) (hc:∀ i∈c,zF i):vU { o with code:=c } := by
 have h4:∀ x:Int,N4 x->In64 x:=λx hx=>by unfold N4 at hx;unfold In64;omega
 have h1:∀ x:Int,N1 x->In64 x:=λx hx=>by unfold N1 at hx;unfold In64;omega
 have hs:∀ s:ByteArray,jv s->s.size<=9223372036854775807:=λs hx=>by unfold jv at hx;omega
 refine⟨hs _ h.name,λv hv=>⟨hs _ (h.params v hv).1,h1 _ (h.params v hv).2.2⟩,λv hv=>⟨hs _ (h.slots v hv).1,h1 _ (h.slots v hv).2.2.1,h4 _ (h.slots v hv).2.2.2⟩,h4 _ h.cells,h4 _ h.stacks,hc,λr hr=>⟨hs _ (h.refs r hr).2,h4 _ (h.refs r hr).1⟩,?_⟩;have:=h.ns
 show o.slots.length<=_
 omega
theorem UA (v:Value) (l:List Int) (w:World) (h:ai 1 aJ w v l) (hB:aS l) (ht:bW w) (hl:l.length<=800000):Calls Tryz.prog 24 #[v] w (Yo w (fG l) (iL l)):=by
 obtain⟨va,vc,rfl,-,-⟩:=h.form;have HT:=ł ht;have uA:=ł hl;have BQ:=ł (show fG l=(dh (iG l)).2 from rfl);have rO:=ł (show iL l=(dh (iG l)).1 from rfl);have Om:=ł (show iG l=(some l).bind (au jd λs=>au (pI 1) λn=>au (pN mM n.toNat) (uE s))from by rw[← Uw];rfl);have _O:=ł (show ∀ x r,iG l=some (x,r)->xE x.1 x.2 from λx r e=>(Jj _ _ _ hB e).2.1);generalize fG l=RD at *;generalize iL l=RE at *;generalize iG l=PF at *;have FE:=ł (show ∀ q,some l=some q->aS q from λq e=>by obtain rfl:=Option.some.inj e;exact hB);have Oo:=ł (show gu 0 l.length (some l)from λq e=>by obtain rfl:=Option.some.inj e;omega);have HD0:=ł (show aY w w.heap.size (w.heap.size+1) (w.heap.size+1+1) (((w.alloc (.cells #[.string ⟨#[]⟩,.slice none 0 0,.slice none 0 0,.int .i64 0,.int .i64 0,.slice none 0 0,.slice none 0 0] 39)).alloc (.cells #[.slice va l.length vc,.bool false] 102)).alloc (.cells #[.string ⟨#[]⟩,.slice none 0 0,.slice none 0 0,.int .i64 0,.int .i64 0,.slice none 0 0,.slice none 0 0] 39)) (some l) (eu) (.slice none 0 0) (.slice none 0 0) (.slice none 0 0)from by
  have g1:Grow w (w.alloc (.cells #[.string ⟨#[]⟩,.slice none 0 0,.slice none 0 0,.int .i64 0,.int .i64 0,.slice none 0 0,.slice none 0 0] 39)):=(Mv.refl _ _).alloc _;have b1:=heap_alloc_new w (.cells #[.string ⟨#[]⟩,.slice none 0 0,.slice none 0 0,.int .i64 0,.int .i64 0,.slice none 0 0,.slice none 0 0] 39);generalize hw1:w.alloc (.cells #[.string ⟨#[]⟩,.slice none 0 0,.slice none 0 0,.int .i64 0,.int .i64 0,.slice none 0 0,.slice none 0 0] 39)=w1 at *;have s1:w1.heap.size=w.heap.size+1:=by rw[← hw1];simp
  have g2:Grow w1 (w1.alloc (.cells #[.slice va l.length vc,.bool false] 102)):=(Mv.refl _ _).alloc _;have b2:=heap_alloc_new w1 (.cells #[.slice va l.length vc,.bool false] 102);generalize hw2:w1.alloc (.cells #[.slice va l.length vc,.bool false] 102)=w2 at *;have s2:w2.heap.size=w.heap.size+2:=by rw[← hw2];simp[s1]
  have g3:Grow w2 (w2.alloc (.cells #[.string ⟨#[]⟩,.slice none 0 0,.slice none 0 0,.int .i64 0,.int .i64 0,.slice none 0 0,.slice none 0 0] 39)):=(Mv.refl _ _).alloc _;have b3:=heap_alloc_new w2 (.cells #[.string ⟨#[]⟩,.slice none 0 0,.slice none 0 0,.int .i64 0,.int .i64 0,.slice none 0 0,.slice none 0 0] 39);rw[s1]at b2;rw[s2]at b3;refine⟨⟨_,aD b2 g3,λq e => ?_⟩,b3,aD (aD b1 g2) g3,World.ownsRow_nil _ _ _ _,World.ownsRow_nil _ _ _ _,World.ownsRow_nil _ _ _ _,dw g1 (dw g2 g3),⟨Nat.le_refl _,by omega,by omega,by omega⟩⟩;obtain rfl:=Option.some.inj e;refine⟨h.later (dw g1 (dw g2 g3)),λh0 g eg => ?_⟩;have hl0:0<l.length:=by cases l with|nil=>exact absurd rfl h0|cons x y=>simp
  obtain⟨b,off,cap,e2,_,hcc⟩:=h.at hl0;rw[e2]at eg;simp only[Value.ownBlock,Option.some.injEq]at eg;subst eg;exact World.block_lt_of_cell? w _ (hcc 0 _ rfl))
 clear h hB ht;generalize aaE:some l=st0 at *
 go_enter Tryz.func24,Tryz.ntmps24
 go_upto_region 3 with fail;generalize (((w.alloc (.cells #[.string ⟨#[]⟩,.slice none 0 0,.slice none 0 0,.int .i64 0,.int .i64 0,.slice none 0 0,.slice none 0 0] 39)).alloc (.cells #[.slice va l.length vc,.bool false] 102)).alloc (.cells #[.string ⟨#[]⟩,.slice none 0 0,.slice none 0 0,.int .i64 0,.int .i64 0,.slice none 0 0,.slice none 0 0] 39))=w1 at *;have HC:=ł (yL (w.heap.size+1) w.heap.size st0 w1 HD0.out.rd FE.out);go_wp2_with fail;refine HC.out.mono ?_;rintro e Y4 ⟨v,rfl,rfl,hs,hm⟩;have HD1:=ł (HD0.out.read hs hm);have Oq:=ł (Om.out.trans (zy st0 _));have Ot:=ł (zi FE.out);have Ou:=ł (Oo.out.str);clear hs hm HC HD0 Om FE Oo;generalize eG (rS st0).1=nm at *;generalize (rS st0).2=st1 at *;obtain⟨⟨x0,x1,x2⟩,⟨x3,x4⟩,x5,x6⟩:=aM HD1.out.box;have xl:=lt_of_block HD1.out.box;have xz:=bC HD1.out.box;have HD2:=ł (HD1.out.upd 0 (.string nm) (o' := { eu with name:=nm }) HD1.out.ps HD1.out.ss HD1.out.rs rfl);go_upto_region 4 with fail;clear x0 x1 x2 x3 x4 x5 x6 xl xz;generalize Y4.setCell ⟨(w.heap.size+1+1),0,none⟩ (.string nm)=Y5 at *;clear HD1;have Ov:=Oq;clear Oq;have wU:=Ot;clear Ot;have Ow:=Ou;clear Ou;have HC:=ł (iy (w.heap.size+1) w.heap.size st1 1 Y5 HD2.out.rd wU.out);go_wp2_with fail;refine HC.out.mono ?_;rintro e aaF ⟨v,rfl,rfl,hs,hm⟩;have HD3:=ł (HD2.out.read hs hm);have AU:=ł (Ov.out.trans (iD st1 1 _));have FH:=ł ((dN wU.out 1).2);have FI:=ł (Ow.out.rd 1);have hx3:=iX (x:=aF (rB st1 1).1) wU.out (by decide) rfl;have hy3:=vO (x:=aF (rB st1 1).1) wU.out rfl;clear hs hm HC HD2 Ov wU Ow;generalize aF (rB st1 1).1=nv at *;generalize (rB st1 1).2=_Q at *;obtain⟨n,rfl⟩:∃ n:Nat,nv=n:=⟨nv.toNat,by omega⟩;rw[Int.toNat_natCast]at AU
 go_upto_block 0 with fail
 go_cut [] (λwc=>∃ (st:Option (List Int)) (pre:List aL) (pv:Value),aY w w.heap.size (w.heap.size+1) (w.heap.size+1+1) wc st (⟨nm,pre,[],0,0,[],[]⟩) (pv) (.slice none 0 0) (.slice none 0 0)/\PF=st.bind (uE nm pre)/\(∀ q,st=some q->aS q)/\gu 0 l.length st)
 case first =>
  go_wp2_with fail
  go_loopw [6] (λnv wr=>∃ (k:Nat) (st:Option (List Int)) (pre:List aL) (pv:Value),nv = .int .i64 k/\k<=n/\aY w w.heap.size (w.heap.size+1) (w.heap.size+1+1) wr st (⟨nm,pre,[],0,0,[],[]⟩) (pv) (.slice none 0 0) (.slice none 0 0)/\PF=st.bind (au (pN mM k) λq=>uE nm (pre ++ q))/\(∀ q,st=some q->aS q)/\gu pre.length l.length st) (λnv _=>(intOf nv).toNat)
  case atStart=>exact⟨n,_Q,[],.slice none 0 0,rfl,Nat.le_refl _,HD3.out,AU.out,FH.out,FI.out.low (Nat.zero_le _)⟩
  obtain⟨k,bQ,pre,pv,rfl,hkn,hd,eZ,hby,hlf⟩:=hrel;have aV:=ł hd;have jS:=ł eZ;have fH:=ł hby
  have gG:=ł hlf;clear hd eZ hby hlf HD3 AU FH FI;have HX:=ł (λh=>(show _ from jS.out.trans (CS (p:=mM) (K:=uE nm) h)));obtain⟨G6,fQ,-⟩:=aV.out.rd;obtain⟨r0,r1⟩:=rY fQ;have rl:=lt_of_block fQ;clear fQ;rcases k with _|k
  · go_wp2_with fail
    go_meet
    case rel=>exact⟨bQ,pre,pv,aV.out,HX.out (by simp),fH.out,gG.out.low (Nat.zero_le _)⟩
  have hk0:(0:Int)<((k+1:Nat):Int):=by omega
  rcases bQ with _|q9
  · go_wp2_with fail
    go_meet
    case rel=>exact⟨none,pre,pv,aV.out,HX.out (by simp),fH.out,gG.out.low (Nat.zero_le _)⟩
  have hpl:pre.length<=800000:=by have:=gG.out q9 rfl;have:=uA.out;omega
  have jT:=ł (jS.out.trans (congrArg (some q9).bind (Ux k (uE nm) pre)));simp only[Option.isNone_some]at r1;clear HX jS;generalize yn:some q9=bQ at *;have HC:=ł (yL (w.heap.size+1) w.heap.size bQ wr aV.out.rd fH.out);go_wp2_with fail;refine HC.out.mono ?_;rintro e jh ⟨v,rfl,rfl,hs,hm⟩;have bZ:=ł (aV.out.read hs hm);have nV:=ł (jT.out.trans (zy bQ _));have gy:=ł (zi fH.out);have nW:=ł (gG.out.str);clear hs hm HC aV jT fH gG;generalize eG (rS bQ).1=vn at *;generalize (rS bQ).2=cu at *;clear r0 r1 rl yn;have hga:Grow jh (jh.alloc (.cells #[.string vn,.int .u8 0,.int .i64 0] 75)):=(Mv.refl _ _).alloc _;have HV:=ł (heap_alloc_new jh (.cells #[.string vn,.int .u8 0,.int .i64 0] 75));have fT:=ł bZ.out.QY;have uF:=ł bZ.out.g.size;have aW:=ł (bZ.out.grow hga);clear hga bZ;have bZ:=aW;clear aW;go_upto_region 8 with fail;generalize (jh.alloc (.cells #[.string vn,.int .u8 0,.int .i64 0] 75))=G7 at *;generalize jh.heap.size=AV at *;have HC:=ł (iy (w.heap.size+1) w.heap.size cu 1 G7 bZ.out.rd gy.out);go_wp2_with fail;refine HC.out.mono ?_;rintro e jU ⟨v,rfl,rfl,hs,hm⟩;have gH:=ł (bZ.out.read hs hm);have vX:=ł (nV.out.trans (iD cu 1 _));have jP:=ł ((dN gy.out 1).2);have vY:=ł (nW.out.rd 1);have Y6:=iX (x:=aF (rB cu 1).1) gy.out (by decide) rfl;have Y7:=vO (x:=aF (rB cu 1).1) gy.out rfl;have bE:=ł (bZ.out.yh HV.out (by decide) (by decide) hm);clear hs hm HV HC bZ nV gy nW;generalize aF (rB cu 1).1=kd at *;generalize (rB cu 1).2=iM at *;have HV:=bE;clear bE;have hmod:kd % 256=kd:=by omega
  obtain⟨z0,z1,z2⟩:=kU HV.out;have zl:=lt_of_block HV.out;have zt:=bC HV.out;have gZ:Mv (λg=>g=AV) jU (jU.setCell ⟨AV,1,none⟩ (.int .u8 kd)):=(Mv.refl (λg=>g=AV) jU).setCell (p:=⟨AV,1,none⟩) (.inl rfl) _;have aW:=ł (gH.out.fill HV.out (by decide) (by decide) uF.out (λg e=>by have:=fT.out.1 g e;omega) (λg e=>by have:=fT.out.2.1 g e;omega) (λg e=>by have:=fT.out.2.2 g e;omega) gZ);have bE:=ł (show(jU.setCell ⟨AV,1,none⟩ (.int .u8 kd)).heap[AV]? = some (.cells #[.string vn,.int .u8 kd,.int .i64 0] 75 (0,0))from by simpa using block_setCell (p:=⟨AV,1,none⟩) HV.out rfl (.int .u8 kd));clear gZ HV gH;have HV:=bE;have gH:=aW;clear bE aW;go_upto_region 9 with fail;clear z0 z1 z2 zl zt;generalize jU.setCell ⟨AV,1,none⟩ (.int .u8 kd)=uG at *;have HC:=ł (iy (w.heap.size+1) w.heap.size iM 1 uG gH.out.rd jP.out);go_wp2_with fail;refine HC.out.mono ?_;rintro e jV ⟨v,rfl,rfl,hs,hm⟩;have bN:=ł (gH.out.read hs hm);have zM:=ł (vX.out.trans (iD iM 1 _));have sZ:=ł ((dN jP.out 1).2);have vZ:=ł (vY.out.rd 1);have Y8:=iX (x:=aF (rB iM 1).1) jP.out (by decide) rfl;have Y9:=vO (x:=aF (rB iM 1).1) jP.out rfl;have bE:=ł (gH.out.yh HV.out (by decide) (by decide) hm);clear hs hm HV HC gH vX jP vY;generalize aF (rB iM 1).1=ln at *;generalize (rB iM 1).2=mR at *;have HV:=bE;clear bE;obtain⟨z0,z1,z2⟩:=kU HV.out;have zl:=lt_of_block HV.out;have zt:=bC HV.out;have gZ:Mv (λg=>g=AV) jV (jV.setCell ⟨AV,2,none⟩ (.int .i64 ln)):=(Mv.refl (λg=>g=AV) jV).setCell (p:=⟨AV,2,none⟩) (.inl rfl) _;have aW:=ł (bN.out.fill HV.out (by decide) (by decide) uF.out (λg e=>by have:=fT.out.1 g e;omega) (λg e=>by have:=fT.out.2.1 g e;omega) (λg e=>by have:=fT.out.2.2 g e;omega) gZ);have bE:=ł (show(jV.setCell ⟨AV,2,none⟩ (.int .i64 ln)).heap[AV]? = some (.cells #[.string vn,.int .u8 kd,.int .i64 ln] 75 (0,0))from by simpa using block_setCell (p:=⟨AV,2,none⟩) HV.out rfl (.int .i64 ln));clear gZ HV bN;have HV:=bE;have bN:=aW;clear bE aW;go_upto_region 10 with fail;clear z0 z1 z2 zl zt;generalize jV.setCell ⟨AV,2,none⟩ (.int .i64 ln)=uH at *;obtain⟨qa,qc,rfl⟩:=jH bN.out.ps;simp only at bN;obtain⟨⟨x0,x1,x2⟩,⟨x3,x4⟩,x5,x6⟩:=aM bN.out.box;have xl:=lt_of_block bN.out.box;have xz:=bC bN.out.box;obtain⟨z0,z1,z2⟩:=kU HV.out;have zl:=lt_of_block HV.out;have hga:Grow uH (uH.alloc (.cells #[.string vn,.int .u8 kd,.int .i64 ln] 75)):=(Mv.refl _ _).alloc _;obtain⟨a5,c5,w5,⟨hok,fM,haw⟩,pM,pJ,-⟩:=nD Tryz.VM (f:=aL.cells) Dp (.slice qa pre.length qc) (.slice (some ⟨uH.heap.size,0,none⟩) 1 1) pre [⟨vn,kd,ln⟩] w.heap.size _ (aU bN.out.ps hga (λ_ _ e=>e)) (ai.qm (f:=aL.cells) (l:=[⟨vn,kd,ln⟩]) Dp (heap_alloc_new uH (.cells #[.string vn,.int .u8 kd,.int .i64 ln] 75)) (by simp[flat,aL.cells]) (Nat.le_of_ble_eq_true rfl)) (λy hy u hu=>by rw[List.mem_singleton.1 hy]at hu;simp[aL.cells]at hu;rcases hu with rfl|rfl|rfl <;> rfl) (by have:=bN.out.g.size;simp;omega) (by simp;omega);have gI:=Mv.trans (O:=λb=>(Value.slice qa pre.length qc).ownBlock=some b) (hga.mono (λ_ e=>e.elim)) pJ (λb e => .inl e);have yu:=ł (bN.out.AP gI (λb e=>by
   obtain⟨h1,cs,z,h2⟩:=eT bN.out.ps b e;exact⟨h1,bN.out.apart h2 (by decide) (by decide)⟩) 1 (.slice a5 (pre.length+1) c5) (o':=⟨nm,(pre ++ [⟨vn,kd,ln⟩]),[],0,0,[],[]⟩) (by simpa using pM) (World.ownsRow_nil _ _ _ _) (World.ownsRow_nil _ _ _ _) rfl)
  have gQ:=(gI.block _ (lt_of_block bN.out.box) (λe=>by
   obtain⟨h1,cs,z,h2⟩:=eT bN.out.ps _ e;exact(bN.out.apart h2 (by decide) (by decide)).2.2 rfl)).trans bN.out.box
  obtain⟨⟨y0,y1,y2⟩,⟨y3,y4⟩,y5,y6⟩:=aM gQ;have yl:=lt_of_block gQ;have yz:=bC gQ;have lK:=ł (vZ.out.low (m':=(pre ++ [(⟨vn,kd,ln⟩:aL)]).length) (by simp <;> omega));clear pM pJ gI hga gQ bN vZ;go_wp2_with fail;clear x0 x1 x2 x3 x4 x5 x6 xl xz;clear z0 z1 z2 zl y0 y1 y2 y3 y4 y5 y6 yl yz;refine⟨⟨k,mR,pre ++ [⟨vn,kd,ln⟩],.slice a5 (pre.length+1) c5,rfl,by omega,?_,?_,?_,?_⟩,?_⟩
  · exact yu.out
  · exact zM.out
  · exact sZ.out
  · exact lK.out
  · simp[intOf] <;> omega
 case rest =>
  obtain⟨wW,ps,uI,hd,eZ,hby,hlf⟩:=hcut;have FJ:=ł hd;have Mr:=ł eZ;have zN:=ł hby
  have Ms:=ł hlf;clear hd eZ hby hlf HD3 AU FH FI;have HC:=ł (iy (w.heap.size+1) w.heap.size wW 4 wc FJ.out.rd zN.out);go_wp2_with fail;refine HC.out.mono ?_;rintro e Za ⟨v,rfl,rfl,hs,hm⟩;have oI:=ł (FJ.out.read hs hm);have Mt:=ł (Mr.out.trans (iD wW 4 _));have Mw:=ł ((dN zN.out 4).2);have Mx:=ł (Ms.out.rd 4);have aaG:=iX (x:=aF (rB wW 4).1) zN.out (by decide) rfl;clear hs hm HC FJ Mr zN Ms;generalize aF (rB wW 4).1=cc at *;generalize (rB wW 4).2=wY at *;obtain⟨⟨x0,x1,x2⟩,⟨x3,x4⟩,x5,x6⟩:=aM oI.out.box;have xl:=lt_of_block oI.out.box;have xz:=bC oI.out.box;have FK:=ł (oI.out.upd 3 (.int .i64 cc) (o':=⟨nm,ps,[],cc,0,[],[]⟩) oI.out.ps oI.out.ss oI.out.rs rfl);go_upto_region 12 with fail;clear x0 x1 x2 x3 x4 x5 x6 xl xz;generalize Za.setCell ⟨(w.heap.size+1+1),3,none⟩ (.int .i64 cc)=Zb at *;clear oI;have MB:=Mt;clear Mt;have zO:=Mw;clear Mw;have MC:=Mx;clear Mx;have HC:=ł (iy (w.heap.size+1) w.heap.size wY 4 Zb FK.out.rd zO.out);go_wp2_with fail;refine HC.out.mono ?_;rintro e Zc ⟨v,rfl,rfl,hs,hm⟩;have oJ:=ł (FK.out.read hs hm);have ME:=ł (MB.out.trans (iD wY 4 _));have MF:=ł ((dN zO.out 4).2);have MG:=ł (MC.out.rd 4);have aaH:=iX (x:=aF (rB wY 4).1) zO.out (by decide) rfl;clear hs hm HC FK MB zO MC;generalize aF (rB wY 4).1=ct at *;generalize (rB wY 4).2=wZ at *;obtain⟨⟨x0,x1,x2⟩,⟨x3,x4⟩,x5,x6⟩:=aM oJ.out.box;have xl:=lt_of_block oJ.out.box;have xz:=bC oJ.out.box;have FL:=ł (oJ.out.upd 4 (.int .i64 ct) (o':=⟨nm,ps,[],cc,ct,[],[]⟩) oJ.out.ps oJ.out.ss oJ.out.rs rfl);go_upto_region 13 with fail;clear x0 x1 x2 x3 x4 x5 x6 xl xz;generalize Zc.setCell ⟨(w.heap.size+1+1),4,none⟩ (.int .i64 ct)=Zd at *;clear oJ;have MH:=ME;clear ME;have zP:=MF;clear MF;have MI:=MG;clear MG;have HC:=ł (iy (w.heap.size+1) w.heap.size wZ 2 Zd FL.out.rd zP.out);go_wp2_with fail;refine HC.out.mono ?_;rintro e aaI ⟨v,rfl,rfl,hs,hm⟩;have FM:=ł (FL.out.read hs hm);have zQ:=ł (MH.out.trans (iD wZ 2 _));have EC:=ł ((dN zP.out 2).2);have ED:=ł (MI.out.rd 2);have aaJ:=iX (x:=aF (rB wZ 2).1) zP.out (by decide) rfl;clear hs hm HC FL MH zP MI;generalize aF (rB wZ 2).1=nv at *;generalize (rB wZ 2).2=Ze at *;obtain⟨n,rfl⟩:∃ n:Nat,nv=n:=⟨nv.toNat,by omega⟩;rw[Int.toNat_natCast]at zQ
  go_upto_block 2 with fail
  go_cut [] (λwc=>∃ (st:Option (List Int)) (pre:List aG) (pv:Value),aY w w.heap.size (w.heap.size+1) (w.heap.size+1+1) wc st (⟨nm,ps,pre,cc,ct,[],[]⟩) (uI) (pv) (.slice none 0 0)/\PF=st.bind (ym nm ps cc ct pre)/\(∀ q,st=some q->aS q)/\gu 0 l.length st)
  case first =>
   go_wp2_with fail
   go_loopw [8] (λnv wr=>∃ (k:Nat) (st:Option (List Int)) (pre:List aG) (pv:Value),nv = .int .i64 k/\k<=n/\aY w w.heap.size (w.heap.size+1) (w.heap.size+1+1) wr st (⟨nm,ps,pre,cc,ct,[],[]⟩) (uI) (pv) (.slice none 0 0)/\PF=st.bind (au (pN nN k) λq=>ym nm ps cc ct (pre ++ q))/\(∀ q,st=some q->aS q)/\gu pre.length l.length st) (λnv _=>(intOf nv).toNat)
   case atStart=>exact⟨n,Ze,[],.slice none 0 0,rfl,Nat.le_refl _,FM.out,zQ.out,EC.out,ED.out.low (Nat.zero_le _)⟩
   obtain⟨k,bQ,pre,pv,rfl,hkn,hd,eZ,hby,hlf⟩:=hrel;have aV:=ł hd;have jS:=ł eZ;have fH:=ł hby
   have gG:=ł hlf;clear hd eZ hby hlf FM zQ EC ED;have HX:=ł (λh=>(show _ from jS.out.trans (CS (p:=nN) (K:=ym nm ps cc ct) h)));obtain⟨G6,fQ,-⟩:=aV.out.rd;obtain⟨r0,r1⟩:=rY fQ;have rl:=lt_of_block fQ;clear fQ;rcases k with _|k
   · go_wp2_with fail
     go_meet
     case rel=>exact⟨bQ,pre,pv,aV.out,HX.out (by simp),fH.out,gG.out.low (Nat.zero_le _)⟩
   have hk0:(0:Int)<((k+1:Nat):Int):=by omega
   rcases bQ with _|q9
   · go_wp2_with fail
     go_meet
     case rel=>exact⟨none,pre,pv,aV.out,HX.out (by simp),fH.out,gG.out.low (Nat.zero_le _)⟩
   have hpl:pre.length<=800000:=by have:=gG.out q9 rfl;have:=uA.out;omega
   have jT:=ł (jS.out.trans (congrArg (some q9).bind (TH k (ym nm ps cc ct) pre)));simp only[Option.isNone_some]at r1;clear HX jS;generalize yn:some q9=bQ at *;have HC:=ł (yL (w.heap.size+1) w.heap.size bQ wr aV.out.rd fH.out);go_wp2_with fail;refine HC.out.mono ?_;rintro e jh ⟨v,rfl,rfl,hs,hm⟩;have bZ:=ł (aV.out.read hs hm);have nV:=ł (jT.out.trans (zy bQ _));have gy:=ł (zi fH.out);have nW:=ł (gG.out.str);clear hs hm HC aV jT fH gG;generalize eG (rS bQ).1=vn at *;generalize (rS bQ).2=cu at *;clear r0 r1 rl yn;have hga:Grow jh (jh.alloc (.cells #[.string vn,.int .u8 0,.int .i64 0,.int .i64 0] 89)):=(Mv.refl _ _).alloc _;have HV:=ł (heap_alloc_new jh (.cells #[.string vn,.int .u8 0,.int .i64 0,.int .i64 0] 89));have fT:=ł bZ.out.QY;have uF:=ł bZ.out.g.size;have aW:=ł (bZ.out.grow hga);clear hga bZ;have bZ:=aW;clear aW;go_upto_region 17 with fail;generalize (jh.alloc (.cells #[.string vn,.int .u8 0,.int .i64 0,.int .i64 0] 89))=G7 at *;generalize jh.heap.size=AV at *;have HC:=ł (iy (w.heap.size+1) w.heap.size cu 1 G7 bZ.out.rd gy.out);go_wp2_with fail;refine HC.out.mono ?_;rintro e jU ⟨v,rfl,rfl,hs,hm⟩;have gH:=ł (bZ.out.read hs hm);have vX:=ł (nV.out.trans (iD cu 1 _));have jP:=ł ((dN gy.out 1).2);have vY:=ł (nW.out.rd 1);have Y6:=iX (x:=aF (rB cu 1).1) gy.out (by decide) rfl;have Y7:=vO (x:=aF (rB cu 1).1) gy.out rfl;have bE:=ł (bZ.out.yh HV.out (by decide) (by decide) hm);clear hs hm HV HC bZ nV gy nW;generalize aF (rB cu 1).1=kd at *;generalize (rB cu 1).2=iM at *;have HV:=bE;clear bE;have hmod:kd % 256=kd:=by omega
   obtain⟨⟨z0,z1⟩,z2,z3⟩:=mi HV.out;have zl:=lt_of_block HV.out;have zt:=bC HV.out;have gZ:Mv (λg=>g=AV) jU (jU.setCell ⟨AV,1,none⟩ (.int .u8 kd)):=(Mv.refl (λg=>g=AV) jU).setCell (p:=⟨AV,1,none⟩) (.inl rfl) _;have aW:=ł (gH.out.fill HV.out (by decide) (by decide) uF.out (λg e=>by have:=fT.out.1 g e;omega) (λg e=>by have:=fT.out.2.1 g e;omega) (λg e=>by have:=fT.out.2.2 g e;omega) gZ);have bE:=ł (show(jU.setCell ⟨AV,1,none⟩ (.int .u8 kd)).heap[AV]? = some (.cells #[.string vn,.int .u8 kd,.int .i64 0,.int .i64 0] 89 (0,0))from by simpa using block_setCell (p:=⟨AV,1,none⟩) HV.out rfl (.int .u8 kd));clear gZ HV gH;have HV:=bE;have gH:=aW;clear bE aW;go_upto_region 18 with fail;clear z0 z1 z2 z3 zl zt;generalize jU.setCell ⟨AV,1,none⟩ (.int .u8 kd)=uG at *;have HC:=ł (iy (w.heap.size+1) w.heap.size iM 1 uG gH.out.rd jP.out);go_wp2_with fail;refine HC.out.mono ?_;rintro e jV ⟨v,rfl,rfl,hs,hm⟩;have bN:=ł (gH.out.read hs hm);have zM:=ł (vX.out.trans (iD iM 1 _));have sZ:=ł ((dN jP.out 1).2);have vZ:=ł (vY.out.rd 1);have Y8:=iX (x:=aF (rB iM 1).1) jP.out (by decide) rfl;have Y9:=vO (x:=aF (rB iM 1).1) jP.out rfl;have bE:=ł (gH.out.yh HV.out (by decide) (by decide) hm);clear hs hm HV HC gH vX jP vY;generalize aF (rB iM 1).1=ln at *;generalize (rB iM 1).2=mR at *;have HV:=bE;clear bE;obtain⟨⟨z0,z1⟩,z2,z3⟩:=mi HV.out;have zl:=lt_of_block HV.out;have zt:=bC HV.out;have gZ:Mv (λg=>g=AV) jV (jV.setCell ⟨AV,2,none⟩ (.int .i64 ln)):=(Mv.refl (λg=>g=AV) jV).setCell (p:=⟨AV,2,none⟩) (.inl rfl) _;have aW:=ł (bN.out.fill HV.out (by decide) (by decide) uF.out (λg e=>by have:=fT.out.1 g e;omega) (λg e=>by have:=fT.out.2.1 g e;omega) (λg e=>by have:=fT.out.2.2 g e;omega) gZ);have bE:=ł (show(jV.setCell ⟨AV,2,none⟩ (.int .i64 ln)).heap[AV]? = some (.cells #[.string vn,.int .u8 kd,.int .i64 ln,.int .i64 0] 89 (0,0))from by simpa using block_setCell (p:=⟨AV,2,none⟩) HV.out rfl (.int .i64 ln));clear gZ HV bN;have HV:=bE;have bN:=aW;clear bE aW;go_upto_region 19 with fail;clear z0 z1 z2 z3 zl zt;generalize jV.setCell ⟨AV,2,none⟩ (.int .i64 ln)=uH at *;have HC:=ł (iy (w.heap.size+1) w.heap.size mR 4 uH bN.out.rd sZ.out);go_wp2_with fail;refine HC.out.mono ?_;rintro e xe ⟨v,rfl,rfl,hs,hm⟩;have dH:=ł (bN.out.read hs hm);have X3:=ł (zM.out.trans (iD mR 4 _));have X4:=ł ((dN sZ.out 4).2);have MJ:=ł (vZ.out.rd 4);have aaK:=iX (x:=aF (rB mR 4).1) sZ.out (by decide) rfl;have bE:=ł (bN.out.yh HV.out (by decide) (by decide) hm);clear hs hm HV HC bN zM sZ vZ;generalize aF (rB mR 4).1=la at *;generalize (rB mR 4).2=Zf at *;have HV:=bE;clear bE;obtain⟨⟨z0,z1⟩,z2,z3⟩:=mi HV.out;have zl:=lt_of_block HV.out;have zt:=bC HV.out;have gZ:Mv (λg=>g=AV) xe (xe.setCell ⟨AV,3,none⟩ (.int .i64 la)):=(Mv.refl (λg=>g=AV) xe).setCell (p:=⟨AV,3,none⟩) (.inl rfl) _;have aW:=ł (dH.out.fill HV.out (by decide) (by decide) uF.out (λg e=>by have:=fT.out.1 g e;omega) (λg e=>by have:=fT.out.2.1 g e;omega) (λg e=>by have:=fT.out.2.2 g e;omega) gZ);have bE:=ł (show(xe.setCell ⟨AV,3,none⟩ (.int .i64 la)).heap[AV]? = some (.cells #[.string vn,.int .u8 kd,.int .i64 ln,.int .i64 la] 89 (0,0))from by simpa using block_setCell (p:=⟨AV,3,none⟩) HV.out rfl (.int .i64 la));clear gZ HV dH;have HV:=bE;have dH:=aW;clear bE aW;go_upto_region 20 with fail;clear z0 z1 z2 z3 zl zt;generalize xe.setCell ⟨AV,3,none⟩ (.int .i64 la)=BR at *;obtain⟨qa,qc,rfl⟩:=jH dH.out.ss;simp only at dH;obtain⟨⟨x0,x1,x2⟩,⟨x3,x4⟩,x5,x6⟩:=aM dH.out.box;have xl:=lt_of_block dH.out.box;have xz:=bC dH.out.box;obtain⟨⟨z0,z1⟩,z2,z3⟩:=mi HV.out;have zl:=lt_of_block HV.out;have hga:Grow BR (BR.alloc (.cells #[.string vn,.int .u8 kd,.int .i64 ln,.int .i64 la] 89)):=(Mv.refl _ _).alloc _;obtain⟨a5,c5,w5,⟨hok,fM,haw⟩,pM,pJ,-⟩:=nD Tryz.VI (f:=aG.cells) Dq (.slice qa pre.length qc) (.slice (some ⟨BR.heap.size,0,none⟩) 1 1) pre [⟨vn,kd,ln,la⟩] w.heap.size _ (aU dH.out.ss hga (λ_ _ e=>e)) (ai.qm (f:=aG.cells) (l:=[⟨vn,kd,ln,la⟩]) Dq (heap_alloc_new BR (.cells #[.string vn,.int .u8 kd,.int .i64 ln,.int .i64 la] 89)) (by simp[flat,aG.cells]) (Nat.le_of_ble_eq_true rfl)) (λy hy u hu=>by rw[List.mem_singleton.1 hy]at hu;simp[aG.cells]at hu;rcases hu with rfl|rfl|rfl|rfl <;> rfl) (by have:=dH.out.g.size;simp;omega) (by simp;omega);have gI:=Mv.trans (O:=λb=>(Value.slice qa pre.length qc).ownBlock=some b) (hga.mono (λ_ e=>e.elim)) pJ (λb e => .inl e);have yu:=ł (dH.out.AP gI (λb e=>by
    obtain⟨h1,cs,z,h2⟩:=eT dH.out.ss b e;exact⟨h1,dH.out.apart h2 (by decide) (by decide)⟩) 2 (.slice a5 (pre.length+1) c5) (o':=⟨nm,ps,(pre ++ [⟨vn,kd,ln,la⟩]),cc,ct,[],[]⟩) (aU dH.out.ps gI (λg e eo=>by
    obtain⟨-,c1,f1,h1⟩:=eT dH.out.ps g e;obtain⟨-,c2,f2,h2⟩:=eT dH.out.ss g eo;rw[h1]at h2;simp only[Option.some.injEq,Obj.cells.injEq]at h2;exact absurd h2.2.1 (by decide))) (by simpa using pM) (World.ownsRow_nil _ _ _ _) rfl)
   have gQ:=(gI.block _ (lt_of_block dH.out.box) (λe=>by
    obtain⟨h1,cs,z,h2⟩:=eT dH.out.ss _ e;exact(dH.out.apart h2 (by decide) (by decide)).2.2 rfl)).trans dH.out.box
   obtain⟨⟨y0,y1,y2⟩,⟨y3,y4⟩,y5,y6⟩:=aM gQ;have yl:=lt_of_block gQ;have yz:=bC gQ;have lK:=ł (MJ.out.low (m':=(pre ++ [(⟨vn,kd,ln,la⟩:aG)]).length) (by simp <;> omega));clear pM pJ gI hga gQ dH MJ;go_wp2_with fail;clear x0 x1 x2 x3 x4 x5 x6 xl xz;clear z0 z1 z2 z3 zl y0 y1 y2 y3 y4 y5 y6 yl yz;refine⟨⟨k,Zf,pre ++ [⟨vn,kd,ln,la⟩],.slice a5 (pre.length+1) c5,rfl,by omega,?_,?_,?_,?_⟩,?_⟩
   · exact yu.out
   · exact X3.out
   · exact X4.out
   · exact lK.out
   · simp[intOf] <;> omega
  case rest =>
   obtain⟨xg,ss,BS,hd,eZ,hby,hlf⟩:=hcut;have FN:=ł hd;have ML:=ł eZ;have zT:=ł hby
   have MM:=ł hlf;clear hd eZ hby hlf FM zQ EC ED;have HC:=ł (iy (w.heap.size+1) w.heap.size xg 4 wc FN.out.rd zT.out);go_wp2_with fail;refine HC.out.mono ?_;rintro e Zg ⟨v,rfl,rfl,hs,hm⟩;have FO:=ł (FN.out.read hs hm);have EF:=ł (ML.out.trans (iD xg 4 _));have EH:=ł ((dN zT.out 4).2);have MN:=ł (MM.out.rd 4);have aaL:=iX (x:=aF (rB xg 4).1) zT.out (by decide) rfl;clear hs hm HC FN ML zT MM;generalize aF (rB xg 4).1=qv at *;generalize (rB xg 4).2=AY at *;obtain⟨qn,rfl⟩:∃ qn:Nat,qv=qn:=⟨qv.toNat,by omega⟩;rw[Int.toNat_natCast]at EF;have HC:=ł (Cz (w.heap.size+1) w.heap.size AY qn Zg FO.out.rd);go_wp2_with fail;refine HC.out.mono ?_;rintro e Zh ⟨cv,rfl,⟨hr,hsm⟩,hs,hm⟩;have FP:=ł (FO.out.read hs hm);have MO:=ł (EF.out.trans (KN AY qn _));have zU:=ł ((dN EH.out qn).2);have MP:=ł (MN.out.rd qn);have fe:=ł (And.intro hr hsm);have yf:=ł ((dN EH.out qn).1);clear hr hsm hs hm HC FO EF EH MN;generalize (rB AY qn).1=co at *;generalize (rB AY qn).2=xh at *;have HC:=ł (iy (w.heap.size+1) w.heap.size xh 4 Zh FP.out.rd zU.out);go_wp2_with fail;refine HC.out.mono ?_;rintro e aaM ⟨v,rfl,rfl,hs,hm⟩;have FQ:=ł (FP.out.read hs hm);have zV:=ł (MO.out.trans (iD xh 4 _));have EI:=ł ((dN zU.out 4).2);have EJ:=ł (MP.out.rd 4);have aaN:=iX (x:=aF (rB xh 4).1) zU.out (by decide) rfl;have pO:=ł (nG fe.out hm (λb e=>by rw[e];omega));clear hs hm fe HC FP MO zU MP;generalize aF (rB xh 4).1=nv at *;generalize (rB xh 4).2=Zi at *;have fe:=pO;clear pO;obtain⟨n,rfl⟩:∃ n:Nat,nv=n:=⟨nv.toNat,by omega⟩;rw[Int.toNat_natCast]at zV
   go_upto_block 4 with fail
   go_cut [] (λwc=>∃ (st:Option (List Int)) (pre:List aI) (pv:Value),aY w w.heap.size (w.heap.size+1) (w.heap.size+1+1) wc st (⟨nm,ps,ss,cc,ct,[],pre⟩) (uI) (BS) (pv)/\PF=st.bind (yj nm ps cc ct ss co pre)/\(ai 1 aJ wc cv co/\ko cv w.heap.size co))
   case first =>
    go_wp2_with fail
    go_loopw [11] (λnv wr=>∃ (k:Nat) (st:Option (List Int)) (pre:List aI) (pv:Value),nv = .int .i64 k/\k<=n/\aY w w.heap.size (w.heap.size+1) (w.heap.size+1+1) wr st (⟨nm,ps,ss,cc,ct,[],pre⟩) (uI) (BS) (pv)/\PF=st.bind (au (pN ou k) λq=>yj nm ps cc ct ss co (pre ++ q))/\(∀ q,st=some q->aS q)/\gu pre.length l.length st/\(ai 1 aJ wr cv co/\ko cv w.heap.size co)) (λnv _=>(intOf nv).toNat)
    case atStart=>exact⟨n,Zi,[],.slice none 0 0,rfl,Nat.le_refl _,FQ.out,zV.out,EI.out,EJ.out.low (Nat.zero_le _),fe.out⟩
    obtain⟨k,bQ,pre,pv,rfl,hkn,hd,eZ,hby,hlf,hco⟩:=hrel;have aV:=ł hd;have jS:=ł eZ;have fH:=ł hby
    have gG:=ł hlf;clear fe;have fe:=ł hco;clear hd eZ hby hlf hco FQ zV EI EJ;have HX:=ł (λh=>(show _ from jS.out.trans (CS (p:=ou) (K:=yj nm ps cc ct ss co) h)));obtain⟨G6,fQ,-⟩:=aV.out.rd;obtain⟨r0,r1⟩:=rY fQ;have rl:=lt_of_block fQ;clear fQ;rcases k with _|k
    · go_wp2_with fail
      go_meet
      case rel=>exact⟨bQ,pre,pv,aV.out,HX.out (by simp),fe.out⟩
    have hk0:(0:Int)<((k+1:Nat):Int):=by omega
    rcases bQ with _|q9
    · go_wp2_with fail
      go_meet
      case rel=>exact⟨none,pre,pv,aV.out,HX.out (by simp),fe.out⟩
    have hpl:pre.length<=800000:=by have:=gG.out q9 rfl;have:=uA.out;omega
    have jT:=ł (jS.out.trans (congrArg (some q9).bind (Uy k (yj nm ps cc ct ss co) pre)));simp only[Option.isNone_some]at r1;clear HX jS;generalize yn:some q9=bQ at *;have HC:=ł (iy (w.heap.size+1) w.heap.size bQ 4 wr aV.out.rd fH.out);go_wp2_with fail;refine HC.out.mono ?_;rintro e jh ⟨v,rfl,rfl,hs,hm⟩;have bZ:=ł (aV.out.read hs hm);have nV:=ł (jT.out.trans (iD bQ 4 _));have gy:=ł ((dN fH.out 4).2);have nW:=ł (gG.out.rd 4);have aaO:=iX (x:=aF (rB bQ 4).1) fH.out (by decide) rfl;have pO:=ł (nG fe.out hm (λb e=>by rw[e];omega));clear hs hm fe HC aV jT fH gG;generalize aF (rB bQ 4).1=ra at *;generalize (rB bQ 4).2=cu at *;have fe:=pO;clear pO;clear r0 r1 rl yn;obtain⟨qa,qc,rfl⟩:=jH bZ.out.rs;simp only at bZ;go_upto_region 26 with fail;refine _I 7 4 124 [some 88,some 89,some 90,some 91,some 92,some 93,some 94] [[],[0],[1],[],[],[3,4],[5]] [false,false,false,false,false,true,true] [Pc (.pointer (some ⟨(w.heap.size+1+1),5,none⟩)),Pc (.pointer (some ⟨(w.heap.size+1+1),6,none⟩)),Pc (.slice qa pre.length qc),Pc (.int .i64 ra),aP,Pc (.agg #[.int .i64 ra,.string (eG (rS cu).1)]),λv x=>∃ g,v = .slice (some ⟨g,0,none⟩) 1 1/\x.heap[g]? = some (.cells #[.int .i64 ra,.string (eG (rS cu).1)] 67 (0,0))] (λx=>aY w w.heap.size (w.heap.size+1) (w.heap.size+1+1) x cu (⟨nm,ps,ss,cc,ct,[],pre⟩) (uI) (BS) (.slice qa pre.length qc)/\(ai 1 aJ x cv co/\ko cv w.heap.size co)) (λv x=>v = .string (eG (rS cu).1)/\aY w w.heap.size (w.heap.size+1) (w.heap.size+1+1) x (rS cu).2 (⟨nm,ps,ss,cc,ct,[],pre⟩) (uI) (BS) (.slice qa pre.length qc)/\(ai 1 aJ x cv co/\ko cv w.heap.size co)) (λx y=>Mv (λb=>b=(w.heap.size+1)) x y) ⟨bZ.out.grow (Mv.refl _ _).drew,nG fe.out (Mv.refl (λ_=>False) _).drew (λ_ e=>e.elim)⟩ (λx y hg h=>⟨h.1.grow hg,nG h.2 hg (λ_ e=>e.elim)⟩) (λv x y hg h=>⟨h.1,h.2.1.grow hg,nG h.2.2 hg (λ_ e=>e.elim)⟩) ?sp ?st ?steps ?done
    case sp =>
     intro j v x y hg h;rcases j with _|_|_|_|_|_|_|j
     · exact h
     · exact h
     · exact h
     · exact h
     · exact h
     · exact h
     · obtain⟨g,e,hb⟩:=h;exact⟨g,e,aD hb hg⟩
     · exact h
    case st =>
     intro j v x y hd hm h;rcases j with _|_|_|_|_|_|_|j
     · exact h
     · exact h
     · exact h
     · exact h
     · exact h
     · exact h
     · cases hd
     · exact h
    case steps =>
     refine⟨⟨λ_ vs x hM hP hC => ?s0,λe=>absurd e (by decide)⟩,⟨λ_ vs x hM hP hC => ?s1,λe=>absurd e (by decide)⟩,⟨λ_ vs x hM hP hC => ?s2,λe=>absurd e (by decide)⟩,⟨λ_ vs x hM hP hC => ?s3,λe=>absurd e (by decide)⟩,⟨λe=>absurd rfl e,λ_ vs x hM hP => ?s4⟩,⟨λ_ vs x hM hP hC => ?s5,λe=>absurd e (by decide)⟩,⟨λ_ vs x hM hP hC => ?s6,λe=>absurd e (by decide)⟩,trivial⟩
     case s0|s3 =>
      clear hP hM hC;simp only[zR];go_simp;exact⟨Mv.refl _ _,rfl⟩
     case s1 =>
      have h0:vs 0=_:=hP 0 (by decide) (by decide);clear hP hM hC;simp only[zR,h0];go_simp;exact⟨Mv.refl _ _,rfl⟩
     case s2 =>
      have h1:vs 1=_:=hP 1 (by decide) (by decide);have hbx:x.heap[(w.heap.size+1+1)]? = _:=(hM.elim (λh=>h.1.box) (λh=>h.elim λv h=>h.2.1.box));obtain⟨⟨x0,x1,x2⟩,⟨x3,x4⟩,x5,x6⟩:=aM hbx;clear hP hM hC;simp only[zR,h1];go_simp;exact⟨Mv.refl _ _,rfl⟩
     case s4 =>
      have HC:=ł (yL (w.heap.size+1) w.heap.size cu x hM.1.rd gy.out);have HM:=ł hM;clear hP hM;simp only[zR];go_simp;refine HC.out.mono ?_;rintro e y ⟨v,rfl,rfl,hs,hm⟩;exact⟨_,rfl,⟨rfl,HM.out.1.read hs hm,nG HM.out.2 hm (λb e=>by rw[e];omega)⟩,hm⟩
     case s5 =>
      have h3:vs 3=_:=hP 3 (by decide) (by decide);have h4:vs 4=_:=(hC (by decide)).1;clear hP hM hC;simp only[zR,h3,h4];go_simp;exact⟨Mv.refl _ _,rfl⟩
     case s6 =>
      have h5:vs 5=_:=hP 5 (by decide) (by decide);clear hP hM hC;simp only[zR,h5];go_simp;exact⟨(Mv.refl _ _).alloc _,_,rfl,heap_alloc_new x _⟩
    case done =>
    intro vs uG hM hP;have h0:vs 0=_:=hP 0 (by decide) (by decide);have h1:vs 1=_:=hP 1 (by decide) (by decide);have h2:vs 2=_:=hP 2 (by decide) (by decide);have h3:vs 3=_:=hP 3 (by decide) (by decide);have h4:vs 4=_:=hM.1;have h5:vs 5=_:=hP 5 (by decide) (by decide);obtain⟨g6,h6,hb6⟩:∃ g,vs 6 = .slice (some ⟨g,0,none⟩) 1 1/\uG.heap[g]? = some (.cells #[.int .i64 ra,.string (eG (rS cu).1)] 67 (0,0)):=hP 6 (by decide) (by decide);simp only[zR,rg,h0,h1,h2,h3,h4,h5,h6,Nat.reduceAdd,List.drop_succ_cons,List.drop_zero];have aW:=ł hM.2.1;have pO:=ł hM.2.2;have _R:=ł (nV.out.trans (zy cu _));have xQ:=ł (zi gy.out);have QZ:=ł nW.out.str;clear hM hP h0 h1 h2 h3 h4 h5 h6 bZ fe nV gy nW;generalize eG (rS cu).1=vn at *;generalize (rS cu).2=mR at *;obtain⟨a5,c5,w5,⟨hok,fM,haw⟩,pM,gI,-⟩:=nD Tryz.VK (f:=aI.cells) Dr (.slice qa pre.length qc) (.slice (some ⟨g6,0,none⟩) 1 1) pre [⟨ra,vn⟩] w.heap.size uG aW.out.rs (ai.qm (f:=aI.cells) (l:=[⟨ra,vn⟩]) Dr hb6 (by simp[flat,aI.cells]) (Nat.le_of_ble_eq_true rfl)) (λy hy u hu=>by rw[List.mem_singleton.1 hy]at hu;simp[aI.cells]at hu;rcases hu with rfl|rfl <;> rfl) aW.out.g.size (by simp;omega);have yu:=ł (aW.out.AP gI (λb e=>by
     obtain⟨h1,cs,z,h2⟩:=eT aW.out.rs b e;exact⟨h1,aW.out.apart h2 (by decide) (by decide)⟩) 6 (.slice a5 (pre.length+1) c5) (o':=⟨nm,ps,ss,cc,ct,[],(pre ++ [⟨ra,vn⟩])⟩) (aU aW.out.ps gI (λg e eo=>by
     obtain⟨-,c1,f1,h1⟩:=eT aW.out.ps g e;obtain⟨-,c2,f2,h2⟩:=eT aW.out.rs g eo;rw[h1]at h2;simp only[Option.some.injEq,Obj.cells.injEq]at h2;exact absurd h2.2.1 (by decide))) (aU aW.out.ss gI (λg e eo=>by
     obtain⟨-,c1,f1,h1⟩:=eT aW.out.ss g e;obtain⟨-,c2,f2,h2⟩:=eT aW.out.rs g eo;rw[h1]at h2;simp only[Option.some.injEq,Obj.cells.injEq]at h2;exact absurd h2.2.1 (by decide))) (by simpa using pM) rfl)
    have gQ:=(gI.block _ (lt_of_block aW.out.box) (λe=>by
     obtain⟨h1,cs,z,h2⟩:=eT aW.out.rs _ e;exact(aW.out.apart h2 (by decide) (by decide)).2.2 rfl)).trans aW.out.box
    obtain⟨⟨y0,y1,y2⟩,⟨y3,y4⟩,y5,y6⟩:=aM gQ;have yl:=lt_of_block gQ;have yz:=bC gQ;have lK:=ł (QZ.out.low (m':=(pre ++ [(⟨ra,vn⟩:aI)]).length) (by simp <;> omega));have _T:=ł (nG (nG pO.out gI (λb e=>(eT aW.out.rs b e).1)) (Mv.setCell (p:=⟨(w.heap.size+1+1),6,none⟩) (Mv.refl (λb=>b=(w.heap.size+1+1)) w5) (.inl rfl) (.slice a5 (pre.length+1) c5)) (λb e=>by rw[e];omega));clear pM gI gQ hb6 aW QZ pO;go_wp2_with fail;clear y0 y1 y2 y3 y4 y5 y6 yl yz;refine⟨⟨k,mR,pre ++ [⟨ra,vn⟩],.slice a5 (pre.length+1) c5,rfl,by omega,?_,?_,?_,?_,?_⟩,?_⟩
    · exact yu.out
    · exact _R.out
    · exact xQ.out
    · exact lK.out
    · exact _T.out
    · simp[intOf] <;> omega
   case rest =>
    obtain⟨bQ,rf,rvv,hd,eZ,hco⟩:=hcut;have aV:=ł hd;have jT:=ł eZ;clear fe;have fe:=ł hco;clear hd eZ hco FQ zV EI EJ;obtain⟨ja,jc,rfl⟩:=jH aV.out.ps;obtain⟨ka,kc,rfl⟩:=jH aV.out.ss;obtain⟨ea,ec,rfl⟩:=jH aV.out.rs;simp only at aV;obtain⟨G6,fQ,Q0⟩:=aV.out.rd;have Q3:=ł Q0;have Q4:=ł fQ;obtain⟨r0,r1⟩:=rY fQ;have rl:=lt_of_block fQ;clear fQ Q0;rcases bQ with _|q
    · have uy:=ł (show PF=none from jT.out);have pQ:=ł (show RE=4 from by rw[rO.out,uy.out];rfl);have oK:=ł (show RD=eu from by rw[BQ.out,uy.out];rfl);simp only[Option.isNone_none]at r1;have HS:=ł (wL aV.out.res (.string ⟨#[]⟩) (.slice none 0 0) (.slice none 0 0) (.int .i64 0) (.int .i64 0) (.slice none 0 0) (.slice none 0 0));obtain⟨⟨u0,u1,u2⟩,⟨u3,u4⟩,u5,u6⟩:=aM aV.out.res;have ul:=lt_of_block aV.out.res;have uz:=bC aV.out.res;go_wp2_with fail;clear u0 u1 u2 u3 u4 u5 u6;obtain⟨⟨t0,t1,t2⟩,⟨t3,t4⟩,t5,t6⟩:=aM HS.out.1;exact bodyPost_ret (v := .tuple #[.agg #[.string ⟨#[]⟩,.slice none 0 0,.slice none 0 0,.int .i64 0,.int .i64 0,.slice none 0 0,.slice none 0 0],.int .i64 4]) (by simp[results,Tryz.results24,go_sem,t0,t1,t2,t3,t4,t5,t6]) rfl ⟨nH,by rw[pQ.out];rfl,(oK.out).symm,vM _,aV.out.g.trans HS.out.2 (λb e => .inr (by rw[e];exact Nat.le_refl _))⟩
    have jA:=ł (show PF=some (((⟨nm,ps,ss,cc,ct,[],rf⟩:aA),co),q)from jT.out);simp only[Option.isNone_some]at r1;have HRR:=ł (Q3.out q rfl).1;obtain⟨QU,QV,rfl,-,-⟩:=HRR.out.form;have HAD:=ł (Us cv co wc fe.out.1 yf.out (HT.out.later aV.out.g));obtain⟨⟨x0,x1,x2⟩,⟨x3,x4⟩,x5,x6⟩:=aM aV.out.box;have xl:=lt_of_block aV.out.box;have xz:=bC aV.out.box;go_wp2_with fail;refine HAD.out.mono ?_;clear HAD;rintro e qZ (⟨hno,E,hE,rfl,hg⟩|⟨is,ia,ic,hso,rfl,hir,hg⟩)
    · have pQ:=ł (show RE=3 from by rw[rO.out,jA.out];simp only[dh,hno]);have oK:=ł (show RD=eu from by rw[BQ.out,jA.out];simp only[dh,hno]);have bJ:=ł (aV.out.grow hg);have dE:(E != 0)=true:=by simpa using hE
      have _i:(E == 0)=false:=by simpa using hE
      clear x0 x1 x2 x3 x4 x5 x6 xl xz hno hg hE r0 r1 rl;have xm:=ł (bJ.out.upd 5 (.slice none 0 0) (o':=(⟨nm,ps,ss,cc,ct,[],rf⟩:aA)) bJ.out.ps bJ.out.ss bJ.out.rs rfl);obtain⟨⟨x0,x1,x2⟩,⟨x3,x4⟩,x5,x6⟩:=aM bJ.out.box;have xl:=lt_of_block bJ.out.box;have xz:=bC bJ.out.box;obtain⟨aaP,aaQ,-⟩:=bJ.out.rd;go_upto_region 31 with fail;clear x0 x1 x2 x3 x4 x5 x6 xl xz;generalize qZ.setCell ⟨(w.heap.size+1+1),5,none⟩ (.slice none 0 0)=Bj at *;have HS:=ł (wL xm.out.res (.string ⟨#[]⟩) (.slice none 0 0) (.slice none 0 0) (.int .i64 0) (.int .i64 0) (.slice none 0 0) (.slice none 0 0));obtain⟨⟨u0,u1,u2⟩,⟨u3,u4⟩,u5,u6⟩:=aM xm.out.res;have ul:=lt_of_block xm.out.res;have uz:=bC xm.out.res;go_wp2_with fail;clear u0 u1 u2 u3 u4 u5 u6;obtain⟨⟨t0,t1,t2⟩,⟨t3,t4⟩,t5,t6⟩:=aM HS.out.1;exact bodyPost_ret (v := .tuple #[.agg #[.string ⟨#[]⟩,.slice none 0 0,.slice none 0 0,.int .i64 0,.int .i64 0,.slice none 0 0,.slice none 0 0],.int .i64 3]) (by simp[results,Tryz.results24,go_sem,t0,t1,t2,t3,t4,t5,t6]) rfl ⟨nH,by rw[pQ.out];rfl,(oK.out).symm,vM _,xm.out.g.trans HS.out.2 (λb e => .inr (by rw[e];exact Nat.le_refl _))⟩
    have HIS:=ł (JR yf.out hso);have _U:=ł (_O.out _ _ jA.out);have oN:Mv (λb=>b=(w.heap.size+1+1)) qZ (qZ.setCell ⟨(w.heap.size+1+1),5,none⟩ (.slice ia is.length ic)):=(Mv.refl (λb=>b=(w.heap.size+1+1)) qZ).setCell (p:=⟨(w.heap.size+1+1),5,none⟩) (.inl rfl) _;have bJ:=ł (aV.out.grow hg);have Ox:=ł bJ.out.ne;have FR:=ł (show(qZ.setCell ⟨(w.heap.size+1+1),5,none⟩ (.slice ia is.length ic)).heap[(w.heap.size+1+1)]? = some (.cells #[.string nm,(.slice ja ps.length jc),(.slice ka ss.length kc),.int .i64 cc,.int .i64 ct,.slice ia is.length ic,(.slice ea rf.length ec)] 39 (0,0))from by simpa using block_setCell (p:=⟨(w.heap.size+1+1),5,none⟩) bJ.out.box rfl (.slice ia is.length ic));have xq:=ł ((oN.block _ (lt_of_block bJ.out.res) (λe=>by omega)).trans bJ.out.res);have FT:=ł (aD Q4.out hg);have Oy:=ł ((oN.block _ (lt_of_block FT.out) (λe=>Ox.out.1 e)).trans FT.out);have FU:=ł (bJ.out.g.trans oN (λb e => .inr (by rw[e];omega)));have Zj:=ł (aU bJ.out.ps oN (λg e eo=>iA bJ.out.ps bJ.out.box (by decide) (by rw[e,eo])));have Zk:=ł (aU bJ.out.ss oN (λg e eo=>iA bJ.out.ss bJ.out.box (by decide) (by rw[e,eo])));have Zl:=ł (aU bJ.out.rs oN (λg e eo=>iA bJ.out.rs bJ.out.box (by decide) (by rw[e,eo])));have Zm:=ł (qf hir (λu o e=>Uz u o e) bJ.out.box oN);clear x0 x1 x2 x3 x4 x5 x6 xl xz r0 r1 rl oN hg hir Q4 HRR Q3 fe yf;obtain⟨⟨x0,x1,x2⟩,⟨x3,x4⟩,x5,x6⟩:=aM bJ.out.box;have xl:=lt_of_block bJ.out.box;have xz:=bC bJ.out.box;go_upto_region 31 with fail;clear x0 x1 x2 x3 x4 x5 x6 xl xz bJ aV Ox FT;generalize qZ.setCell ⟨(w.heap.size+1+1),5,none⟩ (.slice ia is.length ic)=Bj at *;obtain⟨r0,r1⟩:=rY Oy.out;have rl:=lt_of_block Oy.out;rcases q with _|⟨q0,q⟩
    case cons =>
     have pQ:=ł (show RE=3 from by rw[rO.out,jA.out];simp[dh,hso]);have oK:=ł (show RD=eu from by rw[BQ.out,jA.out];simp[dh,hso]);have fU:(0:Int)<((q0 :: q).length:Nat):=by simp <;> omega
     generalize (q0 :: q).length=ql at *;have HS:=ł (wL xq.out (.string ⟨#[]⟩) (.slice none 0 0) (.slice none 0 0) (.int .i64 0) (.int .i64 0) (.slice none 0 0) (.slice none 0 0));obtain⟨⟨u0,u1,u2⟩,⟨u3,u4⟩,u5,u6⟩:=aM xq.out;have ul:=lt_of_block xq.out;have uz:=bC xq.out;go_wp2_with fail;clear u0 u1 u2 u3 u4 u5 u6;obtain⟨⟨t0,t1,t2⟩,⟨t3,t4⟩,t5,t6⟩:=aM HS.out.1;exact bodyPost_ret (v := .tuple #[.agg #[.string ⟨#[]⟩,.slice none 0 0,.slice none 0 0,.int .i64 0,.int .i64 0,.slice none 0 0,.slice none 0 0],.int .i64 3]) (by simp[results,Tryz.results24,go_sem,t0,t1,t2,t3,t4,t5,t6]) rfl ⟨nH,by rw[pQ.out];rfl,(oK.out).symm,vM _,FU.out.trans HS.out.2 (λb e => .inr (by rw[e];exact Nat.le_refl _))⟩
    have pQ:=ł (show RE=aA.bT (⟨nm,ps,ss,cc,ct,is,rf⟩:aA)from by
     rw[rO.out,jA.out];simp only[dh,hso,if_true];split
     · rename_i h;exact h.symm
     · rfl)
    have oK:=ł (show RD=if aA.bT (⟨nm,ps,ss,cc,ct,is,rf⟩:aA)=0 then(⟨nm,ps,ss,cc,ct,is,rf⟩:aA)else eu from by
     rw[BQ.out,jA.out];simp only[dh,hso,if_true];split <;> rfl)
    have yw:=ł (show mF Bj ⟨(⟨nm,ps,ss,cc,ct,is,rf⟩:aA),(.slice ja ps.length jc),(.slice ka ss.length kc),.slice ia is.length ic,(.slice ea rf.length ec)⟩from by
     refine⟨?_,pY Dp Zj.out,pY Dq Zk.out,Zm.out,pY Dr Zl.out⟩;exact I5 _U.out (λi hi=>(HIS.out.2.2 i hi).2))
    have ng:=ł (CB _ Bj (HT.out.later FU.out) yw.out);simp only[bX.val]at ng;generalize hck:aA.bT (⟨nm,ps,ss,cc,ct,is,rf⟩:aA)=CK at *;obtain⟨⟨x0,x1,x2⟩,⟨x3,x4⟩,x5,x6⟩:=aM FR.out;have xl:=lt_of_block FR.out;have fU:¬ (0:Int)<(([]:List Int).length:Nat):=by simp
    go_wp2_with fail;refine ng.out.mono ?_;rintro e PL ⟨rfl,hg⟩;clear x0 x1 x2 x3 x4 x5 x6 xl r0 r1 rl ng;have mU:=ł (aD xq.out hg);have Oz:=ł (aD FR.out hg);have OA:=ł (dw FU.out hg);by_cases h0:CK=0
    case neg =>
     have FV:=ł (show RD=eu from by rw[oK.out,if_neg h0]);have d0:(CK != 0)=true:=by simpa using h0
     have d1:(CK == 0)=false:=by simpa using h0
     clear h0 hg;have HS:=ł (wL mU.out (.string ⟨#[]⟩) (.slice none 0 0) (.slice none 0 0) (.int .i64 0) (.int .i64 0) (.slice none 0 0) (.slice none 0 0));obtain⟨⟨u0,u1,u2⟩,⟨u3,u4⟩,u5,u6⟩:=aM mU.out;have ul:=lt_of_block mU.out;have uz:=bC mU.out;go_wp2_with fail;clear u0 u1 u2 u3 u4 u5 u6;obtain⟨⟨t0,t1,t2⟩,⟨t3,t4⟩,t5,t6⟩:=aM HS.out.1;exact bodyPost_ret (v := .tuple #[.agg #[.string ⟨#[]⟩,.slice none 0 0,.slice none 0 0,.int .i64 0,.int .i64 0,.slice none 0 0,.slice none 0 0],.int .i64 CK]) (by simp[results,Tryz.results24,go_sem,t0,t1,t2,t3,t4,t5,t6]) rfl ⟨nH,by rw[pQ.out];rfl,(FV.out).symm,vM _,OA.out.trans HS.out.2 (λb e => .inr (by rw[e];exact Nat.le_refl _))⟩
    have HRW:=ł (show fA PL ⟨(⟨nm,ps,ss,cc,ct,is,rf⟩:aA),(.slice ja ps.length jc),(.slice ka ss.length kc),.slice ia is.length ic,(.slice ea rf.length ec)⟩from⟨yw.out.params.later hg,yw.out.slots.later hg,yw.out.code.later hg,yw.out.refs.later hg⟩);have FV:=ł (show RD=(⟨nm,ps,ss,cc,ct,is,rf⟩:aA)from by rw[oK.out,if_pos h0]);clear hg hck;subst h0;obtain⟨⟨x0,x1,x2⟩,⟨x3,x4⟩,x5,x6⟩:=aM Oz.out;have xl:=lt_of_block Oz.out;have HS:=ł (wL mU.out (.string nm) (.slice ja ps.length jc) (.slice ka ss.length kc) (.int .i64 cc) (.int .i64 ct) (.slice ia is.length ic) (.slice ea rf.length ec));obtain⟨⟨u0,u1,u2⟩,⟨u3,u4⟩,u5,u6⟩:=aM mU.out;have ul:=lt_of_block mU.out;have uz:=bC mU.out;go_wp2_with fail;clear u0 u1 u2 u3 u4 u5 u6 x0 x1 x2 x3 x4 x5 x6 xl;obtain⟨⟨t0,t1,t2⟩,⟨t3,t4⟩,t5,t6⟩:=aM HS.out.1;exact bodyPost_ret (v := .tuple #[.agg #[.string nm,(.slice ja ps.length jc),(.slice ka ss.length kc),.int .i64 cc,.int .i64 ct,.slice ia is.length ic,(.slice ea rf.length ec)],.int .i64 0]) (by simp[results,Tryz.results24,go_sem,t0,t1,t2,t3,t4,t5,t6]) rfl ⟨(⟨(⟨nm,ps,ss,cc,ct,is,rf⟩:aA),(.slice ja ps.length jc),(.slice ka ss.length kc),.slice ia is.length ic,(.slice ea rf.length ec)⟩:bX),by rw[pQ.out],FV.out.symm,HRW.out.box mU.out HS.out.2,OA.out.trans HS.out.2 (λb e => .inr (by rw[e];exact Nat.le_refl _))⟩
end Go.Proofs.YtadecgbblajifaaGreatDoor
