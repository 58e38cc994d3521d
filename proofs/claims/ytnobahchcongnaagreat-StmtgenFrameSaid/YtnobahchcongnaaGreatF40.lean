import Derived.Test.YtnobahchcongnaaGreatF39
set_option linter.unusedSimpArgs false
set_option linter.unusedVariables false
set_option maxRecDepth 100000
set_option maxHeartbeats 25600000
namespace Go.Proofs.YtnobahchcongnaaGreat
open Go.RowKit Go.Instr
attribute [local go_sem ↓] lu
def kW (i:Int):List Value:=[.int .i64 i]
theorem Tryz.KE:Elem Tryz.prog 51 3 1 8:=Elem.of Tryz.underlying51 Tryz.Qq rfl (by decide) (by decide)
abbrev FB (w:World) (base:Nat) (v:Value) (l:List Int):Prop:=w.ownsRow base 3 1 v l.length (flat kW l)
theorem Ot (v:Value) (l:List Int) (w:World) (h:ax 1 kW w v l) (hb:l.length * 8<=140737488355328) :
 Calls Tryz.prog 19 #[v] w (ZV 1 kW w l):=by
 obtain⟨a,cap,rfl,hc,hl⟩:=h.form;cases a with
 |none =>
  obtain rfl:l=[]:=by
   cases l with
   |nil=>rfl
   |cons x l=>obtain⟨b,off,c,e,_⟩:=h.at (i:=0) (by simp);simp at e
  have heq:(binOp .eql 51 (.slice none 0 cap) (.slice none 0 0)).run Tryz.prog w = .ok (.bool true) w:=by
   have:=Lib.run_eql_slice_nil (P:=Tryz.prog) w 51 3 none 0 cap 0 0 Tryz.underlying51
   simpa using this
  go_enter Tryz.func19,Tryz.ntmps19
  go_wp2_with fail;go_ret;exact⟨_,rfl,ax.nil _ _ _,λg hg=>by simp[Value.ownBlock]at hg,Mv.refl _ _⟩
 |some a =>
  obtain⟨v',w2,⟨hok,hv,hw⟩,⟨hrow,hown⟩,hg⟩:=XR Tryz.KE (λ_=>rfl) _ l w.heap.size (w.alloc (.cells #[] 3)) (heap_alloc_new w _) (h.later ((Mv.refl _ _).alloc _)) hb;have heq:(binOp .eql 51 (.slice (some a) l.length cap) (.slice none 0 0)).run Tryz.prog w = .ok (.bool false) w:=by
   have:=Lib.run_eql_slice_nil (P:=Tryz.prog) w 51 3 (some a) l.length cap 0 0 Tryz.underlying51
   simpa using this
  have HR:=ł hrow;have HW:=ł (λg hg=>(show w.heap.size<=g/\g<w2.heap.size from⟨by rcases(hown g hg).1 with h|h;omega;simp at h;omega,(hown g hg).2⟩));have HG:=ł (Mv.trans ((Mv.refl (λ_=>False) w).alloc (.cells #[] 3)) hg (λ_ e=>e.elim));clear h hrow hown hg
  go_enter Tryz.func19,Tryz.ntmps19
  go_wp2_with fail;go_ret;exact⟨_,rfl,HR.out,HW.out,HG.out⟩
theorem ZF {α:Type} {f:α->List Value} {n e base:Nat} {w:World} {a:Option Addr} {c:Nat} {l:List α} {x:α} (hf:∀ x,(f x).length=n) (h:w.ownsRow base e n (.slice a (l.length+1) c) (l ++ [x]).length (flat f (l ++ [x]))) :
 w.ownsRow base e n (.slice a l.length c) l.length (flat f l):=by
 obtain⟨h1,h2⟩:=h;refine⟨pY f n hf l,.inr ?_⟩;rcases h2 with⟨e1,-⟩|⟨g,cap,cur,e1,hb,hg,hc,hm,hs,ht⟩
 · simp at e1
 · simp only[Value.slice.injEq]at e1;obtain⟨rfl,e2,rfl⟩:=e1;simp only[List.length_append,List.length_cons,List.length_nil,Nat.zero_add]at hc ht;refine⟨g,c,cur,rfl,hb,hg,by omega,hm,hs,?_⟩;have:=congrArg (List.take (l.length * n)) ht;rw[List.take_take,IE,List.take_append_of_le_length (by rw[pY f n hf];exact Nat.le_refl _)]at this;rw[Nat.min_eq_left (Nat.mul_le_mul_right n (by omega)),List.take_of_length_le (l:=flat f l) (by rw[pY f n hf];exact Nat.le_refl _)]at this;exact this
theorem ZG (v:Value) (x:Int) (xs:List Int) (base g:Nat) (w:World) (hrow:FB w base v xs) (hb:base<=w.heap.size) (hlen:xs.length<=900000) (hg:w.heap[g]? = some (.cells #[.int .i64 x] 3 (0,0))) :
 ∃ a' c' w2,(rG Tryz.prog 51 51 v (.slice (some ⟨g,0,none⟩) 1 1) w /\
  nV Tryz.prog 51 51 v (.slice (some ⟨g,0,none⟩) 1 1) w = .slice a' (xs.length+1) c'/\appW Tryz.prog 51 51 v (.slice (some ⟨g,0,none⟩) 1 1) w=w2) /\
  FB w2 base (.slice a' (xs.length+1) c') (xs ++ [x])/\Mv (λb=>v.ownBlock=some b) w w2/\(∀ g,(Value.slice a' (xs.length+1) c').ownBlock=some g->v.ownBlock=some g\/w.heap.size<=g) :=
 oZ Tryz.KE (f:=kW) (λ_=>rfl) v _ xs [x] base w hrow (ax.bN (f:=kW) (l:=[x]) (λ_=>rfl) hg (by simp[flat,kW]) (by simp)) (λy hy u hu=>by simp[kW]at hu;subst hu;rfl) hb (by simp;omega)
mutual
def dD:Tree->List Tree
 |.mk k n s l => .mk k n s l :: gF l
def gF:List Tree->List Tree
 | []=>[]
 |t :: l=>dD t ++ gF l
end
theorem Iz:∀ (a b:List Tree),gF (a ++ b)=gF a ++ gF b
 | [],b=>by simp[gF]
 |t :: a,b=>by simp[gF,Iz a b]
theorem Ou (l:List Tree) (i:Nat) (h:i<l.length):gF (l.take (i+1))=gF (l.take i) ++ dD l[i]:=by
 rw[List.take_succ_eq_append_getElem h,Iz];simp[gF]
theorem V7 (l:List Tree) (i:Nat) (h:i<l.length):gF (l.take i) ++ dD l[i] <+: gF l:=by
 rw[← Ou l i h]
 conv=>rhs;rw[← List.take_append_drop (i+1) l,Iz]
 exact List.prefix_append _ _
structure vT (Ts:Nat->TypeId->Bool) (n0:Nat):Prop where
 node:∀ b,Ts b 26=false
 int:∀ b,n0<=b->Ts b 3=false
 ints:∀ b,Ts b 51=false
 yf:∀ b,Ts b 91=false
 vf:∀ b,Ts b 64=false
theorem vT.up {Ts:Nat->TypeId->Bool} {n0 n1:Nat} (h:vT Ts n0) (hn:n0<=n1):vT Ts n1:=⟨h.node,λb hb=>h.int b (by omega),h.ints,h.yf,h.vf⟩
def vD (Ts:Nat->TypeId->Bool) (b:Nat) (t:TypeId):Bool:=Ts b t || t == 3 || t == 51
theorem kE.ts2 {Ts:Nat->TypeId->Bool} {W W':World} (h:kE Ts W W'):kE (vD Ts) W W':=h.mono (λb hb => .inl λ⟨cs,t,z,hc,ht⟩=>hb ⟨cs,t,z,hc,by simp[vD]at ht;exact ht.1.1⟩)
theorem qi {Ts:Nat->TypeId->Bool} {W W':World} (h:Grow W W'):kE Ts W W':=h.mono (λ_ e=>e.elim)
theorem E8 {Ts:Nat->TypeId->Bool} {B:Nat} {W W':World} (h:Grow W W'):xV Ts B W W':=h.mono (λ_ e=>e.elim)
theorem kE.cells {Ts:Nat->TypeId->Bool} {W W':World} (h:kE Ts W W') {b:Nat} {cs:Array Value} {t:TypeId} {z:Nat × Nat} (hb:W.heap[b]? = some (.cells cs t z)) (ht:Ts b t=false):W'.heap[b]? = some (.cells cs t z) :=
 (h.block b (lt_of_block hb) (λe=>e ⟨cs,t,z,hb,ht⟩)).trans hb
structure qy (n0 l Y P V:Nat) (W:World) (path:Value) (ps:List Int):Prop where
 y:W.heap[Y]? = some (.cells #[.func (.yield l) #[] #[]] 91 (0,0))
 p:W.heap[P]? = some (.cells #[path] 51 (0,0))
 v:W.heap[V]? = some (.cells #[.func (.func 33) #[] #[.pointer (some ⟨Y,0,none⟩),.pointer (some ⟨P,0,none⟩),.pointer (some ⟨V,0,none⟩)]] 64 (0,0))
 hP:n0<=P
 row:FB W n0 path ps
theorem qy.bd {Ts:Nat->TypeId->Bool} {n0 l Y P V:Nat} (hT:vT Ts n0) {W W':World} {path:Value} {ps:List Int} (h:qy n0 l Y P V W path ps) (hm:kE Ts W W'):qy n0 l Y P V W' path ps :=
 ⟨hm.cells h.y (hT.yf _),hm.cells h.p (hT.ints _),hm.cells h.v (hT.vf _),h.hP,bM h.row hm (λg hg e=>by
  obtain⟨h1,cs,z,hc⟩:=oW h.row g hg;exact e ⟨cs,_,z,hc,hT.int _ h1⟩)⟩
theorem qy.step {n0 l Y P V:Nat} {W W':World} {path path':Value} {ps ps':List Int} (h:qy n0 l Y P V W path ps) (hm:Mv (λb=>b=P\/path.ownBlock=some b) W W') (hp:W'.heap[P]? = some (.cells #[path'] 51 (0,0))) (hr:FB W' n0 path' ps'):qy n0 l Y P V W' path' ps':=by
 have hne:∀ {b:Nat} {cs:Array Value} {t:TypeId} {z:Nat × Nat},W.heap[b]? = some (.cells cs t z)->t≠3->t≠51->W'.heap[b]? = some (.cells cs t z):=fun {b cs t z} hb h1 h2=>by
  refine(hm.block b (lt_of_block hb) (λe => ?_)).trans hb;rcases e with rfl|e
  · rw[h.p]at hb;simp at hb;exact h2 hb.2.1.symm
  · obtain⟨-,cs',z',hc⟩:=oW h.row b e;rw[hc]at hb;simp at hb;exact h1 hb.2.1.symm
 exact⟨hne h.y (by decide) (by decide),hp,hne h.v (by decide) (by decide),h.hP,hr⟩
theorem qy.own {n0 l Y P V:Nat} {W:World} {path:Value} {ps:List Int} (h:qy n0 l Y P V W path ps) {b:Nat} (hb:b=P\/path.ownBlock=some b):n0<=b/\∃ cs t z,W.heap[b]? = some (.cells cs t z)/\(t=3\/t=51):=by
 rcases hb with rfl|hb
 · exact⟨h.hP,_,_,_,h.p,.inr rfl⟩
 · obtain⟨h1,cs,z,hc⟩:=oW h.row b hb;exact⟨h1,cs,_,z,hc,.inl rfl⟩
theorem Qx {Ts:Nat->TypeId->Bool} {n0:Nat} (hT:vT Ts n0) {W W':World} {O:Nat->Prop} (hm:Mv O W W') (hO:∀ b,O b->n0<=b/\∃ cs t z,W.heap[b]? = some (.cells cs t z)/\(t=3\/t=51)):xV Ts n0 W W'/\kE (vD Ts) W W':=by
 refine⟨hm.mono λb hb => .inl ?_,hm.mono λb hb => .inl ?_⟩
 · obtain⟨h1,cs,t,z,hc,ht⟩:=hO b hb;rintro((h|⟨cs',t',z',hc',ht'⟩)|⟨o,ho,hn⟩)
   · omega
   · rw[hc]at hc';simp only[Option.some.injEq,Obj.cells.injEq]at hc';obtain⟨-,rfl,-⟩:=hc';rcases ht with rfl|rfl
     · rw[hT.int _ h1]at ht';cases ht'
     · rw[hT.ints]at ht';cases ht'
   · rw[hc]at ho;cases ho;cases hn
 · obtain⟨h1,cs,t,z,hc,ht⟩:=hO b hb;rintro⟨cs',t',z',hc',ht'⟩;rw[hc]at hc';simp only[Option.some.injEq,Obj.cells.injEq]at hc';obtain⟨-,rfl,-⟩:=hc';rcases ht with rfl|rfl <;> simp[vD]at ht'
theorem iZ.bd {Ts:Nat->TypeId->Bool} (hN:∀ b,Ts b 26=false) {P:Nat->Prop} {W W':World} {x:ae} (h:iZ P W x) (hm:kE Ts W W'):iZ P W' x:=h.stay hm (λb cs z _ hc e=>e ⟨cs,_,z,hc,hN _⟩)
def came (ys:List (Value × ae)):List Tree:=ys.map λz=>z.2.t
def ZH (Ts:Nat->TypeId->Bool) (J Jx:List (Value × ae)->World->Prop) (pre:List (Value × ae)) (n0 l Y P V:Nat) (ps:List Int) (x:ae) (W:World) (e:Ending) (W':World):Prop :=
 (e = .returned (.bool true)/\∃ path' ys,came ys=dD x.t/\J (pre ++ ys) W'/\qy n0 l Y P V W' path' ps/\kE (vD Ts) W W')\/(e = .returned (.bool false)/\∃ ys,came ys <+: dD x.t/\Jx (pre ++ ys) W')
def VI (J Jx:List (Value × ae)->World->Prop) (Ts:Nat->TypeId->Bool) (pre:List (Value × ae)) (l:Nat) (path xv:Value) (xt:Tree) (W:World) (L:Array Bool) (vs:Nat->Value) (y:World):Prop :=
 (L.getD 5 false=false->L.getD 6 false=false/\Grow W y/\(L.getD 0 false=true->vs 0 = .func (.yield l) #[] #[])/\(L.getD 1 false=true->vs 1=path)/\(L.getD 3 false=true->vs 3=xv)/\(L.getD 4 false=true->∃ y':ae,vs 4=y'.fix.val/\y'.t=xt)) /\
 (L.getD 5 false=true->∃ z:Value × ae,z.2.t=xt/\((vs 5 = .bool true/\J (pre ++ [z]) y/\kE Ts W y)\/(vs 5 = .bool false/\Jx (pre ++ [z]) y))) /\
 (L.getD 6 false=true->∃ b,vs 5 = .bool b/\vs 6 = .bool (!b))
section
variable {J Jx:List (Value × ae)->World->Prop} {Ts:Nat->TypeId->Bool} {pre:List (Value × ae)} {l:Nat} {path xv:Value} {xt:Tree} {W y y2:World} {L:Array Bool} {vs:Nat->Value}
theorem VI.put (h:VI J Jx Ts pre l path xv xt W L vs y) (hs:L.size=7) (i:Nat) (hi:i<5) (h5:L.getD 5 false=false) (v:Value) (hg:Grow y y2) (h0:i=0->v = .func (.yield l) #[] #[]) (h1:i=1->v=path) (h3:i=3->v=xv) (h4:i=4->∃ y':ae,v=y'.fix.val/\y'.t=xt) :
 VI J Jx Ts pre l path xv xt W (L.setIfInBounds i true) (upd vs i v) y2:=by
 obtain⟨ha,hb,hc⟩:=h;obtain⟨a6,ag,a0,a1,a3,a4⟩:=ha h5;have hset:∀ j,(L.setIfInBounds i true).getD j false=if i=j then true else L.getD j false:=λj=>KI (by omega) j;have key:∀ (j:Nat) (p:Value->Prop),(i=j->p v)->(L.getD j false=true->p (vs j))->(L.setIfInBounds i true).getD j false=true->p (upd vs i v j):=by
  intro j p hv hold e;rw[hset]at e;unfold upd;by_cases hij:j=i
  · rw[if_pos hij];exact hv hij.symm
  · rw[if_neg hij];rw[if_neg (λe=>hij e.symm)]at e;exact hold e
 refine⟨λ_=>⟨by rw[hset,if_neg (by omega)];exact a6,gtr ag hg,key 0 (λv=>v = .func (.yield l) #[] #[]) h0 a0,key 1 (λv=>v=path) h1 a1,key 3 (λv=>v=xv) h3 a3,key 4 (λv=>∃ y':ae,v=y'.fix.val/\y'.t=xt) h4 a4⟩,λe => ?_,λe => ?_⟩
 · rw[hset,if_neg (by omega),h5]at e;cases e
 · rw[hset,if_neg (by omega),a6]at e;cases e
theorem VI.R8 (h:VI J Jx Ts pre l path xv xt W L vs y) (hs:L.size=7) (h5:L.getD 5 false=false) (v:Value) (hz:∃ z:Value × ae,z.2.t=xt/\((v = .bool true/\J (pre ++ [z]) y2/\kE Ts W y2)\/(v = .bool false/\Jx (pre ++ [z]) y2))) :
 VI J Jx Ts pre l path xv xt W (L.setIfInBounds 5 true) (upd vs 5 v) y2:=by
 have hset:∀ j,(L.setIfInBounds 5 true).getD j false=if 5=j then true else L.getD j false:=λj=>KI (by omega) j;refine⟨λe => ?_,λ_ => ?_,λe => ?_⟩
 · rw[hset,if_pos rfl]at e;cases e
 · simpa[upd]using hz
 · rw[hset,if_neg (by decide),((h.1 h5).1)]at e;cases e
theorem VI.aan (h:VI J Jx Ts pre l path xv xt W L vs y) (hs:L.size=7) (h5:L.getD 5 false=true) (b:Bool) (hb:vs 5 = .bool b) :
 VI J Jx Ts pre l path xv xt W (L.setIfInBounds 6 true) (upd vs 6 (.bool (!b))) y:=by
 have hset:∀ j,(L.setIfInBounds 6 true).getD j false=if 6=j then true else L.getD j false:=λj=>KI (by omega) j;refine⟨λe => ?_,λ_ => ?_,λe=>⟨b,by simp[upd,hb],by simp[upd]⟩⟩
 · rw[hset,if_neg (by decide),h5]at e;cases e
 · simpa[upd]using h.2.1 h5
end
attribute [local go_sem ↓] lu
theorem BV {L:Array Bool} (h4:qh [[],[],[1],[],[3,2],[0,2,4,4],[5]] L) (i:Nat) (hi:i<5) (h2:L.getD i false=false):L.getD 5 false=false:=by
 rcases hb:L.getD 5 false with _|_
 · rfl
 · exfalso;have a0:=h4 5 hb 0 (by simp);have a2:=h4 5 hb 2 (by simp);have a4:=h4 5 hb 4 (by simp);have a3:=h4 4 a4 3 (by simp);have a1:=h4 2 a2 1 (by simp)
   match i,hi with
   |0,_=>rw[a0]at h2;cases h2
   |1,_=>rw[a1]at h2;cases h2
   |2,_=>rw[a2]at h2;cases h2
   |3,_=>rw[a3]at h2;cases h2
   |4,_=>rw[a4]at h2;cases h2
theorem Yi (Ts:Nat->TypeId->Bool) (Sp:List (Value × ae)->Prop) (J Jx:List (Value × ae)->World->Prop) (n0 l Y P V:Nat) (hT:vT Ts n0) (hJ:∀ s X Z,J s X->xV Ts n0 X Z->J s Z)
 (hY:∀ pre (x:Value × ae) W1,J pre W1->Sp (pre ++ [x])->YieldAt Fence.wide 10 Tryz.prog l #[x.1,x.2.fix.val] W1 λe W'=>(e = .returned (.bool true)/\J (pre ++ [x]) W'/\kE Ts W1 W')\/(e = .returned (.bool false)/\Jx (pre ++ [x]) W')) :
 ∀ (m:Nat) (x:ae),SizeOf.sizeOf x<=m->∀ (W:World) (pre:List (Value × ae)) (path:Value) (ps:List Int),ps.length+bA x.t<=900000->qy n0 l Y P V W path ps->iZ (λ_=>True) W x->J pre W->n0<=W.heap.size->(∀ zs,came zs <+: dD x.t->Sp (pre ++ zs)) ->
  Calls Tryz.prog 33 #[x.val,.pointer (some ⟨Y,0,none⟩),.pointer (some ⟨P,0,none⟩),.pointer (some ⟨V,0,none⟩)] W (ZH Ts J Jx pre n0 l Y P V ps x W):=by
 intro m
 induction m with
 |zero=>intro x hm;cases x;simp at hm
 |succ m ih =>
  intro x hm W pre path ps hsz hvs hno hj hn0 hsp;have pV:=ł hsp;clear hsp;obtain⟨k,n,s,kv,ls⟩:=x;obtain⟨ka,kc,rfl,hkc,hkl⟩:=hno.at.form;obtain⟨pa,pc,hpv⟩:=gy hvs.row;subst hpv;have fT:=ł (λ(i:Nat) (hi:i<ls.length)=>ih ls[i] (by
   have:=nA (k:=k) (n:=n) (s:=s) (kv := .slice ka ls.length kc) (List.getElem_mem hi)
   omega))
  have iE:=ł (λ(i:Nat) (hi:i<ls.length)=>show ps.length+1+bA ls[i].t<=900000/\ls.length<=900000 from by have:=E5 (k:=k) (n:=n) (s:=s) (kv := .slice ka ls.length kc) i hi;omega);have xe:=ł (show ps.length<=900000/\bA (ae.t (.mk k n s (.slice ka ls.length kc) ls))<=900000 from by omega);have aJ:=ł (heap_alloc_new W (.cells #[.int .u8 k,.int .i64 n,.string s,.slice ka ls.length kc] 26));have hg2:Grow W (W.alloc (.cells #[.int .u8 k,.int .i64 n,.string s,.slice ka ls.length kc] 26)):=(Mv.refl _ _).alloc _;have bE:=ł hg2;have vE:=ł (hvs.bd hT (qi hg2));have iD:=ł (hno.bd hT.node (qi (Ts:=Ts) hg2));have HJ2:=ł (hJ _ _ _ hj (E8 hg2));have HS2:=ł (show n0<=(W.alloc (.cells #[.int .u8 k,.int .i64 n,.string s,.slice ka ls.length kc] 26)).heap.size from by simp;omega);clear hvs hno hj hg2 ih hsz;simp only[ae.val]
  go_enter Tryz.func33,Tryz.ntmps33
  go_upto_region 1 with fail;generalize W.alloc (.cells #[.int .u8 k,.int .i64 n,.string s,.slice ka ls.length kc] 26)=w2 at *;refine VM (by kernel_rfl) 37 [some 8,some 9,some 10,some 11,some 12,some 13,some 14] [[],[],[1],[],[3,2],[0,2,4,4],[5]] [[],[],[1],[],[3],[0,2,4],[5]] rfl (by kernel_rfl)
   (VI J Jx Ts pre l (.slice pa ps.length pc) (.agg #[.int .u8 k,.int .i64 n,.string s,.slice ka ls.length kc]) (ae.t (.mk k n s (.slice ka ls.length kc) ls)) w2) ?i0 ?steps ?done
  case i0=>exact⟨λ_=>⟨by simp,(Mv.refl _ _).drew,by simp,by simp,by simp,by simp⟩,by simp,by simp⟩
  case steps =>
   refine⟨?s0,?s1,?s2,?s3,?s4,?s5,?s6,trivial⟩
   case s0 =>
    intro L vs x h1 h2 h3 h4 h5;have h50:=BV h4 0 (by decide) h2;have hG:=(h5.1 h50).2.1;have c0:=cell1 (vE.out.bd hT (qi hG)).y;have HH:=ł h5;clear h3 h4 h5;unfold lD;simp only[zR];go_simp;exact HH.out.put h1 0 (by decide) h50 _ (Mv.refl _ _) (λ_=>rfl) (by simp) (by simp) (by simp)
   case s1 =>
    intro L vs x h1 h2 h3 h4 h5;have h50:=BV h4 1 (by decide) h2;have hG:=(h5.1 h50).2.1;have c0:=cell1 (vE.out.bd hT (qi hG)).p;have HH:=ł h5;clear h3 h4 h5;unfold lD;simp only[zR];go_simp;exact HH.out.put h1 1 (by decide) h50 _ (Mv.refl _ _) (by simp) (λ_=>rfl) (by simp) (by simp)
   case s2 =>
    intro L vs x h1 h2 h3 h4 h5;have h50:=BV h4 2 (by decide) h2;have hv1:vs 1 = .slice pa ps.length pc:=(h5.1 h50).2.2.2.1 (h3 1 (by simp));have hG:=(h5.1 h50).2.1;have HC:=ł (Ot (.slice pa ps.length pc) ps x (iF (λ_=>rfl) (vE.out.bd hT (qi hG)).row) (by have:=xe.out.1;omega));have HH:=ł h5;clear h3 h4 h5;unfold lD;simp only[zR,hv1];go_simp;refine(HC.out).mono ?_;rintro e y ⟨v,rfl,-,-,hg⟩;exact⟨_,rfl,HH.out.put h1 2 (by decide) h50 _ hg (by simp) (by simp) (by simp) (by simp)⟩
   case s3 =>
    intro L vs x h1 h2 h3 h4 h5;have h50:=BV h4 3 (by decide) h2;have hG:=(h5.1 h50).2.1;obtain⟨⟨n0',n1⟩,n2,n3⟩:=aF (ai aJ.out hG);have HH:=ł h5;clear h3 h4 h5;unfold lD;simp only[zR];go_simp;exact HH.out.put h1 3 (by decide) h50 _ (Mv.refl _ _) (by simp) (by simp) (λ_=>rfl) (by simp)
   case s4 =>
    intro L vs x h1 h2 h3 h4 h5;have h50:=BV h4 4 (by decide) h2;have hv3:vs 3 = .agg #[.int .u8 k,.int .i64 n,.string s,.slice ka ls.length kc]:=(h5.1 h50).2.2.2.2.1 (h3 3 (by simp));have hG:=(h5.1 h50).2.1;have HC:=ł (Pb (.mk k n s (.slice ka ls.length kc) ls) x xe.out.2 (iD.out.at.later hG));simp only[ae.val]at HC;have HH:=ł h5;clear h3 h4 h5;unfold lD;simp only[zR,hv3];go_simp;refine(HC.out).mono ?_;rintro e y ⟨v,rfl,ht,aao,hg⟩;exact⟨_,rfl,HH.out.put h1 4 (by decide) h50 _ hg (by simp) (by simp) (by simp) (λ_=>⟨v,by rw[aao.fix],ht⟩)⟩
   case s5 =>
    intro L vs x h1 h2 h3 h4 h5;have hG:=(h5.1 h2).2.1;have hv0:=(h5.1 h2).2.2.1 (h3 0 (by simp));obtain⟨y',hv4,xy⟩:=(h5.1 h2).2.2.2.2.2 (h3 4 (by simp));obtain⟨fn,tmps,assign,body,hy,hR⟩:=hY pre (vs 2,y') x (hJ _ _ _ HJ2.out (E8 hG)) (pV.out [(vs 2,y')] (by simp[came,xy,dD,ae.t]));have HR:=ł (OH (m:=0) hR);have HH:=ł h5;clear h3 h4 h5 hR;unfold lD;simp only[zR,hv0,hv4];go_simp;refine(HR.out).mono ?_;rintro e y (⟨rfl,Hq,hb3⟩|⟨rfl,hx3⟩)
    · exact⟨_,rfl,HH.out.R8 h1 h2 _ ⟨_,xy,.inl ⟨rfl,Hq,uq (qi hG) hb3⟩⟩⟩
    · exact⟨_,rfl,HH.out.R8 h1 h2 _ ⟨_,xy,.inr ⟨rfl,hx3⟩⟩⟩
   case s6 =>
    intro L vs x h1 h2 h3 h4 h5;have jK:=h3 5 (by simp);obtain⟨b,hv5⟩:∃ b,vs 5 = .bool b:=by
     obtain⟨z,-,h|h⟩:=h5.2.1 jK
     · exact⟨_,h.1⟩
     · exact⟨_,h.1⟩
    have HH:=ł h5;clear h3 h4 h5;unfold lD;simp only[zR,hv5];go_simp;exact HH.out.aan h1 jK b hv5
  case done =>
  intro L vs w3 hall hI;obtain⟨b,hv5,hv6⟩:=hI.2.2 (hall 6 (by simp));obtain⟨z,vF,hz⟩:=hI.2.1 (hall 5 (by simp));simp only[List.length_cons,List.length_nil,Nat.zero_add,Nat.reduceAdd];rw[show List.range 7=[0,1,2,3,4,5,6]from rfl];simp only[zR,hv5,hv6];rcases hz with⟨e5,Hq,hb3⟩|⟨e5,hx3⟩
  · rw[hv5]at e5;simp only[Value.bool.injEq]at e5;subst e5;have HJ3:=ł Hq;have HB3:=ł hb3;have R9:=ł (hb3.cells aJ.out (hT.node _));have HV3:=ł (vE.out.bd hT hb3);clear hI hall Hq hb3;generalize vs 0=v0 at *;generalize vs 1=v1 at *;generalize vs 2=v2 at *;generalize vs 3=v3 at *;generalize vs 4=v4 at *;clear hv5 hv6 vs;obtain⟨⟨d0,d1⟩,d2,d3⟩:=aF R9.out;have hlb:=lt_of_block R9.out;simp only[Bool.not_true];go_wp2_with fail;clear d0 d1 d2 d3 hlb
    go_loopw [18] (λt wr=>∃ (j:Nat) (ys:List (Value × ae)) (path':Value),t = .int .i64 j/\j<=ls.length/\came ys=ae.t (.mk k n s (.slice ka ls.length kc) ls) :: gF ((ae.ts ls).take j)/\J (pre ++ ys) wr/\qy n0 l Y P V wr path' ps/\kE (vD Ts) w2 wr) (λt _=>ls.length - (intOf t).toNat)
    case atStart=>exact⟨0,[z],_,rfl,Nat.zero_le _,by simp[came,vF,gF],HJ3.out,HV3.out,HB3.out.ts2⟩
    obtain⟨j,ys,path',rfl,hj,Rh,yz,hv4,hb4⟩:=hrel;have UM:=ł yz;have MQ:=ł hv4;have pR:=ł hb4;have HCM:=ł Rh;clear Rh yz hb4;by_cases hlt:j<ls.length
    · obtain⟨kb,ko,qE,bF,-,-⟩:=iD.out.at.row.2.2.2.1.at (show 0<ls.length by omega);simp only[Value.slice.injEq,true_and]at bF;obtain⟨rfl,rfl⟩:=bF;obtain⟨pb,qc,vz⟩:=gy hv4.row;subst vz;have MR:iZ (λ_=>True) wr (.mk k n s (.slice (some ⟨kb,ko,none⟩) ls.length kc) ls):=iD.out.bd (Ts:=vD Ts) (by simp[vD,hT.node]) pR.out;have dH:=dO MR.at j hlt;have HKN:=ł (show iZ (λ_=>True) wr ls[j]from by cases MR with|mk _ _ _ _ _ each=>exact each _ (List.getElem_mem hlt));have HC:=ł (fT.out j hlt);have hsz2:=iE.out j hlt;have rZ:=ł (show came ys ++ dD ls[j].t=ae.t (.mk k n s (.slice (some ⟨kb,ko,none⟩) ls.length kc) ls) :: gF ((ae.ts ls).take (j+1))from by
       rw[HCM.out,Ou _ j (by rw[ae.bT];exact hlt),ae.gm ls j hlt];rfl)
      have bC:=ł (show came ys ++ dD ls[j].t <+: dD (ae.t (.mk k n s (.slice (some ⟨kb,ko,none⟩) ls.length kc) ls))from by
       have:=V7 (ae.ts ls) j (by rw[ae.bT];exact hlt);rw[ae.gm ls j hlt]at this;rw[HCM.out]
       simpa[ae.t,dD]using this)
      have vG:=ł (λ(zs:List (Value × ae)) (hz:came zs <+: dD ls[j].t)=>show Sp (pre ++ ys ++ zs)from by
       rw[List.append_assoc];refine pV.out (ys ++ zs) ?_;have e:came (ys ++ zs)=came ys ++ came zs:=by simp[came]
       rw[e];exact((List.prefix_append_right_inj _).2 hz).trans bC.out)
      have HSK:=ł (show(ps ++ [(j:Int)]).length+bA ls[j].t<=900000 from by simp;omega);clear hv4 MR;generalize ls[j]=y at *;obtain⟨yk,yn,ys',yv,yl⟩:=y;obtain⟨ya,yc,rfl,-,-⟩:=dH.at_.form;obtain⟨⟨d0,d1⟩,d2,d3⟩:=dH.four;simp only[ae.val]at HC;have hbl:kb<wr.heap.size:=World.block_lt_of_cell? wr _ d0;have oP:=ł (heap_alloc_new wr (.cells #[.int .u8 yk,.int .i64 yn,.string ys',.slice ya yl.length yc] 26));have hga:Grow wr (wr.alloc (.cells #[.int .u8 yk,.int .i64 yn,.string ys',.slice ya yl.length yc] 26)):=(Mv.refl _ _).alloc _;have hgb:Grow wr ((wr.alloc (.cells #[.int .u8 yk,.int .i64 yn,.string ys',.slice ya yl.length yc] 26)).alloc (.cells #[.int .i64 j] 3)):=hga.alloc _;have hva:=MQ.out.bd hT (qi hga);have hvb:=MQ.out.bd hT (qi hgb);have hib:=heap_alloc_new (wr.alloc (.cells #[.int .u8 yk,.int .i64 yn,.string ys',.slice ya yl.length yc] 26)) (.cells #[.int .i64 j] 3);rw[World.size_alloc]at hib;have hn0:n0<=wr.heap.size:=by have:=HS2.out;have:=pR.out.size;omega
      obtain⟨a',c',wc,⟨hok,hv,hw⟩,hrow2,bK,-⟩:=ZG _ j ps n0 _ _ hvb.row (by have:=hgb.size;omega) xe.out.1 hib;have c0:=cell1 hva.p;have hlp:=lt_of_block hva.p;have hpc:wc.heap[P]? = some (.cells #[.slice pb ps.length qc] 51 (0,0)):=by
       rw[bK.block P (lt_of_block hvb.p) (λe=>eO hvb.row hvb.p (by decide) e)];exact hvb.p
      obtain⟨hs1,hs2⟩:=set1 hpc (.slice a' (ps.length+1) c');have zc:=aD hpc;have cpc:=cell1 hpc;have hlc:=lt_of_block hpc;have hmd:Mv (λb=>b=P\/(Value.slice pb ps.length qc).ownBlock=some b) _ (wc.setCell ⟨P,0,none⟩ (.slice a' (ps.length+1) c')):=(bK.mono (λb e => .inl (.inr e))).trans hs2 (λb e => .inl (.inl e));have hrd:=bM hrow2 hs2 (λg hg e=>by subst e;exact eO hrow2 hpc (by decide) hg);have MS:=ł (show qy n0 l Y P V (wc.setCell ⟨P,0,none⟩ (.slice a' (ps.length+1) c')) (.slice a' (ps.length+1) c') (ps ++ [(j:Int)])from hvb.step hmd hs1 hrd);obtain⟨hi1,hi2⟩:=Qx hT hmd (λb hb=>hvb.own hb);have HJD:=ł (hJ _ _ _ (hJ _ _ _ UM.out (E8 hgb)) hi1);have jP:=ł (uq pR.out (uq (qi hgb) hi2));have oO:=ł (HKN.out.bd (Ts:=vD Ts) (by simp[vD,hT.node]) (uq (qi hgb) hi2));have HSD:=ł (show n0<=(wc.setCell ⟨P,0,none⟩ (.slice a' (ps.length+1) c')).heap.size from by have:=hmd.size;have:=hgb.size;omega);have MU:(wc.setCell ⟨P,0,none⟩ (.slice a' (ps.length+1) c')).heap[wr.heap.size]? = some (.cells #[.int .u8 yk,.int .i64 yn,.string ys',.slice ya yl.length yc] 26 (0,0)):=by
       have h1:=aO oP.out (.cells #[.int .i64 (j:Int)] 3);have h2:(wc.setCell ⟨P,0,none⟩ (.slice a' (ps.length+1) c')).heap[wr.heap.size]? = _:=hmd.block wr.heap.size (lt_of_block h1) (λe=>by
        obtain⟨-,cs,t,zz,hc,ht⟩:=hvb.own e;rw[h1]at hc;simp only[Option.some.injEq,Obj.cells.injEq]at hc;obtain⟨-,rfl,-⟩:=hc;rcases ht with ht|ht <;> exact absurd ht (by decide))
       rw[h2];exact h1
      obtain⟨⟨y0,y1⟩,y2,y3⟩:=aF MU;have uj:=lt_of_block MU;have v0':=cell1 MS.out.v;have hlv:=lt_of_block MS.out.v;clear hva hvb hib hmd hrd hi1 hi2 hga hgb MU bK hrow2 hs1 hs2 dH hpc;generalize hwd:wc.setCell ⟨P,0,none⟩ (.slice a' (ps.length+1) c')=wd at *;go_wp2_with fail;refine(HC.out wd (pre ++ ys) _ (ps ++ [(j:Int)]) HSK.out MS.out oO.out HJD.out HSD.out vG.out).mono ?_;clear hok hv hw c0 hlp zc cpc hlc hwd y0 y1 y2 y3 uj v0' hlv d0 d1 d2 d3 hbl HC oP;rintro e w5 (⟨rfl,acS,Bz,UN,UO,hv5,hb5⟩|⟨rfl,Bz,Eg,hx5⟩)
      · obtain⟨p5,q5,Eg⟩:=gy hv5.row;have hl5:(ps ++ [(j:Int)]).length=ps.length+1:=by simp
        rw[hl5]at Eg;subst Eg;have c5:=cell1 hv5.p;have hl:=lt_of_block hv5.p;have z5:=aD hv5.p;have hlen:=xe.out.1;have hcap:ps.length+1<=q5:=by
         rcases hv5.row.2 with⟨e,-⟩|⟨g,cap,cur,e,-,-,h,-⟩
         · simp at e
         · simp only[Value.slice.injEq]at e;rw[hl5]at h;omega
        have i1:IntKind.i64.wrap (((ps.length+1:Nat):Int) - 1)=(ps.length:Int):=by rw[IntWalk.i64_in _ (by omega)];omega
        obtain⟨hs1,hs2⟩:=set1 hv5.p (.slice p5 ps.length q5);have hmd:Mv (λb=>b=P\/(Value.slice p5 (ps.length+1) q5).ownBlock=some b) w5 (w5.setCell ⟨P,0,none⟩ (.slice p5 ps.length q5)):=hs2.mono (λb e => .inl (.inl e));have BA:=ZF (n:=1) (f:=kW) (l:=ps) (x:=(j:Int)) (λ_=>rfl) hv5.row;have hrd:=bM BA hs2 (λg hg e=>by subst e;exact eO BA hv5.p (by decide) hg);have HV6:=ł (hv5.step hmd hs1 hrd);obtain⟨hi1,hi2⟩:=Qx hT hmd (λb hb=>hv5.own hb);have HJ6:=ł (hJ _ _ _ UO hi1);have gJ:=ł (uq jP.out (uq hb5 hi2));have Ah:=ł ((show came (ys ++ Bz)=came ys ++ came Bz from by simp[came]).trans (by rw[UN,rZ.out]));clear hmd BA hrd hi1 hi2 hs1 hs2 hv5 UO hb5 UN rZ;go_wp2_with fail;refine⟨⟨j+1,ys ++ Bz,_,by simp,by omega,Ah.out,by have:=HJ6.out;rwa[List.append_assoc]at this,HV6.out,gJ.out⟩,by simp[intOf] <;> omega⟩
      · have Hr:=ł hx5;have Ah:=ł (show came (ys ++ Bz) <+: _ from by
         obtain⟨r,hr⟩:=Eg;refine List.IsPrefix.trans ?_ bC.out;exact⟨r,by rw[← hr];simp[came]⟩)
        clear hx5 Eg;go_wp2_with fail;go_ret;exact .inr ⟨rfl,ys ++ Bz,Ah.out,by have:=Hr.out;rwa[List.append_assoc]at this⟩
    · obtain rfl:j=ls.length:=by omega
      have Ah:=ł (show came ys=dD (ae.t (.mk k n s (.slice ka ls.length kc) ls))from by
       rw[HCM.out,List.take_of_length_le (by rw[ae.bT];exact Nat.le_refl _)];simp[ae.t,dD])
      go_wp2_with fail;go_ret;exact .inl ⟨rfl,_,ys,Ah.out,UM.out,MQ.out,uq (qi bE.out) pR.out⟩
  · rw[hv5]at e5;simp only[Value.bool.injEq]at e5;subst e5;have lS:=ł hx3;clear hI hall hx3;simp only[Bool.not_false];go_wp2_with fail;go_ret;exact .inr ⟨rfl,[z],by simp[came,vF,dD,ae.t],lS.out⟩
theorem JU (Ts:Nat->TypeId->Bool) (R:Nat) (x:ae) (w:World) (hT:vT Ts w.heap.size) (hb:w.heap[R]? = some (.cells x.cells.toArray 26 (0,0))) (hno:iZ (λ_=>True) w x) (hs:bA x.t<=900000) :
 PS Tryz.prog Ts 32 #[.pointer (some ⟨R,0,none⟩)] (λz:Value × ae=>#[z.1,z.2.fix.val]) (λxs=>came xs=dD x.t) (λpre=>came pre <+: dD x.t) w:=by
 intro l J Jx W hW hJ hJx hY h0;obtain⟨k,n,s,kv,ls⟩:=x;obtain⟨ka,kc,rfl,-,-⟩:=hno.at.form;have hga:Grow W (W.alloc (.cells #[.func (.yield l) #[] #[]] 91)):=(Mv.refl _ _).alloc _;have hgb:=hga.alloc (.cells #[.slice none 0 0] 51);have hgc:=hgb.alloc (.cells #[.func (.func 33) #[] #[.pointer (some ⟨W.heap.size,0,none⟩),.pointer (some ⟨W.heap.size+1,0,none⟩),.pointer (some ⟨W.heap.size+1+1,0,none⟩)]] 64);have HV:=ł (show qy W.heap.size l W.heap.size (W.heap.size+1) (W.heap.size+1+1) _ (.slice none 0 0) []from
  ⟨aO (aO (heap_alloc_new W _) _) (.cells #[.func (.func 33) #[] #[.pointer (some ⟨W.heap.size,0,none⟩),.pointer (some ⟨W.heap.size+1,0,none⟩),.pointer (some ⟨W.heap.size+1+1,0,none⟩)]] 64),
   aO (by have:=heap_alloc_new (W.alloc (.cells #[.func (.yield l) #[] #[]] 91)) (.cells #[.slice none 0 0] 51);rwa[World.size_alloc]at this) _,
   by have:=heap_alloc_new ((W.alloc (.cells #[.func (.yield l) #[] #[]] 91)).alloc (.cells #[.slice none 0 0] 51)) (.cells #[.func (.func 33) #[] #[.pointer (some ⟨W.heap.size,0,none⟩),.pointer (some ⟨W.heap.size+1,0,none⟩),.pointer (some ⟨W.heap.size+1+1,0,none⟩)]] 64);rwa[World.size_alloc,World.size_alloc]at this,
   by omega,World.ownsRow_nil _ _ _ _⟩)
 have HN:=ł ((hno.bd hT.node (qi (Ts:=Ts) hW)).bd hT.node (qi (Ts:=Ts) hgc));have HJ:=ł (hJ _ _ _ h0 (E8 hgc));have HG:=ł hgc;have hrb:=ai (ai hb hW) hgc;have HC:=ł (Yi Ts (λpre=>came pre <+: dD (ae.t (.mk k n s (.slice ka ls.length kc) ls))) J Jx W.heap.size l W.heap.size (W.heap.size+1) (W.heap.size+1+1) (hT.up hW.size) hJ hY _ _ (Nat.le_refl _) _ [] _ [] (by simpa using hs) HV.out HN.out HJ.out hgc.size (λzs hz=>hz));obtain⟨⟨d0,d1⟩,d2,d3⟩:=aF hrb;have hlr:=lt_of_block (ai hb hW);have zb:=lt_of_block hrb;simp only[ae.val]at HC;clear hno hga hgb hgc hb h0 hrb hs HV HN HJ
 show Calls Tryz.prog 32 #[.func (.yield l) #[] #[],.pointer (some ⟨R,0,none⟩)] W _
 go_enter Tryz.func32,Tryz.ntmps32
 go_wp2_with fail;refine HC.out.mono ?_;clear d0 d1 d2 d3 hlr zb HC;rintro e w5 (⟨rfl,path',ys,hc,hj,-,-⟩|⟨rfl,ys,hp,hx⟩)
 · have HH:=ł hj;clear hj;go_wp2_with fail
   go_end0
   exact⟨⟨_,rfl⟩,.inl ⟨ys,hc,HH.out⟩⟩
 · have HH:=ł hx;clear hx;go_wp2_with fail
   go_end0
   exact⟨⟨_,rfl⟩,.inr ⟨ys,hp,HH.out⟩⟩
theorem PT (x:ae) (w:World) (hx:aS w x) (hs:bA x.t<=900000) :
 Calls Tryz.prog 10 #[x.val] w λe w'=>∃ (R:Nat) (y:ae),e = .returned (.func (.func 32) #[] #[.pointer (some ⟨R,0,none⟩)])/\w'.heap[R]? = some (.cells y.cells.toArray 26 (0,0))/\iZ (λ_=>True) w' y/\y.t=x.t/\Grow w w':=by
 obtain⟨k,n,s,kv,l⟩:=x;obtain⟨ka,kc,rfl,-,-⟩:=hx.form;have hga:Grow w (w.alloc (.cells #[.int .u8 k,.int .i64 n,.string s,.slice ka l.length kc] 26)):=(Mv.refl _ _).alloc _;have HC:=ł (Pb _ _ hs (hx.later hga));have HG:=ł hga;obtain⟨⟨d0,d1⟩,d2,d3⟩:=aF (heap_alloc_new w (.cells #[.int .u8 k,.int .i64 n,.string s,.slice ka l.length kc] 26));simp only[ae.val]at HC;clear hx hga hs;simp only[ae.val]
 go_enter Tryz.func10,Tryz.ntmps10
 go_wp2_with fail;refine HC.out.mono ?_;clear d0 d1 d2 d3;rintro e w5 ⟨y,rfl,xy,hno,hg⟩;obtain⟨yk,yn,ys,yv,yl⟩:=y;obtain⟨ya,yc,rfl,-,-⟩:=hno.at.form;have hgb:Grow w5 (w5.alloc (.cells #[.int .u8 yk,.int .i64 yn,.string ys,.slice ya yl.length yc] 26)):=(Mv.refl _ _).alloc _;have HN:=ł ((hno.weak (λ_ _ _=>trivial)).stay hgb (λ_ _ _ _ _ e=>e));have HB:=ł (heap_alloc_new w5 (.cells #[.int .u8 yk,.int .i64 yn,.string ys,.slice ya yl.length yc] 26));have dh:=ł (gtr (gtr HG.out hg) hgb);have HT:=ł xy;clear hno hg hgb HC xy;simp only[ae.val];go_wp2_with fail;go_ret;exact⟨_,.mk yk yn ys (.slice ya yl.length yc) yl,rfl,HB.out,HN.out,HT.out,dh.out⟩
end Go.Proofs.YtnobahchcongnaaGreat
