import Derived.Test.YtbpodipdfohikaaGreatK45
import Derived.Test.YtbpodipdfohikaaGreatK46
set_option linter.unusedSimpArgs false
set_option linter.unusedVariables false
set_option maxRecDepth 100000
set_option maxHeartbeats 25600000
namespace Go.Proofs.YtbpodipdfohikaaGreat
open Go.RowKit Go.Instr
attribute [local go_sem ↓] gD
def EJ (x:Int):List Value:=[.int .u8 x]
theorem xA._k {w:World} {a:Option Addr} {len cap:Nat} {zs:List Int} (h:xA .u8 w a len cap zs):∃ A:List Int,len=A.length/\ay 1 EJ w (.slice a A.length cap) A/\∀ x∈A,0<=x/\x<=255:=by
 rcases h with⟨rfl,rfl,rfl,rfl⟩|⟨x,rfl,h1,h2,h3,h4,h5⟩
 · exact⟨[],rfl,ay.nil _ _ _,by simp⟩
 · have hl:len=(zs.take len).length:=by simp;omega
   refine⟨zs.take len,hl,⟨_,_,rfl,by omega,by unfold maxLen at h2;omega,λi y hy => ?_⟩,λy hy => ?_⟩
   · have hi:=(List.getElem?_eq_some_iff.1 hy).1
     have hiz:i<zs.length:=by omega
     obtain⟨b,o,rfl,hc⟩:=ints_at h4 (by omega)
     refine⟨b,o,rfl,λj u hu => ?_⟩
     have hj:j=0:=by
      have:=(List.getElem?_eq_some_iff.1 hu).1
      simp[EJ]at this;exact this
     subst hj
     have hu':u = .int .u8 y:=by simpa[EJ]using hu.symm
     have hy':zs.getD i 0=y:=by
      rw[List.getElem?_take_of_lt (by omega)]at hy
      simp[List.getD,hy]
     rw[hu',← hy',← hc i hiz]
     simp
   · have:=h5 y (List.mem_of_mem_take hy)
     simp only[Lit.wf,Bool.and_eq_true,decide_eq_true_eq]at this
     exact this
theorem YP (z:Int) (h:0<=z/\z<=255):∃ (e j q:Nat),e<2/\j<2/\q<2/\z % 2=e/\z / 2 % 2=j/\z / 4 % 2=q :=
 ⟨(z % 2).toNat,(z / 2 % 2).toNat,(z / 4 % 2).toNat,by omega,by omega,by omega,by omega,by omega,by omega⟩
def ou (j:Nat):ByteArray:=if j=0 then jy else jU
theorem U9 (w:World) (j:Nat) (hj:j<2):(w.alloc (.cells #[.string ⟨#[108,99,111,112,121]⟩,.string ⟨#[108,115,112,105,108,108]⟩] 9)).cell? ⟨w.heap.size,j,none⟩=some (.string (ou j)):=by
 have h:=heap_alloc_new w (.cells #[.string ⟨#[108,99,111,112,121]⟩,.string ⟨#[108,115,112,105,108,108]⟩] 9)
 obtain rfl|rfl:j=0\/j=1:=by omega
 · unfold World.cell?;rw[h];rfl
 · unfold World.cell?;rw[h];rfl
theorem Va (a b d:Option Addr) (n m e c1 c2 c3:Nat) (k u:Int) (s:ByteArray) (w:World):(Instr.field 42 (.agg #[.slice a n c1,.slice b m c2,.int .u8 k,.int .i64 u,.string s,.slice d e c3]) 2).run Tryz.prog w = .ok (.agg #[.int .u8 k,.int .i64 u,.string s,.slice d e c3]) w:=by kernel_rfl
theorem Vb (d:Option Addr) (e c3:Nat) (k u:Int) (s:ByteArray) (w:World):(Instr.field 40 (.agg #[.int .u8 k,.int .i64 u,.string s,.slice d e c3]) 3).run Tryz.prog w = .ok (.slice d e c3) w:=by kernel_rfl
theorem YQ {y:World} {g j:Nat} (h:y.heap[g]? = some (.cells #[.string ⟨#[108,99,111,112,121]⟩,.string ⟨#[108,115,112,105,108,108]⟩] 9 (0,0))) (hj:j<2):y.cell? ⟨g,j,none⟩=some (.string (ou j)):=by
 obtain rfl|rfl:j=0\/j=1:=by omega
 · unfold World.cell?;rw[h];rfl
 · unfold World.cell?;rw[h];rfl
def vM (i:Nat):ByteArray:=if i=0 then sB else sG
structure Zc (z:World) (g i gp mF:Nat) (k m:Int) (s:ByteArray) (gk c:Nat):Prop where
 cells:(z.cell? ⟨g,i * 6+0,none⟩=some (.string (ou i))/\z.cell? ⟨g,i * 6+1,none⟩=some (.slice (some ⟨gp,0,none⟩) 2 mF)/\z.cell? ⟨g,i * 6+2,none⟩=some (.int .u8 k))/\z.cell? ⟨g,i * 6+3,none⟩=some (.int .i64 m)/\z.cell? ⟨g,i * 6+4,none⟩=some (.string s)/\z.cell? ⟨g,i * 6+5,none⟩=some (.slice (some ⟨gk,0,none⟩) c c)
 Km:(z.cell? ⟨gp,0,none⟩=some (.string sA)/\z.cell? ⟨gp,1,none⟩=some (.int .u8 3)/\z.cell? ⟨gp,2,none⟩=some (.int .i64 0))/\z.cell? ⟨gp,3,none⟩=some (.string (vM i))/\z.cell? ⟨gp,4,none⟩=some (.int .u8 3)/\z.cell? ⟨gp,5,none⟩=some (.int .i64 0)
 kid:(∃ u,z.cell? ⟨gk,0,none⟩=some u)/\(∃ u,z.cell? ⟨gk,1,none⟩=some u)/\(∃ u,z.cell? ⟨gk,2,none⟩=some u)/\∃ u,z.cell? ⟨gk,3,none⟩=some u
 thaw:(∀ j,z.frozen? ⟨gp,j,none⟩=false)/\∀ j,z.frozen? ⟨gk,j,none⟩=false
 lt:g<z.heap.size/\gp<z.heap.size/\gk<z.heap.size
theorem Xv {B:Nat} {y:World} {pv:Value} {procs:List aN} (h:gF B y pv procs) (i:Nat) (hi:i<2):∃ g,pv = .slice (some ⟨g,0,none⟩) 2 2/\∃ gp mF k m s gk c,((0<c/\B<=gp/\B<=gk/\2<=mF)/\g≠gk/\gp≠gk/\c=1)/\∀ z,Grow y z->Zc z g i gp mF k m s gk c:=by
 have hl:=h.len
 have hil:i<procs.length:=by omega
 obtain⟨g,rfl,-,hgb⟩:=h.blk
 refine⟨g,rfl,?_⟩
 have hq:procs[i]∈procs:=List.getElem_mem _
 have hd:procs[i].d=if i=0 then Cf else BM:=by
  have h1:(procs.map aN.d)[i]'(by simpa using hil)=procs[i].d:=by simp
  rw[← h1]
  have h2:∀ (L:List bC) (hL:L=eG) (hx:i<L.length),L[i]=if i=0 then Cf else BM:=λL hL hx=>by
   subst hL
   obtain rfl|rfl:i=0\/i=1:=by omega
   · rfl
   · rfl
  exact h2 _ h.d _
 have hname:procs[i].name=ou i:=by
  have:procs[i].d.name=procs[i].name:=rfl
  rw[← this,hd];unfold ou;split <;> rfl
 have Pn:procs[i].params=[⟨sA,3,0⟩,⟨vM i,3,0⟩]:=by
  have:procs[i].d.params=procs[i].params:=rfl
  rw[← this,hd];unfold vM;split <;> rfl
 have fB:(procs[i].body.t).kids.length=1:=by
  have:procs[i].d.body=procs[i].body.t:=rfl
  rw[← this,hd];split <;> rfl
 have hP:=h.procs
 have hrow:=h.par _ hq
 have htop:=h.top _ hq
 have hbody:=h.body _ hq
 have acC:=hP.row
 have hcs:∀ z,Grow y z->∀ (j:Nat) (u:Value),procs[i].cells[j]? = some u->z.cell? ⟨g,i * 6+j,none⟩=some u:=λz hz j u hu=>by
  obtain⟨b,o,cap,e,-,hc⟩:=(hP.later hz).row.at hil
  simp only[Value.slice.injEq,Option.some.injEq,Addr.mk.injEq,and_true]at e
  obtain⟨⟨rfl,rfl⟩,-⟩:=e
  have:=hc j u hu
  simpa using this
 have hgl:g<y.heap.size:=World.block_lt_of_cell? y _ (hcs y (Mv.refl _ _) 0 _ rfl)
 generalize procs[i]=q at *
 obtain⟨nm,ps,pv,body⟩:=q
 simp only at hname Pn fB hrow htop hbody hcs
 subst hname Pn
 obtain⟨k,m,s,gk,c,l,cs,rfl,hbk⟩:=htop
 have hcl:c=l.length:=by
  obtain⟨a,c',e,-,-⟩:=hbody.at.form
  simp only[Value.slice.injEq]at e
  exact e.2.1
 subst hcl
 have hl1:l.length=1:=by simpa[ae.t,Tree.kids,ae.bX]using fB
 have Kl:B<=gk:=by
  cases hbody with
  |mk _ _ _ _ blk _=>exact(blk gk rfl).1
 rcases hrow.2 with⟨-,e⟩|⟨gp,mF,cur,e,h1,h2,h3,h4,h5,h6⟩
 · simp at e
 subst e
 refine⟨gp,mF,k,m,s,gk,l.length,⟨⟨by omega,h1,Kl,by simpa using h3⟩,λe => ?_,λe => ?_,hl1⟩,λz hz => ?_⟩
 · subst e;rw[hbk]at hgb;simp only[Option.some.injEq,Obj.cells.injEq]at hgb;exact absurd hgb.2.1 (by decide)
 · subst e;rw[hbk]at h2;simp only[Option.some.injEq,Obj.cells.injEq]at h2;exact absurd h2.2.1 (by decide)
 have hzc:=hcs z hz
 have SL:=ah h2 hz
 have Ga:=ah hbk hz
 have hnk:=(hbody.later hz).at.row.2.2.2.1
 refine⟨⟨⟨hzc 0 _ rfl,hzc 1 _ rfl,hzc 2 _ rfl⟩,hzc 3 _ rfl,hzc 4 _ rfl,hzc 5 _ rfl⟩,?_,?_,⟨λj=>bB SL j,λj=>bB Ga j⟩,Nat.lt_of_lt_of_le hgl hz.size,lt_of_block SL,lt_of_block Ga⟩
 · have hr:=dW sO (bu hrow hz (λ_ _ e=>e))
   have hc:∀ (t j:Nat) (ht:t<2) (u:Value),([(⟨sA,3,0⟩:au),⟨vM i,3,0⟩][t]'ht).cells[j]? = some u->z.cell? ⟨gp,t * 3+j,none⟩=some u:=λt j ht u hu=>by
    obtain⟨b,o,cap,e,-,hc⟩:=hr.at ht
    simp only[List.length_cons,List.length_nil,Value.slice.injEq,Option.some.injEq,Addr.mk.injEq,and_true]at e
    obtain⟨⟨rfl,rfl⟩,-⟩:=e
    have:=hc j u hu
    simpa using this
   exact⟨⟨hc 0 0 (by omega) _ rfl,hc 0 1 (by omega) _ rfl,hc 0 2 (by omega) _ rfl⟩,hc 1 0 (by omega) _ rfl,hc 1 1 (by omega) _ rfl,hc 1 2 (by omega) _ rfl⟩
 · have hc:∀ (j:Nat),j<4->∃ u,z.cell? ⟨gk,j,none⟩=some u:=λj hj=>by
    obtain⟨b,o,cap,e,-,hc⟩:=hnk.at (show 0<l.length by omega)
    simp only[Value.slice.injEq,Option.some.injEq,Addr.mk.injEq,and_true]at e
    obtain⟨⟨rfl,rfl⟩,-⟩:=e
    have h9:j<l[0].cells.length:=by rw[zL];exact hj
    exact⟨_,by have:=hc j _ (List.getElem?_eq_getElem h9);simpa using this⟩
   exact⟨hc 0 (by omega),hc 1 (by omega),hc 2 (by omega),hc 3 (by omega)⟩
theorem YR {y:World} {g j:Nat} (h:y.heap[g]? = some (.cells #[.string ⟨#[98]⟩,.string ⟨#[103]⟩] 9 (0,0))) (hj:j<2):y.cell? ⟨g,j,none⟩=some (.string (vM j)):=by
 obtain rfl|rfl:j=0\/j=1:=by omega
 · unfold World.cell?;rw[h];rfl
 · unfold World.cell?;rw[h];rfl
def qp (s:Nat):Array Value:=if s=0 then #[.int .u8 2,.int .i64 0,.string sA,.slice none 0 0,.int .u8 2,.int .i64 0,.string sB,.slice none 0 0]else if s=1 then #[.int .u8 2,.int .i64 0,.string sB,.slice none 0 0,.int .u8 2,.int .i64 0,.string sB,.slice none 0 0]else #[.int .u8 2,.int .i64 0,.string sB,.slice none 0 0,.int .u8 2,.int .i64 0,.string sA,.slice none 0 0]
theorem MP {x:World} {g:Nat} {t:TypeId} (h:x.heap[g]? = some (.cells (qp 0) t (0,0))):(x.cell? ⟨g,0,none⟩=some (.int .u8 2)/\x.cell? ⟨g,1,none⟩=some (.int .i64 0)/\x.cell? ⟨g,2,none⟩=some (.string sA)/\x.cell? ⟨g,3,none⟩=some (.slice none 0 0))/\x.cell? ⟨g,4,none⟩=some (.int .u8 2)/\x.cell? ⟨g,5,none⟩=some (.int .i64 0)/\x.cell? ⟨g,6,none⟩=some (.string sB)/\x.cell? ⟨g,7,none⟩=some (.slice none 0 0):=by
 simp[World.cell?,h,qp]
theorem Yc (s:Nat):(qp s).size=8:=by unfold qp;split;rfl;split <;> rfl
theorem Nt {x:World} {g:Nat} {t:TypeId} {s:Nat} (h:x.heap[g]? = some (.cells (qp s) t (0,0))):(∃ c,x.cell? ⟨g,0,none⟩=some c)/\(∃ c,x.cell? ⟨g,1,none⟩=some c)/\(∃ c,x.cell? ⟨g,2,none⟩=some c)/\(∃ c,x.cell? ⟨g,3,none⟩=some c)/\(∃ c,x.cell? ⟨g,4,none⟩=some c)/\(∃ c,x.cell? ⟨g,5,none⟩=some c)/\(∃ c,x.cell? ⟨g,6,none⟩=some c)/\(∃ c,x.cell? ⟨g,7,none⟩=some c):=by
 have hs:=Yc s
 have:∀ j,j<8->∃ c,x.cell? ⟨g,j,none⟩=some c:=λj hj=>⟨(qp s)[j],by simp[World.cell?,h,hs,hj]⟩
 exact⟨this 0 (by omega),this 1 (by omega),this 2 (by omega),this 3 (by omega),this 4 (by omega),this 5 (by omega),this 6 (by omega),this 7 (by omega)⟩
theorem Cg (x:World) (g j:Nat) (a b c d:Value):Mv (λb=>b=g) x ((((x.setCell ⟨g,j,none⟩ a).setCell ⟨g,j+1,none⟩ b).setCell ⟨g,j+2,none⟩ c).setCell ⟨g,j+3,none⟩ d) :=
 ((((Mv.refl (λb=>b=g) x).setCell (p:=⟨g,j,none⟩) (.inl rfl) a).setCell (p:=⟨g,j+1,none⟩) (.inl rfl) b).setCell (p:=⟨g,j+2,none⟩) (.inl rfl) c).setCell (p:=⟨g,j+3,none⟩) (.inl rfl) d
theorem Zd (x:World) (g j:Nat) (a b c d:Value):Mv (λb=>b=g) x ((((x.setCell ⟨g,j,none⟩ a).setCell ⟨g,j+1,none⟩ b).setCell ⟨g,j+2,none⟩ c).setCell ⟨g,j+3,none⟩ d):=Cg x g j a b c d
theorem Lh {O:Nat->Prop} {x y:World} (hm:Mv O x y) {b:Nat} (hb:b<x.heap.size) (ho:¬ O b) (o:Nat):y.cell? ⟨b,o,none⟩=x.cell? ⟨b,o,none⟩:=by
 simp only[World.cell?];rw[hm.block b hb ho]
theorem NL {x:World} {g j:Nat} {t:TypeId} {cs:Array Value} (h:x.heap[g]? = some (.cells cs t (0,0))) (a b c d:Value):((((x.setCell ⟨g,j,none⟩ a).setCell ⟨g,j+1,none⟩ b).setCell ⟨g,j+2,none⟩ c).setCell ⟨g,j+3,none⟩ d).heap[g]? = some (.cells ((((cs.setIfInBounds j a).setIfInBounds (j+1) b).setIfInBounds (j+2) c).setIfInBounds (j+3) d) t (0,0)):=by
 have h1:=block_setCell (p:=⟨g,j,none⟩) h rfl a
 have h2:=block_setCell (p:=⟨g,j+1,none⟩) h1 rfl b
 have h3:=block_setCell (p:=⟨g,j+2,none⟩) h2 rfl c
 exact block_setCell (p:=⟨g,j+3,none⟩) h3 rfl d
theorem Yd {x:World} {g:Nat} {t:TypeId} (h:x.heap[g]? = some (.cells (qp 0) t (0,0))):((((x.setCell ⟨g,0,none⟩ (.int .u8 2)).setCell ⟨g,1,none⟩ (.int .i64 0)).setCell ⟨g,2,none⟩ (.string sB)).setCell ⟨g,3,none⟩ (.slice none 0 0)).heap[g]? = some (.cells (qp 1) t (0,0)):=NL (j:=0) h _ _ _ _
theorem Ye {x:World} {g:Nat} {t:TypeId} (h:x.heap[g]? = some (.cells (qp 1) t (0,0))):((((x.setCell ⟨g,4,none⟩ (.int .u8 2)).setCell ⟨g,5,none⟩ (.int .i64 0)).setCell ⟨g,6,none⟩ (.string sA)).setCell ⟨g,7,none⟩ (.slice none 0 0)).heap[g]? = some (.cells (qp 2) t (0,0)):=NL (j:=4) h _ _ _ _
structure nO (D:Nat) (ma:Option Addr) (mc:Nat) (xs:List ae) (y:World):Prop where
 row:Ev y D (.slice ma xs.length mc) xs
 each:∀ x∈xs,aL (λb=>D<=b/\(Value.slice ma xs.length mc).ownBlock≠some b) y x
 acc:∀ x∈xs,kG x.t
theorem nO.later {D:Nat} {ma:Option Addr} {mc:Nat} {xs:List ae} {x y:World} (h:nO D ma mc xs x) (hg:Grow x y):nO D ma mc xs y :=
 ⟨bu h.row hg (λ_ _ e=>e),λu hu=>(h.each u hu).later hg,h.acc⟩
theorem nO.fill {D C:Nat} {ma:Option Addr} {mc:Nat} {xs:List ae} {x y:World} (h:nO D ma mc xs x) (hm:Mv (λb=>b=C) x y) (hC:C<D):nO D ma mc xs y :=
 ⟨bu h.row hm (λg e e2=>by have:=(bP h.row g e).1;omega),λu hu=>(h.each u hu).stay hm (λb _ _ hb _ e=>by have:=hb.1;omega),h.acc⟩
theorem Nu {D:Nat} {ma:Option Addr} {mc:Nat} {xs:List ae} {y:World} {x:ae} (h:nO D ma mc xs y) (hD:D<=y.heap.size) (hn:xs.length<=900000) (hx:aL (λb=>D<=b/\(Value.slice ma xs.length mc).ownBlock≠some b) y x) (ha:kG x.t) :
 ∃ a' c' w2,(nJ Tryz.prog 38 38 (.slice ma xs.length mc) (.slice (some ⟨y.heap.size,0,none⟩) 1 1) (y.alloc (.cells x.cells.toArray 40)) /\
  lW Tryz.prog 38 38 (.slice ma xs.length mc) (.slice (some ⟨y.heap.size,0,none⟩) 1 1) (y.alloc (.cells x.cells.toArray 40)) = .slice a' (xs.length+1) c'/\appW Tryz.prog 38 38 (.slice ma xs.length mc) (.slice (some ⟨y.heap.size,0,none⟩) 1 1) (y.alloc (.cells x.cells.toArray 40))=w2) /\
  nO D a' c' (xs ++ [x]) w2/\Mv (λb=>D<=b) y w2:=by
 have hg:Grow y (y.alloc (.cells x.cells.toArray 40)):=(Mv.refl _ _).alloc _
 obtain⟨a',c',w2,hA,hr,hm,hf⟩:=Mq (.slice ma xs.length mc) x xs D y.heap.size (y.alloc (.cells x.cells.toArray 40)) (bu h.row hg (λ_ _ e=>e)) (by simp;omega) hn hx.one (heap_alloc_new y _)
 have hlow:∀ b,(Value.slice ma xs.length mc).ownBlock=some b->D<=b:=λb e=>(bP h.row b e).1
 have key:∀ u:ae,aL (λb=>D<=b/\(Value.slice ma xs.length mc).ownBlock≠some b) y u->aL (λb=>D<=b/\(Value.slice a' (xs.length+1) c').ownBlock≠some b) w2 u:=λu hu=>by
  have h1:aL (λb=>(D<=b/\(Value.slice ma xs.length mc).ownBlock≠some b)/\b<y.heap.size) y u:=hu.weak (λb hb hp=>⟨hp,hb⟩)
  refine(h1.stay (O:=λb=>(Value.slice ma xs.length mc).ownBlock=some b\/y.heap.size<=b) ((hg.mono λb e => .inl e.elim).trans (hm.mono λb e => .inl (.inl e)) (λb e => .inl e)) (λb _ _ hp _ e => ?_)).weak (λb _ hp=>⟨hp.1.1,λe => ?_⟩)
  · rcases e with e|e
    · exact hp.1.2 e
    · have:=hp.2;omega
  · rcases hf b e with e|e
    · exact hp.1.2 e
    · have:=hp.2;simp at e;omega
 refine⟨a',c',w2,hA,⟨by simpa using hr,λu hu => ?_,λu hu => ?_⟩,(hg.mono λb e => .inl e.elim).trans (hm.mono λb e => .inl (hlow b e)) (λb e => .inl e)⟩
 · rcases List.mem_append.1 hu with hu|hu
   · simpa using key u (h.each u hu)
   · rw[List.mem_singleton.1 hu];simpa using key x hx
 · rcases List.mem_append.1 hu with hu|hu
   · exact h.acc u hu
   · rw[List.mem_singleton.1 hu];exact ha
theorem Yf {B D gv:Nat} {y:World} {pa:Option Addr} {pc:Nat} {procs:List aN} {ma:Option Addr} {mc:Nat} {xs:List ae} (hv:y.heap[gv]? = some (.cells #[.string sA,.int .u8 3,.int .i64 0,.string sB,.int .u8 3,.int .i64 0] 50 (0,0))) (hl:gF B y (.slice pa procs.length pc) procs) (hr:nO D ma mc xs y) :
 jm y ⟨[bF sA,bF sB],.slice (some ⟨gv,0,none⟩) 2 2,procs,.slice pa procs.length pc,.mk 57 0 ⟨#[]⟩ (.slice ma xs.length mc) xs⟩:=by
 refine⟨ay.dF (f:=au.cells) (l:=[bF sA,bF sB]) sO hv (by simp[flat,au.cells,bF]) (Nat.le_of_ble_eq_true rfl),λx hx => ?_,hl.procs,λq hq=>(hl.params q hq).2,.mk ⟨by decide,by decide⟩ ⟨by decide,by decide⟩ (by decide) (dW zL hr.row) (λx hx=>(hr.each x hx).at)⟩
 have:∀ x∈[bF sA,bF sB],x.name.size<=9223372036854775807:=by decide
 exact this x hx
theorem _l {gv:Nat} {B:Nat} {y:World} {pa:Option Addr} {pc:Nat} {procs:List aN} {ma:Option Addr} {mc:Nat} {xs:List ae} (hl:gF B y (.slice pa procs.length pc) procs):aB.d ⟨[bF sA,bF sB],.slice (some ⟨gv,0,none⟩) 2 2,procs,.slice pa procs.length pc,.mk 57 0 ⟨#[]⟩ (.slice ma xs.length mc) xs⟩=mW (xs.map ae.t):=by
 unfold aB.d mW
 rw[hl.d]
 simp[ae.t,ae.jv,gz]
set_option maxRecDepth 100000 in
set_option maxHeartbeats 12800000 in
theorem TI (va:Option Addr) (ca:Nat) (U:List Int) (w:World) (h:ay 1 EJ w (.slice va U.length ca) U) (hU:∀ x∈U,0<=x/\x<=255):Calls Tryz.prog 7 #[.slice va U.length ca] w (eP w true):=by
 have HU:=Lib.hid h
 have SN:=Lib.hid hU
 obtain⟨_,_,_,_,hUL⟩:=h.form
 clear h hU
 by_cases hgt:20<U.length
 · go_enter Tryz.func7,Tryz.ntmps7
   go_wp2_with fail
   refine(Bu w).mono ?_
   rintro e w1 ⟨rfl,hg⟩
   have HG:=Lib.hid hg
   clear hg
   go_wp2_with fail
   go_ret
   exact⟨rfl,HG.out⟩
 have hle:U.length<=20:=by omega
 go_enter Tryz.func7,Tryz.ntmps7
 go_wp2_with fail
 refine(Bu w).mono ?_
 rintro e w1 ⟨rfl,hg⟩
 have aj:=Lib.hid hg
 clear hg
 go_wp2_with fail
 refine(Eg 50 jy w1 ⟨by decide,by decide⟩ (by decide)).mono ?_
 rintro e w2 ⟨p,rfl,⟨B,fU,hB⟩,hg⟩
 have HG2:=Lib.hid (gtr aj.out hg)
 have HB0:=Lib.hid (show w.heap.size<=B from Nat.le_trans aj.out.size hB)
 have I4:=Lib.hid fU.lib
 have C8:=Lib.hid fU.blk
 obtain⟨⟨gv,hvv,-⟩,pa,pc,hpv⟩:=And.intro fU.blk fU.lib.form
 have hnm:=fU.names
 obtain⟨vars,vv,procs,pv,⟨mk,mn,ms,mv,ml⟩⟩:=p
 obtain⟨gm,gm1,-,-,hmb,-⟩:=fU.mb
 simp only[ae.mk.injEq]at hvv hpv hnm hmb I4 C8
 obtain⟨rfl,rfl,rfl,rfl,rfl⟩:=hmb
 subst hvv hpv hnm
 clear fU hg hB
 simp only[aB.val,ae.val,List.length_cons,List.length_nil]
 obtain⟨C,hC⟩:∃ C,C=w2.heap.size:=⟨_,rfl⟩
 have HB3:=Lib.hid (heap_alloc_new w2 (.cells #[.slice (some ⟨gv,0,none⟩) 2 2,.slice pa procs.length pc,.int .u8 57,.int .i64 0,.string ⟨#[]⟩,.slice none 0 0] 42))
 have aA:=Lib.hid (show Grow w2 (w2.alloc (.cells #[.slice (some ⟨gv,0,none⟩) 2 2,.slice pa procs.length pc,.int .u8 57,.int .i64 0,.string ⟨#[]⟩,.slice none 0 0] 42))from(Mv.refl _ _).alloc _)
 go_wp2_with fail
 generalize (w2.alloc (.cells #[.slice (some ⟨gv,0,none⟩) 2 2,.slice pa procs.length pc,.int .u8 57,.int .i64 0,.string ⟨#[]⟩,.slice none 0 0] 42))=w3 at *
 rw[← hC]at HB3
 have hD:C+1<=w3.heap.size:=by have:=lt_of_block HB3.out;omega
 obtain⟨D,AP⟩:∃ D,D=C+1:=⟨_,rfl⟩
 rw[← AP]at hD
 have Be:=Lib.hid (show C<D from by omega)
 have HWD:=Lib.hid (show w2.heap.size<=C from by omega)
 have zq:=Lib.hid (λ(y z:World) (h1:Grow w2 y) (h2:Mv (λb=>C<=b) y z)=>bM h1 h2 (λb e=>by omega))
 clear AP HWD
 subst hC
 generalize w2.heap.size=C at *
 go_loopw [20] (λt wr=>∃ (xs:List ae) (ma:Option Addr) (mc:Nat),t = .int .i64 xs.length/\xs.length<=U.length/\Grow w2 wr/\D<=wr.heap.size/\nO D ma mc xs wr/\wr.heap[C]? = some (.cells #[.slice (some ⟨gv,0,none⟩) 2 2,.slice pa procs.length pc,.int .u8 57,.int .i64 0,.string ⟨#[]⟩,.slice ma xs.length mc] 42 (0,0))) (λt _=>U.length - (intOf t).toNat)
 case atStart=>exact⟨[],none,0,rfl,Nat.zero_le _,aA.out,hD,⟨World.ownsRow_nil _ _ _ _,by simp,by simp⟩,HB3.out⟩
 obtain⟨xs,ma,mc,rfl,hk,hg,hd,hrow,hb⟩:=hrel
 have bQ:=Lib.hid hg
 have HDR:=Lib.hid hd
 have iy:=Lib.hid hrow
 have ni:=Lib.hid hb
 clear hg hrow hb hd
 by_cases hlt:xs.length<U.length
 · have hkk:(xs.length:Int)<(U.length:Nat):=by omega
   obtain⟨b,off,cap',e,_,hcc⟩:=(HU.out.later (gtr HG2.out bQ.out)).at hlt
   simp only[Value.slice.injEq,true_and]at e
   obtain⟨rfl,rfl⟩:=e
   have c0:=hcc 0 _ rfl
   simp only[Nat.add_zero,Nat.mul_one]at c0
   have hbx:=World.block_lt_of_cell? wr _ c0
   have hz:=SN.out U[xs.length] (List.getElem_mem _)
   clear hcc
   generalize U[xs.length]=z at *
   obtain⟨e,j,q,he,hj,hq,e1,e2,e3⟩:=YP z hz
   have n1:=U9 wr j hj
   generalize hnm:ou j=nm at n1
   have pY:=Lib.hid (show nm=jy\/nm=jU from by rw[← hnm];unfold ou;split <;> simp)
   have iC:=Lib.hid (show(50:Int)+e=50\/(50:Int)+e=51 from by omega)
   have sW:=Lib.hid (Eg (50+e) nm (wr.alloc (.cells #[.string ⟨#[108,99,111,112,121]⟩,.string ⟨#[108,115,112,105,108,108]⟩] 9)) ⟨by omega,by omega⟩ (by rcases pY.out with rfl|rfl <;> decide))
   have bE:=Lib.hid (show Grow wr (wr.alloc (.cells #[.string ⟨#[108,99,111,112,121]⟩,.string ⟨#[108,115,112,105,108,108]⟩] 9))from(Mv.refl _ _).alloc _)
   have hjj:(j:Int)<2:=by omega
   clear hnm
   go_upto_region 10 with fail
   go_wp2_with fail
   refine sW.out.mono ?_
   clear sW c0 n1
   generalize (50:Int)+e=kd at *
   rintro e' w4 ⟨p2,rfl,⟨B2,fU,hB2⟩,hg⟩
   obtain⟨abJ,vv2,abC,pv2,⟨mk2,mn2,ms2,mv2,ml2⟩⟩:=p2
   obtain⟨g2,g1,hg2,hg1,hmb,hb2,hb1⟩:=fU.mb
   simp only[ae.mk.injEq]at hmb
   obtain⟨rfl,rfl,rfl,rfl,rfl⟩:=hmb
   obtain⟨⟨gv2,Po,-⟩,pa2,pc2,hpv2⟩:=And.intro fU.blk fU.lib.form
   simp only at Po hpv2
   subst Po hpv2
   clear fU
   have hw4:=hg.size
   have bA:=Lib.hid (gtr bE.out hg)
   simp only[World.size_alloc]at hB2 hw4
   have HB1:=Lib.hid hb1
   simp only[aB.val,ae.val,List.length_cons,List.length_nil]
   obtain⟨⟨n0,n1⟩,n2,n3⟩:=az hb2
   have hl2:=lt_of_block hb2
   have CE:=Lib.hid (show wr.heap.size<=g1 from by omega)
   have jG:=Lib.hid (heap_alloc_new w4 (.cells #[.int .u8 kd,.int .i64 0,.string nm,.slice (some ⟨g1,0,none⟩) 2 2] 40))
   have uf:=Lib.hid (show Grow w4 (w4.alloc (.cells #[.int .u8 kd,.int .i64 0,.string nm,.slice (some ⟨g1,0,none⟩) 2 2] 40))from(Mv.refl _ _).alloc _)
   have Pp:=Lib.hid (ah hb1 uf.out)
   clear hg hb1 hB2 hg1 hg2 hw4
   have hf1:=Va
   have hf2:=Vb
   have Pq:=Lib.hid (show g1<w4.heap.size from lt_of_block HB1.out)
   go_upto_region 11 with fail
   generalize J3:(w4.alloc (.cells #[.int .u8 kd,.int .i64 0,.string nm,.slice (some ⟨g1,0,none⟩) 2 2] 40))=w5 at *
   clear J3 n0 n1 n2 n3 hl2 hb2 hbx
   obtain rfl|rfl:q=0\/q=1:=by omega
   case inr =>
    go_upto_region 12 with fail
    refine wq _ [some 42,some 43,some 44,some 45,some 46,some 47,some 48,some 49,some 50,some 51,some 52,some 53,some 54,none,some 55,none] [[],[0],[],[2],[],[4],[5],[6],[],[8],[9],[10],[1],[12,7],[3],[14,11]] [some (.pointer (some ⟨w4.heap.size,3,none⟩)),some (.slice (some ⟨g1,0,none⟩) 2 2),some (.pointer (some ⟨w4.heap.size,3,none⟩)),some (.slice (some ⟨g1,0,none⟩) 2 2),some (.pointer (some ⟨w4.heap.size,3,none⟩)),some (.slice (some ⟨g1,0,none⟩) 2 2),some (.pointer (some ⟨g1,4,none⟩)),some (.agg #[.int .u8 2,.int .i64 0,.string sB,.slice none 0 0]),some (.pointer (some ⟨w4.heap.size,3,none⟩)),some (.slice (some ⟨g1,0,none⟩) 2 2),some (.pointer (some ⟨g1,0,none⟩)),some (.agg #[.int .u8 2,.int .i64 0,.string sA,.slice none 0 0]),some (.pointer (some ⟨g1,0,none⟩)),none,some (.pointer (some ⟨g1,4,none⟩)),none] [13,15] (λs x=>Mv (λb=>b=g1) w5 x/\x.heap[w4.heap.size]? = some (.cells #[.int .u8 kd,.int .i64 0,.string nm,.slice (some ⟨g1,0,none⟩) 2 2] 40 (0,0))/\x.heap[g1]? = some (.cells (qp s) 40 (0,0))) ?m0 ?steps ?done
    case m0=>exact⟨Mv.drew (Mv.refl _ _),jG.out,Pp.out⟩
    case steps =>
     refine⟨?s0,?s1,?s2,?s3,?s4,?s5,?s6,?s7,?s8,?s9,?s10,?s11,?s12,?s13,?s14,?s15,trivial⟩
     case s0 =>
      refine qc (λx => ?_)
      simp only[zS,zC]
      go_simp
      exact⟨rfl,rfl⟩
     case s1 =>
      refine qm (λs x hM => ?_)
      obtain⟨⟨n0,n1⟩,n2,n3⟩:=az hM.2.1
      clear hM
      simp only[zS,zC]
      go_simp
      exact⟨rfl,rfl⟩
     case s2 =>
      refine qc (λx => ?_)
      simp only[zS,zC]
      go_simp
      exact⟨rfl,rfl⟩
     case s3 =>
      refine qm (λs x hM => ?_)
      obtain⟨⟨n0,n1⟩,n2,n3⟩:=az hM.2.1
      clear hM
      simp only[zS,zC]
      go_simp
      exact⟨rfl,rfl⟩
     case s4 =>
      refine qc (λx => ?_)
      simp only[zS,zC]
      go_simp
      exact⟨rfl,rfl⟩
     case s5 =>
      refine qm (λs x hM => ?_)
      obtain⟨⟨n0,n1⟩,n2,n3⟩:=az hM.2.1
      clear hM
      simp only[zS,zC]
      go_simp
      exact⟨rfl,rfl⟩
     case s6 =>
      refine qc (λx => ?_)
      simp only[zS,zC]
      go_simp
      exact⟨rfl,rfl⟩
     case s7 =>
      refine qr 0 (λx hM => ?_)
      obtain⟨y0,y1⟩:=MP hM.2.2
      clear hM
      simp only[zS,zC]
      go_simp
      exact⟨rfl,rfl⟩
     case s8 =>
      refine qc (λx => ?_)
      simp only[zS,zC]
      go_simp
      exact⟨rfl,rfl⟩
     case s9 =>
      refine qm (λs x hM => ?_)
      obtain⟨⟨n0,n1⟩,n2,n3⟩:=az hM.2.1
      clear hM
      simp only[zS,zC]
      go_simp
      exact⟨rfl,rfl⟩
     case s10 =>
      refine qc (λx => ?_)
      simp only[zS,zC]
      go_simp
      exact⟨rfl,rfl⟩
     case s11 =>
      refine qr 0 (λx hM => ?_)
      obtain⟨y0,y1⟩:=MP hM.2.2
      clear hM
      simp only[zS,zC]
      go_simp
      exact⟨rfl,rfl⟩
     case s12 =>
      refine qc (λx => ?_)
      simp only[zS,zC]
      go_simp
      exact⟨rfl,rfl⟩
     case s13 =>
      refine qw 0 (λx hM => ?_)
      have HM:=Lib.hid hM
      obtain⟨⟨v0,c0⟩,⟨v1,c1⟩,⟨v2,c2⟩,⟨v3,c3⟩,⟨v4,c4⟩,⟨v5,c5⟩,⟨v6,c6⟩,⟨v7,c7⟩⟩:=Nt hM.2.2
      have zt:=bB hM.2.2
      have hxl:=lt_of_block hM.2.2
      clear hM
      simp only[zS,zC]
      go_simp
      exact⟨HM.out.1.trans (Cg x g1 0 _ _ _ _) (λb e => .inl e),by rw[(Cg x g1 0 _ _ _ _).block _ (lt_of_block HM.out.2.1) (λe=>by have:=Pq.out;omega)];exact HM.out.2.1,Yd HM.out.2.2⟩
     case s14 =>
      refine qc (λx => ?_)
      simp only[zS,zC]
      go_simp
      exact⟨rfl,rfl⟩
     case s15 =>
      refine qw 1 (λx hM => ?_)
      have HM:=Lib.hid hM
      obtain⟨⟨v0,c0⟩,⟨v1,c1⟩,⟨v2,c2⟩,⟨v3,c3⟩,⟨v4,c4⟩,⟨v5,c5⟩,⟨v6,c6⟩,⟨v7,c7⟩⟩:=Nt hM.2.2
      have zt:=bB hM.2.2
      have hxl:=lt_of_block hM.2.2
      clear hM
      simp only[zS,zC]
      go_simp
      exact⟨HM.out.1.trans (Cg x g1 4 _ _ _ _) (λb e => .inl e),by rw[(Cg x g1 4 _ _ _ _).block _ (lt_of_block HM.out.2.1) (λe=>by have:=Pq.out;omega)];exact HM.out.2.1,Ye HM.out.2.2⟩
    case done =>
    intro y hM
    have DT:=Lib.hid hM.2.1
    have Kn:=Lib.hid (show y.heap[g1]? = some (.cells #[.int .u8 2,.int .i64 0,.string sB,.slice none 0 0,.int .u8 2,.int .i64 0,.string sA,.slice none 0 0] 40 (0,0))from hM.2.2)
    have ku:=Lib.hid (show Grow wr y from bM (gtr bA.out uf.out) hM.1 (λb e=>by have:=CE.out;omega))
    clear hM
    simp only[zS,zC,Nat.zero_add,Nat.reduceAdd]
    have Io:=Lib.hid (iy.out.later ku.out)
    have tQ:=Lib.hid (ah ni.out ku.out)
    have HX:=Lib.hid (show aL (λb=>D<=b/\(Value.slice ma xs.length mc).ownBlock≠some b) y (.mk kd 0 nm (.slice (some ⟨g1,0,none⟩) 2 2) [.mk 2 0 sB (.slice none 0 0) [],.mk 2 0 sA (.slice none 0 0) []])from
     iZ (m:=2) (by have:=iC.out;omega) ⟨by decide,by decide⟩ (by rcases pY.out with rfl|rfl <;> decide) Kn.out ⟨Nat.le_trans HDR.out CE.out,λe=>by
      obtain⟨-,cs,z,h2⟩:=bP iy.out.row _ e
      have h3:=lt_of_block h2
      have h4:=CE.out
      omega⟩ rfl (by decide) (λu hu=>by
       simp only[List.mem_cons,List.mem_nil_iff,or_false]at hu
       rcases hu with rfl|rfl
       · exact qL ⟨by decide,by decide⟩ ⟨by decide,by decide⟩ (by decide)
       · exact qL ⟨by decide,by decide⟩ ⟨by decide,by decide⟩ (by decide)))
    have Ko:=Lib.hid (show kG (ae.t (.mk kd 0 nm (.slice (some ⟨g1,0,none⟩) 2 2) [.mk 2 0 sB (.slice none 0 0) [],.mk 2 0 sA (.slice none 0 0) []]))from⟨kd,nm,true,iC.out,pY.out,by simp[ae.t,ae.ts,oq,bR]⟩)
    obtain⟨a',c',w9,⟨hok,jh,haw⟩,aZ,uM⟩:=Nu Io.out (Nat.le_trans HDR.out ku.out.size) (by omega) HX.out Ko.out
    simp only[ae.cells]at hok jh haw
    have iT:=Lib.hid ((uM.block C (lt_of_block tQ.out) (λe=>by have:=Be.out;omega)).trans tQ.out)
    have tT:=Lib.hid (show nO D a' c' (xs ++ [.mk kd 0 nm (.slice (some ⟨g1,0,none⟩) 2 2) [.mk 2 0 sB (.slice none 0 0) [],.mk 2 0 sA (.slice none 0 0) []]]) (w9.setCell ⟨C,5,none⟩ (.slice a' (xs.length+1) c'))/\(w9.setCell ⟨C,5,none⟩ (.slice a' (xs.length+1) c')).heap[C]? = some (.cells #[.slice (some ⟨gv,0,none⟩) 2 2,.slice pa procs.length pc,.int .u8 57,.int .i64 0,.string ⟨#[]⟩,.slice a' (xs ++ [ae.mk kd 0 nm (.slice (some ⟨g1,0,none⟩) 2 2) [.mk 2 0 sB (.slice none 0 0) [],.mk 2 0 sA (.slice none 0 0) []]]).length c'] 42 (0,0))/\Grow w2 (w9.setCell ⟨C,5,none⟩ (.slice a' (xs.length+1) c'))/\D<=(w9.setCell ⟨C,5,none⟩ (.slice a' (xs.length+1) c')).heap.size from by
     have hst:Mv (λb=>b=C) w9 (w9.setCell ⟨C,5,none⟩ (.slice a' (xs.length+1) c')):=(Mv.refl (λb=>b=C) w9).setCell (p:=⟨C,5,none⟩) (.inl rfl) _
     refine⟨aZ.fill hst Be.out,?_,zq.out _ _ (zq.out _ _ (gtr bQ.out ku.out) (uM.mono λb e => .inl (by have:=Be.out;omega))) (hst.mono λb e => .inl (by omega)),Nat.le_trans HDR.out (Nat.le_trans ku.out.size (Nat.le_trans uM.size hst.size))⟩
     rw[List.length_append]
     exact block_setCell (p:=⟨C,5,none⟩) iT.out rfl _)
    obtain⟨⟨p0,p1,p2⟩,p3,p4,p5⟩:=bI tQ.out
    obtain⟨⟨n0,n1⟩,n2,n3⟩:=az DT.out
    have DL:=lt_of_block DT.out
    have hlC:=lt_of_block tQ.out
    obtain⟨⟨r0,r1,r2⟩,r3,r4,r5⟩:=bI iT.out
    have hz9:=bB iT.out
    have _o:=lt_of_block iT.out
    clear aZ uM
    go_wp2_with fail
    go_roundw
    case rel=>exact⟨_,a',c',by simp,by simp;omega,tT.out.2.2.1,tT.out.2.2.2,tT.out.1,tT.out.2.1⟩
    case measure=>(simp[intOf] <;> omega)
   case inl =>
    have DT:=Lib.hid jG.out
    have Kn:=Lib.hid Pp.out
    have ku:=Lib.hid (show Grow wr w5 from gtr bA.out uf.out)
    generalize w5=y at *
    have Io:=Lib.hid (iy.out.later ku.out)
    have tQ:=Lib.hid (ah ni.out ku.out)
    have HX:=Lib.hid (show aL (λb=>D<=b/\(Value.slice ma xs.length mc).ownBlock≠some b) y (.mk kd 0 nm (.slice (some ⟨g1,0,none⟩) 2 2) [.mk 2 0 sA (.slice none 0 0) [],.mk 2 0 sB (.slice none 0 0) []])from
     iZ (m:=2) (by have:=iC.out;omega) ⟨by decide,by decide⟩ (by rcases pY.out with rfl|rfl <;> decide) Kn.out ⟨Nat.le_trans HDR.out CE.out,λe=>by
      obtain⟨-,cs,z,h2⟩:=bP iy.out.row _ e
      have h3:=lt_of_block h2
      have h4:=CE.out
      omega⟩ rfl (by decide) (λu hu=>by
       simp only[List.mem_cons,List.mem_nil_iff,or_false]at hu
       rcases hu with rfl|rfl
       · exact qL ⟨by decide,by decide⟩ ⟨by decide,by decide⟩ (by decide)
       · exact qL ⟨by decide,by decide⟩ ⟨by decide,by decide⟩ (by decide)))
    have Ko:=Lib.hid (show kG (ae.t (.mk kd 0 nm (.slice (some ⟨g1,0,none⟩) 2 2) [.mk 2 0 sA (.slice none 0 0) [],.mk 2 0 sB (.slice none 0 0) []]))from⟨kd,nm,false,iC.out,pY.out,by simp[ae.t,ae.ts,oq,bR]⟩)
    obtain⟨a',c',w9,⟨hok,jh,haw⟩,aZ,uM⟩:=Nu Io.out (Nat.le_trans HDR.out ku.out.size) (by omega) HX.out Ko.out
    simp only[ae.cells]at hok jh haw
    have iT:=Lib.hid ((uM.block C (lt_of_block tQ.out) (λe=>by have:=Be.out;omega)).trans tQ.out)
    have tT:=Lib.hid (show nO D a' c' (xs ++ [.mk kd 0 nm (.slice (some ⟨g1,0,none⟩) 2 2) [.mk 2 0 sA (.slice none 0 0) [],.mk 2 0 sB (.slice none 0 0) []]]) (w9.setCell ⟨C,5,none⟩ (.slice a' (xs.length+1) c'))/\(w9.setCell ⟨C,5,none⟩ (.slice a' (xs.length+1) c')).heap[C]? = some (.cells #[.slice (some ⟨gv,0,none⟩) 2 2,.slice pa procs.length pc,.int .u8 57,.int .i64 0,.string ⟨#[]⟩,.slice a' (xs ++ [ae.mk kd 0 nm (.slice (some ⟨g1,0,none⟩) 2 2) [.mk 2 0 sA (.slice none 0 0) [],.mk 2 0 sB (.slice none 0 0) []]]).length c'] 42 (0,0))/\Grow w2 (w9.setCell ⟨C,5,none⟩ (.slice a' (xs.length+1) c'))/\D<=(w9.setCell ⟨C,5,none⟩ (.slice a' (xs.length+1) c')).heap.size from by
     have hst:Mv (λb=>b=C) w9 (w9.setCell ⟨C,5,none⟩ (.slice a' (xs.length+1) c')):=(Mv.refl (λb=>b=C) w9).setCell (p:=⟨C,5,none⟩) (.inl rfl) _
     refine⟨aZ.fill hst Be.out,?_,zq.out _ _ (zq.out _ _ (gtr bQ.out ku.out) (uM.mono λb e => .inl (by have:=Be.out;omega))) (hst.mono λb e => .inl (by omega)),Nat.le_trans HDR.out (Nat.le_trans ku.out.size (Nat.le_trans uM.size hst.size))⟩
     rw[List.length_append]
     exact block_setCell (p:=⟨C,5,none⟩) iT.out rfl _)
    obtain⟨⟨p0,p1,p2⟩,p3,p4,p5⟩:=bI tQ.out
    obtain⟨⟨n0,n1⟩,n2,n3⟩:=az DT.out
    have DL:=lt_of_block DT.out
    have hlC:=lt_of_block tQ.out
    obtain⟨⟨r0,r1,r2⟩,r3,r4,r5⟩:=bI iT.out
    have hz9:=bB iT.out
    have _o:=lt_of_block iT.out
    clear aZ uM
    go_wp2_with fail
    go_roundw
    case rel=>exact⟨_,a',c',by simp,by simp;omega,tT.out.2.2.1,tT.out.2.2.2,tT.out.1,tT.out.2.1⟩
    case measure=>(simp[intOf] <;> omega)
 have hxl:xs.length=U.length:=by omega
 have hlt':decide ((xs.length:Int)<U.length)=false:=by simp;omega
 have rU:=Lib.hid (I4.out.later bQ.out)
 have SQ:=Lib.hid (show wr.heap[gv]? = some (.cells #[.string sA,.int .u8 3,.int .i64 0,.string sB,.int .u8 3,.int .i64 0] 50 (0,0))from by
  obtain⟨g,e,-,hv⟩:=C8.out
  cases e
  exact ah hv bQ.out)
 have Kq:=Lib.hid (Yf SQ.out rU.out iy.out)
 have SS:=Lib.hid (_l (gv:=gv) (ma:=ma) (mc:=mc) (xs:=xs) rU.out)
 have I5:=Lib.hid (show ∀ t∈xs.map ae.t,kG t from λt ht=>by
  obtain⟨x,hx,rfl⟩:=List.mem_map.1 ht
  exact iy.out.acc x hx)
 have il:=Lib.hid (λz (hz:Grow wr z)=>Bj _ z (Kq.out.later hz))
 have yT:=Lib.hid (λz (hz:Grow wr z)=>NH _ z (Kq.out.later hz))
 have I6:=Lib.hid (Ns _ I5.out (by simp;omega))
 have I7:=Lib.hid (NK _ I5.out (by simp;omega))
 rw[← SS.out]at I6 I7
 rw[I6.out]at il
 rw[I7.out]at yT
 have gu:=Lib.hid (gtr HG2.out bQ.out)
 simp only[aB.val,ae.val]at il yT
 clear I6 I7 I5 SS Kq SQ rU iy SN HU hk hxl I4 C8 zq HDR
 go_wp2_with fail
 refine(Me wr).mono ?_
 rintro e w5 ⟨pv5,ps5,rfl,hl5,hg5⟩
 have HI:=Lib.hid (λi hi=>Xv hl5 i hi)
 obtain⟨g5,rfl,-,-⟩:=hl5.blk
 have bG:=Lib.hid hg5
 have eH:=Lib.hid (ah ni.out hg5)
 have F4:=Lib.hid (show w.heap.size<=wr.heap.size from gu.out.size)
 clear hl5 hg5
 obtain⟨⟨x0,x1,x2⟩,x3,x4,x5⟩:=bI eH.out
 have hxl:=lt_of_block eH.out
 go_wp2_with fail
 refine(il.out w5 bG.out).mono ?_
 rintro e w6 ⟨rfl,hg⟩
 have uf:=Lib.hid hg
 have jG:=Lib.hid (ah eH.out hg)
 clear x0 x1 x2 x3 x4 x5 hxl hg
 try clear hlt
 try clear hlt1
 obtain⟨⟨x0,x1,x2⟩,x3,x4,x5⟩:=bI jG.out
 have hxl:=lt_of_block jG.out
 go_wp2_with fail
 refine(yT.out w6 (gtr bG.out uf.out)).mono ?_
 rintro e w7 ⟨rfl,hg⟩
 have Gb:=Lib.hid (gtr uf.out hg)
 clear x0 x1 x2 x3 x4 x5 hxl hg eH jG il yT HB3 aA
 go_wp2_with fail
 go_loopw [81] (λt wr=>∃ k:Nat,t = .int .i64 k/\k<=2/\Grow w7 wr) (λt _=>2 - (intOf t).toNat)
 case atStart=>exact⟨0,rfl,by omega,Mv.refl _ _⟩
 obtain⟨k,rfl,hk,hg⟩:=hrel
 have DU:=Lib.hid hg
 clear hg
 by_cases hlt:k<2
 · have hkk:(k:Int)<2:=by omega
   obtain⟨g5',e,gp,mF,pk,pm,ps,bk,bc,⟨⟨hc0,Kr,hbk,hgc⟩,-,-,-⟩,hin⟩:=HI.out k hlt
   simp only[Value.slice.injEq,Option.some.injEq,Addr.mk.injEq,and_true]at e
   obtain⟨rfl,-⟩:=e
   have lG:=Lib.hid hin
   clear hin
   have hI:=lG.out wr (gtr Gb.out DU.out)
   obtain⟨⟨y0,y1,y2⟩,y3,y4,y5⟩:=hI.cells
   have hyl:=hI.lt.1
   simp only[Nat.add_zero]at y0
   clear hI
   have iT:=Lib.hid (heap_alloc_new wr (.cells #[.string (ou k),.slice (some ⟨gp,0,none⟩) 2 mF,.int .u8 pk,.int .i64 pm,.string ps,.slice (some ⟨bk,0,none⟩) bc bc] 48))
   have oK:=Lib.hid (show Grow wr (wr.alloc (.cells #[.string (ou k),.slice (some ⟨gp,0,none⟩) 2 mF,.int .u8 pk,.int .i64 pm,.string ps,.slice (some ⟨bk,0,none⟩) bc bc] 48))from(Mv.refl _ _).alloc _)
   go_upto_region 21 with fail
   generalize hW:(wr.alloc (.cells #[.string (ou k),.slice (some ⟨gp,0,none⟩) 2 mF,.int .u8 pk,.int .i64 pm,.string ps,.slice (some ⟨bk,0,none⟩) bc bc] 48))=W at *
   generalize wr.heap.size=g9 at *
   clear hW y0 y1 y2 y3 y4 y5 hyl
   have HK:=Lib.hid (λ(y:World) (hy:Grow W y)=>And.intro (ah iT.out hy) (lG.out y (gtr Gb.out (gtr DU.out (gtr oK.out hy)))))
   refine wgG 135 [some 86,some 87,some 88,some 89,some 90,some 91,some 92,some 93,some 94,some 95,some 96,some 97,some 98,some 99,some 100,some 101,some 102,some 103,some 104,some 105,some 106,some 107,some 108,some 109,some 110,some 111,some 112,some 113,some 114,some 115,some 116,some 117,some 118] [[],[0],[],[],[2,3],[4],[1,5],[6],[],[8],[9],[10],[7,11],[12],[],[14],[15],[16],[],[17,18],[13,19],[20],[],[22],[23],[24],[],[],[26,27],[28],[29],[25,30],[21,31]] [] [.c (.pointer (some ⟨g9,0,none⟩)),.c (.string (ou k)),.p (λv y=>∃ g,v = .slice (some ⟨g,0,none⟩) 2 2/\y.heap[g]? = some (.cells #[.string ⟨#[108,99,111,112,121]⟩,.string ⟨#[108,115,112,105,108,108]⟩] 9 (0,0))),.c (.int .i64 k),.p (λv y=>∃ g,v = .pointer (some ⟨g,k,none⟩)/\y.heap[g]? = some (.cells #[.string ⟨#[108,99,111,112,121]⟩,.string ⟨#[108,115,112,105,108,108]⟩] 9 (0,0))),.c (.string (ou k)),.c (.bool false),.c (.bool false),.c (.pointer (some ⟨g9,1,none⟩)),.c (.slice (some ⟨gp,0,none⟩) 2 mF),.c (.int .i64 2),.c (.bool false),.c (.bool false),.c (.bool false),.c (.pointer (some ⟨g9,1,none⟩)),.c (.slice (some ⟨gp,0,none⟩) 2 mF),.c (.pointer (some ⟨gp,0,none⟩)),.c (.agg #[.string sA,.int .u8 3,.int .i64 0]),.c (.agg #[.string sA,.int .u8 3,.int .i64 0]),.c (.bool false),.c (.bool false),.c (.bool false),.c (.pointer (some ⟨g9,1,none⟩)),.c (.slice (some ⟨gp,0,none⟩) 2 mF),.c (.pointer (some ⟨gp,3,none⟩)),.c (.agg #[.string (vM k),.int .u8 3,.int .i64 0]),.p (λv y=>∃ g,v = .slice (some ⟨g,0,none⟩) 2 2/\y.heap[g]? = some (.cells #[.string ⟨#[98]⟩,.string ⟨#[103]⟩] 9 (0,0))),.c (.int .i64 k),.p (λv y=>∃ g,v = .pointer (some ⟨g,k,none⟩)/\y.heap[g]? = some (.cells #[.string ⟨#[98]⟩,.string ⟨#[103]⟩] 9 (0,0))),.c (.string (vM k)),.c (.agg #[.string (vM k),.int .u8 3,.int .i64 0]),.c (.bool false),.c (.bool false)] (by exact⟨⟨(λv x y hg h=>by obtain⟨g,hv,hb⟩:=h;exact⟨g,hv,ah hb hg⟩),λ_=>bg⟩,⟨(λv x y hg h=>by obtain⟨g,hv,hb⟩:=h;exact⟨g,hv,ah hb hg⟩),λ_=>bg⟩,⟨(λv x y hg h=>by obtain⟨g,hv,hb⟩:=h;exact⟨g,hv,ah hb hg⟩),λ_=>bg⟩,⟨(λv x y hg h=>by obtain⟨g,hv,hb⟩:=h;exact⟨g,hv,ah hb hg⟩),λ_=>bg⟩,trivial⟩) (dm rfl) ?steps ?done
   case steps =>
    refine⟨?s0,?s1,?s2,?s3,?s4,?s5,?s6,?s7,?s8,?s9,?s10,?s11,?s12,?s13,?s14,?s15,?s16,?s17,?s18,?s19,?s20,?s21,?s22,?s23,?s24,?s25,?s26,?s27,?s28,?s29,?s30,?s31,?s32,trivial⟩
    case s0 =>
     refine oo (λvs x hP => ?_)
     simp only[zS]
     go_simp
     exact gc
    case s1 =>
     refine ok HK (λvs x hG HX hP => ?_)
     obtain⟨⟨x0,x1,x2⟩,x3,x4,x5⟩:=bI HX.out.1
     have xl:=lt_of_block HX.out.1
     simp only[zS]
     go_simp
     exact gc
    case s2 =>
     refine ok HK (λvs x hG HX hP => ?_)
     simp only[zS]
     go_simp
     exact gl ⟨_,rfl,heap_alloc_new x _⟩
    case s3 =>
     refine oo (λvs x hP => ?_)
     simp only[zS]
     go_simp
     exact gc
    case s4 =>
     refine oo (λvs x hP => ?_)
     have p2:=pq hP 2
     obtain⟨g2,h2,b2⟩:=p2
     simp only[zS,h2]
     go_simp
     exact gk ⟨_,rfl,b2⟩
    case s5 =>
     refine ok HK (λvs x hG HX hP => ?_)
     have p4:=pq hP 4
     obtain⟨g4,h4,b4⟩:=p4
     have c9:=YQ b4 hlt
     have l9:=lt_of_block b4
     simp only[zS,h4]
     go_simp
     exact gc
    case s6 =>
     refine oo (λvs x hP => ?_)
     simp only[zS]
     go_simp
     exact gc
    case s7 =>
     refine oo (λvs x hP => ?_)
     simp only[zS]
     go_simp
     exact gc
    case s8 =>
     refine oo (λvs x hP => ?_)
     simp only[zS]
     go_simp
     exact gc
    case s9 =>
     refine ok HK (λvs x hG HX hP => ?_)
     obtain⟨⟨x0,x1,x2⟩,x3,x4,x5⟩:=bI HX.out.1
     have xl:=lt_of_block HX.out.1
     simp only[zS]
     go_simp
     exact gc
    case s10 =>
     refine oo (λvs x hP => ?_)
     simp only[zS]
     go_simp
     exact gc
    case s11 =>
     refine oo (λvs x hP => ?_)
     simp only[zS]
     go_simp
     exact gc
    case s12 =>
     refine oo (λvs x hP => ?_)
     simp only[zS]
     go_simp
     exact gc
    case s13 =>
     refine oo (λvs x hP => ?_)
     simp only[zS]
     go_simp
     exact gc
    case s14 =>
     refine oo (λvs x hP => ?_)
     simp only[zS]
     go_simp
     exact gc
    case s15 =>
     refine ok HK (λvs x hG HX hP => ?_)
     obtain⟨⟨x0,x1,x2⟩,x3,x4,x5⟩:=bI HX.out.1
     have xl:=lt_of_block HX.out.1
     simp only[zS]
     go_simp
     exact gc
    case s16 =>
     refine oo (λvs x hP => ?_)
     simp only[zS]
     go_simp
     exact gc
    case s17 =>
     refine ok HK (λvs x hG HX hP => ?_)
     obtain⟨⟨q0,q1,q2⟩,q3,q4,q5⟩:=HX.out.2.Km
     have ql:=HX.out.2.lt.2.1
     simp only[zS]
     go_simp
     exact gc
    case s18 =>
     refine oo (λvs x hP => ?_)
     simp only[zS]
     go_simp
     exact gc
    case s19 =>
     refine oo (λvs x hP => ?_)
     simp only[zS]
     go_simp
     exact gc
    case s20 =>
     refine oo (λvs x hP => ?_)
     simp only[zS]
     go_simp
     exact gc
    case s21 =>
     refine oo (λvs x hP => ?_)
     simp only[zS]
     go_simp
     exact gc
    case s22 =>
     refine oo (λvs x hP => ?_)
     simp only[zS]
     go_simp
     exact gc
    case s23 =>
     refine ok HK (λvs x hG HX hP => ?_)
     obtain⟨⟨x0,x1,x2⟩,x3,x4,x5⟩:=bI HX.out.1
     have xl:=lt_of_block HX.out.1
     simp only[zS]
     go_simp
     exact gc
    case s24 =>
     refine oo (λvs x hP => ?_)
     simp only[zS]
     go_simp
     exact gc
    case s25 =>
     refine ok HK (λvs x hG HX hP => ?_)
     obtain⟨⟨q0,q1,q2⟩,q3,q4,q5⟩:=HX.out.2.Km
     have ql:=HX.out.2.lt.2.1
     simp only[zS]
     go_simp
     exact gc
    case s26 =>
     refine ok HK (λvs x hG HX hP => ?_)
     simp only[zS]
     go_simp
     exact gl ⟨_,rfl,heap_alloc_new x _⟩
    case s27 =>
     refine oo (λvs x hP => ?_)
     simp only[zS]
     go_simp
     exact gc
    case s28 =>
     refine oo (λvs x hP => ?_)
     have p26:=pq hP 26
     obtain⟨FJ,Dp,JY⟩:=p26
     simp only[zS,Dp]
     go_simp
     exact gk ⟨_,rfl,JY⟩
    case s29 =>
     refine ok HK (λvs x hG HX hP => ?_)
     have p28:=pq hP 28
     obtain⟨FK,Dq,Dr⟩:=p28
     have c9:=YR Dr hlt
     have l9:=lt_of_block Dr
     simp only[zS,Dq]
     go_simp
     exact gc
    case s30 =>
     refine oo (λvs x hP => ?_)
     simp only[zS]
     go_simp
     exact gc
    case s31 =>
     refine oo (λvs x hP => ?_)
     simp only[zS]
     go_simp
     exact gc
    case s32 =>
     refine oo (λvs x hP => ?_)
     simp only[zS]
     go_simp
     exact gc
   case done =>
   intro vs wx hE
   have hG:=hE.grow
   have p2:=hE.val 2
   obtain⟨g2,h2,b2⟩:=p2
   have p4:=hE.val 4
   obtain⟨g4,h4,b4⟩:=p4
   have p26:=hE.val 26
   obtain⟨FJ,Dp,JY⟩:=p26
   have p28:=hE.val 28
   obtain⟨FK,Dq,Dr⟩:=p28
   have aO:=Lib.hid hG
   clear hE hG
   simp only[zS,Nat.reduceAdd,h2,h4,Dp,Dq]
   clear HK iT lG
   go_wp2_with fail
   go_roundw
   case rel=>exact⟨k+1,by go_num,by omega,gtr DU.out (gtr oK.out aO.out)⟩
   case measure=>(simp[intOf] <;> omega)
 obtain rfl:k=2:=by omega
 obtain⟨g5',e,gp,mF,pk,pm,ps,bk,bc,⟨⟨hc0,Kr,hbk,hbc⟩,hne,hne2,hc1⟩,hin⟩:=HI.out 0 (by omega)
 simp only[Value.slice.injEq,Option.some.injEq,Addr.mk.injEq,and_true]at e
 obtain⟨rfl,-⟩:=e
 subst hc1
 have hI:=hin wr (gtr Gb.out DU.out)
 have qh:=Lib.hid hI
 obtain⟨⟨y0,y1,y2⟩,y3,y4,y5⟩:=hI.cells
 obtain⟨⟨k0,hk0⟩,⟨k1,hk1⟩,⟨k2,hk2⟩,⟨k3,hk3⟩⟩:=hI.kid
 have hyl:=hI.lt.1
 have hkl:=hI.lt.2.2
 have Ga:=hI.thaw.2
 simp only[Nat.zero_mul,Nat.zero_add]at y0 y1 y2 y3 y4 y5
 have FD:=Lib.hid (show Grow w wr from gtr gu.out (gtr bG.out (gtr Gb.out DU.out)))
 have HS:=Lib.hid (Zd wr bk 0 (.int .u8 0) (.int .i64 0) (.string ⟨#[]⟩) (.slice none 0 0))
 have zh:=Lib.hid (And.intro hne hne2)
 have AR:=Lib.hid (And.intro (Nat.le_trans F4.out Kr) (Nat.le_trans F4.out hbk))
 clear hI HI hin hne hne2 Kr hbk
 simp only[Nat.zero_add]at HS
 go_upto_region 25 with fail
 generalize ((((wr.setCell ⟨bk,0,none⟩ (.int .u8 0)).setCell ⟨bk,1,none⟩ (.int .i64 0)).setCell ⟨bk,2,none⟩ (.string ⟨#[]⟩)).setCell ⟨bk,3,none⟩ (.slice none 0 0))=w9 at *
 have v1:=(Lh HS.out hyl zh.out.1 1).trans y1
 have hpl:=qh.out.lt.2.1
 have v2:=(Lh HS.out hpl zh.out.2 0).trans qh.out.Km.1.1
 have v3:=qh.out.thaw.1 0
 rw[← Ku (HS.out.block gp hpl zh.out.2)]at v3
 have v4:g5<w9.heap.size:=Nat.lt_of_lt_of_le hyl HS.out.size
 have v5:gp<w9.heap.size:=Nat.lt_of_lt_of_le hpl HS.out.size
 have HS2:=Lib.hid ((Mv.refl (λb=>b=gp) w9).setCell (p:=⟨gp,0,none⟩) (.inl rfl) (.string ⟨#[113]⟩))
 have fD:=Lib.hid (show Grow w (w9.setCell ⟨gp,0,none⟩ (.string ⟨#[113]⟩))from bM (bM FD.out HS.out (λb e=>by have:=AR.out.2;omega)) HS2.out (λb e=>by have:=AR.out.1;omega))
 have lF:=Lib.hid (λz=>Eg 50 jy z ⟨by decide,by decide⟩ (by decide))
 clear y0 y1 y2 y3 y4 y5 hk0 hk1 hk2 hk3 hyl hkl Ga hpl
 go_wp2_with fail
 refine(lF.out _).mono ?_
 rintro e CG ⟨p,rfl,⟨B9,fU,-⟩,hg⟩
 have bJ:=Lib.hid (NH p CG fU.prog)
 have SV:AZ p.d=true:=by
  have h1:=fU.names
  have h2:=fU.lib.d
  have h3:=fU.t
  have:p.d=mW [oq 50 jy false]:=by
   unfold aB.d mW
   rw[h1,h2,h3]
   rfl
  rw[this]
  exact NK _ (λt ht=>by rw[List.mem_singleton.1 ht];exact⟨50,jy,false,.inl rfl,.inl rfl,rfl⟩) (by decide)
 rw[SV]at bJ
 have _q:=Lib.hid (gtr fD.out hg)
 clear SV fU hg
 generalize p.val=pv at *
 go_wp2_with fail
 refine bJ.out.mono ?_
 rintro e _w ⟨rfl,hg⟩
 have _t:=Lib.hid (gtr _q.out hg)
 clear hg
 go_wp2_with fail
 go_ret
 exact⟨rfl,_t.out⟩
theorem SY (a0:Option Addr) (tV cap0:Nat) (z0:List Int) (w:World) (w0:xA .u8 w a0 tV cap0 z0) :
 Calls Tryz.prog 7 #[.slice a0 tV cap0] w λe w'=>e = .returned (.bool true)/\Below w.heap.size w w':=by
 obtain⟨A,rfl,hA,hR⟩:=w0._k
 exact(TI a0 cap0 A w hA hR).mono λe w' h=>⟨h.1,Xt h.2⟩
end Go.Proofs.YtbpodipdfohikaaGreat
