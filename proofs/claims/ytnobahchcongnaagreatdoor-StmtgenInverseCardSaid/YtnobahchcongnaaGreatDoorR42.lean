import Derived.Test.YtnobahchcongnaaGreatDoorR41
set_option linter.unusedSimpArgs false
set_option linter.unusedVariables false
set_option maxRecDepth 100000
set_option maxHeartbeats 25600000
namespace Go.Proofs.YtnobahchcongnaaGreatDoor
open Go.RowKit Go.Instr
mutual
def lN:Tree->Int->Int
 |.mk _ _ _ l,r=>nW l (r - 1)
def nW:List Tree->Int->Int
 | [],r=>r
 |t :: l,r=>if 0<=r then nW l (lN t r)else r
end
theorem YY (l:List Tree) (r:Int) (h:r<0):nW l r=r:=by
 cases l with
 |nil=>rw[nW]
 |cons t l=>rw[nW,if_neg (by omega)]
mutual
theorem Lf:∀ (t:Tree) (r:Int),0<=r -> -1<=lN t r/\lN t r<=r/\(0<=lN t r->(aI t:Int)=r - lN t r)
 |.mk _ _ _ l,r,h=>by
  have:=QL l (r - 1) (by omega);simp only[lN,aI];omega
theorem QL:∀ (l:List Tree) (r:Int),-1<=r -> -1<=nW l r/\nW l r<=r/\(0<=nW l r->(cu l:Int)=r - nW l r)
 | [],r,h=>by simp only[nW,cu];omega
 |t :: l,r,h=>by
  simp only[nW,cu];split
  · rename_i h0;have h1:=Lf t r h0;have h2:=QL l (lN t r) h1.1;refine⟨h2.1,by omega,λh3 => ?_⟩;have h4:=h1.2.2 (by omega);have h5:=h2.2.2 h3;omega
  · omega
end
def jh (l:List Tree) (r:Int):Nat->Int
 |0=>r
 |j+1=>match l[j]? with
  |none=>jh l r j
  |some t=>lN t (jh l r j)
theorem X7 (l:List Tree) (r:Int) (j:Nat) (h:j<l.length):jh l r (j+1)=lN l[j] (jh l r j):=by simp only[jh,List.getElem?_eq_getElem h]
theorem Gh (t:Tree) (l:List Tree) (r:Int):∀ j,jh (t :: l) r (j+1)=jh l (lN t r) j
 |0=>by simp[jh]
 |j+1=>by
  have ih:=Gh t l r j
  show(match (t :: l)[j+1]? with|none=>jh (t :: l) r (j+1)|some u=>lN u (jh (t :: l) r (j+1)))=_
  rw[List.getElem?_cons_succ,ih];rfl
theorem KV:∀ (l:List Tree) (r:Int) (j:Nat),j<=l.length->(∀ i,i<j->0<=jh l r i)->(j=l.length\/jh l r j<0)->nW l r=jh l r j
 | [],r,j,hj,_,_=>by
  obtain rfl:j=0:=by simpa using hj
  simp[nW,jh]
 |t :: l,r,0,_,_,h=>by
  rcases h with h|h
  · simp at h
  · exact YY _ _ h
 |t :: l,r,j+1,hj,hp,h=>by
  have h0:0<=r:=hp 0 (by omega);rw[nW,if_pos h0,Gh];refine KV l (lN t r) j (by simpa using hj) (λi hi => ?_) ?_
  · have:=hp (i+1) (by omega);rwa[Gh]at this
  · rw[Gh]at h;rcases h with h|h
    · exact .inl (by simpa using h)
    · exact .inr h
theorem _X:∀ (m:Nat) (x:ae),SizeOf.sizeOf x<=m->∀ (r:Int),0<=r->r<=1000000->∀ w:World,aR w x->Calls Tryz.prog 18 #[x.val,.int .i64 r] w λe w'=>e = .returned (.int .i64 (lN x.t r))/\Grow w w':=by
 intro m
 induction m with
 |zero=>intro x hm;cases x;simp at hm
 |succ m ih =>
  intro x hm r hr0 hr1 w hx;obtain⟨k,n,s,kv,l⟩:=x;obtain⟨a,cap,rfl,hcap,hlen⟩:=hx.form;have iB:=ł (λ(y:ae) (hy:y∈l) (q:Int) (h0:0<=q) (h1:q<=1000000) (w':World) (hg:Grow w w')=>ih y (by have:=ng (k:=k) (n:=n) (s:=s) (kv := .slice a l.length cap) hy;omega) q h0 h1 w' ((hx.row.2.2.2.2 y hy).later hg));have HE:=ł (show lN (ae.mk k n s (.slice a l.length cap) l).t r=nW (ae.ts l) (r - 1)from by simp only[ae.t,lN]);have HX:=ł hx;clear ih hm hx;simp only[ae.val];have HG:=ł (show Grow w (w.alloc (.cells #[.int .u8 k,.int .i64 n,.string s,.slice a l.length cap] 24))from(Mv.refl _ _).alloc _);have HB:=ł (heap_alloc_new w (.cells #[.int .u8 k,.int .i64 n,.string s,.slice a l.length cap] 24))
  go_enter Tryz.func18,Tryz.ntmps18
  go_wp2_with fail;generalize w.alloc (.cells #[.int .u8 k,.int .i64 n,.string s,.slice a l.length cap] 24)=w1 at *
  go_loopw [1,5] (λrv t wr=>∃ j:Nat,rv = .int .i64 (jh (ae.ts l) (r - 1) j)/\t = .int .i64 j/\j<=l.length/\(∀ i,i<j->0<=jh (ae.ts l) (r - 1) i)/\(-1<=jh (ae.ts l) (r - 1) j/\jh (ae.ts l) (r - 1) j<=r)/\Grow w1 wr) (λ_ t _=>l.length - (intOf t).toNat)
  case atStart=>exact⟨0,by simp[jh],rfl,Nat.zero_le _,λi h=>by omega,by simp only[jh];omega,Mv.refl _ _⟩
  obtain⟨j,rfl,rfl,hj,hpos,⟨hb1,hb2⟩,hgr⟩:=hrel;have Nb:=ł hpos;have bS:=ł hgr;have bf:=ł (Mv.trans HG.out hgr (λ_ e=>e.elim));obtain⟨⟨n0,n1⟩,n2,n3⟩:=aC (ai HB.out hgr);have hln:=lt_of_block (ai HB.out hgr);clear hpos hgr;by_cases hlt:j<l.length
  · by_cases h0:0<=jh (ae.ts l) (r - 1) j
    · obtain⟨b,off,cap',e,_,hcc⟩:=(HX.out.row.2.2.2.1.later bf.out).at hlt;simp only[Value.slice.injEq,true_and]at e;obtain⟨rfl,rfl⟩:=e;have bM:=HX.out.row.2.2.2.2 l[j] (List.getElem_mem hlt);have HC:=ł (iB.out l[j] (List.getElem_mem hlt) _ h0 (by omega) wr bf.out);have OV:=ł (by have:=X7 (ae.ts l) (r - 1) j (by rw[ae.cz];exact hlt);rw[ae.gW l j hlt]at this;exact this);have nP:=ł (Lf l[j].t _ h0);have ym:=ł (show ∀ i,i<j+1->0<=jh (ae.ts l) (r - 1) i from λi hi=>by
       rcases Nat.lt_or_ge i j with h3|h3
       · exact Nb.out i h3
       · obtain rfl:i=j:=by omega
         exact h0)
      generalize jh (ae.ts l) (r - 1) j=lj at *;generalize l[j]=y at HC OV nP bM hcc;obtain⟨yk,yn,ys,mE,yl⟩:=y;obtain⟨ya,yc,rfl,-,-⟩:=bM.form;simp only[ae.val]at HC;have c0:=hcc 0 _ rfl;have c1:=hcc 1 _ rfl;have c2:=hcc 2 _ rfl;have c3:=hcc 3 _ rfl;simp only[Nat.add_zero]at c0;have hbl:b<wr.heap.size:=World.block_lt_of_cell? wr _ c0;generalize lN (ae.mk yk yn ys (.slice ya yl.length yc) yl).t lj=rj at *;clear hcc bM;go_wp2_with fail;refine HC.out.mono ?_;rintro e w5 ⟨rfl,hg5⟩;have aU:=ł (Mv.trans bS.out hg5 (λ_ e=>e.elim));clear hg5;go_wp2_with fail
      go_roundw
      case rel=>exact⟨j+1,by rw[OV.out],by go_num,by omega,ym.out,by rw[OV.out];have:=nP.out;omega,aU.out⟩
      case measure=>simp[intOf];omega
    · have HR:=ł (KV (ae.ts l) (r - 1) j (by rw[ae.cz];omega) Nb.out (.inr (by omega)));generalize jh (ae.ts l) (r - 1) j=lj at *;have h0':lj<0:=by omega
      go_wp2_with fail;go_ret;exact⟨iF (by rw[HE.out,HR.out]),bf.out⟩
  obtain rfl:j=l.length:=by omega
  have HR:=ł (KV (ae.ts l) (r - 1) l.length (by rw[ae.cz];omega) Nb.out (.inl (by rw[ae.cz])));generalize jh (ae.ts l) (r - 1) l.length=lj at *;go_wp2_with fail;go_ret;exact⟨iF (by rw[HE.out,HR.out]),bf.out⟩
theorem _Y (x:ae) (r:Int) (w:World) (h:aR w x) (h0:0<=r) (h1:r<=1000000):Calls Tryz.prog 18 #[x.val,.int .i64 r] w λe w'=>e = .returned (.int .i64 (lN x.t r))/\Grow w w':=_X _ x (Nat.le_refl _) r h0 h1 w h
def sw (k:Int):Bool := !(k == 52 || (k == 53 || (k == 50 || k == 51)))
mutual
def iR:Tree->Bool
 |.mk k _ _ l=>sw k && DX l
def DX:List Tree->Bool
 | []=>true
 |t :: l=>iR t && DX l
end
theorem Dt (l:List Tree):DX l=l.all iR:=by
 induction l with
 |nil=>rw[DX];rfl
 |cons t l ih=>rw[DX,ih,List.all_cons]
theorem YZ:∀ (m:Nat) (x:ae),SizeOf.sizeOf x<=m->∀ w:World,aR w x->Calls Tryz.prog 12 #[x.val] w (jy w (iR x.t)):=by
 intro m
 induction m with
 |zero=>intro x hm;cases x;simp at hm
 |succ m ih =>
  intro x hm w hx;obtain⟨k,n,s,kv,l⟩:=x;obtain⟨a,cap,rfl,hcap,hlen⟩:=hx.form;have iB:=ł (λ(y:ae) (hy:y∈l) (w':World) (hg:Grow w w')=>ih y (by have:=ng (k:=k) (n:=n) (s:=s) (kv := .slice a l.length cap) hy;omega) w' ((hx.row.2.2.2.2 y hy).later hg));have HE:=ł (show iR (ae.mk k n s (.slice a l.length cap) l).t=(sw k && (ae.ts l).all iR)from by rw[ae.t,iR,Dt]);have HX:=ł hx;clear ih hm hx;simp only[ae.val];have HG:=ł (show Grow w (w.alloc (.cells #[.int .u8 k,.int .i64 n,.string s,.slice a l.length cap] 24))from(Mv.refl _ _).alloc _);have HB:=ł (heap_alloc_new w (.cells #[.int .u8 k,.int .i64 n,.string s,.slice a l.length cap] 24));generalize hsk:sw k=sk at *;cases sk with
  |false =>
   have HR:=ł (show iR (ae.mk k n s (.slice a l.length cap) l).t=false from by rw[HE.out];rfl);have h4:k=52\/k=53\/k=50\/k=51:=by simp[sw]at hsk;omega
   clear HX iB HE hsk;rcases h4 with rfl|rfl|rfl|rfl
   all_goals
    go_enter Tryz.func12,Tryz.ntmps12
    go_wp2_with fail;go_ret;exact⟨aK HR.out.symm,HG.out⟩
  |true =>
   have h4:k≠52/\k≠53/\k≠50/\k≠51:=by simpa[sw]using hsk
   obtain⟨x1,x2,x3,x4⟩:=h4;rw[← beq_eq_false_iff_ne]at x1 x2 x3 x4;have HE2:=ł (HE.out.trans (Bool.true_and _));clear hsk HE
   go_enter Tryz.func12,Tryz.ntmps12
   go_wp2_with fail;clear x1 x2 x3 x4;generalize w.alloc (.cells #[.int .u8 k,.int .i64 n,.string s,.slice a l.length cap] 24)=w1 at *
   go_loopw [26] (λt wr=>∃ j:Nat,t = .int .i64 j/\j<=l.length/\(∀ i (h:i<l.length),i<j->iR l[i].t=true)/\Grow w1 wr) (λt _=>l.length - (intOf t).toNat)
   case atStart=>exact⟨0,rfl,Nat.zero_le _,λi h h'=>by omega,Mv.refl _ _⟩
   obtain⟨j,rfl,hj,hall,hgr⟩:=hrel;have dE:=ł hall;have bf:=ł (gtr HG.out hgr);have bS:=ł hgr;clear hall hgr;by_cases hlt:j<l.length
   · obtain⟨b,off,cap',e,_,hcc⟩:=(HX.out.row.2.2.2.1.later bf.out).at hlt;simp only[Value.slice.injEq,true_and]at e;obtain⟨rfl,rfl⟩:=e;have bM:=HX.out.row.2.2.2.2 l[j] (List.getElem_mem hlt);have HC:=ł (λz hz=>iB.out l[j] (List.getElem_mem hlt) z (gtr bf.out hz));have HF:=ł (λ(h:iR l[j].t=false)=>show iR (ae.mk k n s (.slice (some ⟨b,off,none⟩) l.length cap) l).t=false from by
      rw[HE2.out];exact List.all_eq_false.2 ⟨l[j].t,by rw[ae.gV];exact List.mem_map.2 ⟨l[j],List.getElem_mem hlt,rfl⟩,by rw[h];simp⟩)
     have HS:=ł (λ(h:iR l[j].t=true)=>show ∀ i (h:i<l.length),i<j+1->iR l[i].t=true from λi h1 h2=>by
      rcases Nat.lt_or_ge i j with h3|h3
      · exact dE.out i h1 h3
      · obtain rfl:i=j:=by omega
        exact h)
     generalize l[j]=y at *;generalize y.t=yt at *;obtain⟨yk,yn,ys,mE,yl⟩:=y;obtain⟨ya,yc,rfl,-,-⟩:=bM.form;simp only[ae.val]at HC;have c0:=hcc 0 _ rfl;have c1:=hcc 1 _ rfl;have c2:=hcc 2 _ rfl;have c3:=hcc 3 _ rfl;simp only[Nat.add_zero]at c0;have hbl:b<wr.heap.size:=World.block_lt_of_cell? wr _ c0;clear hcc bM;go_wp2_with fail;refine(HC.out _ ((Mv.refl _ wr).alloc (.cells #[.int .u8 yk,.int .i64 yn,.string ys,.slice ya yl.length yc] 24))).mono ?_;rintro e w5 ⟨rfl,hg5⟩;have aU:=ł (gtr ((Mv.refl _ wr).alloc (.cells #[.int .u8 yk,.int .i64 yn,.string ys,.slice ya yl.length yc] 24)) hg5);clear hg5 c0 c1 c2 c3 hbl HC;generalize iR yt=yb at *;cases yb with
     |false =>
      have HR:=ł (HF.out rfl);go_wp2_with fail;go_ret;exact⟨aK HR.out.symm,gtr bf.out aU.out⟩
     |true =>
      have HS2:=ł (HS.out rfl);go_wp2_with fail
      go_roundw
      case rel=>exact⟨j+1,by go_num,by omega,HS2.out,gtr bS.out aU.out⟩
      case measure=>simp[intOf];omega
   · obtain rfl:j=l.length:=by omega
     have HR:=ł (show iR (ae.mk k n s (.slice a l.length cap) l).t=true from by
      rw[HE2.out];refine List.all_eq_true.2 λt ht => ?_;rw[ae.gV]at ht;obtain⟨x,hx,rfl⟩:=List.mem_map.1 ht;obtain⟨i,hi,rfl⟩:=List.mem_iff_getElem.1 hx;exact dE.out i hi hi)
     go_wp2_with fail;go_ret;exact⟨aK HR.out.symm,bf.out⟩
theorem Y0 (x:ae) (w:World) (h:aR w x):Calls Tryz.prog 12 #[x.val] w (jy w (iR x.t)):=YZ _ x (Nat.le_refl _) w h
def lY (k:Int):Int:=if k=40 then 41 else if k=41 then 40 else if k=44 then 45 else if k=45 then 44 else if k=46 then 47 else if k=47 then 46 else if k=48 then 49 else if k=49 then 48 else if k=50 then 51 else if k=51 then 50 else k
theorem ZK (k:Int) (w:World):Calls Tryz.prog 62 #[.int .u8 k] w λe w'=>e = .returned (.int .u8 (lY k))/\w=w':=by
 by_cases hx:k=40\/k=41\/k=44\/k=45\/k=46\/k=47\/k=48\/k=49\/k=50\/k=51
 · rcases hx with rfl|rfl|rfl|rfl|rfl|rfl|rfl|rfl|rfl|rfl
   all_goals
    go_enter Tryz.func62,Tryz.ntmps62
    go_wp2
    go_ret;exact⟨rfl,rfl⟩
 · simp only[not_or]at hx;obtain⟨x1,x2,x3,x4,x5,x6,x7,x8,x9,x10⟩:=hx;have HE:=ł (show lY k=k from by simp[*,lY])
   go_enter Tryz.func62,Tryz.ntmps62
   go_wp2
   all_goals (go_ret;exact⟨iF HE.out.symm,rfl⟩)
def L8 {α:Type} (l:List α) (d:α):List α:=(l.set 0 (l.getD (l.length - 1) d)).set (l.length - 1) (l.getD 0 d)
mutual
def bY:Tree->Tree
 |.mk k n s l => .mk (lY k) n s (if k=57 then(yX true l).reverse else if k=52\/k=53\/k=54 then L8 (yX false l) dx else yX false l)
def yX (b:Bool):List Tree->List Tree
 | []=>[]
 |t :: l=>(if b=true\/t.kind=57 then bY t else t) :: yX b l
end
def invK (b:Prop) [Decidable b] (t:Tree):Tree:=if b\/t.kind=57 then bY t else t
theorem yH (b:Bool) (l:List Tree):yX b l=l.map (invK (b=true)):=by
 induction l with
 |nil=>rw[yX];rfl
 |cons t l ih=>rw[yX,ih];rfl
theorem qj {t:Tree} (h:aN t=true):t.kind≠57:=by
 obtain⟨k,n,s,l⟩:=t;intro e;simp only[Tree.kind]at e;subst e;simp[aN]at h
theorem qh {t:Tree} (h:dJ t=true):t.kind≠57:=by
 simp only[dJ,Bool.and_eq_true]at h;exact qj h.2
theorem _Z {t:Tree} (h:o8 t=true):t.kind≠57:=by
 simp only[o8,Bool.and_eq_true]at h;exact qj h.2
theorem aax {k n:Int} {s:ByteArray} {l:List Tree} (h:bq (.mk k n s l)=true\/bF (.mk k n s l)=true) (j:Nat) (hj:j<l.length) (hc:k=57\/l[j].kind=57):bq l[j]=true\/bF l[j]=true:=by
 rcases h with h|h
 · have two:∀ ps:List (Tree->Bool),bI ps l=true->(∀ p∈ps,∀ t,p t=true->t.kind≠57)->k≠57->bq l[j]=true\/bF l[j]=true:=λps hk hp h57=>by
    have hl:=tC ps l hk;have:=zY ps l hk j (by omega) hj;rcases hc with e|e
    · exact absurd e h57
    · exact absurd e (hp _ (List.getElem_mem _) _ this)
   rw[bq]at h;split at h
   · simp only[Bool.and_eq_true]at h;exact two _ h.2 (λp hp t ht=>by simp at hp;rcases hp with rfl|rfl;exact qh ht;exact qj ht) (by omega)
   · split at h
     · simp only[Bool.and_eq_true]at h;exact two _ h.2 (λp hp t ht=>by simp at hp;subst hp;exact qh ht) (by omega)
     · split at h
       · simp only[Bool.and_eq_true]at h;exact two _ h.2 (λp hp t ht=>by simp at hp;subst hp;exact qh ht) (by omega)
       · split at h
         · simp only[Bool.and_eq_true]at h;exact two _ h.2 (λp hp t ht=>by simp at hp;subst hp;exact qh ht) (by omega)
         · split at h
           · simp only[Bool.and_eq_true]at h;have hv:=List.all_eq_true.1 h.2.2 l[j] (List.getElem_mem _);rcases hc with e|e
             · omega
             · exact absurd e (_Z hv)
           · split at h
             · simp only[Bool.and_eq_true]at h;obtain⟨_,hk,hb1,hb2⟩:=h;have hl:=tC _ l hk;simp at hl;have h0:=zY _ l hk 0 (by simp) (by omega);have h3:=zY _ l hk 3 (by simp) (by omega);obtain⟨_,b1⟩:=vD l 1 hb1;obtain⟨_,b2⟩:=vD l 2 hb2;simp only[List.getElem_cons_zero,List.getElem_cons_succ]at h0 h3;rcases hc with e|e
               · omega
               · obtain rfl|rfl|rfl|rfl:j=0\/j=1\/j=2\/j=3:=by omega
                 · exact absurd e (qj h0)
                 · exact .inr b1
                 · exact .inr b2
                 · exact absurd e (qj h3)
             · split at h
               · simp only[Bool.and_eq_true]at h;obtain⟨_,hk,hb1⟩:=h;have hl:=tC _ l hk;simp at hl;have h0:=zY _ l hk 0 (by simp) (by omega);have h2:=zY _ l hk 2 (by simp) (by omega);obtain⟨_,b1⟩:=vD l 1 hb1;simp only[List.getElem_cons_zero,List.getElem_cons_succ]at h0 h2;rcases hc with e|e
                 · omega
                 · obtain rfl|rfl|rfl:j=0\/j=1\/j=2:=by omega
                   · exact absurd e (qj h0)
                   · exact .inr b1
                   · exact absurd e (qj h2)
               · split at h
                 · simp only[Bool.and_eq_true,beq_iff_eq]at h;obtain⟨_,hl,hb⟩:=h;obtain⟨_,b⟩:=vD l 0 hb;obtain rfl:j=0:=by omega
                   exact .inr b
                 · cases h
 · rw[bF,BP]at h;simp only[Bool.and_eq_true]at h;exact .inl (List.all_eq_true.1 h.2.2 _ (List.getElem_mem _))
theorem _0 {k n:Int} {s:ByteArray} {l:List Tree} (h:bq (.mk k n s l)=true\/bF (.mk k n s l)=true) (hc:k=52\/k=53\/k=54):0<l.length:=by
 rcases h with h|h
 · rw[bq]at h;rw[if_neg (by omega),if_neg (by omega),if_neg (by omega),if_neg (by omega),if_neg (by omega)]at h;split at h
   · simp only[Bool.and_eq_true]at h;have:=tC _ l h.2.1;simp at this;omega
   · rw[if_pos (by omega)]at h;simp only[Bool.and_eq_true]at h;have:=tC _ l h.2.1;simp at this;omega
 · rw[bF]at h;simp only[Bool.and_eq_true,beq_iff_eq]at h;omega
theorem aay (l:List Ins):dC (dC l)=l:=by
 unfold dC;rw[List.map_reverse,List.reverse_reverse,List.map_map]
 conv=>rhs;rw[← List.map_id l]
 exact List.map_congr_left λx _=>inv_inv x
theorem Dx {l:List Ins} (h:∀ x∈l,bT x):bL (ah l)=ah (dC l):=by
 simp only[bL,ah,List.reverse_nil,List.map_nil,aB.mk.injEq,and_true,dC];rw[← List.map_reverse];refine List.map_congr_left λx hx => ?_;have:=(h x (List.mem_reverse.1 hx)).m;exact rQ (by rw[show x.inv.op=dL x.op from rfl,qC];exact this)
theorem BV {a b c a' b' c':Ins} (ha:bT a) (hb:bT b) (hc:bT c) (h1:a.inv=a') (h2:b.inv=b') (h3:c.inv=c'):bL (ah [a,b,c])=ah [c',b',a']:=by
 rw[Dx (λx hx=>by
  simp only[List.mem_cons,List.not_mem_nil,or_false]at hx;rcases hx with rfl|rfl|rfl <;> assumption),← h1,← h2,← h3]
 rfl
theorem yI {f:ax} (hf:eP f) {e:Tree} (he:aN e=true) (hs:aI e<=80) (use:aB) (hr:use.refs=[]) (hu:Ok0 use) (hl:use.code.length<=20000):bL (aD f e use)=aD f e (bL use):=by
 have hc:=nk f e;have hA:=Dv hf he hs;have h1:∀ x∈bW f e ++ [(⟨13,4,0,0,0⟩:Ins)],bT x:=λx hx=>by
  rcases List.mem_append.1 hx with h|h
  · exact hA x h
  · rw[List.mem_singleton.1 h];exact gI _ _ _ (by decide) (by decide) (by decide)
 have h2:∀ x∈[(⟨12,4,0,0,0⟩:Ins)] ++ dC (bW f e),bT x:=λx hx=>by
  rcases List.mem_append.1 hx with h|h
  · rw[List.mem_singleton.1 h];exact gI _ _ _ (by decide) (by decide) (by decide)
  · exact Kq _ hA x h
 have hui:=hu.inv (by omega);have hl2:=(Rp use).1;rw[Ku hf he hs use hr (hu.none (by omega)),Ku hf he hs (bL use) (by simp[bL,hr]) (hui.none (by omega)),zZ _ (λp hp=>by
  simp only[List.mem_cons,List.not_mem_nil,or_false]at hp;rcases hp with rfl|rfl|rfl
  · exact wU _ h1
  · exact hu
  · exact wU _ h2) (by
  simp only[aO,ah,List.map_cons,List.map_nil,List.sum_cons,List.sum_nil,List.length_append,List.length_cons,List.length_nil,BO]
  omega)]
 simp only[List.reverse_cons,List.reverse_nil,List.nil_append,List.cons_append,List.map_cons,List.map_nil,Dx h1];rw[Dx (l:=⟨12,4,0,0,0⟩ :: dC (bW f e)) h2];have e1:dC (⟨12,4,0,0,0⟩ :: dC (bW f e))=bW f e ++ [⟨13,4,0,0,0⟩]:=by
  have:dC (⟨12,4,0,0,0⟩ :: dC (bW f e))=dC (dC (bW f e)) ++ [Ins.inv ⟨12,4,0,0,0⟩]:=by simp[dC]
  rw[this,aay];rfl
 have e2:dC (bW f e ++ [⟨13,4,0,0,0⟩])=⟨12,4,0,0,0⟩ :: dC (bW f e):=by
  have:dC (bW f e ++ [⟨13,4,0,0,0⟩])=Ins.inv ⟨13,4,0,0,0⟩ :: dC (bW f e):=by simp[dC]
  rw[this];rfl
 rw[e1,e2]
theorem Rq:bL fP=fP:=by
 rw[fP,Dx (λx hx=>by rw[List.mem_singleton.1 hx];exact Ri)];rfl
theorem QM {f:ax} (hf:eP f) {p:Tree} (hp:dJ p=true) (hs:aI p<=80) (list list':Ins->aB) (h:∀ i,bT i->i.inv=i->Ok0 (list i)/\(list i).refs=[]/\(list i).code.length<=20000/\bL (list i)=list' i):bL (vG f p list)=vG f p list':=by
 unfold vG;split
 · exact(h _ (vw hf _ _ _ (by decide)) rfl).2.2.2
 · rename_i h2;obtain⟨a,b,c,d⟩:=h _ (wM hf p 5 4 (by decide) (by decide) (by decide)) rfl;rw[yI hf (wL hp h2) (by have:=nV p 0;omega) _ b a c,d]
theorem _1 {f:ax} (hf:eP f) {p:Tree} (hp:dJ p=true) (hs:aI p<=80) (i:Ins) (hi:bT i):bL (moveC f p i)=moveC f p i.inv :=
 QM hf hp hs _ _ λc hc hci=>⟨su hc hi hc,rfl,by simp[ah],BV hc hi hc hci rfl hci⟩
theorem Kw {f:ax} (hf:eP f) {p e:Tree} (hp:dJ p=true) (he:aN e=true) (hs:aI p<=80) (hse:aI e<=80) (op:Int) (ho:op=1\/op=2\/op=3):bL (kU f p e op)=kU f p e (dL op):=by
 have ho':∀ r,0<=r/\r<16->r≠4->bT ⟨op,r,4,0,0⟩:=λr hr hne=>Ab op r 4 ho hr (by decide) hne;unfold kU;split
 · have hc:=vw hf p.name 1 5 (by decide);rw[yI hf he hse _ rfl (su hc (ho' 5 (by decide) (by decide)) hc) (by simp[ah]),BV hc (ho' 5 (by decide) (by decide)) hc rfl rfl rfl];rfl
 · rename_i h2;have hc:=wM hf p 6 5 (by decide) (by decide) (by decide);have hu:=su hc (ho' 6 (by decide) (by decide)) hc;have hW:=qF hf he hse _ rfl hu (by simp[ah]);have hWl:(aD f e (ah [bX f p 6 5,⟨op,6,4,0,0⟩,bX f p 6 5])).code.length<=5000:=by
    have:=nk f e;simp only[aD,ah,List.length_append,List.length_cons,List.length_nil,tq,BO];omega
   have hJ:∀ q∈[fP,aD f e (ah [bX f p 6 5,⟨op,6,4,0,0⟩,bX f p 6 5]),fP],Ok0 q:=λq hq=>by
    simp only[List.mem_cons,List.not_mem_nil,or_false]at hq;rcases hq with rfl|rfl|rfl
    · exact yM
    · exact hW
    · exact yM
   have hT:aO [fP,aD f e (ah [bX f p 6 5,⟨op,6,4,0,0⟩,bX f p 6 5]),fP]<=6000:=by
    simp only[aO,fP,ah,List.map_cons,List.map_nil,List.sum_cons,List.sum_nil,List.length_cons,List.length_nil]at hWl ⊢;omega
   rw[yI hf (wL hp h2) (by have:=nV p 0;omega) _ (Gd _ _ _ rfl rfl rfl) (rU _ hJ (by omega)) (by rw[(dI _).1];omega),zZ _ hJ (by omega)];simp only[List.reverse_cons,List.reverse_nil,List.nil_append,List.cons_append,List.map_cons,List.map_nil,Rq];rw[yI hf he hse _ rfl hu (by simp[ah]),BV hc (ho' 6 (by decide) (by decide)) hc rfl rfl rfl];rfl
theorem XA {f:ax} (hf:eP f) (p q:Tree):bL (dH f p q)=dH f p q:=by
 unfold dH;split
 · exact BV (wM hf p 6 5 (by decide) (by decide) (by decide)) (wM hf q 6 4 (by decide) (by decide) (by decide)) (wM hf p 6 5 (by decide) (by decide) (by decide)) rfl rfl rfl
 · have e:gy (ah [bX f p 6 5,bX f p 6 5,⟨9,7,5,4,16⟩,⟨24,7,0,0,0⟩,bX f p 6 5,bX f q 6 4,bX f p 6 5,⟨27,7,0,0,0⟩,⟨9,7,5,4,16⟩,bX f p 6 5,bX f p 6 5]) 3 7=⟨[bX f p 6 5,bX f p 6 5,⟨9,7,5,4,16⟩,⟨24,7,7,0,0⟩,bX f p 6 5,bX f q 6 4,bX f p 6 5,⟨27,7,3,0,0⟩,⟨9,7,5,4,16⟩,bX f p 6 5,bX f p 6 5],[]⟩:=rfl;have hi:∀ p r i,fJ (11:Nat) (bX f p r i)=bX f p r i:=λp r i=>rQ rfl;have hc:fJ (11:Nat) ⟨9,7,5,4,16⟩=⟨9,7,5,4,16⟩:=rQ rfl;have hJ:fJ (11:Nat) ⟨24,7,7,0,0⟩=⟨27,7,3,0,0⟩:=by simp[fJ,Ins.inv,dL,bH,fU,gz,Ins.target,Ins.bN,kZ,mi,wrap64]
   have hL:fJ (11:Nat) ⟨27,7,3,0,0⟩=⟨24,7,7,0,0⟩:=by simp[fJ,Ins.inv,dL,bH,fU,gz,Ins.target,Ins.bN,kZ,mi,wrap64]
   rw[e];unfold bL;simp only[List.length_cons,List.length_nil,Nat.zero_add,Nat.reduceAdd,List.reverse_cons,List.reverse_nil,List.nil_append,List.cons_append,List.map_cons,List.map_nil,hi,hc,hJ,hL]
theorem QN {f:ax} (hf:eP f) {p q:Tree} (hq:dJ q=true) (hs:aI q<=80):bL (rV f p q)=rV f p q:=by
 unfold rV;split
 · rfl
 · have hc:=vw hf p.name 1 5 (by decide);exact QM hf hq hs _ _ λc h hi=>⟨su hc h hc,rfl,by simp[ah],BV hc h hc rfl hi rfl⟩
theorem _2 {f:ax} (hf:eP f) {p q:Tree} (hp:dJ p=true) (hq:dJ q=true) (hsp:aI p<=80) (CX:aI q<=80):bL (jB f p q)=jB f p q:=by
 unfold jB;split
 · rename_i h3;have hce:=nk f (q.kid 0);have hkl:=nV q 0;have hxl:=Dq f p q;have hin:=qF hf (wL hq (by omega)) (Nat.le_trans (nV q 0) CX) _ hxl.2 (Kv hf p q) (by omega);have hil:=kT f (q.kid 0) (dH f p q);have hJ:∀ r∈[fP,aD f (q.kid 0) (dH f p q),fP],Ok0 r:=λr hr=>by
    simp only[List.mem_cons,List.not_mem_nil,or_false]at hr;rcases hr with rfl|rfl|rfl
    · exact yM
    · exact hin
    · exact yM
   have hT:aO [fP,aD f (q.kid 0) (dH f p q),fP]<=6000:=by
    simp only[aO,fP,ah,List.map_cons,List.map_nil,List.sum_cons,List.sum_nil,List.length_cons,List.length_nil,hil.1];omega
   rw[yI hf (wL hp (by omega)) (Nat.le_trans (nV p 0) hsp) _ (Gd _ _ _ rfl (List.eq_nil_of_length_eq_zero hil.2) rfl) (rU _ hJ (by omega)) (by rw[(dI _).1];omega),zZ _ hJ (by omega)];simp only[List.reverse_cons,List.reverse_nil,List.nil_append,List.cons_append,List.map_cons,List.map_nil,Rq];rw[yI hf (wL hq (by omega)) (Nat.le_trans (nV q 0) CX) _ hxl.2 (Kv hf p q) (by omega),XA hf]
 · split
   · exact QN hf hp hsp
   · exact QN hf hq CX
theorem QO {a b c d:Ins} (ha:bT a) (hb:bT b) (hc:bT c) (hd:bT d):bL (ah [a,b,c,d])=ah [d.inv,c.inv,b.inv,a.inv]:=by
 rw[Dx (λx hx=>by
  simp only[List.mem_cons,List.not_mem_nil,or_false]at hx;rcases hx with rfl|rfl|rfl|rfl <;> assumption)]
 rfl
theorem ZL {f:ax} (hf:eP f) (name:ByteArray) {e1 e2:Tree} (h1:aN e1=true) (h2:aN e2=true) (hs1:aI e1<=80) (hs2:aI e2<=80) {s:aB} (hs:Ok0 s) (hl:(lJ f name e1 s e2).code.length<=65536):bL (lJ f name e1 s e2)=lJ f name e2 (bL s) e1:=by
 have hc:=vw hf name 1 5 (by decide);unfold lJ at hl ⊢;rw[(dI _).1]at hl;rw[zZ _ (λp hp=>by
  simp only[List.mem_cons,List.not_mem_nil,or_false]at hp;rcases hp with rfl|rfl|rfl
  · exact qF hf h1 hs1 _ rfl (Cm hc tO yO hc) (by simp[ah])
  · exact hs
  · exact qF hf h2 hs2 _ rfl (Cm hc yO tO hc) (by simp[ah])) hl]
 simp only[List.reverse_cons,List.reverse_nil,List.nil_append,List.cons_append,List.map_cons,List.map_nil];rw[yI hf h1 hs1 _ rfl (Cm hc tO yO hc) (by simp[ah]),yI hf h2 hs2 _ rfl (Cm hc yO tO hc) (by simp[ah]),QO hc tO yO hc,QO hc yO tO hc];rfl
theorem Xe {f:ax} (hf:eP f) (name:ByteArray) {s:aB} (hs:Ok0 s) (hl:(lG f name s).code.length<=65536):bL (lG f name s)=lG f name (bL s):=by
 have hc:bT ⟨15,5,aj f name 3,0,0⟩:=gI 15 5 _ (by decide) (by decide) (by have:=hf.a name 3;omega);have he:Ok0 (Ac f name):=su hc tO hc;have hi:bL (Ac f name)=Ac f name:=BV hc tO hc rfl rfl rfl;unfold lG at hl ⊢;rw[(dI _).1]at hl;rw[zZ _ (λp hp=>by
  simp only[List.mem_cons,List.not_mem_nil,or_false]at hp;rcases hp with rfl|rfl|rfl
  · exact he
  · exact hs
  · exact he) hl]
 simp only[List.reverse_cons,List.reverse_nil,List.nil_append,List.cons_append,List.map_cons,List.map_nil,hi]
theorem DK {t:Tree} (h:t.kind≠57):invK (false=true) t=t:=by simp[invK,h]
theorem Ia {t:Tree} (h:t.kind=57):invK (false=true) t=bY t:=by simp[invK,h]
theorem tF {t:Tree} (h:bF t=true):t.kind=57:=by
 obtain⟨k,n,s,l⟩:=t;rw[bF,Bool.and_eq_true]at h
 simpa[Tree.kind]using h.1
theorem Gu {k n:Int} {s:ByteArray} {l:List Tree} (h1:k≠57) (h2:¬ (k=52\/k=53\/k=54)) (h:∀ t∈l,t.kind≠57):bY (.mk k n s l) = .mk (lY k) n s l:=by
 rw[bY,if_neg h1,if_neg h2,yH];congr 1
 conv=>rhs;rw[← List.map_id l]
 exact List.map_congr_left λt ht=>DK (h t ht)
theorem Nc {α:Type} {l:List α} (h:l.length=2):∃ a b,l=[a,b]:=by
 match l,h with
 | [a,b],_=>exact⟨a,b,rfl⟩
theorem Ud {α:Type} {l:List α} (h:l.length=3):∃ a b c,l=[a,b,c]:=by
 match l,h with
 | [a,b,c],_=>exact⟨a,b,c,rfl⟩
theorem Ip {p q:Tree->Bool} {l:List Tree} (h:bI [p,q] l=true):∃ a b,l=[a,b]/\p a=true/\q b=true:=by
 have hl:=tC _ _ h;obtain⟨a,b,rfl⟩:=Nc hl;simp only[bI,Bool.and_eq_true]at h;exact⟨a,b,rfl,h.1,h.2.1⟩
theorem L9 {p:Tree->Bool} {l:List Tree} (h:bI [p] l=true):∃ a,l=[a]/\p a=true:=by
 have hl:=tC _ _ h;obtain⟨a,rfl⟩:=List.length_eq_one_iff.1 hl;simp only[bI,Bool.and_eq_true]at h;exact⟨a,rfl,h.1⟩
theorem Xm {f:ax} (hf:eP f) (procs:List bQ) (hp:uS procs) (k n:Int) (s:ByteArray) (l:List Tree) (hb:bq (.mk k n s l)=true) (hs:aI (.mk k n s l)<=80) (AL:sw k=true) (pM:k≠56)
 (ih:∀ t∈l,bF t=true->Ok0 (aQ f procs t)/\bL (aQ f procs t)=aQ f procs (bY t)):bL (dX f procs (.mk k n s l))=dX f procs (bY (.mk k n s l)):=by
 have gD:(dX f procs (.mk k n s l)).code.length<=65536:=by
  have:=(K8 f procs hp.ok (.mk k n s l)).1;omega
 have hsz:cu l<=79:=by rw[aI]at hs;omega
 have hmem:∀ t∈l,aI t<=80:=λt ht=>by
  obtain⟨i,hi,rfl⟩:=List.mem_iff_getElem.1 ht;have:=vg l i hi;omega
 simp only[sw,Bool.not_eq_true',Bool.or_eq_false_iff,beq_eq_false_iff_ne]at AL;obtain⟨s1,s2,s3,s4⟩:=AL;have hat:=λk=>hf.a s k;rw[bq]at hb;split at hb
 · rename_i hk;rw[Bool.and_eq_true]at hb;obtain⟨a,b,rfl,ha,hbb⟩:=Ip hb.2;have hsa:=hmem a (by simp);have hsb:=hmem b (by simp);rw[Gu (by omega) (by omega) (λt ht=>by
    simp only[List.mem_cons,List.not_mem_nil,or_false]at ht;rcases ht with rfl|rfl
    · exact qh ha
    · exact qj hbb),eD,eD]
   rcases hk with rfl|rfl|rfl|rfl
   · exact Kw hf ha hbb hsa hsb 1 (by decide)
   · exact Kw hf ha hbb hsa hsb 2 (by decide)
   · exact Kw hf ha hbb hsa hsb 3 (by decide)
   · exact absurd rfl pM
 · split at hb
   · rename_i hk;rw[Bool.and_eq_true]at hb;obtain⟨a,b,rfl,ha,hbb⟩:=Ip hb.2;have hsa:=hmem a (by simp);have hsb:=hmem b (by simp);rw[Gu (by omega) (by omega) (λt ht=>by
      simp only[List.mem_cons,List.not_mem_nil,or_false]at ht;rcases ht with rfl|rfl
      · exact qh ha
      · exact qh hbb),eD,eD]
     subst hk;exact _2 hf ha hbb hsa hsb
   · have hmv:bI [dJ] l=true->k≠57->¬ (k=52\/k=53\/k=54)->∀ i,bT i->bY (.mk k n s l) = .mk (lY k) n s l/\bL (moveC f (l.getD 0 dx) i)=moveC f (l.getD 0 dx) i.inv:=λh h1 h2 i hi=>by
      obtain⟨a,rfl,ha⟩:=L9 h;exact⟨Gu h1 h2 (λt ht=>by rw[List.mem_singleton.1 ht];exact qh ha),_1 hf ha (hmem a (by simp)) i hi⟩
     split at hb
     · rename_i hk;rw[Bool.and_eq_true]at hb;rcases hk with rfl|rfl
       · obtain⟨e1,e2⟩:=hmv hb.2 (by decide) (by decide) ⟨12,5,aj f s 3,0,0⟩ (gI 12 5 _ (by decide) (by decide) (by have:=hat 3;omega));rw[e1,eD,eD];exact e2
       · obtain⟨e1,e2⟩:=hmv hb.2 (by decide) (by decide) ⟨13,5,aj f s 3,0,0⟩ (gI 13 5 _ (by decide) (by decide) (by have:=hat 3;omega));rw[e1,eD,eD];exact e2
     · split at hb
       · rename_i hk;rw[Bool.and_eq_true]at hb;rcases hk with rfl|rfl|rfl|rfl
         · obtain⟨e1,e2⟩:=hmv hb.2 (by decide) (by decide) ⟨17,5,0,0,0⟩ (wP 17 5 (by decide) (by decide));rw[e1,eD,eD];exact e2
         · obtain⟨e1,e2⟩:=hmv hb.2 (by decide) (by decide) ⟨18,5,0,0,0⟩ (wP 18 5 (by decide) (by decide));rw[e1,eD,eD];exact e2
         · obtain⟨e1,e2⟩:=hmv hb.2 (by decide) (by decide) ⟨19,5,0,0,0⟩ (wP 19 5 (by decide) (by decide));rw[e1,eD,eD];exact e2
         · obtain⟨e1,e2⟩:=hmv hb.2 (by decide) (by decide) ⟨20,5,0,0,0⟩ (wP 20 5 (by decide) (by decide));rw[e1,eD,eD];exact e2
       · rw[if_neg (by omega),if_neg (by omega)]at hb;split at hb
         · rename_i hk;subst hk;simp only[Bool.and_eq_true]at hb;obtain⟨-,hk3,hbl⟩:=hb;have hl3:=tC _ _ hk3;obtain⟨a,b,c,rfl⟩:=Ud hl3;simp only[bI,Bool.and_eq_true]at hk3;have hbb:bF b=true:=by simpa[jC]using hbl
           obtain⟨o1,o2⟩:=ih b (by simp) hbb;have hT:bY (.mk 54 n s [a,b,c]) = .mk 54 n s [c,bY b,a]:=by
            rw[bY,if_neg (by decide),if_pos (by decide),yH];simp only[List.map_cons,List.map_nil,DK (qj hk3.1),DK (qj hk3.2.2.1),Ia (tF hbb)];rfl
           rw[eD]at gD;rw[hT,eD,eD];have hd:(eY f procs [a,b,c]).getD 1 cB=aQ f procs b:=by simp[eY]
           have hd':(eY f procs [c,bY b,a]).getD 1 cB=aQ f procs (bY b):=by simp[eY]
           have OW:(lJ f s a (aQ f procs b) c).code.length<=65536:=by rw[← hd];exact gD
           show bL (lJ f s a ((eY f procs [a,b,c]).getD 1 cB) c)=lJ f s c ((eY f procs [c,bY b,a]).getD 1 cB) a
           rw[hd,hd',ZL hf s hk3.1 hk3.2.2.1 (hmem a (by simp)) (hmem c (by simp)) o1 OW,o2]
         · split at hb
           · rename_i hk;subst hk;simp only[Bool.and_eq_true,beq_iff_eq]at hb;obtain⟨-,hl1,hbl⟩:=hb;obtain⟨b,rfl⟩:=List.length_eq_one_iff.1 hl1;have hbb:bF b=true:=by simpa[jC]using hbl
             obtain⟨o1,o2⟩:=ih b (by simp) hbb;have hT:bY (.mk 55 n s [b]) = .mk 55 n s [bY b]:=by
              rw[bY,if_neg (by decide),if_neg (by decide),yH];simp only[List.map_cons,List.map_nil,Ia (tF hbb)];rfl
             rw[eD]at gD;rw[hT,eD,eD];have hd:(eY f procs [b]).getD 0 cB=aQ f procs b:=by simp[eY]
             have hd':(eY f procs [bY b]).getD 0 cB=aQ f procs (bY b):=by simp[eY]
             have OW:(lG f s (aQ f procs b)).code.length<=65536:=by rw[← hd];exact gD
             show bL (lG f s ((eY f procs [b]).getD 0 cB))=lG f s ((eY f procs [bY b]).getD 0 cB)
             rw[hd,hd',Xe hf s o1 OW,o2]
           · cases hb
mutual
def yP:Tree->Bool
 |.mk k _ _ l=>k != 56 && Dy l
def Dy:List Tree->Bool
 | []=>true
 |t :: l=>(t.kind != 57 || Ci t) && Dy l
def Ci:Tree->Bool
 |.mk _ _ _ l=>DL l
def DL:List Tree->Bool
 | []=>true
 |t :: l=>yP t && DL l
end
theorem Qj (l:List Tree):DL l=l.all yP:=by
 induction l with
 |nil=>rw[DL];rfl
 |cons t l ih=>rw[DL,ih];rfl
theorem Gi (l:List Tree):Dy l=l.all λt=>t.kind != 57 || Ci t:=by
 induction l with
 |nil=>rw[Dy];rfl
 |cons t l ih=>rw[Dy,ih];rfl
theorem aaz {f:ax} (hf:eP f) (procs:List bQ) (hp:uS procs):∀ (m:Nat),
 (∀ t:Tree,aI t<=m->bq t=true->aI t<=80->iR t=true->yP t=true->bL (dX f procs t)=dX f procs (bY t)) /\
 (∀ t:Tree,aI t<=m->bF t=true->aI t<=80->iR t=true->Ci t=true->bL (aQ f procs t)=aQ f procs (bY t)):=by
 intro m
 induction m with
 |zero =>
  refine⟨λt h => ?_,λt h => ?_⟩ <;> (obtain⟨k,n,s,l⟩:=t;rw[aI]at h;omega)
 |succ m ih =>
  refine⟨λt h hst hs hsi hno => ?_,λt h hb hs hsi hno => ?_⟩
  · obtain⟨k,n,s,l⟩:=t;rw[iR,Bool.and_eq_true,Dt]at hsi;rw[yP,Bool.and_eq_true,Gi]at hno;have hsz:cu l+1=aI (.mk k n s l):=by rw[aI];omega
    refine Xm hf procs hp k n s l hst hs hsi.1 (by simpa using hno.1) λt ht hb => ?_;obtain⟨i,hi,rfl⟩:=List.mem_iff_getElem.1 ht;have:=vg l i hi;refine⟨Lr hf procs hp _ hb (by omega),ih.2 _ (by omega) hb (by omega) (List.all_eq_true.1 hsi.2 _ ht) ?_⟩;have:=List.all_eq_true.1 hno.2 _ ht;rw[tF hb]at this
    simpa using this
  · obtain⟨k,n,s,l⟩:=t;rw[iR,Bool.and_eq_true,Dt]at hsi;rw[Ci,Qj]at hno;have hsz:cu l+1=aI (.mk k n s l):=by rw[aI];omega
    have hk:k=57:=by have:=tF hb;simpa[Tree.kind]using this
    have hlen:=(GM f procs hp.ok (.mk k n s l)).1;rw[bF,Bool.and_eq_true,Bool.and_eq_true]at hb;have hok:=Ls hf procs hp l hb.2.2 (by omega);have hal:=hb.2.2;rw[BP]at hal;rw[aQ]at hlen ⊢;rw[(dI _).1]at hlen;subst hk;rw[zZ _ hok (by omega),bY,if_pos rfl,aQ,GA,GA,yH,← List.map_reverse,List.map_map,← List.map_reverse,List.map_map];congr 1;refine List.map_congr_left λt ht => ?_;have ht:=List.mem_reverse.1 ht;obtain⟨i,hi,rfl⟩:=List.mem_iff_getElem.1 ht;have:=vg l i hi;simp only[Function.comp];rw[ih.1 _ (by omega) (List.all_eq_true.1 hal _ ht) (by omega) (List.all_eq_true.1 hsi.2 _ ht) (List.all_eq_true.1 hno _ ht)];simp[invK]
end Go.Proofs.YtnobahchcongnaaGreatDoor
