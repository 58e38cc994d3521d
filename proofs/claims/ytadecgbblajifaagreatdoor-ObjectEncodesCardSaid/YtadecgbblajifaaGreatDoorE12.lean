import Derived.Test.YtadecgbblajifaaGreatDoorE11
set_option linter.unusedSimpArgs false
set_option linter.unusedVariables false
set_option maxRecDepth 100000
set_option maxHeartbeats 25600000
namespace Go.Proofs.YtadecgbblajifaaGreatDoor
end Go.Proofs.YtadecgbblajifaaGreatDoor
namespace Go.Proofs.YtadecgbblajifaaGreatDoor.DV
open Go
noncomputable section
def nY (f:D->Option D):List D->Option (List D)
 | []=>some []
 |d :: ds=>match f d with
  |some e=>match nY f ds with
   |some es=>some (e :: es)
   |none=>none
  |none=>none
def oM (f:D->D):Option D->Option D
 |some d=>some (f d)
 |none=>none
def oL (f:List D->D):Option (List D)->Option D
 |some d=>some (f d)
 |none=>none
def KU (σ:au) (ih:D->Option D):D->Option D
 |.lf v=>some (.lf v)
 |.st s ds=>oL (.st s) (nY ih ds)
 |.ar s ds=>oL (.ar s) (nY ih ds)
 |.sl t s ds=>oL (.sl t s) (nY ih ds)
 |.fp d=>oM .fp (ih d)
 |.ref i p=>match σ i with
  |some c=>match fU c with
   |true=>none
   |false=>match wT c p with
    |some e=>oM .fp (ih e)
    |none=>none
  |none=>none
 |.own t i off n=>match n with
  |0=>match t with
   |true=>some .e0
   |false=>none
  |n+1=>match σ i with
   |some (.ar s ds)=>match Nat.ble (off+(n+1)) ds.length with
    |true=>oL (.sl t s) (nY ih ((ds.drop off).take (n+1)))
    |false=>none
   |_=>none
 |.e0=>some .e0
 |.tu ds=>oL .tu (nY ih ds)
 |.gZ t d=>oM (.gZ t) (ih d)
 |_=>none
def Cg (σ:au) (n:Nat):D->Option D:=Nat.rec (λ_=>none) (λ_ ih d=>KU σ ih d) n
section
variable {g h:G} {f:D->Option D} (hf:∀ d d',f d=some d'->∀ m cs,CR g m d cs->CR h m d' cs)
include hf
theorem vH:∀ (ds ds':List D),nY f ds=some ds'->ds'.length=ds.length/\(∀ ss cs,aj g ss ds cs->aj h ss ds' cs)/\∀ vs,aC g ds vs->aC h ds' vs
 | [],ds',e=>by
  simp only[nY,Option.some.injEq]at e
  subst e
  refine⟨rfl,λss cs H => ?_,λvs H=>by simpa only[aC]using H⟩
  cases ss <;> simp only[aj]at H ⊢ <;> exact H
 |d :: ds,ds',e=>by
  simp only[nY]at e
  split at e
  case h_2=>simp at e
  rename_i e1 he1
  split at e
  case h_2=>simp at e
  rename_i es hes
  simp only[Option.some.injEq]at e
  subst e
  obtain⟨h1,h2,h3⟩:=vH ds es hes
  refine⟨by simp[h1],λss cs H => ?_,λvs H => ?_⟩
  · cases ss with
    |nil=>simp only[aj]at H
    |cons s ss =>
     simp only[aj]at H ⊢
     exact⟨H.1,hf _ _ he1 _ _ H.2.1,h2 _ _ H.2.2⟩
  · simp only[aC]at H ⊢
    obtain⟨v,vs',ha,hb,hc⟩:=H
    exact⟨v,vs',ha,hf _ _ he1 _ _ hb,h3 _ hc⟩
end
theorem Ar {f:List D->D} {o:Option (List D)} {d:D} (h:oL f o=some d):∃ l,o=some l/\d=f l:=by
 cases o <;> simp[oL]at h
 exact⟨_,rfl,h.symm⟩
theorem Je {f:D->D} {o:Option D} {d:D} (h:oM f o=some d):∃ l,o=some l/\d=f l:=by
 cases o <;> simp[oM]at h
 exact⟨_,rfl,h.symm⟩
theorem aad {g h:G} {σ:au} {w:World} (R:∀ i c,σ i=some c->fU c=false->∃ l blk,Has g w i c l blk) (hfm:∀ b c,g.fm b=some c->h.fm b=some c) (gm:∀ i d l blk,σ i=some d->Has g w i d l blk->h.fm l.b=some blk) {f:D->Option D} (hf:∀ d d',f d=some d'->∀ m cs,CR g m d cs->CR h m d' cs)
 (d d':D) (e:KU σ f d=some d') (m:Bool) (cs:List Value) (H:CR g m d cs):CR h m d' cs:=by
 unfold KU at e
 split at e
 · simp only[Option.some.injEq]at e
   subst e
   simpa only[CR]using H
 · obtain⟨l,e1,rfl⟩:=Ar e
   obtain⟨h1,h2,h3⟩:=vH hf _ _ e1
   simp only[CR]at H ⊢
   obtain⟨c,a,b⟩:=H
   exact⟨c,a,h2 _ _ b⟩
 · obtain⟨l,e1,rfl⟩:=Ar e
   obtain⟨h1,h2,h3⟩:=vH hf _ _ e1
   simp only[CR,h1]at H ⊢
   obtain⟨c,a,b⟩:=H
   exact⟨c,a,h2 _ _ b⟩
 · obtain⟨l,e1,rfl⟩:=Ar e
   obtain⟨h1,h2,h3⟩:=vH hf _ _ e1
   simp only[CR,h1]at H ⊢
   obtain⟨a,c,a1,a2,a4⟩:=H
   refine⟨a,c,a1,a2,?_⟩
   rcases a4 with rfl|⟨b,o,blk,a4,a5,a6,a7⟩
   · exact .inl (List.length_eq_zero_iff.1 h1)
   · exact .inr ⟨b,o,blk,a4,hfm _ _ a5,a6,h2 _ _ a7⟩
 · obtain⟨l,e1,rfl⟩:=Je e
   simp only[CR]at H ⊢
   obtain⟨b,o,blk,k,a1,a2,a3,a4⟩:=H
   exact⟨b,o,blk,k,a1,hfm _ _ a2,a3,hf _ _ e1 _ _ a4⟩
 · rename_i i p
   split at e
   case h_2=>simp at e
   rename_i c hc
   split at e
   case h_1=>simp at e
   rename_i hmo
   split at e
   case h_2=>simp at e
   rename_i ee he
   obtain⟨l,e1,rfl⟩:=Je e
   simp only[CR]at H ⊢
   obtain⟨lo,hlo,rfl⟩:=H
   obtain⟨lo',blk,H⟩:=R _ _ hc hmo
   have:lo'=lo:=by have:=H.ae;rw[hlo]at this;simpa using this.symm
   subst this
   have hn:=Ee p c ee _ H.cr he
   have hs:(bu blk lo'.o (sz c)).length=sz c:=(CR.len _ _ H.cr).1
   rw[hs]at hn
   have hL:=H.len
   have hS:=H.sz
   have e2:List.take (sz ee) (List.drop (dI p) (bu blk lo'.o (sz c)))=bu blk (lo'.o+dI p) (sz ee):=by
    simp only[bu,List.drop_take,List.drop_drop,List.take_take]
    congr 1;omega
   rw[e2]at hn
   exact⟨lo'.b,lo'.o+dI p,blk,sz ee,rfl,gm _ _ _ _ hc H,by omega,hf _ _ e1 _ _ hn.1⟩
 · rename_i t i off n
   split at e
   · split at e
     case h_2=>simp at e
     simp only[Option.some.injEq]at e
     subst e
     simp only[CR]at H ⊢
     obtain⟨l,a,c,h1,rfl,h2,h3⟩:=H
     have:=h2.2 trivial
     subst this
     exact⟨a,rfl⟩
   · rename_i n
     split at e
     case h_2=>simp at e
     rename_i s ds hc
     split at e
     case h_2=>simp at e
     rename_i hb
     have hb:=Nat.le_of_ble_eq_true hb
     obtain⟨l,e1,rfl⟩:=Ar e
     obtain⟨h1,h2,h3⟩:=vH hf _ _ e1
     have hlen:((ds.drop off).take (n+1)).length=n+1:=by simp;omega
     rw[hlen]at h1
     obtain⟨lo',blk,H'⟩:=R _ _ hc rfl
     simp only[CR]at H
     obtain⟨lo,a,c,hlo,rfl,⟨hn1,hn2⟩,zu⟩:=H
     have:lo'=lo:=by have:=H'.ae;rw[hlo]at this;simpa using this.symm
     subst this
     rcases zu with h0|⟨rfl,hn4⟩
     · omega
     have hs:lo'.s=s:=H'.s
     have hL:=H'.len
     have hS:=H'.sz
     simp only[DV.sz]at hS
     have hcr:=H'.cr
     simp only[CR,wrap,Bool.false_eq_true,if_false,DV.sz]at hcr
     obtain⟨_,rfl,hcr⟩:=hcr
     have h5:=xO (n+1) _ _ (xN off _ _ hcr)
     rw[hlen]at h5
     have hm:off * s+(n+1) * s<=ds.length * s:=by rw[← Nat.add_mul];exact Nat.mul_le_mul_right s hb
     have e2:List.take ((n+1) * s) (List.drop (off * s) (bu blk lo'.o (ds.length * s)))=(blk.drop (lo'.o+off * s)).take ((n+1) * s):=by
      simp only[bu,List.drop_take,List.drop_drop,List.take_take]
      congr 1;omega
     rw[e2]at h5
     have h6:=h2 _ _ h5
     simp only[CR,h1]
     exact⟨_,c,rfl,⟨hn1,hn2⟩,.inr ⟨lo'.b,lo'.o+off * lo'.s,blk,rfl,gm _ _ _ _ hc H',by rw[hs];omega,by rw[hs];exact h6⟩⟩
 · simp only[Option.some.injEq]at e
   subst e
   simpa only[CR]using H
 · obtain⟨l,e1,rfl⟩:=Ar e
   obtain⟨h1,h2,h3⟩:=vH hf _ _ e1
   simp only[CR]at H ⊢
   obtain⟨h0,v,a,b⟩:=H
   exact⟨h0,v,a,h3 _ b⟩
 · obtain⟨l,e1,rfl⟩:=Je e
   simp only[CR]at H ⊢
   obtain⟨v,a1,a2⟩:=H
   exact⟨v,a1,hf _ _ e1 _ _ a2⟩
 · simp at e
theorem JB {g h:G} {σ:au} {w:World} (R:∀ i c,σ i=some c->fU c=false->∃ l blk,Has g w i c l blk) (hfm:∀ b c,g.fm b=some c->h.fm b=some c) (gm:∀ i d l blk,σ i=some d->Has g w i d l blk->h.fm l.b=some blk):∀ n d d',Cg σ n d=some d'->∀ m cs,CR g m d cs->CR h m d' cs
 |0,d,d',e,m,cs,H=>by simp[Cg]at e
 |n+1,d,d',e,m,cs,H=>aad R hfm gm (JB R hfm gm n) d d' e m cs H
def Fz (ds:List D):Prop:=∀ (g h:G) vs,(∀ b c,g.fm b=some c->h.fm b=some c)->aC g ds vs->aC h ds vs
theorem Rel.nil {g:G} {w:World} (h:∀ b c,g.fm b=some c->mem w b=some c):Rel g (λ_=>none) w:=⟨h,λ_ _ h=>by simp at h,λ_ _ _ _ h=>by simp at h⟩
theorem Fz.JC {n:Nat} {ds:List D} (h:nY (Cg (λ_=>none) n) ds=some ds):Fz ds:=λg k vs hfm H =>
 (vH (g:=g) (h:=k) (λd d' e m cs H=>JB (w:=default) (λ_ _ h=>by simp at h) hfm (λ_ _ _ _ h=>by simp at h) n d d' e m cs H) _ _ h).2.2 _ H
end
end Go.Proofs.YtadecgbblajifaaGreatDoor.DV
namespace Go.Proofs.YtadecgbblajifaaGreatDoor
end Go.Proofs.YtadecgbblajifaaGreatDoor
namespace Go.Proofs.YtadecgbblajifaaGreatDoor.DV
open Go
noncomputable section
variable {P:Program} {C:Cx}
def Fa (n:Nat):R->Option D
 |some (.val d,s)=>Cg (aA s.s) n d
 |_=>none
abbrev S0:S:=⟨.e,.e,0,0,[],[],false⟩
theorem aae (hC:jH P C) {dr:(eH->S->R)->Array Oper->S->R} (hD:E5 P C dr) {n k f:Nat} {args:List D} {d:D} (h:Fa k (ev C dr n (.call f args) S0)=some d) (ha:Fz args) (hg:∀ i,Fz [C.gl i]):Pure P C.gl f args d:=by
 intro g σ w args' R hgl hargs
 cases hx:ev C dr n (.call f args) S0 with
 |none=>rw[hx]at h;simp[Fa]at h
 |some q =>
  obtain⟨ex,s'⟩:=q
  rw[hx]at h
  obtain⟨d1,rfl,hc⟩:=(ab6 hC hD n).2.2 f args _ ex s' hx
  simp only[Fa]at h
  have tT:∀ b c,g.fm b=some c->mem w b=some c:=R.fm
  have h0:aA (Tr.e:Tr D)=λ_=>none:=by funext i;rfl
  have hV:∀ i,VR ⟨g.fm,λ_=>none⟩ (C.gl i) (.pointer (some ⟨i,0,none⟩)):=λi=>by
   have:=hg i g ⟨g.fm,λ_=>none⟩ [_] (λ_ _ h=>h) (by simpa[aC,VR]using hgl i)
   simpa[aC,VR]using this
  refine(hc ⟨g.fm,λ_=>none⟩ w args' (by rw[h0];exact Rel.nil tT) (λ_ _=>rfl) hV (ha g _ _ (λ_ _ h=>h) hargs)).mono ?_
  rintro v w' ⟨g1,R1,E1,V1,-,-⟩
  rw[h0]at E1
  have lQ:∀ b,Mine ⟨g.fm,λ_=>none⟩ (λ_=>none) w b↔w.heap.size<=b:=by
   intro b
   constructor
   · rintro(h|⟨i,l,h,_⟩)
     · exact h
     · simp at h
   · exact .inl
  have hold:∀ b,b<w.heap.size->w'.heap[b]? = w.heap[b]? := λb hb=>E1.fr b (by rw[lQ];omega)
  have vS:∀ b,b<w.heap.size->mem w' b=mem w b:=λb hb=>by unfold mem;rw[hold b hb]
  generalize hk:(⟨λb=>if b<w.heap.size then g.fm b else mem w' b,g.ae⟩:G)=k0
  have bW:∀ b,k0.fm b=if b<w.heap.size then g.fm b else mem w' b:=λb=>by rw[← hk]
  have hkr:∀ i,k0.ae i=g.ae i:=λi=>by rw[← hk]
  have hle:Le g k0:=⟨λb c hb=>by
   rw[bW,if_pos (sG (tT b c hb))];exact hb,λi l hi=>by rw[hkr];exact hi⟩
  refine⟨k0,⟨λb c hb => ?_,λi d hi => ?_,λi j l m hi hj hl hm hb => ?_⟩,⟨hle,E1.hp,λb hb=>hold b ?_,λb hb => ?_,λi l hi => .inl (by rw[hkr]at hi;exact hi),λi hi => .inl hi,E1.sm⟩,?_⟩
  · rw[bW]at hb
    split at hb
    · rename_i hlt
      rw[vS b hlt]
      exact tT b c hb
    · exact hb
  · obtain⟨l,hl⟩:=R.ob i d hi
    exact⟨l,hl.keep hle (by rw[bW,if_pos hl.lt];exact hl.fm) (hold _ hl.lt)⟩
  · rw[hkr]at hl hm
    exact R.dj i j l m hi hj hl hm hb
  · rcases Nat.lt_or_ge b w.heap.size with h|h
    · exact h
    · exact absurd (.inl h) hb
  · rw[bW]at hb
    split at hb
    · exact .inl hb
    · rename_i hlt
      exact .inr (.inl (by omega))
  · refine JB (g:=g1) (h:=k0) (σ:=aA s'.s) (w:=w') (λi c hc hm=>R1.has hc hm) (λb c hb => ?_) (λi d0 l blk hi H => ?_) k d1 d h true [v] V1
    · rw[bW]
      have h1:=R1.fm b c hb
      split
      · rename_i hlt
        rcases E1.jv b (by rw[hb];simp)with h2|h2
        · cases hq:g.fm b with
          |none=>exact absurd hq h2
          |some c0 =>
           have:=tT b c0 hq
           rw[← vS b hlt,h1]at this
           exact this.symm
        · rw[lQ]at h2;omega
      · exact h1
    · rw[bW]
      rcases E1.rn i l H.ae with h2|h2
      · simp at h2
      · have h3:=(lQ _).1 h2.1
        rw[if_neg (by omega)]
        exact H.row.mem
def F8:List UInt8->List UInt8->Bool
 | [],[]=>true
 |a :: l,b :: m=>match Nat.beq a.toNat b.toNat with
  |true=>F8 l m
  |false=>false
 |_,_=>false
theorem Q4:∀ {l m:List UInt8},F8 l m=true->l=m
 | [],[],_=>rfl
 |a :: l,b :: m,h=>by
  simp only[F8]at h
  split at h
  · rename_i h1
    rw[Q4 h,UInt8.toNat_inj.1 (Nat.eq_of_beq_eq_true h1)]
  · simp at h
def vB:Value->Value->Bool
 |.bool a,.bool b=>a == b
 |.int j (.ofNat a),.int k (.ofNat b)=>(j == k) && Nat.beq a b
 |.int j (.negSucc a),.int k (.negSucc b)=>(j == k) && Nat.beq a b
 |.string ⟨⟨a⟩⟩,.string ⟨⟨b⟩⟩=>F8 a b
 |.slice none a b,.slice none c d=>Nat.beq a c && Nat.beq b d
 |.pointer none,.pointer none=>true
 |_,_=>false
theorem ab9 {a b:Value} (h:vB a b=true):a=b:=by
 unfold vB at h
 split at h
 · simpa using h
 · simp only[Bool.and_eq_true,beq_iff_eq]at h;rw[h.1,Nat.eq_of_beq_eq_true h.2]
 · simp only[Bool.and_eq_true,beq_iff_eq]at h;rw[h.1,Nat.eq_of_beq_eq_true h.2]
 · rw[Q4 h]
 · simp only[Bool.and_eq_true]at h;rw[Nat.eq_of_beq_eq_true h.1,Nat.eq_of_beq_eq_true h.2]
 · rfl
 · simp at h
def F9:List Nat->List Nat->Bool
 | [],[]=>true
 |a :: l,b :: m=>match Nat.beq a b with
  |true=>F9 l m
  |false=>false
 |_,_=>false
theorem Q5:∀ {l m:List Nat},F9 l m=true->l=m
 | [],[],_=>rfl
 |a :: l,b :: m,h=>by
  simp only[F9]at h
  split at h
  · rename_i h1
    rw[Q5 h,Nat.eq_of_beq_eq_true h1]
  · simp at h
mutual
def dB:D->D->Bool
 |.lf a,.lf b=>vB a b
 |.st s a,.st t b=>F9 s t && qy a b
 |.ar s a,.ar t b=>Nat.beq s t && qy a b
 |.sl t s a,.sl u v b=>(t == u) && Nat.beq s v && qy a b
 |.fp a,.fp b=>dB a b
 |.e0,.e0=>true
 |.tu a,.tu b=>qy a b
 |_,_=>false
def qy:List D->List D->Bool
 | [],[]=>true
 |a :: l,b :: m=>match dB a b with
  |true=>qy l m
  |false=>false
 |_,_=>false
end
mutual
theorem R8:∀ (a b:D),dB a b=true->a=b
 |.lf a,b,h=>by
  cases b <;> simp only[dB,Bool.false_eq_true]at h
  rw[ab9 h]
 |.st s a,b,h=>by
  cases b <;> simp only[dB,Bool.false_eq_true,Bool.and_eq_true]at h
  rw[Q5 h.1,yh _ _ h.2]
 |.ar s a,b,h=>by
  cases b <;> simp only[dB,Bool.false_eq_true,Bool.and_eq_true]at h
  rw[Nat.eq_of_beq_eq_true h.1,yh _ _ h.2]
 |.sl t s a,b,h=>by
  cases b <;> simp only[dB,Bool.false_eq_true,Bool.and_eq_true,beq_iff_eq]at h
  rw[h.1.1,Nat.eq_of_beq_eq_true h.1.2,yh _ _ h.2]
 |.fp a,b,h=>by
  cases b <;> simp only[dB,Bool.false_eq_true]at h
  rw[R8 _ _ h]
 |.e0,b,h=>by
  cases b <;> simp only[dB,Bool.false_eq_true]at h
  rfl
 |.tu a,b,h=>by
  cases b <;> simp only[dB,Bool.false_eq_true]at h
  rw[yh _ _ h]
 |.ref _ _,b,h=>by cases b <;> simp[dB]at h
 |.own _ _ _ _,b,h=>by cases b <;> simp[dB]at h
 |.fn _ _ _,b,h=>by cases b <;> simp[dB]at h
 |.gZ _ _,b,h=>by cases b <;> simp[dB]at h
 |.bZ,b,h=>by cases b <;> simp[dB]at h
 |.mp _,b,h=>by cases b <;> simp[dB]at h
 |.mo _ _,b,h=>by cases b <;> simp[dB]at h
 |.yd _,b,h=>by cases b <;> simp[dB]at h
 |.lo _ _ _ _,b,h=>by cases b <;> simp[dB]at h
 |.lb _ _ _ _,b,h=>by cases b <;> simp[dB]at h
 |.jK _,b,h=>by cases b <;> simp[dB]at h
 |.df,b,h=>by cases b <;> simp[dB]at h
theorem yh:∀ (l m:List D),qy l m=true->l=m
 | [],m,h=>by cases m <;> simp[qy]at h;rfl
 |a :: l,m,h=>by
  cases m with
  |nil=>simp[qy]at h
  |cons b m =>
   simp only[qy]at h
   split at h
   · rename_i h1
     rw[R8 _ _ h1,yh _ _ h]
   · simp at h
end
def l7:List (Nat × List D × D)->Nat->List D->Option D
 | [],_,_=>none
 |(f,az,d) :: l,k,bs=>match Nat.beq f k with
  |true=>match qy az bs with
   |true=>some d
   |false=>l7 l k bs
  |false=>l7 l k bs
theorem JD {gl:Nat->D} : ∀ (l:List (Nat × List D × D)),(∀ x∈l,Pure P gl x.1 x.2.1 x.2.2)->∀ f args d,l7 l f args=some d->Pure P gl f args d
 | [],_,f,args,d,h=>by simp[l7]at h
 |(k,az,e) :: l,hl,f,args,d,h=>by
  have ih:=JD l (λx hx=>hl x (List.mem_cons_of_mem _ hx)) f args d
  simp only[l7]at h
  split at h
  · rename_i h1
    split at h
    · rename_i h2
      simp only[Option.some.injEq]at h
      subst h
      have:=hl _ (List.mem_cons_self ..)
      rw[Nat.eq_of_beq_eq_true h1,yh _ _ h2]at this
      exact this
    · exact ih h
  · exact ih h
end
end Go.Proofs.YtadecgbblajifaaGreatDoor.DV
namespace Go.Proofs.YtadecgbblajifaaGreatDoor
end Go.Proofs.YtadecgbblajifaaGreatDoor
namespace Go.Proofs.YtadecgbblajifaaGreatDoor.DV
open Go
structure Base where
 g:G
 w:World
 s:au:=λ_=>none
 pin:List Nat:=[]
def Base.M (B:Base) (b:Nat):Prop:=Mine B.g B.s B.w b
structure Inv (B:Base) (g:G) (w:World):Prop where
 fm:∀ b c,B.g.fm b=some c->g.fm b=some c
 hp:B.w.heap.size<=w.heap.size
 fr:∀ b,¬ B.M b->w.heap[b]? = B.w.heap[b]?
 jv:∀ b,g.fm b≠none->B.g.fm b≠none\/B.M b
 rn:∀ i l,g.ae i=some l->B.M l.b
 sm:Sm B.w w
 rk:∀ i∈B.pin,∀ l,B.g.ae i=some l->g.ae i=some l
variable {P:Program} {C:Cx} {B:Base} {r:Option Nat}
theorem Inv.mine {g:G} {σ:au} {w:World} (h:Inv B g w) {b:Nat} (hb:Mine g σ w b):B.M b:=by
 rcases hb with hb|⟨i,l,_,hl,rfl⟩
 · exact .inl (Nat.le_trans h.hp hb)
 · exact h.rn i l hl
theorem Inv.step {g g':G} {σ σ':au} {w w':World} {N:Nat->Prop} (h:Inv B g w) (e:Ext g σ w N g' σ' w'):Inv B g' w':=by
 refine⟨λb c hb=>e.le.fm _ _ (h.fm b c hb),Nat.le_trans h.hp e.hp,λb hb => ?_,λb hb => ?_,λi l hi => ?_,h.sm.trans e.sm,λi hi l hl=>e.le.ae _ _ (h.rk i hi l hl)⟩
 · rw[e.fr b λhm=>hb (h.mine hm),h.fr b hb]
 · rcases e.jv b hb with h1|h1
   · exact h.jv b h1
   · exact .inr (h.mine h1)
 · rcases e.rn i l hi with h1|h1
   · exact h.rn i l h1
   · exact h.mine h1.1
theorem M0 {g:G} {w:World} {b:Nat} : Base.M ⟨g,w,λ_=>none,[]⟩ b↔w.heap.size<=b:=by
 constructor
 · rintro(h|⟨i,l,h,_⟩)
   · exact h
   · simp at h
 · exact .inl
def QY (C:Cx) (B:Base) (K:Ex->S->Prop):Exit->Act->World->Prop:=λe a w=>∃ ex s g,K ex s/\iH ex e/\St C s g a w/\Inv B g w
structure Run (P:Program) (C:Cx) (B:Base) (r:Option Nat) (c:Code) (s:S) (K:Ex->S->Prop):Prop where
 out:∀ m g a w,St C s g a w->Inv B g w->c.wpIn (FW r) m P (QY C B K) a w
theorem Run.mono {c:Code} {s:S} {K K':Ex->S->Prop} (h:Run P C B r c s K) (hk:∀ ex t,K ex t->K' ex t):Run P C B r c s K':=⟨λm g a w hS hI =>
 wpIn_mono (h.out m g a w hS hI) λ_ _ _ ⟨ex,t,g',h1,h2,h3,h4⟩=>⟨ex,t,g',hk _ _ h1,h2,h3,h4⟩⟩
def Wk (C:Cx) (B:Base) (s s':S):Prop:=∀ g a w,St C s g a w->Inv B g w->∃ g',St C s' g' a w/\Inv B g' w
theorem Ah {c:Code} {s s':S} {K:Ex->S->Prop} (hw:Wk C B s s') (h:Run P C B r c s' K):Run P C B r c s K:=⟨λm g a w hS hI=>by
 obtain⟨g',h1,h2⟩:=hw g a w hS hI
 exact h.out m g' a w h1 h2⟩
theorem bB {s:S} {K:Ex->S->Prop} (h:K .normal s):Run P C B r .skip s K:=⟨λ_ g _ _ hS hI=>wpIn_skip ⟨_,s,g,h,trivial,hS,hI⟩⟩
theorem bC {i:Nat} {s:S} {K:Ex->S->Prop} (h:K (.exit i) s):Run P C B r (.exit i) s K:=⟨λ_ g _ _ hS hI=>wpIn_exit ⟨_,s,g,h,rfl,hS,hI⟩⟩
theorem bF {s:S} {K:Ex->S->Prop} (h:K .ret s):Run P C B r .ret s K:=⟨λ_ g _ _ hS hI=>wpIn_ret ⟨_,s,g,h,trivial,hS,hI⟩⟩
def sqf (K:Ex->S->Prop) (R:S->Prop):Ex->S->Prop
 |.normal,t=>R t
 |ex,t=>K ex t
structure sq (K:Ex->S->Prop) (R:S->Prop) (ex:Ex) (t:S):Prop where
 out:sqf K R ex t
theorem run_seq {x y:Code} {s:S} {K:Ex->S->Prop} (h:Run P C B r x s (sq K λt=>Run P C B r y t K)):Run P C B r (.seq x y) s K:=⟨λm g a w hS hI =>
 wpIn_seq (wpIn_mono (h.out m g a w hS hI) λe a' w' ⟨ex,t,g',⟨h1⟩,h2,h3,h4⟩=>by
  cases ex <;> cases e <;> simp only[iH]at h2
  · exact h1.out m g' a' w' h3 h4
  · exact⟨_,t,g',h1,trivial,h3,h4⟩
  · exact⟨_,t,g',h1,h2,h3,h4⟩)⟩
theorem ZI {c:Operand} {x y:Code} {s:S} {K:Ex->S->Prop} {b:Bool} (hc:ig C.gl s.tm c = .lf (.bool b)) (h1:b=true->Run P C B r x s K) (h2:b=false->Run P C B r y s K):Run P C B r (.cond c x y) s K:=⟨λm g a w hS hI=>by
 have h3:=hS.get c
 rw[hc]at h3
 exact wpIn_cond_split (dh h3) (λhb=>(h1 hb).out m g a w hS hI) (λhb=>(h2 hb).out m g a w hS hI)⟩
def Ci (i:Nat) (K:Ex->S->Prop):Ex->S->Prop
 |.exit j,t=>if j=i then K .normal t else K (.exit j) t
 |ex,t=>K ex t
structure bk (i:Nat) (K:Ex->S->Prop) (ex:Ex) (t:S):Prop where
 out:Ci i K ex t
theorem bA {i:Nat} {x:Code} {s:S} {K:Ex->S->Prop} (h:Run P C B r x s (bk i K)):Run P C B r (.block i x) s K:=⟨λm g a w hS hI =>
 wpIn_block (wpIn_mono (h.out m g a w hS hI) λe a' w' ⟨ex,t,g',⟨h1⟩,h2,h3,h4⟩=>by
  cases ex <;> cases e <;> simp only[iH]at h2
  · exact⟨_,t,g',h1,trivial,h3,h4⟩
  · exact⟨_,t,g',h1,trivial,h3,h4⟩
  · subst h2
    rename_i j _
    by_cases hj:j=i
    · have h1:K .normal t:=by simpa only[Ci,hj,if_true]using h1
      show Exit.inBlock i _ (.exit j) a' w'
      simp only[Exit.inBlock,hj,if_true]
      exact⟨.normal,t,g',h1,trivial,h3,h4⟩
    · have h1:K (.exit j) t:=by simpa only[Ci,hj,if_false]using h1
      show Exit.inBlock i _ (.exit j) a' w'
      simp only[Exit.inBlock,hj,if_false]
      exact⟨.exit j,t,g',h1,rfl,h3,h4⟩)⟩
theorem ZJ {x:Code} {s:S} {K:Ex->S->Prop} (I:Nat->S->Prop) {N:Nat} (hs:I N s) (h:∀ k t,I k t->Run P C B r x t λex t'=>match ex with | .normal=>∃ j,j<k/\I j t' | ex=>K ex t'):Run P C B r (.loop x) s K:=⟨λm g a w hS hI=>by
 refine OV (N+1) (λj a w=>∃ k,k<j/\∃ t g,I k t/\St C t g a w/\Inv B g w) (λ_ _ ⟨k,hk,_⟩=>by omega) (λj a w hj ⟨k,hk,t,g,h1,h2,h3⟩ => ?_) (Nat.le_refl _) ⟨N,Nat.lt_succ_self N,s,g,hs,hS,hI⟩
 refine wpIn_mono ((h k t h1).out m g a w h2 h3) λe a' w' ⟨ex,t',g',h4,h5,h6,h7⟩ => ?_
 cases ex <;> cases e <;> simp only[iH]at h5
 · obtain⟨j',h8,h9⟩:=h4
   exact⟨j',by omega,t',g',h9,h6,h7⟩
 · exact⟨_,t',g',h4,trivial,h6,h7⟩
 · exact⟨_,t',g',h4,h5,h6,h7⟩⟩
structure bg (P:Program) (C:Cx) (B:Base) (r:Option Nat) (all:Array Oper) (l:List Oper) (s:S) (K:S->Prop):Prop where
 out:∀ k m g a w (Q:Exit->Act->World->Prop),l=all.toList.drop k->St C s g a w->Inv B g w->(∀ t g' a' w',K t->St C t g' a' w'->Inv B g' w'->Q .normal a' w')->wpOpsIn (FW r) m P all Q (List.range' k (all.size - k)) a w
theorem eB {id:Nat} {ops:Array Oper} {s:S} {K:Ex->S->Prop} (h:bg P C B r ops ops.toList s (K .normal)):Run P C B r (.region id ops false) s K:=⟨λm g a w hS hI=>by
 refine wpIn_region ?_
 have:=h.out 0 m g a w (QY C B K) (by simp) hS hI λt g' a' w' h1 h2 h3=>⟨_,t,g',h1,trivial,h2,h3⟩
 rwa[Nat.sub_zero,← List.range_eq_range']at this⟩
theorem bE {all:Array Oper} {s:S} {K:S->Prop} (h:K s):bg P C B r all [] s K:=⟨λk m g a w Q hl hS hI hQ=>by
 have:all.size - k=0:=by
  have:=congrArg List.length hl
  simp at this
  omega
 rw[this]
 exact hQ s g a w h hS hI⟩
theorem Il {all:Array Oper} {l:List Oper} {o:Oper} {s:S} {K:S->Prop} (hw:want all s.tm o=some true)
 (h:∀ m g a w (next:Act->World->Prop) (Q:Exit->Act->World->Prop),St C s g a w->Inv B g w->(∀ t g' a' w',bg P C B r all l t K->St C t g' a' w'->Inv B g' w'->next a' w')->o.wpIn (FW r) m P a w next Q):bg P C B r all (o :: l) s K:=⟨λk m g a w Q hl hS hI hQ=>by
 obtain⟨hk,ho,hl'⟩:=drop_at hl
 rw[Hz hk]
 simp only[wpOpsIn,ho]
 rw[qL hS hw]
 simp only[if_true]
 exact h m g a w _ Q hS hI λt g' a' w' h1 h2 h3=>h1.out (k+1) m g' a' w' Q hl' h2 h3 hQ⟩
theorem aaf (hC:cZ P C.T) {all:Array Oper} {l:List Oper} {o:Oper} {s:S} {K:S->Prop} {d:D} {e:Eff} (hw:want all s.tm o=some true) (he:fH C.T (aA s.s) s.nx (ig C.gl s.tm) o.op=some (d,e))
 (h:bg P C B r all l ⟨gP s.n s.tm o.dst d,jW e s.s,s.nx+1,s.n,s.ms,[],s.rd⟩ K):bg P C B r all (o :: l) s K :=
 Il hw λm g a w next Q hS hI hn=>by
  have hdo:=Jq (P:=P) hC (o:=o) he hS.rel (hS.fresh _ (Nat.le_refl _)) hS.get
  refine hdo.wpIn (Ii he) λv w' hk => ?_
  obtain⟨g',h1,h2⟩:=hS.next (dst:=o.dst) hk
  exact hn _ g' _ _ h ⟨h1.rel,h1.tm,h1.size,h1.fresh,h1.gl,h1.ms⟩ (hI.step h2.ext)
theorem YU {all:Array Oper} {l:List Oper} {o:Oper} {c:Call} {fo:Operand} {f:Nat} {az bs:List D} {s:S} {K:S->Prop} {d:D} (hw:want all s.tm o=some true) (ho:o.op = .call c) (hc:c.callee = .value fo) (hfo:ig C.gl s.tm fo = .fn (.func f) az bs)
 (hp:Pure P C.gl f (az ++ dmap (ig C.gl s.tm) c.args.toList ++ bs) d) (h:bg P C B r all l ⟨gP s.n s.tm o.dst d,s.s,s.nx,s.n,s.ms,[],s.rd⟩ K):bg P C B r all (o :: l) s K :=
 Il hw λm g a w next Q hS hI hn=>by
  refine Aq ho hc hfo hS.get (λvs hvs=>hp g _ w vs hS.rel hS.gl hvs) λv w' ⟨g',R',X',V'⟩ => ?_
  have hsize:(a.put o.dst v).tmps.size=a.tmps.size:=by cases o.dst <;> simp[Act.put]
  have hdef:(a.put o.dst v).defers=a.defers:=by cases o.dst <;> rfl
  refine hn _ g' _ _ h ⟨R',vG hS.size (λk=>(hS.tm k).mono X'.le) V',by rw[hsize];exact hS.size,λi hi => ?_,λi=>(hS.gl i).mono X'.le,by rw[hdef];exact hS.ms.mono X'.le⟩ (hI.step X')
  cases hx:g'.ae i with
  |none=>rfl
  |some l =>
   rcases X'.rn i l hx with h4|h4
   · rw[hS.fresh i hi]at h4;simp at h4
   · exact h4.2.elim
theorem YV {all:Array Oper} {l:List Oper} {o:Oper} {s:S} {K:S->Prop} (hw:want all s.tm o=some false) (h:bg P C B r all l ⟨gP s.n s.tm o.dst (.tu []),s.s,s.nx,s.n,s.ms,[],s.rd⟩ K):bg P C B r all (o :: l) s K:=⟨λk m g a w Q hl hS hI hQ=>by
 obtain⟨hk,ho,hl'⟩:=drop_at hl
 rw[Hz hk]
 simp only[wpOpsIn,ho]
 rw[qL hS hw]
 simp only[Bool.false_eq_true,if_false]
 refine⟨λ_ _=>trivial,?_⟩
 have hsize:(a.put o.dst undef).tmps.size=a.tmps.size:=by cases o.dst <;> simp[Act.put]
 have hdef:(a.put o.dst undef).defers=a.defers:=by cases o.dst <;> rfl
 exact h.out (k+1) m g _ w Q hl' ⟨hS.rel,vG hS.size hS.tm (by simp[VR,CR,aC,undef]),by rw[hsize];exact hS.size,hS.fresh,hS.gl,by rw[hdef];exact hS.ms⟩ hI hQ⟩
end Go.Proofs.YtadecgbblajifaaGreatDoor.DV
namespace Go.Proofs.YtadecgbblajifaaGreatDoor
end Go.Proofs.YtadecgbblajifaaGreatDoor
namespace Go.Proofs.YtadecgbblajifaaGreatDoor.DV
open Go
variable {P:Program} {C:Cx} {B:Base} {r:Option Nat}
def FR (σ:au) (d e:D):Prop:=∀ (g h:G) (w:World),(∀ i c,σ i=some c->fU c=false->∃ l blk,Has g w i c l blk)->(∀ b c,g.fm b=some c->h.fm b=some c)->(∀ i d l blk,σ i=some d->Has g w i d l blk->h.fm l.b=some blk)->∀ m cs,CR g m d cs->CR h m e cs
def eO (σ:au):List D->List D->Prop
 | [],[]=>True
 |d :: ds,e :: es=>FR σ d e/\eO σ ds es
 |_,_=>False
theorem eO.len {σ:au} : ∀ {ds es:List D},eO σ ds es->es.length=ds.length
 | [],[],_=>rfl
 |_ :: _,_ :: _,h=>by simp[eO.len h.2]
 | [],_ :: _,h=>h.elim
 |_ :: _,[],h=>h.elim
section
variable {σ:au} {g h:G} {w:World} (h1:∀ i c,σ i=some c->fU c=false->∃ l blk,Has g w i c l blk) (h2:∀ b c,g.fm b=some c->h.fm b=some c) (h3:∀ i d l blk,σ i=some d->Has g w i d l blk->h.fm l.b=some blk)
include h1 h2 h3
theorem eO.kH:∀ {ds es:List D} {ss:List Nat} {cs:List Value},eO σ ds es->aj g ss ds cs->aj h ss es cs
 | [],[],ss,cs,_,H=>by cases ss <;> simp only[aj]at H ⊢ <;> exact H
 |d :: ds,e :: es,ss,cs,hf,H=>by
  cases ss with
  |nil=>simp only[aj]at H
  |cons s ss =>
   simp only[aj]at H ⊢
   exact⟨H.1,hf.1 g h w h1 h2 h3 _ _ H.2.1,eO.kH hf.2 H.2.2⟩
 | [],_ :: _,_,_,hf,_=>hf.elim
 |_ :: _,[],_,_,hf,_=>hf.elim
theorem eO.l8:∀ {ds es:List D} {vs:List Value},eO σ ds es->aC g ds vs->aC h es vs
 | [],[],vs,_,H=>by simpa only[aC]using H
 |d :: ds,e :: es,vs,hf,H=>by
  simp only[aC]at H ⊢
  obtain⟨v,vs',a,b,c⟩:=H
  exact⟨v,vs',a,hf.1 g h w h1 h2 h3 _ _ b,eO.l8 hf.2 c⟩
 | [],_ :: _,_,hf,_=>hf.elim
 |_ :: _,[],_,hf,_=>hf.elim
end
def ak (d:D):Prop:=∀ (g h:G),(∀ b c,g.fm b=some c->h.fm b=some c)->∀ m cs,CR g m d cs->CR h m d cs
theorem FR.fz {σ:au} {d:D} (hd:ak d):FR σ d d:=λg h _ _ h2 _ m cs H=>hd g h h2 m cs H
theorem ak.of {d:D} (hd:FR (λ_=>none) d d):ak d:=λg h h2 m cs H=>hd g h default (λ_ _ h=>by simp at h) h2 (λ_ _ _ _ h=>by simp at h) m cs H
theorem FR.lf {σ:au} (v:Value):FR σ (.lf v) (.lf v):=λ_ _ _ _ _ _ _ _ H=>by simpa only[CR]using H
theorem FR.nil {σ:au} (s:Nat):FR σ (.lf (.slice none 0 0)) (.sl false s []):=λ_ _ _ _ _ _ _ _ H=>by
 simp only[CR]at H ⊢
 obtain⟨rfl,_⟩:=H
 exact⟨none,0,rfl,⟨Nat.le_refl _,λh=>by simp at h⟩,.inl trivial⟩
theorem FR.e0 {σ:au} (s:Nat):FR σ .e0 (.sl false s []):=λ_ _ _ _ _ _ _ _ H=>by
 simp only[CR]at H ⊢
 obtain⟨a,rfl⟩:=H
 exact⟨some a,0,rfl,⟨Nat.le_refl _,λh=>by simp at h⟩,.inl trivial⟩
theorem FR.ac5 {σ:au} {t:Bool} {i off:Nat} (s:Nat):FR σ (.own t i off 0) (.sl false s []):=λ_ _ _ _ _ _ _ _ H=>by
 simp only[CR]at H ⊢
 obtain⟨l,a,c,h1,rfl,h2,h3⟩:=H
 exact⟨some a,c,rfl,⟨h2.1,λh=>by simp at h⟩,.inl trivial⟩
theorem FR.st {σ:au} {ss:List Nat} {ds es:List D} (hf:eO σ ds es):FR σ (.st ss ds) (.st ss es):=λg h w h1 h2 h3 m cs H=>by
 simp only[CR]at H ⊢
 obtain⟨c,a,b⟩:=H
 exact⟨c,a,hf.kH h1 h2 h3 b⟩
theorem FR.ar {σ:au} {s:Nat} {ds es:List D} (hf:eO σ ds es):FR σ (.ar s ds) (.ar s es):=λg h w h1 h2 h3 m cs H=>by
 simp only[CR,hf.len]at H ⊢
 obtain⟨c,a,b⟩:=H
 exact⟨c,a,hf.kH h1 h2 h3 b⟩
theorem FR.tu {σ:au} {ds es:List D} (hf:eO σ ds es):FR σ (.tu ds) (.tu es):=λg h w h1 h2 h3 m cs H=>by
 simp only[CR]at H ⊢
 obtain⟨h0,v,a,b⟩:=H
 exact⟨h0,v,a,hf.l8 h1 h2 h3 b⟩
theorem FR.sl {σ:au} {t:Bool} {s:Nat} {ds es:List D} (hf:eO σ ds es):FR σ (.sl t s ds) (.sl false s es):=λg h w h1 h2 h3 m cs H=>by
 simp only[CR,hf.len]at H ⊢
 obtain⟨a,c,a1,a2,a4⟩:=H
 refine⟨a,c,a1,⟨a2.1,λh=>by simp at h⟩,?_⟩
 rcases a4 with rfl|⟨b,o,blk,a4,a5,a6,a7⟩
 · exact .inl (List.length_eq_zero_iff.1 hf.len)
 · exact .inr ⟨b,o,blk,a4,h2 _ _ a5,a6,hf.kH h1 h2 h3 a7⟩
theorem FR.fp {σ:au} {d e:D} (hf:FR σ d e):FR σ (.fp d) (.fp e):=λg h w h1 h2 h3 m cs H=>by
 simp only[CR]at H ⊢
 obtain⟨b,o,blk,k,a1,a2,a3,a4⟩:=H
 exact⟨b,o,blk,k,a1,h2 _ _ a2,a3,hf g h w h1 h2 h3 _ _ a4⟩
theorem FR.ref {σ:au} {i:Nat} {p:List (Nat × Nat)} {c d e:D} (hc:σ i=some c) (hm:fU c=false) (hn:wT c p=some d) (hf:FR σ d e):FR σ (.ref i p) (.fp e):=λg h w h1 h2 h3 m cs H=>by
 simp only[CR]at H ⊢
 obtain⟨lo,hlo,rfl⟩:=H
 obtain⟨lo',blk,H⟩:=h1 _ _ hc hm
 have:lo'=lo:=by have:=H.ae;rw[hlo]at this;simpa using this.symm
 subst this
 have hn:=Ee p c d _ H.cr hn
 have hs:(bu blk lo'.o (sz c)).length=sz c:=(CR.len _ _ H.cr).1
 rw[hs]at hn
 have hL:=H.len
 have hS:=H.sz
 have e2:List.take (sz d) (List.drop (dI p) (bu blk lo'.o (sz c)))=bu blk (lo'.o+dI p) (sz d):=by
  simp only[bu,List.drop_take,List.drop_drop,List.take_take]
  congr 1;omega
 rw[e2]at hn
 exact⟨lo'.b,lo'.o+dI p,blk,sz d,rfl,h3 _ _ _ _ hc H,by omega,hf g h w h1 h2 h3 _ _ hn.1⟩
theorem FR.own {σ:au} {t:Bool} {i off n s:Nat} {ds es:List D} (hc:σ i=some (.ar s ds)) (hb:off+n<=ds.length) (hf:eO σ ((ds.drop off).take n) es):FR σ (.own t i off n) (.sl false s es):=by
 have hlen:((ds.drop off).take n).length=n:=by simp;omega
 have hel:=hf.len
 rw[hlen]at hel
 cases n with
 |zero =>
  have:=List.length_eq_zero_iff.1 hel
  subst this
  exact FR.ac5 s
 |succ n =>
  intro g h w h1 h2 h3 m cs H
  obtain⟨lo',blk,H'⟩:=h1 _ _ hc rfl
  simp only[CR]at H
  obtain⟨lo,a,c,hlo,rfl,⟨hn1,hn2⟩,zu⟩:=H
  have:lo'=lo:=by have:=H'.ae;rw[hlo]at this;simpa using this.symm
  subst this
  rcases zu with h0|⟨rfl,hn4⟩
  · omega
  have hs:lo'.s=s:=H'.s
  have hL:=H'.len
  have hS:=H'.sz
  simp only[DV.sz]at hS
  have hcr:=H'.cr
  simp only[CR,wrap,Bool.false_eq_true,if_false,DV.sz]at hcr
  obtain⟨_,rfl,hcr⟩:=hcr
  have h5:=xO (n+1) _ _ (xN off _ _ hcr)
  rw[hlen]at h5
  have hm:off * s+(n+1) * s<=ds.length * s:=by rw[← Nat.add_mul];exact Nat.mul_le_mul_right s hb
  have e2:List.take ((n+1) * s) (List.drop (off * s) (bu blk lo'.o (ds.length * s)))=(blk.drop (lo'.o+off * s)).take ((n+1) * s):=by
   simp only[bu,List.drop_take,List.drop_drop,List.take_take]
   congr 1;omega
  rw[e2]at h5
  have h6:=hf.kH h1 h2 h3 h5
  simp only[CR,hel]
  exact⟨_,c,rfl,⟨hn1,λh=>by simp at h⟩,.inr ⟨lo'.b,lo'.o+off * lo'.s,blk,rfl,h3 _ _ _ _ hc H',by rw[hs];omega,by rw[hs];exact h6⟩⟩
theorem eO.fz {σ:au} : ∀ {ds:List D},(∀ d∈ds,ak d)->eO σ ds ds
 | [],_=>trivial
 |d :: ds,h=>⟨.fz (h d (List.mem_cons_self ..)),eO.fz λx hx=>h x (List.mem_cons_of_mem _ hx)⟩
theorem eO.map {α:Type} {σ:au} {f:α->D} (h:∀ x,ak (f x)) (l:List α):eO σ (l.map f) (l.map f):=eO.fz λd hd=>by
 obtain⟨x,_,rfl⟩:=List.mem_map.1 hd
 exact h x
theorem Fz.UO:∀ {ds:List D},(∀ d∈ds,ak d)->Fz ds:=λh g k vs hfm H=>(eO.fz (σ:=λ_=>none) h).l8 (g:=g) (h:=k) (w:=default) (λ_ _ h=>by simp at h) hfm (λ_ _ _ _ h=>by simp at h) H
theorem abg {g g1:G} {σ σ1:au} {w w':World} (R:Rel g σ w) (I:Inv ⟨⟨g.fm,λ_=>none⟩,w,λ_=>none,[]⟩ g1 w') (R1:Rel g1 σ1 w') :
 ∃ k,Rel k σ w'/\Ext g σ w (λ_=>False) k σ w'/\(∀ b c,g1.fm b=some c->k.fm b=some c)/\∀ i d l blk,σ1 i=some d->Has g1 w' i d l blk->k.fm l.b=some blk:=by
 have hold:∀ b,b<w.heap.size->w'.heap[b]? = w.heap[b]? := λb hb=>I.fr b (by rw[M0];omega)
 have vS:∀ b,b<w.heap.size->mem w' b=mem w b:=λb hb=>by unfold mem;rw[hold b hb]
 have tT:∀ b c,g.fm b=some c->mem w b=some c:=R.fm
 generalize hk:(⟨λb=>if b<w.heap.size then g.fm b else mem w' b,g.ae⟩:G)=k0
 have bW:∀ b,k0.fm b=if b<w.heap.size then g.fm b else mem w' b:=λb=>by rw[← hk]
 have hkr:∀ i,k0.ae i=g.ae i:=λi=>by rw[← hk]
 have hle:Le g k0:=⟨λb c hb=>by
  rw[bW,if_pos (sG (tT b c hb))];exact hb,λi l hi=>by rw[hkr];exact hi⟩
 refine⟨k0,⟨λb c hb => ?_,λi d hi => ?_,λi j l m hi hj hl hm hb => ?_⟩,⟨hle,I.hp,λb hb=>hold b ?_,λb hb => ?_,λi l hi => .inl (by rw[hkr]at hi;exact hi),λi hi => .inl hi,I.sm⟩,λb c hb => ?_,λi d0 l blk hi H => ?_⟩
 · rw[bW]at hb
   split at hb
   · rename_i hlt
     rw[vS b hlt]
     exact tT b c hb
   · exact hb
 · obtain⟨l,hl⟩:=R.ob i d hi
   exact⟨l,hl.keep hle (by rw[bW,if_pos hl.lt];exact hl.fm) (hold _ hl.lt)⟩
 · rw[hkr]at hl hm
   exact R.dj i j l m hi hj hl hm hb
 · rcases Nat.lt_or_ge b w.heap.size with h|h
   · exact h
   · exact absurd (.inl h) hb
 · rw[bW]at hb
   split at hb
   · exact .inl hb
   · exact .inr (.inl (by omega))
 · rw[bW]
   have h1:=R1.fm b c hb
   split
   · rename_i hlt
     rcases I.jv b (by rw[hb];simp)with h2|h2
     · cases hq:g.fm b with
       |none=>exact absurd hq h2
       |some c0 =>
        have:=tT b c0 hq
        rw[← vS b hlt,h1]at this
        exact this.symm
     · rw[M0]at h2;omega
   · exact h1
 · rw[bW]
   have h3:=I.rn i l H.ae
   rw[M0]at h3
   rw[if_neg (by omega)]
   exact H.row.mem
theorem pure_run {fn : Func} {c : Code} {f : Nat} {args : List D} {d : D} (hT : cZ P C.T) (hf : P.funcs[f]? = some fn) (hn : (fn.name == "runtime.NumGoroutine") = false) (hb : fn.body = some c) (hl : args.length <= fn.ntmps) (ha : Fz args) (hg : ∀ i, Fz [C.gl i])
 (h:∀ B:G × World,Run P C ⟨B.1,B.2,λ_=>none,[]⟩ none c ⟨fill .e 0 args,.e,0,fn.ntmps,[],[],false⟩ λex t=>(ex = .normal\/ex = .ret)/\t.ms=[]/\∃ ds,lT C.T t.s t.tm fn.results.toList=some ds/\FR (aA t.s) (tN ds) d):Pure P C.gl f args d:=by
 intro g σ w vs R hgl hvs
 have hn' : ¬ fn.name = "runtime.NumGoroutine" := by simpa using hn
 refine .inl ⟨by simp[callFunc,hf,hn',hb],callsIn_wide.1 (callsIn_of_wp_marks (n:=0) hf hb trivial ?_)⟩
 have h0:aA (Tr.e:Tr D)=λ_=>none:=by funext i;rfl
 have ha':=ha g ⟨g.fm,λ_=>none⟩ vs (λ_ _ h=>h) hvs
 have hlen:=aC.len _ _ ha'
 have hS:St C ⟨fill .e 0 args,.e,0,fn.ntmps,[],[],false⟩ ⟨g.fm,λ_=>none⟩ { tmps:=(⟨vs⟩:Array Value) ++ Array.replicate (fn.ntmps - (⟨vs⟩:Array Value).size) undef,defers:=[] } w :=
  ⟨by rw[h0];exact Rel.nil R.fm,Jc ha',by simp;omega,λ_ _=>rfl,λi=>by
   have:=hg i g ⟨g.fm,λ_=>none⟩ [_] (λ_ _ h=>h) (by simpa[aC,VR]using hgl i)
   simpa[aC,VR]using this,rfl⟩
 have hI:Inv ⟨⟨g.fm,λ_=>none⟩,w,λ_=>none,[]⟩ ⟨g.fm,λ_=>none⟩ w:=⟨λ_ _ h=>h,Nat.le_refl _,λ_ _=>rfl,λ_ h => .inl h,λ_ _ h=>by simp at h,.refl w,λ_ h=>by simp at h⟩
 refine wpIn_mono ((h (_,_)).out 0 _ _ w hS hI) ?_
 rintro e a1 w1 ⟨ex,t,g1,⟨hex,hms,ds,hds,hfr⟩,he,hS1,hI1⟩
 have main:LeavesInM Fence.wide 0 P fn a1.tmps (λe w'=>∃ v,e = .returned v/\∃ g',Rel g' σ w'/\Ext g σ w (λ_=>False) g' σ w'/\VR g' d v) a1.defers .returning w1:=by
  have hd:a1.defers=[]:=by have:=hS1.ms;rw[hms]at this;exact this
  rw[hd]
  obtain⟨v,h6,h7⟩:=Ju (P:=P) (fn:=fn) (tm:=a1.tmps) hT hS1.rel hS1.tm hds
  obtain⟨k,k1,k2,k3,k4⟩:=abg R hI1 hS1.rel
  exact⟨v,h6,v,rfl,k,k1,k2,hfr g1 k w1 (λi c hc hm=>hS1.rel.has hc hm) k3 k4 _ _ h7⟩
 rcases hex with rfl|rfl <;> cases e <;> simp only[iH]at he
 · exact main
 · exact main
end Go.Proofs.YtadecgbblajifaaGreatDoor.DV
namespace Go.Proofs.YtadecgbblajifaaGreatDoor
end Go.Proofs.YtadecgbblajifaaGreatDoor
