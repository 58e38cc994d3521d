import Derived.Test.YtadecgbblajifaaGreatDoorA27
import Derived.Test.YtadecgbblajifaaGreatDoorChecked
import Derived.KernelRfl
import Derived.Laws.Externs
set_option linter.unusedSimpArgs false
set_option linter.unusedVariables false
set_option maxRecDepth 100000
set_option maxHeartbeats 25600000
namespace Go.Proofs.YtadecgbblajifaaGreatDoor
end Go.Proofs.YtadecgbblajifaaGreatDoor
namespace Go.Proofs.YtadecgbblajifaaGreatDoor.DV
open Go
noncomputable section
def j4 (f:D->Option D):List D->Option (List D)
 | []=>some []
 |d :: ds=>match f d with
  |some e=>match j4 f ds with
   |some es=>some (e :: es)
   |none=>none
  |none=>none
def oM (f:D->D):Option D->Option D
 |some d=>some (f d)
 |none=>none
def oL (f:List D->D):Option (List D)->Option D
 |some d=>some (f d)
 |none=>none
def Gh (σ:ak) (ih:D->Option D):D->Option D
 |.lf v=>some (.lf v)
 |.st s ds=>oL (.st s) (j4 ih ds)
 |.ar s ds=>oL (.ar s) (j4 ih ds)
 |.sl t s ds=>oL (.sl t s) (j4 ih ds)
 |.fp d=>oM .fp (ih d)
 |.ref i p=>match σ i with
  |some c=>match ji c with
   |true=>none
   |false=>match uJ c p with
    |some e=>oM .fp (ih e)
    |none=>none
  |none=>none
 |.own t i off n=>match n with
  |0=>match t with
   |true=>some .e0
   |false=>none
  |n+1=>match σ i with
   |some (.ar s ds)=>match Nat.ble (off+(n+1)) ds.length with
    |true=>oL (.sl t s) (j4 ih ((ds.drop off).take (n+1)))
    |false=>none
   |_=>none
 |.e0=>some .e0
 |.tu ds=>oL .tu (j4 ih ds)
 |.dZ t d=>oM (.dZ t) (ih d)
 |_=>none
def yG (σ:ak) (n:Nat):D->Option D:=Nat.rec (λ_=>none) (λ_ ih d=>Gh σ ih d) n
section
variable {g h:G} {f:D->Option D} (hf:∀ d d',f d=some d'->∀ m cs,CR g m d cs->CR h m d' cs)
include hf
theorem qw:∀ (ds ds':List D),j4 f ds=some ds'->ds'.length=ds.length/\(∀ ss cs,aj g ss ds cs->aj h ss ds' cs)/\∀ vs,ay g ds vs->ay h ds' vs
 | [],ds',e=>by
  simp only[j4,Option.some.injEq]at e;subst e;refine⟨rfl,λss cs H => ?_,λvs H=>by simpa only[ay]using H⟩;cases ss <;> simp only[aj]at H ⊢ <;> exact H
 |d :: ds,ds',e=>by
  simp only[j4]at e;split at e
  case h_2=>simp at e
  rename_i e1 he1;split at e
  case h_2=>simp at e
  rename_i es hes;simp only[Option.some.injEq]at e;subst e;obtain⟨h1,h2,h3⟩:=qw ds es hes;refine⟨by simp[h1],λss cs H => ?_,λvs H => ?_⟩
  · cases ss with
    |nil=>simp only[aj]at H
    |cons s ss =>
     simp only[aj]at H ⊢;exact⟨H.1,hf _ _ he1 _ _ H.2.1,h2 _ _ H.2.2⟩
  · simp only[ay]at H ⊢;obtain⟨v,vs',ha,hb,hc⟩:=H;exact⟨v,vs',ha,hf _ _ he1 _ _ hb,h3 _ hc⟩
end
theorem vI {f:List D->D} {o:Option (List D)} {d:D} (h:oL f o=some d):∃ l,o=some l/\d=f l:=by
 cases o <;> simp[oL]at h;exact⟨_,rfl,h.symm⟩
theorem DD {f:D->D} {o:Option D} {d:D} (h:oM f o=some d):∃ l,o=some l/\d=f l:=by
 cases o <;> simp[oM]at h;exact⟨_,rfl,h.symm⟩
theorem Wo {g h:G} {σ:ak} {w:World} (R:∀ i c,σ i=some c->ji c=false->∃ l blk,Has g w i c l blk) (hfm:∀ b c,g.fm b=some c->h.fm b=some c) (bO:∀ i d l blk,σ i=some d->Has g w i d l blk->h.fm l.b=some blk) {f:D->Option D} (hf:∀ d d',f d=some d'->∀ m cs,CR g m d cs->CR h m d' cs)
 (d d':D) (e:Gh σ f d=some d') (m:Bool) (cs:List Value) (H:CR g m d cs):CR h m d' cs:=by
 unfold Gh at e;split at e
 · simp only[Option.some.injEq]at e;subst e
   simpa only[CR]using H
 · obtain⟨l,e1,rfl⟩:=vI e;obtain⟨h1,h2,h3⟩:=qw hf _ _ e1;simp only[CR]at H ⊢;obtain⟨c,a,b⟩:=H;exact⟨c,a,h2 _ _ b⟩
 · obtain⟨l,e1,rfl⟩:=vI e;obtain⟨h1,h2,h3⟩:=qw hf _ _ e1;simp only[CR,h1]at H ⊢;obtain⟨c,a,b⟩:=H;exact⟨c,a,h2 _ _ b⟩
 · obtain⟨l,e1,rfl⟩:=vI e;obtain⟨h1,h2,h3⟩:=qw hf _ _ e1;simp only[CR,h1]at H ⊢;obtain⟨a,c,a1,a2,a3,a4⟩:=H;refine⟨a,c,a1,a2,a3,?_⟩;rcases a4 with rfl|⟨b,o,blk,a4,a5,a6,a7⟩
   · exact .inl (List.length_eq_zero_iff.1 h1)
   · exact .inr ⟨b,o,blk,a4,hfm _ _ a5,a6,h2 _ _ a7⟩
 · obtain⟨l,e1,rfl⟩:=DD e;simp only[CR]at H ⊢;obtain⟨b,o,blk,k,a1,a2,a3,a4⟩:=H;exact⟨b,o,blk,k,a1,hfm _ _ a2,a3,hf _ _ e1 _ _ a4⟩
 · rename_i i p;split at e
   case h_2=>simp at e
   rename_i c hc;split at e
   case h_1=>simp at e
   rename_i hmo;split at e
   case h_2=>simp at e
   rename_i ee he;obtain⟨l,e1,rfl⟩:=DD e;simp only[CR]at H ⊢;obtain⟨lo,hlo,rfl⟩:=H;obtain⟨lo',blk,H⟩:=R _ _ hc hmo;have:lo'=lo:=by have:=H.ah;rw[hlo]at this;simpa using this.symm
   subst this;have hn:=DT p c ee _ H.cr he;have hs:(aQ blk lo'.o (sz c)).length=sz c:=(CR.len _ _ H.cr).1;rw[hs]at hn;have hL:=H.len;have hS:=H.sz;have e2:List.take (sz ee) (List.drop (bn p) (aQ blk lo'.o (sz c)))=aQ blk (lo'.o+bn p) (sz ee):=by
    simp only[aQ,List.drop_take,List.drop_drop,List.take_take];congr 1;omega
   rw[e2]at hn;exact⟨lo'.b,lo'.o+bn p,blk,sz ee,rfl,bO _ _ _ _ hc H,by omega,hf _ _ e1 _ _ hn.1⟩
 · rename_i t i off n;split at e
   · split at e
     case h_2=>simp at e
     simp only[Option.some.injEq]at e;subst e;simp only[CR]at H ⊢;obtain⟨l,a,c,h1,rfl,h2,h3⟩:=H;have:=h2.2 trivial;subst this;exact⟨a,rfl⟩
   · rename_i n;split at e
     case h_2=>simp at e
     rename_i s ds hc;split at e
     case h_2=>simp at e
     rename_i hb;have hb:=Nat.le_of_ble_eq_true hb;obtain⟨l,e1,rfl⟩:=vI e;obtain⟨h1,h2,h3⟩:=qw hf _ _ e1;have hlen:((ds.drop off).take (n+1)).length=n+1:=by simp;omega
     rw[hlen]at h1;obtain⟨lo',blk,H'⟩:=R _ _ hc rfl;simp only[CR]at H;obtain⟨lo,a,c,hlo,rfl,⟨hn1,hn2⟩,BI⟩:=H;have:lo'=lo:=by have:=H'.ah;rw[hlo]at this;simpa using this.symm
     subst this;rcases BI with h0|⟨rfl,hn4⟩
     · omega
     have hs:lo'.s=s:=H'.s;have hL:=H'.len;have hS:=H'.sz;simp only[DV.sz]at hS;have hcr:=H'.cr;simp only[CR,wrap,Bool.false_eq_true,if_false,DV.sz]at hcr;obtain⟨_,rfl,hcr⟩:=hcr;have h5:=ve (n+1) _ _ (u7 off _ _ hcr);rw[hlen]at h5;have hm:off * s+(n+1) * s<=ds.length * s:=by rw[← Nat.add_mul];exact Nat.mul_le_mul_right s hb
     have e2:List.take ((n+1) * s) (List.drop (off * s) (aQ blk lo'.o (ds.length * s)))=(blk.drop (lo'.o+off * s)).take ((n+1) * s):=by
      simp only[aQ,List.drop_take,List.drop_drop,List.take_take];congr 1;omega
     rw[e2]at h5;have h6:=h2 _ _ h5;simp only[CR,h1];exact⟨_,c,rfl,⟨hn1,hn2⟩,λh=>by simp at h,.inr ⟨lo'.b,lo'.o+off * lo'.s,blk,rfl,bO _ _ _ _ hc H',by rw[hs];omega,by rw[hs];exact h6⟩⟩
 · simp only[Option.some.injEq]at e;subst e
   simpa only[CR]using H
 · obtain⟨l,e1,rfl⟩:=vI e;obtain⟨h1,h2,h3⟩:=qw hf _ _ e1;simp only[CR]at H ⊢;obtain⟨h0,v,a,b⟩:=H;exact⟨h0,v,a,h3 _ b⟩
 · obtain⟨l,e1,rfl⟩:=DD e;simp only[CR]at H ⊢;obtain⟨v,a1,a2⟩:=H;exact⟨v,a1,hf _ _ e1 _ _ a2⟩
 · simp at e
theorem Ee {g h:G} {σ:ak} {w:World} (R:∀ i c,σ i=some c->ji c=false->∃ l blk,Has g w i c l blk) (hfm:∀ b c,g.fm b=some c->h.fm b=some c) (bO:∀ i d l blk,σ i=some d->Has g w i d l blk->h.fm l.b=some blk):∀ n d d',yG σ n d=some d'->∀ m cs,CR g m d cs->CR h m d' cs
 |0,d,d',e,m,cs,H=>by simp[yG]at e
 |n+1,d,d',e,m,cs,H=>Wo R hfm bO (Ee R hfm bO n) d d' e m cs H
def Fz (ds:List D):Prop:=∀ (g h:G) vs,(∀ b c,g.fm b=some c->h.fm b=some c)->ay g ds vs->ay h ds vs
theorem Rel.nil {g:G} {w:World} (h:∀ b c,g.fm b=some c->mem w b=some c):Rel g (λ_=>none) w:=⟨h,λ_ _ h=>by simp at h,λ_ _ _ _ h=>by simp at h⟩
theorem Fz.Ef {n:Nat} {ds:List D} (h:j4 (yG (λ_=>none) n) ds=some ds):Fz ds:=λg k vs hfm H =>
 (qw (g:=g) (h:=k) (λd d' e m cs H=>Ee (w:=default) (λ_ _ h=>by simp at h) hfm (λ_ _ _ _ h=>by simp at h) n d d' e m cs H) _ _ h).2.2 _ H
end
end Go.Proofs.YtadecgbblajifaaGreatDoor.DV
namespace Go.Proofs.YtadecgbblajifaaGreatDoor
end Go.Proofs.YtadecgbblajifaaGreatDoor
namespace Go.Proofs.YtadecgbblajifaaGreatDoor.DV
open Go
noncomputable section
variable {P:Program} {C:Cx}
def Bh (n:Nat):R->Option D
 |some (.val d,s)=>yG (ax s.s) n d
 |_=>none
abbrev S0:S:=⟨.e,.e,0,0,[],[],false⟩
theorem Wp (hC:gT P C) {dr:(bg->S->R)->Array Oper->S->R} (hD:Bd P C dr) {n k f:Nat} {args:List D} {d:D} (h:Bh k (ev C dr n (.call f args) S0)=some d) (ha:Fz args) (hg:∀ i,Fz [C.gl i]):Pure P C.gl f args d:=by
 intro g σ w args' R hgl hargs;cases hx:ev C dr n (.call f args) S0 with
 |none=>rw[hx]at h;simp[Bh]at h
 |some q =>
  obtain⟨ex,s'⟩:=q;rw[hx]at h;obtain⟨d1,rfl,hc⟩:=(Ya hC hD n).2.2 f args _ ex s' hx;simp only[Bh]at h;have Bi:∀ b c,g.fm b=some c->mem w b=some c:=R.fm;have h0:ax (Tr.e:Tr D)=λ_=>none:=by funext i;rfl
  have hV:∀ i,VR ⟨g.fm,λ_=>none⟩ (C.gl i) (.pointer (some ⟨i,0,none⟩)):=λi=>by
   have:=hg i g ⟨g.fm,λ_=>none⟩ [_] (λ_ _ h=>h) (by simpa[ay,VR]using hgl i)
   simpa[ay,VR]using this
  refine(hc ⟨g.fm,λ_=>none⟩ w args' (by rw[h0];exact Rel.nil Bi) (λ_ _=>rfl) hV (ha g _ _ (λ_ _ h=>h) hargs)).mono ?_;rintro v w' ⟨g1,R1,E1,V1,-,-⟩;rw[h0]at E1;have kX:∀ b,Mine ⟨g.fm,λ_=>none⟩ (λ_=>none) w b↔w.heap.size<=b:=by
   intro b;constructor
   · rintro(h|⟨i,l,h,_⟩)
     · exact h
     · simp at h
   · exact .inl
  have hold:∀ b,b<w.heap.size->w'.heap[b]? = w.heap[b]? := λb hb=>E1.fr b (by rw[kX];omega);have Nk:∀ b,b<w.heap.size->mem w' b=mem w b:=λb hb=>by unfold mem;rw[hold b hb]
  generalize hk:(⟨λb=>if b<w.heap.size then g.fm b else mem w' b,g.ah⟩:G)=k0;have fO:∀ b,k0.fm b=if b<w.heap.size then g.fm b else mem w' b:=λb=>by rw[← hk]
  have hkr:∀ i,k0.ah i=g.ah i:=λi=>by rw[← hk]
  have hle:Le g k0:=⟨λb c hb=>by
   rw[fO,if_pos (vP (Bi b c hb))];exact hb,λi l hi=>by rw[hkr];exact hi⟩
  refine⟨k0,⟨λb c hb => ?_,λi d hi => ?_,λi j l m hi hj hl hm hb => ?_⟩,⟨hle,E1.hp,λb hb=>hold b ?_,λb hb => ?_,λi l hi => .inl (by rw[hkr]at hi;exact hi),λi hi => .inl hi,E1.sm⟩,?_⟩
  · rw[fO]at hb;split at hb
    · rename_i hlt;rw[Nk b hlt];exact Bi b c hb
    · exact hb
  · obtain⟨l,hl⟩:=R.ob i d hi;exact⟨l,hl.keep hle (by rw[fO,if_pos hl.lt];exact hl.fm) (hold _ hl.lt)⟩
  · rw[hkr]at hl hm;exact R.dj i j l m hi hj hl hm hb
  · rcases Nat.lt_or_ge b w.heap.size with h|h
    · exact h
    · exact absurd (.inl h) hb
  · rw[fO]at hb;split at hb
    · exact .inl hb
    · rename_i hlt;exact .inr (.inl (by omega))
  · refine Ee (g:=g1) (h:=k0) (σ:=ax s'.s) (w:=w') (λi c hc hm=>R1.has hc hm) (λb c hb => ?_) (λi d0 l blk hi H => ?_) k d1 d h true [v] V1
    · rw[fO];have h1:=R1.fm b c hb;split
      · rename_i hlt;rcases E1.nk b (by rw[hb];simp)with h2|h2
        · cases hq:g.fm b with
          |none=>exact absurd hq h2
          |some c0 =>
           have:=Bi b c0 hq;rw[← Nk b hlt,h1]at this;exact this.symm
        · rw[kX]at h2;omega
      · exact h1
    · rw[fO];rcases E1.rn i l H.ah with h2|h2
      · simp at h2
      · have h3:=(kX _).1 h2.1;rw[if_neg (by omega)];exact H.row.mem
def Cj:List UInt8->List UInt8->Bool
 | [],[]=>true
 |a :: l,b :: m=>match Nat.beq a.toNat b.toNat with
  |true=>Cj l m
  |false=>false
 |_,_=>false
theorem Lc:∀ {l m:List UInt8},Cj l m=true->l=m
 | [],[],_=>rfl
 |a :: l,b :: m,h=>by
  simp only[Cj]at h;split at h
  · rename_i h1;rw[Lc h,UInt8.toNat_inj.1 (Nat.eq_of_beq_eq_true h1)]
  · simp at h
def vB:Value->Value->Bool
 |.bool a,.bool b=>a == b
 |.int j (.ofNat a),.int k (.ofNat b)=>(j == k) && Nat.beq a b
 |.int j (.negSucc a),.int k (.negSucc b)=>(j == k) && Nat.beq a b
 |.string ⟨⟨a⟩⟩,.string ⟨⟨b⟩⟩=>Cj a b
 |.slice none a b,.slice none c d=>Nat.beq a c && Nat.beq b d
 |.pointer none,.pointer none=>true
 |_,_=>false
theorem Yc {a b:Value} (h:vB a b=true):a=b:=by
 unfold vB at h;split at h
 · simpa using h
 · simp only[Bool.and_eq_true,beq_iff_eq]at h;rw[h.1,Nat.eq_of_beq_eq_true h.2]
 · simp only[Bool.and_eq_true,beq_iff_eq]at h;rw[h.1,Nat.eq_of_beq_eq_true h.2]
 · rw[Lc h]
 · simp only[Bool.and_eq_true]at h;rw[Nat.eq_of_beq_eq_true h.1,Nat.eq_of_beq_eq_true h.2]
 · rfl
 · simp at h
def Ck:List Nat->List Nat->Bool
 | [],[]=>true
 |a :: l,b :: m=>match Nat.beq a b with
  |true=>Ck l m
  |false=>false
 |_,_=>false
theorem Ld:∀ {l m:List Nat},Ck l m=true->l=m
 | [],[],_=>rfl
 |a :: l,b :: m,h=>by
  simp only[Ck]at h;split at h
  · rename_i h1;rw[Ld h,Nat.eq_of_beq_eq_true h1]
  · simp at h
mutual
def dB:D->D->Bool
 |.lf a,.lf b=>vB a b
 |.st s a,.st t b=>Ck s t && l6 a b
 |.ar s a,.ar t b=>Nat.beq s t && l6 a b
 |.sl t s a,.sl u v b=>(t == u) && Nat.beq s v && l6 a b
 |.fp a,.fp b=>dB a b
 |.e0,.e0=>true
 |.tu a,.tu b=>l6 a b
 |_,_=>false
def l6:List D->List D->Bool
 | [],[]=>true
 |a :: l,b :: m=>match dB a b with
  |true=>l6 l m
  |false=>false
 |_,_=>false
end
mutual
theorem Nl:∀ (a b:D),dB a b=true->a=b
 |.lf a,b,h=>by
  cases b <;> simp only[dB,Bool.false_eq_true]at h;rw[Yc h]
 |.st s a,b,h=>by
  cases b <;> simp only[dB,Bool.false_eq_true,Bool.and_eq_true]at h;rw[Ld h.1,sM _ _ h.2]
 |.ar s a,b,h=>by
  cases b <;> simp only[dB,Bool.false_eq_true,Bool.and_eq_true]at h;rw[Nat.eq_of_beq_eq_true h.1,sM _ _ h.2]
 |.sl t s a,b,h=>by
  cases b <;> simp only[dB,Bool.false_eq_true,Bool.and_eq_true,beq_iff_eq]at h;rw[h.1.1,Nat.eq_of_beq_eq_true h.1.2,sM _ _ h.2]
 |.fp a,b,h=>by
  cases b <;> simp only[dB,Bool.false_eq_true]at h;rw[Nl _ _ h]
 |.e0,b,h=>by
  cases b <;> simp only[dB,Bool.false_eq_true]at h;rfl
 |.tu a,b,h=>by
  cases b <;> simp only[dB,Bool.false_eq_true]at h;rw[sM _ _ h]
 |.ref _ _,b,h=>by cases b <;> simp[dB]at h
 |.own _ _ _ _,b,h=>by cases b <;> simp[dB]at h
 |.fn _ _ _,b,h=>by cases b <;> simp[dB]at h
 |.dZ _ _,b,h=>by cases b <;> simp[dB]at h
 |.bL,b,h=>by cases b <;> simp[dB]at h
 |.mp _,b,h=>by cases b <;> simp[dB]at h
 |.mo _ _,b,h=>by cases b <;> simp[dB]at h
 |.yd _,b,h=>by cases b <;> simp[dB]at h
 |.lo _ _ _ _,b,h=>by cases b <;> simp[dB]at h
 |.lb _ _ _ _,b,h=>by cases b <;> simp[dB]at h
 |.fZ _,b,h=>by cases b <;> simp[dB]at h
 |.df,b,h=>by cases b <;> simp[dB]at h
theorem sM:∀ (l m:List D),l6 l m=true->l=m
 | [],m,h=>by cases m <;> simp[l6]at h;rfl
 |a :: l,m,h=>by
  cases m with
  |nil=>simp[l6]at h
  |cons b m =>
   simp only[l6]at h;split at h
   · rename_i h1;rw[Nl _ _ h1,sM _ _ h]
   · simp at h
end
def iV:List (Nat × List D × D)->Nat->List D->Option D
 | [],_,_=>none
 |(f,az,d) :: l,k,bs=>match Nat.beq f k with
  |true=>match l6 az bs with
   |true=>some d
   |false=>iV l k bs
  |false=>iV l k bs
theorem Eg {gl:Nat->D} : ∀ (l:List (Nat × List D × D)),(∀ x∈l,Pure P gl x.1 x.2.1 x.2.2)->∀ f args d,iV l f args=some d->Pure P gl f args d
 | [],_,f,args,d,h=>by simp[iV]at h
 |(k,az,e) :: l,hl,f,args,d,h=>by
  have ih:=Eg l (λx hx=>hl x (List.mem_cons_of_mem _ hx)) f args d;simp only[iV]at h;split at h
  · rename_i h1;split at h
    · rename_i h2;simp only[Option.some.injEq]at h;subst h;have:=hl _ (List.mem_cons_self ..);rw[Nat.eq_of_beq_eq_true h1,sM _ _ h2]at this;exact this
    · exact ih h
  · exact ih h
end
end Go.Proofs.YtadecgbblajifaaGreatDoor.DV
namespace Go.Proofs.YtadecgbblajifaaGreatDoor
end Go.Proofs.YtadecgbblajifaaGreatDoor
namespace Go.Proofs.YtadecgbblajifaaGreatDoor.DV
open Go
noncomputable section
def Cm {α β:Type} : Nat->List α->Tr α->(Tr α->β)->β
 |_,[],t,K=>K t
 |k,y :: l,t,K=>dK t k (some y) λt=>Cm (Nat.succ k) l t K
theorem Lg {α β:Type} : ∀ (l:List α) (k:Nat) (t:Tr α) (K:Tr α->β),Cm k l t K=K (lF k (l.map some) t)
 | [],_,_,_=>rfl
 |y :: l,k,t,K=>by
  rw[Cm,gp,Lg l];simp only[List.map_cons,lF,gp]
def Cn {α β:Type} : List (Nat × α)->Tr α->(Tr α->β)->β
 | [],t,K=>K t
 |(k,y) :: l,t,K=>dK t k (some y) λt=>Cn l t K
def yH {α:Type} : List (Nat × α)->Tr α->Tr α
 | [],t=>t
 |(k,y) :: l,t=>yH l (bu t k (some y))
theorem Lh {α β:Type} : ∀ (l:List (Nat × α)) (t:Tr α) (K:Tr α->β),Cn l t K=K (yH l t)
 | [],_,_=>rfl
 |(k,y) :: l,t,K=>by rw[Cn,gp,Lh l];rfl
theorem Kt {α:Type} {y:α} {j:Nat} : ∀ (l:List (Nat × α)) (t:Tr α),aN (yH l t) j=some y->(j,y)∈l\/aN t j=some y
 | [],_,h => .inr h
 |(k,z) :: l,t,h=>by
  rcases Kt l _ h with h1|h1
  · exact .inl (List.mem_cons_of_mem _ h1)
  · rw[iY]at h1;split at h1
    · rename_i h2;simp only[Option.some.injEq]at h1;rw[h2,← h1];exact .inl (List.mem_cons_self ..)
    · exact .inr h1
abbrev ns:D := .lf (.slice none 0 0)
abbrev ni:D := .lf (.int .i64 0)
abbrev nt:D := .lf (.string ⟨⟨[]⟩⟩)
abbrev nu:D := .lf (.int .u8 0)
abbrev nb:D := .lf (.bool false)
def yI:List (Nat × Ty):=[(2,⟨(.it .i64),false,1,8,ni,[]⟩),(3,⟨(.it .i64),false,1,8,ni,[]⟩),(4,⟨.bo,false,1,1,nb,[]⟩),(5,⟨(.it .u8),false,1,1,nu,[]⟩),(9,⟨.str,false,1,16,nt,[]⟩),(21,⟨(.it .i32),false,1,4,(.lf (.int .i32 (.ofNat 0))),[]⟩),(22,⟨(.sl 75 3),false,1,24,ns,[]⟩),(23,⟨(.sl 48 6),false,1,24,ns,[]⟩),(24,⟨(.sl 26 4),false,1,24,ns,[]⟩),(26,⟨(.st [(0,1,false),(1,1,false),(2,1,false),(3,1,false)]),true,4,56,(.st [1,1,1,1] [nu,ni,nt,ns]),[]⟩),(28,⟨(.st [(0,1,false),(1,1,false),(2,4,true)]),true,6,104,(.st [1,1,4] [ns,ns,(.st [1,1,1,1] [nu,ni,nt,ns])]),[]⟩),(31,⟨(.sl 89 4),false,1,24,ns,[]⟩),(33,⟨(.st [(0,1,false),(1,1,false),(2,1,false)]),true,3,40,(.st [1,1,1] [ns,ni,ni]),[]⟩),(34,⟨(.sl 69 5),false,1,24,ns,[]⟩),(35,⟨(.sl 67 2),false,1,24,ns,[]⟩),(37,⟨(.st [(0,1,false),(1,1,false)]),true,2,48,(.st [1,1] [ns,ns]),[]⟩),(39,⟨(.st [(0,1,false),(1,1,false),(2,3,true),(5,2,true)]),true,7,128,(.st [1,1,3,2] [nt,ns,(.st [1,1,1] [ns,ni,ni]),(.st [1,1] [ns,ns])]),[]⟩),(40,⟨(.it .i64),false,1,8,ni,[]⟩),(48,⟨(.st [(0,1,false),(1,1,false),(2,4,true)]),true,6,96,(.st [1,1,4] [nt,ns,(.st [1,1,1,1] [nu,ni,nt,ns])]),[]⟩),(51,⟨(.sl 5 1),false,1,24,ns,[]⟩),(65,⟨(.sl 3 1),false,1,24,ns,[]⟩),(67,⟨(.st [(0,1,false),(1,1,false)]),true,2,24,(.st [1,1] [ni,nt]),[(.it .i64),.str]⟩),(69,⟨(.st [(0,1,false),(1,1,false),(2,1,false),(3,1,false),(4,1,false)]),true,5,40,(.st [1,1,1,1,1] [nu,ni,ni,ni,ni]),[(.it .u8),(.it .i64),(.it .i64),(.it .i64),(.it .i64)]⟩),(73,⟨.fu,false,1,8,(.lf .nilFunc),[]⟩),(75,⟨(.st [(0,1,false),(1,1,false),(2,1,false)]),true,3,32,(.st [1,1,1] [nt,nu,ni]),[.str,(.it .u8),(.it .i64)]⟩),(78,⟨(.sl 124 4),false,1,24,ns,[]⟩),(80,⟨(.sl 83 4),false,1,24,ns,[]⟩),(83,⟨(.st [(0,1,false),(1,1,false),(2,1,false),(3,1,false)]),true,4,56,(.st [1,1,1,1] [ni,ns,ni,nt]),[]⟩),(89,⟨(.st [(0,1,false),(1,1,false),(2,1,false),(3,1,false)]),true,4,40,(.st [1,1,1,1] [nt,nu,ni,ni]),[.str,(.it .u8),(.it .i64),(.it .i64)]⟩),(98,⟨(.ar 4 3 1),true,4,32,(.ar 1 [ni,ni,ni,ni]),[]⟩),(102,⟨(.st [(0,1,false),(1,1,false)]),true,2,32,(.st [1,1] [ns,nb]),[]⟩),(112,⟨.fu,false,1,8,(.lf .nilFunc),[]⟩),(114,⟨(.pt 120),false,1,8,(.lf (.pointer .none)),[]⟩),(117,⟨(.sl 169 3),false,1,24,ns,[]⟩),(118,⟨(.mp 9 5),false,1,8,(.lf (.map .none)),[]⟩),(120,⟨(.st [(0,1,false),(1,1,false),(2,1,false),(3,1,false),(4,1,false),(5,1,false)]),true,6,64,(.st [1,1,1,1,1,1] [ns,ni,ni,(.lf (.map .none)),ni,ni]),[]⟩),(122,⟨(.pt 3),false,1,8,(.lf (.pointer .none)),[]⟩),(124,⟨(.st [(0,1,false),(1,1,false),(2,1,false),(3,1,false)]),true,4,56,(.st [1,1,1,1] [ni,ns,ni,nt]),[]⟩),(125,⟨.fu,false,1,8,(.lf .nilFunc),[]⟩),(129,⟨.fu,false,1,8,(.lf .nilFunc),[]⟩),(131,⟨(.sl 65 1),false,1,24,ns,[]⟩),(133,⟨(.st [(0,1,false),(1,1,false),(2,1,false)]),true,3,72,(.st [1,1,1] [ns,ns,ns]),[]⟩),(136,⟨(.mp 9 4),false,1,8,(.lf (.map .none)),[]⟩),(141,⟨(.st [(0,3,true),(3,1,false)]),true,4,64,(.st [3,1] [(.st [1,1,1] [ns,ni,ni]),ns]),[]⟩),(144,⟨(.st [(0,3,true),(3,1,false),(4,1,false)]),true,5,72,(.st [3,1,1] [(.st [1,1,1] [ns,ni,ni]),ns,ni]),[]⟩),(147,⟨(.mp 3 4),false,1,8,(.lf (.map .none)),[]⟩),(149,⟨.fu,false,1,8,(.lf .nilFunc),[]⟩),(153,⟨(.sl 155 2),false,1,24,ns,[]⟩),(155,⟨(.st [(0,1,false),(1,1,false)]),true,2,16,(.st [1,1] [ni,ni]),[(.it .i64),(.it .i64)]⟩),(157,⟨(.it .u64),false,1,8,(.lf (.int .u64 (.ofNat 0))),[]⟩),(158,⟨(.pt 102),false,1,8,(.lf (.pointer .none)),[]⟩),(169,⟨(.st [(0,1,false),(1,1,false),(2,1,false)]),true,3,32,(.st [1,1,1] [nu,nt,ni]),[(.it .u8),.str,(.it .i64)]⟩),(178,⟨.fu,false,1,8,(.lf .nilFunc),[]⟩),(189,⟨.fu,false,1,8,(.lf .nilFunc),[]⟩),(190,⟨(.pt 144),false,1,8,(.lf (.pointer .none)),[]⟩),(191,⟨(.sl 37 2),false,1,24,ns,[]⟩),(194,⟨(.st [(0,1,false),(1,1,false)]),true,2,24,(.st [1,1] [nt,ni]),[.str,(.it .i64)]⟩),(195,⟨(.ar 35 194 2),true,70,840,(.ar 2 [(.st [1,1] [nt,ni]),(.st [1,1] [nt,ni]),(.st [1,1] [nt,ni]),(.st [1,1] [nt,ni]),(.st [1,1] [nt,ni]),(.st [1,1] [nt,ni]),(.st [1,1] [nt,ni]),(.st [1,1] [nt,ni]),(.st [1,1] [nt,ni]),(.st [1,1] [nt,ni]),(.st [1,1] [nt,ni]),(.st [1,1] [nt,ni]),(.st [1,1] [nt,ni]),(.st [1,1] [nt,ni]),(.st [1,1] [nt,ni]),(.st [1,1] [nt,ni]),(.st [1,1] [nt,ni]),(.st [1,1] [nt,ni]),(.st [1,1] [nt,ni]),(.st [1,1] [nt,ni]),(.st [1,1] [nt,ni]),(.st [1,1] [nt,ni]),(.st [1,1] [nt,ni]),(.st [1,1] [nt,ni]),(.st [1,1] [nt,ni]),(.st [1,1] [nt,ni]),(.st [1,1] [nt,ni]),(.st [1,1] [nt,ni]),(.st [1,1] [nt,ni]),(.st [1,1] [nt,ni]),(.st [1,1] [nt,ni]),(.st [1,1] [nt,ni]),(.st [1,1] [nt,ni]),(.st [1,1] [nt,ni]),(.st [1,1] [nt,ni])]),[]⟩),(203,⟨.fu,false,1,8,(.lf .nilFunc),[]⟩),(204,⟨(.ar 43 9 1),true,43,688,(.ar 1 [nt,nt,nt,nt,nt,nt,nt,nt,nt,nt,nt,nt,nt,nt,nt,nt,nt,nt,nt,nt,nt,nt,nt,nt,nt,nt,nt,nt,nt,nt,nt,nt,nt,nt,nt,nt,nt,nt,nt,nt,nt,nt,nt]),[]⟩),(221,⟨.dZ,false,1,16,(.lf .nilIface),[]⟩),(225,⟨(.sl 9 1),false,1,24,ns,[]⟩),(228,⟨(.sl 73 1),false,1,24,ns,[]⟩),(237,⟨.fu,false,1,8,(.lf .nilFunc),[]⟩),(242,⟨(.it .i64),false,1,8,ni,[]⟩),(249,⟨(.it .u32),false,1,4,(.lf (.int .u32 (.ofNat 0))),[]⟩),(251,⟨(.it .u64),false,1,8,(.lf (.int .u64 (.ofNat 0))),[]⟩),(256,⟨(.st [(0,4,true),(4,1,false),(5,1,false)]),true,6,72,(.st [4,1,1] [(.st [1,1,1,1] [nu,ni,nt,ns]),ni,nb]),[]⟩),(257,⟨.fu,false,1,8,(.lf .nilFunc),[]⟩),(260,⟨(.it .u64),false,1,8,(.lf (.int .u64 (.ofNat 0))),[]⟩),(265,⟨(.it .i64),false,1,8,ni,[]⟩),(268,⟨(.pt 289),false,1,8,(.lf (.pointer .none)),[]⟩),(272,⟨(.sl 256 6),false,1,24,ns,[]⟩),(276,⟨.fu,false,1,8,(.lf .nilFunc),[]⟩),(279,⟨(.st [(0,3,true),(3,1,false)]),true,4,64,(.st [3,1] [(.st [1,1,1] [ns,ni,ni]),ns]),[]⟩),(289,⟨(.st [(0,1,false),(1,1,false),(2,1,false)]),true,3,48,(.st [1,1,1] [nt,nt,(.lf .nilIface)]),[]⟩),(295,⟨(.pt 279),false,1,8,(.lf (.pointer .none)),[]⟩),(299,⟨(.pt 5),false,1,8,(.lf (.pointer .none)),[]⟩),(300,⟨(.pt 302),false,1,8,(.lf (.pointer .none)),[]⟩),(302,⟨(.st [(0,1,false)]),true,1,16,(.st [1] [nt]),[.str]⟩),(305,⟨(.ar 24 5 1),true,24,24,(.ar 1 [nu,nu,nu,nu,nu,nu,nu,nu,nu,nu,nu,nu,nu,nu,nu,nu,nu,nu,nu,nu,nu,nu,nu,nu]),[]⟩),(309,⟨(.ar 20 251 1),true,20,160,(.ar 1 [(.lf (.int .u64 (.ofNat 0))),(.lf (.int .u64 (.ofNat 0))),(.lf (.int .u64 (.ofNat 0))),(.lf (.int .u64 (.ofNat 0))),(.lf (.int .u64 (.ofNat 0))),(.lf (.int .u64 (.ofNat 0))),(.lf (.int .u64 (.ofNat 0))),(.lf (.int .u64 (.ofNat 0))),(.lf (.int .u64 (.ofNat 0))),(.lf (.int .u64 (.ofNat 0))),(.lf (.int .u64 (.ofNat 0))),(.lf (.int .u64 (.ofNat 0))),(.lf (.int .u64 (.ofNat 0))),(.lf (.int .u64 (.ofNat 0))),(.lf (.int .u64 (.ofNat 0))),(.lf (.int .u64 (.ofNat 0))),(.lf (.int .u64 (.ofNat 0))),(.lf (.int .u64 (.ofNat 0))),(.lf (.int .u64 (.ofNat 0))),(.lf (.int .u64 (.ofNat 0)))]),[]⟩),(310,⟨(.ar 65 5 1),true,65,65,(.ar 1 [nu,nu,nu,nu,nu,nu,nu,nu,nu,nu,nu,nu,nu,nu,nu,nu,nu,nu,nu,nu,nu,nu,nu,nu,nu,nu,nu,nu,nu,nu,nu,nu,nu,nu,nu,nu,nu,nu,nu,nu,nu,nu,nu,nu,nu,nu,nu,nu,nu,nu,nu,nu,nu,nu,nu,nu,nu,nu,nu,nu,nu,nu,nu,nu,nu]),[]⟩),(311,⟨(.ar 32 5 1),true,32,32,(.ar 1 [nu,nu,nu,nu,nu,nu,nu,nu,nu,nu,nu,nu,nu,nu,nu,nu,nu,nu,nu,nu,nu,nu,nu,nu,nu,nu,nu,nu,nu,nu,nu,nu]),[]⟩),(312,⟨(.ar 64 5 1),true,64,64,(.ar 1 [nu,nu,nu,nu,nu,nu,nu,nu,nu,nu,nu,nu,nu,nu,nu,nu,nu,nu,nu,nu,nu,nu,nu,nu,nu,nu,nu,nu,nu,nu,nu,nu,nu,nu,nu,nu,nu,nu,nu,nu,nu,nu,nu,nu,nu,nu,nu,nu,nu,nu,nu,nu,nu,nu,nu,nu,nu,nu,nu,nu,nu,nu,nu,nu]),[]⟩)]
def Hw:List ByteArray:=[⟨⟨[]⟩⟩,⟨⟨[]⟩⟩,⟨⟨[]⟩⟩,⟨⟨[]⟩⟩,⟨⟨[]⟩⟩,⟨⟨[]⟩⟩,⟨⟨[45]⟩⟩,⟨⟨[33]⟩⟩,⟨⟨[43]⟩⟩,⟨⟨[45]⟩⟩,⟨⟨[42]⟩⟩,⟨⟨[47]⟩⟩,⟨⟨[37]⟩⟩,⟨⟨[38]⟩⟩,⟨⟨[124]⟩⟩,⟨⟨[94]⟩⟩,⟨⟨[61,61]⟩⟩,⟨⟨[33,61]⟩⟩,⟨⟨[60]⟩⟩,⟨⟨[60,61]⟩⟩,⟨⟨[62]⟩⟩,⟨⟨[62,61]⟩⟩,⟨⟨[38,38]⟩⟩,⟨⟨[124,124]⟩⟩,⟨⟨[]⟩⟩,⟨⟨[]⟩⟩,⟨⟨[]⟩⟩,⟨⟨[]⟩⟩,⟨⟨[]⟩⟩,⟨⟨[]⟩⟩,⟨⟨[]⟩⟩,⟨⟨[]⟩⟩,⟨⟨[]⟩⟩,⟨⟨[]⟩⟩,⟨⟨[]⟩⟩,⟨⟨[]⟩⟩,⟨⟨[]⟩⟩,⟨⟨[]⟩⟩,⟨⟨[]⟩⟩,⟨⟨[]⟩⟩,⟨⟨[43,61]⟩⟩,⟨⟨[45,61]⟩⟩,⟨⟨[94,61]⟩⟩]
def taV:List (ByteArray × Int):=[(⟨⟨[110,111,112]⟩⟩,0),(⟨⟨[97,100,100]⟩⟩,2),(⟨⟨[115,117,98]⟩⟩,2),(⟨⟨[120,111,114]⟩⟩,2),(⟨⟨[97,100,100,105]⟩⟩,2),(⟨⟨[115,117,98,105]⟩⟩,2),(⟨⟨[120,111,114,105]⟩⟩,2),(⟨⟨[115,119,97,112]⟩⟩,2),(⟨⟨[110,101,103]⟩⟩,1),(⟨⟨[99,97,108,99]⟩⟩,4),(⟨⟨[109,101,109]⟩⟩,2),(⟨⟨[105,100,120]⟩⟩,4),(⟨⟨[112,117,115,104]⟩⟩,2),(⟨⟨[112,111,112]⟩⟩,2),(⟨⟨[116,111,112]⟩⟩,2),(⟨⟨[115,105,122,101]⟩⟩,2),(⟨⟨[115,119,97,112,115]⟩⟩,2),(⟨⟨[114,101,97,100]⟩⟩,1),(⟨⟨[117,110,114,101,97,100]⟩⟩,1),(⟨⟨[119,114,105,116,101]⟩⟩,1),(⟨⟨[117,110,119,114,105,116,101]⟩⟩,1),(⟨⟨[122,101,114,111]⟩⟩,2),(⟨⟨[106,109,112]⟩⟩,1),(⟨⟨[106,109,112,122]⟩⟩,2),(⟨⟨[106,109,112,110]⟩⟩,2),(⟨⟨[108,97,110,100]⟩⟩,1),(⟨⟨[108,97,110,100,122]⟩⟩,2),(⟨⟨[108,97,110,100,110]⟩⟩,2),(⟨⟨[102,114,97,109,101]⟩⟩,2),(⟨⟨[117,110,102,114,97,109,101]⟩⟩,2),(⟨⟨[99,97,108,108]⟩⟩,1),(⟨⟨[117,110,99,97,108,108]⟩⟩,1),(⟨⟨[115,116,97,114,116]⟩⟩,1),(⟨⟨[101,110,100]⟩⟩,1),(⟨⟨[104,97,108,116]⟩⟩,0)]
def kE:Nat->D
 |1 => .fp (.ar 1 [.lf (.string ⟨⟨[]⟩⟩),.lf (.string ⟨⟨[]⟩⟩),.lf (.string ⟨⟨[]⟩⟩),.lf (.string ⟨⟨[]⟩⟩),.lf (.string ⟨⟨[]⟩⟩),.lf (.string ⟨⟨[]⟩⟩),.lf (.string ⟨⟨[45]⟩⟩),.lf (.string ⟨⟨[33]⟩⟩),.lf (.string ⟨⟨[43]⟩⟩),.lf (.string ⟨⟨[45]⟩⟩),.lf (.string ⟨⟨[42]⟩⟩),.lf (.string ⟨⟨[47]⟩⟩),.lf (.string ⟨⟨[37]⟩⟩),.lf (.string ⟨⟨[38]⟩⟩),.lf (.string ⟨⟨[124]⟩⟩),.lf (.string ⟨⟨[94]⟩⟩),.lf (.string ⟨⟨[61,61]⟩⟩),.lf (.string ⟨⟨[33,61]⟩⟩),.lf (.string ⟨⟨[60]⟩⟩),.lf (.string ⟨⟨[60,61]⟩⟩),.lf (.string ⟨⟨[62]⟩⟩),.lf (.string ⟨⟨[62,61]⟩⟩),.lf (.string ⟨⟨[38,38]⟩⟩),.lf (.string ⟨⟨[124,124]⟩⟩),.lf (.string ⟨⟨[]⟩⟩),.lf (.string ⟨⟨[]⟩⟩),.lf (.string ⟨⟨[]⟩⟩),.lf (.string ⟨⟨[]⟩⟩),.lf (.string ⟨⟨[]⟩⟩),.lf (.string ⟨⟨[]⟩⟩),.lf (.string ⟨⟨[]⟩⟩),.lf (.string ⟨⟨[]⟩⟩),.lf (.string ⟨⟨[]⟩⟩),.lf (.string ⟨⟨[]⟩⟩),.lf (.string ⟨⟨[]⟩⟩),.lf (.string ⟨⟨[]⟩⟩),.lf (.string ⟨⟨[]⟩⟩),.lf (.string ⟨⟨[]⟩⟩),.lf (.string ⟨⟨[]⟩⟩),.lf (.string ⟨⟨[]⟩⟩),.lf (.string ⟨⟨[43,61]⟩⟩),.lf (.string ⟨⟨[45,61]⟩⟩),.lf (.string ⟨⟨[94,61]⟩⟩)])
 |0 => .fp (.ar 2 [.st [1,1] [.lf (.string ⟨⟨[110,111,112]⟩⟩),.lf (.int .i64 0)],.st [1,1] [.lf (.string ⟨⟨[97,100,100]⟩⟩),.lf (.int .i64 2)],.st [1,1] [.lf (.string ⟨⟨[115,117,98]⟩⟩),.lf (.int .i64 2)],.st [1,1] [.lf (.string ⟨⟨[120,111,114]⟩⟩),.lf (.int .i64 2)],.st [1,1] [.lf (.string ⟨⟨[97,100,100,105]⟩⟩),.lf (.int .i64 2)],.st [1,1] [.lf (.string ⟨⟨[115,117,98,105]⟩⟩),.lf (.int .i64 2)],.st [1,1] [.lf (.string ⟨⟨[120,111,114,105]⟩⟩),.lf (.int .i64 2)],.st [1,1] [.lf (.string ⟨⟨[115,119,97,112]⟩⟩),.lf (.int .i64 2)],.st [1,1] [.lf (.string ⟨⟨[110,101,103]⟩⟩),.lf (.int .i64 1)],.st [1,1] [.lf (.string ⟨⟨[99,97,108,99]⟩⟩),.lf (.int .i64 4)],.st [1,1] [.lf (.string ⟨⟨[109,101,109]⟩⟩),.lf (.int .i64 2)],.st [1,1] [.lf (.string ⟨⟨[105,100,120]⟩⟩),.lf (.int .i64 4)],.st [1,1] [.lf (.string ⟨⟨[112,117,115,104]⟩⟩),.lf (.int .i64 2)],.st [1,1] [.lf (.string ⟨⟨[112,111,112]⟩⟩),.lf (.int .i64 2)],.st [1,1] [.lf (.string ⟨⟨[116,111,112]⟩⟩),.lf (.int .i64 2)],.st [1,1] [.lf (.string ⟨⟨[115,105,122,101]⟩⟩),.lf (.int .i64 2)],.st [1,1] [.lf (.string ⟨⟨[115,119,97,112,115]⟩⟩),.lf (.int .i64 2)],.st [1,1] [.lf (.string ⟨⟨[114,101,97,100]⟩⟩),.lf (.int .i64 1)],.st [1,1] [.lf (.string ⟨⟨[117,110,114,101,97,100]⟩⟩),.lf (.int .i64 1)],.st [1,1] [.lf (.string ⟨⟨[119,114,105,116,101]⟩⟩),.lf (.int .i64 1)],.st [1,1] [.lf (.string ⟨⟨[117,110,119,114,105,116,101]⟩⟩),.lf (.int .i64 1)],.st [1,1] [.lf (.string ⟨⟨[122,101,114,111]⟩⟩),.lf (.int .i64 2)],.st [1,1] [.lf (.string ⟨⟨[106,109,112]⟩⟩),.lf (.int .i64 1)],.st [1,1] [.lf (.string ⟨⟨[106,109,112,122]⟩⟩),.lf (.int .i64 2)],.st [1,1] [.lf (.string ⟨⟨[106,109,112,110]⟩⟩),.lf (.int .i64 2)],.st [1,1] [.lf (.string ⟨⟨[108,97,110,100]⟩⟩),.lf (.int .i64 1)],.st [1,1] [.lf (.string ⟨⟨[108,97,110,100,122]⟩⟩),.lf (.int .i64 2)],.st [1,1] [.lf (.string ⟨⟨[108,97,110,100,110]⟩⟩),.lf (.int .i64 2)],.st [1,1] [.lf (.string ⟨⟨[102,114,97,109,101]⟩⟩),.lf (.int .i64 2)],.st [1,1] [.lf (.string ⟨⟨[117,110,102,114,97,109,101]⟩⟩),.lf (.int .i64 2)],.st [1,1] [.lf (.string ⟨⟨[99,97,108,108]⟩⟩),.lf (.int .i64 1)],.st [1,1] [.lf (.string ⟨⟨[117,110,99,97,108,108]⟩⟩),.lf (.int .i64 1)],.st [1,1] [.lf (.string ⟨⟨[115,116,97,114,116]⟩⟩),.lf (.int .i64 1)],.st [1,1] [.lf (.string ⟨⟨[101,110,100]⟩⟩),.lf (.int .i64 1)],.st [1,1] [.lf (.string ⟨⟨[104,97,108,116]⟩⟩),.lf (.int .i64 0)]])
 |_ => .bL
theorem Wq:(yI.map λx=>Gg Tryz.prog x.1)=yI.map λx=>some x.2:=by kernel_rfl
theorem Xc:bW Tryz.prog λt=>aN (yH yI .e) t:=by
 intro t y h;rcases Kt _ _ h with h1|h1
 · obtain⟨i,hi,h2⟩:=List.getElem_of_mem h1;have h3:=congrArg (λl=>l[i]?) Wq;simp only[List.getElem?_map,List.getElem?_eq_getElem hi,h2,Option.map_some,Option.some.injEq]at h3;exact Wm h3
 · simp[aN,tgt]at h1
theorem Ws:OU Tryz.prog (Tryz.prog.funcs.toList.map some):=⟨rfl,by kernel_rfl⟩
def ctx (T:Tr Ty) (F:Tr Func) (O:Nat->List D->Option D):Cx:=⟨λt=>aN T t,kE,λf=>aN F f,λk=>Nat.beq k 222,O,λ_ _ _=>False⟩
def pW (O:Nat->List D->Option D) (f:Nat) (az:List D):Option D:=Cn yI .e λT=>Cm 0 Tryz.prog.funcs.toList .e λF=>Bh 1000 (ev (ctx T F O) (Gd (ctx T F O)) 100000 (.call f az) S0)
theorem Wu {T : Tr Ty} {F : Tr Func} {O : Nat -> List D -> Option D} (hT : bW Tryz.prog λt => aN T t) (hF : ∀ k fn, aN F k = some fn -> Tryz.prog.funcs[k]? = some fn /\ (fn.name == "runtime.NumGoroutine") = false) (hO : ∀ f args d, O f args = some d -> Pure Tryz.prog kE f args d) : gT Tryz.prog (ctx T F O) :=
 ⟨hO,λ_ _ _ h=>h.elim,hT,hF,λk b c v w h hr=>by
  have h:Nat.beq k 222=true:=h;rw[Nat.eq_of_beq_eq_true h,Go.run_callFunc_extern Tryz.func222 (by kernel_rfl) (by kernel_rfl) (by kernel_rfl) (e:=Extern.BytealgIndexByte.indexByte) (by kernel_rfl),hr]
  rfl⟩
theorem Li {O:Nat->List D->Option D} (hO:∀ f args d,O f args=some d->Pure Tryz.prog kE f args d):gT Tryz.prog (ctx (yH yI .e) (lF 0 (Tryz.prog.funcs.toList.map some) .e) O) :=
 Wu Xc (Xb Ws) hO
theorem Fz.bL:Fz [.bL]:=λg h vs _ H=>by simpa only[ay,CR]using H
theorem Xd (i:Nat):Fz [kE i]:=by
 unfold kE;split
 · exact Fz.Ef (n:=10) (by kernel_rfl)
 · exact Fz.Ef (n:=10) (by kernel_rfl)
 · exact Fz.bL
theorem mixed:Tryz.prog.follows .mixedOrders=true:=by kernel_rfl
theorem sN {O:Nat->List D->Option D} {f k:Nat} {az:List D} {d:D} (h:pW O f az=some d) (ha:j4 (yG (λ_=>none) k) az=some az) (hO:∀ f args d,O f args=some d->Pure Tryz.prog kE f args d):Pure Tryz.prog kE f az d:=by
 unfold pW at h;rw[Lh,Lg]at h;exact Wp (Li hO) (Wl mixed (Li hO)) h (Fz.Ef ha) Xd
def Cells (w:World) (b:Nat) (cs:List Value):Prop:=∃ blk,mem w b=some blk/\blk.take cs.length=cs
theorem JG {w:World} {b:Nat} {cs:List Value} (h:∀ k v,cs[k]? = some v->w.cell? ⟨b,k,none⟩=some v) (h0:cs≠[]):Cells w b cs:=by
 cases hm:mem w b with
 |none =>
  cases cs with
  |nil=>exact absurd rfl h0
  |cons v cs =>
   have h1:=h 0 v rfl;unfold mem at hm;unfold World.cell? at h1;split at hm
   · simp at hm
   · rename_i h2;split at h1
     · rename_i c e f h3;exact absurd h3 (h2 _ _ _)
     all_goals simp at h1
 |some blk =>
  refine⟨blk,hm,List.ext_getElem? λk => ?_⟩;rw[List.getElem?_take];split
  · rename_i hk;have h1:=h k cs[k] (List.getElem?_eq_getElem hk);rw[y8 hm]at h1;rw[h1,List.getElem?_eq_getElem hk]
  · rename_i hk;rw[List.getElem?_eq_none (by omega)]
def Co:List Value:=Hw.map .string
def Cq:List Value:=taV.flatMap λx=>[.string x.1,.int .i64 x.2]
theorem JH {g:G} {w:World} {b:Nat} {cs:List Value} {d:D} (hc:Cells w b cs) (hg:g.fm b=mem w b) (hd:cZ d cs=true):VR g (.fp d) (.pointer (some ⟨b,0,none⟩)):=by
 obtain⟨blk,h1,h2⟩:=hc;have h3:=DC (g:=g) d cs hd;have h4:=congrArg List.length h2;simp only[List.length_take]at h4;simp only[VR,CR];refine⟨b,0,blk,cs.length,rfl,by rw[hg,h1],by omega,?_⟩
 simpa[h2]using h3
theorem U3 {f : Nat} {w : World} {d : D} (h : Pure Tryz.prog kE f [] d) (hf : ((Tryz.prog.funcs[f]?).map λfn => fn.body.isSome && !(fn.name == "runtime.NumGoroutine")) = some true) (h1 : Cells w 1 Co) (h2 : Cells w 0 Cq) :
 Calls Tryz.prog f #[] w λe w'=>∃ v,e = .returned v/\(∃ g,VR g d v)/\(∀ b,b<w.heap.size->w'.heap[b]? = w.heap[b]?)/\w.heap.size<=w'.heap.size/\Sm w w':=by
 have h3:=h ⟨λb=>if b=1\/b=0 then mem w b else none,λ_=>none⟩ (λ_=>none) w [] (Rel.nil λb c hb=>by simp only at hb;split at hb <;> simp_all) (λi=>by
  unfold kE;split
  · exact JH h1 (by simp) (by kernel_rfl)
  · exact JH h2 (by simp) (by kernel_rfl)
  · simp[VR,CR]) (by simp[ay])
 rcases h3 with⟨_,h3⟩|⟨v,w',h3,_⟩
 · refine h3.mono ?_;rintro e w' ⟨v,rfl,g',_,E,V⟩;refine⟨v,rfl,⟨g',V⟩,λb hb=>E.fr b ?_,E.hp,E.sm⟩;rintro(h|⟨i,l,h,_⟩)
   · omega
   · simp at h
 · exfalso;cases hq:Tryz.prog.funcs[f]? with
   |none=>rw[hq]at hf;simp at hf
   |some fn =>
    rw[hq]at hf;simp only[Option.map_some,Option.some.injEq,Bool.and_eq_true,Bool.not_eq_true',beq_eq_false_iff_ne]at hf;have hb:¬ fn.body=none:=by intro hb;rw[hb]at hf;simp at hf
    simp[callFunc,hq,hf.2,hb]at h3
end
end Go.Proofs.YtadecgbblajifaaGreatDoor.DV
namespace Go.Proofs.YtadecgbblajifaaGreatDoor
end Go.Proofs.YtadecgbblajifaaGreatDoor
