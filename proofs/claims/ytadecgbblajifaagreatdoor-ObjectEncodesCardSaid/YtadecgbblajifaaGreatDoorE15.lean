import Derived.Test.YtadecgbblajifaaGreatDoorE14
import Derived.Test.YtadecgbblajifaaGreatDoorChecked
import Derived.KernelRfl
import Derived.Laws.Externs
set_option linter.unusedSimpArgs false
set_option linter.unusedVariables false
set_option maxRecDepth 100000
set_option maxHeartbeats 25600000
namespace Go.Proofs.YtadecgbblajifaaGreatDoor
end Go.Proofs.YtadecgbblajifaaGreatDoor
namespace Go.Proofs.YtadecgbblajifaaGreatDoor.DV
open Go
noncomputable section
variable {P:Program} {C:Cx} {B:Base} {r:Option Nat}
def Cm (pre:List (Nat × Option D)):List (Nat × Nat):=pre.map λp=>(p.1,p.1)
def okF (pin:List Nat) (ρ:List (Nat × Nat)) (dD:Nat) (pre post:List (Nat × Option D)):Bool:=BI ρ (dD+1) && (pre.all λp=>Nat.blt p.1 dD && mem1 p.1 (keys post)) && (pin.all λi=>fA ρ i == some i && (lk pre i).isSome) && ρ.all λp=>Nat.beq p.1 dD || mem1 p.1 pin
structure wH (C:Cx) (fn:Func) (pin:List Nat) (dD:Nat) (pre:List (Nat × Option D)) (d:D) (post:List (Nat × Option D)) (ex:Ex) (t:S):Prop where
 out:(ex = .normal\/ex = .ret)/\t.ms=[]/\∃ tm st ds ρ,t.tm=bX tm/\t.s=bX st/\kW C.T st tm fn.results.toList=some ds/\okF pin ρ dD pre post=true/\Rn ρ (tN ds) d/\mW ρ st post
section
variable {fn:Func} {pin:List Nat} {d:D} {tm st pre post:List (Nat × Option D)} {nx n dD:Nat} {ds:List D}
end
theorem Qh {pre:List (Nat × Option D)} {i j:Nat} (h:(i,j)∈Cm pre):i=j:=by
 obtain⟨p,_,h⟩:=List.mem_map.1 h
 simp only[Prod.mk.injEq]at h
 rw[← h.1,← h.2]
theorem Q8 {l:List (Nat × Option D)} {i:Nat} (h:lk l i≠none):∃ d,(i,d)∈l:=by
 induction l with
 |nil=>simp[lk]at h
 |cons p l ih =>
  obtain⟨k,d⟩:=p
  simp only[lk]at h
  cases hb:Nat.beq k i with
  |true=>rw[Nat.eq_of_beq_eq_true hb];exact⟨d,List.mem_cons_self ..⟩
  |false =>
   rw[hb]at h
   obtain⟨d',h'⟩:=ih h
   exact⟨d',List.mem_cons_of_mem _ h'⟩
theorem aal {l:List (Nat × Option D)} (h:∀ p∈l,p.2≠none) {q:Nat × Option D} (hq:q∈l):lk l q.1≠none:=by
 induction l with
 |nil=>simp at hq
 |cons p l ih =>
  obtain⟨k,d⟩:=p
  simp only[lk]
  cases hb:Nat.beq k q.1 with
  |true=>exact h (k,d) (List.mem_cons_self ..)
  |false =>
   rcases List.mem_cons.1 hq with rfl|hq
   · simp at hb
   · exact ih (λp hp=>h p (List.mem_cons_of_mem _ hp)) hq
theorem Qi (pin : List Nat) {fn : Func} {c : Code} {f dD : Nat} {args : List D} {d : D} {pre post : List (Nat × Option D)} (hT : cZ P C.T) (hf : P.funcs[f]? = some fn) (hn : (fn.name == "runtime.NumGoroutine") = false) (hb : fn.body = some c) (hl : Nat.ble args.length fn.ntmps = true) (hx : (pre.all λp => Nat.blt p.1 dD && p.2.isSome) = true) (hg : ∀ i, ak (C.gl i)) (ha : eP (Cm pre) args args) (hpre : mW (Cm pre) pre pre)
 (h:∀ B:G × World,Run P C ⟨B.1,B.2,lk pre,pin⟩ none c (Z (nU 0 args) pre dD fn.ntmps) (wH C fn pin dD pre d post)):kT P C.gl f args (lk pre) dD d post:=by
 intro g w vs R hid hgl hvs
 have hn' : ¬ fn.name = "runtime.NumGoroutine" := by simpa using hn
 refine .inl ⟨by simp[callFunc,hf,hn',hb],callsIn_wide.1 (callsIn_of_wp_marks (n:=0) hf hb trivial ?_)⟩
 have hx':∀ p∈pre,p.1<dD/\p.2≠none:=λp hp=>by
  have:=List.all_eq_true.1 hx p hp
  simp only[Bool.and_eq_true]at this
  exact⟨Nat.le_of_ble_eq_true this.1,λq=>by rw[q]at this;simp at this⟩
 have hlt:∀ i,lk pre i≠none->i<dD:=by
  intro i hi
  obtain⟨d,hm⟩:=Q8 hi
  exact(hx' _ hm).1
 have hkey:∀ p∈Cm pre,p.1=p.2/\lk pre p.1≠none:=by
  intro p hp
  refine⟨Qh (i:=p.1) (j:=p.2) hp,?_⟩
  obtain⟨q,hq,h⟩:=List.mem_map.1 hp
  rw[← h]
  exact aal (λp hp=>(hx' p hp).2) hq
 generalize hg1:(⟨g.fm,λi=>match lk pre i with|some _=>g.ae i|none=>none⟩:G)=g1
 have hf1:g1.fm=g.fm:=by rw[← hg1]
 have hr1:∀ i,lk pre i≠none->g1.ae i=g.ae i:=by
  intro i hi
  obtain⟨d,hd⟩:=Option.ne_none_iff_exists'.1 hi
  rw[← hg1]
  simp only[hd]
 have hr1':∀ i l,g1.ae i=some l->lk pre i≠none/\g.ae i=some l:=by
  intro i l h
  rw[← hg1]at h
  simp only at h
  split at h
  · rename_i x hx;exact⟨by rw[hx];simp,h⟩
  · simp at h
 have rD:∀ b c,g.fm b=some c->g1.fm b=some c:=λb c h=>by rw[hf1];exact h
 have hrr:∀ p∈Cm pre,g1.ae p.1=g.ae p.2:=λp hp=>by rw[hr1 _ (hkey p hp).2,(hkey p hp).1]
 have UR:∀ i d,lk pre i=some d->∃ l blk,Has g w i d l blk/\Has g1 w i d l blk:=by
  intro i d hi
  obtain⟨j,x,h1,h2,h3,h4,h5,h6⟩:=hpre.get hi
  have:=Qh h1
  subst this
  rw[hi]at h2
  simp only[Option.some.injEq]at h2
  subst h2
  obtain⟨l,blk,H⟩:=R.has hi h5
  exact⟨l,blk,H,⟨by rw[hr1 i (by rw[hi];simp)];exact H.ae,H.row,by rw[hf1];exact H.fm,H.len,H.sz,H.s,h3 g g1 rD hrr _ _ H.cr⟩⟩
 have hM:∀ b,Mine g1 (lk pre) w b->Mine g (lk pre) w b:=by
  rintro b (h|⟨i,l,h1,h2,rfl⟩)
  · exact .inl h
  · exact .inr ⟨i,l,h1,(hr1' i l h2).2,rfl⟩
 have R1:Rel g1 (lk pre) w:=⟨λb c hb=>R.fm b c (by rw[hf1]at hb;exact hb),λi d hi=>by
  obtain⟨l,blk,_,H⟩:=UR i d hi
  exact⟨l,.inl ⟨blk,H⟩⟩,λi j l m hi hj hl hm hlm=>R.dj i j l m hi hj (hr1' _ _ hl).2 (hr1' _ _ hm).2 hlm⟩
 have ha':aC g1 args vs:=ha.l8 rD hrr hvs
 have hlen:=aC.len _ _ ha'
 have hle:=Nat.le_of_ble_eq_true hl
 have es:aA (bX pre)=lk pre:=by funext j;exact jU pre j
 have hS:St C (Z (nU 0 args) pre dD fn.ntmps) g1 { tmps:=(⟨vs⟩:Array Value) ++ Array.replicate (fn.ntmps - (⟨vs⟩:Array Value).size) undef,defers:=[] } w :=
  ⟨by rw[es];exact R1,λk=>by
   have:=Jc (n:=fn.ntmps) ha' k
   simp only[Q7]at this
   simp only[qY]
   exact this,by simp;omega,λi hi=>by
   cases hq:g1.ae i with
   |none=>rfl
   |some l =>
    have:=hlt i (hr1' i l hq).1
    simp only at hi
    omega,λi=>hg i g g1 rD _ _ (hgl i),rfl⟩
 have hI:Inv ⟨g1,w,lk pre,pin⟩ g1 w:=⟨λ_ _ h=>h,Nat.le_refl _,λ_ _=>rfl,λ_ h => .inl h,λi l hi => .inr ⟨i,l,(hr1' i l hi).1,hi,rfl⟩,.refl w,λ_ _ _ h=>h⟩
 refine wpIn_mono ((h (g1,w)).out 0 _ _ w hS hI) ?_
 rintro e a1 w1 ⟨ex,t,gE,⟨hex,hms,tm,st,ds,ρ,jy,hst,hds,hρ,hd,hsub⟩,he,hS1,hI1⟩
 have ac8:LK ρ (dD+1)/\(∀ p∈pre,p.1<dD/\p.1∈keys post)/\(∀ i∈pin,fA ρ i=some i/\lk pre i≠none)/\∀ p∈ρ,p.1=dD\/p.1∈pin:=by
  unfold okF at hρ
  simp only[Bool.and_eq_true]at hρ
  refine⟨Qf hρ.1.1.1,λp hp => ?_,λi hi => ?_,λp hp => ?_⟩
  · have:=List.all_eq_true.1 hρ.1.1.2 p hp
    simp only[Bool.and_eq_true]at this
    exact⟨Nat.le_of_ble_eq_true this.1,(jO _ _).1 this.2⟩
  · have:=List.all_eq_true.1 hρ.1.2 i hi
    simp only[Bool.and_eq_true,beq_iff_eq]at this
    exact⟨this.1,λq=>by rw[q]at this;simp at this⟩
  · have:=List.all_eq_true.1 hρ.2 p hp
    simp only[Bool.or_eq_true]at this
    rcases this with h|h
    · exact .inl (Nat.eq_of_beq_eq_true h)
    · exact .inr ((jO _ _).1 h)
 obtain⟨hok,aca,hpn,hdom⟩:=ac8
 have acb:∀ i,lk pre i≠none->i∈keys post:=by
  intro i hi
  obtain⟨d,hm⟩:=Q8 hi
  exact(aca _ hm).2
 have main:LeavesInM Fence.wide 0 P fn a1.tmps (λe w'=>∃ v,e = .returned v/\Out g (lk pre) w (· = dD) d post v w') a1.defers .returning w1:=by
  have hdf:a1.defers=[]:=by have:=hS1.ms;rw[hms]at this;exact this
  rw[hdf]
  have hrel:=hS1.rel
  rw[hst,show aA (bX st)=lk st from by funext j;exact jU st j]at hrel
  obtain⟨v,h6,h7⟩:=Ju (P:=P) (fn:=fn) (tm:=a1.tmps) hT hS1.rel hS1.tm (by rw[hst,jy];exact D5 hds)
  refine⟨v,h6,v,rfl,?_⟩
  generalize hk:(⟨gE.fm,λi=>match fA ρ i with|some j=>gE.ae j|none=>g.ae i⟩:G)=k
  have bW:k.fm=gE.fm:=by rw[← hk]
  have LP:∀ b c,gE.fm b=some c->k.fm b=some c:=λb c h=>by rw[bW];exact h
  have hkr:∀ p∈ρ,k.ae p.1=gE.ae p.2:=by
   intro p hp
   rw[← hk]
   simp only[(hok p hp).2.1]
  have hpr:∀ i l,i∈pin->g.ae i=some l->gE.ae i=some l:=by
   intro i l hi hl
   exact hI1.rk i hi l (by rw[hr1 i (hpn i hi).2];exact hl)
  have hcas:∀ i l,k.ae i=some l->(∃ j,(i,j)∈ρ/\gE.ae j=some l)\/(fA ρ i=none/\g.ae i=some l):=by
   intro i l h
   rw[← hk]at h
   simp only at h
   split at h
   · rename_i j hj;exact .inl ⟨j,qM hj,h⟩
   · rename_i hn;exact .inr ⟨hn,h⟩
  have hap:app post (lk pre)=lk post:=by
   funext i
   unfold app
   cases he:aH post i with
   |some x=>exact(O5 he).symm
   |none =>
    obtain⟨q1,q2⟩:=O6 he
    rw[q1]
    cases hq:lk pre i with
    |none=>rfl
    |some x=>exact absurd (acb i (by rw[hq];simp)) q2
  have ob:∀ i d,lk post i=some d->∃ j x l blk,(i,j)∈ρ/\lk st j=some x/\Has gE w1 j x l blk/\Has k w1 i d l blk:=by
   intro i d hi
   obtain⟨j,x,h1,h2,h3,h4,h5,h6⟩:=hsub.get hi
   obtain⟨l,blk,H⟩:=hrel.has h2 h5
   exact⟨j,x,l,blk,h1,h2,H,⟨by rw[hkr _ h1];exact H.ae,H.row,by rw[bW];exact H.fm,H.len,by rw[← h4];exact H.sz,h6 l H.s,by rw[← h4];exact h3 gE k LP hkr _ _ H.cr⟩⟩
  refine⟨k,?_,?_,hd gE k LP hkr _ _ h7⟩
  · rw[hap]
    refine⟨λb c hb=>hrel.fm b c (by rw[bW]at hb;exact hb),λi d hi => ?_,λi j l m hi hj hl hm hlm => ?_⟩
    · obtain⟨_,_,l,blk,_,_,_,H⟩:=ob i d hi
      exact⟨l,.inl ⟨blk,H⟩⟩
    · obtain⟨c1,hc1⟩:=Option.ne_none_iff_exists'.1 hi
      obtain⟨c2,hc2⟩:=Option.ne_none_iff_exists'.1 hj
      obtain⟨i0,x1,l1,b1,h1,h2,H1,K1⟩:=ob i c1 hc1
      obtain⟨j0,x2,l2,b2,h3,h4,H2,K2⟩:=ob j c2 hc2
      have q1:l1=l:=by have:=K1.ae;rw[hl]at this;simpa using this.symm
      have q2:l2=m:=by have:=K2.ae;rw[hm]at this;simpa using this.symm
      subst q1 q2
      have:=hrel.dj i0 j0 _ _ (by simp[h2]) (by simp[h4]) H1.ae H2.ae hlm
      subst this
      exact(hok _ h3).2.2 _ h1 rfl
  · rw[hap]
    refine⟨⟨λb c hb=>LP _ _ (hI1.fm b c (rD b c hb)),λi l hi => ?_⟩,hI1.hp,λb hb=>hI1.fr b λh=>hb (hM b h),λb hb => ?_,λi l hi => ?_,λi hi => ?_,hI1.sm⟩
    · rw[← hk]
      simp only
      split
      · rename_i j hj
        have hm:=qM hj
        rcases hdom _ hm with h1|h1
        · simp only at h1
          rw[h1,hid]at hi;simp at hi
        · have h2:=(hpn _ h1).1
          simp only at h1 h2
          rw[h2]at hj
          simp only[Option.some.injEq]at hj
          rw[← hj]
          exact hpr i l h1 hi
      · exact hi
    · rcases hI1.jv b (by rw[bW]at hb;exact hb)with h|h
      · left;simp only[hf1]at h;exact h
      · exact .inr (hM b h)
    · rcases hcas i l hi with⟨j,h1,h2⟩|⟨_,h2⟩
      · rcases hdom _ h1 with h3|h3
        · exact .inr ⟨hM _ (hI1.rn j l h2),h3⟩
        · left
          have h4:=(hpn _ h3).1
          have h6:=(hpn _ h3).2
          have h5:=(hok _ h1).2.1
          simp only at h3 h4 h5
          rw[h4]at h5
          simp only[Option.some.injEq]at h5
          subst h5
          obtain⟨c1,hc1⟩:=Option.ne_none_iff_exists'.1 h6
          obtain⟨l',blk,H,_⟩:=UR _ c1 hc1
          have:=hpr _ _ h3 H.ae
          rw[h2]at this
          simp only[Option.some.injEq]at this
          rw[this];exact H.ae
      · exact .inl h2
    · obtain⟨c,hc⟩:=Option.ne_none_iff_exists'.1 hi
      obtain⟨j,x,_,_,h1,_⟩:=ob i c hc
      rcases hdom _ h1 with h|h
      · exact .inr h
      · exact .inl (hpn _ h).2
 rcases hex with rfl|rfl <;> cases e <;> simp only[iH]at he
 · exact main
 · exact main
end
end Go.Proofs.YtadecgbblajifaaGreatDoor.DV
namespace Go.Proofs.YtadecgbblajifaaGreatDoor
end Go.Proofs.YtadecgbblajifaaGreatDoor
namespace Go.Proofs.YtadecgbblajifaaGreatDoor.DV
open Go
noncomputable section
variable {P:Program} {C:Cx} {B:Base} {r:Option Nat}
def FN (σ:au) (d e:D):Prop:=∀ (g h:G) (w:World),(∀ i c,σ i=some c->fU c=false->∃ l blk,Has g w i c l blk)->(∀ b c,g.fm b=some c->h.fm b=some c)->(∀ i,h.ae i=g.ae i)->(∀ i d l blk,σ i=some d->Has g w i d l blk->h.fm l.b=some blk)->∀ m cs,CR g m d cs->CR h m e cs
def rP (σ:au):List D->List D->Prop
 | [],[]=>True
 |d :: ds,e :: es=>FN σ d e/\rP σ ds es
 |_,_=>False
theorem FN.of {σ:au} {d e:D} (h:FR σ d e):FN σ d e:=λg k w a b _ c m cs H=>h g k w a b c m cs H
theorem FN.lf {σ:au} (v:Value):FN σ (.lf v) (.lf v) := .of (.lf v)
theorem FN.fz {σ:au} {d:D} (h:ak d):FN σ d d := .of (.fz h)
theorem FN.ref {σ:au} (i:Nat) (p:List (Nat × Nat)):FN σ (.ref i p) (.ref i p):=λg h w _ _ hr _ m cs H=>by
 simp only[CR]at H ⊢
 obtain⟨l,h1,h2⟩:=H
 exact⟨l,by rw[hr];exact h1,h2⟩
theorem FN.own {σ:au} (t:Bool) (i off n:Nat):FN σ (.own t i off n) (.own t i off n):=λg h w _ _ hr _ m cs H=>by
 simp only[CR]at H ⊢
 obtain⟨l,a,c,h1,h2⟩:=H
 exact⟨l,a,c,by rw[hr];exact h1,h2⟩
theorem rP.kH {σ:au} {g h:G} {w:World} (h1:∀ i c,σ i=some c->fU c=false->∃ l blk,Has g w i c l blk) (h2:∀ b c,g.fm b=some c->h.fm b=some c) (hr:∀ i,h.ae i=g.ae i) (h3:∀ i d l blk,σ i=some d->Has g w i d l blk->h.fm l.b=some blk):∀ {ds es:List D} {ss:List Nat} {cs:List Value},rP σ ds es->aj g ss ds cs->aj h ss es cs
 | [],[],ss,cs,_,H=>by cases ss <;> simp only[aj]at H ⊢ <;> exact H
 |d :: ds,e :: es,ss,cs,hf,H=>by
  cases ss with
  |nil=>simp only[aj]at H
  |cons s ss =>
   simp only[aj]at H ⊢
   exact⟨H.1,hf.1 g h w h1 h2 hr h3 _ _ H.2.1,rP.kH h1 h2 hr h3 hf.2 H.2.2⟩
 | [],_ :: _,_,_,hf,_=>hf.elim
 |_ :: _,[],_,_,hf,_=>hf.elim
theorem rP.len {σ:au} : ∀ {ds es:List D},rP σ ds es->es.length=ds.length
 | [],[],_=>rfl
 |_ :: _,_ :: _,h=>by simp[rP.len h.2]
 | [],_ :: _,h=>h.elim
 |_ :: _,[],h=>h.elim
theorem FN.st {σ:au} {ss:List Nat} {ds es:List D} (hf:rP σ ds es):FN σ (.st ss ds) (.st ss es):=λg h w h1 h2 hr h3 m cs H=>by
 simp only[CR]at H ⊢
 obtain⟨c,a,b⟩:=H
 exact⟨c,a,hf.kH h1 h2 hr h3 b⟩
theorem FN.ar {σ:au} {s:Nat} {ds es:List D} (hf:rP σ ds es):FN σ (.ar s ds) (.ar s es):=λg h w h1 h2 hr h3 m cs H=>by
 simp only[CR,hf.len]at H ⊢
 obtain⟨c,a,b⟩:=H
 exact⟨c,a,hf.kH h1 h2 hr h3 b⟩
def yE (σ:au) (tm:List (Nat × Option D)):List (Nat × Option D)->Prop
 | []=>True
 |(k,some d) :: l=>FN σ (dl tm k) d/\yE σ tm l
 |(_,none) :: l=>yE σ tm l
def yF (σ:au) (tc:List Nat) (st:List (Nat × Option D)):List (Nat × Option D)->Prop
 | []=>True
 |(k,some d) :: l=>(∃ e,mem1 k tc=false/\lk st k=some e/\FN σ e d/\sz e=sz d/\fU e=false/\∀ lo:Loc,jr lo e->jr lo d)/\yF σ tc st l
 |(_,none) :: l=>yF σ tc st l
theorem yE.get {σ:au} {tm:List (Nat × Option D)} : ∀ {l:List (Nat × Option D)} {k:Nat} {d:D},yE σ tm l->lk l k=some d->FN σ (dl tm k) d
 | [],k,d,_,h=>by simp[lk]at h
 |(j,e) :: l,k,d,hs,h=>by
  rw[lk]at h
  split at h
  · rename_i hb
    have:=Nat.eq_of_beq_eq_true hb
    subst this
    cases e with
    |none=>simp at h
    |some e=>simp only[Option.some.injEq]at h;subst h;exact hs.1
  · cases e with
    |none=>exact yE.get (l:=l) hs h
    |some e=>exact yE.get hs.2 h
theorem yF.get {σ:au} {tc:List Nat} {st:List (Nat × Option D)} : ∀ {l:List (Nat × Option D)} {k:Nat} {d:D},yF σ tc st l->lk l k=some d->∃ e,mem1 k tc=false/\lk st k=some e/\FN σ e d/\sz e=sz d/\fU e=false/\∀ lo:Loc,jr lo e->jr lo d
 | [],k,d,_,h=>by simp[lk]at h
 |(j,e) :: l,k,d,hs,h=>by
  rw[lk]at h
  split at h
  · rename_i hb
    have:=Nat.eq_of_beq_eq_true hb
    subst this
    cases e with
    |none=>simp at h
    |some e=>simp only[Option.some.injEq]at h;subst h;exact hs.1
  · cases e with
    |none=>exact yF.get (l:=l) hs h
    |some e=>exact yF.get hs.2 h
end
end Go.Proofs.YtadecgbblajifaaGreatDoor.DV
namespace Go.Proofs.YtadecgbblajifaaGreatDoor
end Go.Proofs.YtadecgbblajifaaGreatDoor
namespace Go.Proofs.YtadecgbblajifaaGreatDoor.DV
open Go
noncomputable section
def Gf {α β:Type} : Nat->List α->Tr α->(Tr α->β)->β
 |_,[],t,K=>K t
 |k,y :: l,t,K=>iU t k (some y) λt=>Gf (Nat.succ k) l t K
theorem Q9 {α β:Type} : ∀ (l:List α) (k:Nat) (t:Tr α) (K:Tr α->β),Gf k l t K=K (qh k (l.map some) t)
 | [],_,_,_=>rfl
 |y :: l,k,t,K=>by
  rw[Gf,j6,Q9 l]
  simp only[List.map_cons,qh,j6]
def Gg {α β:Type} : List (Nat × α)->Tr α->(Tr α->β)->β
 | [],t,K=>K t
 |(k,y) :: l,t,K=>iU t k (some y) λt=>Gg l t K
def zz {α:Type} : List (Nat × α)->Tr α->Tr α
 | [],t=>t
 |(k,y) :: l,t=>zz l (ed t k (some y))
theorem Ra {α β:Type} : ∀ (l:List (Nat × α)) (t:Tr α) (K:Tr α->β),Gg l t K=K (zz l t)
 | [],_,_=>rfl
 |(k,y) :: l,t,K=>by rw[Gg,j6,Ra l];rfl
theorem Qj {α:Type} {y:α} {j:Nat} : ∀ (l:List (Nat × α)) (t:Tr α),aX (zz l t) j=some y->(j,y)∈l\/aX t j=some y
 | [],_,h => .inr h
 |(k,z) :: l,t,h=>by
  rcases Qj l _ h with h1|h1
  · exact .inl (List.mem_cons_of_mem _ h1)
  · rw[lG]at h1
    split at h1
    · rename_i h2
      simp only[Option.some.injEq]at h1
      rw[h2,← h1]
      exact .inl (List.mem_cons_self ..)
    · exact .inr h1
abbrev ns:D := .lf (.slice none 0 0)
abbrev ni:D := .lf (.int .i64 0)
abbrev nt:D := .lf (.string ⟨⟨[]⟩⟩)
abbrev nu:D := .lf (.int .u8 0)
abbrev nb:D := .lf (.bool false)
def zA:List (Nat × Ty):=[(2,⟨(.it .i64),false,1,8,ni,[]⟩),(3,⟨(.it .i64),false,1,8,ni,[]⟩),(4,⟨.bo,false,1,1,nb,[]⟩),(5,⟨(.it .u8),false,1,1,nu,[]⟩),(9,⟨.str,false,1,16,nt,[]⟩),(21,⟨(.it .i32),false,1,4,(.lf (.int .i32 (.ofNat 0))),[]⟩),(22,⟨(.sl 75 3),false,1,24,ns,[]⟩),(23,⟨(.sl 48 6),false,1,24,ns,[]⟩),(24,⟨(.sl 26 4),false,1,24,ns,[]⟩),(26,⟨(.st [(0,1,false),(1,1,false),(2,1,false),(3,1,false)]),true,4,56,(.st [1,1,1,1] [nu,ni,nt,ns]),[]⟩),(28,⟨(.st [(0,1,false),(1,1,false),(2,4,true)]),true,6,104,(.st [1,1,4] [ns,ns,(.st [1,1,1,1] [nu,ni,nt,ns])]),[]⟩),(31,⟨(.sl 89 4),false,1,24,ns,[]⟩),(33,⟨(.st [(0,1,false),(1,1,false),(2,1,false)]),true,3,40,(.st [1,1,1] [ns,ni,ni]),[]⟩),(34,⟨(.sl 69 5),false,1,24,ns,[]⟩),(35,⟨(.sl 67 2),false,1,24,ns,[]⟩),(37,⟨(.st [(0,1,false),(1,1,false)]),true,2,48,(.st [1,1] [ns,ns]),[]⟩),(39,⟨(.st [(0,1,false),(1,1,false),(2,3,true),(5,2,true)]),true,7,128,(.st [1,1,3,2] [nt,ns,(.st [1,1,1] [ns,ni,ni]),(.st [1,1] [ns,ns])]),[]⟩),(40,⟨(.it .i64),false,1,8,ni,[]⟩),(48,⟨(.st [(0,1,false),(1,1,false),(2,4,true)]),true,6,96,(.st [1,1,4] [nt,ns,(.st [1,1,1,1] [nu,ni,nt,ns])]),[]⟩),(51,⟨(.sl 5 1),false,1,24,ns,[]⟩),(65,⟨(.sl 3 1),false,1,24,ns,[]⟩),(67,⟨(.st [(0,1,false),(1,1,false)]),true,2,24,(.st [1,1] [ni,nt]),[(.it .i64),.str]⟩),(69,⟨(.st [(0,1,false),(1,1,false),(2,1,false),(3,1,false),(4,1,false)]),true,5,40,(.st [1,1,1,1,1] [nu,ni,ni,ni,ni]),[(.it .u8),(.it .i64),(.it .i64),(.it .i64),(.it .i64)]⟩),(73,⟨.fu,false,1,8,(.lf .nilFunc),[]⟩),(75,⟨(.st [(0,1,false),(1,1,false),(2,1,false)]),true,3,32,(.st [1,1,1] [nt,nu,ni]),[.str,(.it .u8),(.it .i64)]⟩),(78,⟨(.sl 124 4),false,1,24,ns,[]⟩),(80,⟨(.sl 83 4),false,1,24,ns,[]⟩),(83,⟨(.st [(0,1,false),(1,1,false),(2,1,false),(3,1,false)]),true,4,56,(.st [1,1,1,1] [ni,ns,ni,nt]),[]⟩),(89,⟨(.st [(0,1,false),(1,1,false),(2,1,false),(3,1,false)]),true,4,40,(.st [1,1,1,1] [nt,nu,ni,ni]),[.str,(.it .u8),(.it .i64),(.it .i64)]⟩),(98,⟨(.ar 4 3 1),true,4,32,(.ar 1 [ni,ni,ni,ni]),[]⟩),(102,⟨(.st [(0,1,false),(1,1,false)]),true,2,32,(.st [1,1] [ns,nb]),[]⟩),(112,⟨.fu,false,1,8,(.lf .nilFunc),[]⟩),(114,⟨(.pt 120),false,1,8,(.lf (.pointer .none)),[]⟩),(117,⟨(.sl 169 3),false,1,24,ns,[]⟩),(118,⟨(.mp 9 5),false,1,8,(.lf (.map .none)),[]⟩),(120,⟨(.st [(0,1,false),(1,1,false),(2,1,false),(3,1,false),(4,1,false),(5,1,false)]),true,6,64,(.st [1,1,1,1,1,1] [ns,ni,ni,(.lf (.map .none)),ni,ni]),[]⟩),(122,⟨(.pt 3),false,1,8,(.lf (.pointer .none)),[]⟩),(124,⟨(.st [(0,1,false),(1,1,false),(2,1,false),(3,1,false)]),true,4,56,(.st [1,1,1,1] [ni,ns,ni,nt]),[]⟩),(125,⟨.fu,false,1,8,(.lf .nilFunc),[]⟩),(129,⟨.fu,false,1,8,(.lf .nilFunc),[]⟩),(131,⟨(.sl 65 1),false,1,24,ns,[]⟩),(133,⟨(.st [(0,1,false),(1,1,false),(2,1,false)]),true,3,72,(.st [1,1,1] [ns,ns,ns]),[]⟩),(136,⟨(.mp 9 4),false,1,8,(.lf (.map .none)),[]⟩),(141,⟨(.st [(0,3,true),(3,1,false)]),true,4,64,(.st [3,1] [(.st [1,1,1] [ns,ni,ni]),ns]),[]⟩),(144,⟨(.st [(0,3,true),(3,1,false),(4,1,false)]),true,5,72,(.st [3,1,1] [(.st [1,1,1] [ns,ni,ni]),ns,ni]),[]⟩),(147,⟨(.mp 3 4),false,1,8,(.lf (.map .none)),[]⟩),(149,⟨.fu,false,1,8,(.lf .nilFunc),[]⟩),(153,⟨(.sl 155 2),false,1,24,ns,[]⟩),(155,⟨(.st [(0,1,false),(1,1,false)]),true,2,16,(.st [1,1] [ni,ni]),[(.it .i64),(.it .i64)]⟩),(157,⟨(.it .u64),false,1,8,(.lf (.int .u64 (.ofNat 0))),[]⟩),(158,⟨(.pt 102),false,1,8,(.lf (.pointer .none)),[]⟩),(169,⟨(.st [(0,1,false),(1,1,false),(2,1,false)]),true,3,32,(.st [1,1,1] [nu,nt,ni]),[(.it .u8),.str,(.it .i64)]⟩),(178,⟨.fu,false,1,8,(.lf .nilFunc),[]⟩),(189,⟨.fu,false,1,8,(.lf .nilFunc),[]⟩),(190,⟨(.pt 144),false,1,8,(.lf (.pointer .none)),[]⟩),(191,⟨(.sl 37 2),false,1,24,ns,[]⟩),(194,⟨(.st [(0,1,false),(1,1,false)]),true,2,24,(.st [1,1] [nt,ni]),[.str,(.it .i64)]⟩),(195,⟨(.ar 35 194 2),true,70,840,(.ar 2 [(.st [1,1] [nt,ni]),(.st [1,1] [nt,ni]),(.st [1,1] [nt,ni]),(.st [1,1] [nt,ni]),(.st [1,1] [nt,ni]),(.st [1,1] [nt,ni]),(.st [1,1] [nt,ni]),(.st [1,1] [nt,ni]),(.st [1,1] [nt,ni]),(.st [1,1] [nt,ni]),(.st [1,1] [nt,ni]),(.st [1,1] [nt,ni]),(.st [1,1] [nt,ni]),(.st [1,1] [nt,ni]),(.st [1,1] [nt,ni]),(.st [1,1] [nt,ni]),(.st [1,1] [nt,ni]),(.st [1,1] [nt,ni]),(.st [1,1] [nt,ni]),(.st [1,1] [nt,ni]),(.st [1,1] [nt,ni]),(.st [1,1] [nt,ni]),(.st [1,1] [nt,ni]),(.st [1,1] [nt,ni]),(.st [1,1] [nt,ni]),(.st [1,1] [nt,ni]),(.st [1,1] [nt,ni]),(.st [1,1] [nt,ni]),(.st [1,1] [nt,ni]),(.st [1,1] [nt,ni]),(.st [1,1] [nt,ni]),(.st [1,1] [nt,ni]),(.st [1,1] [nt,ni]),(.st [1,1] [nt,ni]),(.st [1,1] [nt,ni])]),[]⟩),(203,⟨.fu,false,1,8,(.lf .nilFunc),[]⟩),(204,⟨(.ar 43 9 1),true,43,688,(.ar 1 [nt,nt,nt,nt,nt,nt,nt,nt,nt,nt,nt,nt,nt,nt,nt,nt,nt,nt,nt,nt,nt,nt,nt,nt,nt,nt,nt,nt,nt,nt,nt,nt,nt,nt,nt,nt,nt,nt,nt,nt,nt,nt,nt]),[]⟩),(221,⟨.gZ,false,1,16,(.lf .nilIface),[]⟩),(225,⟨(.sl 9 1),false,1,24,ns,[]⟩),(228,⟨(.sl 73 1),false,1,24,ns,[]⟩),(237,⟨.fu,false,1,8,(.lf .nilFunc),[]⟩),(242,⟨(.it .i64),false,1,8,ni,[]⟩),(249,⟨(.it .u32),false,1,4,(.lf (.int .u32 (.ofNat 0))),[]⟩),(251,⟨(.it .u64),false,1,8,(.lf (.int .u64 (.ofNat 0))),[]⟩),(256,⟨(.st [(0,4,true),(4,1,false),(5,1,false)]),true,6,72,(.st [4,1,1] [(.st [1,1,1,1] [nu,ni,nt,ns]),ni,nb]),[]⟩),(257,⟨.fu,false,1,8,(.lf .nilFunc),[]⟩),(260,⟨(.it .u64),false,1,8,(.lf (.int .u64 (.ofNat 0))),[]⟩),(265,⟨(.it .i64),false,1,8,ni,[]⟩),(268,⟨(.pt 289),false,1,8,(.lf (.pointer .none)),[]⟩),(272,⟨(.sl 256 6),false,1,24,ns,[]⟩),(276,⟨.fu,false,1,8,(.lf .nilFunc),[]⟩),(279,⟨(.st [(0,3,true),(3,1,false)]),true,4,64,(.st [3,1] [(.st [1,1,1] [ns,ni,ni]),ns]),[]⟩),(289,⟨(.st [(0,1,false),(1,1,false),(2,1,false)]),true,3,48,(.st [1,1,1] [nt,nt,(.lf .nilIface)]),[]⟩),(295,⟨(.pt 279),false,1,8,(.lf (.pointer .none)),[]⟩),(299,⟨(.pt 5),false,1,8,(.lf (.pointer .none)),[]⟩),(300,⟨(.pt 302),false,1,8,(.lf (.pointer .none)),[]⟩),(302,⟨(.st [(0,1,false)]),true,1,16,(.st [1] [nt]),[.str]⟩),(305,⟨(.ar 24 5 1),true,24,24,(.ar 1 [nu,nu,nu,nu,nu,nu,nu,nu,nu,nu,nu,nu,nu,nu,nu,nu,nu,nu,nu,nu,nu,nu,nu,nu]),[]⟩),(309,⟨(.ar 20 251 1),true,20,160,(.ar 1 [(.lf (.int .u64 (.ofNat 0))),(.lf (.int .u64 (.ofNat 0))),(.lf (.int .u64 (.ofNat 0))),(.lf (.int .u64 (.ofNat 0))),(.lf (.int .u64 (.ofNat 0))),(.lf (.int .u64 (.ofNat 0))),(.lf (.int .u64 (.ofNat 0))),(.lf (.int .u64 (.ofNat 0))),(.lf (.int .u64 (.ofNat 0))),(.lf (.int .u64 (.ofNat 0))),(.lf (.int .u64 (.ofNat 0))),(.lf (.int .u64 (.ofNat 0))),(.lf (.int .u64 (.ofNat 0))),(.lf (.int .u64 (.ofNat 0))),(.lf (.int .u64 (.ofNat 0))),(.lf (.int .u64 (.ofNat 0))),(.lf (.int .u64 (.ofNat 0))),(.lf (.int .u64 (.ofNat 0))),(.lf (.int .u64 (.ofNat 0))),(.lf (.int .u64 (.ofNat 0)))]),[]⟩),(310,⟨(.ar 65 5 1),true,65,65,(.ar 1 [nu,nu,nu,nu,nu,nu,nu,nu,nu,nu,nu,nu,nu,nu,nu,nu,nu,nu,nu,nu,nu,nu,nu,nu,nu,nu,nu,nu,nu,nu,nu,nu,nu,nu,nu,nu,nu,nu,nu,nu,nu,nu,nu,nu,nu,nu,nu,nu,nu,nu,nu,nu,nu,nu,nu,nu,nu,nu,nu,nu,nu,nu,nu,nu,nu]),[]⟩),(311,⟨(.ar 32 5 1),true,32,32,(.ar 1 [nu,nu,nu,nu,nu,nu,nu,nu,nu,nu,nu,nu,nu,nu,nu,nu,nu,nu,nu,nu,nu,nu,nu,nu,nu,nu,nu,nu,nu,nu,nu,nu]),[]⟩),(312,⟨(.ar 64 5 1),true,64,64,(.ar 1 [nu,nu,nu,nu,nu,nu,nu,nu,nu,nu,nu,nu,nu,nu,nu,nu,nu,nu,nu,nu,nu,nu,nu,nu,nu,nu,nu,nu,nu,nu,nu,nu,nu,nu,nu,nu,nu,nu,nu,nu,nu,nu,nu,nu,nu,nu,nu,nu,nu,nu,nu,nu,nu,nu,nu,nu,nu,nu,nu,nu,nu,nu,nu,nu]),[]⟩)]
def LQ:List ByteArray:=[⟨⟨[]⟩⟩,⟨⟨[]⟩⟩,⟨⟨[]⟩⟩,⟨⟨[]⟩⟩,⟨⟨[]⟩⟩,⟨⟨[]⟩⟩,⟨⟨[45]⟩⟩,⟨⟨[33]⟩⟩,⟨⟨[43]⟩⟩,⟨⟨[45]⟩⟩,⟨⟨[42]⟩⟩,⟨⟨[47]⟩⟩,⟨⟨[37]⟩⟩,⟨⟨[38]⟩⟩,⟨⟨[124]⟩⟩,⟨⟨[94]⟩⟩,⟨⟨[61,61]⟩⟩,⟨⟨[33,61]⟩⟩,⟨⟨[60]⟩⟩,⟨⟨[60,61]⟩⟩,⟨⟨[62]⟩⟩,⟨⟨[62,61]⟩⟩,⟨⟨[38,38]⟩⟩,⟨⟨[124,124]⟩⟩,⟨⟨[]⟩⟩,⟨⟨[]⟩⟩,⟨⟨[]⟩⟩,⟨⟨[]⟩⟩,⟨⟨[]⟩⟩,⟨⟨[]⟩⟩,⟨⟨[]⟩⟩,⟨⟨[]⟩⟩,⟨⟨[]⟩⟩,⟨⟨[]⟩⟩,⟨⟨[]⟩⟩,⟨⟨[]⟩⟩,⟨⟨[]⟩⟩,⟨⟨[]⟩⟩,⟨⟨[]⟩⟩,⟨⟨[]⟩⟩,⟨⟨[43,61]⟩⟩,⟨⟨[45,61]⟩⟩,⟨⟨[94,61]⟩⟩]
def taV:List (ByteArray × Int):=[(⟨⟨[110,111,112]⟩⟩,0),(⟨⟨[97,100,100]⟩⟩,2),(⟨⟨[115,117,98]⟩⟩,2),(⟨⟨[120,111,114]⟩⟩,2),(⟨⟨[97,100,100,105]⟩⟩,2),(⟨⟨[115,117,98,105]⟩⟩,2),(⟨⟨[120,111,114,105]⟩⟩,2),(⟨⟨[115,119,97,112]⟩⟩,2),(⟨⟨[110,101,103]⟩⟩,1),(⟨⟨[99,97,108,99]⟩⟩,4),(⟨⟨[109,101,109]⟩⟩,2),(⟨⟨[105,100,120]⟩⟩,4),(⟨⟨[112,117,115,104]⟩⟩,2),(⟨⟨[112,111,112]⟩⟩,2),(⟨⟨[116,111,112]⟩⟩,2),(⟨⟨[115,105,122,101]⟩⟩,2),(⟨⟨[115,119,97,112,115]⟩⟩,2),(⟨⟨[114,101,97,100]⟩⟩,1),(⟨⟨[117,110,114,101,97,100]⟩⟩,1),(⟨⟨[119,114,105,116,101]⟩⟩,1),(⟨⟨[117,110,119,114,105,116,101]⟩⟩,1),(⟨⟨[122,101,114,111]⟩⟩,2),(⟨⟨[106,109,112]⟩⟩,1),(⟨⟨[106,109,112,122]⟩⟩,2),(⟨⟨[106,109,112,110]⟩⟩,2),(⟨⟨[108,97,110,100]⟩⟩,1),(⟨⟨[108,97,110,100,122]⟩⟩,2),(⟨⟨[108,97,110,100,110]⟩⟩,2),(⟨⟨[102,114,97,109,101]⟩⟩,2),(⟨⟨[117,110,102,114,97,109,101]⟩⟩,2),(⟨⟨[99,97,108,108]⟩⟩,1),(⟨⟨[117,110,99,97,108,108]⟩⟩,1),(⟨⟨[115,116,97,114,116]⟩⟩,1),(⟨⟨[101,110,100]⟩⟩,1),(⟨⟨[104,97,108,116]⟩⟩,0)]
def dL:Nat->D
 |1 => .fp (.ar 1 [.lf (.string ⟨⟨[]⟩⟩),.lf (.string ⟨⟨[]⟩⟩),.lf (.string ⟨⟨[]⟩⟩),.lf (.string ⟨⟨[]⟩⟩),.lf (.string ⟨⟨[]⟩⟩),.lf (.string ⟨⟨[]⟩⟩),.lf (.string ⟨⟨[45]⟩⟩),.lf (.string ⟨⟨[33]⟩⟩),.lf (.string ⟨⟨[43]⟩⟩),.lf (.string ⟨⟨[45]⟩⟩),.lf (.string ⟨⟨[42]⟩⟩),.lf (.string ⟨⟨[47]⟩⟩),.lf (.string ⟨⟨[37]⟩⟩),.lf (.string ⟨⟨[38]⟩⟩),.lf (.string ⟨⟨[124]⟩⟩),.lf (.string ⟨⟨[94]⟩⟩),.lf (.string ⟨⟨[61,61]⟩⟩),.lf (.string ⟨⟨[33,61]⟩⟩),.lf (.string ⟨⟨[60]⟩⟩),.lf (.string ⟨⟨[60,61]⟩⟩),.lf (.string ⟨⟨[62]⟩⟩),.lf (.string ⟨⟨[62,61]⟩⟩),.lf (.string ⟨⟨[38,38]⟩⟩),.lf (.string ⟨⟨[124,124]⟩⟩),.lf (.string ⟨⟨[]⟩⟩),.lf (.string ⟨⟨[]⟩⟩),.lf (.string ⟨⟨[]⟩⟩),.lf (.string ⟨⟨[]⟩⟩),.lf (.string ⟨⟨[]⟩⟩),.lf (.string ⟨⟨[]⟩⟩),.lf (.string ⟨⟨[]⟩⟩),.lf (.string ⟨⟨[]⟩⟩),.lf (.string ⟨⟨[]⟩⟩),.lf (.string ⟨⟨[]⟩⟩),.lf (.string ⟨⟨[]⟩⟩),.lf (.string ⟨⟨[]⟩⟩),.lf (.string ⟨⟨[]⟩⟩),.lf (.string ⟨⟨[]⟩⟩),.lf (.string ⟨⟨[]⟩⟩),.lf (.string ⟨⟨[]⟩⟩),.lf (.string ⟨⟨[43,61]⟩⟩),.lf (.string ⟨⟨[45,61]⟩⟩),.lf (.string ⟨⟨[94,61]⟩⟩)])
 |0 => .fp (.ar 2 [.st [1,1] [.lf (.string ⟨⟨[110,111,112]⟩⟩),.lf (.int .i64 0)],.st [1,1] [.lf (.string ⟨⟨[97,100,100]⟩⟩),.lf (.int .i64 2)],.st [1,1] [.lf (.string ⟨⟨[115,117,98]⟩⟩),.lf (.int .i64 2)],.st [1,1] [.lf (.string ⟨⟨[120,111,114]⟩⟩),.lf (.int .i64 2)],.st [1,1] [.lf (.string ⟨⟨[97,100,100,105]⟩⟩),.lf (.int .i64 2)],.st [1,1] [.lf (.string ⟨⟨[115,117,98,105]⟩⟩),.lf (.int .i64 2)],.st [1,1] [.lf (.string ⟨⟨[120,111,114,105]⟩⟩),.lf (.int .i64 2)],.st [1,1] [.lf (.string ⟨⟨[115,119,97,112]⟩⟩),.lf (.int .i64 2)],.st [1,1] [.lf (.string ⟨⟨[110,101,103]⟩⟩),.lf (.int .i64 1)],.st [1,1] [.lf (.string ⟨⟨[99,97,108,99]⟩⟩),.lf (.int .i64 4)],.st [1,1] [.lf (.string ⟨⟨[109,101,109]⟩⟩),.lf (.int .i64 2)],.st [1,1] [.lf (.string ⟨⟨[105,100,120]⟩⟩),.lf (.int .i64 4)],.st [1,1] [.lf (.string ⟨⟨[112,117,115,104]⟩⟩),.lf (.int .i64 2)],.st [1,1] [.lf (.string ⟨⟨[112,111,112]⟩⟩),.lf (.int .i64 2)],.st [1,1] [.lf (.string ⟨⟨[116,111,112]⟩⟩),.lf (.int .i64 2)],.st [1,1] [.lf (.string ⟨⟨[115,105,122,101]⟩⟩),.lf (.int .i64 2)],.st [1,1] [.lf (.string ⟨⟨[115,119,97,112,115]⟩⟩),.lf (.int .i64 2)],.st [1,1] [.lf (.string ⟨⟨[114,101,97,100]⟩⟩),.lf (.int .i64 1)],.st [1,1] [.lf (.string ⟨⟨[117,110,114,101,97,100]⟩⟩),.lf (.int .i64 1)],.st [1,1] [.lf (.string ⟨⟨[119,114,105,116,101]⟩⟩),.lf (.int .i64 1)],.st [1,1] [.lf (.string ⟨⟨[117,110,119,114,105,116,101]⟩⟩),.lf (.int .i64 1)],.st [1,1] [.lf (.string ⟨⟨[122,101,114,111]⟩⟩),.lf (.int .i64 2)],.st [1,1] [.lf (.string ⟨⟨[106,109,112]⟩⟩),.lf (.int .i64 1)],.st [1,1] [.lf (.string ⟨⟨[106,109,112,122]⟩⟩),.lf (.int .i64 2)],.st [1,1] [.lf (.string ⟨⟨[106,109,112,110]⟩⟩),.lf (.int .i64 2)],.st [1,1] [.lf (.string ⟨⟨[108,97,110,100]⟩⟩),.lf (.int .i64 1)],.st [1,1] [.lf (.string ⟨⟨[108,97,110,100,122]⟩⟩),.lf (.int .i64 2)],.st [1,1] [.lf (.string ⟨⟨[108,97,110,100,110]⟩⟩),.lf (.int .i64 2)],.st [1,1] [.lf (.string ⟨⟨[102,114,97,109,101]⟩⟩),.lf (.int .i64 2)],.st [1,1] [.lf (.string ⟨⟨[117,110,102,114,97,109,101]⟩⟩),.lf (.int .i64 2)],.st [1,1] [.lf (.string ⟨⟨[99,97,108,108]⟩⟩),.lf (.int .i64 1)],.st [1,1] [.lf (.string ⟨⟨[117,110,99,97,108,108]⟩⟩),.lf (.int .i64 1)],.st [1,1] [.lf (.string ⟨⟨[115,116,97,114,116]⟩⟩),.lf (.int .i64 1)],.st [1,1] [.lf (.string ⟨⟨[101,110,100]⟩⟩),.lf (.int .i64 1)],.st [1,1] [.lf (.string ⟨⟨[104,97,108,116]⟩⟩),.lf (.int .i64 0)]])
 |_ => .bZ
set_option maxRecDepth 100000 in
theorem aam:(zA.map λx=>KT Tryz.prog x.1)=zA.map λx=>some x.2:=by kernel_rfl
theorem JF:cZ Tryz.prog λt=>aX (zz zA .e) t:=by
 intro t y h
 rcases Qj _ _ h with h1|h1
 · obtain⟨i,hi,h2⟩:=List.getElem_of_mem h1
   have h3:=congrArg (λl=>l[i]?) aam
   simp only[List.getElem?_map,List.getElem?_eq_getElem hi,h2,Option.map_some,Option.some.injEq]at h3
   exact aab h3
 · simp[aX,tgt]at h1
theorem aan:Tw Tryz.prog (Tryz.prog.funcs.toList.map some):=⟨rfl,by kernel_rfl⟩
def ctx (T:Tr Ty) (F:Tr Func) (O:Nat->List D->Option D):Cx:=⟨λt=>aX T t,dL,λf=>aX F f,λk=>Nat.beq k 222,O,λ_ _ _=>False,λ_ _ _ _ _ _=>False⟩
def uE (O:Nat->List D->Option D) (f:Nat) (az:List D):Option D:=Gg zA .e λT=>Gf 0 Tryz.prog.funcs.toList .e λF=>Fa 1000 (ev (ctx T F O) (KR (ctx T F O)) 100000 (.call f az) S0)
theorem aao {T : Tr Ty} {F : Tr Func} {O : Nat -> List D -> Option D} (hT : cZ Tryz.prog λt => aX T t) (hF : ∀ k fn, aX F k = some fn -> Tryz.prog.funcs[k]? = some fn /\ (fn.name == "runtime.NumGoroutine") = false) (hO : ∀ f args d, O f args = some d -> Pure Tryz.prog dL f args d) : jH Tryz.prog (ctx T F O) :=
 ⟨hO,λ_ _ _ h=>h.elim,hT,hF,λk b c v w h hr=>by
  have h:Nat.beq k 222=true:=h
  rw[Nat.eq_of_beq_eq_true h,Go.run_callFunc_extern Tryz.func222 (by kernel_rfl) (by kernel_rfl) (by kernel_rfl) (e:=Extern.BytealgIndexByte.indexByte) (by kernel_rfl),hr]
  rfl,λ_ _ _ _ _ _ h=>h.elim⟩
theorem Rb {O:Nat->List D->Option D} (hO:∀ f args d,O f args=some d->Pure Tryz.prog dL f args d):jH Tryz.prog (ctx (zz zA .e) (qh 0 (Tryz.prog.funcs.toList.map some) .e) O) :=
 aao JF (abf aan) hO
theorem Fz.bZ:Fz [.bZ]:=λg h vs _ H=>by simpa only[aC,CR]using H
theorem abo (i:Nat):Fz [dL i]:=by
 unfold dL
 split
 · exact Fz.JC (n:=10) (by kernel_rfl)
 · exact Fz.JC (n:=10) (by kernel_rfl)
 · exact Fz.bZ
theorem mixed:Tryz.prog.follows .mixedOrders=true:=by kernel_rfl
theorem ym {O:Nat->List D->Option D} {f k:Nat} {az:List D} {d:D} (h:uE O f az=some d) (ha:nY (Cg (λ_=>none) k) az=some az) (hO:∀ f args d,O f args=some d->Pure Tryz.prog dL f args d):Pure Tryz.prog dL f az d:=by
 unfold uE at h
 rw[Ra,Q9]at h
 exact aae (Rb hO) (aaa mixed (Rb hO)) h (Fz.JC ha) abo
def Cells (w:World) (b:Nat) (cs:List Value):Prop:=∃ blk,mem w b=some blk/\blk.take cs.length=cs
theorem O7 {w:World} {b:Nat} {cs:List Value} (h:∀ k v,cs[k]? = some v->w.cell? ⟨b,k,none⟩=some v) (h0:cs≠[]):Cells w b cs:=by
 cases hm:mem w b with
 |none =>
  cases cs with
  |nil=>exact absurd rfl h0
  |cons v cs =>
   have h1:=h 0 v rfl
   unfold mem at hm
   unfold World.cell? at h1
   split at hm
   · simp at hm
   · rename_i h2
     split at h1
     · rename_i c e f h3
       exact absurd h3 (h2 _ _ _)
     all_goals simp at h1
 |some blk =>
  refine⟨blk,hm,List.ext_getElem? λk => ?_⟩
  rw[List.getElem?_take]
  split
  · rename_i hk
    have h1:=h k cs[k] (List.getElem?_eq_getElem hk)
    rw[vg hm]at h1
    rw[h1,List.getElem?_eq_getElem hk]
  · rename_i hk
    rw[List.getElem?_eq_none (by omega)]
def Gh:List Value:=LQ.map .string
def zB:List Value:=taV.flatMap λx=>[.string x.1,.int .i64 x.2]
theorem O8 {g:G} {w:World} {b:Nat} {cs:List Value} {d:D} (hc:Cells w b cs) (hg:g.fm b=mem w b) (hd:gQ d cs=true):VR g (.fp d) (.pointer (some ⟨b,0,none⟩)):=by
 obtain⟨blk,h1,h2⟩:=hc
 have h3:=Jd (g:=g) d cs hd
 have h4:=congrArg List.length h2
 simp only[List.length_take]at h4
 simp only[VR,CR]
 refine⟨b,0,blk,cs.length,rfl,by rw[hg,h1],by omega,?_⟩
 simpa[h2]using h3
end
end Go.Proofs.YtadecgbblajifaaGreatDoor.DV
namespace Go.Proofs.YtadecgbblajifaaGreatDoor
end Go.Proofs.YtadecgbblajifaaGreatDoor
