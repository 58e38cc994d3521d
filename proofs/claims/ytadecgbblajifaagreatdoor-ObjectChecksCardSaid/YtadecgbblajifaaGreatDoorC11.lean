import Derived.Test.YtadecgbblajifaaGreatDoorC10
set_option linter.unusedSimpArgs false
set_option linter.unusedVariables false
set_option maxRecDepth 100000
set_option maxHeartbeats 25600000
namespace Go.Proofs.YtadecgbblajifaaGreatDoor
end Go.Proofs.YtadecgbblajifaaGreatDoor
namespace Go.Proofs.YtadecgbblajifaaGreatDoor.DV
open Go
variable {P:Program} {C:Cx}
def uT (P:Program) (C:Cx) (J:mr):Prop:=∀ {o:Oper} {c:Call} {fo:Operand} {get:Operand->D} {st:Tr D} {nx:Nat} {d:D} {s1:S},o.op = .call c->c.callee = .value fo->J (dmap get c.args.toList) st nx (get fo) d s1 ->
 ∀ {g:G} {a:Act} {w:World},Rel g (ak st) w->(∀ i,nx<=i->g.aa i=none)->(∀ i,VR g (C.gl i) (.pointer (some ⟨i,0,none⟩)))->(∀ x,VR g (get x) (a.eval x))->∀ {r:Option Nat} {m:Nat} {next:Act->World->Prop} {Q:Exit->Act->World->Prop},
 (∀ v w',CK ⟨.e,st,nx,0,[],[],false⟩ g w d s1 v w'->next (a.put o.dst v) w')->o.wpIn (FW r) m P a w next Q
theorem NF {ih:bA->S->R} (hF:lH P C ih) (hKo:jl P C ih):uT P C (cR ih):=by
 intro o c fo get st nx d s1 hop lX hx g a w hR hfr hgl hget r m next Q hn
 unfold cR uS at hx
 split at hx
 · rename_i hfo
   rw[nk]at hx
   exact BB hF hop lX hfo hx hR hfr hgl hget hn
 · rename_i hfo
   exact BD hKo hop lX hfo hx hR hfr hgl hget hn
 · simp at hx
def own (base:Nat) (u:Rc) (k:Nat):Prop:=match u.c with
 |none=>k=base+u.i
 |some _=>u.n0<=k/\k<u.n1
structure Iv (C:Cx) (A:List Rc) (base n:Nat) (t0 st0:Tr D) (gK:Nat) (ms:List Nat) (rd:Bool) (g0:G) (w0:World) (L:Nat->Bool) (g:G) (a:Act) (w:World) (tL bE:Tr D):Prop where
 tm:ak tL=bf (te n) L A (ak t0)
 mem:ak bE=bf (·.e) L A (ak st0)
 st:St C ⟨tL,bE,gK,n,ms,[],rd⟩ g a w
 ext:Ext g0 (ak st0) w0 (λi=>base<=i) g (ak bE) w
 own:∀ k,g.aa k≠none->k<base\/∃ u∈A,L u.i=true/\own base u k
 ch:∀ u∈A,L u.i=true->CH u
section
variable {f:mr} {ops:Array Oper} {base n:Nat} {t0 st0 tF mD:Tr D} {gK:Nat} {dL kY:List Nat} {A:List Rc} {ms:List Nat} {rd:Bool} {g0:G} {w0:World}
theorem Iv.step (hA:dM C f (cz [] ops.toList) ops base n t0 st0 (base+ops.size) dL A tF mD gK kY) (kU:∀ k,base<=k->g0.aa k=none) {L:Nat->Bool} {u:Rc} {o:Oper} {post pre:List Rc} {t st:Tr D} {nx:Nat} {lg:List Nat}
 (hat:At C f (cz [] ops.toList) ops base n t0 st0 (base+ops.size) dL A u o post pre t st nx lg) (hL:L u.i=false) (hpost:∀ v∈post,L v.i=true->Ap u v) {g:G} {a:Act} {w:World} {tL bE:Tr D} (hI:Iv C A base n t0 st0 gK ms rd g0 w0 L g a w tL bE)
 {g':G} {w':World} {v:Value} {N:Nat->Prop} (R':Rel g' (app u.e (ak bE)) w') (x:Ext g (ak bE) w N g' (app u.e (ak bE)) w') (hN:∀ i,N i->base<=i) (hv:VR g' u.d v) (hown:∀ k,g'.aa k≠none->g.aa k≠none\/DV.own base u k) (hch:CH u) :
 Iv C A base n t0 st0 gK ms rd g0 w0 (up L u.i) g' (a.put u.dst v) w' (dH n tL u.dst u.d) (gG u.e bE):=by
 have hsize:(a.put u.dst v).tmps.size=a.tmps.size:=by cases u.dst <;> simp[Act.put]
 have hdef:(a.put u.dst v).defers=a.defers:=by cases u.dst <;> rfl
 have hown':∀ k,g'.aa k≠none->k<base\/∃ u'∈A,up L u.i u'.i=true/\DV.own base u' k:=by
  intro k hk
  rcases hown k hk with h|h
  · rcases hI.own k h with h1|⟨u',h1,h2,h3⟩
    · exact .inl h1
    · refine .inr ⟨u',h1,?_,h3⟩
      unfold up
      split
      · rfl
      · exact h2
  · exact .inr ⟨u,by rw[hat.eq];simp,by simp[up],h⟩
 refine⟨?_,?_,⟨?_,?_,?_,?_,?_,?_⟩,?_,hown',?_⟩
 · rw[Co,hI.tm,hat.eq]
   refine(xD hL hat.ne1 post hat.vV λv hv hl k hk=>uw λd hd he => ?_).symm
   subst he
   exact(hpost v hv hl).n3 d hd (Lv hk)
 · rw[iJ,hI.mem,hat.eq]
   refine(xD hL hat.ne1 post hat.vV λv hv hl k hk => ?_).symm
   cases h:aB u.e k with
   |none=>rfl
   |some d=>exact absurd ((hpost v hv hl).k1 k (by simp[h])) hk
 · simp only[iJ];exact R'
 · exact mW hI.st.size (λk=>(hI.st.tm k).mono x.le) hv
 · rw[hsize];exact hI.st.size
 · intro k hk
   cases hr:g'.aa k with
   |none=>rfl
   |some l =>
    have hnx:=jT hA
    simp only at hk
    rcases hown' k (by simp[hr])with h1|⟨u',h1,_,h3⟩
    · omega
    · have h4:=hnx.2 u' h1
      unfold DV.own at h3
      split at h3 <;> omega
 · intro i;exact(hI.st.gl i).mono x.le
 · rw[hdef];exact hI.st.ms.mono x.le
 · rw[iJ]
   exact Ext.trans hI.ext x (λ_ h=>h) hN kU
 · intro u' h1 h2
   by_cases h3:u'.i=u.i
   · have:u'=u:=by
      rw[hat.eq]at h1
      rcases List.mem_append.1 h1 with h|h
      · exact absurd h3 (hat.vV _ h)
      · rcases List.mem_cons.1 h with h|h
        · exact h
        · exact absurd h3 (hat.ne1 _ h)
     rw[this];exact hch
   · simp only[up,if_neg h3]at h2
     exact hI.ch u' h1 h2
theorem LA (hC:fM P C) (hF:uT P C f) (hA:dM C f (cz [] ops.toList) ops base n t0 st0 (base+ops.size) dL A tF mD gK kY) (kU:∀ k,base<=k->g0.aa k=none) {L:Nat->Bool} (lY:Ae ops L) {u:Rc} (hu:u∈A) (hL:L u.i=false) (dI:∀ j∈nS ops u.i,L j=true)
 {g:G} {a:Act} {w:World} {tL bE:Tr D} (hI:Iv C A base n t0 st0 gK ms rd g0 w0 L g a w tL bE) {r:Option Nat} {m:Nat} {Q:Exit->Act->World->Prop} {K:Act->World->Prop}
 (hK:∀ g' a' w' t' st',Iv C A base n t0 st0 gK ms rd g0 w0 (up L u.i) g' a' w' t' st'->K a' w'):wpOpIn (FW r) m P ops Q u.i K a w:=by
 obtain⟨o,post,pre,t,st,nx,lg,hat⟩:=DT hA u hu
 have hpost:∀ v∈post,L v.i=true->Ap u v:=by
  intro v hv hl
  rcases hat.kD v hv with h|h
  · have:L u.i=true:=yD lY (λm hm=>by
     unfold nS at hm
     split at hm
     · rename_i ov hov;exact lY v.i ov hov hl m hm
     · simp at hm) h
    rw[hL]at this;simp at this
  · exact DR h
 have hpre:∀ v∈pre,L v.i=false->Ap v u:=by
  intro v hv hl
  rcases hat.ok1 v hv with h|h
  · have:=yD lY dI h
    rw[hl]at this;simp at this
  · exact DR h
 obtain⟨st',nx',eU,hsp⟩:=hat.sp
 obtain⟨hn0,hn1,hnn,hnm,hdst⟩:=Eu hsp
 have hS:=hI.st
 have ku:∀ k∈aL ops o,aV tL k=aV t k:=by
  intro k hk
  rw[← hnm]at hk
  have h1:=congrFun hI.tm k
  rw[hat.eq,fold_at hL (λv hv hl=>uw λd hd he=>(hpre v hv hl).n1 d hd (he ▸ hk)) post (λv hv hl=>uw λd hd he=>(hpost v hv hl).n2 d hd (he ▸ hk)),← congrFun (zm hat.ran) k]at h1
  unfold aV
  simp only[ak]at h1
  rw[h1]
 have hwant:=Jc (ops:=ops) (o:=o) (t:=tL) (t':=t) λk hk=>ku k (List.mem_append_left _ hk)
 have NG:=Jd (gl:=C.gl) ku
 have hget:∀ x,VR g (dC C.gl (aL ops o) t x) (a.eval x):=by
  intro x
  have:=Lx hS (aL ops o) x
  simp only[NG]at this
  exact this
 have Oh:∀ v∈pre,CH v:=by
  intro v hv
  cases hl:L v.i with
  |true=>exact hI.ch v (by rw[hat.eq];simp[hv]) hl
  |false =>
   intro p hp
   rw[(hpre v hv hl).c]at hp;simp at hp
 have hstp:=uH hat.ran Oh
 have hmem:∀ k,(∀ v∈post,L v.i=true->aB v.e k=none)->(∀ v∈pre,L v.i=false->aB v.e k=none)->ak bE k=ak st k:=by
  intro k h1 h2
  rw[hI.mem,hat.eq,fold_at (E:=λv=>v.e) hL h2 post h1,hstp]
 have yE:∀ k,DV.own base u k->g.aa k=none:=by
  intro k hk
  cases hr:g.aa k with
  |none=>rfl
  |some l =>
   have hnx:=jT hA
   have vW:=jT hat.ran
   have QM:=(hnx.2 u hu)
   rcases hI.own k (by simp[hr])with h1|⟨v,h1,h2,h3⟩
   · unfold DV.own at hk
     split at hk <;> omega
   · have hvs:=hnx.2 v h1
     have hne:v.i≠u.i:=λe=>by rw[e,hL]at h2;simp at h2
     unfold DV.own at hk h3
     split at hk
     · split at h3 <;> omega
     · rename_i hc
       split at h3
       · omega
       · rename_i QN
         rw[hat.eq]at h1
         rcases List.mem_append.1 h1 with h|h
         · have:=(hpost v h h2).c
           rw[hc]at this;simp at this
         · rcases List.mem_cons.1 h with h|h
           · rw[h]at hne;exact absurd rfl hne
           · have:=(vW.2 v h).2.1
             omega
 unfold wpOpIn
 simp only[hat.op]
 cases hsp with
 |skip hw hue =>
  rw[← hwant]at hw
  rw[kJ hS hw]
  simp only[Bool.false_eq_true,if_false]
  refine⟨λ_ _=>trivial,?_⟩
  rw[← hdst]
  have he:u.e=[]:=by rw[hue];rfl
  have hd:u.d = .tu []:=by rw[hue];rfl
  have hc:u.c=none:=by rw[hue];rfl
  refine hK _ _ _ _ _ (hI.step hA kU hat hL hpost (N:=λ_=>False) (by rw[he];exact hS.rel) (by rw[he];exact Ext.refl _ _ _ _) (λ_ h=>h.elim) (by rw[hd];simp[VR,CR,au,undef]) (λk h => .inl h) λp hp=>by rw[hc]at hp;simp at hp)
 | @loc d e hw he hk hue =>
  rw[← hwant]at hw
  rw[kJ hS hw]
  simp only[if_true]
  have hc:u.c=none:=by rw[hue];rfl
  have hd:u.d=d:=by rw[hue];rfl
  have mE:u.e=e:=by rw[hue];rfl
  have htc:u.tc=gU (dC C.gl (aL ops o) t) o.op:=by rw[hue];rfl
  rw[← htc]at he hk
  have hrs:eG u.tc (ak st)=eG u.tc (ak bE):=by
   funext k
   unfold eG
   split
   · rename_i h1
     have h1:=(lu _ _).1 h1
     exact(hmem k (λv hv hl=>(hpost v hv hl).k2 k h1) (λv hv hl=>(hpre v hv hl).k3 k h1)).symm
   · rfl
  have hsub:∀ i d,eG u.tc (ak bE) i=some d->ak bE i=some d:=by
   intro i d h
   unfold eG at h
   split at h
   · exact h
   · simp at h
  have zJ:=hrs
  rw[hrs]at he
  have hfree:=yE (base+u.i) (by unfold DV.own;rw[hc])
  have hdo:=yx (P:=P) hC.T (o:=o) he (hS.rel.sub hsub) hfree hget
  refine hdo.wpIn (wX he) λv w' ⟨g',R',X',V'⟩ => ?_
  obtain⟨h1,h2⟩:=frame hS.rel hsub X' R' (λi hi=>by rw[hi];exact hfree) λi hi=>by
   have:=xG e hk hi
   rw[zJ]at this
   exact this
  rw[← hdst]
  refine hK _ _ _ _ _ (hI.step hA kU hat hL hpost (by rw[mE];exact h1) (by rw[mE];exact h2) (λi hi=>by omega) (by rw[hd];exact V') (λk hk => ?_) λp hp=>by rw[hc]at hp;simp at hp)
  cases hr:g'.aa k with
  |none=>exact absurd hr hk
  |some l =>
   rcases X'.rn k l hr with h|h
   · exact .inl (by simp[h])
   · right
     unfold DV.own
     rw[hc]
     exact h.2
 | @vF c fo k a0 b0 d e tc hw hop lX hfo he hk hue =>
  rw[← hwant]at hw
  rw[kJ hS hw]
  simp only[if_true]
  have hc:u.c=none:=by rw[hue]
  have hd:u.d=d:=by rw[hue]
  have mE:u.e=e:=by rw[hue]
  have htc:u.tc=tc:=by rw[hue]
  rw[← htc]at he hk
  have hrs:eG u.tc (ak st)=eG u.tc (ak bE):=by
   funext k
   unfold eG
   split
   · rename_i h1
     have h1:=(lu _ _).1 h1
     exact(hmem k (λv hv hl=>(hpost v hv hl).k2 k h1) (λv hv hl=>(hpre v hv hl).k3 k h1)).symm
   · rfl
  have hsub:∀ i d,eG u.tc (ak bE) i=some d->ak bE i=some d:=by
   intro i d h
   unfold eG at h
   split at h
   · exact h
   · simp at h
  have zJ:=hrs
  rw[hrs]at he
  have hfree:=yE (base+u.i) (by unfold DV.own;rw[hc])
  refine uo hop lX hfo hget (λvs hvs=>hC.E _ _ _ _ _ _ he g w vs (hS.rel.sub hsub) hfree hS.gl hvs) λv w' ⟨g',R',X',V'⟩ => ?_
  obtain⟨h1,h2⟩:=frame hS.rel hsub X' R' (λi hi=>by rw[hi];exact hfree) λi hi=>by
   have:=xG e hk hi
   rw[zJ]at this
   exact this
  rw[← hdst]
  refine hK _ _ _ _ _ (hI.step hA kU hat hL hpost (by rw[mE];exact h1) (by rw[mE];exact h2) (λi hi=>by omega) (by rw[hd];exact V') (λk hk => ?_) λp hp=>by rw[hc]at hp;simp at hp)
  cases hr:g'.aa k with
  |none=>exact absurd hr hk
  |some l =>
   rcases X'.rn k l hr with h|h
   · exact .inl (by simp[h])
   · right
     unfold DV.own
     rw[hc]
     exact h.2
 | @pure c fo k a0 b0 d hw hop lX hfo hp hue =>
  rw[← hwant]at hw
  rw[kJ hS hw]
  simp only[if_true]
  have he:u.e=[]:=by rw[hue];rfl
  have hd:u.d=d:=by rw[hue];rfl
  have hc:u.c=none:=by rw[hue];rfl
  refine uo hop lX hfo hget (λvs hvs=>hC.K _ _ _ hp g (ak bE) w vs hS.rel hS.gl hvs) λv w' ⟨g',R',X',V'⟩ => ?_
  rw[← hdst]
  refine hK _ _ _ _ _ (hI.step hA kU hat hL hpost (N:=λ_=>False) (by rw[he];exact R') (by rw[he];exact X') (λ_ h=>h.elim) (by rw[hd];exact V') (λk hk => .inl ?_) λp hp=>by rw[hc]at hp;simp at hp)
  intro hn
  cases hr:g'.aa k with
  |none=>exact hk hr
  |some l =>
   rcases X'.rn k l hr with h|h
   · rw[hn]at h;simp at h
   · exact h.2
 | @rU c fo d s1 rm hw hop lX hx hnx hue hrm =>
  rw[← hwant]at hw
  rw[kJ hS hw]
  simp only[if_true]
  have hc:u.c=some (gY rm st,s1.s):=by rw[hue];rfl
  have hd:u.d=d:=by rw[hue];rfl
  have mE:u.e=jZ (gY rm st) s1.s s1.lg:=by rw[hue];rfl
  have hsub:∀ i d,ak (gY rm st) i=some d->ak bE i=some d:=by
   intro i d h
   have h0:i ∉ rm/\ak st i=some d:=by
    simp only[ak,Dj]at h
    split at h
    · simp at h
    · rename_i h1;exact⟨h1,h⟩
   rw[hmem i (λv hv hl => ?_) λv hv hl => ?_]
   · exact h0.2
   · have:=(hpost v hv hl).c
     rw[hc]at this;simp at this
   · cases hl2:aB v.e i with
     |none=>rfl
     |some d' =>
      refine absurd (hrm v hv ?_ i (tQ _ _ (by simp[hl2]))) h0.1
      cases h3:an (cz [] ops.toList) u.i v.i with
      |false=>rfl
      |true =>
       have:=yD lY dI h3
       rw[hl]at this;simp at this
  have hgf:∀ k,nx<=k->k<s1.nx->g.aa k=none:=λk h1 h2=>yE k (by unfold DV.own;rw[hc,hn0,hn1];exact⟨h1,h2⟩)
  have EX:∀ k,nx<=k->g.aa k=none:=by
   intro k hk
   rcases Nat.lt_or_ge k s1.nx with h1|h1
   · exact hgf k hk h1
   · cases hr:g.aa k with
     |none=>rfl
     |some l =>
      have Oi:=jT hA
      have vW:=jT hat.ran
      rcases hI.own k (by simp[hr])with h2|⟨v,h2,h3,h4⟩
      · omega
      · have hvs:=Oi.2 v h2
        unfold DV.own at h4
        split at h4
        · omega
        · rw[hat.eq]at h2
          rcases List.mem_append.1 h2 with h|h
          · have:=(hpost v h h3).c
            rw[hc]at this;simp at this
          · rcases List.mem_cons.1 h with h|h
            · rw[h,hL]at h3;simp at h3
            · have:=(vW.2 v h).2.1
              omega
  have hgo:∀ K',(∀ v w',CK ⟨.e,gY rm st,nx,0,[],[],false⟩ g w d s1 v w'->K' (a.put o.dst v) w')->o.wpIn (FW r) m P a w K' Q:=by
   intro K' hK'
   exact hF hop lX hx (hS.rel.sub hsub) EX hS.gl hget hK'
  refine hgo _ λv w' ⟨g',R',X',V',F',H'⟩ => ?_
  have hch:ak s1.s=app u.e (ak (gY rm st)):=by
   rw[mE]
   exact JI λk hk=>H'.same k hk
  rw[hch]at R' X'
  obtain⟨h1,h2⟩:=frame hS.rel hsub X' R' (λi hi=>EX i hi) λi hi=>by
   rw[mE,tN]at hi
   split at hi
   · rename_i h3
     rcases h3.2 with h4|h4
     · exact .inl h4
     · refine X'.sn i ?_
       rw[← hch];exact h4
   · simp at hi
  rw[← hdst]
  refine hK _ _ _ _ _ (hI.step hA kU hat hL hpost h1 h2 (λi hi=>by
   have:=(jT hat.ran).1
   have hi:nx<=i:=hi
   omega) (by rw[hd];exact V') (λk hk => ?_) λp hp=>by rw[hc]at hp;simp only[Option.some.injEq]at hp;subst hp;exact hch)
  cases hr:g'.aa k with
  |none=>exact absurd hr hk
  |some l =>
   rcases X'.rn k l hr with h|h
   · exact .inl (by simp[h])
   · right
     unfold DV.own
     rw[hc,hn0,hn1]
     refine⟨h.2,?_⟩
     rcases Nat.lt_or_ge k s1.nx with h3|h3
     · exact h3
     · rw[F' k h3]at hr;simp at hr
end
end Go.Proofs.YtadecgbblajifaaGreatDoor.DV
namespace Go.Proofs.YtadecgbblajifaaGreatDoor
end Go.Proofs.YtadecgbblajifaaGreatDoor
namespace Go.Proofs.YtadecgbblajifaaGreatDoor.DV
open Go
variable {P:Program} {C:Cx}
def Lf (l:Array Bool) (j:Nat):Bool:=l.getD j false
theorem DU (L:Nat->Bool) (i:Nat):∀ l:List Nat,(l.filter λj => !up L i j).length<=(l.filter λj => !L j).length
 | []=>Nat.le_refl _
 |x :: l=>by
  have ih:=DU L i l
  simp only[List.filter_cons]
  by_cases h:x=i
  · simp only[up,if_pos h,Bool.not_true,Bool.false_eq_true,if_false]
    split
    · simp only[List.length_cons];unfold up at ih;omega
    · exact ih
  · simp only[up,if_neg h]
    split
    · simp only[List.length_cons];unfold up at ih;omega
    · exact ih
theorem DW (L:Nat->Bool) (i:Nat) (hL:L i=false):∀ l:List Nat,i∈l->(l.filter λj => !up L i j).length<(l.filter λj => !L j).length
 | [],h=>by simp at h
 |x :: l,h=>by
  have hle:=DU L i l
  simp only[List.filter_cons]
  by_cases hx:x=i
  · subst hx
    simp only[up,if_true,Bool.not_true,Bool.false_eq_true,if_false,hL,Bool.not_false,List.length_cons]
    unfold up at hle
    omega
  · have hi:i∈l:=by
     rcases List.mem_cons.1 h with h|h
     · exact absurd h.symm hx
     · exact h
    have ih:=DW L i hL l hi
    simp only[up,if_neg hx]
    unfold up at ih
    split
    · simp only[List.length_cons];omega
    · exact ih
theorem MM {l:Array Bool} {i:Nat} (hi:i<l.size):Lf (l.setIfInBounds i true)=up (Lf l) i:=by
 funext j
 unfold Lf up
 simp only[Array.getD_eq_getD_getElem?,Array.getElem?_setIfInBounds]
 by_cases h:j=i
 · subst h;simp[hi]
 · have:¬ i=j:=λe=>h e.symm
   simp[h,this]
theorem wZ {ops:Array Oper} {l:Array Bool} (hl:l.size=ops.size) (i:Nat):i∈Region.ready .any ops l↔∃ o,ops[i]? = some o/\Lf l i=false/\∀ j∈dW o,Lf l j=true:=by
 unfold Region.ready
 rw[List.mem_filter,List.mem_range]
 constructor
 · rintro⟨h1,h2⟩
   simp only[Bool.and_eq_true]at h2
   obtain⟨h2,h3⟩:=h2
   have ho:ops[i]? = some ops[i]:=Array.getElem?_eq_getElem h1
   refine⟨ops[i],ho,?_,λj hj => ?_⟩
   · have h4:i<l.size:=by omega
     simp only[Lf,Array.getD_eq_getD_getElem?,Array.getElem?_eq_getElem h4,Option.getD_some]at h2 ⊢
     simpa using h2
   · rw[ho]at h3
     simp only[Option.map_some,Option.getD_some,Array.all_eq_true_iff_forall_mem]at h3
     unfold dW at hj
     obtain⟨e,he,rfl⟩:=List.mem_map.1 hj
     rw[List.mem_filter]at he
     have:=h3 e (by simpa using he.1)
     rw[he.2]at this
     simpa[Lf]using this
 · rintro⟨o,ho,h1,h2⟩
   have hi:=(Array.getElem?_eq_some_iff.1 ho).1
   refine⟨hi,?_⟩
   simp only[Bool.and_eq_true]
   refine⟨?_,?_⟩
   · have h4:i<l.size:=by omega
     simp only[Lf,Array.getD_eq_getD_getElem?,Array.getElem?_eq_getElem h4,Option.getD_some]at h1 ⊢
     simp[h1]
   · rw[ho]
     simp only[Option.map_some,Option.getD_some,Array.all_eq_true_iff_forall_mem]
     intro e he
     cases hb:Region.binds .any e with
     |false=>rfl
     |true =>
      have:=h2 e.on (by
       unfold dW
       exact List.mem_map.2 ⟨e,List.mem_filter.2 ⟨by simpa using he,hb⟩,rfl⟩)
      simpa[Lf]using this
section
variable {f:mr} {ops:Array Oper} {base n:Nat} {t0 st0 tF mD:Tr D} {gK:Nat} {dL kY:List Nat} {A:List Rc} {ms:List Nat} {rd:Bool} {g0:G} {w0:World}
theorem DX (hC:fM P C) (hF:uT P C f) (hA:dM C f (cz [] ops.toList) ops base n t0 st0 (base+ops.size) dL A tF mD gK kY) (kU:∀ k,base<=k->g0.aa k=none) (hall:∀ k<ops.size,∃ u∈A,u.i=k)
 {r:Option Nat} {m:Nat} {Q:Exit->Act->World->Prop} (hQ:∀ L g a w tL bE,(∀ k<ops.size,L k=true)->Iv C A base n t0 st0 gK ms rd g0 w0 L g a w tL bE->Q .normal a w) :
 ∀ (fuel:Nat) (l:Array Bool) (a:Act) (w:World) (g:G) (tL bE:Tr D),l.size=ops.size->Ae ops (Lf l)->((List.range ops.size).filter λj => !Lf l j).length<=fuel->Iv C A base n t0 st0 gK ms rd g0 w0 (Lf l) g a w tL bE->wpAnyIn (FW r) m P .any ops Q fuel l a w:=by
 have hdone:∀ (l:Array Bool),l.size=ops.size->Region.ready .any ops l=[]->∀ k<ops.size,Lf l k=true:=by
  intro l hl hr k
  induction k using Nat.strongRecOn with
  |_ k IH =>
   intro hk
   cases h:Lf l k with
   |true=>rfl
   |false =>
    obtain⟨u,hu,rfl⟩:=hall k hk
    obtain⟨o,post,pre,t,st,nx,lg,hat⟩:=DT hA u hu
    have:u.i∈Region.ready .any ops l:=(wZ hl _).2 ⟨o,hat.op,h,λj hj=>IH j (hat.dp j hj) (by have:=hat.dp j hj;omega)⟩
    rw[hr]at this;simp at this
 intro fuel
 induction fuel with
 |zero =>
  intro l a w g tL bE hl lY hfu hI
  have hz:∀ k<ops.size,Lf l k=true:=by
   intro k hk
   have h0:=List.length_eq_zero_iff.1 (Nat.le_zero.1 hfu)
   have:=(List.filter_eq_nil_iff.1 h0) k (List.mem_range.2 hk)
   simpa using this
  refine⟨?_,hQ _ _ _ _ _ _ hz hI⟩
  apply List.eq_nil_iff_forall_not_mem.2
  intro i hi
  obtain⟨o,ho,h1,_⟩:=(wZ hl i).1 hi
  rw[hz i (Array.getElem?_eq_some_iff.1 ho).1]at h1
  simp at h1
 |succ fuel IH =>
  intro l a w g tL bE hl lY hfu hI
  refine⟨λhr=>hQ _ _ _ _ _ _ (hdone l hl hr) hI,λi hi => ?_⟩
  obtain⟨o,ho,h1,h2⟩:=(wZ hl i).1 hi
  have his:=(Array.getElem?_eq_some_iff.1 ho).1
  obtain⟨u,hu,rfl⟩:=hall i his
  refine LA hC hF hA kU lY hu h1 (λj hj => ?_) hI λg' a' w' t' st' hI' => ?_
  · simp only[nS,ho]at hj
    exact h2 j hj
  · have hset:=MM (l:=l) (i:=u.i) (by omega)
    refine IH _ a' w' g' t' st' (by simpa using hl) ?_ ?_ (by rw[hset];exact hI')
    · rw[hset]
      intro j oj hoj hj k hk
      unfold up at hj ⊢
      split
      · rfl
      · split at hj
        · rename_i h3
          subst h3
          rw[ho]at hoj
          simp only[Option.some.injEq]at hoj
          subst hoj
          exact h2 k hk
        · exact lY j oj hoj hj k hk
    · rw[hset]
      have:=DW (Lf l) u.i h1 (List.range ops.size) (List.mem_range.2 his)
      omega
end
theorem Cq {g:G} {σ:ai} {w:World} {k:Nat} (R:Rel g σ w):Rel g σ { w with drawn:=k } := by
 refine⟨R.fm,λi d h => ?_,R.dj⟩
 obtain⟨l,hl⟩:=R.ob i d h
 exact⟨l,hl.keep (.refl g) hl.fm rfl⟩
theorem LB (hm:P.follows .mixedOrders=true) (hC:fM P C):vC P C (zI C):=by
 intro f _ hF hKo id ops s ex s' h r m g a w hr hS
 obtain⟨t,st,nx,n,ms,lg,rd⟩:=s
 simp only[zI,kM]at h
 split at h
 case h_2=>simp at h
 rename_i s1 acc hgo
 split at h
 case h_2=>simp at h
 rename_i hall
 simp only[Option.some.injEq,Prod.mk.injEq]at h
 obtain⟨rfl,rfl⟩:=h
 obtain⟨hA,hn,hms,hrd⟩:=Dh _ hgo (.nil)
 simp only at hA hn hms hrd
 have hfr:∀ k,nx<=k->g.aa k=none:=hS.fresh
 have hnx:=(jT hA).1
 refine wpIn_region_any hm (DX hC (NF hF hKo) hA hfr (Di _ hall) (ms:=ms) (rd:=rd) (w0:=w) (λL g' a' w' tL bE hL hI => ?_) ops.size _ _ _ g t st (by simp) ?_ ?_ ?_)
 · have oq:∀ v∈acc,L v.i=true:=λv hv=>hL _ ((jT hA).2 v hv).2.2
   have hch:∀ v∈acc,CH v:=λv hv=>hI.ch v hv (oq v hv)
   have e1:ak tL=ak s1.tm:=by
    rw[hI.tm,zm hA]
    exact fold_congr _ _ λv hv=>oq v hv
   have e2:ak bE=ak s1.s:=by
    rw[hI.mem,uH hA hch]
    exact fold_congr _ _ λv hv=>oq v hv
   have e3:∀ k,aV tL k=aV s1.tm k:=λk=>by
    have:=congrFun e1 k
    simp only[ak]at this
    unfold aV
    rw[this]
   have hT:=hI.st
   have hx:=hI.ext
   rw[e2]at hx
   have hl:=ML hA
   refine⟨trivial,g',⟨?_,λk => ?_,?_,hT.fresh,hT.gl,?_⟩,⟨hx,hn,hrd,⟨by simp only;omega,hl.1,λk hk => ?_⟩⟩⟩
   · have:=hT.rel
     simp only[e2]at this
     exact this
   · have:=hT.tm k
     simp only[e3]at this
     exact this
   · rw[hn];exact hT.size
   · rw[hms];exact hT.ms
   · have:=congrFun (uH hA hch) k
     simp only[ak]at this
     rw[this]
     have key:∀ B:List Rc,(∀ u∈B,aB u.e k=none)->bf (·.e) (λ_=>true) B (ak st) k=aG st k:=by
      intro B
      induction B with
      |nil=>intro _;rfl
      |cons u B IH =>
       intro hB
       simp only[bf,if_true,app]
       rw[hB u (List.mem_cons_self ..)]
       exact IH λv hv=>hB v (List.mem_cons_of_mem _ hv)
     refine key acc λu hu => ?_
     cases h:aB u.e k with
     |none=>rfl
     |some d=>exact absurd (hl.2 u hu k (by simp[h])) hk
 · intro i o ho hi
   exfalso
   unfold Lf at hi
   simp only[Array.getD_eq_getD_getElem?,Array.getElem?_replicate]at hi
   split at hi <;> simp at hi
 · have:((List.range ops.size).filter λj => !Lf (Array.replicate ops.size false) j).length<=(List.range ops.size).length:=List.length_filter_le _ _
   simpa using this
 · have hL0:∀ k,Lf (Array.replicate ops.size false) k=false:=by
    intro k
    unfold Lf
    simp only[Array.getD_eq_getD_getElem?,Array.getElem?_replicate]
    split <;> simp
   have hf0:∀ (E:Rc->Eff) (B:List Rc) (s:ai),bf E (Lf (Array.replicate ops.size false)) B s=s:=by
    intro E B s
    induction B with
    |nil=>rfl
    |cons u B IH=>simp only[bf,hL0,Bool.false_eq_true,if_false];exact IH
   refine⟨(hf0 _ _ _).symm,(hf0 _ _ _).symm,⟨Cq hS.rel,hS.tm,hS.size,λk hk=>hfr k (by simp only at hk;omega),hS.gl,hS.ms⟩,⟨.refl _,Nat.le_refl _,λ_ _=>rfl,λ_ h => .inl h,λ_ _ h => .inl h,λ_ h => .inl h,⟨rfl,rfl,rfl⟩⟩,λk hk => ?_,λu _ hu => ?_⟩
   · left
     rcases Nat.lt_or_ge k nx with h|h
     · exact h
     · exact absurd (hfr k h) hk
   · rw[hL0]at hu;simp at hu
end Go.Proofs.YtadecgbblajifaaGreatDoor.DV
namespace Go.Proofs.YtadecgbblajifaaGreatDoor
end Go.Proofs.YtadecgbblajifaaGreatDoor
namespace Go.Proofs.YtadecgbblajifaaGreatDoor.DV
open Go
def yF:Value->Value->Bool
 |.bool a,.bool b=>a == b
 |.int j a,.int k b=>(j == k) && (a == b)
 |.string ⟨⟨a⟩⟩,.string ⟨⟨b⟩⟩=>a == b
 |.float j a,.float k b=>(j == k) && (a == b)
 |.pointer none,.pointer none=>true
 |.slice none m c,.slice none n d=>(m == n) && (c == d)
 |.map none,.map none=>true
 |.nilFunc,.nilFunc=>true
 |.nilIface,.nilIface=>true
 |_,_=>false
theorem JJ {a b:Value} (h:yF a b=true):a=b/\a.oneCell'=true:=by
 unfold yF at h
 split at h <;> simp at h <;> simp[h,Value.oneCell']
mutual
def dF:D->List Value->Bool
 |.lf v,cs=>match cs with
  | [u]=>yF u v
  |_=>false
 |.st ss ds,cs=>lM ss ds cs
 |.ar s ds,cs=>lM (List.replicate ds.length s) ds cs
 |_,_=>false
def lM:List Nat->List D->List Value->Bool
 | [],[],[]=>true
 |s :: ss,d :: ds,cs=>decide (s<=cs.length) && dF d (cs.take s) && lM ss ds (cs.drop s)
 |_,_,_=>false
end
mutual
theorem xW {g:G} : ∀ (d:D) (cs:List Value),dF d cs=true->CR g false d cs
 |.lf v,cs,h=>by
  simp only[dF]at h
  split at h
  · obtain⟨rfl,h1⟩:=JJ h
    simp only[CR]
    exact⟨trivial,λ_=>h1⟩
  · simp at h
 |.st ss ds,cs,h=>by
  simp only[dF]at h
  simp only[CR,wrap]
  exact⟨cs,rfl,xH ss ds cs h⟩
 |.ar s ds,cs,h=>by
  simp only[dF]at h
  simp only[CR,wrap]
  exact⟨cs,rfl,xH _ ds cs h⟩
 |.sl _ _ _,_,h=>by simp[dF]at h
 |.fp _,_,h=>by simp[dF]at h
 |.ref _ _,_,h=>by simp[dF]at h
 |.own _ _ _ _,_,h=>by simp[dF]at h
 |.e0,_,h=>by simp[dF]at h
 |.fn _ _ _,_,h=>by simp[dF]at h
 |.tu _,_,h=>by simp[dF]at h
 |.dK _ _,_,h=>by simp[dF]at h
 |.aO,_,h=>by simp[dF]at h
 |.mp _,_,h=>by simp[dF]at h
 |.mo _ _,_,h=>by simp[dF]at h
 |.yd _,_,h=>by simp[dF]at h
 |.lo _ _ _ _,_,h=>by simp[dF]at h
 |.lb _ _ _ _,_,h=>by simp[dF]at h
 |.fP _,_,h=>by simp[dF]at h
 |.df,_,h=>by simp[dF]at h
theorem xH {g:G} : ∀ (ss:List Nat) (ds:List D) (cs:List Value),lM ss ds cs=true->ah g ss ds cs
 | [],[],cs,h=>by
  cases cs with
  |nil=>simp[ah]
  |cons _ _=>simp[lM]at h
 |s :: ss,d :: ds,cs,h=>by
  simp only[lM,Bool.and_eq_true,decide_eq_true_eq]at h
  simp only[ah]
  exact⟨h.1.1,xW d _ h.1.2,xH ss ds _ h.2⟩
 | [],_ :: _,_,h=>by simp[lM]at h
 |_ :: _,[],_,h=>by simp[lM]at h
end
def gL (P:Program) (t:Nat):Nat:=P.cellsOf t
def rA (P:Program):Nat->Nat->D
 |0,_ => .aO
 |n+1,t=>match P.underlying t with
  |some (.struct fs) => .st (fs.toList.map λf=>gL P f.type) (fs.toList.map λf=>rA P n f.type)
  |some (.array m e) => .ar (gL P e) (List.replicate m (rA P n e))
  |some _=>match P.info? t with
   |some i=>match i.zero with
    |some z => .lf z
    |none => .aO
   |none => .aO
  |none => .aO
def lN (P:Program) (t:Nat):Bool:=(P.info? t).isSome
def pV (P:Program):List Field->Option (List (Nat × Nat × Bool))
 | []=>some []
 |f :: fs=>match P.underlying f.type,pV P fs with
  |some u,some l=>if lN P f.type && !(Nat.beq (gL P f.type) 0)then some ((f.offset,gL P f.type,uY u) :: l)else none
  |_,_=>none
def jw (P:Program):TypeDesc->Tk
 |.bool => .bo
 |.int k => .it k
 |.string => .str
 |.pointer e => .pt e
 |.slice e=>if lN P e && !(Nat.beq (gL P e) 0)then .sl e (gL P e)else .ot
 |.array n e=>if lN P e && !(Nat.beq (gL P e) 0)then .ar n e (gL P e)else .ot
 |.struct fs=>match pV P fs.toList with
  |some l => .st l
  |none => .ot
 |.func _ _ _ => .fu
 |.interface _ => .dK
 |.map k e => .mp k e
 |_ => .ot
def rV (P:Program):Nat->List Field->Option (List Tk)
 |_,[]=>some []
 |i,f :: fs=>match P.underlying f.type,rV P (i+1) fs with
  |some u, some l => if(f.name != "_") && Nat.beq f.offset i && yQ (jw P u)then some (jw P u :: l)else none
  |_,_=>none
def EY (P:Program) (t:Nat):TypeDesc->List Tk
 |.struct fs=>match rV P 0 fs.toList with
  |some l=>if !P.stoodInHeld t && !P.eqGuardType P.depth t then l else[]
  |none=>[]
 |_=>[]
def yG:Value->Bool
 |.agg _=>true
 |_=>false
def zK (P:Program) (t:Nat):Option Ty:=match P.info? t,P.underlying t with
 |some i,some u=>match i.zero with
  |some z=>if dF (rA P 8 t) z.cells.toList && (iT (rA P 8 t) == yG z)then some ⟨jw P u,uY u,i.size,i.bytes,rA P 8 t,EY P t u⟩else none
  |none=>none
 |_,_=>none
theorem DY {P:Program} {t:Nat} (h:lN P t=true):iR P t (gL P t):=by
 unfold lN at h
 cases hi:P.info? t with
 |none=>rw[hi]at h;simp at h
 |some i=>exact⟨i,hi,by simp[gL,Program.cellsOf,hi]⟩
theorem Dk {P:Program} : ∀ (fs:List Field) (l:List (Nat × Nat × Bool)),pV P fs=some l->jE P fs l
 | [],l,h=>by simp only[pV,Option.some.injEq]at h;subst h;trivial
 |f :: fs,l,h=>by
  simp only[pV]at h
  split at h
  · rename_i u l' hu hl
    split at h
    · rename_i hb
      simp only[Bool.and_eq_true,Bool.not_eq_true']at hb
      simp only[Option.some.injEq]at h
      subst h
      exact⟨rfl,DY hb.1,λe=>by simp only at e;rw[e]at hb;simp at hb,⟨u,hu,rfl⟩,Dk fs l' hl⟩
    · simp at h
  · simp at h
theorem Ev {P:Program} {e:Nat} (hb:(lN P e && !(Nat.beq (gL P e) 0))=true):iR P e (gL P e)/\gL P e≠0:=by
 simp only[Bool.and_eq_true,Bool.not_eq_true']at hb
 exact⟨DY hb.1,λe=>by rw[e]at hb;simp at hb⟩
theorem Dl {P:Program} (u:TypeDesc):aJ P u (jw P u):=by
 cases u with
 |slice e =>
  by_cases hb:(lN P e && !(Nat.beq (gL P e) 0))=true
  · simp only[jw,hb,if_true,aJ]
    exact⟨trivial,Ev hb⟩
  · simp only[jw,hb,if_false,aJ,Bool.false_eq_true]
 |array n e =>
  by_cases hb:(lN P e && !(Nat.beq (gL P e) 0))=true
  · simp only[jw,hb,if_true,aJ]
    exact⟨trivial,trivial,Ev hb⟩
  · simp only[jw,hb,if_false,aJ,Bool.false_eq_true]
 |struct fs =>
  cases hl:pV P fs.toList with
  |some l =>
   simp only[jw,hl,aJ]
   exact Dk _ _ hl
  |none=>simp only[jw,hl,aJ]
 |map k e=>exact⟨rfl,rfl⟩
 |_=>simp only[jw,aJ]
theorem Dm {P:Program} : ∀ (fs:List Field) (i:Nat) (l:List Tk),rV P i fs=some l->pM P i fs l
 | [],i,l,h=>by simp only[rV,Option.some.injEq]at h;subst h;trivial
 |f :: fs,i,l,h=>by
  simp only[rV]at h
  split at h
  · rename_i u l' hu hl
    split at h
    · rename_i hb
      simp only[Bool.and_eq_true,bne_iff_ne]at hb
      simp only[Option.some.injEq]at h
      subst h
      exact⟨hb.1.1,Nat.eq_of_beq_eq_true hb.1.2,⟨u,hu,Dl u⟩,hb.2,Dm fs (i+1) l' hl⟩
    · simp at h
  · simp at h
theorem LC {P:Program} {t:Nat} {y:Ty} (h:zK P t=some y):aD P t y:=by
 unfold zK at h
 split at h
 case h_2=>simp at h
 rename_i i u hi hu
 split at h
 case h_2=>simp at h
 rename_i z hz
 split at h
 case isFalse=>simp at h
 rename_i hb
 simp only[Bool.and_eq_true,beq_iff_eq]at hb
 simp only[Option.some.injEq]at h
 subst h
 refine⟨⟨i,z,hi,rfl,rfl,hz,λg => ?_⟩,⟨u,hu,rfl,Dl u⟩,λhc => ?_⟩
 · have h1:=xW (g:=g) _ _ hb.1
   obtain⟨v,h2,h3,h4⟩:=vN h1
   have:v=z:=by
    rcases h3 with⟨h5,rfl⟩|⟨h5,h6⟩
    · rw[h5]at hb
      cases z <;> simp[yG]at hb
      simp[Value.cells]
    · rw[h5]at hb
      cases z <;> simp[yG]at hb <;> simp only[Value.cells]at h6 <;> simpa using h6.symm
   rw[← this]
   exact h2
 · simp only at hc ⊢
   unfold EY at hc ⊢
   split at hc
   · rename_i fs
     split at hc
     · rename_i l hl
       split at hc
       · rename_i hb2
         simp only[Bool.and_eq_true,Bool.not_eq_true']at hb2
         have hl':=hl
         simp only[hb2,Bool.not_false,Bool.and_self,if_true]
         exact⟨fs,hu,hb2.1,hb2.2,Dm _ _ _ hl⟩
       · exact absurd rfl hc
     · exact absurd rfl hc
   · exact absurd rfl hc
end Go.Proofs.YtadecgbblajifaaGreatDoor.DV
namespace Go.Proofs.YtadecgbblajifaaGreatDoor
end Go.Proofs.YtadecgbblajifaaGreatDoor
namespace Go.Proofs.YtadecgbblajifaaGreatDoor.DV
open Go
noncomputable section
def j4 {α:Type} : Nat->List (Option α)->Tr α->Tr α
 |_,[],t=>t
 |k,some y :: l,t=>ek t k (some y) λt=>j4 (Nat.succ k) l t
 |k,none :: l,t=>j4 (Nat.succ k) l t
theorem xI {α:Type} {y:α} {j:Nat} : ∀ (l:List (Option α)) (k:Nat) (t:Tr α),aG (j4 k l t) j=some y->(k<=j/\l[j - k]? = some (some y))\/aG t j=some y
 | [],_,_,h => .inr h
 |some z :: l,k,t,h=>by
  rw[j4,gD]at h
  rcases xI l _ _ h with⟨h1,h2⟩|h1
  · left
    refine⟨by omega,?_⟩
    rw[show j - k=(j - Nat.succ k)+1 by omega,List.getElem?_cons_succ]
    exact h2
  · rw[ic]at h1
    split at h1
    · rename_i h2
      subst h2
      left
      simpa using h1
    · exact .inr h1
 |none :: l,k,t,h=>by
  rw[j4]at h
  rcases xI l _ _ h with⟨h1,h2⟩|h1
  · left
    refine⟨by omega,?_⟩
    rw[show j - k=(j - Nat.succ k)+1 by omega,List.getElem?_cons_succ]
    exact h2
  · exact .inr h1
theorem LD {α:Type} {y:α} {j:Nat} {l:List (Option α)} (h:aG (j4 0 l .e) j=some y):l[j]? = some (some y):=by
 rcases xI l 0 .e h with⟨_,h1⟩|h1
 · exact h1
 · simp[aG,tgt]at h1
def EZ (P : Program) (l : List (Option Func)) : Prop := P.funcs.toList.map some = l /\ (P.funcs.toList.all λf => !(f.name == "runtime.NumGoroutine")) = true
theorem MN {P : Program} {l : List (Option Func)} (h : EZ P l) : ∀ k fn, aG (j4 0 l .e) k = some fn -> P.funcs[k]? = some fn /\ (fn.name == "runtime.NumGoroutine") = false := by
 intro k fn hk
 have h1:=LD hk
 rw[← h.1,List.getElem?_map]at h1
 cases h2:P.funcs.toList[k]? with
 |none=>rw[h2]at h1;simp at h1
 |some f =>
  rw[h2]at h1
  simp only[Option.map_some,Option.some.injEq]at h1
  subst h1
  refine⟨by simpa using h2,?_⟩
  have:=List.all_eq_true.1 h.2 f (List.mem_of_getElem? h2)
  simpa using this
end
end Go.Proofs.YtadecgbblajifaaGreatDoor.DV
namespace Go.Proofs.YtadecgbblajifaaGreatDoor
end Go.Proofs.YtadecgbblajifaaGreatDoor
