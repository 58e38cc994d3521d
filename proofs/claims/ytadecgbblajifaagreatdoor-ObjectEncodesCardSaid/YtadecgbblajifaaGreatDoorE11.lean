import Derived.Test.YtadecgbblajifaaGreatDoorE10
set_option linter.unusedSimpArgs false
set_option linter.unusedVariables false
set_option maxRecDepth 100000
set_option maxHeartbeats 25600000
namespace Go.Proofs.YtadecgbblajifaaGreatDoor
end Go.Proofs.YtadecgbblajifaaGreatDoor
namespace Go.Proofs.YtadecgbblajifaaGreatDoor.DV
open Go
variable {P:Program} {C:Cx}
def EA (P:Program) (C:Cx) (J:uA):Prop:=∀ {o:Oper} {c:Call} {fo:Operand} {get:Operand->D} {st:Tr D} {nx:Nat} {d:D} {s1:S},o.op = .call c->c.callee = .value fo->J (dmap get c.args.toList) st nx (get fo) d s1 ->
 ∀ {g:G} {a:Act} {w:World},Rel g (aA st) w->(∀ i,nx<=i->g.ae i=none)->(∀ i,VR g (C.gl i) (.pointer (some ⟨i,0,none⟩)))->(∀ x,VR g (get x) (a.eval x))->∀ {r:Option Nat} {m:Nat} {next:Act->World->Prop} {Q:Exit->Act->World->Prop},
 (∀ v w',CK ⟨.e,st,nx,0,[],[],false⟩ g w d s1 v w'->next (a.put o.dst v) w')->o.wpIn (FW r) m P a w next Q
theorem ab7 {ih:eH->S->R} (hF:sI P C ih) (hKo:nN P C ih):EA P C (cR ih):=by
 intro o c fo get st nx d s1 hop tO hx g a w hR hfr hgl hget r m next Q hn
 unfold cR Ez at hx
 split at hx
 · rename_i hfo
   rw[vM]at hx
   exact NZ hF hop tO hfo hx hR hfr hgl hget hn
 · rename_i hfo
   exact Ob hKo hop tO hfo hx hR hfr hgl hget hn
 · simp at hx
def own (base:Nat) (u:Rc) (k:Nat):Prop:=match u.c with
 |none=>k=base+u.i
 |some _=>u.n0<=k/\k<u.n1
structure Iv (C:Cx) (A:List Rc) (base n:Nat) (t0 st0:Tr D) (kF:Nat) (ms:List Nat) (rd:Bool) (g0:G) (w0:World) (L:Nat->Bool) (g:G) (a:Act) (w:World) (tL eQ:Tr D):Prop where
 tm:aA tL=dV (te n) L A (aA t0)
 mem:aA eQ=dV (·.e) L A (aA st0)
 st:St C ⟨tL,eQ,kF,n,ms,[],rd⟩ g a w
 ext:Ext g0 (aA st0) w0 (λi=>base<=i) g (aA eQ) w
 own:∀ k,g.ae k≠none->k<base\/∃ u∈A,L u.i=true/\own base u k
 ch:∀ u∈A,L u.i=true->CH u
section
variable {f:uA} {ops:Array Oper} {base n:Nat} {t0 st0 tF uB:Tr D} {kF:Nat} {ik rO:List Nat} {A:List Rc} {ms:List Nat} {rd:Bool} {g0:G} {w0:World}
theorem Iv.step (hA:il C f (eF [] ops.toList) ops base n t0 st0 (base+ops.size) ik A tF uB kF rO) (rC:∀ k,base<=k->g0.ae k=none) {L:Nat->Bool} {u:Rc} {o:Oper} {post pre:List Rc} {t st:Tr D} {nx:Nat} {lg:List Nat}
 (hat:At C f (eF [] ops.toList) ops base n t0 st0 (base+ops.size) ik A u o post pre t st nx lg) (hL:L u.i=false) (hpost:∀ v∈post,L v.i=true->Ap u v) {g:G} {a:Act} {w:World} {tL eQ:Tr D} (hI:Iv C A base n t0 st0 kF ms rd g0 w0 L g a w tL eQ)
 {g':G} {w':World} {v:Value} {N:Nat->Prop} (R':Rel g' (app u.e (aA eQ)) w') (x:Ext g (aA eQ) w N g' (app u.e (aA eQ)) w') (hN:∀ i,N i->base<=i) (hv:VR g' u.d v) (hown:∀ k,g'.ae k≠none->g.ae k≠none\/DV.own base u k) (hch:CH u) :
 Iv C A base n t0 st0 kF ms rd g0 w0 (up L u.i) g' (a.put u.dst v) w' (gP n tL u.dst u.d) (jW u.e eQ):=by
 have hsize:(a.put u.dst v).tmps.size=a.tmps.size:=by cases u.dst <;> simp[Act.put]
 have hdef:(a.put u.dst v).defers=a.defers:=by cases u.dst <;> rfl
 have hown':∀ k,g'.ae k≠none->k<base\/∃ u'∈A,up L u.i u'.i=true/\DV.own base u' k:=by
  intro k hk
  rcases hown k hk with h|h
  · rcases hI.own k h with h1|⟨u',h1,h2,h3⟩
    · exact .inl h1
    · refine .inr ⟨u',h1,?_,h3⟩
      unfold up
      split
      · rfl
      · exact h2
  · exact .inr ⟨u,by rw[hat.eq];simp,by simp[up],h⟩
 refine⟨?_,?_,⟨?_,?_,?_,?_,?_,?_⟩,?_,hown',?_⟩
 · rw[O0,hI.tm,hat.eq]
   refine(IK hL hat.ne1 post hat.F6 λv hv hl k hk=>DY λd hd he => ?_).symm
   subst he
   exact(hpost v hv hl).n3 d hd (_7 hk)
 · rw[mD,hI.mem,hat.eq]
   refine(IK hL hat.ne1 post hat.F6 λv hv hl k hk => ?_).symm
   cases h:aH u.e k with
   |none=>rfl
   |some d=>exact absurd ((hpost v hv hl).k1 k (by simp[h])) hk
 · simp only[mD];exact R'
 · exact vG hI.st.size (λk=>(hI.st.tm k).mono x.le) hv
 · rw[hsize];exact hI.st.size
 · intro k hk
   cases hr:g'.ae k with
   |none=>rfl
   |some l =>
    have hnx:=pV hA
    simp only at hk
    rcases hown' k (by simp[hr])with h1|⟨u',h1,_,h3⟩
    · omega
    · have h4:=hnx.2 u' h1
      unfold DV.own at h3
      split at h3 <;> omega
 · intro i;exact(hI.st.gl i).mono x.le
 · rw[hdef];exact hI.st.ms.mono x.le
 · rw[mD]
   exact Ext.trans hI.ext x (λ_ h=>h) hN rC
 · intro u' h1 h2
   by_cases h3:u'.i=u.i
   · have:u'=u:=by
      rw[hat.eq]at h1
      rcases List.mem_append.1 h1 with h|h
      · exact absurd h3 (hat.F6 _ h)
      · rcases List.mem_cons.1 h with h|h
        · exact h
        · exact absurd h3 (hat.ne1 _ h)
     rw[this];exact hch
   · simp only[up,if_neg h3]at h2
     exact hI.ch u' h1 h2
theorem _9 (hC:jH P C) (hF:EA P C f) (hA:il C f (eF [] ops.toList) ops base n t0 st0 (base+ops.size) ik A tF uB kF rO) (rC:∀ k,base<=k->g0.ae k=none) {L:Nat->Bool} (tQ:LG ops L) {u:Rc} (hu:u∈A) (hL:L u.i=false) (bf:∀ j∈wG ops u.i,L j=true)
 {g:G} {a:Act} {w:World} {tL eQ:Tr D} (hI:Iv C A base n t0 st0 kF ms rd g0 w0 L g a w tL eQ) {r:Option Nat} {m:Nat} {Q:Exit->Act->World->Prop} {K:Act->World->Prop}
 (hK:∀ g' a' w' t' st',Iv C A base n t0 st0 kF ms rd g0 w0 (up L u.i) g' a' w' t' st'->K a' w'):wpOpIn (FW r) m P ops Q u.i K a w:=by
 obtain⟨o,post,pre,t,st,nx,lg,hat⟩:=QW hA u hu
 have hpost:∀ v∈post,L v.i=true->Ap u v:=by
  intro v hv hl
  rcases hat.qx v hv with h|h
  · have:L u.i=true:=Jw tQ (λm hm=>by
     unfold wG at hm
     split at hm
     · rename_i ov hov;exact tQ v.i ov hov hl m hm
     · simp at hm) h
    rw[hL]at this;simp at this
  · exact QV h
 have hpre:∀ v∈pre,L v.i=false->Ap v u:=by
  intro v hv hl
  rcases hat.ok1 v hv with h|h
  · have:=Jw tQ bf h
    rw[hl]at this;simp at this
  · exact QV h
 obtain⟨st',nx',jf,hsp⟩:=hat.sp
 obtain⟨hn0,hn1,hnn,hnm,hdst⟩:=R6 hsp
 have hS:=hI.st
 have jy:∀ k∈aN ops o,dK tL k=dK t k:=by
  intro k hk
  rw[← hnm]at hk
  have h1:=congrFun hI.tm k
  rw[hat.eq,fold_at hL (λv hv hl=>DY λd hd he=>(hpre v hv hl).n1 d hd (he ▸ hk)) post (λv hv hl=>DY λd hd he=>(hpost v hv hl).n2 d hd (he ▸ hk)),← congrFun (Kb hat.ran) k]at h1
  unfold dK
  simp only[aA]at h1
  rw[h1]
 have hwant:=Ya (ops:=ops) (o:=o) (t:=tL) (t':=t) λk hk=>jy k (List.mem_append_left _ hk)
 have ab8:=Yb (gl:=C.gl) jy
 have hget:∀ x,VR g (gH C.gl (aN ops o) t x) (a.eval x):=by
  intro x
  have:=_8 hS (aN ops o) x
  simp only[ab8]at this
  exact this
 have ac3:∀ v∈pre,CH v:=by
  intro v hv
  cases hl:L v.i with
  |true=>exact hI.ch v (by rw[hat.eq];simp[hv]) hl
  |false =>
   intro p hp
   rw[(hpre v hv hl).c]at hp;simp at hp
 have hstp:=Ei hat.ran ac3
 have hmem:∀ k,(∀ v∈post,L v.i=true->aH v.e k=none)->(∀ v∈pre,L v.i=false->aH v.e k=none)->aA eQ k=aA st k:=by
  intro k h1 h2
  rw[hI.mem,hat.eq,fold_at (E:=λv=>v.e) hL h2 post h1,hstp]
 have Jy:∀ k,DV.own base u k->g.ae k=none:=by
  intro k hk
  cases hr:g.ae k with
  |none=>rfl
  |some l =>
   have hnx:=pV hA
   have F7:=pV hat.ran
   have LH:=(hnx.2 u hu)
   rcases hI.own k (by simp[hr])with h1|⟨v,h1,h2,h3⟩
   · unfold DV.own at hk
     split at hk <;> omega
   · have hvs:=hnx.2 v h1
     have hne:v.i≠u.i:=λe=>by rw[e,hL]at h2;simp at h2
     unfold DV.own at hk h3
     split at hk
     · split at h3 <;> omega
     · rename_i hc
       split at h3
       · omega
       · rename_i UN
         rw[hat.eq]at h1
         rcases List.mem_append.1 h1 with h|h
         · have:=(hpost v h h2).c
           rw[hc]at this;simp at this
         · rcases List.mem_cons.1 h with h|h
           · rw[h]at hne;exact absurd rfl hne
           · have:=(F7.2 v h).2.1
             omega
 unfold wpOpIn
 simp only[hat.op]
 cases hsp with
 |skip hw hue =>
  rw[← hwant]at hw
  rw[qL hS hw]
  simp only[Bool.false_eq_true,if_false]
  refine⟨λ_ _=>trivial,?_⟩
  rw[← hdst]
  have he:u.e=[]:=by rw[hue];rfl
  have hd:u.d = .tu []:=by rw[hue];rfl
  have hc:u.c=none:=by rw[hue];rfl
  refine hK _ _ _ _ _ (hI.step hA rC hat hL hpost (N:=λ_=>False) (by rw[he];exact hS.rel) (by rw[he];exact Ext.refl _ _ _ _) (λ_ h=>h.elim) (by rw[hd];simp[VR,CR,aC,undef]) (λk h => .inl h) λp hp=>by rw[hc]at hp;simp at hp)
 | @loc d e hw he hk hue =>
  rw[← hwant]at hw
  rw[qL hS hw]
  simp only[if_true]
  have hc:u.c=none:=by rw[hue];rfl
  have hd:u.d=d:=by rw[hue];rfl
  have uC:u.e=e:=by rw[hue];rfl
  have htc:u.tc=kV (gH C.gl (aN ops o) t) o.op:=by rw[hue];rfl
  rw[← htc]at he hk
  have hrs:bV u.tc (aA st)=bV u.tc (aA eQ):=by
   funext k
   unfold bV
   split
   · rename_i h1
     have h1:=(jO _ _).1 h1
     exact(hmem k (λv hv hl=>(hpost v hv hl).k2 k h1) (λv hv hl=>(hpre v hv hl).k3 k h1)).symm
   · rfl
  have hsub:∀ i d,bV u.tc (aA eQ) i=some d->aA eQ i=some d:=by
   intro i d h
   unfold bV at h
   split at h
   · exact h
   · simp at h
  have KS:=hrs
  rw[hrs]at he
  have hfree:=Jy (base+u.i) (by unfold DV.own;rw[hc])
  have hdo:=Jq (P:=P) hC.T (o:=o) he (hS.rel.sub hsub) hfree hget
  refine hdo.wpIn (Ii he) λv w' ⟨g',R',X',V'⟩ => ?_
  obtain⟨h1,h2⟩:=frame hS.rel hsub X' R' (λi hi=>by rw[hi];exact hfree) λi hi=>by
   have:=DC e hk hi
   rw[KS]at this
   exact this
  rw[← hdst]
  refine hK _ _ _ _ _ (hI.step hA rC hat hL hpost (by rw[uC];exact h1) (by rw[uC];exact h2) (λi hi=>by omega) (by rw[hd];exact V') (λk hk => ?_) λp hp=>by rw[hc]at hp;simp at hp)
  cases hr:g'.ae k with
  |none=>exact absurd hr hk
  |some l =>
   rcases X'.rn k l hr with h|h
   · exact .inl (by simp[h])
   · right
     unfold DV.own
     rw[hc]
     exact h.2
 | @BF c fo k a0 b0 d e tc hw hop tO hfo he hk hue =>
  rw[← hwant]at hw
  rw[qL hS hw]
  simp only[if_true]
  have hc:u.c=none:=by rw[hue]
  have hd:u.d=d:=by rw[hue]
  have uC:u.e=e:=by rw[hue]
  have htc:u.tc=tc:=by rw[hue]
  rw[← htc]at he hk
  have hrs:bV u.tc (aA st)=bV u.tc (aA eQ):=by
   funext k
   unfold bV
   split
   · rename_i h1
     have h1:=(jO _ _).1 h1
     exact(hmem k (λv hv hl=>(hpost v hv hl).k2 k h1) (λv hv hl=>(hpre v hv hl).k3 k h1)).symm
   · rfl
  have hsub:∀ i d,bV u.tc (aA eQ) i=some d->aA eQ i=some d:=by
   intro i d h
   unfold bV at h
   split at h
   · exact h
   · simp at h
  have KS:=hrs
  rw[hrs]at he
  have hfree:=Jy (base+u.i) (by unfold DV.own;rw[hc])
  refine Aq hop tO hfo hget (λvs hvs=>hC.E _ _ _ _ _ _ he g w vs (hS.rel.sub hsub) hfree hS.gl hvs) λv w' ⟨g',R',X',V'⟩ => ?_
  obtain⟨h1,h2⟩:=frame hS.rel hsub X' R' (λi hi=>by rw[hi];exact hfree) λi hi=>by
   have:=DC e hk hi
   rw[KS]at this
   exact this
  rw[← hdst]
  refine hK _ _ _ _ _ (hI.step hA rC hat hL hpost (by rw[uC];exact h1) (by rw[uC];exact h2) (λi hi=>by omega) (by rw[hd];exact V') (λk hk => ?_) λp hp=>by rw[hc]at hp;simp at hp)
  cases hr:g'.ae k with
  |none=>exact absurd hr hk
  |some l =>
   rcases X'.rn k l hr with h|h
   · exact .inl (by simp[h])
   · right
     unfold DV.own
     rw[hc]
     exact h.2
 | @pure c fo k a0 b0 d hw hop tO hfo hp hue =>
  rw[← hwant]at hw
  rw[qL hS hw]
  simp only[if_true]
  have he:u.e=[]:=by rw[hue];rfl
  have hd:u.d=d:=by rw[hue];rfl
  have hc:u.c=none:=by rw[hue];rfl
  refine Aq hop tO hfo hget (λvs hvs=>hC.K _ _ _ hp g (aA eQ) w vs hS.rel hS.gl hvs) λv w' ⟨g',R',X',V'⟩ => ?_
  rw[← hdst]
  refine hK _ _ _ _ _ (hI.step hA rC hat hL hpost (N:=λ_=>False) (by rw[he];exact R') (by rw[he];exact X') (λ_ h=>h.elim) (by rw[hd];exact V') (λk hk => .inl ?_) λp hp=>by rw[hc]at hp;simp at hp)
  intro hn
  cases hr:g'.ae k with
  |none=>exact hk hr
  |some l =>
   rcases X'.rn k l hr with h|h
   · rw[hn]at h;simp at h
   · exact h.2
 | @BG c fo d s1 rm hw hop tO hx hnx hue hrm =>
  rw[← hwant]at hw
  rw[qL hS hw]
  simp only[if_true]
  have hc:u.c=some (lh rm st,s1.s):=by rw[hue];rfl
  have hd:u.d=d:=by rw[hue];rfl
  have uC:u.e=qb (lh rm st) s1.s s1.lg:=by rw[hue];rfl
  have hsub:∀ i d,aA (lh rm st) i=some d->aA eQ i=some d:=by
   intro i d h
   have h0:i ∉ rm/\aA st i=some d:=by
    simp only[aA,Qb]at h
    split at h
    · simp at h
    · rename_i h1;exact⟨h1,h⟩
   rw[hmem i (λv hv hl => ?_) λv hv hl => ?_]
   · exact h0.2
   · have:=(hpost v hv hl).c
     rw[hc]at this;simp at this
   · cases hl2:aH v.e i with
     |none=>rfl
     |some d' =>
      refine absurd (hrm v hv ?_ i (Du _ _ (by simp[hl2]))) h0.1
      cases h3:an (eF [] ops.toList) u.i v.i with
      |false=>rfl
      |true =>
       have:=Jw tQ bf h3
       rw[hl]at this;simp at this
  have hgf:∀ k,nx<=k->k<s1.nx->g.ae k=none:=λk h1 h2=>Jy k (by unfold DV.own;rw[hc,hn0,hn1];exact⟨h1,h2⟩)
  have Tu:∀ k,nx<=k->g.ae k=none:=by
   intro k hk
   rcases Nat.lt_or_ge k s1.nx with h1|h1
   · exact hgf k hk h1
   · cases hr:g.ae k with
     |none=>rfl
     |some l =>
      have ac4:=pV hA
      have F7:=pV hat.ran
      rcases hI.own k (by simp[hr])with h2|⟨v,h2,h3,h4⟩
      · omega
      · have hvs:=ac4.2 v h2
        unfold DV.own at h4
        split at h4
        · omega
        · rw[hat.eq]at h2
          rcases List.mem_append.1 h2 with h|h
          · have:=(hpost v h h3).c
            rw[hc]at this;simp at this
          · rcases List.mem_cons.1 h with h|h
            · rw[h,hL]at h3;simp at h3
            · have:=(F7.2 v h).2.1
              omega
  have hgo:∀ K',(∀ v w',CK ⟨.e,lh rm st,nx,0,[],[],false⟩ g w d s1 v w'->K' (a.put o.dst v) w')->o.wpIn (FW r) m P a w K' Q:=by
   intro K' hK'
   exact hF hop tO hx (hS.rel.sub hsub) Tu hS.gl hget hK'
  refine hgo _ λv w' ⟨g',R',X',V',F',H'⟩ => ?_
  have hch:aA s1.s=app u.e (aA (lh rm st)):=by
   rw[uC]
   exact YS λk hk=>H'.same k hk
  rw[hch]at R' X'
  obtain⟨h1,h2⟩:=frame hS.rel hsub X' R' (λi hi=>Tu i hi) λi hi=>by
   rw[uC,Dp]at hi
   split at hi
   · rename_i h3
     rcases h3.2 with h4|h4
     · exact .inl h4
     · refine X'.sn i ?_
       rw[← hch];exact h4
   · simp at hi
  rw[← hdst]
  refine hK _ _ _ _ _ (hI.step hA rC hat hL hpost h1 h2 (λi hi=>by
   have:=(pV hat.ran).1
   have hi:nx<=i:=hi
   omega) (by rw[hd];exact V') (λk hk => ?_) λp hp=>by rw[hc]at hp;simp only[Option.some.injEq]at hp;subst hp;exact hch)
  cases hr:g'.ae k with
  |none=>exact absurd hr hk
  |some l =>
   rcases X'.rn k l hr with h|h
   · exact .inl (by simp[h])
   · right
     unfold DV.own
     rw[hc,hn0,hn1]
     refine⟨h.2,?_⟩
     rcases Nat.lt_or_ge k s1.nx with h3|h3
     · exact h3
     · rw[F' k h3]at hr;simp at hr
end
end Go.Proofs.YtadecgbblajifaaGreatDoor.DV
namespace Go.Proofs.YtadecgbblajifaaGreatDoor
end Go.Proofs.YtadecgbblajifaaGreatDoor
namespace Go.Proofs.YtadecgbblajifaaGreatDoor.DV
open Go
variable {P:Program} {C:Cx}
def Lf (l:Array Bool) (j:Nat):Bool:=l.getD j false
theorem QX (L:Nat->Bool) (i:Nat):∀ l:List Nat,(l.filter λj => !up L i j).length<=(l.filter λj => !L j).length
 | []=>Nat.le_refl _
 |x :: l=>by
  have ih:=QX L i l
  simp only[List.filter_cons]
  by_cases h:x=i
  · simp only[up,if_pos h,Bool.not_true,Bool.false_eq_true,if_false]
    split
    · simp only[List.length_cons];unfold up at ih;omega
    · exact ih
  · simp only[up,if_neg h]
    split
    · simp only[List.length_cons];unfold up at ih;omega
    · exact ih
theorem QZ (L:Nat->Bool) (i:Nat) (hL:L i=false):∀ l:List Nat,i∈l->(l.filter λj => !up L i j).length<(l.filter λj => !L j).length
 | [],h=>by simp at h
 |x :: l,h=>by
  have hle:=QX L i l
  simp only[List.filter_cons]
  by_cases hx:x=i
  · subst hx
    simp only[up,if_true,Bool.not_true,Bool.false_eq_true,if_false,hL,Bool.not_false,List.length_cons]
    unfold up at hle
    omega
  · have hi:i∈l:=by
     rcases List.mem_cons.1 h with h|h
     · exact absurd h.symm hx
     · exact h
    have ih:=QZ L i hL l hi
    simp only[up,if_neg hx]
    unfold up at ih
    split
    · simp only[List.length_cons];omega
    · exact ih
theorem abe {l:Array Bool} {i:Nat} (hi:i<l.size):Lf (l.setIfInBounds i true)=up (Lf l) i:=by
 funext j
 unfold Lf up
 simp only[Array.getD_eq_getD_getElem?,Array.getElem?_setIfInBounds]
 by_cases h:j=i
 · subst h;simp[hi]
 · have:¬ i=j:=λe=>h e.symm
   simp[h,this]
theorem Ik {ops:Array Oper} {l:Array Bool} (hl:l.size=ops.size) (i:Nat):i∈Region.ready .any ops l↔∃ o,ops[i]? = some o/\Lf l i=false/\∀ j∈gD o,Lf l j=true:=by
 unfold Region.ready
 rw[List.mem_filter,List.mem_range]
 constructor
 · rintro⟨h1,h2⟩
   simp only[Bool.and_eq_true]at h2
   obtain⟨h2,h3⟩:=h2
   have ho:ops[i]? = some ops[i]:=Array.getElem?_eq_getElem h1
   refine⟨ops[i],ho,?_,λj hj => ?_⟩
   · have h4:i<l.size:=by omega
     simp only[Lf,Array.getD_eq_getD_getElem?,Array.getElem?_eq_getElem h4,Option.getD_some]at h2 ⊢
     simpa using h2
   · rw[ho]at h3
     simp only[Option.map_some,Option.getD_some,Array.all_eq_true_iff_forall_mem]at h3
     unfold gD at hj
     obtain⟨e,he,rfl⟩:=List.mem_map.1 hj
     rw[List.mem_filter]at he
     have:=h3 e (by simpa using he.1)
     rw[he.2]at this
     simpa[Lf]using this
 · rintro⟨o,ho,h1,h2⟩
   have hi:=(Array.getElem?_eq_some_iff.1 ho).1
   refine⟨hi,?_⟩
   simp only[Bool.and_eq_true]
   refine⟨?_,?_⟩
   · have h4:i<l.size:=by omega
     simp only[Lf,Array.getD_eq_getD_getElem?,Array.getElem?_eq_getElem h4,Option.getD_some]at h1 ⊢
     simp[h1]
   · rw[ho]
     simp only[Option.map_some,Option.getD_some,Array.all_eq_true_iff_forall_mem]
     intro e he
     cases hb:Region.binds .any e with
     |false=>rfl
     |true =>
      have:=h2 e.on (by
       unfold gD
       exact List.mem_map.2 ⟨e,List.mem_filter.2 ⟨by simpa using he,hb⟩,rfl⟩)
      simpa[Lf]using this
section
variable {f:uA} {ops:Array Oper} {base n:Nat} {t0 st0 tF uB:Tr D} {kF:Nat} {ik rO:List Nat} {A:List Rc} {ms:List Nat} {rd:Bool} {g0:G} {w0:World}
theorem Q0 (hC:jH P C) (hF:EA P C f) (hA:il C f (eF [] ops.toList) ops base n t0 st0 (base+ops.size) ik A tF uB kF rO) (rC:∀ k,base<=k->g0.ae k=none) (hall:∀ k<ops.size,∃ u∈A,u.i=k)
 {r:Option Nat} {m:Nat} {Q:Exit->Act->World->Prop} (hQ:∀ L g a w tL eQ,(∀ k<ops.size,L k=true)->Iv C A base n t0 st0 kF ms rd g0 w0 L g a w tL eQ->Q .normal a w) :
 ∀ (fuel:Nat) (l:Array Bool) (a:Act) (w:World) (g:G) (tL eQ:Tr D),l.size=ops.size->LG ops (Lf l)->((List.range ops.size).filter λj => !Lf l j).length<=fuel->Iv C A base n t0 st0 kF ms rd g0 w0 (Lf l) g a w tL eQ->wpAnyIn (FW r) m P .any ops Q fuel l a w:=by
 have hdone:∀ (l:Array Bool),l.size=ops.size->Region.ready .any ops l=[]->∀ k<ops.size,Lf l k=true:=by
  intro l hl hr k
  induction k using Nat.strongRecOn with
  |_ k IH =>
   intro hk
   cases h:Lf l k with
   |true=>rfl
   |false =>
    obtain⟨u,hu,rfl⟩:=hall k hk
    obtain⟨o,post,pre,t,st,nx,lg,hat⟩:=QW hA u hu
    have:u.i∈Region.ready .any ops l:=(Ik hl _).2 ⟨o,hat.op,h,λj hj=>IH j (hat.dp j hj) (by have:=hat.dp j hj;omega)⟩
    rw[hr]at this;simp at this
 intro fuel
 induction fuel with
 |zero =>
  intro l a w g tL eQ hl tQ hfu hI
  have hz:∀ k<ops.size,Lf l k=true:=by
   intro k hk
   have h0:=List.length_eq_zero_iff.1 (Nat.le_zero.1 hfu)
   have:=(List.filter_eq_nil_iff.1 h0) k (List.mem_range.2 hk)
   simpa using this
  refine⟨?_,hQ _ _ _ _ _ _ hz hI⟩
  apply List.eq_nil_iff_forall_not_mem.2
  intro i hi
  obtain⟨o,ho,h1,_⟩:=(Ik hl i).1 hi
  rw[hz i (Array.getElem?_eq_some_iff.1 ho).1]at h1
  simp at h1
 |succ fuel IH =>
  intro l a w g tL eQ hl tQ hfu hI
  refine⟨λhr=>hQ _ _ _ _ _ _ (hdone l hl hr) hI,λi hi => ?_⟩
  obtain⟨o,ho,h1,h2⟩:=(Ik hl i).1 hi
  have his:=(Array.getElem?_eq_some_iff.1 ho).1
  obtain⟨u,hu,rfl⟩:=hall i his
  refine _9 hC hF hA rC tQ hu h1 (λj hj => ?_) hI λg' a' w' t' st' hI' => ?_
  · simp only[wG,ho]at hj
    exact h2 j hj
  · have hset:=abe (l:=l) (i:=u.i) (by omega)
    refine IH _ a' w' g' t' st' (by simpa using hl) ?_ ?_ (by rw[hset];exact hI')
    · rw[hset]
      intro j oj hoj hj k hk
      unfold up at hj ⊢
      split
      · rfl
      · split at hj
        · rename_i h3
          subst h3
          rw[ho]at hoj
          simp only[Option.some.injEq]at hoj
          subst hoj
          exact h2 k hk
        · exact tQ j oj hoj hj k hk
    · rw[hset]
      have:=QZ (Lf l) u.i h1 (List.range ops.size) (List.mem_range.2 his)
      omega
end
theorem O3 {g:G} {σ:au} {w:World} {k:Nat} (R:Rel g σ w):Rel g σ { w with drawn:=k } := by
 refine⟨R.fm,λi d h => ?_,R.dj⟩
 obtain⟨l,hl⟩:=R.ob i d h
 exact⟨l,hl.keep (.refl g) hl.fm rfl⟩
theorem aaa (hm:P.follows .mixedOrders=true) (hC:jH P C):E5 P C (KR C):=by
 intro f _ hF hKo id ops s ex s' h r m g a w hr hS
 obtain⟨t,st,nx,n,ms,lg,rd⟩:=s
 simp only[KR,qW]at h
 split at h
 case h_2=>simp at h
 rename_i s1 acc hgo
 split at h
 case h_2=>simp at h
 rename_i hall
 simp only[Option.some.injEq,Prod.mk.injEq]at h
 obtain⟨rfl,rfl⟩:=h
 obtain⟨hA,hn,hms,hrd⟩:=PZ _ hgo (.nil)
 simp only at hA hn hms hrd
 have hfr:∀ k,nx<=k->g.ae k=none:=hS.fresh
 have hnx:=(pV hA).1
 refine wpIn_region_any hm (Q0 hC (ab7 hF hKo) hA hfr (Qa _ hall) (ms:=ms) (rd:=rd) (w0:=w) (λL g' a' w' tL eQ hL hI => ?_) ops.size _ _ _ g t st (by simp) ?_ ?_ ?_)
 · have xm:∀ v∈acc,L v.i=true:=λv hv=>hL _ ((pV hA).2 v hv).2.2
   have hch:∀ v∈acc,CH v:=λv hv=>hI.ch v hv (xm v hv)
   have e1:aA tL=aA s1.tm:=by
    rw[hI.tm,Kb hA]
    exact fold_congr _ _ λv hv=>xm v hv
   have e2:aA eQ=aA s1.s:=by
    rw[hI.mem,Ei hA hch]
    exact fold_congr _ _ λv hv=>xm v hv
   have e3:∀ k,dK tL k=dK s1.tm k:=λk=>by
    have:=congrFun e1 k
    simp only[aA]at this
    unfold dK
    rw[this]
   have hT:=hI.st
   have hx:=hI.ext
   rw[e2]at hx
   have hl:=abd hA
   refine⟨trivial,g',⟨?_,λk => ?_,?_,hT.fresh,hT.gl,?_⟩,⟨hx,hn,hrd,⟨by simp only;omega,hl.1,λk hk => ?_⟩⟩⟩
   · have:=hT.rel
     simp only[e2]at this
     exact this
   · have:=hT.tm k
     simp only[e3]at this
     exact this
   · rw[hn];exact hT.size
   · rw[hms];exact hT.ms
   · have:=congrFun (Ei hA hch) k
     simp only[aA]at this
     rw[this]
     have key:∀ B:List Rc,(∀ u∈B,aH u.e k=none)->dV (·.e) (λ_=>true) B (aA st) k=aX st k:=by
      intro B
      induction B with
      |nil=>intro _;rfl
      |cons u B IH =>
       intro hB
       simp only[dV,if_true,app]
       rw[hB u (List.mem_cons_self ..)]
       exact IH λv hv=>hB v (List.mem_cons_of_mem _ hv)
     refine key acc λu hu => ?_
     cases h:aH u.e k with
     |none=>rfl
     |some d=>exact absurd (hl.2 u hu k (by simp[h])) hk
 · intro i o ho hi
   exfalso
   unfold Lf at hi
   simp only[Array.getD_eq_getD_getElem?,Array.getElem?_replicate]at hi
   split at hi <;> simp at hi
 · have:((List.range ops.size).filter λj => !Lf (Array.replicate ops.size false) j).length<=(List.range ops.size).length:=List.length_filter_le _ _
   simpa using this
 · have hL0:∀ k,Lf (Array.replicate ops.size false) k=false:=by
    intro k
    unfold Lf
    simp only[Array.getD_eq_getD_getElem?,Array.getElem?_replicate]
    split <;> simp
   have hf0:∀ (E:Rc->Eff) (B:List Rc) (s:au),dV E (Lf (Array.replicate ops.size false)) B s=s:=by
    intro E B s
    induction B with
    |nil=>rfl
    |cons u B IH=>simp only[dV,hL0,Bool.false_eq_true,if_false];exact IH
   refine⟨(hf0 _ _ _).symm,(hf0 _ _ _).symm,⟨O3 hS.rel,hS.tm,hS.size,λk hk=>hfr k (by simp only at hk;omega),hS.gl,hS.ms⟩,⟨.refl _,Nat.le_refl _,λ_ _=>rfl,λ_ h => .inl h,λ_ _ h => .inl h,λ_ h => .inl h,⟨rfl,rfl,rfl⟩⟩,λk hk => ?_,λu _ hu => ?_⟩
   · left
     rcases Nat.lt_or_ge k nx with h|h
     · exact h
     · exact absurd (hfr k h) hk
   · rw[hL0]at hu;simp at hu
end Go.Proofs.YtadecgbblajifaaGreatDoor.DV
namespace Go.Proofs.YtadecgbblajifaaGreatDoor
end Go.Proofs.YtadecgbblajifaaGreatDoor
namespace Go.Proofs.YtadecgbblajifaaGreatDoor.DV
open Go
def Jz:Value->Value->Bool
 |.bool a,.bool b=>a == b
 |.int j a,.int k b=>(j == k) && (a == b)
 |.string ⟨⟨a⟩⟩,.string ⟨⟨b⟩⟩=>a == b
 |.float j a,.float k b=>(j == k) && (a == b)
 |.pointer none,.pointer none=>true
 |.slice none m c,.slice none n d=>(m == n) && (c == d)
 |.map none,.map none=>true
 |.nilFunc,.nilFunc=>true
 |.nilIface,.nilIface=>true
 |_,_=>false
theorem YT {a b:Value} (h:Jz a b=true):a=b/\a.oneCell'=true:=by
 unfold Jz at h
 split at h <;> simp at h <;> simp[h,Value.oneCell']
mutual
def gQ:D->List Value->Bool
 |.lf v,cs=>match cs with
  | [u]=>Jz u v
  |_=>false
 |.st ss ds,cs=>sO ss ds cs
 |.ar s ds,cs=>sO (List.replicate ds.length s) ds cs
 |_,_=>false
def sO:List Nat->List D->List Value->Bool
 | [],[],[]=>true
 |s :: ss,d :: ds,cs=>decide (s<=cs.length) && gQ d (cs.take s) && sO ss ds (cs.drop s)
 |_,_,_=>false
end
mutual
theorem Jd {g:G} : ∀ (d:D) (cs:List Value),gQ d cs=true->CR g false d cs
 |.lf v,cs,h=>by
  simp only[gQ]at h
  split at h
  · obtain⟨rfl,h1⟩:=YT h
    simp only[CR]
    exact⟨trivial,λ_=>h1⟩
  · simp at h
 |.st ss ds,cs,h=>by
  simp only[gQ]at h
  simp only[CR,wrap]
  exact⟨cs,rfl,IM ss ds cs h⟩
 |.ar s ds,cs,h=>by
  simp only[gQ]at h
  simp only[CR,wrap]
  exact⟨cs,rfl,IM _ ds cs h⟩
 |.sl _ _ _,_,h=>by simp[gQ]at h
 |.fp _,_,h=>by simp[gQ]at h
 |.ref _ _,_,h=>by simp[gQ]at h
 |.own _ _ _ _,_,h=>by simp[gQ]at h
 |.e0,_,h=>by simp[gQ]at h
 |.fn _ _ _,_,h=>by simp[gQ]at h
 |.tu _,_,h=>by simp[gQ]at h
 |.gZ _ _,_,h=>by simp[gQ]at h
 |.bZ,_,h=>by simp[gQ]at h
 |.mp _,_,h=>by simp[gQ]at h
 |.mo _ _,_,h=>by simp[gQ]at h
 |.yd _,_,h=>by simp[gQ]at h
 |.lo _ _ _ _,_,h=>by simp[gQ]at h
 |.lb _ _ _ _,_,h=>by simp[gQ]at h
 |.jK _,_,h=>by simp[gQ]at h
 |.df,_,h=>by simp[gQ]at h
theorem IM {g:G} : ∀ (ss:List Nat) (ds:List D) (cs:List Value),sO ss ds cs=true->aj g ss ds cs
 | [],[],cs,h=>by
  cases cs with
  |nil=>simp[aj]
  |cons _ _=>simp[sO]at h
 |s :: ss,d :: ds,cs,h=>by
  simp only[sO,Bool.and_eq_true,decide_eq_true_eq]at h
  simp only[aj]
  exact⟨h.1.1,Jd d _ h.1.2,IM ss ds _ h.2⟩
 | [],_ :: _,_,h=>by simp[sO]at h
 |_ :: _,[],_,h=>by simp[sO]at h
end
def kG (P:Program) (t:Nat):Nat:=P.cellsOf t
def Be (P:Program):Nat->Nat->D
 |0,_ => .bZ
 |n+1,t=>match P.underlying t with
  |some (.struct fs) => .st (fs.toList.map λf=>kG P f.type) (fs.toList.map λf=>Be P n f.type)
  |some (.array m e) => .ar (kG P e) (List.replicate m (Be P n e))
  |some _=>match P.info? t with
   |some i=>match i.zero with
    |some z => .lf z
    |none => .bZ
   |none => .bZ
  |none => .bZ
def sP (P:Program) (t:Nat):Bool:=(P.info? t).isSome
def yU (P:Program):List Field->Option (List (Nat × Nat × Bool))
 | []=>some []
 |f :: fs=>match P.underlying f.type,yU P fs with
  |some u,some l=>if sP P f.type && !(Nat.beq (kG P f.type) 0)then some ((f.offset,kG P f.type,ES u) :: l)else none
  |_,_=>none
def nX (P:Program):TypeDesc->Tk
 |.bool => .bo
 |.int k => .it k
 |.string => .str
 |.pointer e => .pt e
 |.slice e=>if sP P e && !(Nat.beq (kG P e) 0)then .sl e (kG P e)else .ot
 |.array n e=>if sP P e && !(Nat.beq (kG P e) 0)then .ar n e (kG P e)else .ot
 |.struct fs=>match yU P fs.toList with
  |some l => .st l
  |none => .ot
 |.func _ _ _ => .fu
 |.interface _ => .gZ
 |.map k e => .mp k e
 |_ => .ot
def BH (P:Program):Nat->List Field->Option (List Tk)
 |_,[]=>some []
 |i,f :: fs=>match P.underlying f.type,BH P (i+1) fs with
  |some u, some l => if(f.name != "_") && Nat.beq f.offset i && JQ (nX P u)then some (nX P u :: l)else none
  |_,_=>none
def Tv (P:Program) (t:Nat):TypeDesc->List Tk
 |.struct fs=>match BH P 0 fs.toList with
  |some l=>if !P.stoodInHeld t && !P.eqGuardType P.depth t then l else[]
  |none=>[]
 |_=>[]
def JA:Value->Bool
 |.agg _=>true
 |_=>false
def KT (P:Program) (t:Nat):Option Ty:=match P.info? t,P.underlying t with
 |some i,some u=>match i.zero with
  |some z=>if gQ (Be P 8 t) z.cells.toList && (mR (Be P 8 t) == JA z)then some ⟨nX P u,ES u,i.size,i.bytes,Be P 8 t,Tv P t u⟩else none
  |none=>none
 |_,_=>none
theorem Q3 {P:Program} {t:Nat} (h:sP P t=true):mQ P t (kG P t):=by
 unfold sP at h
 cases hi:P.info? t with
 |none=>rw[hi]at h;simp at h
 |some i=>exact⟨i,hi,by simp[kG,Program.cellsOf,hi]⟩
theorem Qc {P:Program} : ∀ (fs:List Field) (l:List (Nat × Nat × Bool)),yU P fs=some l->oD P fs l
 | [],l,h=>by simp only[yU,Option.some.injEq]at h;subst h;trivial
 |f :: fs,l,h=>by
  simp only[yU]at h
  split at h
  · rename_i u l' hu hl
    split at h
    · rename_i hb
      simp only[Bool.and_eq_true,Bool.not_eq_true']at hb
      simp only[Option.some.injEq]at h
      subst h
      exact⟨rfl,Q3 hb.1,λe=>by simp only at e;rw[e]at hb;simp at hb,⟨u,hu,rfl⟩,Qc fs l' hl⟩
    · simp at h
  · simp at h
theorem R7 {P:Program} {e:Nat} (hb:(sP P e && !(Nat.beq (kG P e) 0))=true):mQ P e (kG P e)/\kG P e≠0:=by
 simp only[Bool.and_eq_true,Bool.not_eq_true']at hb
 exact⟨Q3 hb.1,λe=>by rw[e]at hb;simp at hb⟩
theorem Qd {P:Program} (u:TypeDesc):bz P u (nX P u):=by
 cases u with
 |slice e =>
  by_cases hb:(sP P e && !(Nat.beq (kG P e) 0))=true
  · simp only[nX,hb,if_true,bz]
    exact⟨trivial,R7 hb⟩
  · simp only[nX,hb,if_false,bz,Bool.false_eq_true]
 |array n e =>
  by_cases hb:(sP P e && !(Nat.beq (kG P e) 0))=true
  · simp only[nX,hb,if_true,bz]
    exact⟨trivial,trivial,R7 hb⟩
  · simp only[nX,hb,if_false,bz,Bool.false_eq_true]
 |struct fs =>
  cases hl:yU P fs.toList with
  |some l =>
   simp only[nX,hl,bz]
   exact Qc _ _ hl
  |none=>simp only[nX,hl,bz]
 |map k e=>exact⟨rfl,rfl⟩
 |_=>simp only[nX,bz]
theorem Qe {P:Program} : ∀ (fs:List Field) (i:Nat) (l:List Tk),BH P i fs=some l->yN P i fs l
 | [],i,l,h=>by simp only[BH,Option.some.injEq]at h;subst h;trivial
 |f :: fs,i,l,h=>by
  simp only[BH]at h
  split at h
  · rename_i u l' hu hl
    split at h
    · rename_i hb
      simp only[Bool.and_eq_true,bne_iff_ne]at hb
      simp only[Option.some.injEq]at h
      subst h
      exact⟨hb.1.1,Nat.eq_of_beq_eq_true hb.1.2,⟨u,hu,Qd u⟩,hb.2,Qe fs (i+1) l' hl⟩
    · simp at h
  · simp at h
theorem aab {P:Program} {t:Nat} {y:Ty} (h:KT P t=some y):aW P t y:=by
 unfold KT at h
 split at h
 case h_2=>simp at h
 rename_i i u hi hu
 split at h
 case h_2=>simp at h
 rename_i z hz
 split at h
 case isFalse=>simp at h
 rename_i hb
 simp only[Bool.and_eq_true,beq_iff_eq]at hb
 simp only[Option.some.injEq]at h
 subst h
 refine⟨⟨i,z,hi,rfl,rfl,hz,λg => ?_⟩,⟨u,hu,rfl,Qd u⟩,λhc => ?_⟩
 · have h1:=Jd (g:=g) _ _ hb.1
   obtain⟨v,h2,h3,h4⟩:=FU h1
   have:v=z:=by
    rcases h3 with⟨h5,rfl⟩|⟨h5,h6⟩
    · rw[h5]at hb
      cases z <;> simp[JA]at hb
      simp[Value.cells]
    · rw[h5]at hb
      cases z <;> simp[JA]at hb <;> simp only[Value.cells]at h6 <;> simpa using h6.symm
   rw[← this]
   exact h2
 · simp only at hc ⊢
   unfold Tv at hc ⊢
   split at hc
   · rename_i fs
     split at hc
     · rename_i l hl
       split at hc
       · rename_i hb2
         simp only[Bool.and_eq_true,Bool.not_eq_true']at hb2
         have hl':=hl
         simp only[hb2,Bool.not_false,Bool.and_self,if_true]
         exact⟨fs,hu,hb2.1,hb2.2,Qe _ _ _ hl⟩
       · exact absurd rfl hc
     · exact absurd rfl hc
   · exact absurd rfl hc
end Go.Proofs.YtadecgbblajifaaGreatDoor.DV
namespace Go.Proofs.YtadecgbblajifaaGreatDoor
end Go.Proofs.YtadecgbblajifaaGreatDoor
namespace Go.Proofs.YtadecgbblajifaaGreatDoor.DV
open Go
noncomputable section
def qh {α:Type} : Nat->List (Option α)->Tr α->Tr α
 |_,[],t=>t
 |k,some y :: l,t=>iU t k (some y) λt=>qh (Nat.succ k) l t
 |k,none :: l,t=>qh (Nat.succ k) l t
theorem IP {α:Type} {y:α} {j:Nat} : ∀ (l:List (Option α)) (k:Nat) (t:Tr α),aX (qh k l t) j=some y->(k<=j/\l[j - k]? = some (some y))\/aX t j=some y
 | [],_,_,h => .inr h
 |some z :: l,k,t,h=>by
  rw[qh,j6]at h
  rcases IP l _ _ h with⟨h1,h2⟩|h1
  · left
    refine⟨by omega,?_⟩
    rw[show j - k=(j - Nat.succ k)+1 by omega,List.getElem?_cons_succ]
    exact h2
  · rw[lG]at h1
    split at h1
    · rename_i h2
      subst h2
      left
      simpa using h1
    · exact .inr h1
 |none :: l,k,t,h=>by
  rw[qh]at h
  rcases IP l _ _ h with⟨h1,h2⟩|h1
  · left
    refine⟨by omega,?_⟩
    rw[show j - k=(j - Nat.succ k)+1 by omega,List.getElem?_cons_succ]
    exact h2
  · exact .inr h1
theorem aac {α:Type} {y:α} {j:Nat} {l:List (Option α)} (h:aX (qh 0 l .e) j=some y):l[j]? = some (some y):=by
 rcases IP l 0 .e h with⟨_,h1⟩|h1
 · exact h1
 · simp[aX,tgt]at h1
def Tw (P : Program) (l : List (Option Func)) : Prop := P.funcs.toList.map some = l /\ (P.funcs.toList.all λf => !(f.name == "runtime.NumGoroutine")) = true
theorem abf {P : Program} {l : List (Option Func)} (h : Tw P l) : ∀ k fn, aX (qh 0 l .e) k = some fn -> P.funcs[k]? = some fn /\ (fn.name == "runtime.NumGoroutine") = false := by
 intro k fn hk
 have h1:=aac hk
 rw[← h.1,List.getElem?_map]at h1
 cases h2:P.funcs.toList[k]? with
 |none=>rw[h2]at h1;simp at h1
 |some f =>
  rw[h2]at h1
  simp only[Option.map_some,Option.some.injEq]at h1
  subst h1
  refine⟨by simpa using h2,?_⟩
  have:=List.all_eq_true.1 h.2 f (List.mem_of_getElem? h2)
  simpa using this
end
end Go.Proofs.YtadecgbblajifaaGreatDoor.DV
namespace Go.Proofs.YtadecgbblajifaaGreatDoor
end Go.Proofs.YtadecgbblajifaaGreatDoor
