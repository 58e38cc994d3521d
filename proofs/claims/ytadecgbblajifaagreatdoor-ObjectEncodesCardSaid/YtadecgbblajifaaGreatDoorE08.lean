import Derived.Test.YtadecgbblajifaaGreatDoorE07
set_option linter.unusedSimpArgs false
set_option linter.unusedVariables false
set_option maxRecDepth 100000
set_option maxHeartbeats 25600000
namespace Go.Proofs.YtadecgbblajifaaGreatDoor
end Go.Proofs.YtadecgbblajifaaGreatDoor
namespace Go.Proofs.YtadecgbblajifaaGreatDoor.DV
open Go
variable {P:Program} {C:Cx}
abbrev FW (r:Option Nat):Fence := { Fence.wide with round:=r }
def iH:Ex->Exit->Prop
 |.normal,.normal=>True
 |.ret,.ret=>True
 |.exit i,.exit j=>i=j
 |_,_=>False
structure Lk (s:S) (g:G) (w:World) (s':S) (g':G) (w':World):Prop where
 ext:Ext g (aA s.s) w (Nw s) g' (aA s'.s) w'
 n:s'.n=s.n
 ms:s'.rd=s.rd
 ch:Ch s s'
theorem Lk.refl (s:S) (g:G) (w:World):Lk s g w s g w:=⟨Ext.refl _ _ _ _,rfl,rfl,Ch.refl s⟩
theorem Lk.trans {s t u:S} {g h k:G} {w x y:World} (a:Lk s g w t h x) (b:Lk t h x u k y) (hf:∀ i,s.nx<=i->g.ae i=none):Lk s g w u k y :=
 ⟨Ext.trans a.ext b.ext (λ_ h=>h) (λ_ h=>Nat.le_trans a.ch.nx h) hf,b.n.trans a.n,b.ms.trans a.ms,a.ch.trans b.ch⟩
def PQ (C:Cx) (s:S) (g:G) (w:World) (ex:Ex) (s':S):Exit->Act->World->Prop:=λe a' w'=>iH ex e/\∃ g',St C s' g' a' w'/\Lk s g w s' g' w'
theorem PQ.trans {s t u:S} {g h:G} {w x:World} {ex:Ex} {e:Exit} {a:Act} {y:World} (hl:Lk s g w t h x) (hf:∀ i,s.nx<=i->g.ae i=none) (q:PQ C t h x ex u e a y):PQ C s g w ex u e a y:=by
 obtain⟨h1,g',h2,h3⟩:=q
 exact⟨h1,g',h2,hl.trans h3 hf⟩
def CK (s:S) (g:G) (w:World) (d:D) (s':S) (v:Value) (w':World):Prop :=
 ∃ g',Rel g' (aA s'.s) w'/\Ext g (aA s.s) w (Nw s) g' (aA s'.s) w'/\VR g' d v/\(∀ i,s'.nx<=i->g'.ae i=none)/\Ch s s'
def uy (P:Program) (f:Nat) (args:Array Value) (w:World) (K:Value->World->Prop):Prop :=
 ((callFunc f args).run P w = .ok (.enter f args) w/\Calls P f args w λe w'=>∃ v,e = .returned v/\K v w')\/(∃ v w',(callFunc f args).run P w = .ok (.value v) w'/\K v w')
theorem uy.mono {P:Program} {f:Nat} {args:Array Value} {w:World} {K K':Value->World->Prop} (h:uy P f args w K) (hk:∀ v w',K v w'->K' v w'):uy P f args w K':=by
 rcases h with⟨h1,h2⟩|⟨v,w',h1,h2⟩
 · exact .inl ⟨h1,h2.mono λe w' ⟨v,h3,h4⟩=>⟨v,h3,hk _ _ h4⟩⟩
 · exact .inr ⟨v,w',h1,hk _ _ h2⟩
def Pure (P:Program) (gl:Nat->D) (f:Nat) (args:List D) (d:D):Prop:=∀ g σ w args',Rel g σ w->(∀ i,VR g (gl i) (.pointer (some ⟨i,0,none⟩)))->aC g args args'->uy P f ⟨args'⟩ w λv w'=>∃ g',Rel g' σ w'/\Ext g σ w (λ_=>False) g' σ w'/\VR g' d v
def kT (P:Program) (gl:Nat->D) (f:Nat) (args:List D) (σ:au) (id:Nat) (d:D) (e:Eff):Prop:=∀ g w vs,Rel g σ w->g.ae id=none->(∀ i,VR g (gl i) (.pointer (some ⟨i,0,none⟩)))->aC g args vs->uy P f ⟨vs⟩ w (Out g σ w (· = id) d e)
structure jH (P:Program) (C:Cx):Prop where
 O:∀ f args d,C.O f args=some d->Pure P C.gl f args d
 K:∀ f args d,C.K f args d->Pure P C.gl f args d
 T:cZ P C.T
 F : ∀ k fn, C.F k = some fn -> P.funcs[k]? = some fn /\ (fn.name == "runtime.NumGoroutine") = false
 X:∀ k b c v w,C.X k=true->(Extern.BytealgIndexByte.indexByte #[.string b,.int .u8 c]).run P w = .ok v w->(callFunc k #[.string b,.int .u8 c]).run P w = .ok (.value v) w
 E:∀ f args σ id d e,C.E f args σ id d e->kT P C.gl f args σ id d e
def nN (P:Program) (C:Cx) (f:eH->S->R):Prop:=∀ c s ex s',f (.code c) s=some (ex,s')->∀ r m g a w,(s.rd=false->r=none)->St C s g a w->c.wpIn (FW r) m P (PQ C s g w ex s') a w
def qX (P:Program) (C:Cx) (f:eH->S->R):Prop:=∀ (all:Array Oper) l s ex s' k,f (.ops all l) s=some (ex,s')->l=all.toList.drop k->∀ r m g a w,(s.rd=false->r=none)->St C s g a w->∀ Q:Exit->Act->World->Prop,(∀ e a' w',PQ C s g w ex s' e a' w'->Q e a' w')->wpOpsIn (FW r) m P all Q (List.range' k (all.size - k)) a w
def sI (P:Program) (C:Cx) (f:eH->S->R):Prop:=∀ fn args s ex s',f (.call fn args) s=some (ex,s')->∃ d,ex = .val d/\∀ g w args',Rel g (aA s.s) w->(∀ i,s.nx<=i->g.ae i=none)->(∀ i,VR g (C.gl i) (.pointer (some ⟨i,0,none⟩)))->aC g args args'->uy P fn ⟨args'⟩ w (CK s g w d s')
def E5 (P:Program) (C:Cx) (dr:(eH->S->R)->Array Oper->S->R):Prop:=∀ f,qX P C f->sI P C f->nN P C f->∀ id ops s ex s',dr f ops s=some (ex,s')->∀ r m g a w,(s.rd=false->r=none)->St C s g a w->(Code.region id ops true).wpIn (FW r) m P (PQ C s g w ex s') a w
theorem PN {r:Option Nat} {m f:Nat} {args:Array Value} {w:World} {K:Ending->World->Prop} (h:Calls P f args w K):CallsIn (FW r) m P f args w K:=(callsIn_wide (n:=m)).2 h
theorem Does.wpIn {o:Oper} {a:Act} {w:World} {K:Value->World->Prop} {r:Option Nat} {m:Nat} {next:Act->World->Prop} {Q:Exit->Act->World->Prop} (h:Does P o a w K) (hd:∀ c,o.op ≠ .defer c) (hn:∀ v w',K v w'->next (a.put o.dst v) w'):o.wpIn (FW r) m P a w next Q:=by
 refine⟨λ_ _=>trivial,?_⟩
 rw[Oper.semAt_eq _ _ _ hd]
 obtain⟨v,w',h|⟨h,rfl⟩,hk⟩:=h
 · rw[h];exact hn _ _ hk
 · rw[h];exact hn _ _ hk
theorem Ii {T:dA} {σ:au} {n:Nat} {get:Operand->D} {o:Op} {x:D × Eff} (h:fH T σ n get o=some x):∀ c,o ≠ .defer c:=by
 rintro c rfl
 simp[fH]at h
theorem St.next {s:S} {g:G} {a:Act} {w w':World} {dst:Option Nat} {d:D} {e:Eff} {v:Value} (h:St C s g a w) (ho:Out g (aA s.s) w (· = s.nx) d e v w') :
 ∃ g',St C ⟨gP s.n s.tm dst d,jW e s.s,s.nx+1,s.n,s.ms,kS e s.lg,s.rd⟩ g' (a.put dst v) w'/\Lk s g w ⟨gP s.n s.tm dst d,jW e s.s,s.nx+1,s.n,s.ms,kS e s.lg,s.rd⟩ g' w':=by
 obtain⟨g',h1,h2,h3⟩:=ho
 have hsize:(a.put dst v).tmps.size=a.tmps.size:=by cases dst <;> simp[Act.put]
 have hdef:(a.put dst v).defers=a.defers:=by cases dst <;> rfl
 have hl:∀ (e:Eff) (l:List Nat) (i:Nat),(i∈l->i∈kS e l)/\(i ∉ kS e l->aH e i=none):=by
  intro e
  induction e with
  |nil=>intro l i;exact⟨λh=>h,λ_=>rfl⟩
  |cons p e ih =>
   intro l i
   obtain⟨j,d⟩:=p
   refine⟨λh=>List.mem_cons_of_mem _ ((ih l i).1 h),λh => ?_⟩
   simp only[kS,List.mem_cons,not_or]at h
   rw[j5 _ _ h.1]
   exact(ih l i).2 h.2
 refine⟨g',⟨by rw[mD];exact h1,vG h.size (λk=>(h.tm k).mono h2.le) h3,by rw[hsize];exact h.size,λi hi => ?_,λi=>(h.gl i).mono h2.le,by rw[hdef];exact h.ms.mono h2.le⟩,⟨?_,rfl,rfl,⟨Nat.le_succ _,λi hi=>(hl e s.lg i).1 hi,λi hi => ?_⟩⟩⟩
 · cases hr:g'.ae i with
   |none=>rfl
   |some l =>
    rcases h2.rn i l hr with h4|⟨_,h4⟩
    · rw[h.fresh i (by simp only at hi;omega)]at h4;simp at h4
    · simp only at hi;omega
 · rw[mD]
   exact⟨h2.le,h2.hp,h2.fr,h2.jv,λi l hi=>(h2.rn i l hi).imp_right λx=>⟨x.1,by rw[x.2];exact Nat.le_refl _⟩,λi hi=>(h2.sn i hi).imp_right λx=>by rw[x];exact Nat.le_refl _,h2.sm⟩
 · have:=congrFun (mD e s.s) i
   simp only[aA]at this
   rw[this]
   simp[app,(hl e s.lg i).2 hi,aA]
theorem Hz {k n:Nat} (h:k<n):List.range' k (n - k)=k :: List.range' (k+1) (n - (k+1)):=by
 rw[show n - k=(n - (k+1))+1 by omega,List.range'_succ]
theorem drop_at {all:Array Oper} {k:Nat} {o:Oper} {l:List Oper} (h:o :: l=all.toList.drop k):k<all.size/\all[k]? = some o/\l=all.toList.drop (k+1):=by
 have hk:k<all.toList.length:=by
  rcases Nat.lt_or_ge k all.toList.length with h1|h1
  · exact h1
  · rw[List.drop_eq_nil_of_le h1]at h;simp at h
 rw[List.drop_eq_getElem_cons hk]at h
 simp only[List.cons.injEq]at h
 refine⟨by simpa using hk,?_,h.2⟩
 rw[h.1]
 simp
theorem qL {s:S} {g:G} {a:Act} {w:World} {all:Array Oper} {o:Oper} {b:Bool} (h:St C s g a w) (hw:want all s.tm o=some b):Region.wanted o (yielded all a.tmps)=b:=by
 unfold want at hw
 unfold Region.wanted
 split at hw
 · rename_i hg
   simp only[Option.some.injEq]at hw
   rw[hg,← hw]
 · rename_i j c hg
   rw[hg]
   have hy:∀ y,yl all s.tm j=some y->yielded all a.tmps j=y:=by
    intro y hy
    unfold yl at hy
    split at hy
    case h_2=>simp at hy
    rename_i oj hoj
    rw[vF]at hoj
    split at hy
    case h_2=>simp at hy
    rename_i d hd
    have KQ:all[j]? = some oj:=by simpa using hoj
    have h1:=h.tm d
    split at hy
    · rename_i b' hb
      simp only[Option.some.injEq]at hy
      subst hy
      rw[hb]at h1
      have h1:=dh h1
      have hd2:a.tmps[d]? = some (.bool b'):=by
       cases hx:a.tmps[d]? with
       |none =>
        rw[Array.getD_eq_getD_getElem?,hx]at h1
        simp[undef]at h1
       |some x =>
        rw[Array.getD_eq_getD_getElem?,hx]at h1
        simp at h1
        rw[h1]
      simp[yielded,KQ,hd,hd2]
    · rename_i ds hb
      simp only[Option.some.injEq]at hy
      subst hy
      rw[hb]at h1
      simp only[VR,CR,List.cons.injEq,and_true,true_and]at h1
      obtain⟨vs,h1,_⟩:=h1
      rw[Array.getD_eq_getD_getElem?]at h1
      cases hx:a.tmps[d]? with
      |none=>simp[yielded,KQ,hd,hx]
      |some x =>
       rw[hx]at h1
       simp at h1
       simp[yielded,KQ,hd,hx,h1]
    · simp at hy
   split at hw
   · rename_i c' hc
     simp only[Option.some.injEq]at hw
     subst hw
     simp only[hy _ hc]
     cases c' <;> cases c <;> rfl
   · rename_i hc
     simp only[Option.some.injEq]at hw
     subst hw
     simp only[hy _ hc]
     cases c <;> rfl
   · simp at hw
theorem OU (hC:jH P C) {f:eH->S->R} (hO:qX P C f) {all:Array Oper} {l:List Oper} {o:Oper} {k:Nat} {s s':S} {ex:Ex} (h:Eg C f all l o.dst s o.op=some (ex,s')) (hl:l=all.toList.drop (k+1)) {r:Option Nat} {m:Nat} {g:G} {a:Act} {w:World} (hr:s.rd=false->r=none)
 (hS:St C s g a w) {Q:Exit->Act->World->Prop} (hQ:∀ e a' w',PQ C s g w ex s' e a' w'->Q e a' w'):o.wpIn (FW r) m P a w (wpOpsIn (FW r) m P all Q (List.range' (k+1) (all.size - (k+1)))) Q:=by
 unfold Eg RX at h
 split at h
 case h_2=>simp at h
 rename_i d e he
 obtain⟨t,st,nx,n,ms,lg,rd⟩:=s
 simp only[vR,DU,xZ,qW]at h
 have hdo:=Jq (P:=P) hC.T (o:=o) he hS.rel (hS.fresh _ (Nat.le_refl _)) hS.get
 refine hdo.wpIn (Ii he) λv w' hk => ?_
 obtain⟨g',h1,h2⟩:=hS.next (dst:=o.dst) hk
 exact hO all l _ ex s' (k+1) h hl r m g' _ w' hr h1 Q λe a' x q=>hQ _ _ _ (PQ.trans h2 hS.fresh q)
theorem PO {f:eH->S->R} (hO:qX P C f) {all:Array Oper} {l:List Oper} {dst:Option Nat} {k:Nat} {s s1 s':S} {d:D} {ex:Ex} (h:sN f all l dst s.tm s.n s.ms s.rd (some (.val d,s1))=some (ex,s')) (hl:l=all.toList.drop (k+1)) {r:Option Nat} {m:Nat} {g:G} {a:Act} {w:World} (hr:s.rd=false->r=none)
 (hS:St C s g a w) {Q:Exit->Act->World->Prop} (hQ:∀ e a' w',PQ C s g w ex s' e a' w'->Q e a' w') {v:Value} {w':World} (hk:CK s g w d s1 v w') :
 wpOpsIn (FW r) m P all Q (List.range' (k+1) (all.size - (k+1))) (a.put dst v) w':=by
 obtain⟨t,st,nx,n,ms,lg,rd⟩:=s1
 simp only[sN,xZ]at h
 obtain⟨g',h1,h2,h3,h4,h5⟩:=hk
 have hsize:(a.put dst v).tmps.size=a.tmps.size:=by cases dst <;> simp[Act.put]
 have hdef:(a.put dst v).defers=a.defers:=by cases dst <;> rfl
 have hS1:St C ⟨gP s.n s.tm dst d,st,nx,s.n,s.ms,lg,s.rd⟩ g' (a.put dst v) w' :=
  ⟨h1,vG hS.size (λk=>(hS.tm k).mono h2.le) h3,by rw[hsize];exact hS.size,h4,λi=>(hS.gl i).mono h2.le,by rw[hdef];exact hS.ms.mono h2.le⟩
 have hL:Lk s g w ⟨gP s.n s.tm dst d,st,nx,s.n,s.ms,lg,s.rd⟩ g' w':=⟨h2,rfl,rfl,⟨h5.nx,h5.lg,h5.same⟩⟩
 exact hO all l _ ex s' (k+1) h hl r m g' _ w' hr hS1 Q λe a' x q=>hQ _ _ _ (PQ.trans hL hS.fresh q)
theorem _2 {f:eH->S->R} (hO:qX P C f) {all:Array Oper} {l:List Oper} {o:Oper} {k:Nat} {s s':S} {ex:Ex} (h:J5 f all l o.dst s=some (ex,s')) (hl:l=all.toList.drop (k+1)) {r:Option Nat} {m:Nat} {g:G} {a:Act} {w:World} (hr:s.rd=false->r=none)
 (hS:St C s g a w) {Q:Exit->Act->World->Prop} (hQ:∀ e a' w',PQ C s g w ex s' e a' w'->Q e a' w'):wpOpsIn (FW r) m P all Q (List.range' (k+1) (all.size - (k+1))) (a.put o.dst undef) w:=by
 obtain⟨t,st,nx,n,ms,lg,rd⟩:=s
 simp only[J5,xZ]at h
 have hsize:(a.put o.dst undef).tmps.size=a.tmps.size:=by cases o.dst <;> simp[Act.put]
 have hdef:(a.put o.dst undef).defers=a.defers:=by cases o.dst <;> rfl
 have hS1:St C ⟨gP n t o.dst (.tu []),st,nx,n,ms,lg,rd⟩ g (a.put o.dst undef) w :=
  ⟨hS.rel,vG hS.size hS.tm (by simp[VR,CR,aC,undef]),by rw[hsize];exact hS.size,hS.fresh,hS.gl,by rw[hdef];exact hS.ms⟩
 exact hO all l _ ex s' (k+1) h hl r m g _ w hr hS1 Q λe a' x q=>hQ _ _ _ (PQ.trans (t:=⟨gP n t o.dst (.tu []),st,nx,n,ms,lg,rd⟩) ⟨Ext.refl _ _ _ _,rfl,rfl,⟨Nat.le_refl _,λ_ h=>h,λ_ _=>rfl⟩⟩ hS.fresh q)
theorem aC.app {g:G} : ∀ (xs ys:List D) (vs us:List Value),aC g xs vs->aC g ys us->aC g (xs ++ ys) (vs ++ us)
 | [],ys,vs,us,h,k=>by
  simp only[aC]at h
  subst h
  exact k
 |x :: xs,ys,vs,us,h,k=>by
  simp only[aC]at h
  obtain⟨v,vs',rfl,h1,h2⟩:=h
  simp only[List.cons_append,aC]
  exact⟨v,_,rfl,h1,aC.app xs ys vs' us h2 k⟩
theorem Aq {o:Oper} {c:Call} {fo:Operand} {fn:Nat} {get:Operand->D} {az bs:List D} (ho:o.op = .call c) (hc:c.callee = .value fo) (hfo:get fo = .fn (.func fn) az bs) {g:G} {a:Act} {w:World} (hget:∀ x,VR g (get x) (a.eval x)) {K:Value->World->Prop}
 (hE:∀ vs,aC g (az ++ dmap get c.args.toList ++ bs) vs->uy P fn ⟨vs⟩ w K) {r:Option Nat} {m:Nat} {next:Act->World->Prop} {Q:Exit->Act->World->Prop} (hn:∀ v w',K v w'->next (a.put o.dst v) w'):o.wpIn (FW r) m P a w next Q:=by
 have hf:=hget fo
 rw[hfo]at hf
 simp only[VR,CR,List.cons.injEq,and_true]at hf
 obtain⟨av,bv,hf,iI,hbv⟩:=hf
 have hargs:=Al hget c.args.toList
 have hall:=aC.app _ _ _ _ (aC.app _ _ _ _ iI hargs) hbv
 have hE:=hE _ hall
 have J7:(execOp a.eval o).run P w=(callFunc fn ⟨av ++ c.args.toList.map a.eval ++ bv⟩).run P w:=by
  have:(⟨av⟩ ++ c.args.map a.eval ++ ⟨bv⟩:Array Value)=⟨av ++ c.args.toList.map a.eval ++ bv⟩:=by
   apply Array.ext';simp
  simp only[execOp,ho,resolve,hc,hf,Deferred.ofValue,Sem.run_bind,Sem.run_pure,Result.andThen_ok,invoke,this]
 refine⟨λ_ _=>trivial,?_⟩
 rw[Oper.semAt_eq _ _ _ (by rw[ho];simp),J7]
 rcases hE with⟨h1,h2⟩|⟨v,w',h1,h2⟩
 · rw[h1]
   refine⟨by simp[Fence.wide],?_⟩
   refine PN (h2.mono ?_)
   rintro e w' ⟨v,rfl,hk⟩
   exact hn v w' hk
 · rw[h1]
   exact hn v w' h2
theorem NZ {f:eH->S->R} (hK:sI P C f) {o:Oper} {c:Call} {fo:Operand} {fn:Nat} {get:Operand->D} {az bs:List D} {s0 s1:S} {d:D} (ho:o.op = .call c) (hc:c.callee = .value fo) (hfo:get fo = .fn (.func fn) az bs)
 (hx:f (.call fn (az ++ dmap get c.args.toList ++ bs)) s0=some (.val d,s1)) {g:G} {a:Act} {w:World} (hR:Rel g (aA s0.s) w) (hfr:∀ i,s0.nx<=i->g.ae i=none) (hgl:∀ i,VR g (C.gl i) (.pointer (some ⟨i,0,none⟩))) (hget:∀ x,VR g (get x) (a.eval x))
 {r:Option Nat} {m:Nat} {next:Act->World->Prop} {Q:Exit->Act->World->Prop} (hn:∀ v w',CK s0 g w d s1 v w'->next (a.put o.dst v) w'):o.wpIn (FW r) m P a w next Q:=by
 obtain⟨d',hd',hent⟩:=hK _ _ _ _ _ hx
 simp only[Ex.val.injEq]at hd'
 subst hd'
 exact Aq ho hc hfo hget (λvs hvs=>hent g w _ hR hfr hgl hvs) hn
theorem ZB {f:eH->S->R} (hO:qX P C f) (hK:sI P C f) {all:Array Oper} {l:List Oper} {o:Oper} {c:Call} {fo:Operand} {k fn:Nat} {s s':S} {az bs:List D} {ex:Ex} (ho:o.op = .call c) (hc:c.callee = .value fo) (hfo:ig C.gl s.tm fo = .fn (.func fn) az bs)
 (h:Jt f all l o.dst fn (az ++ dmap (ig C.gl s.tm) c.args.toList ++ bs) s=some (ex,s')) (hl:l=all.toList.drop (k+1)) {r:Option Nat} {m:Nat} {g:G} {a:Act} {w:World} (hr:s.rd=false->r=none)
 (hS:St C s g a w) {Q:Exit->Act->World->Prop} (hQ:∀ e a' w',PQ C s g w ex s' e a' w'->Q e a' w'):o.wpIn (FW r) m P a w (wpOpsIn (FW r) m P all Q (List.range' (k+1) (all.size - (k+1)))) Q:=by
 obtain⟨t,st,nx,n,ms,lg,rd⟩:=s
 simp only[Jt,vM]at h
 generalize hy:f (.call fn (az ++ dmap (ig C.gl t) c.args.toList ++ bs)) ⟨.e,st,nx,0,[],lg,false⟩=y at h
 obtain _|⟨e1,s1⟩:=y
 · simp[sN]at h
 cases e1
 case val d =>
  refine NZ hK ho hc hfo hy hS.rel hS.fresh hS.gl hS.get λv w' hk => ?_
  obtain⟨g',h1,h2,h3,h4,h5⟩:=hk
  exact PO (s:=⟨t,st,nx,n,ms,lg,rd⟩) hO h hl hr hS hQ ⟨g',h1,h2,h3,h4,⟨h5.nx,h5.lg,h5.same⟩⟩
 all_goals simp[sN]at h
end Go.Proofs.YtadecgbblajifaaGreatDoor.DV
namespace Go.Proofs.YtadecgbblajifaaGreatDoor
end Go.Proofs.YtadecgbblajifaaGreatDoor
namespace Go.Proofs.YtadecgbblajifaaGreatDoor.DV
open Go
variable {P:Program} {C:Cx}
theorem Dz:∀ (l:List D) (t:Tr D) (k j:Nat),aX (fill t k l) j=if k<=j then(match l[j - k]? with|some d=>some d|none=>aX t j)else aX t j
 | [],t,k,j=>by simp[fill]
 |v :: l,t,k,j=>by
  rw[fill,Dz l,lG]
  by_cases h1:k+1<=j
  · have h2:k<=j:=by omega
    have h3:¬ j=k:=by omega
    simp only[h1,h2,h3,if_true,if_false]
    rw[show j - k=(j - (k+1))+1 by omega,List.getElem?_cons_succ]
  · by_cases h2:j=k
    · subst h2
      rw[if_neg h1]
      simp
    · have h3:¬ k<=j:=by omega
      simp only[h1,h2,h3,if_false]
theorem aC.len {g:G} : ∀ (ds:List D) (vs:List Value),aC g ds vs->vs.length=ds.length
 | [],vs,h=>by simp only[aC]at h;simp[h]
 |d :: ds,vs,h=>by
  simp only[aC]at h
  obtain⟨v,vs',rfl,_,h⟩:=h
  simp[aC.len ds vs' h]
theorem Jc {g:G} {args:List D} {vs:List Value} {n:Nat} (h:aC g args vs):∀ k,VR g (dK (fill .e 0 args) k) (((⟨vs⟩:Array Value) ++ Array.replicate (n - (⟨vs⟩:Array Value).size) undef).getD k undef):=by
 intro k
 have hl:=aC.len _ _ h
 have ht:aX (fill .e 0 args) k=args[k]? := by
  rw[Dz]
  simp only[Nat.zero_le,if_true,Nat.sub_zero]
  cases args[k]? <;> rfl
 unfold dK
 rw[ht,Array.getD_eq_getD_getElem?,Array.getElem?_append]
 cases hk:args[k]? with
 |none =>
  have h1:=List.getElem?_eq_none_iff.1 hk
  have h2:¬ k<vs.length:=by omega
  simp only[VR,CR]
  exact⟨trivial,_,rfl⟩
 |some d =>
  obtain⟨v,h1,h2⟩:=aC.get _ _ _ _ h hk
  have h3:=(List.getElem?_eq_some_iff.1 h1).1
  simp[h3]
  have:vs[k]=v:=by have:=List.getElem?_eq_some_iff.1 h1;exact this.2
  rw[this]
  exact h2
theorem Rel.drop {g:G} {σ:au} {w w':World} {j:Nat} {l:Loc} {N:Nat->Prop} (R:Rel g σ w) (hj:σ j≠none) (hl:g.ae j=some l) (hf:g.fm l.b=none) (hoth:∀ b,b≠l.b->w'.heap[b]? = w.heap[b]?) (hp:w'.heap.size=w.heap.size) (hsm:Sm w w':=by exact⟨rfl,rfl,rfl⟩) :
 Rel g (λi=>if i=j then none else σ i) w'/\Ext g σ w N g (λi=>if i=j then none else σ i) w':=by
 refine⟨⟨λb c h => ?_,λi d h => ?_,λi k a b hi hk ha hb e => ?_⟩,⟨.refl g,Nat.le_of_eq hp.symm,λb hb=>hoth b λe=>hb (.inr ⟨j,l,hj,hl,e.symm⟩),λb hb => .inl hb,λi l h => .inl h,λi hi => ?_,hsm⟩⟩
 · have h1:=R.fm b c h
   have h2:b≠l.b:=by rintro rfl;rw[hf]at h;simp at h
   unfold mem at h1 ⊢
   rw[hoth b h2];exact h1
 · split at h
   · simp at h
   · rename_i hij
     obtain⟨m,hm⟩:=R.ob i d h
     refine⟨m,hm.keep (.refl g) hm.fm (hoth _ λe=>hij (R.dj i j m l (by simp[h]) hj hm.ae hl e))⟩
 · have hi':(if i=j then none else σ i)≠none:=hi
   have hk':(if k=j then none else σ k)≠none:=hk
   split at hi'
   · simp at hi'
   · split at hk'
     · simp at hk'
     · exact R.dj i k a b hi' hk' ha hb e
 · have hi':(if i=j then none else σ i)≠none:=hi
   split at hi'
   · simp at hi'
   · exact .inl hi'
theorem IG (t:Tr D) (j:Nat):aA (ed t j none)=λi=>if i=j then none else aA t i:=by
 funext i
 simp only[aA,lG]
theorem yC {g:G} {σ:au} {w:World} (R:Rel g σ w) {j:Nat} {d:D} (h:σ j=some d) (hd:fU d=true):∃ l o,g.ae j=some l/\g.fm l.b=none/\w.heap[l.b]? = some o/\nk g d o:=by
 obtain⟨l,h1⟩:=R.ob j d h
 rcases h1 with⟨blk,h1⟩|⟨o,_,h2,h3,h4,h5⟩
 · have:=h1.cr
   cases d <;> simp[fU]at hd <;> simp[CR]at this
 · exact⟨l,o,h2,h3,h4,h5⟩
def BB (tm:Array Value):ResultVar->Sem Value
 |.tmp t=>pure (tm.getD t undef)
 |.cell a t=>do loadVar t (← asAddr (tm.getD a undef))
theorem X9 (fn:Func) (tm:Array Value):results fn tm=(do let vs ← fn.results.mapM (BB tm);pure (if h:vs.size=1 then vs[0]else .tuple vs)):=by
 unfold results
 congr 1
theorem II {T:dA} (hT:cZ P T) {g:G} {w:World} {σ t:Tr D} {tm:Array Value} (R:Rel g (aA σ) w) (H:∀ k,VR g (dK t k) (tm.getD k undef)):∀ (l:List ResultVar) (ds:List D),lT T σ t l=some ds ->
 ∃ vs,(l.mapM (BB tm)).run P w = .ok vs w/\aC g ds vs
 | [],ds,h=>by
  simp only[lT,Option.some.injEq]at h
  subst h
  exact⟨[],rfl,by simp[aC]⟩
 |.tmp k :: l,ds,h=>by
  simp only[lT]at h
  split at h
  case h_2=>simp at h
  rename_i r hr
  simp only[Option.some.injEq]at h
  subst h
  obtain⟨vs,h1,h2⟩:=II hT R H l r hr
  refine⟨tm.getD k undef :: vs,?_,?_⟩
  · rw[List.mapM_cons]
    simp only[BB,Sem.run_bind,Sem.run_pure,Result.andThen_ok,h1]
  · simp only[aC]
    exact⟨_,_,rfl,H k,h2⟩
 |.cell a ty :: l,ds,h=>by
  simp only[lT]at h
  split at h
  case h_2=>simp at h
  rename_i y hy
  split at h
  case h_2=>simp at h
  rename_i d r hd hr
  simp only[Option.some.injEq]at h
  subst h
  obtain⟨vs,h1,h2⟩:=II hT R H l r hr
  obtain⟨v,h3,h4,ad,h5⟩:=NC (P:=P) (hT _ _ hy) hd R (H a)
  refine⟨v :: vs,?_,?_⟩
  · rw[List.mapM_cons]
    rw[h5]at h3
    simp only[Instr.loadAt,Instr.sureAddr,Sem.run_bind,Sem.run_pure,Result.andThen_ok]at h3
    simp only[BB,Sem.run_bind,h5,asAddr,Sem.run_pure,Result.andThen_ok,h3,h1]
  · simp only[aC]
    exact⟨_,_,rfl,h4,h2⟩
theorem Ju {T:dA} (hT:cZ P T) {g:G} {w:World} {σ t:Tr D} {tm:Array Value} {fn:Func} {ds:List D} (R:Rel g (aA σ) w) (H:∀ k,VR g (dK t k) (tm.getD k undef)) (h:lT T σ t fn.results.toList=some ds) :
 ∃ v,(results fn tm).run P w = .ok v w/\VR g (tN ds) v:=by
 obtain⟨vs,h1,h2⟩:=II hT R H _ _ h
 have hl:=aC.len _ _ h2
 have hm:(fn.results.mapM (BB tm)).run P w = .ok ⟨vs⟩ w:=by
  rw[Array.mapM_eq_mapM_toList,Sem.run_map,h1]
  rfl
 refine⟨if h:vs.length=1 then vs[0]else .tuple ⟨vs⟩,?_,?_⟩
 · rw[X9]
   simp only[Sem.run_bind,hm,Result.andThen_ok,Sem.run_pure]
   rfl
 · split
   · rename_i h3
     match ds,vs,h2,h3 with
     | [d],vs,h2,h3 =>
      simp only[aC]at h2
      obtain⟨v,vs',rfl,h4,rfl⟩:=h2
      exact h4
     | [],vs,h2,h3=>simp only[aC]at h2;subst h2;simp at h3
     |_ :: _ :: _,vs,h2,h3=>simp at hl;omega
   · rename_i h3
     have:tN ds = .tu ds:=by
      match ds,hl with
      | [],_=>rfl
      | [d],hl=>simp at hl;exact absurd hl h3
      |_ :: _ :: _,_=>rfl
     rw[this]
     simp only[VR,CR,true_and]
     exact⟨vs,rfl,h2⟩
end Go.Proofs.YtadecgbblajifaaGreatDoor.DV
namespace Go.Proofs.YtadecgbblajifaaGreatDoor
end Go.Proofs.YtadecgbblajifaaGreatDoor
namespace Go.Proofs.YtadecgbblajifaaGreatDoor.DV
open Go
variable {P:Program} {C:Cx}
theorem Oa {m:Nat} {fn:Func} {tmps:Array Value} {R:Ending->World->Prop} : ∀ (ms:List Nat) (ds:List Deferred) (s s2:S) (g:G) (w:World),Bc ms s=some s2->MK g ms ds->Rel g (aA s.s) w ->
 (∀ w',Rel g (aA s2.s) w'->Ext g (aA s.s) w (Nw s) g (aA s2.s) w'->Ch s s2->s2.nx=s.nx->s2.tm=s.tm->∃ v,(results fn tmps).run P w' = .ok v w'/\R (.returned v) w')->LeavesInM Fence.wide m P fn tmps R ds .returning w
 | [],ds,s,s2,g,w,h,hm,hR,hk=>by
  simp only[Bc,Option.some.injEq]at h
  subst h
  simp only[MK]at hm
  subst hm
  exact hk w hR (Ext.refl _ _ _ _) (Ch.refl s) rfl rfl
 |j :: ms,ds,⟨t,st,nx,n,ms0,lg,rd⟩,s2,g,w,h,hm,hR,hk=>by
  obtain⟨loc,d,ds',rfl,h1,h2,h3⟩:=hm
  simp only[Bc]at h
  split at h
  case h_2=>simp at h
  rename_i hj
  rw[j6]at h
  obtain⟨l,o,h4,h5,h6,h7⟩:=yC hR (j:=j) (d := .df) hj rfl
  have:l=loc:=by rw[h1]at h4;simpa using h4.symm
  subst this
  simp only[nk]at h7
  subst h7
  have hd:=hR.drop (w':=w.putObj l.b (.deferred none)) (N:=Nw ⟨t,st,nx,n,ms0,lg,rd⟩) (by simp only[aA]at *;rw[hj];simp) h1 h5 (λb hb=>World.putObj_heap_other hb) World.putObj_size
  rw[← IG]at hd
  refine⟨by simp,.inl ⟨l.b,_,h2,run_takeDeferred h6,Oa ms ds' ⟨t,ed st j none,nx,n,ms0,j :: lg,rd⟩ s2 g _ h h3 hd.1 λw' a b c e f => ?_⟩⟩
  refine hk w' a ?_ ⟨c.nx,λi hi=>c.lg i (List.mem_cons_of_mem _ hi),λi hi => ?_⟩ e f
  · exact⟨.refl g,Nat.le_trans hd.2.hp b.hp,λx hx=>by
     rw[b.fr x λhm => ?_,hd.2.fr x hx]
     rcases hm with hm|⟨i,l',h8,h9,h10⟩
     · exact hx (.inl (Nat.le_trans hd.2.hp hm))
     · refine hx (.inr ⟨i,l',λhn=>h8 ?_,h9,h10⟩)
       have hn':aA st i=none:=hn
       simp[IG,hn'],λx hx => .inl hx,λi l h => .inl h,λi hi=>(b.sn i hi).elim (λh=>hd.2.sn i h) .inr,hd.2.sm.trans b.sm⟩
  · rw[c.same i hi]
    have:i≠j:=λe=>hi (c.lg i (by rw[e];simp))
    simp[lG,this]
theorem ZC {f:eH->S->R} (hK:nN P C f) (hC:jH P C) {k:Nat} {fn:Func} {c:Code} {args:List D} {s s':S} {d:D} (hf:P.funcs[k]? = some fn) (hb:fn.body=some c)
 (h:yS C fn (f (.code c) ⟨fill .e 0 args,s.s,s.nx,fn.ntmps,[],s.lg,false⟩)=some (.val d,s')) (hn:args.length<=fn.ntmps) {g:G} {w:World} {vs:List Value} (hR:Rel g (aA s.s) w) (hfr:∀ i,s.nx<=i->g.ae i=none) (hgl:∀ i,VR g (C.gl i) (.pointer (some ⟨i,0,none⟩))) (ha:aC g args vs) :
 Calls P k ⟨vs⟩ w λe w'=>∃ v,e = .returned v/\CK s g w d s' v w':=by
 have hlen:=aC.len _ _ ha
 have hex:∃ ex s1,f (.code c) ⟨fill .e 0 args,s.s,s.nx,fn.ntmps,[],s.lg,false⟩=some (ex,s1)/\(ex = .normal\/ex = .ret)/\Bd C fn s1=some (.val d,s'):=by
  cases hx:f (.code c) ⟨fill .e 0 args,s.s,s.nx,fn.ntmps,[],s.lg,false⟩with
  |none=>rw[hx]at h;simp[yS]at h
  |some p =>
   obtain⟨ex,s1⟩:=p
   rw[hx]at h
   cases ex with
   |normal=>exact⟨_,_,rfl,.inl rfl,h⟩
   |ret=>exact⟨_,_,rfl,.inr rfl,h⟩
   |exit i=>simp[yS]at h
   |val x=>simp[yS]at h
 obtain⟨ex,s1,hx,hex,hr⟩:=hex
 refine callsIn_wide.1 (callsIn_of_wp_marks (n:=0) hf hb trivial ?_)
 have hS:St C ⟨fill .e 0 args,s.s,s.nx,fn.ntmps,[],s.lg,false⟩ g { tmps:=(⟨vs⟩:Array Value) ++ Array.replicate (fn.ntmps - (⟨vs⟩:Array Value).size) undef,defers:=[] } w :=
  ⟨hR,Jc ha,by simp;omega,hfr,hgl,rfl⟩
 refine wpIn_mono (hK _ _ _ _ hx none 0 g _ w (λ_=>rfl) hS) ?_
 rintro e a1 w1 ⟨he,g1,hS1,hL⟩
 have main:LeavesInM Fence.wide 0 P fn a1.tmps (λe w'=>∃ v,e = .returned v/\CK s g w d s' v w') a1.defers .returning w1:=by
  unfold Bd at hr
  split at hr
  case h_2=>simp at hr
  rename_i t st nx n' ms' lg rd' ht
  split at hr
  case h_2=>simp at hr
  rename_i ds hds
  rw[vR]at hr
  simp only[Option.some.injEq,Prod.mk.injEq,Ex.val.injEq]at hr
  obtain⟨rfl,rfl⟩:=hr
  refine Oa _ _ _ _ _ _ ht hS1.ms hS1.rel λw' h1 h2 h3 h4 h5 => ?_
  simp only at h1 h2 h4 h5
  obtain⟨v,h6,h7⟩:=Ju (P:=P) (fn:=fn) (tm:=a1.tmps) hC.T h1 (by rw[h5];exact hS1.tm) hds
  refine⟨v,h6,v,rfl,g1,h1,?_,h7,λi hi=>hS1.fresh i (by simp only at hi;omega),⟨?_,λi hi=>h3.lg i (hL.ch.lg i hi),λi hi => ?_⟩⟩
  · exact Ext.trans (N:=Nw s) (M:=Nw s1) hL.ext h2 (λ_ h=>h) (λ_ h=>Nat.le_trans hL.ch.nx h) hfr
  · have:=hL.ch.nx;simp only at this ⊢;omega
  · exact(h3.same i hi).trans (hL.ch.same i λh=>hi (h3.lg i h))
 rcases hex with rfl|rfl <;> cases e <;> simp only[iH]at he
 · exact main
 · exact main
end Go.Proofs.YtadecgbblajifaaGreatDoor.DV
namespace Go.Proofs.YtadecgbblajifaaGreatDoor
end Go.Proofs.YtadecgbblajifaaGreatDoor
