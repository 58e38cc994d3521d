import Derived.Test.YtadecgbblajifaaGreatDoorE08
set_option linter.unusedSimpArgs false
set_option linter.unusedVariables false
set_option maxRecDepth 100000
set_option maxHeartbeats 25600000
namespace Go.Proofs.YtadecgbblajifaaGreatDoor
end Go.Proofs.YtadecgbblajifaaGreatDoor
namespace Go.Proofs.YtadecgbblajifaaGreatDoor.DV
open Go
variable {P:Program} {C:Cx}
theorem ZE {p:Nat->Prop} : ∀ n,p n->∃ j,p j/\∀ i,p i->j<=i:=by
 intro n
 induction n using Nat.strongRecOn with
 |_ n ih =>
  intro h
  by_cases hx:∃ i,i<n/\p i
  · obtain⟨i,h1,h2⟩:=hx
    exact ih i h1 h2
  · exact⟨n,h,λi hi=>Nat.le_of_not_lt λh'=>hx ⟨i,h',hi⟩⟩
open Classical in
noncomputable def Cc (p:Nat->Prop):Nat:=if h:∃ j,p j/\∀ i,p i->j<=i then Classical.choose h else 0
theorem QS {p:Nat->Prop} {n:Nat} (h:p n):p (Cc p)/\∀ i,p i->Cc p<=i:=by
 have hx:=ZE n h
 unfold Cc
 rw[dif_pos hx]
 exact Classical.choose_spec hx
theorem OV {F:Fence} {m:Nat} {c:Code} {Q:Exit->Act->World->Prop} (N:Nat) (J:Nat->Act->World->Prop) (h0:∀ a w,¬ J 0 a w)
 (hr:∀ j a w,j<N->J (j+1) a w->c.wpIn F m P (Exit.then (λa' w'=>J j a' w') Q) a w) {j:Nat} {a:Act} {w:World} (hj:j<=N) (h:J j a w):(Code.loop c).wpIn F m P Q a w:=by
 refine wpIn_loop (λa w=>∃ j,j<=N/\J j a w) (λa w=>Cc λj=>j<=N/\J j a w) ⟨j,hj,h⟩ ?_
 rintro a w ⟨i,hi⟩
 have hl:=QS (p:=λj=>j<=N/\J j a w) hi
 generalize hk:(Cc λj=>j<=N/\J j a w)=k at hl
 cases k with
 |zero=>exact(h0 _ _ hl.1.2).elim
 |succ k =>
  refine wpIn_mono (hr k a w (by have:=hl.1.1;omega) hl.1.2) ?_
  intro e a' w' q
  cases e <;> simp only[Exit.then]at q ⊢ <;> (try exact q)
  have h2:(λj=>j<=N/\J j a' w') k:=⟨by have:=hl.1.1;omega,q⟩
  exact⟨⟨k,h2⟩,Nat.lt_succ_of_le ((QS h2).2 k h2)⟩
theorem seq_ok {f:eH->S->R} (hK:nN P C f) {x y:Code} {s s':S} {ex:Ex} (h:tK f y (f (.code x) s)=some (ex,s')) {r:Option Nat} {m:Nat} {g:G} {a:Act} {w:World} (hr:s.rd=false->r=none) (hS:St C s g a w)
 {Q:Exit->Act->World->Prop} (hQ:∀ e a' w',PQ C s g w ex s' e a' w'->Q e a' w') (K:Act->World->Prop) (hKK:∀ s1 g1 a1 w1,f (.code x) s=some (.normal,s1)->St C s1 g1 a1 w1->Lk s g w s1 g1 w1->K a1 w1):x.wpIn (FW r) m P (Exit.then K Q) a w:=by
 cases hx:f (.code x) s with
 |none=>rw[hx]at h;simp[tK]at h
 |some p =>
  obtain⟨e1,s1⟩:=p
  refine wpIn_mono (hK _ _ _ _ hx r m g a w hr hS) ?_
  rintro e a1 w1 ⟨he,g1,hS1,hL⟩
  rw[hx]at h
  cases e1 with
  |normal =>
   cases e <;> simp only[iH]at he
   exact hKK _ _ _ _ hx hS1 hL
  |ret =>
   simp only[tK,Option.some.injEq,Prod.mk.injEq]at h
   obtain⟨rfl,rfl⟩:=h
   cases e <;> simp only[iH]at he
   exact hQ _ _ _ ⟨trivial,g1,hS1,hL⟩
  |exit i =>
   simp only[tK,Option.some.injEq,Prod.mk.injEq]at h
   obtain⟨rfl,rfl⟩:=h
   cases e <;> simp only[iH]at he
   exact hQ _ _ _ ⟨he,g1,hS1,hL⟩
  |val d=>cases e <;> simp only[iH]at he
theorem PR:∀ (n:Nat) (t:Tr D) (i k:Nat),(jw t i n)[k]? = if k<n then some (dK t (i+k))else none
 |0,t,i,k=>by simp[jw]
 |n+1,t,i,0=>by simp[jw]
 |n+1,t,i,k+1=>by
  simp only[jw,List.getElem?_cons_succ,PR n t (i+1) k]
  by_cases h:k<n
  · rw[if_pos h,if_pos (by omega),show i+1+k=i+(k+1) by omega]
  · rw[if_neg h,if_neg (by omega)]
theorem PS:∀ (n:Nat) (t:Tr D) (i:Nat),(jw t i n).length=n
 |0,_,_=>rfl
 |n+1,t,i=>by simp[jw,PS n]
theorem Na (hC:jH P C) {k:Nat} (h:Ev C k=true) (args:Array Value) (w:World):(callFunc k args).run P w = .ok (.enter k args) w:=by
 unfold Ev at h
 split at h
 case h_2=>simp at h
 rename_i fn hfn
 obtain⟨h1,h2⟩:=hC.F k fn hfn
 have h2' : ¬ fn.name = "runtime.NumGoroutine" := by simpa using h2
 have h3:¬ fn.body=none:=by intro hb;rw[hb]at h;simp at h
 simp[callFunc,h1,h2',h3]
theorem alloc_old {w:World} {o:Obj} {b:Nat} (hb:b<w.heap.size):(w.alloc o).heap[b]? = w.heap[b]? := by
 show(w.heap.push o)[b]? = _
 simp[Array.getElem?_push,Nat.ne_of_lt hb]
theorem MK.cons {g:G} {j:Nat} {ms:List Nat} {ds:List Deferred} {loc:Loc} (h:MK g ms ds) (hj:g.ae j=some loc):MK g (j :: ms) ({ target := .collected loc.b,args:=#[] } :: ds):=⟨loc,_,ds,rfl,hj,rfl,h⟩
theorem PT {g:G} {σ:au} {w w':World} {n:Nat} {d d0:D} {o:Obj} {l:Loc} {N:Nat->Prop} (R:Rel g σ w) (h0:σ n=some d0) (hn:g.ae n=some l) (hfm:g.fm l.b=none) (hd:fU d=true) (ho:nk g d o) (hh:w'.heap[l.b]? = some o) (hoth:∀ b,b≠l.b->w'.heap[b]? = w.heap[b]?) (hp:w'.heap.size=w.heap.size) (hsm:Sm w w':=by exact⟨rfl,rfl,rfl⟩) :
 ∃ g',Le g g'/\Rel g' (λi=>if i=n then some d else σ i) w'/\Ext g σ w N g' (λi=>if i=n then some d else σ i) w'/\∀ j m,g'.ae j=some m->g.ae j=some m:=by
 obtain⟨g',h1,h2,_⟩:=Out.obj (n:=n) (x := .bZ) (v:=undef) R l hd (λg' le=>ho.mono le) (.inl ⟨hn,by simp[h0]⟩) hfm hh (λb hb _=>hoth b hb) (Nat.le_of_eq hp.symm) (λ_ _ _=>by simp[VR,CR]) hsm
 have e:app [(n,some d)] σ=λi=>if i=n then some d else σ i:=by
  funext i
  by_cases hi:i=n
  · subst hi;simp[app,aH]
  · simp only[app];rw[j5 _ _ hi,if_neg hi];rfl
 rw[e]at h1 h2
 have hrn:∀ j m,g'.ae j=some m->g.ae j=some m:=by
  intro j m hj
  rcases h2.rn j m hj with h|⟨h,rfl⟩
  · exact h
  · have:=h2.le.ae _ _ hn;rw[hj]at this;rw[this];exact hn
 refine⟨g',h2.le,h1,⟨h2.le,h2.hp,h2.fr,h2.jv,λj m hj => .inl (hrn j m hj),λj hj => ?_,h2.sm⟩,hrn⟩
 · rcases h2.sn j hj with h|rfl
   · exact .inl h
   · exact .inl (by simp[h0])
theorem OW (t:Tr D) (j:Nat) (d:D):aA (ed t j (some d))=λi=>if i=j then some d else aA t i:=by
 funext i
 simp only[aA,lG]
theorem ZF (hC:jH P C) {f:eH->S->R} (hK:nN P C f) (hF:sI P C f) {go:Operand} {ps:Array Nat} {az bd:Code} {s s':S} {ex:Ex} (h:Jr C f ps az bd s (ig C.gl s.tm go)=some (ex,s')) {r:Option Nat} {m:Nat} {g:G} {a:Act} {w:World} (hr:s.rd=false->r=none)
 (hS:St C s g a w):(Code.rangeFunc go ps az bd).wpIn (FW r) m P (PQ C s g w ex s') a w:=by
 have hgo:=hS.get go
 unfold Jr at h
 split at h
 case h_2=>simp at h
 rename_i _ t st nx n ms lg fn b hge
 rw[hge]at hgo
 have:=hr rfl
 subst this
 split at h
 case h_2=>simp at h
 rename_i hbody
 simp only[qW,vM,j6]at h
 simp only[VR,CR,List.cons.injEq,and_true]at hgo
 obtain⟨av,bv,hgo,iI,hbv⟩:=hgo
 simp only[aC]at iI
 subst iI
 refine wpIn_rangeFunc λfn0 _ => ?_
 have hR:=hS.rel
 have hfr:=hS.fresh
 simp only at hR hfr
 obtain⟨g1,R1,E1,V1⟩:=Out.obj (n:=nx) (d := .df) (o := .deferred (some [])) (w':=w.alloc (.deferred (some []))) (x := .mp nx) (v := .map (some w.heap.size)) hR ⟨w.heap.size,0,0,0⟩ rfl (λ_ _=>rfl) (.inr ⟨hfr nx (Nat.le_refl _),rfl⟩) (Jo hR) (World.alloc_heap_new w _)
  (λb _ hb=>alloc_old hb) (by rw[World.size_alloc];omega) (λg' _ h=>by simp only[VR,CR];exact⟨_,h,rfl⟩)
 simp only[VR,CR,List.cons.injEq,Value.map.injEq,Option.some.injEq,and_true]at V1
 obtain⟨lm,hlm,hlb⟩:=V1
 have hf1:∀ i,nx+1<=i->g1.ae i=none:=by
  intro i hi
  cases hx:g1.ae i with
  |none=>rfl
  |some l =>
   rcases E1.rn i l hx with h2|⟨_,h2⟩
   · rw[hfr i (by omega)]at h2;simp at h2
   · omega
 let nW:Loop := { state := .ready,pending:=none,fn:=fn0,tmps:=a.tmps,params:=ps,assign:=az,body:=bd,defers:=w.heap.size }
 have hsz:=hS.size
 have jy:=hS.tm
 simp only at hsz jy
 have hrec:∀ g',Le g1 g'->nk g' (.lo (jw t 0 n) ps.toList az bd) (.loop nW):=by
  intro g' le
  refine⟨nW,rfl,rfl,rfl,rfl,rfl,rfl,by rw[PS];exact hsz,λk => ?_⟩
  rw[PR]
  by_cases hk:k<n
  · rw[if_pos hk,Nat.zero_add]
    exact((jy k).mono E1.le).mono le
  · rw[if_neg hk]
    simp[VR,CR]
 obtain⟨g2,R2,E2,V2⟩:=Out.obj (n:=nx+1) (d := .lo (jw t 0 n) ps.toList az bd) (o := .loop nW) (w':=(w.alloc (.deferred (some []))).alloc (.loop nW)) (x := .yd (nx+1)) (v := .func (.yield (w.heap.size+1)) #[] #[]) R1 ⟨w.heap.size+1,0,0,0⟩ rfl hrec
  (.inr ⟨hf1 _ (Nat.le_refl _),by rw[World.size_alloc]⟩) (by have:=Jo R1;rwa[World.size_alloc]at this) (by have:=World.alloc_heap_new (w.alloc (.deferred (some []))) (.loop nW);rwa[World.size_alloc]at this)
  (λb _ hb=>alloc_old hb) (by simp only[World.size_alloc];omega) (λg' _ h=>by simp only[VR,CR];exact⟨_,h,rfl⟩)
 have es:app [(nx+1,some (D.lo (jw t 0 n) ps.toList az bd))] (app [(nx,some .df)] (aA st))=aA (ed (ed st nx (some .df)) (nx+1) (some (.lo (jw t 0 n) ps.toList az bd))):=by
  have:=mD [(nx+1,some (D.lo (jw t 0 n) ps.toList az bd)),(nx,some .df)] st
  simp only[jW]at this
  rw[this]
  funext i
  simp only[app,aH]
  cases Nat.beq (nx+1) i <;> rfl
 rw[es]at R2 E2
 have hf2:∀ i,nx+1+1<=i->g2.ae i=none:=by
  intro i hi
  cases hx:g2.ae i with
  |none=>rfl
  |some l =>
   rcases E2.rn i l hx with h2|⟨_,h2⟩
   · rw[hf1 i (by omega)]at h2;simp at h2
   · omega
 have UG:Ext g (aA st) w (λi=>nx<=i) g2 (aA (ed (ed st nx (some .df)) (nx+1) (some (.lo (jw t 0 n) ps.toList az bd)))) ((w.alloc (.deferred (some []))).alloc (.loop nW)) :=
  Ext.trans E1 E2 (λi h=>by rw[h];exact Nat.le_refl _) (λi h=>by rw[h];omega) (λi h=>hfr i (by rw[h];exact Nat.le_refl _))
 have xg:Le g g2:=UG.le
 have acZ:=E2.le.ae _ _ hlm
 cases hx:f (.call fn (.yd (nx+1) :: b)) ⟨.e,ed (ed st nx (some .df)) (nx+1) (some (.lo (jw t 0 n) ps.toList az bd)),nx+1+1,0,[],(nx+1) :: nx :: lg,false⟩with
 |none =>
  have hx':f (.call fn (.yd (Nat.succ nx) :: b)) ⟨.e,ed (ed st nx (some .df)) (Nat.succ nx) (some (.lo (jw t 0 n) ps.toList az bd)),Nat.succ (Nat.succ nx),0,[],(Nat.succ nx) :: nx :: lg,false⟩=none:=hx
  rw[hx']at h;simp[KO]at h
 |some p =>
  obtain⟨e1,s1⟩:=p
  have hx':f (.call fn (.yd (Nat.succ nx) :: b)) ⟨.e,ed (ed st nx (some .df)) (Nat.succ nx) (some (.lo (jw t 0 n) ps.toList az bd)),Nat.succ (Nat.succ nx),0,[],(Nat.succ nx) :: nx :: lg,false⟩=some (e1,s1):=hx
  rw[hx']at h
  obtain⟨d,rfl,hent⟩:=hF _ _ _ _ _ hx
  have hE:=hent g2 _ (.func (.yield (w.heap.size+1)) #[] #[] :: bv) R2 hf2 (λi=>(hS.gl i).mono xg) (by
   simp only[aC]
   exact⟨_,_,rfl,V2,aC.mono xg _ _ hbv⟩)
  have hcf:=Na (P:=P) hC hbody
  have aba:Calls P fn ⟨.func (.yield (w.heap.size+1)) #[] #[] :: bv⟩ ((w.alloc (.deferred (some []))).alloc (.loop nW)) λe w'=>∃ v,e = .returned v/\CK ⟨.e,ed (ed st nx (some .df)) (nx+1) (some (.lo (jw t 0 n) ps.toList az bd)),nx+1+1,0,[],(nx+1) :: nx :: lg,false⟩ g2 ((w.alloc (.deferred (some []))).alloc (.loop nW)) d s1 v w':=by
   rcases hE with h2|⟨v,w',h2,_⟩
   · exact h2.2
   · rw[hcf]at h2;simp at h2
  have harr:(⟨[.func (.yield (w.heap.size+1)) #[] #[]]⟩:Array Value) ++ ⟨bv⟩=⟨.func (.yield (w.heap.size+1)) #[] #[] :: bv⟩:=by apply Array.ext';simp
  refine⟨w.heap.size+1,[{ target := .collected w.heap.size,args:=#[] }],(w.alloc (.deferred (some []))).alloc (.loop nW),{ target := .fn (.func fn) ⟨bv⟩,args:=#[.func (.yield (w.heap.size+1)) #[] #[]] },(w.alloc (.deferred (some []))).alloc (.loop nW),fn,
   ⟨.func (.yield (w.heap.size+1)) #[] #[] :: bv⟩,(w.alloc (.deferred (some []))).alloc (.loop nW),run_enterLoop_outer _ _ _ _ _,?_,λ_ _=>trivial,?_,λe=>by simp[Fence.wide]at e,PN (aba.mono ?_)⟩
  · simp only[resolve,hgo]
    simp[Deferred.ofValue,Act.eval]
  · simp only[invoke]
    rw[show(#[.func (.yield (w.heap.size+1)) #[] #[]]:Array Value) ++ ⟨bv⟩=⟨.func (.yield (w.heap.size+1)) #[] #[] :: bv⟩from harr]
    exact hcf _ _
  · rintro e w3 ⟨v,rfl,g3,R3,E3,_,hf3,hch⟩
    obtain⟨t1,st1,uz,n1,ms1,FZ,Lv⟩:=s1
    simp only[KO]at h
    have UH:Ext g (aA st) w (λi=>nx<=i) g3 (aA st1) w3:=Ext.trans UG E3 (λ_ h=>h) (λi h=>by have h':nx+1+1<=i:=h;show nx<=i;omega) hfr
    have hnx:nx+1+1<=uz:=hch.nx
    have ac0:=E3.le.ae _ _ acZ
    have Lx:Le g g3:=UH.le
    have common:∀ (w4:World) (s4:S) (L:Loc),g3.ae (nx+1)=some L->g3.fm L.b=none->aA st1 (nx+1)≠none->(∀ b,b≠L.b->w4.heap[b]? = w3.heap[b]?)->w4.heap.size=w3.heap.size->Sm w3 w4->s4=⟨t,ed st1 (nx+1) none,uz,n,nx :: ms,(nx+1) :: FZ,false⟩ ->
     St C s4 g3 { a with defers:=[{ target := .collected w.heap.size,args:=#[] }] ++ a.defers } w4/\Lk ⟨t,st,nx,n,ms,lg,false⟩ g w s4 g3 w4:=by
     rintro w4 s4 L h1 h2 h3 h4 h5 hsm rfl
     have hd:=R3.drop (w':=w4) (N:=Nw ⟨t1,st1,uz,n1,ms1,FZ,Lv⟩) h3 h1 h2 h4 h5 hsm
     rw[← IG]at hd
     refine⟨⟨hd.1,λk=>(jy k).mono Lx,hsz,hf3,λi=>(hS.gl i).mono Lx,?_⟩,⟨Ext.trans UH hd.2 (λ_ h=>h) (λi h=>by have h':uz<=i:=h;show nx<=i;omega) hfr,rfl,rfl,⟨by simp only;omega,λi hi=>List.mem_cons_of_mem _ (hch.lg i (by simp;exact .inr (.inr hi))),λi hi => ?_⟩⟩⟩
     · have:=MK.cons (MK.mono Lx _ _ hS.ms) ac0
       rw[← hlb]at this
       exact this
     · simp only[List.mem_cons,not_or]at hi
       have h6:=hch.same i hi.2
       have h7:i≠nx:=λe=>hi.2 (hch.lg i (by rw[e];simp))
       simp only[lG,if_neg hi.1]at h6 ⊢
       rw[h6,if_neg h7]
    split at h
    · rename_i tl' ps' az' bd' hlo
      rw[j6]at h
      simp only[Option.some.injEq,Prod.mk.injEq]at h
      obtain⟨rfl,rfl⟩:=h
      obtain⟨L,o,h1,h2,h3,r0,rfl,h4,h5,_⟩:=yC R3 (j:=nx+1) (d := .lo tl' ps' az' bd') hlo rfl
      have Ce:L.b=w.heap.size+1:=by
       simp only[VR,CR,List.cons.injEq,Value.func.injEq,Fn.yield.injEq,and_true]at V2
       obtain⟨l2,h6,h7⟩:=V2
       have:=E3.le.ae _ _ h6
       rw[h1]at this
       simp only[Option.some.injEq]at this
       rw[this];exact h7.symm
      have hend:=run_endLoop (P:=P) (l:=w.heap.size+1) (w:=w3) (by rw[← Ce];exact h3) (by rw[h4];simp)
      have hend:=hend.trans (congrArg (λp=>Result.ok p (w3.putObj (w.heap.size+1) (.loop { r0 with state := .exhausted }))) h5)
      have hcm:=common (w3.putObj (w.heap.size+1) (.loop { r0 with state := .exhausted })) _ L h1 h2 (by simp only[aA];rw[hlo];simp) (λb hb=>World.putObj_heap_other (by rw[← Ce];exact hb)) World.putObj_size ⟨rfl,rfl,rfl⟩ rfl
      exact⟨none,_,hend,trivial,g3,hcm.1,hcm.2⟩
    · rename_i c hlo
      rw[j6]at h
      obtain⟨L,o,h1,h2,h3,r0,rfl,h4,h5⟩:=yC R3 (j:=nx+1) (d := .jK c) hlo rfl
      have Ce:L.b=w.heap.size+1:=by
       simp only[VR,CR,List.cons.injEq,Value.func.injEq,Fn.yield.injEq,and_true]at V2
       obtain⟨l2,h6,h7⟩:=V2
       have:=E3.le.ae _ _ h6
       rw[h1]at this
       simp only[Option.some.injEq]at this
       rw[this];exact h7.symm
      have hend:=run_endLoop (P:=P) (l:=w.heap.size+1) (w:=w3) (by rw[← Ce];exact h3) (by rw[h4];simp)
      have hend:=hend.trans (congrArg (λp=>Result.ok p (w3.putObj (w.heap.size+1) (.loop { r0 with state := .exhausted }))) h5)
      have hcm:=common (w3.putObj (w.heap.size+1) (.loop { r0 with state := .exhausted })) _ L h1 h2 (by simp only[aA];rw[hlo];simp) (λb hb=>World.putObj_heap_other (by rw[← Ce];exact hb)) World.putObj_size ⟨rfl,rfl,rfl⟩ rfl
      refine⟨some c,_,hend,?_⟩
      refine wpIn_mono (hK _ _ _ _ h none m g3 _ _ (λ_=>rfl) hcm.1) ?_
      exact λe a' w' q=>PQ.trans hcm.2 hfr q
    · simp at h
end Go.Proofs.YtadecgbblajifaaGreatDoor.DV
namespace Go.Proofs.YtadecgbblajifaaGreatDoor
end Go.Proofs.YtadecgbblajifaaGreatDoor
namespace Go.Proofs.YtadecgbblajifaaGreatDoor.DV
open Go
variable {P:Program} {C:Cx}
theorem PU {β:Type} {g:G} : ∀ (ps:List Nat) (ds:List D) (vs:List Value) (t:Tr D) (tm:Array Value) (n:Nat) (K:Tr D->β) (x:β),wD t n ps ds K=some x->tm.size=n->(∀ k,VR g (dK t k) (tm.getD k undef))->aC g ds vs ->
 ∃ t',x=K t'/\ps.length=vs.length/\(∀ k,VR g (dK t' k) (((ps.zip vs).foldl (λt (p,v)=>t.setIfInBounds p v) tm).getD k undef))/\((ps.zip vs).foldl (λt (p,v)=>t.setIfInBounds p v) tm).size=n
 | [],[],vs,t,tm,n,K,x,h,hs,H,hv=>by
  simp only[wD,Option.some.injEq]at h
  simp only[aC]at hv
  subst hv
  exact⟨t,h.symm,rfl,H,hs⟩
 |p :: ps,d :: ds,vs,t,tm,n,K,x,h,hs,H,hv=>by
  simp only[wD]at h
  split at h
  case h_2=>simp at h
  rename_i hb
  rw[j6]at h
  simp only[aC]at hv
  obtain⟨v,vs',rfl,h1,h2⟩:=hv
  have hset:=vG (a := { tmps:=tm,defers:=[] }) (dst:=some p) hs H h1
  have e:gP n t (some p) d=ed t p (some d):=by simp only[gP,hb]
  rw[e]at hset
  obtain⟨t',h3,h4,h5,h6⟩:=PU ps ds vs' (ed t p (some d)) (tm.setIfInBounds p v) n K x h (by simpa using hs) hset h2
  exact⟨t',h3,by simp[h4],h5,h6⟩
 | [],_ :: _,_,_,_,_,_,_,h,_,_,_=>by simp[wD]at h
 |_ :: _,[],_,_,_,_,_,_,h,_,_,_=>by simp[wD]at h
theorem YO {g:G} {tl:List D} {tm:Array Value} (H:∀ t:Nat,VR g ((tl[t]?).getD .bZ) (tm.getD t (.tuple #[]))):∀ k,VR g (dK (fill .e 0 tl) k) (tm.getD k undef):=by
 intro k
 have ht:aX (fill .e 0 tl) k=tl[k]? := by
  rw[Dz]
  simp only[Nat.zero_le,if_true,Nat.sub_zero]
  cases tl[k]? <;> rfl
 have hk:=H k
 unfold dK
 rw[ht]
 cases hx:tl[k]? with
 |none =>
  simp only[VR,CR]
  exact⟨trivial,_,rfl⟩
 |some d =>
  rw[hx]at hk
  exact hk
theorem _3 {r:Option Nat} {m n l f:Nat} {tmps:Array Value} {az bd:Code} {w:World} {R:Ending->World->Prop} (h:RoundIn Fence.wide n P l f tmps az bd w R):RoundIn (FW r) m P l f tmps az bd w R :=
 ⟨h.1,λc cs _=>h.2 c cs (room_wide _)⟩
theorem Ob {f:eH->S->R} (hK:nN P C f) {o:Oper} {c:Call} {fo:Operand} {i:Nat} {get:Operand->D} (ho:o.op = .call c) (hc:c.callee = .value fo) (hfo:get fo = .yd i) {st:Tr D} {nx:Nat} {lg:List Nat} {d0:D} {s':S}
 (h:AU f (dmap get c.args.toList) i st nx lg=some (.val d0,s')) {g:G} {a:Act} {w:World} (hR:Rel g (aA st) w) (hfr:∀ j,nx<=j->g.ae j=none) (hgl:∀ i,VR g (C.gl i) (.pointer (some ⟨i,0,none⟩))) (hget:∀ x,VR g (get x) (a.eval x))
 {r:Option Nat} {m:Nat} {next:Act->World->Prop} {Q:Exit->Act->World->Prop} (hn:∀ v w',CK ⟨.e,st,nx,0,[],lg,false⟩ g w d0 s' v w'->next (a.put o.dst v) w'):o.wpIn (FW r) m P a w next Q:=by
 unfold AU at h
 split at h
 case h_2=>simp at h
 rename_i tl ps az bd hi
 simp only[vM,IE]at h
 split at h
 case h_2=>simp at h
 rename_i r1 hz
 obtain⟨L,o1,h1,h2,h3,r0,rfl,h4,h5,h6,h7,h8,h9,h10⟩:=yC hR (j:=i) (d := .lo tl ps az bd) hi rfl
 have hf:=hget fo
 rw[hfo]at hf
 simp only[VR,CR,List.cons.injEq,and_true]at hf
 obtain⟨L',hL',hf⟩:=hf
 have:L'=L:=by rw[h1]at hL';simpa using hL'.symm
 subst this
 have hargs:=Al hget c.args.toList
 obtain⟨t',hr1,hlen,jy,hsz⟩:=PU (g:=g) ps _ _ _ r0.tmps tl.length _ _ hz h9 (YO h10) hargs
 have hrd:∃ s1 s2 F3,f (.code az) ⟨t',st,nx,tl.length,[],lg,true⟩=some (.normal,s1)/\(∃ qo qp qw b1,aX s1.s i=some (.lo qo qp qw b1)/\f (.code bd) ⟨s1.tm,ed s1.s i (some (.lb qo qp qw b1)),s1.nx,s1.n,s1.ms,i :: s1.lg,s1.rd⟩=some (F3,s2)) /\
  (∃ zn ps2 zo b2,aX s2.s i=some (.lb zn ps2 zo b2)/\r1=pO i (some (F3,s2))):=by
  cases hx:f (.code az) ⟨t',st,nx,tl.length,[],lg,true⟩with
  |none=>rw[hx]at hr1;rw[hr1]at h;simp[x8,pO]at h
  |some p =>
   obtain⟨e1,s1⟩:=p
   rw[hx]at hr1
   cases e1 with
   |ret=>rw[hr1]at h;simp[x8,pO]at h
   |exit j=>rw[hr1]at h;simp[x8,pO]at h
   |val d=>rw[hr1]at h;simp[x8,pO]at h
   |normal =>
    obtain⟨t1,st1,uz,n1,ms1,FZ,Lv⟩:=s1
    simp only[x8,j6]at hr1
    split at hr1
    · rename_i qo qp qw b1 h11
      cases hy:f (.code bd) ⟨t1,ed st1 i (some (.lb qo qp qw b1)),uz,n1,ms1,i :: FZ,Lv⟩with
      |none=>rw[hy]at hr1;rw[hr1]at h;simp[pO]at h
      |some q =>
       obtain⟨e2,s2⟩:=q
       rw[hy]at hr1
       refine⟨_,s2,e2,rfl,⟨qo,qp,qw,b1,h11,hy⟩,?_⟩
       obtain⟨t2,st2,nx2,n2,ms2,lg2,rd2⟩:=s2
       have hr1':=hr1
       simp only[pO]at hr1
       split at hr1
       · rename_i zn ps2 zo b2 h12
         exact⟨zn,ps2,zo,b2,h12,hr1'⟩
       · rw[hr1]at h;simp at h
    · rw[hr1]at h;simp[pO]at h
 obtain⟨s1,s2,F3,hx1,⟨qo,qp,qw,b1,h11,hx2⟩,⟨zn,ps2,zo,b2,h12,hr2⟩⟩:=hrd
 have J7:(execOp a.eval o).run P w = .ok (.round L'.b r0.fn ((ps.zip (c.args.toList.map a.eval)).foldl (λt (p,v)=>t.setIfInBounds p v) r0.tmps) az bd) w:=by
  have hy:=run_yield (P:=P) (w:=w) (l:=L'.b) (r:=r0) (args:=c.args.map a.eval) h3 (by
   have:r0.params.size=ps.length:=by rw[← h6];simp
   rw[this,hlen];simp)
  have e1:(r0.params.zip (c.args.map a.eval)).foldl (λtmps (t,a)=>tmps.setIfInBounds t a) r0.tmps=(ps.zip (c.args.toList.map a.eval)).foldl (λt (p,v)=>t.setIfInBounds p v) r0.tmps:=by
   rw[← Array.foldl_toList,Array.toList_zip,h6]
   simp
  rw[e1,h7,h8]at hy
  simp only[execOp,ho,resolve,hc,hf,Deferred.ofValue,Sem.run_bind,Sem.run_pure,Result.andThen_ok,invoke]
  simpa using hy
 refine⟨λ_ _=>trivial,?_⟩
 rw[Oper.semAt_eq _ _ _ (by rw[ho];simp),J7]
 refine⟨by simp[Fence.wide],_3 (n:=10) (roundIn_of_wpIn trivial ?_)⟩
 have hSA:St C ⟨t',st,nx,tl.length,[],lg,true⟩ g { tmps:=(ps.zip (c.args.toList.map a.eval)).foldl (λt (p,v)=>t.setIfInBounds p v) r0.tmps,defers:=[] } w:=⟨hR,jy,hsz,hfr,hgl,rfl⟩
 refine wpIn_mono (hK _ _ _ _ hx1 (some L'.b) 10 g _ w (λh=>by simp at h) hSA) ?_
 rintro e a1 w1 ⟨he,g1,hS1,hL1⟩
 cases e <;> simp only[iH]at he
 obtain⟨L1,o1,k1,k2,k3,r1',rfl,k4,k5,k6,k7,k8,k9,k10⟩:=yC hS1.rel (j:=i) (d := .lo qo qp qw b1) h11 rfl
 have LA:L1=L':=by have:=hL1.ext.le.ae _ _ h1;rw[k1]at this;simpa using this
 subst LA
 refine⟨_,run_beginRound k3 k4,?_⟩
 have hlt1:=(Array.getElem?_eq_some_iff.1 k3).1
 obtain⟨g2,xg,R2,E2,ac1⟩:=PT (N:=Nw s1) (w':=w1.putObj L1.b (.loop { r1' with state := .busy })) (d := .lb qo qp qw b1) (o := .loop { r1' with state := .busy }) hS1.rel h11 k1 k2 rfl ⟨_,rfl,k6,k7,k8,k9,k10⟩ (World.putObj_heap_same hlt1) (λb hb=>World.putObj_heap_other hb) World.putObj_size
 rw[← OW]at R2 E2
 have hf2:∀ j,s1.nx<=j->g2.ae j=none:=by
  intro j hj
  cases hx:g2.ae j with
  |none=>rfl
  |some l2=>have:=ac1 j l2 hx;rw[hS1.fresh j hj]at this;simp at this
 have hS2:St C ⟨s1.tm,ed s1.s i (some (.lb qo qp qw b1)),s1.nx,s1.n,s1.ms,i :: s1.lg,s1.rd⟩ g2 a1 (w1.putObj L1.b (.loop { r1' with state := .busy })):=⟨R2,λk=>(hS1.tm k).mono xg,hS1.size,hf2,λj=>(hS1.gl j).mono xg,MK.mono xg _ _ hS1.ms⟩
 have hL2:Lk ⟨t',st,nx,tl.length,[],lg,true⟩ g w ⟨s1.tm,ed s1.s i (some (.lb qo qp qw b1)),s1.nx,s1.n,s1.ms,i :: s1.lg,s1.rd⟩ g2 (w1.putObj L1.b (.loop { r1' with state := .busy })) :=
  hL1.trans ⟨E2,rfl,rfl,⟨Nat.le_refl _,λj hj=>List.mem_cons_of_mem _ hj,λj hj=>by
   simp only[List.mem_cons,not_or]at hj
   simp only[lG,if_neg hj.1]⟩⟩ hfr
 refine wpIn_mono (hK _ _ _ _ hx2 (some L1.b) 10 g2 _ _ (λh=>by have:=hL1.ms;simp only at h this;rw[this]at h;simp at h) hS2) ?_
 rintro e a2 w2 ⟨he,g3,LB,hL3⟩
 obtain⟨L2,o2,q1,q2,q3,r2,rfl,q6,q7,q8,q9,q10⟩:=yC LB.rel (j:=i) (d := .lb zn ps2 zo b2) h12 rfl
 have LA:L2=L1:=by have:=hL3.ext.le.ae _ _ (xg.ae _ _ k1);rw[q1]at this;simpa using this
 subst LA
 have hlt2:=(Array.getElem?_eq_some_iff.1 q3).1
 have BC:=hL2.trans hL3 hfr
 have fin:∀ (d:D) (dv:D) (b:Bool) (st':LoopState) (jump:Option Code),VR g3 dv (.bool b)->fU d=true->nk g3 d (.loop { r2 with state:=st',pending:=jump })->r1=some (.val dv,⟨.e,ed s2.s i (some d),s2.nx,0,[],i :: s2.lg,false⟩) ->
  next (a.put o.dst (.bool b)) (w2.putObj L2.b (.loop { r2 with state:=st',pending:=jump })):=by
  intro d dv b st' jump hdv hmo gm hr3
  rw[hr3]at h
  simp only[Option.some.injEq,Prod.mk.injEq,Ex.val.injEq]at h
  obtain⟨rfl,rfl⟩:=h
  obtain⟨g4,le4,R4,E4,ac2⟩:=PT (N:=Nw s2) (w':=w2.putObj L2.b (.loop { r2 with state:=st',pending:=jump })) (d:=d) (o := .loop { r2 with state:=st',pending:=jump }) LB.rel h12 q1 q2 hmo gm (World.putObj_heap_same hlt2) (λb hb=>World.putObj_heap_other hb) World.putObj_size
  rw[← OW]at R4 E4
  refine hn _ _ ⟨g4,R4,?_,hdv.mono le4,λj hj => ?_,⟨?_,λj hj=>List.mem_cons_of_mem _ (BC.ch.lg j hj),λj hj => ?_⟩⟩
  · exact Ext.trans BC.ext E4 (λ_ h=>h) (λj hj=>Nat.le_trans BC.ch.nx hj) hfr
  · cases hx:g4.ae j with
    |none=>rfl
    |some l2=>have:=ac2 j l2 hx;rw[LB.fresh j hj]at this;simp at this
  · exact BC.ch.nx
  · simp only[List.mem_cons,not_or]at hj
    simp only[lG,if_neg hj.1]
    exact BC.ch.same j hj.2
 obtain⟨t2,st2,nx2,n2,ms2,lg2,rd2⟩:=s2
 simp only[pO,j6]at hr2
 simp only at h12
 rw[h12]at hr2
 cases F3 with
 |normal =>
  cases e <;> simp only[iH]at he
  exact⟨_,_,run_endRound none q3,fin (.lo zn ps2 zo b2) (.lf (.bool true)) true .ready none (fF _ _) rfl ⟨_,rfl,rfl,rfl,q6,q7,q8,q9,q10⟩ hr2⟩
 |ret =>
  cases e <;> simp only[iH]at he
  exact⟨_,_,run_endRound (some .ret) q3,fin (.jK .ret) (.lf (.bool false)) false .done (some .ret) (fF _ _) rfl ⟨_,rfl,rfl,rfl⟩ hr2⟩
 |exit j =>
  cases e <;> simp only[iH]at he
  subst he
  exact⟨_,_,run_endRound (some (.exit _)) q3,fin (.jK (.exit j)) (.lf (.bool false)) false .done (some (.exit j)) (fF _ _) rfl ⟨_,rfl,rfl,rfl⟩ hr2⟩
 |val d=>cases e <;> simp only[iH]at he
theorem ZG {f:eH->S->R} (hO:qX P C f) (hK:nN P C f) {all:Array Oper} {l:List Oper} {o:Oper} {c:Call} {fo:Operand} {k i:Nat} {s s':S} {ex:Ex} (ho:o.op = .call c) (hc:c.callee = .value fo) (hfo:ig C.gl s.tm fo = .yd i)
 (h:Js f all l o.dst (dmap (ig C.gl s.tm) c.args.toList) i s=some (ex,s')) (hl:l=all.toList.drop (k+1)) {r:Option Nat} {m:Nat} {g:G} {a:Act} {w:World} (hr:s.rd=false->r=none)
 (hS:St C s g a w) {Q:Exit->Act->World->Prop} (hQ:∀ e a' w',PQ C s g w ex s' e a' w'->Q e a' w'):o.wpIn (FW r) m P a w (wpOpsIn (FW r) m P all Q (List.range' (k+1) (all.size - (k+1)))) Q:=by
 obtain⟨t,st,nx,n,ms,lg,rd⟩:=s
 simp only[Js]at h
 generalize hy:AU f (dmap (ig C.gl t) c.args.toList) i st nx lg=y at h
 obtain _|⟨e1,s1⟩:=y
 · simp[sN]at h
 cases e1
 case val d =>
  refine Ob hK ho hc hfo hy hS.rel hS.fresh hS.gl hS.get λv w' hk => ?_
  obtain⟨g',h1,h2,h3,h4,h5⟩:=hk
  exact PO (s:=⟨t,st,nx,n,ms,lg,rd⟩) hO h hl hr hS hQ ⟨g',h1,h2,h3,h4,⟨h5.nx,h5.lg,h5.same⟩⟩
 all_goals simp[sN]at h
end Go.Proofs.YtadecgbblajifaaGreatDoor.DV
namespace Go.Proofs.YtadecgbblajifaaGreatDoor
end Go.Proofs.YtadecgbblajifaaGreatDoor
namespace Go.Proofs.YtadecgbblajifaaGreatDoor.DV
open Go
variable {P:Program} {C:Cx}
theorem abb (hC:jH P C) {f:eH->S->R} (hO:qX P C f) (hK:nN P C f) (hF:sI P C f) {all:Array Oper} {l:List Oper} {s s':S} {ex:Ex} {k:Nat} (h:EZ C f all s l=some (ex,s')) (hl:l=all.toList.drop k) {r:Option Nat} {m:Nat} {g:G} {a:Act} {w:World} (hr:s.rd=false->r=none)
 (hS:St C s g a w) {Q:Exit->Act->World->Prop} (hQ:∀ e a' w',PQ C s g w ex s' e a' w'->Q e a' w'):wpOpsIn (FW r) m P all Q (List.range' k (all.size - k)) a w:=by
 cases l with
 |nil =>
  simp only[EZ,Option.some.injEq,Prod.mk.injEq]at h
  obtain⟨rfl,rfl⟩:=h
  have:all.size - k=0:=by
   have:=congrArg List.length hl
   simp at this
   omega
  rw[this]
  exact hQ _ _ _ ⟨trivial,g,hS,Lk.refl _ _ _⟩
 |cons o l =>
  obtain⟨hk,ho,hl'⟩:=drop_at hl
  rw[Hz hk]
  simp only[wpOpsIn,ho]
  simp only[EZ]at h
  split at h
  · rename_i hw
    rw[qL hS hw]
    simp only[if_true]
    generalize hop:o.op=op at h
    unfold UF at h
    split at h
    · rename_i c
      unfold Tj at h
      split at h
      · rename_i fo hc
        unfold RY at h
        split at h
        · rename_i fn az bs hfo
          exact ZB hO hF hop hc hfo h hl' hr hS hQ
        · rename_i i hfo
          exact ZG hO hK hop hc hfo h hl' hr hS hQ
        · simp at h
      · rw[← hop]at h
        exact OU hC hO h hl' hr hS hQ
    · rw[← hop]at h
      exact OU hC hO h hl' hr hS hQ
  · rename_i hw
    rw[qL hS hw]
    simp only[Bool.false_eq_true,if_false]
    exact⟨λ_ _=>trivial,_2 hO h hl' hr hS hQ⟩
  · simp at h
theorem _4 (hC:jH P C) {f:eH->S->R} (hK:nN P C f) {fn:Nat} {fo:Func} {args:List D} {s s':S} {ex:Ex} (hf:C.F fn=some fo) (h:Ew C f fn args s fo=some (ex,s')):∃ d,ex = .val d/\∀ g w args',Rel g (aA s.s) w->(∀ i,s.nx<=i->g.ae i=none)->(∀ i,VR g (C.gl i) (.pointer (some ⟨i,0,none⟩)))->aC g args args'->uy P fn ⟨args'⟩ w (CK s g w d s'):=by
 obtain⟨h1,h2⟩:=hC.F fn fo hf
 unfold Ew at h
 split at h
 · rename_i c hb
   split at h
   case h_2=>simp at h
   rename_i hn
   rw[IE]at h
   have hd:∃ d,ex = .val d:=by
    unfold yS Bd at h
    split at h
    · split at h
      · split at h
        · rw[vR]at h
          simp only[Option.some.injEq,Prod.mk.injEq]at h
          exact⟨_,h.1.symm⟩
        · simp at h
      · simp at h
    · split at h
      · split at h
        · rw[vR]at h
          simp only[Option.some.injEq,Prod.mk.injEq]at h
          exact⟨_,h.1.symm⟩
        · simp at h
      · simp at h
    · simp at h
   obtain⟨d,rfl⟩:=hd
   refine⟨d,rfl,λg w args' hR hfr hgl ha => .inl ⟨Na hC (by simp[Ev,hf,hb]) _ _,ZC hK hC h1 hb h (Nat.le_of_ble_eq_true hn) hR hfr hgl ha⟩⟩
 · rename_i hb
   split at h
   case h_2=>simp at h
   rename_i hx
   unfold Tm at h
   split at h
   case h_2=>simp at h
   rename_i b c
   split at h
   case h_2=>simp at h
   rename_i v hv
   rw[RU]at h
   simp only[Option.some.injEq,Prod.mk.injEq]at h
   obtain⟨rfl,rfl⟩:=h
   refine⟨_,rfl,λg w args' hR hfr hgl ha => .inr ?_⟩
   simp only[aC]at ha
   obtain⟨v1,vs1,rfl,ha1,v2,vs2,rfl,ha2,rfl⟩:=ha
   have ha1:=dh ha1
   have ha2:=dh ha2
   subst ha1 ha2
   exact⟨v,w,hC.X fn b c v w hx (xY hv w),g,hR,Ext.refl _ _ _ _,fF _ _,hfr,⟨Nat.le_refl _,λ_ h=>h,λ_ _=>rfl⟩⟩
theorem _5 (hC:jH P C) {dr:(eH->S->R)->Array Oper->S->R} (hD:E5 P C dr) {f:eH->S->R} (hO:qX P C f) (hK:nN P C f) (hF:sI P C f) (hL:∀ b s ex s',tK f (.loop b) (f (.code b) s)=some (ex,s')->∀ r m g a w,(s.rd=false->r=none)->St C s g a w->(Code.loop b).wpIn (FW r) m P (PQ C s g w ex s') a w)
 {c:Code} {s s':S} {ex:Ex} (h:J6 C f dr s c=some (ex,s')) {r:Option Nat} {m:Nat} {g:G} {a:Act} {w:World} (hr:s.rd=false->r=none) (hS:St C s g a w):c.wpIn (FW r) m P (PQ C s g w ex s') a w:=by
 unfold J6 at h
 split at h
 · simp only[Option.some.injEq,Prod.mk.injEq]at h
   obtain⟨rfl,rfl⟩:=h
   exact wpIn_skip ⟨trivial,g,hS,Lk.refl _ _ _⟩
 · simp only[Option.some.injEq,Prod.mk.injEq]at h
   obtain⟨rfl,rfl⟩:=h
   exact wpIn_label ⟨trivial,g,hS,Lk.refl _ _ _⟩
 · rename_i ops
   refine wpIn_region ?_
   have:=hO ops ops.toList s ex s' 0 h (by simp) r m g a w hr hS _ λ_ _ _ q=>q
   rw[Nat.sub_zero,← List.range_eq_range']at this
   exact this
 · exact hD f hO hF hK _ _ _ _ _ h r m g a w hr hS
 · rename_i x y
   refine wpIn_seq (seq_ok hK h hr hS (λ_ _ _ q=>q) _ λs1 g1 a1 w1 hx hS1 hL1 => ?_)
   rw[hx]at h
   exact wpIn_mono (hK _ _ _ _ h r m g1 a1 w1 (λh=>hr (by rw[← hL1.ms];exact h)) hS1) λe a' w' q=>PQ.trans hL1 hS.fresh q
 · rename_i c x y
   have hc:=hS.get c
   unfold RV at h
   split at h
   · rename_i hb
     rw[hb]at hc
     exact wpIn_cond_true (dh hc) (hK _ _ _ _ h r m g a w hr hS)
   · rename_i hb
     rw[hb]at hc
     exact wpIn_cond_false (dh hc) (hK _ _ _ _ h r m g a w hr hS)
   · simp at h
 · rename_i i b
   refine wpIn_block ?_
   cases hx:f (.code b) s with
   |none=>rw[hx]at h;simp[AR]at h
   |some p =>
    obtain⟨e1,s1⟩:=p
    rw[hx]at h
    refine wpIn_mono (hK _ _ _ _ hx r m g a w hr hS) ?_
    rintro e a1 w1 ⟨he,g1,hS1,hL1⟩
    cases e1 with
    |exit j =>
     cases e <;> simp only[iH]at he
     subst he
     rename_i j
     simp only[AR]at h
     split at h
     · rename_i hb
       simp only[Option.some.injEq,Prod.mk.injEq]at h
       obtain⟨rfl,rfl⟩:=h
       simp only[Exit.inBlock,Nat.eq_of_beq_eq_true hb,if_true]
       exact⟨trivial,g1,hS1,hL1⟩
     · rename_i hb
       simp only[Option.some.injEq,Prod.mk.injEq]at h
       obtain⟨rfl,rfl⟩:=h
       have:¬ j=i:=λe=>by rw[e]at hb;simp at hb
       simp only[Exit.inBlock,this,if_false]
       exact⟨rfl,g1,hS1,hL1⟩
    |normal =>
     simp only[AR,Option.some.injEq,Prod.mk.injEq]at h
     obtain⟨rfl,rfl⟩:=h
     cases e <;> simp only[iH]at he
     exact⟨trivial,g1,hS1,hL1⟩
    |ret =>
     simp only[AR,Option.some.injEq,Prod.mk.injEq]at h
     obtain⟨rfl,rfl⟩:=h
     cases e <;> simp only[iH]at he
     exact⟨trivial,g1,hS1,hL1⟩
    |val d=>cases e <;> simp only[iH]at he
 · exact hL _ _ _ _ h r m g a w hr hS
 · simp only[Option.some.injEq,Prod.mk.injEq]at h
   obtain⟨rfl,rfl⟩:=h
   exact wpIn_exit ⟨rfl,g,hS,Lk.refl _ _ _⟩
 · simp only[Option.some.injEq,Prod.mk.injEq]at h
   obtain⟨rfl,rfl⟩:=h
   exact wpIn_ret ⟨trivial,g,hS,Lk.refl _ _ _⟩
 · exact ZF hC hK hF h hr hS
 · simp at h
theorem ab6 (hC:jH P C) {dr:(eH->S->R)->Array Oper->S->R} (hD:E5 P C dr):∀ n,nN P C (ev C dr n)/\qX P C (ev C dr n)/\sI P C (ev C dr n):=by
 intro n
 induction n using Nat.strongRecOn with
 |_ n ih =>
  cases n with
  |zero =>
   refine⟨λc s ex s' h => ?_,λall l s ex s' k h => ?_,λfn args s ex s' h => ?_⟩ <;> simp[ev]at h
  |succ n =>
   obtain⟨hK,hO,hF⟩:=ih n (Nat.lt_succ_self n)
   refine⟨λc s ex s' h r m g a w hr hS => ?_,λall l s ex s' k h hl r m g a w hr hS Q hQ => ?_,λfn args s ex s' h => ?_⟩
   · rw[Ao]at h
     refine _5 hC hD hO hK hF (λb s0 UI UJ h0 r m g a w hr hS => ?_) h hr hS
     refine OV (n+1) (λj a w1=>∃ s1 g1,ev C dr j (.code (.loop b)) s1=some (UI,UJ)/\St C s1 g1 a w1/\Lk s0 g w s1 g1 w1) (λa w1 ⟨s1,g1,hx,_⟩=>by simp[ev]at hx) (λj a1 w1 hj ⟨s1,g1,hx,hS1,hL1⟩ => ?_) (Nat.le_refl _) ⟨s0,g,by rw[Ao];exact h0,hS,Lk.refl _ _ _⟩
     rw[Ao]at hx
     have hx:tK (ev C dr j) (.loop b) (ev C dr j (.code b) s1)=some (UI,UJ):=hx
     refine seq_ok (ih j (by omega)).1 hx (λh=>hr (by rw[← hL1.ms];exact h)) hS1 (λe a' w' q=>PQ.trans hL1 hS.fresh q) _ λs2 g2 a2 w2 hy hS2 hL2 => ?_
     rw[hy]at hx
     exact⟨s2,g2,hx,hS2,hL1.trans hL2 hS.fresh⟩
   · rw[Ao]at h
     exact abb hC hO hK hF h hl hr hS hQ
   · rw[Ao]at h
     have h:(match C.O fn args with
      |some d=>some (.val d,⟨.e,s.s,s.nx,0,[],s.lg,false⟩)
      |none=>match C.F fn with
       |some fo=>Ew C (ev C dr n) fn args s fo
       |none=>none)=some (ex,s'):=h
     split at h
     · rename_i d hd
       simp only[Option.some.injEq,Prod.mk.injEq]at h
       obtain⟨rfl,rfl⟩:=h
       exact⟨d,rfl,λg w args' hR hfr hgl hargs=>(hC.O _ _ _ hd g _ w args' hR hgl hargs).mono λv w' ⟨g',h1,h2,h3⟩ =>
        ⟨g',h1,⟨h2.le,h2.hp,h2.fr,h2.jv,λi l hi=>(h2.rn i l hi).imp_right λx=>x.2.elim,λi hi=>(h2.sn i hi).imp_right λx=>x.elim,h2.sm⟩,h3,λi hi=>by
         cases hx:g'.ae i with
         |none=>rfl
         |some l =>
          rcases h2.rn i l hx with h4|h4
          · rw[hfr i hi]at h4;simp at h4
          · exact h4.2.elim,⟨Nat.le_refl _,λ_ h=>h,λ_ _=>rfl⟩⟩⟩
     split at h
     · rename_i fo hfo
       exact _4 hC hK hfo h
     · simp at h
end Go.Proofs.YtadecgbblajifaaGreatDoor.DV
namespace Go.Proofs.YtadecgbblajifaaGreatDoor
end Go.Proofs.YtadecgbblajifaaGreatDoor
