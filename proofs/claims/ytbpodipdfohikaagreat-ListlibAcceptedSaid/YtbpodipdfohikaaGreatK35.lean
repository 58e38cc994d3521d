import Derived.Test.YtbpodipdfohikaaGreatK34
set_option linter.unusedSimpArgs false
set_option linter.unusedVariables false
set_option maxRecDepth 100000
set_option maxHeartbeats 25600000
namespace Go.Proofs.YtbpodipdfohikaaGreat
open Go.RowKit Go.Instr
def Y7 (n:Int):List PanicEntry:=[{ v := .iface 142 (.agg #[.int .i64 n]),recovered:=false }]
def ErrX (w0:World) (x:aM) (w:World) (res:Except Int ai) (ch:List PanicEntry) (w':World):Prop:=∃ n,ch=Y7 n/\n≠0/\res = .error n/\qZ w0 x w w'
theorem ErrX.run {w0 w w1 w':World} {p:aB} {fuel k:Nat} {x x1:aM} {res:Except Int ai} {ch:List PanicEntry} (h:ErrX w0 x1 w1 res ch w') (hr:ax x x1 w w1):dx w0 p fuel k x w res (.panicked ch) w':=by
 obtain⟨n,rfl,hn,rfl,hg⟩:=h
 exact⟨⟨rfl,hn⟩,.of hr hg⟩
def kF:Except Int ai->Int
 |.ok _=>0
 |.error e=>e
def valOf:Except Int Int->Int
 |.ok v=>v
 |.error _=>0
def dV (w0:World) (p:aB) (fuel k:Nat) (xx:aM) (wA:World) (s1:ai) (vok:Prop) (r2:Except Int ai) (m t:Nat) (x:World):Prop :=
 if t<=m then(∃ x',ax xx x' wA x/\aG w0 p fuel k x x' s1)/\(1<=t->vok)
 else(1<=m->vok)/\(if t=m+1 then eT w0 p fuel k xx wA r2 (.returned (.int .i64 (kF r2))) x else ∃ s2,r2 = .ok s2/\∃ x',ax xx x' wA x/\aG w0 p fuel k x x' s2)
def iG (c:Value) (M:World->Prop) (X:List PanicEntry->World->Prop) (e:Ending) (w:World):Prop:=(e = .returned c/\M w)\/∃ ch,e = .panicked ch/\X ch w
section
variable {w0:World} {p:aB} {fuel k:Nat} {xx:aM} {wA:World} {s1:ai} {vok:Prop} {r2 res:Except Int ai} {m:Nat}
theorem dV.zero {w:World} (h:aG w0 p fuel k w xx s1):dV w0 p fuel k xx w s1 vok r2 m 0 w.drew:=by
 unfold dV
 rw[if_pos (Nat.zero_le _)]
 exact⟨⟨xx,ax.grow (Mv.refl _ _).drew,h.later (Mv.refl _ _).drew⟩,λe=>absurd e (by omega)⟩
theorem dV.read {t:Nat} {x:World} (h:dV w0 p fuel k xx wA s1 vok r2 m t x) (ht:t<=m):∃ x',ax xx x' wA x/\aG w0 p fuel k x x' s1:=by
 unfold dV at h
 rw[if_pos ht]at h
 exact h.1
theorem dV.fin {x:World} (h:dV w0 p fuel k xx wA s1 vok r2 m (m+2) x):(1<=m->vok)/\∃ s2,r2 = .ok s2/\∃ x',ax xx x' wA x/\aG w0 p fuel k x x' s2:=by
 unfold dV at h
 rw[if_neg (by omega),if_neg (by omega)]at h
 exact h
theorem KQ {n:ae} {rv:Except Int Int} (hn:aL (λ_=>True) w0 n) (hv:s1.value n.t=some rv) (hok:∀ v,rv = .ok v->vok) (hbad:∀ e,rv = .error e->res = .error e) (z:World) (hM:dV w0 p fuel k xx wA s1 vok r2 1 0 z) :
 Calls Tryz.prog 132 #[.pointer (some ⟨xx.R,0,none⟩),n.val] z (iG (.int .i64 (valOf rv)) (dV w0 p fuel k xx wA s1 vok r2 1 1) (ErrX w0 xx wA res)):=by
 obtain⟨x',hr,hst⟩:=hM.read (by omega)
 have:=UD w0 p fuel k z x' s1 n rv hst (hn.up hst.g).at hv
 rw[hr.R]at this
 refine this.mono ?_
 intro e y hq
 cases rv with
 |ok v =>
  obtain⟨rfl,Fj,h1,h2⟩:=hq
  refine .inl ⟨rfl,?_⟩
  unfold dV
  rw[if_pos (by omega)]
  exact⟨⟨Fj,hr.trans h1,h2⟩,λ_=>hok v rfl⟩
 |error n =>
  obtain⟨⟨rfl,h1⟩,h2⟩:=hq
  exact .inr ⟨_,rfl,n,rfl,h1,hbad n rfl,.of hr h2⟩
theorem wX {f:FuncId} {args:Array Value} {X:List PanicEntry->World->Prop} (z:World) (hM:dV w0 p fuel k xx wA s1 vok r2 m m z) (h:∀ x',ax xx x' wA z->aG w0 p fuel k z x' s1->(1<=m->vok)->Calls Tryz.prog f args z (eT w0 p fuel k x' z r2)) :
 Calls Tryz.prog f args z (iG (.int .i64 (kF r2)) (dV w0 p fuel k xx wA s1 vok r2 m (m+1)) X):=by
 unfold dV at hM
 rw[if_pos (Nat.le_refl _)]at hM
 obtain⟨⟨x',hr,hst⟩,hv⟩:=hM
 refine(h x' hr hst hv).mono ?_
 intro e y hq
 have hq2:=eT.trans hr hq
 refine .inl ⟨?_,?_⟩
 · cases r2 with
   |ok s=>exact hq.1
   |error n=>exact hq.1.1
 · unfold dV
   rw[if_neg (by omega),if_pos rfl]
   refine⟨hv,?_⟩
   cases r2 with
   |ok s=>exact⟨rfl,hq2.2⟩
   |error n=>exact⟨⟨rfl,hq2.1.2⟩,hq2.2⟩
theorem zA (hbad:∀ e,(1<=m->vok)->r2 = .error e->res = .error e) (r:Value) (z:World) (hM:dV w0 p fuel k xx wA s1 vok r2 m (m+1) z) :
 Calls Tryz.prog 119 #[r,.int .i64 (kF r2)] z (iG (.tuple #[]) (dV w0 p fuel k xx wA s1 vok r2 m (m+2)) (ErrX w0 xx wA res)):=by
 unfold dV at hM
 rw[if_neg (by omega),if_pos rfl]at hM
 obtain⟨hv,hM⟩:=hM
 refine(DZ r (kF r2) z).mono ?_
 rintro e y ⟨rfl,rfl⟩
 cases r2 with
 |ok s =>
  rw[show kF (.ok s)=0 from rfl,if_pos rfl]
  refine .inl ⟨rfl,?_⟩
  unfold dV
  rw[if_neg (by omega),if_neg (by omega)]
  exact⟨hv,s,rfl,hM.2⟩
 |error n =>
  rw[show kF (.error n)=n from rfl,if_neg hM.1.2]
  exact .inr ⟨_,rfl,n,rfl,hM.1.2,hbad n hv rfl,hM.2⟩
end
section
variable {P:Program} {X:List PanicEntry->World->Prop} {ds:List (Option Tmp)} {ws ns:List (List Nat)} {Cs:List (Option Value)} {W:List Nat} {M:Nat->World->Prop} {a:Act} {i:Nat} {o:Oper}
theorem iG.kM {c:Value} {M':World->Prop} {f:FuncId} {args:Array Value} {x:World} (h:Calls P f args x (iG c M' X)):Calls P f args x λe w''=>(∃ v,e = .returned v/\(v=c/\M' w''))\/(∃ ch,e = .panicked ch/\X ch w'') :=
 h.mono λe w hq=>by
  rcases hq with⟨rfl,hm⟩|hx
  · exact .inl ⟨_,rfl,rfl,hm⟩
  · exact .inr hx
end
theorem KR {s:ai} {t:Tree} {H:Int->Option (Except Int ai)} {res:Except Int ai} (h:aI (s.value t) H=some res):∃ rv,s.value t=some rv/\(∀ e,rv = .error e->res = .error e)/\((∃ v,rv = .ok v)->H (valOf rv)=some res):=by
 cases hv:s.value t with
 |none=>rw[hv]at h;cases h
 |some rv =>
  rw[hv]at h
  refine⟨rv,rfl,λe he => ?_,λ⟨v,he⟩ => ?_⟩
  · subst he;exact(Option.some.inj h).symm
  · subst he;exact h
theorem oP {o:Except Int ai} {H:ai->Option (Except Int ai)} {res:Except Int ai} (h:aI (some o) H=some res):(∀ e,o = .error e->res = .error e)/\∀ s,o = .ok s->H s=some res:=by
 cases o with
 |error e=>exact⟨λe' he=>(Option.some.inj h).symm.trans (by cases he;rfl),λs he=>(nomatch he)⟩
 |ok s=>exact⟨λe he=>(nomatch he),λs' he=>(by cases he;exact h)⟩
theorem VP {k nn:Int} {ns:ByteArray} {nl:List ae} (hk:k=54) (h:aW (.mk k nn ns (ae.ts nl))=true):∃ f bd z,nl=[f,bd,z]:=by
 subst hk
 rw[aW]at h
 match nl with
 | []=>simp[ae.ts,aY]at h
 | [_]=>simp[ae.ts,aY]at h
 | [_,_]=>simp[ae.ts,aY]at h
 | [f,bd,z]=>exact⟨f,bd,z,rfl⟩
 |_ :: _ :: _ :: _ :: _=>simp[ae.ts,aY]at h
theorem qy {P:List bC} {fuel g:Nat} {t:Tree} {b:Bool} {s:ai} {res:Except Int ai} (h:exec P fuel g (.stmt t) b s=some res):aW t=true:=by
 cases g with
 |zero=>cases h
 |succ g =>
  rw[exec]at h
  by_cases e:aW t=false
  · rw[if_pos e]at h;cases h
  · simpa using e
theorem W9 {P:List bC} {fuel g:Nat} {nn:Int} {ns:ByteArray} {f bd z:Tree} {b:Bool} {s:ai} {res:Except Int ai} (h:exec P fuel g (.stmt (.mk 54 nn ns [f,bd,z])) b s=some res):∃ g',g=g'+1 /\
 aI (some (s.step fuel)) (λs=>aI (s.value (if b then z else f)) λv=>aI (some (s.open ns 1 v)) λs=>aI (exec P fuel g' (.stmts (turned b bd.kids)) b s) λs=>aI (some (s.step fuel)) λs=>aI (s.value (if b then f else z)) λv=>s.close ns v)=some res:=by
 cases g with
 |zero=>cases h
 |succ g =>
  refine⟨g,rfl,?_⟩
  have he:=qy h
  rw[exec,if_neg (by rw[he];decide),if_neg (show ¬ Tree.kind (.mk 54 nn ns [f,bd,z])=53 from by show ¬ (54:Int)=53;decide),if_pos (show Tree.kind (.mk 54 nn ns [f,bd,z])=54 from rfl)]at h
  cases b <;> exact h
theorem G6 {w0:World} {p:aB} {fuel k:Nat} {w:World} {x:aM} {s s1:ai} (h:aG w0 p fuel k w x s) (hs:s.step fuel = .ok s1):Slk k s1:=by
 unfold ai.step at hs
 split at hs
 · cases hs
 · cases hs
   have hb:=h.bd
   have hf:s.cur∈s.frames:=by obtain⟨h1,h2⟩:=zD s;rw[← h2];exact List.getElem_mem h1
   have h2:=hb.2.1 _ hf
   refine⟨by have:=hb.1;show s.cells.length+1<=k+(s.steps+1);omega,?_,?_⟩
   · show s.cur.vars.length+1<=k+(s.steps+1);omega
   · show s.cur.locals+1<=k+(s.steps+1);omega
set_option maxRecDepth 100000 in
set_option maxHeartbeats 12800000 in
theorem UW {w0:World} {p:aB} {fuel k g:Nat} (IH:∀ g',g'<g->uY w0 p fuel k g') (w:World) (x:aM) (s:ai) (res:Except Int ai) (nk nn:Int) (ns:ByteArray) (nv:Value) (nl:List ae) (b:Bool) (hk:nk=54) (h:aG w0 p fuel k w x s) (hno:aL (λ_=>True) w0 (.mk nk nn ns nv nl)) (hex:exec (p.procs.map aN.d) fuel g (.stmt (ae.t (.mk nk nn ns nv nl))) b s=some res) :
 Calls Tryz.prog 117 #[.pointer (some ⟨x.R,0,none⟩),ae.val (.mk nk nn ns nv nl),.bool b] w (dx w0 p fuel k x w res):=by
 subst hk
 obtain⟨x1,hr1,ho,h1⟩:=h.fresh
 rw[show x.R=x1.R from hr1.R.symm]
 refine Calls.mono ?_ (λe w' (hq:dx w0 p fuel k x1 w res e w')=>hq.of hr1)
 clear hr1 h
 revert h1 ho
 generalize x1=x
 intro ho h
 have hsh:=qy hex
 rw[ae.t]at hsh
 obtain⟨nf,yZ,nz,rfl⟩:=VP rfl hsh
 rw[ae.t,ae.ts,ae.ts,ae.ts,ae.ts]at hex
 obtain⟨g',rfl,rf⟩:=W9 hex
 clear hsh hex
 revert rf
 intro hex
 have iO:=hno.kids nf (by simp)
 have hkb:=hno.kids yZ (by simp)
 have hkz:=hno.kids nz (by simp)
 have xO:=Lib.hid (λz (hz:Grow w0 z)=>(MC z (.mk 54 nn ns nv [nf,yZ,nz]) 54 nn ns nv [nf,yZ,nz] rfl (hno.at.later hz) (by simp) b).mono (R':=λe w'=>e = .returned (.tuple #[(if b then nz else nf).val,(if b then nf else nz).val])/\Grow z w') (λe w' hq=>by
  obtain⟨a,c,⟨e1,e2⟩,rfl,hg⟩:=hq
  simp only[List.getElem?_cons_zero,List.length_cons,List.length_nil,Option.some.injEq]at e1 e2
  simp only[Nat.zero_add,Nat.reduceAdd,Nat.add_one_sub_one,List.getElem?_cons_succ,List.getElem?_cons_zero,Option.some.injEq]at e2
  subst e1 e2
  exact⟨rfl,hg⟩))
 obtain⟨nA,hA⟩:∃ n:ae,n=if b then nz else nf:=⟨_,rfl⟩
 obtain⟨nZ,hZ⟩:∃ n:ae,n=if b then nf else nz:=⟨_,rfl⟩
 have wH:aL (λ_=>True) w0 nA:=by rw[hA];cases b <;> assumption
 have y8:aL (λ_=>True) w0 nZ:=by rw[hZ];cases b <;> assumption
 have tA:(if b then nz.t else nf.t)=nA.t:=by rw[hA];cases b <;> rfl
 have tZ:(if b then nf.t else nz.t)=nZ.t:=by rw[hZ];cases b <;> rfl
 rw[← hA,← hZ]at xO
 rw[tA,tZ]at hex
 have hrow:=hno.at.row.2.2.2.1
 obtain⟨na,nc,rfl,-,-⟩:=hno.at.form
 obtain⟨kb,ko,nQ,Dy,_,hcc⟩:=hrow.at (i:=1) (by simp)
 simp only[Value.slice.injEq,true_and]at Dy
 obtain⟨rfl,rfl⟩:=Dy
 obtain⟨bk,bn,bs,bv,bl⟩:=yZ
 obtain⟨ba,bc,rfl,-,-⟩:=hkb.at.form
 have d0:=hcc 0 (.int .u8 bk) (by rfl)
 have d1:=hcc 1 (.int .i64 bn) (by rfl)
 have d2:=hcc 2 (.string bs) (by rfl)
 have d3:=hcc 3 (.slice ba bl.length bc) (by rfl)
 simp only[Nat.add_zero,Nat.one_mul]at d0 d1 d2 d3
 have iC:=Lib.hid (λz (hz:Grow w0 z)=>And.intro (And.intro (cZ d0 hz) (cZ d1 hz)) (And.intro (cZ d2 hz) (cZ d3 hz)))
 clear hcc
 generalize hnl:[nf,ae.mk bk bn bs (.slice ba bl.length bc) bl,nz]=nl at *
 have HL3:=Lib.hid (show nl.length=3 from by rw[← hnl];rfl)
 have hnt:(ae.mk bk bn bs (.slice ba bl.length bc) bl).t.kids=ae.ts bl:=by rw[ae.t];rfl
 obtain⟨ak,an,oL,av,al⟩:=nA
 obtain⟨aa,ac,rfl,-,-⟩:=wH.at.form
 obtain⟨zk,zn,zs,zv,zl⟩:=nZ
 obtain⟨za,zc,rfl,-,-⟩:=y8.at.form
 have nu:=Lib.hid (λz x' s' lZ (hz:aG w0 p fuel k z x' s') (he:exec (p.procs.map aN.d) fuel g' (.stmts (turned b (ae.t (.mk bk bn bs (.slice ba bl.length bc) bl)).kids)) b s'=some lZ)=>IH g' (by omega) z x' s' lZ (.mk bk bn bs (.slice ba bl.length bc) bl) b hz hkb he)
 have J5:=Lib.hid wH
 have J6:=Lib.hid y8
 have jM:=Lib.hid h.g
 have aj:=Lib.hid (show Grow w (w.alloc (.cells #[.int .u8 54,.int .i64 nn,.string ns,.slice (some ⟨kb,ko,none⟩) nl.length nc] 40))from(Mv.refl _ w).alloc _)
 have bf:=Lib.hid (heap_alloc_new w (.cells #[.int .u8 54,.int .i64 nn,.string ns,.slice (some ⟨kb,ko,none⟩) nl.length nc] 40))
 have HS:=Lib.hid h
 have iE:=Lib.hid hex
 have y9:=Lib.hid (λz (hz:Grow w z)=>xO.out z (gtr jM.out hz))
 clear hno hex h ho iO hkb hkz hA hZ tA tZ wH y8 hrow d0 d1 d2 d3 IH xO hnl hnt
 simp only[ae.val]at y9 nu ⊢
 go_enter Tryz.func117,Tryz.ntmps117
 go_upto_region 1 with fail
 generalize (w.alloc (.cells #[.int .u8 54,.int .i64 nn,.string ns,.slice (some ⟨kb,ko,none⟩) nl.length nc] 40))=w1 at *
 have HK:=Lib.hid (λ(y:World) (hy:Grow w1 y)=>ah bf.out hy)
 refine CR 50 [some 9,some 10,some 11,some 8,some 12,some 13,some 6,some 7,none,none] [[],[],[0,1],[2],[3],[3],[],[],[6,4],[7,5]] [] [.c (.agg #[.int .u8 54,.int .i64 nn,.string ns,.slice (some ⟨kb,ko,none⟩) nl.length nc]),.c (.bool b),.c (.tuple #[.agg #[.int .u8 ak,.int .i64 an,.string oL,.slice aa al.length ac],.agg #[.int .u8 zk,.int .i64 zn,.string zs,.slice za zl.length zc]]),.c (.tuple #[.agg #[.int .u8 ak,.int .i64 an,.string oL,.slice aa al.length ac],.agg #[.int .u8 zk,.int .i64 zn,.string zs,.slice za zl.length zc]]),.c (.agg #[.int .u8 ak,.int .i64 an,.string oL,.slice aa al.length ac]),.c (.agg #[.int .u8 zk,.int .i64 zn,.string zs,.slice za zl.length zc]),.al 8 4 #[.int .u8 0,.int .i64 0,.string ⟨#[]⟩,.slice none 0 0] 40,.al 9 5 #[.int .u8 0,.int .i64 0,.string ⟨#[]⟩,.slice none 0 0] 40,.st 6,.st 7] trivial (dm rfl) ?steps ?done
 case steps =>
  refine⟨?s0,?s1,?s2,?s3,?s4,?s5,?s6,?s7,?s8,?s9,trivial⟩
  case s0 =>
   refine ok0 HK (λvs x hG HX hP => ?_)
   obtain⟨⟨n0,n1⟩,n2,n3⟩:=az HX.out
   have hbl:=lt_of_block HX.out
   simp only[zS]
   go_simp
   exact gc
  case s1 =>
   refine oo (λvs x hP => ?_)
   simp only[zS]
   go_simp
   exact gc
  case s2 =>
   refine ok0 HK (λvs x hG HX hP => ?_)
   simp only[zS]
   go_simp
   refine(y9.out x (gtr aj.out hG)).mono ?_
   rintro e y ⟨rfl,hg⟩
   exact⟨_,rfl,gq hg rfl⟩
  case s3 =>
   refine oo (λvs x hP => ?_)
   simp only[zS]
   go_simp
   exact gc
  case s4 =>
   refine oo (λvs x hP => ?_)
   simp only[zS]
   go_simp
   exact gc
  case s5 =>
   refine oo (λvs x hP => ?_)
   simp only[zS]
   go_simp
   exact gc
  case s6 =>
   refine oz (λvs x => ?_)
   simp only[zS]
   go_simp
   exact⟨rfl,rfl⟩
  case s7 =>
   refine oz (λvs x => ?_)
   simp only[zS]
   go_simp
   exact⟨rfl,rfl⟩
  case s8 =>
   refine os (λvs x g hg hb hv => ?_)
   have h4:vs 4 = .agg #[.int .u8 ak,.int .i64 an,.string oL,.slice aa al.length ac]:=hv
   obtain⟨c0,c1,c2,c3⟩:=fV hb
   have zt:=bB hb
   simp only[zS,hg,h4]
   go_simp
   exact⟨(dH hb _ _ _ _).1,(dH hb _ _ _ _).2⟩
  case s9 =>
   refine os (λvs x g hg hb hv => ?_)
   have h5:vs 5 = .agg #[.int .u8 zk,.int .i64 zn,.string zs,.slice za zl.length zc]:=hv
   obtain⟨c0,c1,c2,c3⟩:=fV hb
   have zt:=bB hb
   simp only[zS,hg,h5]
   go_simp
   exact⟨(dH hb _ _ _ _).1,(dH hb _ _ _ _).2⟩
 case done =>
 intro vs w3 hE
 have hG:=hE.zW
 obtain⟨g6,a6,l6,m6,b6⟩:=hE.box 6
 obtain⟨g7,a7,l7,m7,b7⟩:=hE.box 7
 simp only[zS,Nat.reduceAdd,a6,a7]
 have aO:=Lib.hid (gtr aj.out hG)
 have uH:=Lib.hid b6
 have HZ3:=Lib.hid b7
 have HB3:=Lib.hid (ah bf.out hG)
 clear hE hG b6 b7 l6 l7 m6 m7 HK
 simp only[gJ,zS]at uH HZ3
 have oI:=Lib.hid (HS.out.later aO.out)
 have dD:=Lib.hid (uS w0 p fuel k w3 x s oI.out)
 obtain⟨hbad,hok⟩:=oP iE.out
 clear y9 aj bf HS iE
 go_wp2_with fail
 refine dD.out.mono ?_
 clear dD
 intro e w4 hq
 cases hs1:s.step fuel with
 |error n =>
  rw[hs1]at hq
  have hre:=hbad n hs1
  obtain⟨⟨rfl,hn0⟩,hg⟩:=hq
  refine⟨rfl,?_⟩
  rw[hre]
  exact⟨⟨rfl,hn0⟩,(by first|exact hg|exact .of (ax.grow aj.out) hg|exact .of (ax.grow HG2.out) hg|exact .of (ax.grow aA.out) hg|exact .of (ax.grow bA.out) hg|exact .of (ax.grow bG.out) hg|exact .of (ax.grow aO.out) hg|exact .of iV.out hg|exact .of fu.out hg|exact .of dA.out hg|exact .of cK.out hg|exact .of fw.out hg|exact .of HR4.out hg|exact .of HR3.out hg|exact .of HR2.out hg|exact .of HR1.out hg|exact .of HR.out hg|exact .of ((ax.grow aj.out).trans HR.out) hg)⟩
 |ok s1 =>
 rw[hs1]at hq
 have hnext:=hok s1 hs1
 obtain⟨rfl,x4,hr4,mf⟩:=hq
 have mX:=Lib.hid (G6 oI.out hs1)
 have dw:=Lib.hid (And.intro hr4.R hr4.S)
 have HR4:=Lib.hid ((ax.grow aO.out).trans hr4)
 have dU:=Lib.hid mf
 have uI:=Lib.hid (hr4.n _ _ _ uH.out)
 have yU:=Lib.hid (hr4.n _ _ _ HZ3.out)
 have bY:=Lib.hid (hr4.n _ _ _ HB3.out)
 obtain⟨rv,hv,Cc,Cw⟩:=KR hnext
 have HV:=Lib.hid hv
 have FN:=Lib.hid Cc
 have Dz:=Lib.hid Cw
 clear aO hbad hok hr4 mf hnext uH HZ3 HB3 oI hv Cc Cw hs1
 go_upto_region 3 with fail
 have il:=Lib.hid (λy hM=>KQ (w0:=w0) (p:=p) (fuel:=fuel) (k:=k) (xx:=x4) (wA:=w4) (s1:=s1) (vok:=∃ v,rv = .ok v) (r2:=s1.open ns 1 (valOf rv)) (res:=res) J5.out HV.out (λv h=>⟨v,h⟩) FN.out y hM)
 have iD:=Lib.hid (λy hM=>wX (w0:=w0) (X:=ErrX w0 x4 w4 res) (vok:=∃ v,rv = .ok v) (p:=p) (fuel:=fuel) (k:=k) (xx:=x4) (wA:=w4) (s1:=s1) (m:=1) (r2:=s1.open ns 1 (valOf rv)) y hM (λx' hr hst _=>by
  have:=MF w0 p fuel k y x' s1 ns 1 (valOf rv) hst (.inl rfl) mX.out
  rw[hr.S,dw.out.2]at this
  exact this))
 have jf:=Lib.hid (λy hM=>zA (w0:=w0) (p:=p) (fuel:=fuel) (k:=k) (xx:=x4) (wA:=w4) (s1:=s1) (vok:=∃ v,rv = .ok v) (r2:=s1.open ns 1 (valOf rv)) (res:=res) (m:=1) (λe hv he=>(oP (Dz.out (hv (by omega)))).1 e he) (.pointer (some ⟨x.R,0,none⟩)) y hM)
 rw[dw.out.1]at il
 refine wy (ErrX w0 x4 w4 res) 50 [some 16,some 17,some 18,some 19,some 20,some 21,some 22,some 23,some 24,some 25,some 26,some 27,some 28] [[],[],[1],[2],[3],[],[5],[6],[],[],[8,9],[4,7,10],[0,11]] [some (.pointer (some ⟨x.R,0,none⟩)),some (.pointer (some ⟨x.R,0,none⟩)),some (.pointer (some ⟨x.R,0,none⟩)),some (.pointer (some ⟨x.R,6,none⟩)),some (.pointer (some ⟨x.S,0,none⟩)),some (.pointer (some ⟨w.heap.size,2,none⟩)),some (.string ns),some (.agg #[.string ns,.int .u8 1,.int .i64 0]),some (.pointer (some ⟨x.R,0,none⟩)),some (.agg #[.int .u8 ak,.int .i64 an,.string oL,.slice aa al.length ac]),some (.int .i64 (valOf rv)),some (.int .i64 (kF (s1.open ns 1 (valOf rv)))),some (.tuple #[])] [10,11,12] (dV w0 p fuel k x4 w4 s1 (∃ v,rv = .ok v) (s1.open ns 1 (valOf rv)) 1) (dV.zero dU.out) ⟨?s0,?s1,?s2,?s3,?s4,?s5,?s6,?s7,?s8,?s9,?s10,?s11,?s12,trivial⟩ ?fin (λch w9 a9 ny nC=>And.intro ny (nC.run HR4.out))
 case s0 =>
  refine yc (λy => ?_)
  simp only[zS,cv,List.getD_cons_zero,List.getD_cons_succ,Option.getD_some]
  go_simp
  exact⟨rfl,rfl⟩
 case s1 =>
  refine yc (λy => ?_)
  simp only[zS,cv,List.getD_cons_zero,List.getD_cons_succ,Option.getD_some]
  go_simp
  exact⟨rfl,rfl⟩
 case s2 =>
  refine yc (λy => ?_)
  simp only[zS,cv,List.getD_cons_zero,List.getD_cons_succ,Option.getD_some]
  go_simp
  exact⟨rfl,rfl⟩
 case s3 =>
  refine yc (λy => ?_)
  simp only[zS,cv,List.getD_cons_zero,List.getD_cons_succ,Option.getD_some]
  go_simp
  exact⟨rfl,rfl⟩
 case s4 =>
  refine yl 1 (λt y ht hM => ?_)
  obtain⟨x9,aZ,bN⟩:=hM.read ht
  have c6:=bN.cells.1.1
  rw[(aZ.R.trans dw.out.1),(aZ.S.trans dw.out.2)]at c6
  have hrl:=lt_of_block bN.run
  rw[(aZ.R.trans dw.out.1)]at hrl
  clear hM aZ bN
  simp only[zS,cv,List.getD_cons_zero,List.getD_cons_succ,Option.getD_some]
  go_simp
  exact⟨rfl,rfl⟩
 case s5 =>
  refine yc (λy => ?_)
  simp only[zS,cv,List.getD_cons_zero,List.getD_cons_succ,Option.getD_some]
  go_simp
  exact⟨rfl,rfl⟩
 case s6 =>
  refine yl 1 (λt y ht hM => ?_)
  obtain⟨x9,aZ,bN⟩:=hM.read ht
  obtain⟨⟨n0,n1⟩,n2,n3⟩:=az (aZ.n _ _ _ bY.out)
  have hbl:=lt_of_block (aZ.n _ _ _ bY.out)
  clear hM aZ bN
  simp only[zS,cv,List.getD_cons_zero,List.getD_cons_succ,Option.getD_some]
  go_simp
  exact⟨rfl,rfl⟩
 case s7 =>
  refine yc (λy => ?_)
  simp only[zS,cv,List.getD_cons_zero,List.getD_cons_succ,Option.getD_some]
  go_simp
  exact⟨rfl,rfl⟩
 case s8 =>
  refine yc (λy => ?_)
  simp only[zS,cv,List.getD_cons_zero,List.getD_cons_succ,Option.getD_some]
  go_simp
  exact⟨rfl,rfl⟩
 case s9 =>
  refine yl 1 (λt y ht hM => ?_)
  obtain⟨x9,aZ,bN⟩:=hM.read ht
  obtain⟨⟨n0,n1⟩,n2,n3⟩:=az (aZ.n _ _ _ uI.out)
  have hbl:=lt_of_block (aZ.n _ _ _ uI.out)
  clear hM aZ bN
  simp only[zS,cv,List.getD_cons_zero,List.getD_cons_succ,Option.getD_some]
  go_simp
  exact⟨rfl,rfl⟩
 case s10 =>
  refine yw 0 (λy hM => ?_)
  have HC:=Lib.hid (il.out y hM)
  clear hM
  unfold eB
  simp only[zS,cv,List.getD_cons_zero,List.getD_cons_succ,Option.getD_some]
  go_simp
  exact iG.kM HC.out
 case s11 =>
  refine yw 1 (λy hM => ?_)
  have HC:=Lib.hid (iD.out y hM)
  clear hM
  unfold eB
  simp only[zS,cv,List.getD_cons_zero,List.getD_cons_succ,Option.getD_some]
  go_simp
  exact iG.kM HC.out
 case s12 =>
  refine yw 2 (λy hM => ?_)
  have HC:=Lib.hid (jf.out y hM)
  clear hM
  unfold eB
  simp only[zS,cv,List.getD_cons_zero,List.getD_cons_succ,Option.getD_some]
  go_simp
  exact iG.kM HC.out
 case fin =>
 intro wf hM
 have HM:=Lib.hid hM.fin
 clear hM
 simp only[zS,Nat.reduceAdd,cv,List.getD_cons_zero,List.getD_cons_succ,Option.getD_some]
 obtain⟨hvk,s2,hs2,x5,fK,dP⟩:=HM.out
 have hnx:=(oP (Dz.out (hvk (by decide)))).2 s2 hs2
 have gP:=Lib.hid (And.intro (fK.R.trans dw.out.1) (fK.S.trans dw.out.2))
 have fw:=Lib.hid (HR4.out.trans fK)
 have gB:=Lib.hid dP
 have Di:=Lib.hid (fK.n _ _ _ yU.out)
 have eH:=Lib.hid (fK.n _ _ _ bY.out)
 have HE:=Lib.hid (zK hnx)
 have wI:=Lib.hid (iC.out wf dP.g)
 clear hvk hs2 fK dP hnx HM il iD jf dw HR4 dU uI yU bY HV FN Dz mX
 obtain⟨⟨n0,n1⟩,n2,n3⟩:=az eH.out
 have hbl:=lt_of_block eH.out
 obtain⟨⟨d0,d1⟩,d2,d3⟩:=wI.out
 have hkl:=World.block_lt_of_cell? wf _ d0
 simp only at hkl
 have hbd:(1:Int)<(nl.length:Nat):=by have:=HL3.out;omega
 rcases HE.out with⟨e,hx,hre⟩|⟨s3,hx,hrest⟩
 · have HST:=Lib.hid (nu.out wf x5 s2 _ gB.out hx)
   rw[gP.out.1]at HST
   have df:=Lib.hid hre
   clear hx hre HE
   go_wp2_with fail
   refine HST.out.mono ?_
   rintro e2 w6 ⟨⟨rfl,hn0⟩,hg⟩
   refine⟨rfl,?_⟩
   rw[df.out]
   exact⟨⟨rfl,hn0⟩,(by first|exact hg|exact .of (ax.grow aj.out) hg|exact .of (ax.grow HG2.out) hg|exact .of (ax.grow aA.out) hg|exact .of (ax.grow bA.out) hg|exact .of (ax.grow bG.out) hg|exact .of (ax.grow aO.out) hg|exact .of iV.out hg|exact .of fu.out hg|exact .of dA.out hg|exact .of cK.out hg|exact .of fw.out hg|exact .of HR4.out hg|exact .of HR3.out hg|exact .of HR2.out hg|exact .of HR1.out hg|exact .of HR.out hg|exact .of ((ax.grow aj.out).trans HR.out) hg)⟩
 have HST:=Lib.hid (nu.out wf x5 s2 _ gB.out hx)
 rw[gP.out.1]at HST
 obtain⟨hbad,hok⟩:=oP hrest
 have HBAD:=Lib.hid hbad
 have bJ:=Lib.hid hok
 clear hx hrest hbad hok HE
 go_wp2_with fail
 refine HST.out.mono ?_
 rintro e2 w6 ⟨rfl,x6,eZ,mg⟩
 have dD:=Lib.hid (uS w0 p fuel k w6 x6 s3 mg)
 rw[eZ.R,gP.out.1]at dD
 have iP:=Lib.hid (And.intro (eZ.R.trans gP.out.1) (eZ.S.trans gP.out.2))
 have cK:=Lib.hid (fw.out.trans eZ)
 have ji:=Lib.hid mg
 have rT:=Lib.hid (eZ.n _ _ _ Di.out)
 have jG:=Lib.hid (eZ.n _ _ _ eH.out)
 clear eZ mg HST n0 n1 n2 n3 hbl d0 d1 d2 d3 hkl hbd gP fw gB Di eH wI
 go_wp2_with fail
 refine dD.out.mono ?_
 clear dD
 intro e w7 hq
 cases hs1:s3.step fuel with
 |error n =>
  rw[hs1]at hq
  have hre:=HBAD.out n hs1
  obtain⟨⟨rfl,hn0⟩,hg⟩:=hq
  refine⟨rfl,?_⟩
  rw[hre]
  exact⟨⟨rfl,hn0⟩,(by first|exact hg|exact .of (ax.grow aj.out) hg|exact .of (ax.grow HG2.out) hg|exact .of (ax.grow aA.out) hg|exact .of (ax.grow bA.out) hg|exact .of (ax.grow bG.out) hg|exact .of (ax.grow aO.out) hg|exact .of iV.out hg|exact .of fu.out hg|exact .of dA.out hg|exact .of cK.out hg|exact .of fw.out hg|exact .of HR4.out hg|exact .of HR3.out hg|exact .of HR2.out hg|exact .of HR1.out hg|exact .of HR.out hg|exact .of ((ax.grow aj.out).trans HR.out) hg)⟩
 |ok s4 =>
 rw[hs1]at hq
 have hnext:=bJ.out s4 hs1
 obtain⟨rfl,x7,fG,mh⟩:=hq
 have iW:=Lib.hid (And.intro (fG.R.trans iP.out.1) (fG.S.trans iP.out.2))
 have dA:=Lib.hid (cK.out.trans fG)
 have zb:=Lib.hid mh
 have RL:=Lib.hid (fG.n _ _ _ rT.out)
 have uJ:=Lib.hid (fG.n _ _ _ jG.out)
 obtain⟨A8,hv2,Cc,Cw⟩:=KR hnext
 have HV:=Lib.hid hv2
 have FN:=Lib.hid Cc
 have Dz:=Lib.hid Cw
 clear HBAD bJ fG mh hnext rT jG cK ji iP hv2 Cc Cw hs1
 go_upto_region 6 with fail
 have Pf:=Lib.hid (λy hM=>KQ (w0:=w0) (p:=p) (fuel:=fuel) (k:=k) (xx:=x7) (wA:=w7) (s1:=s4) (vok:=∃ v,A8 = .ok v) (r2:=res) (res:=res) J6.out HV.out (λv h=>⟨v,h⟩) FN.out y hM)
 have ZY:=Lib.hid (λy hM=>wX (w0:=w0) (X:=ErrX w0 x7 w7 res) (vok:=∃ v,A8 = .ok v) (p:=p) (fuel:=fuel) (k:=k) (xx:=x7) (wA:=w7) (s1:=s4) (m:=1) (r2:=res) y hM (λx' hr hst hvk=>by
  have:=LU w0 p fuel k y x' s4 ns (valOf A8) res hst (Dz.out (hvk (by decide)))
  rw[hr.S,iW.out.2]at this
  exact this))
 have ZZ:=Lib.hid (λy hM=>zA (w0:=w0) (p:=p) (fuel:=fuel) (k:=k) (xx:=x7) (wA:=w7) (s1:=s4) (vok:=∃ v,A8 = .ok v) (r2:=res) (res:=res) (m:=1) (λe _ he=>he) (.pointer (some ⟨x.R,0,none⟩)) y hM)
 rw[iW.out.1]at Pf
 refine wy (ErrX w0 x7 w7 res) 50 [some 38,some 39,some 40,some 41,some 42,some 43,some 44,some 45,some 46,some 47,some 48,some 49] [[],[],[1],[2],[3],[],[5],[],[],[7,8],[4,6,9],[0,10]] [some (.pointer (some ⟨x.R,0,none⟩)),some (.pointer (some ⟨x.R,0,none⟩)),some (.pointer (some ⟨x.R,0,none⟩)),some (.pointer (some ⟨x.R,6,none⟩)),some (.pointer (some ⟨x.S,0,none⟩)),some (.pointer (some ⟨w.heap.size,2,none⟩)),some (.string ns),some (.pointer (some ⟨x.R,0,none⟩)),some (.agg #[.int .u8 zk,.int .i64 zn,.string zs,.slice za zl.length zc]),some (.int .i64 (valOf A8)),some (.int .i64 (kF res)),some (.tuple #[])] [9,10,11] (dV w0 p fuel k x7 w7 s4 (∃ v,A8 = .ok v) res 1) (dV.zero zb.out) ⟨?s0,?s1,?s2,?s3,?s4,?s5,?s6,?s7,?s8,?s9,?s10,?s11,trivial⟩ ?fin (λch w9 a9 ny nC=>And.intro ny (nC.run dA.out))
 case s0 =>
  refine yc (λy => ?_)
  simp only[zS,cv,List.getD_cons_zero,List.getD_cons_succ,Option.getD_some]
  go_simp
  exact⟨rfl,rfl⟩
 case s1 =>
  refine yc (λy => ?_)
  simp only[zS,cv,List.getD_cons_zero,List.getD_cons_succ,Option.getD_some]
  go_simp
  exact⟨rfl,rfl⟩
 case s2 =>
  refine yc (λy => ?_)
  simp only[zS,cv,List.getD_cons_zero,List.getD_cons_succ,Option.getD_some]
  go_simp
  exact⟨rfl,rfl⟩
 case s3 =>
  refine yc (λy => ?_)
  simp only[zS,cv,List.getD_cons_zero,List.getD_cons_succ,Option.getD_some]
  go_simp
  exact⟨rfl,rfl⟩
 case s4 =>
  refine yl 1 (λt y ht hM => ?_)
  obtain⟨x9,aZ,bN⟩:=hM.read ht
  have c6:=bN.cells.1.1
  rw[(aZ.R.trans iW.out.1),(aZ.S.trans iW.out.2)]at c6
  have hrl:=lt_of_block bN.run
  rw[(aZ.R.trans iW.out.1)]at hrl
  clear hM aZ bN
  simp only[zS,cv,List.getD_cons_zero,List.getD_cons_succ,Option.getD_some]
  go_simp
  exact⟨rfl,rfl⟩
 case s5 =>
  refine yc (λy => ?_)
  simp only[zS,cv,List.getD_cons_zero,List.getD_cons_succ,Option.getD_some]
  go_simp
  exact⟨rfl,rfl⟩
 case s6 =>
  refine yl 1 (λt y ht hM => ?_)
  obtain⟨x9,aZ,bN⟩:=hM.read ht
  obtain⟨⟨n0,n1⟩,n2,n3⟩:=az (aZ.n _ _ _ uJ.out)
  have hbl:=lt_of_block (aZ.n _ _ _ uJ.out)
  clear hM aZ bN
  simp only[zS,cv,List.getD_cons_zero,List.getD_cons_succ,Option.getD_some]
  go_simp
  exact⟨rfl,rfl⟩
 case s7 =>
  refine yc (λy => ?_)
  simp only[zS,cv,List.getD_cons_zero,List.getD_cons_succ,Option.getD_some]
  go_simp
  exact⟨rfl,rfl⟩
 case s8 =>
  refine yl 1 (λt y ht hM => ?_)
  obtain⟨x9,aZ,bN⟩:=hM.read ht
  obtain⟨⟨n0,n1⟩,n2,n3⟩:=az (aZ.n _ _ _ RL.out)
  have hbl:=lt_of_block (aZ.n _ _ _ RL.out)
  clear hM aZ bN
  simp only[zS,cv,List.getD_cons_zero,List.getD_cons_succ,Option.getD_some]
  go_simp
  exact⟨rfl,rfl⟩
 case s9 =>
  refine yw 0 (λy hM => ?_)
  have HC:=Lib.hid (Pf.out y hM)
  clear hM
  unfold eB
  simp only[zS,cv,List.getD_cons_zero,List.getD_cons_succ,Option.getD_some]
  go_simp
  exact iG.kM HC.out
 case s10 =>
  refine yw 1 (λy hM => ?_)
  have HC:=Lib.hid (ZY.out y hM)
  clear hM
  unfold eB
  simp only[zS,cv,List.getD_cons_zero,List.getD_cons_succ,Option.getD_some]
  go_simp
  exact iG.kM HC.out
 case s11 =>
  refine yw 2 (λy hM => ?_)
  have HC:=Lib.hid (ZZ.out y hM)
  clear hM
  unfold eB
  simp only[zS,cv,List.getD_cons_zero,List.getD_cons_succ,Option.getD_some]
  go_simp
  exact iG.kM HC.out
 case fin =>
 intro wf hM
 have HM:=Lib.hid hM.fin
 clear hM
 simp only[zS,Nat.reduceAdd,cv,List.getD_cons_zero,List.getD_cons_succ,Option.getD_some]
 have HQ:=Lib.hid (show dx w0 p fuel k x w res (.returned (.tuple #[])) wf from by
  obtain⟨s9,J7,x9,aZ,bN⟩:=HM.out.2
  rw[J7]
  exact⟨rfl,x9,dA.out.trans aZ,bN⟩)
 go_wp2_with fail
 go_end0
 exact HQ.out
end Go.Proofs.YtbpodipdfohikaaGreat
