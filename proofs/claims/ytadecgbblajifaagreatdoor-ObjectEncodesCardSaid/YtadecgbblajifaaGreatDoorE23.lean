import Derived.Test.YtadecgbblajifaaGreatDoorE22
set_option linter.unusedSimpArgs false
set_option linter.unusedVariables false
set_option maxRecDepth 100000
set_option maxHeartbeats 25600000
namespace Go.Proofs.YtadecgbblajifaaGreatDoor
end Go.Proofs.YtadecgbblajifaaGreatDoor
namespace Go.Proofs.YtadecgbblajifaaGreatDoor.DV
open Go
noncomputable section
abbrev u (n:Nat):D := .lf (.int .u8 (.ofNat n))
abbrev i (n:Nat):D := .lf (.int .i64 (.ofNat n))
abbrev t (l:List UInt8):D := .lf (.string ⟨⟨l⟩⟩)
def zJ:D:=(.st [1,1,4] [ns,(.sl false 6 [(.st [1,1,4] [(t [102]),(.sl true 3 [(.st [1,1,1] [(t [120]),(u 1),ni])]),(.st [1,1,1,1] [(u 57),ni,nt,(.sl false 4 [(.st [1,1,1,1] [(u 40),ni,nt,(.sl true 4 [(.st [1,1,1,1] [(u 2),ni,(t [120]),ns]),(.st [1,1,1,1] [(u 1),(i 1),nt,ns])])])])])])]),(.st [1,1,1,1] [(u 57),ni,nt,ns])])
def zK:D:=(.st [1,1,3,2] [(t [102]),(.sl false 3 [(.st [1,1,1] [(t [120]),(u 1),ni])]),(.st [1,1,1] [(.sl false 4 [(.st [1,1,1,1] [(t [120]),(u 1),ni,ni])]),(i 1),ni]),(.st [1,1] [(.sl false 5 [(.st [1,1,1,1,1] [(u 6),(i 1),(i 1),ni,ni]),(.st [1,1,1,1,1] [(u 12),(i 1),ni,ni,ni]),(.st [1,1,1,1,1] [(u 13),(i 4),ni,ni,ni]),(.st [1,1,1,1,1] [(u 10),(i 5),ni,ni,ni]),(.st [1,1,1,1,1] [(u 1),(i 5),(i 4),ni,ni]),(.st [1,1,1,1,1] [(u 10),(i 5),ni,ni,ni]),(.st [1,1,1,1,1] [(u 12),(i 4),ni,ni,ni]),(.st [1,1,1,1,1] [(u 13),(i 1),ni,ni,ni]),(.st [1,1,1,1,1] [(u 6),(i 1),(i 1),ni,ni])]),ns])])
def Gt:D:=(.sl false 1 [(u 1),(u 102),(u 1),(u 1),(u 120),(u 1),nu,nu,nu,nu,(u 1),nu,nu,nu,nu,nu,(u 1),(u 1),(u 120),(u 1),nu,nu,nu,nu,nu,nu,nu,nu,(u 63),nu,nu,nu,(u 9),(u 6),(u 1),nu,nu,nu,nu,nu,nu,nu,(u 1),(u 12),(u 1),nu,nu,nu,nu,(u 13),(u 4),nu,nu,nu,nu,(u 10),(u 5),nu,nu,nu,nu,(u 1),(u 5),(u 4),(u 10),(u 5),nu,nu,nu,nu,(u 12),(u 4),nu,nu,nu,nu,(u 13),(u 1),nu,nu,nu,nu,(u 6),(u 1),nu,nu,nu,nu,nu,nu,nu,(u 1),nu,nu,nu,nu])
def VP:List D:=[t [112,114,111,99,32,102,40,105,110,116,32,120,41,32,123,10,120,32,43,61,32,49,59,10,125,10,109,97,105,110,32,123,10,125,10]]
set_option maxRecDepth 100000 in
theorem abx:uE (l7 []) 28 VP=some (.tu [zJ,ni,ni]):=by kernel_rfl
set_option maxRecDepth 100000 in
theorem aaI:uE (l7 []) 13 [zJ,ni]=some (.tu [zK,ni]):=by kernel_rfl
set_option maxRecDepth 100000 in
theorem aaJ:uE (l7 []) 14 [zJ]=some (.tu [(.st [1,1,3,2] [nt,ns,(.st [1,1,1] [ns,ni,ni]),(.st [1,1] [ns,ns])]),ni]):=by kernel_rfl
set_option maxRecDepth 100000 in
theorem aby:uE (l7 []) 21 [zK]=some (.tu [Gt,ni]):=by kernel_rfl
set_option maxRecDepth 100000 in
theorem abz:uE (l7 []) 24 [Gt]=some (.tu [zK,ni]):=by kernel_rfl
def Gu:List (Nat × List D × D):=[(28,VP,.tu [zJ,ni,ni]),(13,[zJ,ni],.tu [zK,ni]),(14,[zJ],.tu [(.st [1,1,3,2] [nt,ns,(.st [1,1,1] [ns,ni,ni]),(.st [1,1] [ns,ns])]),ni]),(21,[zK],.tu [Gt,ni]),(24,[Gt],.tu [zK,ni])]
theorem Aw:∀ f args d,l7 [] f args=some d->Pure Tryz.prog dL f args d:=JD [] (λ_ h=>by cases h)
theorem abA:∀ f args d,l7 Gu f args=some d->Pure Tryz.prog dL f args d:=JD Gu (by
 intro x hx
 simp only[Gu,List.mem_cons,List.not_mem_nil,or_false]at hx
 rcases hx with rfl|rfl|rfl|rfl|rfl
 · exact ym (k:=100) abx (by kernel_rfl) Aw
 · exact ym (k:=100) aaI (by kernel_rfl) Aw
 · exact ym (k:=100) aaJ (by kernel_rfl) Aw
 · exact ym (k:=100) aby (by kernel_rfl) Aw
 · exact ym (k:=100) abz (by kernel_rfl) Aw
 )
set_option maxRecDepth 100000 in
theorem abB:uE (l7 Gu) 11 []=some (.lf (.bool true)):=by kernel_rfl
end
end Go.Proofs.YtadecgbblajifaaGreatDoor.DV
namespace Go.Proofs.YtadecgbblajifaaGreatDoor
end Go.Proofs.YtadecgbblajifaaGreatDoor
namespace Go.Proofs.YtadecgbblajifaaGreatDoor.DV
open Go Go.RowKit
structure xu (o:aO):Prop where
 ok:Kg o
 np:o.params.length<=9223372036854775807
 nc:o.code.length<=9223372036854775807
 nr:o.refs.length<=9223372036854775807
theorem xu.flt {o:aO} (h:xu o):Sb o:=⟨h.ok.name,λv hv=>(h.ok.params v hv).1,h.ok.few,h.np,h.nc,h.nr,λx hx=>(h.ok.code x hx).1⟩
theorem xu.of {w:World} {x:gT} (h:lS w x):xu x.d:=by
 obtain⟨_,_,_,_,h1⟩:=h.params.form
 obtain⟨_,_,_,_,h2⟩:=h.code.form
 obtain⟨_,_,_,_,h3⟩:=h.refs.form
 exact⟨h.ok,h1,h2,h3⟩
theorem K3 {g:G} {s:Nat} {ss:List Nat} {d:D} {ds:List D} {cs:List Value} (h:aj g (s :: ss) (d :: ds) cs):s<=cs.length/\CR g false d (cs.take s)/\aj g ss ds (cs.drop s):=by
 simpa only[aj]using h
theorem vV {g:G} {ss:List Nat} {d:D} {ds:List D} {cs:List Value} (h:aj g (1 :: ss) (d :: ds) cs):∃ c cs',cs=c :: cs'/\CR g false d [c]/\aj g ss ds cs':=by
 obtain⟨h0,h1,h2⟩:=K3 h
 match cs,h0 with
 |c :: cs,_=>exact⟨c,cs,rfl,h1,h2⟩
theorem abC {g:G} {w:World} {o:aO} {v:Value} (hfm:∀ b c,g.fm b=some c->mem w b=some c) (ok:xu o) (h:VR g (gJ o) v):∃ x:gT,x.d=o/\v=x.val/\lS w x:=by
 obtain⟨cs,rfl,hc⟩:=Ki h
 obtain⟨c0,cs,rfl,h0,hd⟩:=vV hc
 obtain⟨c1,cs,rfl,h1,he⟩:=vV hd
 obtain⟨l2,h2,hp⟩:=K3 he
 obtain⟨l3,h3,hz⟩:=K3 hp
 simp only[aj]at hz
 simp only[CR,wrap,Bool.false_eq_true,if_false]at h2 h3
 obtain⟨f,hf,h2⟩:=h2
 obtain⟨q,hq,h3⟩:=h3
 obtain⟨f0,f',rfl,a0,h2⟩:=vV h2
 obtain⟨f1,f',rfl,a1,h2⟩:=vV h2
 obtain⟨f2,f',rfl,a2,h2⟩:=vV h2
 simp only[aj]at h2
 subst h2
 obtain⟨q0,q',rfl,b0,h3⟩:=vV h3
 obtain⟨q1,q',rfl,b1,h3⟩:=vV h3
 simp only[aj]at h3
 subst h3
 have e0:=rV _ _ _ (rfl:cellsD (sD o.name)=some [.string o.name]) h0
 have e1:=rV _ _ _ (rfl:cellsD (iD o.cells)=some [.int .i64 o.cells]) a1
 have e2:=rV _ _ _ (rfl:cellsD (iD o.stacks)=some [.int .i64 o.stacks]) a2
 simp only[List.cons.injEq,and_true]at e0 e1 e2
 subst e0 e1 e2
 have hcs:cs=[f0,.int .i64 o.cells,.int .i64 o.stacks,q0,q1]:=by
  have:=List.take_append_drop 3 cs
  rw[hf]at this
  have h5:=List.take_append_drop 2 (cs.drop 3)
  rw[hq,hz]at h5
  rw[← h5]at this
  simpa using this.symm
 subst hcs
 have few:=ok.ok.few
 exact⟨⟨o,c1,f0,q0,q1⟩,rfl,rfl,ok.ok,row_of (enc:=iW) hfm (λx=>rfl) ok.np (by simpa only[VR,CR]using h1),row_of (enc:=kg) hfm (λx=>rfl) (by simp only;omega) (by simpa only[VR,CR]using a0),row_of (enc:=wK) hfm (λx=>rfl) ok.nc (by simpa only[VR,CR]using b0),row_of (enc:=om) hfm (λx=>rfl) ok.nr (by simpa only[VR,CR]using b1)⟩
theorem D7:Pure Tryz.prog dL 11 [] (bD true):=ym (k:=1) abB rfl abA
theorem ack {w:World} (h1:Cells w 1 Gh) (h2:Cells w 0 zB) (i:Nat):VR (ku w) (dL i) (.pointer (some ⟨i,0,none⟩)):=by
 unfold dL
 split
 · exact O8 h1 rfl (by kernel_rfl)
 · exact O8 h2 rfl (by kernel_rfl)
 · simp[VR,CR]
theorem qR {g:G} {ss:List Nat} {d:D} {ds:List D} {cs cs':List Value} (h:CR g false d cs) (h':aj g ss ds cs'):aj g (cs.length :: ss) (d :: ds) (cs ++ cs'):=by
 simp only[aj]
 exact⟨by simp,by simpa using h,by simpa using h'⟩
theorem abD {w:World} {x:gT} (h:lS w x):VR (ku w) (gJ x.d) x.val:=by
 obtain⟨o,pv,sv,cv,rv⟩:=x
 have r1:=Em (n:=3) (f:=aT.cells) (enc:=iW) (λv=>by simp[iW,CR,aj,wrap,aT.cells,Value.oneCell']) (λ_=>rfl) (by decide) h.params
 have r2:=Em (n:=4) (f:=aI.cells) (enc:=kg) (λv=>by simp[kg,CR,aj,wrap,aI.cells,Value.oneCell']) (λ_=>rfl) (by decide) h.slots
 have r3:=Em (n:=5) (f:=Ins.cells) (enc:=wK) (λv=>by simp[wK,CR,aj,wrap,Ins.cells,Value.oneCell']) (λ_=>rfl) (by decide) h.code
 have r4:=Em (n:=2) (f:=cB.cells) (enc:=om) (λv=>by simp[om,CR,aj,wrap,cB.cells,Value.oneCell']) (λ_=>rfl) (by decide) h.refs
 have q1:CR (ku w) false (qf o.params) [pv]:=by simpa only[VR,CR]using r1
 have q2:CR (ku w) false (vN o.slots) [sv]:=by simpa only[VR,CR]using r2
 have q3:CR (ku w) false (Bh o.code) [cv]:=by simpa only[VR,CR]using r3
 have q4:CR (ku w) false (Bi o.refs) [rv]:=by simpa only[VR,CR]using r4
 have lf:∀ v:Value,v.oneCell'=true->CR (ku w) false (.lf v) [v]:=λv h=>by simp only[CR];exact⟨trivial,λ_=>h⟩
 have c2:CR (ku w) false (nP o.slots o.cells o.stacks) [sv,.int .i64 o.cells,.int .i64 o.stacks]:=by
  simp only[CR,wrap]
  exact⟨_,rfl,qR q2 (qR (lf _ rfl) (qR (lf _ rfl) (by simp only[aj])))⟩
 have c3:CR (ku w) false (yu o.code o.refs) [cv,rv]:=by
  simp only[CR,wrap]
  exact⟨_,rfl,qR q3 (qR q4 (by simp only[aj]))⟩
 simp only[VR,CR]
 exact⟨[.string o.name,pv,sv,.int .i64 o.cells,.int .i64 o.stacks,cv,rv],rfl,qR (lf _ rfl) (qR q1 (qR (cs:=[sv,.int .i64 o.cells,.int .i64 o.stacks]) c2 (qR (cs:=[cv,rv]) c3 (by simp only[aj]))))⟩
end Go.Proofs.YtadecgbblajifaaGreatDoor.DV
namespace Go.Proofs.YtadecgbblajifaaGreatDoor
end Go.Proofs.YtadecgbblajifaaGreatDoor
namespace Go.Proofs.YtadecgbblajifaaGreatDoor.DV
open Go
noncomputable section
variable {P:Program} {C:Cx} {B:Base} {r:Option Nat}
mutual
def adk:D->List Nat
 |.own _ i _ n=>match n with
  |0=>[]
  |_=>[i]
 |.ref i _=>[i]
 |.fn _ a b=>yY a ++ yY b
 |.st _ ds=>yY ds
 |.tu ds=>yY ds
 |_=>[]
def yY:List D->List Nat
 | []=>[]
 |d :: l=>adk d ++ yY l
end
def Qm (st:List (Nat × Option D)) (tc:List Nat):Bool:=tc.all λi=>match lk st i with
 |some c => !fU c
 |none=>false
def EI:List Nat->List (Nat × Option D)->List (Nat × Option D)
 | [],st=>st
 |i :: l,st=>(i,none) :: EI l st
theorem Z4 (tc:List Nat) (st:List (Nat × Option D)):gI (tc.map λi=>(i,none)) st=EI tc st:=by
 induction tc with
 |nil=>rfl
 |cons i l ih=>simp only[List.map_cons,gI,EI,ih]
theorem Yo {σ:au} {id:Nat} {tc VQ:List Nat} (h:∀ i∈tc,mem1 i VQ=true/\(σ i).isSome=true):jD σ id VQ (tc.map λi=>(i,none))=true:=by
 induction tc with
 |nil=>rfl
 |cons i l ih =>
  simp only[List.map_cons,jD]
  obtain⟨h1,h2⟩:=h i (List.mem_cons_self ..)
  rw[h1,h2]
  simp only[Bool.and_self,Bool.or_true]
  exact ih λj hj=>h j (List.mem_cons_of_mem _ hj)
theorem XW {st:List (Nat × Option D)} {tc:List Nat} {id:Nat} (h:Qm st tc=true):jD (lk st) id tc (tc.map λi=>(i,none))=true:=Yo λi hi=>by
 refine⟨(jO _ _).2 hi,?_⟩
 have:=List.all_eq_true.1 h i hi
 cases hl:lk st i with
 |none=>rw[hl]at this;simp at this
 |some c=>rfl
section
variable {ops:Array Oper} {base n i k:Nat} {t0 st0 tm st:List (Nat × Option D)} {acc:List Rc} {l:List Oper} {o:Oper} {K:S->Prop}
theorem dp {c:Call} {fo:Operand} {f:Nat} {az bs as' VS:List D} {d:D} {tc:List Nat} (hE:C.E=kT P C.gl) (hg:∀ i,ak (C.gl i)) (hw:eD ops tm o=some true) (hd:o.dst=some k) (hkn:Nat.blt k n=true) (ho:o.op = .call c) (hc:c.callee = .value fo) (hfo:fG C.gl (aN ops o) tm fo = .fn (.func f) az bs) (ha:az ++ dmap (fG C.gl (aN ops o) tm) c.args.toList ++ bs=as')
 (_:yY as'=tc) (hm:Qm st tc=true) (hp:Pure P C.gl f VS d) {st':List (Nat × Option D)} (hst:EI tc st=st') (hf:eO (bV tc (lk st)) as' VS) (bf:jo i (gD o)=true) (hok:iA (eF [] ops.toList) ⟨i,o.dst,aN ops o,d,tc.map λi=>(i,none),tc,none,base+ops.size,base+ops.size⟩ acc=true)
 (h:dQ C ops base n t0 st0 (⟨i,o.dst,aN ops o,d,tc.map λi=>(i,none),tc,none,base+ops.size,base+ops.size⟩ :: acc) i.succ l ((k,some d) :: tm) st' K):dQ C ops base n t0 st0 acc i (o :: l) tm st K :=
 de tc hw hd hkn ho hc hfo ha (by rw[hE];exact ZO hp hg tc hm hf) (XW hm) bf hok (by rw[Z4,hst]) h
end
theorem FR.abE {σ:au} {t:Bool} {i s n:Nat} {ds es:List D} (hc:σ i=some (.ar s ds)) (hn:n=ds.length) (hf:eO σ ds es):FR σ (.own t i 0 n) (.sl false s es):=by
 subst hn
 exact FR.own hc (by omega) (by simpa using hf)
theorem eO.fz1 {σ:au} {ds:List D} (h:∀ d∈ds,ak d):eO σ ds ds:=by
 induction ds with
 |nil=>trivial
 |cons d l ih=>exact⟨.fz (h d (List.mem_cons_self ..)),ih λe he=>h e (List.mem_cons_of_mem _ he)⟩
theorem FR.fn {σ:au} {f:Fn} {a b a' b':List D} (ha:eO σ a a') (hb:eO σ b b'):FR σ (.fn f a b) (.fn f a' b'):=λg h w h1 h2 h3 m cs H=>by
 simp only[CR]at H ⊢
 obtain⟨x,y,e,p,q⟩:=H
 exact⟨x,y,e,ha.l8 h1 h2 h3 p,hb.l8 h1 h2 h3 q⟩
theorem Rn.fn {ρ:List (Nat × Nat)} {f:Fn} {a b a' b':List D} (ha:eP ρ a a') (hb:eP ρ b b'):Rn ρ (.fn f a b) (.fn f a' b'):=λg h h1 h2 m cs H=>by
 simp only[CR]at H ⊢
 obtain⟨x,y,e,p,q⟩:=H
 exact⟨x,y,e,ha.l8 h1 h2 p,hb.l8 h1 h2 q⟩
theorem ak.fn {f:Fn} : ak (.fn f [] []):=λg h _ m cs H=>by
 simp only[CR,aC]at H ⊢
 exact H
end
end Go.Proofs.YtadecgbblajifaaGreatDoor.DV
namespace Go.Proofs.YtadecgbblajifaaGreatDoor
end Go.Proofs.YtadecgbblajifaaGreatDoor
namespace Go.Proofs.YtadecgbblajifaaGreatDoor.DV
open Go
noncomputable section
variable {P:Program} {C:Cx} {B:Base} {r:Option Nat}
theorem aaK {T:dA} {σ:au} {id:Nat} {get:Operand->D} {c:Call} {t t2 el s i n:Nat} {x z:Operand} {y y2 ye:Ty} {os zs:List D} (hc:c.callee = .builtin .append) (ht:c.argTypes.toList=[t,t2]) (ha:c.args.toList=[x,z]) (hy:T t=some y) (hy2:T t2=some y2) (hni:nM y2=true) (hk:y.k = .sl el s) (hye:T el=some ye) (hz0:(gX ye.zero && Nat.beq (sz ye.zero) s)=true)
 (hx:get x = .own false i 0 n) (hσ:σ i=some (.ar s os)) (hn:n=os.length) (hz:jQ σ s (get z)=some zs) (hne:zs≠[]) (hb:(os.length+zs.length) * ye.bytes<=140737488355328) (hb2:os.length+zs.length<=9223372036854775807) :
 fH T σ id get (.call c)=some (.own false id 0 (os.length+zs.length),[(i,none),(id,some (.ar s (os ++ zs)))]):=by
 cases zs with
 |nil=>exact absurd rfl hne
 |cons z0 zs =>
  have he:T (gY (Tk.sl el s))=some ye:=hye
  have ho:jQ σ s (.own false i 0 n)=some os:=by
   simp only[jQ,hσ,Nat.beq_refl,Bool.true_and,List.drop_zero,hn,List.take_length]
   rw[if_pos (Nat.ble_eq_true_of_le (by omega))]
  simp only[fH,Ba,hc,ht,ha,BA,Bz,hy,hy2,hni,he,xQ,hk,hz,hz0,hx,ho,yP]
  rw[if_pos]
  simp only[Bool.and_eq_true]
  exact⟨Nat.ble_eq_true_of_le hb,Nat.ble_eq_true_of_le hb2⟩
theorem abF {T:dA} {σ:au} {id:Nat} {get:Operand->D} {c:Call} {t t2 el s:Nat} {x z:Operand} {y y2 ye:Ty} {zs:List D} (hc:c.callee = .builtin .append) (ht:c.argTypes.toList=[t,t2]) (ha:c.args.toList=[x,z]) (hy:T t=some y) (hy2:T t2=some y2) (hni:nM y2=true) (hk:y.k = .sl el s) (hye:T el=some ye) (hz0:(gX ye.zero && Nat.beq (sz ye.zero) s)=true)
 (hx:get x = .lf (.slice none 0 0)) (hz:jQ σ s (get z)=some zs) (hne:zs≠[]) (hb:zs.length * ye.bytes<=140737488355328) (hb2:zs.length<=9223372036854775807) :
 fH T σ id get (.call c)=some (.own false id 0 zs.length,[(id,some (.ar s zs))]):=by
 cases zs with
 |nil=>exact absurd rfl hne
 |cons z0 zs =>
  have he:T (gY (Tk.sl el s))=some ye:=hye
  simp only[fH,Ba,hc,ht,ha,BA,Bz,hy,hy2,hni,he,xQ,hk,hz,hz0,hx]
  rw[if_pos]
  simp only[Bool.and_eq_true]
  exact⟨Nat.ble_eq_true_of_le hb,Nat.ble_eq_true_of_le hb2⟩
theorem Z5 {T:dA} {σ:au} {id:Nat} {get:Operand->D} {c:Call} {t t2 el s:Nat} {x z:Operand} {y y2 ye:Ty} (hc:c.callee = .builtin .append) (ht:c.argTypes.toList=[t,t2]) (ha:c.args.toList=[x,z]) (hy:T t=some y) (hy2:T t2=some y2) (hni:nM y2=true) (hk:y.k = .sl el s) (hye:T el=some ye)
 (hx:yO (get x)=true) (hz:jQ σ s (get z)=some []):fH T σ id get (.call c)=some (get x,[]):=by
 have he:T (gY (Tk.sl el s))=some ye:=hye
 simp only[fH,Ba,hc,ht,ha,BA,Bz,hy,hy2,hni,he,xQ,hk,hz,hx,if_true]
theorem Pg {tm st:List (Nat × Option D)} {nx n k i off m:Nat} {t:Bool} {c:D} (hc:lk st i=some c) (hm:fU c=false):Wk C B (Z ((k,some (.own t i off m)) :: tm) st nx n) (Z ((k,some (.own t nx off m)) :: tm) ((i,none) :: (nx,some c) :: st) nx.succ n):=by
 intro g a w hS hI
 have e1:aA (bX st)=lk st:=by funext i;exact jU st i
 have e2:aA (bX ((i,none) :: (nx,some c) :: st))=lk ((i,none) :: (nx,some c) :: st):=by funext i;exact jU _ i
 have R:=hS.rel
 simp only[e1]at R
 obtain⟨l0,adl,H0⟩:=R.has hc hm
 have hin:i<nx:=by
  rcases Nat.lt_or_ge i nx with h|h
  · exact h
  · have:=hS.fresh i h
    rw[H0.ae]at this;simp at this
 generalize hk':(⟨g.fm,λj=>if j=nx then g.ae i else g.ae j⟩:G)=g'
 have hf:g'.fm=g.fm:=by rw[← hk']
 have hrn:g'.ae nx=g.ae i:=by rw[← hk'];simp
 have hro:∀ j,j≠nx->g'.ae j=g.ae j:=λj hj=>by rw[← hk'];simp[hj]
 have le:Le g g':=⟨λb c h=>by rw[hf];exact h,λj l hj=>by
  by_cases h:j=nx
  · subst h
    have:=hS.fresh j (Nat.le_refl _)
    rw[hj]at this;simp at this
  · rw[hro j h];exact hj⟩
 have hlk:∀ j d,lk ((i,none) :: (nx,some c) :: st) j=some d->j≠i/\((j=nx/\d=c)\/(j≠nx/\lk st j=some d)):=by
  intro j d h
  simp only[lk]at h
  cases hb:Nat.beq i j with
  |true=>rw[hb]at h;simp at h
  |false =>
   rw[hb]at h
   simp only at h
   have h1:j≠i:=λq=>by subst q;simp at hb
   cases hb2:Nat.beq nx j with
   |true =>
    rw[hb2]at h
    simp only[Option.some.injEq]at h
    exact⟨h1,.inl ⟨(Nat.eq_of_beq_eq_true hb2).symm,h.symm⟩⟩
   |false =>
    rw[hb2]at h
    exact⟨h1,.inr ⟨λq=>by subst q;simp at hb2,h⟩⟩
 refine⟨g',⟨?_,λj => ?_,hS.size,λj hj => ?_,λj=>(hS.gl j).mono le,hS.ms.mono le⟩,⟨λb d hb=>le.fm _ _ (hI.fm b d hb),hI.hp,hI.fr,λb hb=>hI.jv b (by rw[hf]at hb;exact hb),λj l hj => ?_,hI.sm,λj hj l hl=>le.ae _ _ (hI.rk j hj l hl)⟩⟩
 · simp only[e2]
   refine⟨λb d hb=>R.fm b d (by rw[hf]at hb;exact hb),λj d hj => ?_,λj1 j2 l m hj1 hj2 hl hm' hlm => ?_⟩
   · obtain⟨h1,h2⟩:=hlk j d hj
     rcases h2 with⟨rfl,rfl⟩|⟨h2,h3⟩
     · exact⟨l0,.inl ⟨adl,⟨by rw[hrn];exact H0.ae,H0.row,by rw[hf];exact H0.fm,H0.len,H0.sz,H0.s,CR.mono le _ _ _ H0.cr⟩⟩⟩
     · obtain⟨l,hl⟩:=R.ob j d h3
       exact⟨l,hl.keep le (by rw[hf];exact hl.fm) rfl⟩
   · obtain⟨d1,hd1⟩:=Option.ne_none_iff_exists'.1 hj1
     obtain⟨d2,hd2⟩:=Option.ne_none_iff_exists'.1 hj2
     obtain⟨a1,a2⟩:=hlk j1 d1 hd1
     obtain⟨b1,b2⟩:=hlk j2 d2 hd2
     rcases a2 with⟨rfl,_⟩|⟨a2,a3⟩ <;> rcases b2 with⟨b3,_⟩|⟨b2,b3⟩
     · exact b3.symm
     · rw[hrn]at hl;rw[hro _ b2]at hm'
       exact absurd (R.dj i j2 l m (by rw[hc];simp) (by rw[b3];simp) hl hm' hlm).symm b1
     · subst b3
       rw[hrn]at hm';rw[hro _ a2]at hl
       exact absurd (R.dj j1 i l m (by rw[a3];simp) (by rw[hc];simp) hl hm' hlm) a1
     · rw[hro _ a2]at hl;rw[hro _ b2]at hm'
       exact R.dj j1 j2 l m (by rw[a3];simp) (by rw[b3];simp) hl hm' hlm
 · have h1:=hS.tm j
   simp only[qY]at h1 ⊢
   unfold dl at h1 ⊢
   simp only[lk]at h1 ⊢
   cases hb:Nat.beq k j with
   |true =>
    rw[hb]at h1
    simp only[VR,CR]at h1 ⊢
    obtain⟨l,a',c',q1,q2⟩:=h1
    exact⟨l,a',c',by rw[hrn];exact q1,q2⟩
   |false =>
    rw[hb]at h1
    exact h1.mono le
 · have h1:=hS.fresh j (by simp only at hj ⊢;omega)
   rw[hro j (by simp only at hj;omega)];exact h1
 · by_cases h:j=nx
   · subst h
     rw[hrn]at hj;exact hI.rn i l hj
   · rw[hro j h]at hj;exact hI.rn j l hj
theorem Wk.trans {s t u:S} (h:Wk C B s t) (k:Wk C B t u):Wk C B s u:=λg a w h1 h2=>by
 obtain⟨g1,q1,q2⟩:=h g a w h1 h2
 exact k g1 a w q1 q2
theorem Sc {tm st st':List (Nat × Option D)} {nx n:Nat} (h:∀ j d,lk st' j=some d->lk st j=some d):Wk C B (Z tm st nx n) (Z tm st' nx n):=by
 intro g a w hS hI
 refine⟨g,⟨?_,hS.tm,hS.size,hS.fresh,hS.gl,hS.ms⟩,hI⟩
 have e1:aA (bX st)=lk st:=by funext i;exact jU st i
 have e2:aA (bX st')=lk st':=by funext i;exact jU st' i
 have R:=hS.rel
 simp only[e1,e2]at R ⊢
 exact R.sub h
theorem Ay {i j:Nat} {d:D} {x:Option D} {l:List (Nat × Option D)} (h:lk ((i,x) :: l) j=some d):(i=j/\x=some d)\/(i≠j/\lk l j=some d):=by
 simp only[lk]at h
 cases hb:Nat.beq i j with
 |true=>rw[hb]at h;exact .inl ⟨Nat.eq_of_beq_eq_true hb,h⟩
 |false=>rw[hb]at h;exact .inr ⟨λq=>by subst q;simp at hb,h⟩
theorem yH {i j:Nat} {x:Option D} {l:List (Nat × Option D)} (h:i≠j):lk ((i,x) :: l) j=lk l j:=by
 simp only[lk]
 cases hb:Nat.beq i j with
 |true=>exact absurd (Nat.eq_of_beq_eq_true hb) h
 |false=>rfl
theorem Rl {i:Nat} {x:Option D} {l:List (Nat × Option D)} : lk ((i,x) :: l) i=x:=by simp[lk]
theorem Oo {all:Array Oper} {l:List Oper} {s s':S} {K:S->Prop} (hw:Wk C B s s') (h:bg P C B r all l s' K):bg P C B r all l s K:=⟨λk m g a w Q hl hS hI hQ=>by
 obtain⟨g',h1,h2⟩:=hw g a w hS hI
 exact h.out k m g' a w Q hl h1 h2 hQ⟩
section
variable {all:Array Oper} {l:List Oper} {o:Oper} {c:Call} {t t2 el s i n k nx N:Nat} {x z:Operand} {y y2 ye:Ty} {os zs:List D} {tm st:List (Nat × Option D)} {K:S->Prop}
theorem zap (hT:cZ P C.T) (hw:eD all tm o=some true) (hd:o.dst=some k) (hkn:Nat.blt k N=true) (ho:o.op = .call c) (hc:c.callee = .builtin .append) (ht:c.argTypes.toList=[t,t2]) (ha:c.args.toList=[x,z]) (hy:C.T t=some y) (hy2:C.T t2=some y2) (hni:nM y2=true) (hk:y.k = .sl el s) (hye:C.T el=some ye) (hz0:(gX ye.zero && Nat.beq (sz ye.zero) s)=true)
 (hx:gy C.gl tm x = .own false i 0 n) (hlt:Nat.blt i nx=true) (hσ:lk st i=some (.ar s os)) (hz:jQ (lk st) s (gy C.gl tm z)=some zs) (hn:n=os.length) (hb:(os.length+zs.length) * ye.bytes<=140737488355328) (hb2:os.length+zs.length<=9223372036854775807)
 (h:bg P C B r all l (Z ((k,some (.own false nx.succ 0 (os.length+zs.length))) :: tm) ((i,none) :: (nx,none) :: (nx.succ,some (.ar s (os ++ zs))) :: st) nx.succ.succ N) K):bg P C B r all (o :: l) (Z tm st nx N) K:=by
 by_cases hne:zs=[]
 · subst hne
   refine sQ (e:=[]) hT hw (by rw[ho];exact Z5 hc ht ha hy hy2 hni hk hye (by rw[hx];rfl) hz) ?_
   simp only[eU,hd,hkn,gI,hx]
   subst hn
   refine Oo ((Pg (nx:=nx+1) hσ rfl).trans ?_) h
   simp only[List.append_nil,List.length_nil,Nat.add_zero]
   refine Sc λj d hj => ?_
   rcases Ay hj with⟨_,h1⟩|⟨h1,hj⟩
   · simp at h1
   · rw[yH h1]
     rcases Ay hj with⟨_,h2⟩|⟨h2,hj⟩
     · simp at h2
     · exact hj
 · refine sQ hT hw (by rw[ho];exact aaK hc ht ha hy hy2 hni hk hye hz0 hx hσ hn hz hne hb hb2) ?_
   simp only[eU,hd,hkn,gI]
   refine Oo ((Pg (nx:=nx+1) (i:=nx) (c := .ar s (os ++ zs)) ?_ rfl).trans ?_) h
   · have q:i≠nx:=by have:=Nat.le_of_ble_eq_true hlt;omega
     rw[yH q,Rl]
   · refine Sc λj d hj => ?_
     rcases Ay hj with⟨_,h1⟩|⟨h1,hj⟩
     · simp at h1
     · rcases Ay hj with⟨_,h2⟩|⟨h2,hj⟩
       · simp at h2
       · rw[yH h2]
         rcases Ay hj with⟨h3,h4⟩|⟨h3,hj⟩
         · subst h3;rw[Rl];exact h4
         · rw[yH h3,yH h1,yH h2];exact hj
theorem zan (hT:cZ P C.T) (hw:eD all tm o=some true) (hd:o.dst=some k) (hkn:Nat.blt k N=true) (ho:o.op = .call c) (hc:c.callee = .builtin .append) (ht:c.argTypes.toList=[t,t2]) (ha:c.args.toList=[x,z]) (hy:C.T t=some y) (hy2:C.T t2=some y2) (hni:nM y2=true) (hk:y.k = .sl el s) (hye:C.T el=some ye) (hz0:(gX ye.zero && Nat.beq (sz ye.zero) s)=true)
 (hx:gy C.gl tm x = .lf (.slice none 0 0)) (hz:jQ (lk st) s (gy C.gl tm z)=some zs) (hne:zs≠[]) (hb:zs.length * ye.bytes<=140737488355328) (hb2:zs.length<=9223372036854775807)
 (h:bg P C B r all l (Z ((k,some (.own false nx 0 zs.length)) :: tm) ((nx,some (.ar s zs)) :: st) nx.succ N) K):bg P C B r all (o :: l) (Z tm st nx N) K:=by
 refine sQ hT hw (by rw[ho];exact abF hc ht ha hy hy2 hni hk hye hz0 hx hz hne hb hb2) ?_
 simpa only[eU,hd,hkn,gI]using h
end
end
end Go.Proofs.YtadecgbblajifaaGreatDoor.DV
namespace Go.Proofs.YtadecgbblajifaaGreatDoor
end Go.Proofs.YtadecgbblajifaaGreatDoor
namespace Go.Proofs.YtadecgbblajifaaGreatDoor.DV
open Go
noncomputable section
variable {P:Program} {C:Cx} {B:Base} {r:Option Nat}
def Fq (P:Program) (gl:Nat->D) (f s:Nat) (rest:List D) (l l':List D):Prop:=kT P gl f (.own false 0 0 l.length :: rest) (lk [(0,some (.ar s l))]) 1 (.own false 1 0 l'.length) [(0,none),(1,some (.ar s l'))]
def K4 (P:Program) (gl:Nat->D) (f s:Nat) (rest l':List D):Prop:=kT P gl f (.lf (.slice none 0 0) :: rest) (lk []) 0 (.own false 0 0 l'.length) [(0,some (.ar s l'))]
theorem eP.fz {ρ:List (Nat × Nat)} {ds:List D} (h:∀ d∈ds,ak d):eP ρ ds ds:=by
 induction ds with
 |nil=>trivial
 |cons d l ih=>exact⟨.fz (h d (List.mem_cons_self ..)),ih λe he=>h e (List.mem_cons_of_mem _ he)⟩
theorem aQ {gl:Nat->D} {f s j n id:Nat} {rest l l':List D} {st:List (Nat × Option D)} (h:Fq P gl f s rest l l') (hg:∀ i,ak (gl i)) (hr:∀ d∈rest,ak d) (hl:∀ d∈l,ak d) (hl':∀ d∈l',ak d) (hst:lk st j=some (.ar s l)) (hn:n=l.length) (hj:Nat.blt j id=true) :
 kT P gl f (.own false j 0 n :: rest) (bV [j] (lk st)) id (.own false id 0 l'.length) [(j,none),(id,some (.ar s l'))]:=by
 subst hn
 have hji:j≠id:=by have:=Nat.le_of_ble_eq_true hj;omega
 have e0:LM [(0,j)] 1 id [(0,some (.ar s l))] [(j,none),(id,some (.ar s l'))]=true:=by
  have:Nat.beq j id=false:=by
   cases hb:Nat.beq j id with
   |false=>rfl
   |true=>exact absurd (Nat.eq_of_beq_eq_true hb) hji
  simp[LM,fA,lk,keys,mem1,this]
  rfl
 refine Qg h hg [(0,j)] e0 ⟨Rn.own (.head _),eP.fz hr⟩ ⟨⟨j,_,.head _,hst,Rn.ar (eP.fz hl),rfl,rfl,λ_ h=>h⟩,trivial⟩ (Rn.own (.head _)) ⟨⟨1,_,.head _,rfl,Rn.ar (eP.fz hl'),rfl,rfl,λ_ h=>h⟩,trivial⟩
theorem vJ {gl:Nat->D} {f s id:Nat} {rest l':List D} {st:List (Nat × Option D)} (h:K4 P gl f s rest l') (hg:∀ i,ak (gl i)) (hr:∀ d∈rest,ak d) (hl':∀ d∈l',ak d) :
 kT P gl f (.lf (.slice none 0 0) :: rest) (bV [] (lk st)) id (.own false id 0 l'.length) [(id,some (.ar s l'))] :=
 Qg (st:=st) h hg [] rfl ⟨Rn.lf _,eP.fz hr⟩ trivial (Rn.own (.head _)) ⟨⟨0,_,.head _,rfl,Rn.ar (eP.fz hl'),rfl,rfl,λ_ h=>h⟩,trivial⟩
theorem Qn {fn : Func} {c : Code} {f s : Nat} {rest l l' : List D} (hT : cZ P C.T) (hf : P.funcs[f]? = some fn) (hn : (fn.name == "runtime.NumGoroutine") = false) (hb : fn.body = some c) (hl : Nat.ble (rest.length + 1) fn.ntmps = true) (hg : ∀ i, ak (C.gl i)) (hr : ∀ d ∈ rest, ak d) (hz : ∀ d ∈ l, ak d)
 (h:∀ B:G × World,Run P C ⟨B.1,B.2,lk [(0,some (.ar s l))],[]⟩ none c (Z (nU 0 (.own false 0 0 l.length :: rest)) [(0,some (.ar s l))] 1 fn.ntmps) (wH C fn [] 1 [(0,some (.ar s l))] (.own false 1 0 l'.length) [(0,none),(1,some (.ar s l'))])):Fq P C.gl f s rest l l' :=
 Qi [] hT hf hn hb hl rfl hg ⟨Rn.own (.head _),eP.fz hr⟩ ⟨⟨0,_,.head _,rfl,Rn.ar (eP.fz hz),rfl,rfl,λ_ h=>h⟩,trivial⟩ h
theorem aaL {fn : Func} {c : Code} {f s : Nat} {rest l' : List D} (hT : cZ P C.T) (hf : P.funcs[f]? = some fn) (hn : (fn.name == "runtime.NumGoroutine") = false) (hb : fn.body = some c) (hl : Nat.ble (rest.length + 1) fn.ntmps = true) (hg : ∀ i, ak (C.gl i)) (hr : ∀ d ∈ rest, ak d)
 (h:∀ B:G × World,Run P C ⟨B.1,B.2,lk [],[]⟩ none c (Z (nU 0 (.lf (.slice none 0 0) :: rest)) [] 0 fn.ntmps) (wH C fn [] 0 [] (.own false 0 0 l'.length) [(0,some (.ar s l'))])):K4 P C.gl f s rest l' :=
 Qi [] hT hf hn hb hl rfl hg ⟨Rn.lf _,eP.fz hr⟩ trivial h
theorem Sd {fn:Func} {tm st:List (Nat × Option D)} {nx n s j m:Nat} {l l':List D} (h:kW C.T st tm fn.results.toList=some [.own false j 0 m]) (hst:lk st j=some (.ar s l')) (hm:m=l'.length) (hz:∀ d∈l',ak d) {ex:Ex} (hex:ex = .normal\/ex = .ret):wH C fn [] 1 [(0,some (.ar s l))] (.own false 1 0 l'.length) [(0,none),(1,some (.ar s l'))] ex (Z tm st nx n):=by
 subst hm
 exact⟨hex,rfl,tm,st,_,[(1,j)],rfl,rfl,h,by simp[okF,BI,fA,lk,keys,mem1,List.all_cons],Rn.own (.head _),⟨⟨j,_,.head _,hst,Rn.ar (eP.fz hz),rfl,rfl,λ_ h=>h⟩,trivial⟩⟩
theorem acm {fn:Func} {tm st:List (Nat × Option D)} {nx n s j m:Nat} {l':List D} (h:kW C.T st tm fn.results.toList=some [.own false j 0 m]) (hst:lk st j=some (.ar s l')) (hm:m=l'.length) (hz:∀ d∈l',ak d) {ex:Ex} (hex:ex = .normal\/ex = .ret):wH C fn [] 0 [] (.own false 0 0 l'.length) [(0,some (.ar s l'))] ex (Z tm st nx n):=by
 subst hm
 exact⟨hex,rfl,tm,st,_,[(0,j)],rfl,rfl,h,by simp[okF,BI,fA,lk,keys,mem1,List.all_cons],Rn.own (.head _),⟨⟨j,_,.head _,hst,Rn.ar (eP.fz hz),rfl,rfl,λ_ h=>h⟩,trivial⟩⟩
end
end Go.Proofs.YtadecgbblajifaaGreatDoor.DV
namespace Go.Proofs.YtadecgbblajifaaGreatDoor
end Go.Proofs.YtadecgbblajifaaGreatDoor
