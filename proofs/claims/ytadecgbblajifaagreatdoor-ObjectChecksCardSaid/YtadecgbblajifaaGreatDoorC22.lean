import Derived.Test.YtadecgbblajifaaGreatDoorC21
import Derived.Deep.AppendSrc
import Derived.Deep.MidRow
import Derived.Deep.Upon
import Derived.LaidMore
import Derived.JoinedTies
import Derived.ChangeSame
import Derived.Stop.Joined
import Derived.OpenShut
import Derived.Deep.Slices
set_option linter.unusedSimpArgs false
set_option linter.unusedVariables false
set_option maxRecDepth 100000
set_option maxHeartbeats 25600000
namespace Go.Proofs.YtadecgbblajifaaGreatDoor
end Go.Proofs.YtadecgbblajifaaGreatDoor
namespace Go.Proofs.YtadecgbblajifaaGreatDoor.DV
open Go
noncomputable section
abbrev u (n:Nat):D := .lf (.int .u8 (.ofNat n))
abbrev i (n:Nat):D := .lf (.int .i64 (.ofNat n))
abbrev t (l:List UInt8):D := .lf (.string ⟨⟨l⟩⟩)
def qz:D:=(.st [1,1,4] [ns,(.sl false 6 [(.st [1,1,4] [(t [102]),(.sl true 3 [(.st [1,1,1] [(t [120]),(u 1),ni])]),(.st [1,1,1,1] [(u 57),ni,nt,(.sl false 4 [(.st [1,1,1,1] [(u 40),ni,nt,(.sl true 4 [(.st [1,1,1,1] [(u 2),ni,(t [120]),ns]),(.st [1,1,1,1] [(u 1),(i 1),nt,ns])])])])])])]),(.st [1,1,1,1] [(u 57),ni,nt,ns])])
def qA:D:=(.st [1,1,3,2] [(t [102]),(.sl false 3 [(.st [1,1,1] [(t [120]),(u 1),ni])]),(.st [1,1,1] [(.sl false 4 [(.st [1,1,1,1] [(t [120]),(u 1),ni,ni])]),(i 1),ni]),(.st [1,1] [(.sl false 5 [(.st [1,1,1,1,1] [(u 6),(i 1),(i 1),ni,ni]),(.st [1,1,1,1,1] [(u 12),(i 1),ni,ni,ni]),(.st [1,1,1,1,1] [(u 13),(i 4),ni,ni,ni]),(.st [1,1,1,1,1] [(u 10),(i 5),ni,ni,ni]),(.st [1,1,1,1,1] [(u 1),(i 5),(i 4),ni,ni]),(.st [1,1,1,1,1] [(u 10),(i 5),ni,ni,ni]),(.st [1,1,1,1,1] [(u 12),(i 4),ni,ni,ni]),(.st [1,1,1,1,1] [(u 13),(i 1),ni,ni,ni]),(.st [1,1,1,1,1] [(u 6),(i 1),(i 1),ni,ni])]),ns])])
def wI:D:=(.sl false 1 [(u 1),(u 102),(u 1),(u 1),(u 120),(u 1),nu,nu,nu,nu,(u 1),nu,nu,nu,nu,nu,(u 1),(u 1),(u 120),(u 1),nu,nu,nu,nu,nu,nu,nu,nu,(u 63),nu,nu,nu,(u 9),(u 6),(u 1),nu,nu,nu,nu,nu,nu,nu,(u 1),(u 12),(u 1),nu,nu,nu,nu,(u 13),(u 4),nu,nu,nu,nu,(u 10),(u 5),nu,nu,nu,nu,(u 1),(u 5),(u 4),(u 10),(u 5),nu,nu,nu,nu,(u 12),(u 4),nu,nu,nu,nu,(u 13),(u 1),nu,nu,nu,nu,(u 6),(u 1),nu,nu,nu,nu,nu,nu,nu,(u 1),nu,nu,nu,nu])
def Hm:List D:=[t [112,114,111,99,32,102,40,105,110,116,32,120,41,32,123,10,120,32,43,61,32,49,59,10,125,10,109,97,105,110,32,123,10,125,10]]
set_option maxRecDepth 100000 in
theorem Nf:mF (iF []) 28 Hm=some (.tu [qz,ni,ni]):=by kernel_rfl
set_option maxRecDepth 100000 in
theorem Mr:mF (iF []) 13 [qz,ni]=some (.tu [qA,ni]):=by kernel_rfl
set_option maxRecDepth 100000 in
theorem Ms:mF (iF []) 14 [qz]=some (.tu [(.st [1,1,3,2] [nt,ns,(.st [1,1,1] [ns,ni,ni]),(.st [1,1] [ns,ns])]),ni]):=by kernel_rfl
set_option maxRecDepth 100000 in
theorem Ng:mF (iF []) 21 [qA]=some (.tu [wI,ni]):=by kernel_rfl
set_option maxRecDepth 100000 in
theorem Nh:mF (iF []) 24 [wI]=some (.tu [qA,ni]):=by kernel_rfl
def wJ:List (Nat × List D × D):=[(28,Hm,.tu [qz,ni,ni]),(13,[qz,ni],.tu [qA,ni]),(14,[qz],.tu [(.st [1,1,3,2] [nt,ns,(.st [1,1,1] [ns,ni,ni]),(.st [1,1] [ns,ns])]),ni]),(21,[qA],.tu [wI,ni]),(24,[wI],.tu [qA,ni])]
theorem qR:∀ f args d,iF [] f args=some d->Pure Tryz.prog bB f args d:=yJ [] (λ_ h=>by cases h)
theorem Ni:∀ f args d,iF wJ f args=some d->Pure Tryz.prog bB f args d:=yJ wJ (by
 intro x hx
 simp only[wJ,List.mem_cons,List.not_mem_nil,or_false]at hx
 rcases hx with rfl|rfl|rfl|rfl|rfl
 · exact pg (k:=100) Nf (by kernel_rfl) qR
 · exact pg (k:=100) Mr (by kernel_rfl) qR
 · exact pg (k:=100) Ms (by kernel_rfl) qR
 · exact pg (k:=100) Ng (by kernel_rfl) qR
 · exact pg (k:=100) Nh (by kernel_rfl) qR
 )
set_option maxRecDepth 100000 in
theorem Nj:mF (iF wJ) 11 []=some (.lf (.bool true)):=by kernel_rfl
end
end Go.Proofs.YtadecgbblajifaaGreatDoor.DV
namespace Go.Proofs.YtadecgbblajifaaGreatDoor
end Go.Proofs.YtadecgbblajifaaGreatDoor
namespace Go.Proofs.YtadecgbblajifaaGreatDoor.DV
open Go Go.RowKit
structure ow (o:aM):Prop where
 ok:Ez o
 np:o.params.length<=9223372036854775807
 nc:o.code.length<=9223372036854775807
 nr:o.refs.length<=9223372036854775807
theorem ow.PD {o:aM} (h:ow o):EF o:=⟨h.ok.name,λv hv=>(h.ok.params v hv).1,h.ok.few,h.np,h.nc,h.nr,λx hx=>(h.ok.code x hx).1⟩
theorem ow.of {w:World} {x:gu} (h:jq w x):ow x.d:=by
 obtain⟨_,_,_,_,h1⟩:=h.params.form
 obtain⟨_,_,_,_,h2⟩:=h.code.form
 obtain⟨_,_,_,_,h3⟩:=h.refs.form
 exact⟨h.ok,h1,h2,h3⟩
theorem zR {g:G} {s:Nat} {ss:List Nat} {d:D} {ds:List D} {cs:List Value} (h:ah g (s :: ss) (d :: ds) cs):s<=cs.length/\CR g false d (cs.take s)/\ah g ss ds (cs.drop s):=by
 simpa only[ah]using h
theorem nL {g:G} {ss:List Nat} {d:D} {ds:List D} {cs:List Value} (h:ah g (1 :: ss) (d :: ds) cs):∃ c cs',cs=c :: cs'/\CR g false d [c]/\ah g ss ds cs':=by
 obtain⟨h0,h1,h2⟩:=zR h
 match cs,h0 with
 |c :: cs,_=>exact⟨c,cs,rfl,h1,h2⟩
theorem Nk {g:G} {w:World} {o:aM} {v:Value} (hfm:∀ b c,g.fm b=some c->mem w b=some c) (ok:ow o) (h:VR g (eP o) v):∃ x:gu,x.d=o/\v=x.val/\jq w x:=by
 obtain⟨cs,rfl,hc⟩:=zu h
 obtain⟨c0,cs,rfl,h0,hd⟩:=nL hc
 obtain⟨c1,cs,rfl,h1,he⟩:=nL hd
 obtain⟨l2,h2,hp⟩:=zR he
 obtain⟨l3,h3,hz⟩:=zR hp
 simp only[ah]at hz
 simp only[CR,wrap,Bool.false_eq_true,if_false]at h2 h3
 obtain⟨f,hf,h2⟩:=h2
 obtain⟨q,hq,h3⟩:=h3
 obtain⟨f0,f',rfl,a0,h2⟩:=nL h2
 obtain⟨f1,f',rfl,a1,h2⟩:=nL h2
 obtain⟨f2,f',rfl,a2,h2⟩:=nL h2
 simp only[ah]at h2
 subst h2
 obtain⟨q0,q',rfl,b0,h3⟩:=nL h3
 obtain⟨q1,q',rfl,b1,h3⟩:=nL h3
 simp only[ah]at h3
 subst h3
 have e0:=ll _ _ _ (rfl:cellsD (sD o.name)=some [.string o.name]) h0
 have e1:=ll _ _ _ (rfl:cellsD (iD o.cells)=some [.int .i64 o.cells]) a1
 have e2:=ll _ _ _ (rfl:cellsD (iD o.stacks)=some [.int .i64 o.stacks]) a2
 simp only[List.cons.injEq,and_true]at e0 e1 e2
 subst e0 e1 e2
 have hcs:cs=[f0,.int .i64 o.cells,.int .i64 o.stacks,q0,q1]:=by
  have:=List.take_append_drop 3 cs
  rw[hf]at this
  have h5:=List.take_append_drop 2 (cs.drop 3)
  rw[hq,hz]at h5
  rw[← h5]at this
  simpa using this.symm
 subst hcs
 have few:=ok.ok.few
 exact⟨⟨o,c1,f0,q0,q1⟩,rfl,rfl,ok.ok,row_of (enc:=fO) hfm (λx=>rfl) ok.np (by simpa only[VR,CR]using h1),row_of (enc:=iN) hfm (λx=>rfl) (by simp only;omega) (by simpa only[VR,CR]using a0),row_of (enc:=pW) hfm (λx=>rfl) ok.nc (by simpa only[VR,CR]using b0),row_of (enc:=l7) hfm (λx=>rfl) ok.nr (by simpa only[VR,CR]using b1)⟩
theorem Mt (o:aM) (ok:ow o):Pure Tryz.prog bB 19 [eP o] (iD o.jH):=tT _ (by kernel_rfl) λg w vs hfm hgl h=>by
 simp only[au]at h
 obtain⟨v,vs',rfl,h1,rfl⟩:=h
 obtain⟨x,rfl,rfl,hx⟩:=Nk hfm ok h1
 exact(Jo x w (Ec hfm hgl) hx).mono λe w' h=>⟨h.1,uA h.2⟩
theorem Mw:Pure Tryz.prog bB 11 [] (bD true):=pg (k:=1) Nj rfl Ni
theorem KR (o:aM) (ok:ow o):Pure Tryz.prog bB 4 [eP o] (bD true):=by
 obtain⟨GO,PE⟩:∃ b:Bool,b=nA o:=⟨_,rfl⟩
 have HG:=Mk o ok.np (by have:=ok.ok.few;omega) ok.nr
 rw[← PE]at HG
 obtain⟨CH,hCH⟩:∃ b:Int,b=o.jH:=⟨_,rfl⟩
 have HC:=Mt o ok
 have HF:=Mm o ok.PD
 rw[J2]at HF
 rw[← hCH]at HC HF
 refine x9 (C:=Cs) hT Tryz.func4 rfl rfl rfl (by simp[aQ]) hG λB => ?_
 unfold Tryz.f4
 repeat' (first|apply bM|apply bN|apply bO|apply bP|apply bQ|apply bR rfl|apply bS rfl|apply bU|apply bT|apply run_seq|apply bF|apply gF|apply bH|apply bJ|apply bG|apply z0 hT rfl rfl rfl rfl|apply zk rfl rfl rfl|apply z1 hT rfl rfl rfl rfl|apply zs hT rfl rfl rfl|apply za hT rfl rfl rfl rfl|apply bI|((fail_if_success apply zw rfl);apply zg rfl <;> (intro hb;rw[hb]))|apply bV rfl|apply bW rfl|(apply bX rfl <;> (intro hb;try rw[hb]))|apply bK mixed hC|apply bL|apply d0 rfl rfl rfl rfl rfl (by kernel_rfl)|apply dk rfl rfl rfl rfl (by kernel_rfl)|apply d1 rfl rfl rfl rfl (by kernel_rfl) rfl (by kernel_rfl)|apply ds rfl rfl rfl (by kernel_rfl) rfl (by kernel_rfl)|((fail_if_success apply dw rfl);apply dg rfl <;> (intro hb;rw[hb]))|apply zc rfl rfl rfl rfl rfl rfl rfl Mw|apply dc rfl rfl rfl rfl rfl rfl rfl HG rfl (by kernel_rfl)|apply dc rfl rfl rfl rfl rfl rfl rfl HC rfl (by kernel_rfl)|apply dc rfl rfl rfl rfl rfl rfl rfl HF rfl (by kernel_rfl))
 all_goals exact gP rfl (FR.eq (by simp_all))
theorem NU {w:World} (h1:Cells w 1 wu) (h2:Cells w 0 qo) (i:Nat):VR (gH w) (bB i) (.pointer (some ⟨i,0,none⟩)):=by
 unfold bB
 split
 · exact Ct h1 rfl (by kernel_rfl)
 · exact Ct h2 rfl (by kernel_rfl)
 · simp[VR,CR]
theorem kL {g:G} {ss:List Nat} {d:D} {ds:List D} {cs cs':List Value} (h:CR g false d cs) (h':ah g ss ds cs'):ah g (cs.length :: ss) (d :: ds) (cs ++ cs'):=by
 simp only[ah]
 exact⟨by simp,by simpa using h,by simpa using h'⟩
theorem Nl {w:World} {x:gu} (h:jq w x):VR (gH w) (eP x.d) x.val:=by
 obtain⟨o,pv,sv,cv,rv⟩:=x
 have r1:=uL (n:=3) (f:=aH.cells) (enc:=fO) (λv=>by simp[fO,CR,ah,wrap,aH.cells,Value.oneCell']) (λ_=>rfl) (by decide) h.params
 have r2:=uL (n:=4) (f:=ay.cells) (enc:=iN) (λv=>by simp[iN,CR,ah,wrap,ay.cells,Value.oneCell']) (λ_=>rfl) (by decide) h.slots
 have r3:=uL (n:=5) (f:=Ins.cells) (enc:=pW) (λv=>by simp[pW,CR,ah,wrap,Ins.cells,Value.oneCell']) (λ_=>rfl) (by decide) h.code
 have r4:=uL (n:=2) (f:=bC.cells) (enc:=l7) (λv=>by simp[l7,CR,ah,wrap,bC.cells,Value.oneCell']) (λ_=>rfl) (by decide) h.refs
 have q1:CR (gH w) false (kR o.params) [pv]:=by simpa only[VR,CR]using r1
 have q2:CR (gH w) false (pz o.slots) [sv]:=by simpa only[VR,CR]using r2
 have q3:CR (gH w) false (zo o.code) [cv]:=by simpa only[VR,CR]using r3
 have q4:CR (gH w) false (uW o.refs) [rv]:=by simpa only[VR,CR]using r4
 have lf:∀ v:Value,v.oneCell'=true->CR (gH w) false (.lf v) [v]:=λv h=>by simp only[CR];exact⟨trivial,λ_=>h⟩
 have c2:CR (gH w) false (jm o.slots o.cells o.stacks) [sv,.int .i64 o.cells,.int .i64 o.stacks]:=by
  simp only[CR,wrap]
  exact⟨_,rfl,kL q2 (kL (lf _ rfl) (kL (lf _ rfl) (by simp only[ah])))⟩
 have c3:CR (gH w) false (pE o.code o.refs) [cv,rv]:=by
  simp only[CR,wrap]
  exact⟨_,rfl,kL q3 (kL q4 (by simp only[ah]))⟩
 simp only[VR,CR]
 exact⟨[.string o.name,pv,sv,.int .i64 o.cells,.int .i64 o.stacks,cv,rv],rfl,kL (lf _ rfl) (kL q1 (kL (cs:=[sv,.int .i64 o.cells,.int .i64 o.stacks]) c2 (kL (cs:=[cv,rv]) c3 (by simp only[ah]))))⟩
theorem IG (x:gu) (w:World) (hx:jq w x) (h1:Cells w 1 wu) (h2:Cells w 0 qo):Calls Tryz.prog 4 #[x.val] w λe w'=>e = .returned (.bool true)/\(∀ b,b<w.heap.size->w'.heap[b]? = w.heap[b]?)/\w.heap.size<=w'.heap.size/\Sm w w':=by
 refine((KR x.d (.of hx)).calls (by kernel_rfl) (w:=w) (vs:=[x.val]) (NU h1 h2) ?_).mono ?_
 · simp only[au]
   exact⟨_,_,rfl,Nl hx,rfl⟩
 · rintro e w' ⟨v,g,rfl,hv,_,h⟩
   exact⟨by rw[aP hv],h⟩
end Go.Proofs.YtadecgbblajifaaGreatDoor.DV
namespace Go.Proofs.YtadecgbblajifaaGreatDoor
section
open Go.RowKit Go.Instr
def flat {α:Type} (f:α->List Value) (l:List α):List Value:=(l.map f).flatten
theorem I1 {α:Type} (f:α->List Value) (a b:List α):flat f (a ++ b)=flat f a ++ flat f b:=by simp[flat]
theorem xN {α:Type} (f:α->List Value) (n:Nat) (h:∀ x,(f x).length=n):∀ l:List α,(flat f l).length=l.length * n
 | []=>by simp[flat]
 |x :: l=>by
  have:=xN f n h l
  simp only[flat,List.map_cons,List.flatten_cons,List.length_append,h,List.length_cons]at this ⊢
  rw[this,Nat.add_mul];omega
theorem yf {α:Type} (f:α->List Value) (n:Nat) (h:∀ x,(f x).length=n):∀ (l:List α) (i j:Nat) (hi:i<l.length),j<n->(flat f l)[i * n+j]? = (f l[i])[j]?
 | [],i,j,hi,_=>by simp at hi
 |x :: l,0,j,_,hj=>by
  simp only[flat,List.map_cons,List.flatten_cons,Nat.zero_mul,Nat.zero_add,List.getElem_cons_zero]
  rw[List.getElem?_append_left (by rw[h];exact hj)]
 |x :: l,i+1,j,hi,hj=>by
  have:=yf f n h l i j (by simpa using hi) hj
  simp only[flat,List.map_cons,List.flatten_cons,List.getElem_cons_succ]at this ⊢
  rw[List.getElem?_append_right (by rw[h,Nat.add_mul];omega),h,show(i+1) * n+j - n=i * n+j by rw[Nat.add_mul];omega]
  exact this
theorem KS {α:Type} {f:α->List Value} {n e base:Nat} {w w':World} {v:Value} {l:List α} {O:Nat->Prop} (h:w.ownsRow base e n v l.length (flat f l)) (hm:Mv O w w') (hO:∀ g,v.ownBlock=some g->¬ O g):w'.ownsRow base e n v l.length (flat f l):=by
 refine⟨h.1,?_⟩
 rcases h.2 with h1|⟨g,cap,cur,rfl,hb,hg,rest⟩
 · exact .inl h1
 · exact .inr ⟨g,cap,cur,rfl,hb,by rw[hm.block g (lt_of_block hg) (hO g rfl)];exact hg,rest⟩
theorem J3 {α:Type} {f:α->List Value} {n e base:Nat} {w:World} {v:Value} {l:List α} (h:w.ownsRow base e n v l.length (flat f l)):∃ a c,v = .slice a l.length c:=by
 rcases h.2 with⟨rfl,hl⟩|⟨g,cap,cur,rfl,_⟩
 · exact⟨none,0,by rw[hl]⟩
 · exact⟨_,_,rfl⟩
theorem block_setCell {w:World} {p:Addr} {c:Array Value} {t:TypeId} {z:Nat × Nat} (h:w.heap[p.block]? = some (.cells c t z)) (hp:p.spot=none) (u:Value) :
 (w.setCell p u).heap[p.block]? = some (.cells (c.setIfInBounds p.off u) t z):=by
 have hlt:=lt_of_block h
 have h':w.heap[p.block] = .cells c t z:=by simpa[Array.getElem?_eq_getElem hlt]using h
 show(w.heap.modify p.block _)[p.block]? = _
 rw[Array.getElem?_eq_getElem (by simpa using hlt),Array.getElem_modify_self,h']
 simp[hp]
theorem flat_get {α:Type} (f:α->List Value) (n:Nat) (hn:0<n) (h:∀ x,(f x).length=n) (l:List α) (j:Nat) (u:Value) (hu:(flat f l)[j]? = some u):∃ i r,j=i * n+r/\∃ hi:i<l.length,(f l[i])[r]? = some u:=by
 have hj:j<l.length * n:=by have:=(List.getElem?_eq_some_iff.1 hu).1;rw[xN f n h]at this;exact this
 have hi:j / n<l.length:=(Nat.div_lt_iff_lt_mul hn).2 hj
 have hr:j % n<n:=Nat.mod_lt _ hn
 have he:j / n * n+j % n=j:=by rw[Nat.mul_comm];exact Nat.div_add_mod j n
 have h1:=yf f n h l (j / n) (j % n) hi hr
 rw[he,hu]at h1
 exact⟨j / n,j % n,he.symm,hi,h1.symm⟩
theorem aA.ji {α:Type} {n:Nat} {f:α->List Value} {w:World} {b:Nat} {cs:Array Value} {t:TypeId} {fr:Nat × Nat} {l:List α} (hf:∀ x,(f x).length=n) (h:w.heap[b]? = some (.cells cs t fr)) (hl:cs.toList=flat f l) (hn:l.length<=9223372036854775807):aA n f w (.slice (some ⟨b,0,none⟩) l.length l.length) l:=by
 refine⟨_,_,rfl,Nat.le_refl _,hn,λi x hx=>⟨b,0,rfl,λj u hu => ?_⟩⟩
 have hi:=(List.getElem?_eq_some_iff.1 hx).1
 have hj:j<n:=by rw[← hf x];exact(List.getElem?_eq_some_iff.1 hu).1
 have hx':l[i]=x:=by rw[List.getElem?_eq_getElem hi]at hx;simpa using hx
 have h1:=yf f n hf l i j hi hj
 rw[hx',hu,← hl]at h1
 simp only[World.cell?,h,Option.isSome_none,Bool.false_eq_true,if_false,Nat.zero_add]
 simpa using h1
theorem aA.stay {α:Type} {n:Nat} {f:α->List Value} {w w':World} {v:Value} {l:List α} {O:Nat->Prop} (h:aA n f w v l) (hm:Mv O w w') (hO:∀ g,v.ownBlock=some g->¬ O g):aA n f w' v l:=by
 obtain⟨a,cap,rfl,h2,h3,h4⟩:=h
 refine⟨a,cap,rfl,h2,h3,λi x hx => ?_⟩
 obtain⟨b,off,rfl,hc⟩:=h4 i x hx
 refine⟨b,off,rfl,λj u hu => ?_⟩
 have h5:=hc j u hu
 rw[← h5]
 exact World.cell?_of_block (w:=w) (w':=w') (hm.block _ (World.block_lt_of_cell? w _ h5) (hO b (by simp[Value.ownBlock])))
theorem lh {w:World} {b:Nat} {x:Obj} (h:w.heap[b]? = some x) (o:Obj):(w.alloc o).heap[b]? = some x:=by
 have hb:b<w.heap.size:=(Array.getElem?_eq_some_iff.1 h).1
 rw[Below.heap_alloc _ _ _ hb];exact h
theorem run_append_nothing {P:Program} (w:World) (t ty e:TypeId) (i:TypeInfo) (ht:P.underlying t=some (.slice e)) (hi:P.info? e=some i) (a:Option Addr) (n cap c:Nat) (hn:n<=cap) :
 (Builtin.append_ #[t,t] ty #[.slice a n cap,.slice none 0 c]).run P w = .ok (.slice a n cap) w:=by
 have hf:=run_firstCells_none (P:=P) w i.size 0 0 c
 cases a with
 |none=>simp[Builtin.append_,run_underlying ht,sizeOf,typeInfo,hi,Builtin.lenOf,hn,hf]
 |some a=>simp[Builtin.append_,run_underlying ht,sizeOf,typeInfo,hi,Builtin.lenOf,hn,hf,storeCells]
structure Elem (P:Program) (t e:TypeId) (n bytes:Nat):Prop where
 ht:P.underlying t=some (.slice e)
 hi:∃ i z,P.info? e=some i/\i.zero=some z/\i.size=n/\i.bytes=bytes/\z.cells.size=n
 hn:0<n
 hb:bytes<=1000
theorem Elem.of {P:Program} {t e:TypeId} {n bytes:Nat} {z:Value} (ht:P.underlying t=some (.slice e)) (h:(P.info? e).map (λi=>(i.zero,i.size,i.bytes))=some (some z,n,bytes)) (hz:z.cells.size=n) (hn:0<n) (hb:bytes<=1000):Elem P t e n bytes:=by
 obtain⟨i0,hi,hz0,hz1,hz2⟩:=info_parts h
 exact⟨ht,⟨i0,z,hi,hz0,hz1,hz2,hz⟩,hn,hb⟩
section
variable {P:Program} {t e:TypeId} {n bytes:Nat} {α:Type} {f:α->List Value}
theorem Mx (E:Elem P t e n bytes) (hf:∀ x,(f x).length=n) (v s:Value) (xs l:List α) (base:Nat) (w:World) (hrow:w.ownsRow base e n v xs.length (flat f xs)) (hs:aA n f w s l) (h1:∀ x∈l,∀ u∈f x,u.oneCell'=true) (hb:base<=w.heap.size) (hlen:xs.length+l.length<=1000000) :
 ∃ a' c' w2,(rF P t t v s w/\nU P t t v s w = .slice a' (xs.length+l.length) c'/\appW P t t v s w=w2) /\
  w2.ownsRow base e n (.slice a' (xs.length+l.length) c') (xs ++ l).length (flat f (xs ++ l))/\Mv (λb=>v.ownBlock=some b) w w2/\(∀ g,(Value.slice a' (xs.length+l.length) c').ownBlock=some g->v.ownBlock=some g\/w.heap.size<=g):=by
 obtain⟨i,z,hi,hz,hsz,hby,hzc⟩:=E.hi
 obtain⟨sa,sc,rfl,hsc,hsl,hcell⟩:=hs
 cases sa with
 |none =>
  obtain rfl:l=[]:=by
   cases l with
   |nil=>rfl
   |cons x l=>obtain⟨b,off,e,_⟩:=hcell 0 x rfl;cases e
  obtain⟨va,vc,hv⟩:=J3 hrow
  have hcap:xs.length<=vc:=by
   rcases hrow.2 with⟨e1,h0⟩|⟨g,cap,cur,e1,hb1,hg,hnc,_⟩
   · rw[hv]at e1;simp at e1;omega
   · rw[hv]at e1;simp at e1;omega
  subst hv
  have hr:=run_append_nothing w t t e i E.ht hi va xs.length vc sc hcap
  obtain⟨hok,hv,hw⟩:=yM hr
  refine⟨va,vc,w,⟨hok,by simpa using hv,hw⟩,by simpa using hrow,Mv.refl _ _,λg hg => .inl (by simpa using hg)⟩
 |some a =>
  have hnews:∀ j u,(flat f l)[j]? = some u->w.cell? (a.add j)=some u:=λj u hu=>by
   obtain⟨i',r,rfl,hi',hu⟩:=flat_get _ n E.hn hf l j u hu
   obtain⟨b,off,e1,hc⟩:=hcell i' _ (List.getElem?_eq_getElem hi')
   simp only[Option.some.injEq]at e1
   subst e1
   have:=hc r u hu
   have e2:(⟨b,off,none⟩:Addr).add (i' * n+r)=⟨b,off+i' * n+r,none⟩:=by unfold Addr.add;split <;> simp_all [Nat.add_assoc]
   rw[e2];exact this
  have Oz:(xs.length+l.length) * bytes<=140737488355328:=by
   have:=Nat.mul_le_mul hlen E.hb
   omega
  obtain⟨v',w2,hr,hown1,hgrow,_,hnew⟩:=AX (P:=P) w base t t e i z n bytes E.ht hi hz hsz hby hzc E.hn v _ _ hrow a l.length sc (flat f l) (xN _ n hf l) hnews
   (λu hu=>by
    simp only[flat,List.mem_flatten,List.mem_map]at hu
    obtain⟨_,⟨o,ho,rfl⟩,hu⟩:=hu
    exact h1 o ho u hu)
   (by unfold maxLen;omega) Oz hb
  have hform:∃ a' c',v' = .slice a' (xs.length+l.length) c':=by
   rcases hown1.2 with⟨rfl,h0⟩|⟨g,cap,cur,rfl,_⟩
   · exact⟨none,0,by rw[h0]⟩
   · exact⟨_,_,rfl⟩
  obtain⟨a',c',rfl⟩:=hform
  obtain⟨hok,hv,hw2⟩:=yM hr
  refine⟨a',c',w2,⟨hok,hv,hw2⟩,?_,(Mv.refl _ _).grown hgrow (λk hk => .inl hk),λg hg=>hnew g hg⟩
  rw[I1,List.length_append];exact hown1
end
section
variable {P:Program} {t e:TypeId} {n bytes:Nat} {α:Type} {f:α->List Value}
def AJ (n:Nat) (f:α->List Value) (w:World) (base:Nat) (v:Value) (l:List α):Prop :=
 aA n f w v l/\∃ b off cap,v = .slice (some ⟨b,off,none⟩) l.length cap/\(base<=b/\b<w.heap.size)/\l.length<=cap /\
  (∀ j,j<cap * n->(w.cell? ⟨b,off+j,none⟩).isSome=true)/\∀ j,w.frozen? ⟨b,j,none⟩=false
theorem Ih {w w':World} {b:Nat} (h:w'.heap[b]? = w.heap[b]?) (j:Nat):w'.frozen? ⟨b,j,none⟩=w.frozen? ⟨b,j,none⟩:=by simp[World.frozen?,h]
theorem AJ.keep {w w':World} {base:Nat} {v:Value} {l:List α} {O:Nat->Prop} (h:AJ n f w base v l) (hm:Mv O w w') (hO:∀ g,v.ownBlock=some g->¬ O g):AJ n f w' base v l:=by
 obtain⟨hr,b,off,cap,rfl,⟨hb,hl⟩,hc,hs,hz⟩:=h
 have hbk:=hm.block b hl (hO b rfl)
 refine⟨?_,b,off,cap,rfl,⟨hb,Nat.lt_of_lt_of_le hl hm.size⟩,hc,λj hj => ?_,λj => ?_⟩
 · obtain⟨a,cap',e1,h2,h3,h4⟩:=hr
   refine⟨a,cap',e1,h2,h3,λi x hx => ?_⟩
   obtain⟨b',off',hb',hc'⟩:=h4 i x hx
   refine⟨b',off',hb',λj u hu => ?_⟩
   subst hb'
   simp only[Value.slice.injEq,Option.some.injEq,Addr.mk.injEq,and_true]at e1
   obtain⟨⟨rfl,rfl⟩,-⟩:=e1
   rw[← hc' j u hu]
   exact World.cell?_of_block hbk
 · rw[World.cell?_of_block (w:=w) (w':=w') (a:=⟨b,off+j,none⟩) hbk];exact hs j hj
 · rw[Ih hbk];exact hz j
end
def jo (w:World) (bb:Nat) (ty:TypeId) (B:List Bool):Prop:=w.heap[bb]? = some (.cells (B.map Value.bool).toArray ty (0,0))
theorem jo.keep {w w':World} {bb:Nat} {ty:TypeId} {B:List Bool} (h:jo w bb ty B) (hw:w'.heap[bb]? = w.heap[bb]?):jo w' bb ty B:=by unfold jo;rw[hw];exact h
theorem jo.cell {w:World} {bb:Nat} {ty:TypeId} {B:List Bool} (h:jo w bb ty B) {j:Nat} (hj:j<B.length):w.cell? ⟨bb,j,none⟩=some (.bool B[j]):=by
 unfold jo at h
 simp[World.cell?,h,hj]
theorem jo.set {w:World} {bb:Nat} {ty:TypeId} {B:List Bool} (h:jo w bb ty B) (j:Nat) (v:Bool):jo (w.setCell ⟨bb,j,none⟩ (.bool v)) bb ty (B.set j v):=by
 unfold jo at h ⊢
 have:=block_setCell (p:=⟨bb,j,none⟩) h rfl (.bool v)
 rw[this]
 simp[List.map_set]
theorem dU {w w':World} {b:Nat} {x:Obj} (h:w.heap[b]? = some x) (hm:Grow w w'):w'.heap[b]? = some x:=by rw[hm.block b (lt_of_block h) (λe=>e)];exact h
theorem a2 (w : World) (A B : Obj) : RowKit.Hid (((w.alloc A).alloc B).heap[w.heap.size]? = some A) /\ RowKit.Hid (((w.alloc A).alloc B).heap[w.heap.size + 1]? = some B) /\ RowKit.Hid (Grow w ((w.alloc A).alloc B)) := ⟨ł (lh (heap_alloc_new w _) _), ł (by have := heap_alloc_new (w.alloc A) B; rwa[World.size_alloc]at this), ł (((Mv.refl _ w).alloc _).alloc _)⟩
end
section
open Go.RowKit Go.Instr
attribute [local go_sem ↓] BH
def nX:List ByteArray:=[⟨#[]⟩,⟨#[]⟩,⟨#[]⟩,⟨#[]⟩,⟨#[]⟩,⟨#[]⟩,⟨#[45]⟩,⟨#[33]⟩,⟨#[43]⟩,⟨#[45]⟩,⟨#[42]⟩,⟨#[47]⟩,⟨#[37]⟩,⟨#[38]⟩,⟨#[124]⟩,⟨#[94]⟩,⟨#[61,61]⟩,⟨#[33,61]⟩,⟨#[60]⟩,⟨#[60,61]⟩,⟨#[62]⟩,⟨#[62,61]⟩,⟨#[38,38]⟩,⟨#[124,124]⟩,⟨#[]⟩,⟨#[]⟩,⟨#[]⟩,⟨#[]⟩,⟨#[]⟩,⟨#[]⟩,⟨#[]⟩,⟨#[]⟩,⟨#[]⟩,⟨#[]⟩,⟨#[]⟩,⟨#[]⟩,⟨#[]⟩,⟨#[]⟩,⟨#[]⟩,⟨#[]⟩,⟨#[43,61]⟩,⟨#[45,61]⟩,⟨#[94,61]⟩]
def rG (w:World):Prop:=∀ k,k<43->w.cell? ⟨1,k,none⟩=some (.string (nX.getD k ⟨#[]⟩))
theorem rG.later {w w':World} (h:rG w) (hm:Mv (λ_=>False) w w'):rG w':=λk hk=>by
 have h1:=h k hk
 have h2:=World.block_lt_of_cell? w _ h1
 unfold World.cell? at h1 ⊢
 rw[hm.block _ h2 (λe=>e)];exact h1
set_option maxHeartbeats 800000 in
theorem PZ (op:Nat) (w:World) (ht:rG w) (h:op<43):Calls Tryz.prog 94 #[.int .u8 op] w λe w'=>e = .returned (.string (nX.getD op ⟨#[]⟩))/\w=w':=by
 have c0:=ht op h
 have hbl:=World.block_lt_of_cell? w _ c0
 have ho:(op:Int)<43:=by omega
 generalize nX.getD op ⟨#[]⟩=sv at *
 clear ht
 go_enter Tryz.func94,Tryz.ntmps94
 go_wp2_with fail
 go_ret
 exact⟨rfl,rfl⟩
def OA:List Int:=[0,0,0,0,0,0,9,9,7,7,8,8,8,5,3,4,6,6,6,6,6,6,2,1]
set_option maxHeartbeats 3200000 in
theorem P7 (op:Nat) (w:World) (h:op<24):Calls Tryz.prog 252 #[.int .u8 op] w λe w'=>e = .returned (.int .i64 (OA.getD op 0))/\w=w':=by
 have:∀ op,op<24->op=0\/op=1\/op=2\/op=3\/op=4\/op=5\/op=6\/op=7\/op=8\/op=9\/op=10\/op=11\/op=12\/op=13\/op=14\/op=15\/op=16\/op=17\/op=18\/op=19\/op=20\/op=21\/op=22\/op=23:=by omega
 rcases this op h with rfl|rfl|rfl|rfl|rfl|rfl|rfl|rfl|rfl|rfl|rfl|rfl|rfl|rfl|rfl|rfl|rfl|rfl|rfl|rfl|rfl|rfl|rfl|rfl <;>
 · go_enter Tryz.func252,Tryz.ntmps252
   go_wp2_with fail
   go_ret
   exact⟨rfl,rfl⟩
def opC (x:Nat):List Value:=[.int .u8 x]
theorem Tryz.Nn:(Tryz.prog.info? 5).map (λi=>(i.zero,i.size,i.bytes))=some (some (.int .u8 0),1,1):=by kernel_rfl
theorem Tryz.Np:Elem Tryz.prog 51 5 1 1:=Elem.of Tryz.underlying51 Tryz.Nn rfl (by decide) (by decide)
def opsL:List Nat:=(List.range 16).map (· + 8)
theorem KT (k:Nat) (h:k<16):opsL.take (k+1)=opsL.take k ++ [k+8]:=by
 rw[List.take_succ_eq_append_getElem (by simpa[opsL]using h)];simp[opsL]
set_option maxHeartbeats 3200000 in
theorem PV (w:World):Calls Tryz.prog 93 #[] w λe w'=>∃ a c,e = .returned (.slice a 16 c)/\w'.ownsRow w.heap.size 5 1 (.slice a 16 c) opsL.length (flat opC opsL)/\Grow w w':=by
 go_enter Tryz.func93,Tryz.ntmps93
 go_wp2_with fail
 go_loopw [1,2] (λlv t wr=>∃ (k:Nat) (a:Option Addr) (c:Nat),t = .int .u8 ((k:Int)+8)/\k<=16/\lv = .slice a k c/\Grow w wr/\wr.ownsRow w.heap.size 5 1 (.slice a k c) (opsL.take k).length (flat opC (opsL.take k))) (λ_ t _=>24 - (intOf t).toNat)
 case atStart=>exact⟨0,none,0,rfl,by omega,rfl,Mv.refl _ _,World.ownsRow_nil _ _ _ _⟩
 obtain⟨k,a,c,rfl,hk,rfl,hg,hrow⟩:=hrel
 have HG:=Lib.hid hg
 have HR:=Lib.hid hrow
 clear hg hrow
 by_cases hlt:k<16
 · have hkk:(k:Int)+8<=23:=by omega
   have hlen:(opsL.take k).length=k:=by simp[opsL];omega
   have hg1:Grow w (wr.alloc (.cells #[.int .u8 ((k:Int)+8)] 5)):=HG.out.alloc _
   obtain⟨a',c',w2,⟨hok,qb,haw⟩,hr2,hm2,-⟩:=Mx Tryz.Np (f:=opC) (λ_=>rfl) (.slice a k c) (.slice (some ⟨wr.heap.size,0,none⟩) 1 1) (opsL.take k) [k+8] w.heap.size (wr.alloc (.cells #[.int .u8 ((k:Int)+8)] 5)) (KS HR.out ((Mv.refl (λ_=>False) wr).alloc _) (λ_ _ e=>e)) (aA.ji (f:=opC) (l:=[k+8]) (λ_=>rfl) (heap_alloc_new wr _) (by simp[flat,opC]) (Nat.le_of_ble_eq_true rfl)) (λy hy u hu=>by simp at hy;subst hy;simp[opC]at hu;subst hu;rfl) hg1.size (by simp;omega)
   rw[← KT k hlt]at hr2
   rw[hlen]at qb hr2
   have OB:=Lib.hid (show w2.ownsRow w.heap.size 5 1 (.slice a' (k+1) c') (opsL.take (k+1)).length (flat opC (opsL.take (k+1)))from hr2)
   have PG:=Lib.hid (hg1.trans hm2 (λb e => .inr (by
    rcases HR.out.2 with⟨e2,-⟩|⟨g',cap,cur,e2,h1,-⟩
    · rw[e2]at e;simp[Value.ownBlock]at e
    · rw[e2]at e;simp[Value.ownBlock]at e;subst e;exact h1)))
   clear hr2 hm2 hg1 hlen
   go_wp2_with fail
   go_roundw
   case rel=>exact⟨k+1,a',c',by go_num,by omega,rfl,PG.out,OB.out⟩
   case measure=>(simp[intOf] <;> omega)
 · obtain rfl:k=16:=by omega
   have HF:=Lib.hid (show wr.ownsRow w.heap.size 5 1 (.slice a 16 c) opsL.length (flat opC opsL)from HR.out)
   go_wp2_with fail
   go_ret
   exact⟨a,c,rfl,HF.out,HG.out⟩
end
section
open Go.ChangeShapes Go.WideShapes Go.RowKit Go.Instr Go.Deep
abbrev kI : List (String × DataW Unit) := [("backstep/arith.symbols", Rows.laid_backstep_arith_symbols), ("backstep/isa.table", Rows.laid_backstep_isa_table), ("math/bits.deBruijn32tab", Rows.laid_math_bits_deBruijn32tab), ("math/bits.deBruijn64tab", Rows.laid_math_bits_deBruijn64tab), ("internal/strconv.uint64pow10", Rows.laid_internal_strconv_uint64pow10), ("strconv.ErrRange", Rows.laid_strconv_ErrRange), ("strconv.ErrSyntax", Rows.laid_strconv_ErrSyntax)]
theorem Tryz.Nq : Tryz.prog.globalNamed "backstep/isa.table" = some 0 := by kernel_rfl
theorem Tryz.Nr:(Tryz.prog.globals[0]?).map (·.type)=some 195:=by kernel_rfl
theorem Tryz.CB:Tryz.prog.cellsOf 194=2:=by kernel_rfl
theorem Tryz.J4:Tryz.prog.cellsOf 3=1:=by kernel_rfl
theorem Tryz.NV : Tryz.prog.globalNamed "backstep/arith.symbols" = some 1 := by kernel_rfl
theorem Tryz.NW:(Tryz.prog.globals[1]?).map (·.type)=some 204:=by kernel_rfl
theorem Tryz.BM:Tryz.prog.cellsOf 9=1:=by kernel_rfl
def mH:List ByteArray:=[⟨#[110,111,112]⟩,⟨#[97,100,100]⟩,⟨#[115,117,98]⟩,⟨#[120,111,114]⟩,⟨#[97,100,100,105]⟩,⟨#[115,117,98,105]⟩,⟨#[120,111,114,105]⟩,⟨#[115,119,97,112]⟩,⟨#[110,101,103]⟩,⟨#[99,97,108,99]⟩,⟨#[109,101,109]⟩,⟨#[105,100,120]⟩,⟨#[112,117,115,104]⟩,⟨#[112,111,112]⟩,⟨#[116,111,112]⟩,⟨#[115,105,122,101]⟩,⟨#[115,119,97,112,115]⟩,⟨#[114,101,97,100]⟩,⟨#[117,110,114,101,97,100]⟩,⟨#[119,114,105,116,101]⟩,⟨#[117,110,119,114,105,116,101]⟩,⟨#[122,101,114,111]⟩,⟨#[106,109,112]⟩,⟨#[106,109,112,122]⟩,⟨#[106,109,112,110]⟩,⟨#[108,97,110,100]⟩,⟨#[108,97,110,100,122]⟩,⟨#[108,97,110,100,110]⟩,⟨#[102,114,97,109,101]⟩,⟨#[117,110,102,114,97,109,101]⟩,⟨#[99,97,108,108]⟩,⟨#[117,110,99,97,108,108]⟩,⟨#[115,116,97,114,116]⟩,⟨#[101,110,100]⟩,⟨#[104,97,108,116]⟩]
theorem J5 {H:Type} : ∃ l:List (DataW H),Rows.laid_backstep_isa_table = .agg l/\l=(mH.zip iq).map λx => .agg [.lit (.string x.1.data.toList),.lit (.int .i64 x.2)]:=⟨_,rfl,by kernel_rfl⟩
set_option maxRecDepth 100000 in
theorem II {W:World} (h:laidMetH Tryz.prog kI W) (k:Nat) (hk:k<35):W.cell? ⟨0,k * 2,none⟩=some (.string (mH.getD k ⟨#[]⟩))/\W.cell? ⟨0,k * 2+1,none⟩=some (.int .i64 (iq.getD k 0)):=by
 rw[MakeChecks.laidMetH_plain _ _ _ (by kernel_rfl)]at h
 obtain⟨ps,⟨_,_,_,_,_,_,_,_,_,_,⟨g0,t0,cs0,f0,p0,q0,hg0,ht0,hv0,hd0,_,_⟩,_⟩,_⟩:=h
 obtain rfl:=Option.some.inj (Tryz.Nq.symm.trans hg0)
 obtain rfl:=Option.some.inj (Tryz.Nr.symm.trans ht0)
 obtain⟨l,hl,AL⟩:=J5 (H:=Unit)
 rw[hl]at hd0
 obtain⟨xs,m1,rfl,hx1,hlen,qg,hel⟩:=DataW.trod_array Tryz.underlying195 hd0
 simp only[Prod.mk.injEq,DataW.agg.injEq]at hx1
 have hs:l[k]? = some (.agg [.lit (.string (mH.getD k ⟨#[]⟩).data.toList),.lit (.int .i64 (iq.getD k 0))]):=by
  have h1:k<mH.length:=hk
  have h2:k<iq.length:=hk
  rw[AL,List.getElem?_map,show(mH.zip iq)[k]? = some (mH[k],iq[k])from List.getElem?_zip_eq_some.2 ⟨List.getElem?_eq_getElem h1,List.getElem?_eq_getElem h2⟩,List.getD_eq_getElem?_getD,List.getD_eq_getElem?_getD,List.getElem?_eq_getElem h1,List.getElem?_eq_getElem h2]
  rfl
 have tq:=hel k hk
 rw[hx1.1,List.getElem?_map]at hs
 cases hxk:xs[k]? with
 |none=>rw[hxk]at hs;simp at hs
 |some x =>
  rw[hxk]at hs tq
  simp only[Option.map_some,Option.some.injEq]at hs
  obtain⟨ys,m2,rfl,hx2,hcl,hyl,hf⟩:=DataW.trod_struct Tryz.underlying194 tq
  match ys,hyl with
  | [y0,y1],_ =>
   have f1:=hf 1 _ rfl
   have f2:=hf 0 _ rfl
   obtain⟨n,e1,e2,_⟩:=DataW.trod_int Tryz.underlying3 (show DataW.trod _ _ _ _ _ _ _ _ _=some y1 from f1)
   obtain⟨s,e3,e4,_⟩:=DataW.trod_string Tryz.underlying9 (show DataW.trod _ _ _ _ _ _ _ _ _=some y0 from f2)
   rw[hx2]at hs
   simp only[List.map_cons,List.map_nil,DataW.agg.injEq,List.cons.injEq,and_true]at hs
   have hn:n=iq.getD k 0:=by
    have:=hs.2
    rw[e2]at this
    simpa using this
   have hm:s=mH.getD k ⟨#[]⟩:=by
    have h3:=hs.1
    rw[e4]at h3
    simp only[DataW.lit.injEq,Lit.string.injEq]at h3
    exact ByteArray.ext (Array.toList_inj.1 h3)
   have c1:Tryz.prog.cellsOf 3=1:=Tryz.J4
   have c2:Tryz.prog.cellsOf 9=1:=Tryz.BM
   rw[World.var?_cell hg0 hv0 (k * 2+1),World.var?_cell hg0 hv0 (k * 2),← hn,← hm]
   constructor
   · have h3:(cs0.toList.drop (k * 2))[0]? = some (.string s):=by
      have h4:=congrArg (λt=>t[0]?) e3
      simp only[Tryz.CB,c2]at h4
      simp[List.getElem?_drop,List.getElem?_take]at h4
      simpa[List.getElem?_drop]using h4.2
     rw[List.getElem?_drop]at h3
     simpa using h3
   · have h3:(cs0.toList.drop (k * 2))[1]? = some (.int .i64 n):=by
      have h4:=congrArg (λt=>t[0]?) e1
      simp only[Tryz.CB,c1]at h4
      simp[List.getElem?_drop,List.getElem?_take]at h4
      simpa[List.getElem?_drop]using h4.2
     rw[List.getElem?_drop]at h3
     simpa using h3
theorem KU (H:Type):∃ l:List (DataW H),Rows.laid_backstep_arith_symbols = .agg l/\l=nX.map λs => .lit (.string s.data.toList):=⟨_,rfl,by kernel_rfl⟩
set_option maxRecDepth 100000 in
theorem I4 {W:World} (h:laidMetH Tryz.prog kI W):rG W:=by
 rw[MakeChecks.laidMetH_plain _ _ _ (by kernel_rfl)]at h
 obtain⟨ps,⟨g0,t0,cs0,f0,p0,q0,hg0,ht0,hv0,hd0,_,_⟩,_⟩:=h
 obtain rfl:=Option.some.inj (Tryz.NV.symm.trans hg0)
 obtain rfl:=Option.some.inj (Tryz.NW.symm.trans ht0)
 obtain⟨l,hl,AL⟩:=KU Unit
 rw[hl]at hd0
 obtain⟨xs,m1,rfl,hx1,hlen,qg,hel⟩:=DataW.trod_array Tryz.underlying204 hd0
 simp only[Prod.mk.injEq,DataW.agg.injEq]at hx1
 intro k hk
 have tq:=hel k hk
 have hs:l[k]? = some (.lit (.string (nX.getD k ⟨#[]⟩).data.toList)):=by
  rw[AL,List.getElem?_map,List.getD_eq_getElem?_getD]
  have hkl:k<nX.length:=hk
  rw[List.getElem?_eq_getElem hkl];rfl
 rw[hx1.1,List.getElem?_map]at hs
 cases hxk:xs[k]? with
 |none=>rw[hxk]at hs;simp at hs
 |some x =>
  rw[hxk]at hs tq
  simp only[Option.map_some,Option.some.injEq]at hs
  obtain⟨s,e1,e2,_⟩:=DataW.trod_string Tryz.underlying9 tq
  have hn:s=nX.getD k ⟨#[]⟩:=by
   have h3:=hs
   rw[e2]at h3
   simp only[DataW.lit.injEq,Lit.string.injEq]at h3
   exact ByteArray.ext (Array.toList_inj.1 h3)
  rw[World.var?_cell hg0 hv0 k]
  have c1:Tryz.prog.cellsOf 9=1:=Tryz.BM
  have h3:(cs0.toList.drop k)[0]? = some (.string s):=by
   have h4:=congrArg (λt=>t[0]?) e1
   simp only[c1,Nat.mul_one]at h4
   simpa[List.getElem?_drop,List.getElem?_take]using h4
  rw[List.getElem?_drop]at h3
  rw[← hn]
  simpa using h3
theorem KV (os:Os) (args:Array Value):laidMetH Tryz.prog kI ((World.doorLaid Tryz.prog 400 os).forCall (λ_ _=>0) ⟨#[],args,[]⟩).memory :=
 laidMetH_of_parts3 (fuel:=8) (laidMet_of_run' 8 (by kernel_rfl) (by kernel_rfl)) (by kernel_rfl) (by kernel_rfl)
end
end Go.Proofs.YtadecgbblajifaaGreatDoor
