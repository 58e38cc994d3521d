import Derived.Test.YtadecgbblajifaaGreatDoorE20
set_option linter.unusedSimpArgs false
set_option linter.unusedVariables false
set_option maxRecDepth 100000
set_option maxHeartbeats 25600000
namespace Go.Proofs.YtadecgbblajifaaGreatDoor
end Go.Proofs.YtadecgbblajifaaGreatDoor
namespace Go.Proofs.YtadecgbblajifaaGreatDoor.DV
open Go
theorem Y2:cellsD (match dL 0 with | .fp d=>d|_ => .bZ)=some zB:=by kernel_rfl
theorem abu:dL 0 = .fp (match dL 0 with | .fp d=>d|_ => .bZ):=rfl
theorem ZU:((List.range 35).map λk=>zB[k * 2+1]?)=(List.range 35).map λk=>some (Value.int .i64 (kP.getD k 0)):=by kernel_rfl
theorem JK {g:G} {w:World} (hfm:∀ b c,g.fm b=some c->mem w b=some c) (h:∀ i,VR g (dL i) (.pointer (some ⟨i,0,none⟩))):Go.Proofs.YtadecgbblajifaaGreatDoor.cZ w:=λk hk=>by
 have h1:=h 0
 rw[abu]at h1
 refine ZM hfm h1 Y2 _ _ ?_
 have h2:=congrArg (λl=>l[k]?) ZU
 simp only[List.getElem?_map,List.getElem?_range hk,Option.map_some,Option.some.injEq]at h2
 exact h2
theorem ZV {g:G} {w:World} {l:List Ins} {k:List cB} {v:Value} (hfm:∀ b c,g.fm b=some c->mem w b=some c) (hl:l.length<=9223372036854775807) (hk:k.length<=9223372036854775807) (h:VR g (yu l k) v):∃ cv rv,v = .agg #[cv,rv]/\aB 5 Ins.cells w cv l/\aB 2 cB.cells w rv k:=by
 obtain⟨cs,rfl,hc⟩:=Ki h
 simp only[aj]at hc
 obtain⟨h0,h1,h2,h3,h4⟩:=hc
 match cs,h0 with
 |c :: cs,_ =>
  simp only[List.take_succ_cons,List.take_zero,List.drop_succ_cons,List.drop_zero]at h1 h2 h3 h4
  match cs,h2 with
  |c2 :: cs,_ =>
   simp only[List.take_succ_cons,List.take_zero,List.drop_succ_cons,List.drop_zero]at h3 h4
   subst h4
   exact⟨c,c2,rfl,row_of (enc:=wK) hfm (λx=>rfl) hl (by simpa only[VR,CR]using h1),row_of (enc:=om) hfm (λx=>rfl) hk (by simpa only[VR,CR]using h3)⟩
theorem abv (l:List Ins) (k:List cB) (hl:l.length<=9223372036854775807) (hk:k.length<=9223372036854775807) (hop:∀ x∈l,0<=x.op/\x.op<=255):Pure Tryz.prog dL 40 [yu l k] (.tu [iD (fZ l k).1,iD (fZ l k).2]):=ZL (v := .tuple #[.int .i64 (fZ l k).1,.int .i64 (fZ l k).2]) (λg=>by simp[VR,CR,aC]) (by kernel_rfl) λg w vs hfm hgl h=>by
 simp only[aC]at h
 obtain⟨v,vs',rfl,h1,rfl⟩:=h
 obtain⟨cv,rv,rfl,hr,hq⟩:=ZV hfm hl hk h1
 exact(NI cv rv l k w (JK hfm hgl) hr hq hop).mono λe w' h=>⟨h.1,qN h.2⟩
structure Sb (o:aO):Prop where
 name:o.name.size<=9223372036854775807
 KY:∀ v∈o.params,v.name.size<=9223372036854775807
 few:o.slots.length<=4398046511104
 np:o.params.length<=9223372036854775807
 nc:o.code.length<=9223372036854775807
 nr:o.refs.length<=9223372036854775807
 op:∀ x∈o.code,0<=x.op/\x.op<=255
def qB (f:ByteArray->Bool) (o:aO):Bool:=((o.name.toList == (⟨#[]⟩:ByteArray).toList) && decide ((o.params.length:Int) > 0)) || ((!(o.name.toList == (⟨#[]⟩:ByteArray).toList)) && !(f o.name)) || decide ((o.params.length:Int) > 8)
def BM (f:ByteArray->Bool) (v:aT):Bool := !(f v.name) || (!(v.kind == 1 || v.kind == 3) && !(v.kind == 2)) || ((v.kind == 2) != !(v.len == 0)) || decide (v.len<0) || decide (v.len > 16)
def qj (v x:aT):Bool:=x.name.toList == v.name.toList
def mZ (f:ByteArray->Bool) (l:List aT) (j:Nat) (v:aT):Bool:=BM f v || (l.take j).any (qj v)
def qC (f:List aI->Int->Int->Bool) (o:aO):Bool := !(f o.slots o.cells o.stacks) || decide (o.cells<0) || decide (o.cells > 16384) || decide (o.stacks<0) || decide (o.stacks > 16384)
def ou (s:aI):Bool:=decide ((s.name.size:Int) > 255) || ((s.kind == 2) && decide (s.len > 16)) || (!(s.kind == 2) && !(s.len == 0))
def BN (v:aT) (s:aI):Bool := !(s.name.toList == v.name.toList) || !(s.kind == v.kind) || !(s.len == v.len)
def lW (l:List aI) (j:Nat) (v:aT):Bool:=match l[j]? with
 |none=>true
 |some s=>BN v s
def jT (o:aO):Int:=if qB dH o || anyI (mZ dH o.params) o.params || qC iQ o || o.slots.any ou then 3 else if anyI (lW o.slots) o.params then 20 else(fZ o.code o.refs).2
theorem fo1 {o:aO} (h:qB dH o=true):jT o=3:=by simp[jT,h]
theorem VH {o:aO} (h:anyI (mZ dH o.params) o.params=true):jT o=3:=by simp[jT,h]
theorem fo3 {o:aO} (h:qC iQ o=true):jT o=3:=by simp[jT,h]
theorem fo4 {o:aO} (h:o.slots.any ou=true):jT o=3:=by unfold jT;rw[h];simp
theorem VI {o:aO} (h1:qB dH o=false) (h2:anyI (mZ dH o.params) o.params=false) (h3:qC iQ o=false) (h4:o.slots.any ou=false) (h5:anyI (lW o.slots) o.params=true):jT o=20:=by unfold jT;rw[h1,h2,h3,h4,h5];rfl
theorem fo6 {o:aO} (h1:qB dH o=false) (h2:anyI (mZ dH o.params) o.params=false) (h3:qC iQ o=false) (h4:o.slots.any ou=false) (h5:anyI (lW o.slots) o.params=false):jT o=(fZ o.code o.refs).2:=by unfold jT;rw[h1,h2,h3,h4,h5];rfl
theorem ZW {l:List aT} {v x:aT} {i k:Nat} (hk:k<i) (hx:l[k]? = some x) (h:qj v x=true):(l.take i).any (qj v)=true:=List.any_eq_true.2 ⟨x,List.mem_of_getElem? (i:=k) (by rw[List.getElem?_take,if_pos hk];exact hx),h⟩
theorem ZX {l:List aT} {v:aT} {i k:Nat} (hk:¬ k<i) (h:∀ j,j<k->∀ x,l[j]? = some x->qj v x=false):(l.take i).any (qj v)=false:=by
 rw[List.any_eq_false]
 intro x hx
 obtain⟨j,hj,rfl⟩:=List.getElem_of_mem hx
 have hj':j<i/\j<l.length:=by simp at hj;omega
 have:=h j (by omega) _ (List.getElem?_eq_getElem hj'.2)
 simpa using this
theorem aaF (o:aO) (ok:Sb o):Pure Tryz.prog dL 20 [gJ o] (iD (jT o)):=by
 have hnm:=ok.name
 obtain⟨X,hX⟩:∃ x,x=jT o:=⟨_,rfl⟩
 rw[← hX]
 obtain⟨NB,Ct⟩:∃ f:ByteArray->Bool,f=dH:=⟨_,rfl⟩
 have HN:∀ s:ByteArray,s.size<=9223372036854775807->Pure Tryz.prog dL 41 [sD s] (bD (NB s)):=by rw[Ct];exact abr
 obtain⟨DB,hDB⟩:∃ f:List aI->Int->Int->Bool,f=iQ:=⟨_,rfl⟩
 have HD:Pure Tryz.prog dL 42 [nP o.slots o.cells o.stacks] (bD (DB o.slots o.cells o.stacks)):=by rw[hDB];exact abt _ _ _ ok.few
 obtain⟨PC,VJ⟩:∃ f:Int × Int,f=fZ o.code o.refs:=⟨_,rfl⟩
 have HP:Pure Tryz.prog dL 40 [yu o.code o.refs] (.tu [iD PC.1,iD PC.2]):=by rw[VJ];exact abv _ _ ok.nc ok.nr ok.op
 refine vI (C:=Cs) hT Tryz.func20 rfl rfl rfl (by simp[aZ]) hG λB => ?_
 unfold Tryz.f20
 obtain⟨HB,hHB⟩:∃ b:Bool,b=qB NB o:=⟨_,rfl⟩
 repeat' (first|apply bJ|apply bK|apply bL|apply bM|apply bN|apply bO rfl|apply bP rfl|apply bR|apply bQ|apply run_seq|apply bA|apply jC [1,6,16,21,30] rfl|apply bC|apply bF|apply bB|apply z0 hT rfl rfl rfl rfl|apply zk rfl rfl rfl|apply z1 hT rfl rfl rfl rfl|apply zs hT rfl rfl rfl|apply za hT rfl rfl rfl rfl|apply bE|((fail_if_success apply zw rfl);apply zg rfl <;> (intro hb;rw[hb]))|apply bS rfl|apply bT rfl|(apply bU rfl <;> (intro hb;try rw[hb]))|apply bG mixed hC|apply bH|apply d0 rfl rfl rfl rfl rfl (by kernel_rfl)|apply dk rfl rfl rfl rfl (by kernel_rfl)|apply d1 rfl rfl rfl rfl (by kernel_rfl) rfl (by kernel_rfl)|apply ds rfl rfl rfl (by kernel_rfl) rfl (by kernel_rfl)|((fail_if_success apply dw rfl);apply dg rfl <;> (intro hb;rw[hb])))
 refine Ai (Z [(39,some (bD HB)),(1,some (.ref 0 []))] [(0,some (gJ o))] 1 204) ?_ ?_
 · repeat' (first|apply bJ|apply bK|apply bL|apply bM|apply bN|apply bO rfl|apply bP rfl|apply bR|apply bQ|apply run_seq|apply bA|apply eB|apply bC|apply bF|apply bB|apply z0 hT rfl rfl rfl rfl|apply zk rfl rfl rfl|apply z1 hT rfl rfl rfl rfl|apply zs hT rfl rfl rfl|apply za hT rfl rfl rfl rfl|apply bE|((fail_if_success apply zw rfl);apply zg rfl <;> (intro hb;rw[hb]))|apply bS rfl|apply bT rfl|(apply bU rfl <;> (intro hb;try rw[hb]))|apply bG mixed hC|apply bH|apply d0 rfl rfl rfl rfl rfl (by kernel_rfl)|apply dk rfl rfl rfl rfl (by kernel_rfl)|apply d1 rfl rfl rfl rfl (by kernel_rfl) rfl (by kernel_rfl)|apply ds rfl rfl rfl (by kernel_rfl) rfl (by kernel_rfl)|((fail_if_success apply dw rfl);apply dg rfl <;> (intro hb;rw[hb]))|apply zc rfl rfl rfl rfl rfl rfl rfl (HN _ (by assumption)))
   all_goals
    refine Bg (dP [(0,0)] rfl hG ⟨Rn.eq (by rw[hHB];unfold qB;simp_all),Rn.ref (.head _),trivial⟩ ⟨⟨0,_,.head _,rfl,Rn.fz (aZ _),rfl,rfl,λ_ h=>h⟩,trivial⟩)
 repeat' (first|apply bJ|apply bK|apply bL|apply bM|apply bN|apply bO rfl|apply bP rfl|apply bR|apply bQ|apply run_seq|apply bA|apply jC [1,6,16,21,30] rfl|apply bC|apply bF|apply bB|apply z0 hT rfl rfl rfl rfl|apply zk rfl rfl rfl|apply z1 hT rfl rfl rfl rfl|apply zs hT rfl rfl rfl|apply za hT rfl rfl rfl rfl|apply bE|((fail_if_success apply zw rfl);apply zg rfl <;> (intro hb;rw[hb]))|apply bS rfl|apply bT rfl|(apply bU rfl <;> (intro hb;try rw[hb]))|apply bG mixed hC|apply bH|apply d0 rfl rfl rfl rfl rfl (by kernel_rfl)|apply dk rfl rfl rfl rfl (by kernel_rfl)|apply d1 rfl rfl rfl rfl (by kernel_rfl) rfl (by kernel_rfl)|apply ds rfl rfl rfl (by kernel_rfl) rfl (by kernel_rfl)|((fail_if_success apply dw rfl);apply dg rfl <;> (intro hb;rw[hb])))
 · exact jq rfl (FR.eq (by rw[hX,fo1 (by rw[← Ct,← hHB];simpa using hb)]))
 have a1:qB dH o=false:=by rw[← Ct,← hHB];simpa using hb
 clear hb hHB
 obtain⟨BV,Mc⟩:∃ f:aT->Bool,f=BM NB:=⟨_,rfl⟩
 refine nO (λi=>Z [(43,some (nD i)),(42,some (nD (o.params.map iW).length)),(41,some (qf o.params)),(1,some (.ref 0 []))] [(0,some (gJ o))] 1 204) (λi=>o.params.length - i) (qZ (mZ NB o.params) o.params) 0 (.zero _ _) (dP [(0,0)] rfl hG ?_ ?_) ?_
 · repeat' (first|exact trivial|apply And.intro|exact Rn.lf _|exact Rn.ref (.head _)|exact Rn.fz (iN _)|exact Rn.fz (iL _)|exact Rn.fz (jS _)|exact Rn.fz (jm _)|exact Rn.fz (aZ _))
 · exact⟨⟨0,_,.head _,rfl,Rn.fz (aZ _),rfl,rfl,λ_ h=>h⟩,trivial⟩
 intro i hi
 repeat' (first|apply bJ|apply bK|apply bL|apply bM|apply bN|apply bO rfl|apply bP rfl|apply bR|apply bQ|apply run_seq|apply bA|apply jC [1,6,16,21,30] rfl|apply bC|apply bF|apply bB|apply z0 hT rfl rfl rfl rfl|apply zk rfl rfl rfl|apply z1 hT rfl rfl rfl rfl|apply zs hT rfl rfl rfl|apply za hT rfl rfl rfl rfl|apply bE|((fail_if_success apply zw rfl);apply zg rfl <;> (intro hb;rw[hb]))|apply bS rfl|apply bT rfl|(apply bU rfl <;> (intro hb;try rw[hb]))|apply bG mixed hC|apply bH|apply d0 rfl rfl rfl rfl rfl (by kernel_rfl)|apply dk rfl rfl rfl rfl (by kernel_rfl)|apply d1 rfl rfl rfl rfl (by kernel_rfl) rfl (by kernel_rfl)|apply ds rfl rfl rfl (by kernel_rfl) rfl (by kernel_rfl)|((fail_if_success apply dw rfl);apply dg rfl <;> (intro hb;rw[hb])))
 · have hl:i<o.params.length:=by simpa using hb
   obtain⟨v,hv⟩:∃ v,o.params[i]? = some v:=⟨_,List.getElem?_eq_getElem hl⟩
   have zH:=ok.KY v (List.mem_of_getElem? hv)
   apply zi hT rfl rfl rfl rfl rfl rfl rfl rfl (nQ (f:=iW) hv) rfl
   repeat' (first|apply bJ|apply bK|apply bL|apply bM|apply bN|apply bO rfl|apply bP rfl|apply bR|apply bQ|apply run_seq|apply bA|apply jC [1,6,16,21,30] rfl|apply bC|apply bF|apply bB|apply z0 hT rfl rfl rfl rfl|apply zk rfl rfl rfl|apply z1 hT rfl rfl rfl rfl|apply zs hT rfl rfl rfl|apply za hT rfl rfl rfl rfl|apply bE|((fail_if_success apply zw rfl);apply zg rfl <;> (intro hb;rw[hb]))|apply bS rfl|apply bT rfl|(apply bU rfl <;> (intro hb;try rw[hb]))|apply bG mixed hC|apply bH|apply d0 rfl rfl rfl rfl rfl (by kernel_rfl)|apply dk rfl rfl rfl rfl (by kernel_rfl)|apply d1 rfl rfl rfl rfl (by kernel_rfl) rfl (by kernel_rfl)|apply ds rfl rfl rfl (by kernel_rfl) rfl (by kernel_rfl)|((fail_if_success apply dw rfl);apply dg rfl <;> (intro hb;rw[hb])))
   refine Ai (Z [(86,some (bD (BV v))),(4,some (.ref 1 [])),(3,some (nD i)),(43,some (nD i)),(42,some (nD (o.params.map iW).length)),(41,some (qf o.params)),(1,some (.ref 0 []))] [(1,some (iW v)),(0,some (gJ o))] 2 204) ?_ ?_
   · repeat' (first|apply bJ|apply bK|apply bL|apply bM|apply bN|apply bO rfl|apply bP rfl|apply bR|apply bQ|apply run_seq|apply bA|apply eB|apply bC|apply bF|apply bB|apply z0 hT rfl rfl rfl rfl|apply zk rfl rfl rfl|apply z1 hT rfl rfl rfl rfl|apply zs hT rfl rfl rfl|apply za hT rfl rfl rfl rfl|apply bE|((fail_if_success apply zw rfl);apply zg rfl <;> (intro hb;rw[hb]))|apply bS rfl|apply bT rfl|(apply bU rfl <;> (intro hb;try rw[hb]))|apply bG mixed hC|apply bH|apply d0 rfl rfl rfl rfl rfl (by kernel_rfl)|apply dk rfl rfl rfl rfl (by kernel_rfl)|apply d1 rfl rfl rfl rfl (by kernel_rfl) rfl (by kernel_rfl)|apply ds rfl rfl rfl (by kernel_rfl) rfl (by kernel_rfl)|((fail_if_success apply dw rfl);apply dg rfl <;> (intro hb;rw[hb]))|apply zc rfl rfl rfl rfl rfl rfl rfl (HN _ (by assumption)))
     all_goals
      refine Bg (dP [(0,0),(1,5)] rfl hG ⟨Rn.eq (by rw[Mc];unfold BM;first|(simp_all;done)|(simp_all;omega)),Rn.ref (.tail _ (.head _)),?_⟩ ⟨⟨5,_,.tail _ (.head _),rfl,Rn.fz (EC _),rfl,rfl,λ_ h=>h⟩,⟨0,_,.head _,rfl,Rn.fz (aZ _),rfl,rfl,λ_ h=>h⟩,trivial⟩)
      repeat' (first|exact trivial|apply And.intro|exact Rn.lf _|exact Rn.ref (.head _)|exact Rn.fz (iN _)|exact Rn.fz (iL _)|exact Rn.fz (jS _)|exact Rn.fz (jm _)|exact Rn.fz (aZ _))
   repeat' (first|apply bJ|apply bK|apply bL|apply bM|apply bN|apply bO rfl|apply bP rfl|apply bR|apply bQ|apply run_seq|apply bA|apply jC [1,6,16,21,30] rfl|apply bC|apply bF|apply bB|apply z0 hT rfl rfl rfl rfl|apply zk rfl rfl rfl|apply z1 hT rfl rfl rfl rfl|apply zs hT rfl rfl rfl|apply za hT rfl rfl rfl rfl|apply bE|((fail_if_success apply zw rfl);apply zg rfl <;> (intro hb;rw[hb]))|apply bS rfl|apply bT rfl|(apply bU rfl <;> (intro hb;try rw[hb]))|apply bG mixed hC|apply bH|apply d0 rfl rfl rfl rfl rfl (by kernel_rfl)|apply dk rfl rfl rfl rfl (by kernel_rfl)|apply d1 rfl rfl rfl rfl (by kernel_rfl) rfl (by kernel_rfl)|apply ds rfl rfl rfl (by kernel_rfl) rfl (by kernel_rfl)|((fail_if_success apply dw rfl);apply dg rfl <;> (intro hb;rw[hb])))
   · exact jq rfl (FR.eq (by rw[hX,VH (D6 hv (by rw[← Ct];unfold mZ;rw[← Mc,hb,Bool.true_or]))]))
   have hbv:=hb
   clear hb
   refine nO (λk=>Z [(88,some (nD k)),(87,some (nD i)),(4,some (.ref 1 [])),(43,some (nD i)),(42,some (nD (o.params.map iW).length)),(41,some (qf o.params)),(1,some (.ref 0 []))] [(1,some (iW v)),(0,some (gJ o))] 2 204) (λk=>i - k) (λk=>k<=i/\∀ j,j<k->∀ x,o.params[j]? = some x->qj v x=false) 0 ⟨Nat.zero_le _,λj hj=>by omega⟩ (dP [(0,0),(1,1)] rfl hG ⟨Rn.lf _,Rn.lf _,Rn.ref (.tail _ (.head _)),?_⟩ ?_) ?_
   · repeat' (first|exact trivial|apply And.intro|exact Rn.lf _|exact Rn.ref (.head _)|exact Rn.fz (iN _)|exact Rn.fz (iL _)|exact Rn.fz (jS _)|exact Rn.fz (jm _)|exact Rn.fz (aZ _))
   · exact⟨⟨1,_,.tail _ (.head _),rfl,Rn.fz (EC _),rfl,rfl,λ_ h=>h⟩,⟨0,_,.head _,rfl,Rn.fz (aZ _),rfl,rfl,λ_ h=>h⟩,trivial⟩
   intro k hk
   repeat' (first|apply bJ|apply bK|apply bL|apply bM|apply bN|apply bO rfl|apply bP rfl|apply bR|apply bQ|apply run_seq|apply bA|apply jC [1,6,16,21,30] rfl|apply bC|apply bF|apply bB|apply z0 hT rfl rfl rfl rfl|apply zk rfl rfl rfl|apply z1 hT rfl rfl rfl rfl|apply zs hT rfl rfl rfl|apply za hT rfl rfl rfl rfl|apply bE|((fail_if_success apply zw rfl);apply zg rfl <;> (intro hb;rw[hb]))|apply bS rfl|apply bT rfl|(apply bU rfl <;> (intro hb;try rw[hb]))|apply bG mixed hC|apply bH|apply d0 rfl rfl rfl rfl rfl (by kernel_rfl)|apply dk rfl rfl rfl rfl (by kernel_rfl)|apply d1 rfl rfl rfl rfl (by kernel_rfl) rfl (by kernel_rfl)|apply ds rfl rfl rfl (by kernel_rfl) rfl (by kernel_rfl)|((fail_if_success apply dw rfl);apply dg rfl <;> (intro hb;rw[hb])))
   · have hki:k<i:=by simpa using hb
     obtain⟨x,hx⟩:∃ x,o.params[k]? = some x:=⟨_,List.getElem?_eq_getElem (by omega)⟩
     apply di rfl rfl rfl rfl rfl rfl rfl rfl (nQ (f:=iW) hx) rfl rfl (by kernel_rfl)
     repeat' (first|apply bJ|apply bK|apply bL|apply bM|apply bN|apply bO rfl|apply bP rfl|apply bR|apply bQ|apply run_seq|apply bA|apply jC [1,6,16,21,30] rfl|apply bC|apply bF|apply bB|apply z0 hT rfl rfl rfl rfl|apply zk rfl rfl rfl|apply z1 hT rfl rfl rfl rfl|apply zs hT rfl rfl rfl|apply za hT rfl rfl rfl rfl|apply bE|((fail_if_success apply zw rfl);apply zg rfl <;> (intro hb;rw[hb]))|apply bS rfl|apply bT rfl|(apply bU rfl <;> (intro hb;try rw[hb]))|apply bG mixed hC|apply bH|apply d0 rfl rfl rfl rfl rfl (by kernel_rfl)|apply dk rfl rfl rfl rfl (by kernel_rfl)|apply d1 rfl rfl rfl rfl (by kernel_rfl) rfl (by kernel_rfl)|apply ds rfl rfl rfl (by kernel_rfl) rfl (by kernel_rfl)|((fail_if_success apply dw rfl);apply dg rfl <;> (intro hb;rw[hb])))
     · exact jq rfl (FR.eq (by rw[hX,VH (D6 hv (by unfold mZ;rw[ZW hki hx (by unfold qj;simpa using hb),Bool.or_true]))]))
     · have hq:qj v x=false:=by unfold qj;simpa using hb
       have F7:=ok.np
       refine nZ (k+1) ⟨hki,λj hj y hy => ?_⟩ (by omega) (dP [(0,0),(1,1)] rfl hG ?_ ?_)
       · rcases Nat.lt_or_ge j k with h1|h1
         · exact hk.2 j h1 y hy
         · have:j=k:=by omega
           subst this
           rw[hx]at hy
           simp only[Option.some.injEq]at hy
           rw[← hy];exact hq
       · refine⟨Rn.eq ?_,Rn.lf _,Rn.ref (.tail _ (.head _)),?_⟩
         · rw[o7 hki (by omega)]
         repeat' (first|exact trivial|apply And.intro|exact Rn.lf _|exact Rn.ref (.head _)|exact Rn.fz (iN _)|exact Rn.fz (iL _)|exact Rn.fz (jS _)|exact Rn.fz (jm _)|exact Rn.fz (aZ _))
       · exact⟨⟨1,_,.tail _ (.head _),rfl,Rn.fz (EC _),rfl,rfl,λ_ h=>h⟩,⟨0,_,.head _,rfl,Rn.fz (aZ _),rfl,rfl,λ_ h=>h⟩,trivial⟩
   · refine nZ (i+1) (hi.succ hv (by unfold mZ;rw[← Mc,hbv,ZX (by simpa using hb) hk.2];rfl)) (by omega) (dP [(0,0)] rfl hG ?_ ?_)
     · refine⟨Rn.eq ?_,?_⟩
       · rw[o7 hl ok.np]
       repeat' (first|exact trivial|apply And.intro|exact Rn.lf _|exact Rn.ref (.head _)|exact Rn.fz (iN _)|exact Rn.fz (iL _)|exact Rn.fz (jS _)|exact Rn.fz (jm _)|exact Rn.fz (aZ _))
     · exact⟨⟨0,_,.head _,rfl,Rn.fz (aZ _),rfl,rfl,λ_ h=>h⟩,trivial⟩
 have a2:=hi.all (by simpa using hb)
 rw[Ct]at a2
 clear hi hb
 obtain⟨FB,Gm⟩:∃ b:Bool,b=qC DB o:=⟨_,rfl⟩
 refine Ai (Z [(126,some (bD FB)),(6,some (.ref 1 [])),(1,some (.ref 0 []))] [(1,some (nP o.slots o.cells o.stacks)),(0,some (gJ o))] 2 204) ?_ ?_
 · repeat' (first|apply bJ|apply bK|apply bL|apply bM|apply bN|apply bO rfl|apply bP rfl|apply bR|apply bQ|apply run_seq|apply bA|apply eB|apply bC|apply bF|apply bB|apply z0 hT rfl rfl rfl rfl|apply zk rfl rfl rfl|apply z1 hT rfl rfl rfl rfl|apply zs hT rfl rfl rfl|apply za hT rfl rfl rfl rfl|apply bE|((fail_if_success apply zw rfl);apply zg rfl <;> (intro hb;rw[hb]))|apply bS rfl|apply bT rfl|(apply bU rfl <;> (intro hb;try rw[hb]))|apply bG mixed hC|apply bH|apply d0 rfl rfl rfl rfl rfl (by kernel_rfl)|apply dk rfl rfl rfl rfl (by kernel_rfl)|apply d1 rfl rfl rfl rfl (by kernel_rfl) rfl (by kernel_rfl)|apply ds rfl rfl rfl (by kernel_rfl) rfl (by kernel_rfl)|((fail_if_success apply dw rfl);apply dg rfl <;> (intro hb;rw[hb]))|apply zc rfl rfl rfl rfl rfl rfl rfl HD)
   all_goals
    refine Bg (dP [(0,0),(1,4)] rfl hG ⟨Rn.eq (by rw[Gm];unfold qC;first|(simp_all;done)|(simp_all;omega)),Rn.ref (.tail _ (.head _)),Rn.ref (.head _),trivial⟩ ⟨⟨4,_,.tail _ (.head _),rfl,Rn.fz (r9 _ _ _),rfl,rfl,λ_ h=>h⟩,⟨0,_,.head _,rfl,Rn.fz (aZ _),rfl,rfl,λ_ h=>h⟩,trivial⟩)
 repeat' (first|apply bJ|apply bK|apply bL|apply bM|apply bN|apply bO rfl|apply bP rfl|apply bR|apply bQ|apply run_seq|apply bA|apply jC [1,6,16,21,30] rfl|apply bC|apply bF|apply bB|apply z0 hT rfl rfl rfl rfl|apply zk rfl rfl rfl|apply z1 hT rfl rfl rfl rfl|apply zs hT rfl rfl rfl|apply za hT rfl rfl rfl rfl|apply bE|((fail_if_success apply zw rfl);apply zg rfl <;> (intro hb;rw[hb]))|apply bS rfl|apply bT rfl|(apply bU rfl <;> (intro hb;try rw[hb]))|apply bG mixed hC|apply bH|apply d0 rfl rfl rfl rfl rfl (by kernel_rfl)|apply dk rfl rfl rfl rfl (by kernel_rfl)|apply d1 rfl rfl rfl rfl (by kernel_rfl) rfl (by kernel_rfl)|apply ds rfl rfl rfl (by kernel_rfl) rfl (by kernel_rfl)|((fail_if_success apply dw rfl);apply dg rfl <;> (intro hb;rw[hb])))
 · exact jq rfl (FR.eq (by rw[hX,fo3 (by rw[← hDB,← Gm];simpa using hb)]))
 have a3:qC iQ o=false:=by rw[← hDB,← Gm];simpa using hb
 clear hb Gm
 obtain⟨BS,Gn⟩:∃ f:aI->Bool,f=ou:=⟨_,rfl⟩
 refine nO (λi=>Z [(130,some (nD i)),(129,some (nD (o.slots.map kg).length)),(128,some (vN o.slots)),(6,some (.ref 1 [])),(1,some (.ref 0 []))] [(1,some (nP o.slots o.cells o.stacks)),(0,some (gJ o))] 2 204) (λi=>o.slots.length - i) (oq BS o.slots) 0 (.zero _ _) (dP [(0,0),(1,1)] rfl hG ⟨Rn.lf _,Rn.lf _,Rn.fz (iL _),Rn.ref (.tail _ (.head _)),?_⟩ ?_) ?_
 · repeat' (first|exact trivial|apply And.intro|exact Rn.lf _|exact Rn.ref (.head _)|exact Rn.fz (iN _)|exact Rn.fz (iL _)|exact Rn.fz (jS _)|exact Rn.fz (jm _)|exact Rn.fz (aZ _))
 · exact⟨⟨1,_,.tail _ (.head _),rfl,Rn.fz (r9 _ _ _),rfl,rfl,λ_ h=>h⟩,⟨0,_,.head _,rfl,Rn.fz (aZ _),rfl,rfl,λ_ h=>h⟩,trivial⟩
 intro i hi
 repeat' (first|apply bJ|apply bK|apply bL|apply bM|apply bN|apply bO rfl|apply bP rfl|apply bR|apply bQ|apply run_seq|apply bA|apply jC [1,6,16,21,30] rfl|apply bC|apply bF|apply bB|apply z0 hT rfl rfl rfl rfl|apply zk rfl rfl rfl|apply z1 hT rfl rfl rfl rfl|apply zs hT rfl rfl rfl|apply za hT rfl rfl rfl rfl|apply bE|((fail_if_success apply zw rfl);apply zg rfl <;> (intro hb;rw[hb]))|apply bS rfl|apply bT rfl|(apply bU rfl <;> (intro hb;try rw[hb]))|apply bG mixed hC|apply bH|apply d0 rfl rfl rfl rfl rfl (by kernel_rfl)|apply dk rfl rfl rfl rfl (by kernel_rfl)|apply d1 rfl rfl rfl rfl (by kernel_rfl) rfl (by kernel_rfl)|apply ds rfl rfl rfl (by kernel_rfl) rfl (by kernel_rfl)|((fail_if_success apply dw rfl);apply dg rfl <;> (intro hb;rw[hb])))
 · have hl:i<o.slots.length:=by simpa using hb
   obtain⟨v,hv⟩:∃ v,o.slots[i]? = some v:=⟨_,List.getElem?_eq_getElem hl⟩
   apply zi hT rfl rfl rfl rfl rfl rfl rfl rfl (nQ (f:=kg) hv) rfl
   repeat' (first|apply bJ|apply bK|apply bL|apply bM|apply bN|apply bO rfl|apply bP rfl|apply bR|apply bQ|apply run_seq|apply bA|apply jC [1,6,16,21,30] rfl|apply bC|apply bF|apply bB|apply z0 hT rfl rfl rfl rfl|apply zk rfl rfl rfl|apply z1 hT rfl rfl rfl rfl|apply zs hT rfl rfl rfl|apply za hT rfl rfl rfl rfl|apply bE|((fail_if_success apply zw rfl);apply zg rfl <;> (intro hb;rw[hb]))|apply bS rfl|apply bT rfl|(apply bU rfl <;> (intro hb;try rw[hb]))|apply bG mixed hC|apply bH|apply d0 rfl rfl rfl rfl rfl (by kernel_rfl)|apply dk rfl rfl rfl rfl (by kernel_rfl)|apply d1 rfl rfl rfl rfl (by kernel_rfl) rfl (by kernel_rfl)|apply ds rfl rfl rfl (by kernel_rfl) rfl (by kernel_rfl)|((fail_if_success apply dw rfl);apply dg rfl <;> (intro hb;rw[hb])))
   refine Ai (Z [(157,some (bD (BS v))),(6,some (.ref 1 [])),(130,some (nD i)),(129,some (nD (o.slots.map kg).length)),(128,some (vN o.slots)),(1,some (.ref 0 []))] [(1,some (nP o.slots o.cells o.stacks)),(0,some (gJ o))] 2 204) ?_ ?_
   · repeat' (first|apply bJ|apply bK|apply bL|apply bM|apply bN|apply bO rfl|apply bP rfl|apply bR|apply bQ|apply run_seq|apply bA|apply eB|apply bC|apply bF|apply bB|apply z0 hT rfl rfl rfl rfl|apply zk rfl rfl rfl|apply z1 hT rfl rfl rfl rfl|apply zs hT rfl rfl rfl|apply za hT rfl rfl rfl rfl|apply bE|((fail_if_success apply zw rfl);apply zg rfl <;> (intro hb;rw[hb]))|apply bS rfl|apply bT rfl|(apply bU rfl <;> (intro hb;try rw[hb]))|apply bG mixed hC|apply bH|apply d0 rfl rfl rfl rfl rfl (by kernel_rfl)|apply dk rfl rfl rfl rfl (by kernel_rfl)|apply d1 rfl rfl rfl rfl (by kernel_rfl) rfl (by kernel_rfl)|apply ds rfl rfl rfl (by kernel_rfl) rfl (by kernel_rfl)|((fail_if_success apply dw rfl);apply dg rfl <;> (intro hb;rw[hb])))
     all_goals
      refine Bg (dP [(0,0),(1,1)] rfl hG ⟨Rn.eq (by rw[Gn];unfold ou;first|(simp_all;done)|(simp_all [bne];done)|(simp only[bne]at *;simp[*];done)|(simp_all;omega)),Rn.ref (.tail _ (.head _)),?_⟩ ⟨⟨1,_,.tail _ (.head _),rfl,Rn.fz (r9 _ _ _),rfl,rfl,λ_ h=>h⟩,⟨0,_,.head _,rfl,Rn.fz (aZ _),rfl,rfl,λ_ h=>h⟩,trivial⟩)
      repeat' (first|exact trivial|apply And.intro|exact Rn.lf _|exact Rn.ref (.head _)|exact Rn.fz (iN _)|exact Rn.fz (iL _)|exact Rn.fz (jS _)|exact Rn.fz (jm _)|exact Rn.fz (aZ _))
   repeat' (first|apply bJ|apply bK|apply bL|apply bM|apply bN|apply bO rfl|apply bP rfl|apply bR|apply bQ|apply run_seq|apply bA|apply jC [1,6,16,21,30] rfl|apply bC|apply bF|apply bB|apply z0 hT rfl rfl rfl rfl|apply zk rfl rfl rfl|apply z1 hT rfl rfl rfl rfl|apply zs hT rfl rfl rfl|apply za hT rfl rfl rfl rfl|apply bE|((fail_if_success apply zw rfl);apply zg rfl <;> (intro hb;rw[hb]))|apply bS rfl|apply bT rfl|(apply bU rfl <;> (intro hb;try rw[hb]))|apply bG mixed hC|apply bH|apply d0 rfl rfl rfl rfl rfl (by kernel_rfl)|apply dk rfl rfl rfl rfl (by kernel_rfl)|apply d1 rfl rfl rfl rfl (by kernel_rfl) rfl (by kernel_rfl)|apply ds rfl rfl rfl (by kernel_rfl) rfl (by kernel_rfl)|((fail_if_success apply dw rfl);apply dg rfl <;> (intro hb;rw[hb])))
   · exact jq rfl (FR.eq (by rw[hX,fo4 (El hv (by rw[← Gn];simpa using hb))]))
   · refine nZ (i+1) (hi.succ hv (by simpa using hb)) (by omega) (dP [(0,0),(1,1)] rfl hG ⟨Rn.eq ?_,Rn.lf _,Rn.fz (iL _),Rn.ref (.tail _ (.head _)),Rn.ref (.head _),trivial⟩ ⟨⟨1,_,.tail _ (.head _),rfl,Rn.fz (r9 _ _ _),rfl,rfl,λ_ h=>h⟩,⟨0,_,.head _,rfl,Rn.fz (aZ _),rfl,rfl,λ_ h=>h⟩,trivial⟩)
     have:=ok.few
     rw[o7 hl (by omega)]
 have a4:=hi.all (by simpa using hb)
 rw[Gn]at a4
 clear hi hb Gn BS
 refine nO (λi=>Z [(162,some (nD i)),(161,some (nD (o.params.map iW).length)),(160,some (qf o.params)),(6,some (.ref 1 [])),(1,some (.ref 0 []))] [(1,some (nP o.slots o.cells o.stacks)),(0,some (gJ o))] 2 204) (λi=>o.params.length - i) (qZ (lW o.slots) o.params) 0 (.zero _ _) (dP [(0,0),(1,1)] rfl hG ⟨Rn.lf _,Rn.lf _,Rn.fz (iN _),Rn.ref (.tail _ (.head _)),?_⟩ ?_) ?_
 · repeat' (first|exact trivial|apply And.intro|exact Rn.lf _|exact Rn.ref (.head _)|exact Rn.fz (iN _)|exact Rn.fz (iL _)|exact Rn.fz (jS _)|exact Rn.fz (jm _)|exact Rn.fz (aZ _))
 · exact⟨⟨1,_,.tail _ (.head _),rfl,Rn.fz (r9 _ _ _),rfl,rfl,λ_ h=>h⟩,⟨0,_,.head _,rfl,Rn.fz (aZ _),rfl,rfl,λ_ h=>h⟩,trivial⟩
 intro i hi
 repeat' (first|apply bJ|apply bK|apply bL|apply bM|apply bN|apply bO rfl|apply bP rfl|apply bR|apply bQ|apply run_seq|apply bA|apply jC [1,6,16,21,30] rfl|apply bC|apply bF|apply bB|apply z0 hT rfl rfl rfl rfl|apply zk rfl rfl rfl|apply z1 hT rfl rfl rfl rfl|apply zs hT rfl rfl rfl|apply za hT rfl rfl rfl rfl|apply bE|((fail_if_success apply zw rfl);apply zg rfl <;> (intro hb;rw[hb]))|apply bS rfl|apply bT rfl|(apply bU rfl <;> (intro hb;try rw[hb]))|apply bG mixed hC|apply bH|apply d0 rfl rfl rfl rfl rfl (by kernel_rfl)|apply dk rfl rfl rfl rfl (by kernel_rfl)|apply d1 rfl rfl rfl rfl (by kernel_rfl) rfl (by kernel_rfl)|apply ds rfl rfl rfl (by kernel_rfl) rfl (by kernel_rfl)|((fail_if_success apply dw rfl);apply dg rfl <;> (intro hb;rw[hb])))
 · have hl:i<o.params.length:=by simpa using hb
   obtain⟨v,hv⟩:∃ v,o.params[i]? = some v:=⟨_,List.getElem?_eq_getElem hl⟩
   clear hb
   apply zi hT rfl rfl rfl rfl rfl rfl rfl rfl (nQ (f:=iW) hv) rfl
   repeat' (first|apply bJ|apply bK|apply bL|apply bM|apply bN|apply bO rfl|apply bP rfl|apply bR|apply bQ|apply run_seq|apply bA|apply jC [1,6,16,21,30] rfl|apply bC|apply bF|apply bB|apply z0 hT rfl rfl rfl rfl|apply zk rfl rfl rfl|apply z1 hT rfl rfl rfl rfl|apply zs hT rfl rfl rfl|apply za hT rfl rfl rfl rfl|apply bE|((fail_if_success apply zw rfl);apply zg rfl <;> (intro hb;rw[hb]))|apply bS rfl|apply bT rfl|(apply bU rfl <;> (intro hb;try rw[hb]))|apply bG mixed hC|apply bH|apply d0 rfl rfl rfl rfl rfl (by kernel_rfl)|apply dk rfl rfl rfl rfl (by kernel_rfl)|apply d1 rfl rfl rfl rfl (by kernel_rfl) rfl (by kernel_rfl)|apply ds rfl rfl rfl (by kernel_rfl) rfl (by kernel_rfl)|((fail_if_success apply dw rfl);apply dg rfl <;> (intro hb;rw[hb])))
   · have:o.slots[i]? = none:=List.getElem?_eq_none (by simpa using hb)
     exact jq rfl (FR.eq (by rw[hX,VI a1 a2 a3 a4 (D6 hv (by unfold lW;rw[this]))]))
   have hs:i<o.slots.length:=by simpa using hb
   obtain⟨s,hs⟩:∃ s,o.slots[i]? = some s:=⟨_,List.getElem?_eq_getElem hs⟩
   clear hb
   apply zi hT rfl rfl rfl rfl rfl rfl rfl rfl (nQ (f:=kg) hs) rfl
   obtain⟨MA,Md⟩:∃ b:Bool,b=BN v s:=⟨_,rfl⟩
   repeat' (first|apply bJ|apply bK|apply bL|apply bM|apply bN|apply bO rfl|apply bP rfl|apply bR|apply bQ|apply run_seq|apply bA|apply jC [1,6,16,21,30] rfl|apply bC|apply bF|apply bB|apply z0 hT rfl rfl rfl rfl|apply zk rfl rfl rfl|apply z1 hT rfl rfl rfl rfl|apply zs hT rfl rfl rfl|apply za hT rfl rfl rfl rfl|apply bE|((fail_if_success apply zw rfl);apply zg rfl <;> (intro hb;rw[hb]))|apply bS rfl|apply bT rfl|(apply bU rfl <;> (intro hb;try rw[hb]))|apply bG mixed hC|apply bH|apply d0 rfl rfl rfl rfl rfl (by kernel_rfl)|apply dk rfl rfl rfl rfl (by kernel_rfl)|apply d1 rfl rfl rfl rfl (by kernel_rfl) rfl (by kernel_rfl)|apply ds rfl rfl rfl (by kernel_rfl) rfl (by kernel_rfl)|((fail_if_success apply dw rfl);apply dg rfl <;> (intro hb;rw[hb])))
   refine Ai (Z [(195,some (bD MA)),(6,some (.ref 1 [])),(162,some (nD i)),(161,some (nD (o.params.map iW).length)),(160,some (qf o.params)),(1,some (.ref 0 []))] [(1,some (nP o.slots o.cells o.stacks)),(0,some (gJ o))] 2 204) ?_ ?_
   · repeat' (first|apply bJ|apply bK|apply bL|apply bM|apply bN|apply bO rfl|apply bP rfl|apply bR|apply bQ|apply run_seq|apply bA|apply eB|apply bC|apply bF|apply bB|apply z0 hT rfl rfl rfl rfl|apply zk rfl rfl rfl|apply z1 hT rfl rfl rfl rfl|apply zs hT rfl rfl rfl|apply za hT rfl rfl rfl rfl|apply bE|((fail_if_success apply zw rfl);apply zg rfl <;> (intro hb;rw[hb]))|apply bS rfl|apply bT rfl|(apply bU rfl <;> (intro hb;try rw[hb]))|apply bG mixed hC|apply bH|apply d0 rfl rfl rfl rfl rfl (by kernel_rfl)|apply dk rfl rfl rfl rfl (by kernel_rfl)|apply d1 rfl rfl rfl rfl (by kernel_rfl) rfl (by kernel_rfl)|apply ds rfl rfl rfl (by kernel_rfl) rfl (by kernel_rfl)|((fail_if_success apply dw rfl);apply dg rfl <;> (intro hb;rw[hb])))
     all_goals
      refine Bg (dP [(0,0),(1,1)] rfl hG ⟨Rn.eq (by rw[Md];unfold BN;first|(simp_all;done)|(simp_all [bne];done)|(simp only[bne]at *;simp[*];done)),Rn.ref (.tail _ (.head _)),?_⟩ ⟨⟨1,_,.tail _ (.head _),rfl,Rn.fz (r9 _ _ _),rfl,rfl,λ_ h=>h⟩,⟨0,_,.head _,rfl,Rn.fz (aZ _),rfl,rfl,λ_ h=>h⟩,trivial⟩)
      repeat' (first|exact trivial|apply And.intro|exact Rn.lf _|exact Rn.ref (.head _)|exact Rn.fz (iN _)|exact Rn.fz (iL _)|exact Rn.fz (jS _)|exact Rn.fz (jm _)|exact Rn.fz (aZ _))
   repeat' (first|apply bJ|apply bK|apply bL|apply bM|apply bN|apply bO rfl|apply bP rfl|apply bR|apply bQ|apply run_seq|apply bA|apply jC [1,6,16,21,30] rfl|apply bC|apply bF|apply bB|apply z0 hT rfl rfl rfl rfl|apply zk rfl rfl rfl|apply z1 hT rfl rfl rfl rfl|apply zs hT rfl rfl rfl|apply za hT rfl rfl rfl rfl|apply bE|((fail_if_success apply zw rfl);apply zg rfl <;> (intro hb;rw[hb]))|apply bS rfl|apply bT rfl|(apply bU rfl <;> (intro hb;try rw[hb]))|apply bG mixed hC|apply bH|apply d0 rfl rfl rfl rfl rfl (by kernel_rfl)|apply dk rfl rfl rfl rfl (by kernel_rfl)|apply d1 rfl rfl rfl rfl (by kernel_rfl) rfl (by kernel_rfl)|apply ds rfl rfl rfl (by kernel_rfl) rfl (by kernel_rfl)|((fail_if_success apply dw rfl);apply dg rfl <;> (intro hb;rw[hb])))
   · exact jq rfl (FR.eq (by rw[hX,VI a1 a2 a3 a4 (D6 hv (by unfold lW;rw[hs];simp only;rw[← Md];simpa using hb))]))
   · refine nZ (i+1) (hi.succ hv (by unfold lW;rw[hs];simp only;rw[← Md];simpa using hb)) (by omega) (dP [(0,0),(1,1)] rfl hG ⟨Rn.eq ?_,Rn.lf _,Rn.fz (iN _),Rn.ref (.tail _ (.head _)),Rn.ref (.head _),trivial⟩ ⟨⟨1,_,.tail _ (.head _),rfl,Rn.fz (r9 _ _ _),rfl,rfl,λ_ h=>h⟩,⟨0,_,.head _,rfl,Rn.fz (aZ _),rfl,rfl,λ_ h=>h⟩,trivial⟩)
     rw[o7 hl ok.np]
 have a5:=hi.all (by simpa using hb)
 clear hi hb
 repeat' (first|apply bJ|apply bK|apply bL|apply bM|apply bN|apply bO rfl|apply bP rfl|apply bR|apply bQ|apply run_seq|apply bA|apply eB|apply bC|apply bF|apply bB|apply z0 hT rfl rfl rfl rfl|apply zk rfl rfl rfl|apply z1 hT rfl rfl rfl rfl|apply zs hT rfl rfl rfl|apply za hT rfl rfl rfl rfl|apply bE|((fail_if_success apply zw rfl);apply zg rfl <;> (intro hb;rw[hb]))|apply bS rfl|apply bT rfl|(apply bU rfl <;> (intro hb;try rw[hb]))|apply bG mixed hC|apply bH|apply d0 rfl rfl rfl rfl rfl (by kernel_rfl)|apply dk rfl rfl rfl rfl (by kernel_rfl)|apply d1 rfl rfl rfl rfl (by kernel_rfl) rfl (by kernel_rfl)|apply ds rfl rfl rfl (by kernel_rfl) rfl (by kernel_rfl)|((fail_if_success apply dw rfl);apply dg rfl <;> (intro hb;rw[hb]))|apply zc rfl rfl rfl rfl rfl rfl rfl HP)
 exact jq rfl (FR.eq (by rw[hX,fo6 a1 a2 a3 a4 a5,VJ]))
end Go.Proofs.YtadecgbblajifaaGreatDoor.DV
namespace Go.Proofs.YtadecgbblajifaaGreatDoor
end Go.Proofs.YtadecgbblajifaaGreatDoor
