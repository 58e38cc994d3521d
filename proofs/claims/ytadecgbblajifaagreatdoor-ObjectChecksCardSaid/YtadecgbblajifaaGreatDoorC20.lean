import Derived.Test.YtadecgbblajifaaGreatDoorC19
set_option linter.unusedSimpArgs false
set_option linter.unusedVariables false
set_option maxRecDepth 100000
set_option maxHeartbeats 25600000
namespace Go.Proofs.YtadecgbblajifaaGreatDoor
end Go.Proofs.YtadecgbblajifaaGreatDoor
namespace Go.Proofs.YtadecgbblajifaaGreatDoor.DV
open Go
theorem JY:cellsD (match bB 0 with | .fp d=>d|_ => .aO)=some qo:=by kernel_rfl
theorem Na:bB 0 = .fp (match bB 0 with | .fp d=>d|_ => .aO):=rfl
theorem KJ:((List.range 35).map λk=>qo[k * 2+1]?)=(List.range 35).map λk=>some (Value.int .i64 (iq.getD k 0)):=by kernel_rfl
theorem Ec {g:G} {w:World} (hfm:∀ b c,g.fm b=some c->mem w b=some c) (h:∀ i,VR g (bB i) (.pointer (some ⟨i,0,none⟩))):Go.Proofs.YtadecgbblajifaaGreatDoor.bZ w:=λk hk=>by
 have h1:=h 0
 rw[Na]at h1
 refine KD hfm h1 JY _ _ ?_
 have h2:=congrArg (λl=>l[k]?) KJ
 simp only[List.getElem?_map,List.getElem?_range hk,Option.map_some,Option.some.injEq]at h2
 exact h2
theorem KL {g:G} {w:World} {l:List Ins} {k:List bC} {v:Value} (hfm:∀ b c,g.fm b=some c->mem w b=some c) (hl:l.length<=9223372036854775807) (hk:k.length<=9223372036854775807) (h:VR g (pE l k) v):∃ cv rv,v = .agg #[cv,rv]/\aA 5 Ins.cells w cv l/\aA 2 bC.cells w rv k:=by
 obtain⟨cs,rfl,hc⟩:=zu h
 simp only[ah]at hc
 obtain⟨h0,h1,h2,h3,h4⟩:=hc
 match cs,h0 with
 |c :: cs,_ =>
  simp only[List.take_succ_cons,List.take_zero,List.drop_succ_cons,List.drop_zero]at h1 h2 h3 h4
  match cs,h2 with
  |c2 :: cs,_ =>
   simp only[List.take_succ_cons,List.take_zero,List.drop_succ_cons,List.drop_zero]at h3 h4
   subst h4
   exact⟨c,c2,rfl,row_of (enc:=pW) hfm (λx=>rfl) hl (by simpa only[VR,CR]using h1),row_of (enc:=l7) hfm (λx=>rfl) hk (by simpa only[VR,CR]using h3)⟩
theorem Nb (l:List Ins) (k:List bC) (hl:l.length<=9223372036854775807) (hk:k.length<=9223372036854775807) (hop:∀ x∈l,0<=x.op/\x.op<=255):Pure Tryz.prog bB 40 [pE l k] (.tu [iD (cZ l k).1,iD (cZ l k).2]):=KC (v := .tuple #[.int .i64 (cZ l k).1,.int .i64 (cZ l k).2]) (λg=>by simp[VR,CR,au]) (by kernel_rfl) λg w vs hfm hgl h=>by
 simp only[au]at h
 obtain⟨v,vs',rfl,h1,rfl⟩:=h
 obtain⟨cv,rv,rfl,hr,hq⟩:=KL hfm hl hk h1
 exact(Br cv rv l k w (Ec hfm hgl) hr hq hop).mono λe w' h=>⟨h.1,uA h.2⟩
structure EF (o:aM):Prop where
 name:o.name.size<=9223372036854775807
 Ov:∀ v∈o.params,v.name.size<=9223372036854775807
 few:o.slots.length<=4398046511104
 np:o.params.length<=9223372036854775807
 nc:o.code.length<=9223372036854775807
 nr:o.refs.length<=9223372036854775807
 op:∀ x∈o.code,0<=x.op/\x.op<=255
def kG (f:ByteArray->Bool) (o:aM):Bool:=((o.name.toList == (⟨#[]⟩:ByteArray).toList) && decide ((o.params.length:Int) > 0)) || ((!(o.name.toList == (⟨#[]⟩:ByteArray).toList)) && !(f o.name)) || decide ((o.params.length:Int) > 8)
def rZ (f:ByteArray->Bool) (v:aH):Bool := !(f v.name) || (!(v.kind == 1 || v.kind == 3) && !(v.kind == 2)) || ((v.kind == 2) != !(v.len == 0)) || decide (v.len<0) || decide (v.len > 16)
def ko (v x:aH):Bool:=x.name.toList == v.name.toList
def iY (f:ByteArray->Bool) (l:List aH) (j:Nat) (v:aH):Bool:=rZ f v || (l.take j).any (ko v)
def kH (f:List ay->Int->Int->Bool) (o:aM):Bool := !(f o.slots o.cells o.stacks) || decide (o.cells<0) || decide (o.cells > 16384) || decide (o.stacks<0) || decide (o.stacks > 16384)
def jD (s:ay):Bool:=decide ((s.name.size:Int) > 255) || ((s.kind == 2) && decide (s.len > 16)) || (!(s.kind == 2) && !(s.len == 0))
def r9 (v:aH) (s:ay):Bool := !(s.name.toList == v.name.toList) || !(s.kind == v.kind) || !(s.len == v.len)
def iC (l:List ay) (j:Nat) (v:aH):Bool:=match l[j]? with
 |none=>true
 |some s=>r9 v s
def gp (o:aM):Int:=if kG aS o || anyI (iY aS o.params) o.params || kH dZ o || o.slots.any jD then 3 else if anyI (iC o.slots) o.params then 20 else(cZ o.code o.refs).2
theorem Po {o:aM} (h:kG aS o=true):gp o=3:=by simp[gp,h]
theorem G6 {o:aM} (h:anyI (iY aS o.params) o.params=true):gp o=3:=by simp[gp,h]
theorem Pp {o:aM} (h:kH dZ o=true):gp o=3:=by simp[gp,h]
theorem Pq {o:aM} (h:o.slots.any jD=true):gp o=3:=by unfold gp;rw[h];simp
theorem G7 {o:aM} (h1:kG aS o=false) (h2:anyI (iY aS o.params) o.params=false) (h3:kH dZ o=false) (h4:o.slots.any jD=false) (h5:anyI (iC o.slots) o.params=true):gp o=20:=by unfold gp;rw[h1,h2,h3,h4,h5];rfl
theorem Ps {o:aM} (h1:kG aS o=false) (h2:anyI (iY aS o.params) o.params=false) (h3:kH dZ o=false) (h4:o.slots.any jD=false) (h5:anyI (iC o.slots) o.params=false):gp o=(cZ o.code o.refs).2:=by unfold gp;rw[h1,h2,h3,h4,h5];rfl
theorem KM {l:List aH} {v x:aH} {i k:Nat} (hk:k<i) (hx:l[k]? = some x) (h:ko v x=true):(l.take i).any (ko v)=true:=List.any_eq_true.2 ⟨x,List.mem_of_getElem? (i:=k) (by rw[List.getElem?_take,if_pos hk];exact hx),h⟩
theorem KN {l:List aH} {v:aH} {i k:Nat} (hk:¬ k<i) (h:∀ j,j<k->∀ x,l[j]? = some x->ko v x=false):(l.take i).any (ko v)=false:=by
 rw[List.any_eq_false]
 intro x hx
 obtain⟨j,hj,rfl⟩:=List.getElem_of_mem hx
 have hj':j<i/\j<l.length:=by simp at hj;omega
 have:=h j (by omega) _ (List.getElem?_eq_getElem hj'.2)
 simpa using this
theorem Mm (o:aM) (ok:EF o):Pure Tryz.prog bB 20 [eP o] (iD (gp o)):=by
 have hnm:=ok.name
 obtain⟨X,hX⟩:∃ x,x=gp o:=⟨_,rfl⟩
 rw[← hX]
 obtain⟨NB,sW⟩:∃ f:ByteArray->Bool,f=aS:=⟨_,rfl⟩
 have HN:∀ s:ByteArray,s.size<=9223372036854775807->Pure Tryz.prog bB 41 [sD s] (bD (NB s)):=by rw[sW];exact MX
 obtain⟨DB,hDB⟩:∃ f:List ay->Int->Int->Bool,f=dZ:=⟨_,rfl⟩
 have HD:Pure Tryz.prog bB 42 [jm o.slots o.cells o.stacks] (bD (DB o.slots o.cells o.stacks)):=by rw[hDB];exact MZ _ _ _ ok.few
 obtain⟨PC,G8⟩:∃ f:Int × Int,f=cZ o.code o.refs:=⟨_,rfl⟩
 have HP:Pure Tryz.prog bB 40 [pE o.code o.refs] (.tu [iD PC.1,iD PC.2]):=by rw[G8];exact Nb _ _ ok.nc ok.nr ok.op
 refine x9 (C:=Cs) hT Tryz.func20 rfl rfl rfl (by simp[aQ]) hG λB => ?_
 unfold Tryz.f20
 obtain⟨HB,hHB⟩:∃ b:Bool,b=kG NB o:=⟨_,rfl⟩
 repeat' (first|apply bM|apply bN|apply bO|apply bP|apply bQ|apply bR rfl|apply bS rfl|apply bU|apply bT|apply run_seq|apply bF|apply gB [1,6,16,21,30] rfl|apply bH|apply bJ|apply bG|apply z0 hT rfl rfl rfl rfl|apply zk rfl rfl rfl|apply z1 hT rfl rfl rfl rfl|apply zs hT rfl rfl rfl|apply za hT rfl rfl rfl rfl|apply bI|((fail_if_success apply zw rfl);apply zg rfl <;> (intro hb;rw[hb]))|apply bV rfl|apply bW rfl|(apply bX rfl <;> (intro hb;try rw[hb]))|apply bK mixed hC|apply bL|apply d0 rfl rfl rfl rfl rfl (by kernel_rfl)|apply dk rfl rfl rfl rfl (by kernel_rfl)|apply d1 rfl rfl rfl rfl (by kernel_rfl) rfl (by kernel_rfl)|apply ds rfl rfl rfl (by kernel_rfl) rfl (by kernel_rfl)|((fail_if_success apply dw rfl);apply dg rfl <;> (intro hb;rw[hb])))
 refine qJ (Z [(39,some (bD HB)),(1,some (.ref 0 []))] [(0,some (eP o))] 1 204) ?_ ?_
 · repeat' (first|apply bM|apply bN|apply bO|apply bP|apply bQ|apply bR rfl|apply bS rfl|apply bU|apply bT|apply run_seq|apply bF|apply gF|apply bH|apply bJ|apply bG|apply z0 hT rfl rfl rfl rfl|apply zk rfl rfl rfl|apply z1 hT rfl rfl rfl rfl|apply zs hT rfl rfl rfl|apply za hT rfl rfl rfl rfl|apply bI|((fail_if_success apply zw rfl);apply zg rfl <;> (intro hb;rw[hb]))|apply bV rfl|apply bW rfl|(apply bX rfl <;> (intro hb;try rw[hb]))|apply bK mixed hC|apply bL|apply d0 rfl rfl rfl rfl rfl (by kernel_rfl)|apply dk rfl rfl rfl rfl (by kernel_rfl)|apply d1 rfl rfl rfl rfl (by kernel_rfl) rfl (by kernel_rfl)|apply ds rfl rfl rfl (by kernel_rfl) rfl (by kernel_rfl)|((fail_if_success apply dw rfl);apply dg rfl <;> (intro hb;rw[hb]))|apply zc rfl rfl rfl rfl rfl rfl rfl (HN _ (by assumption)))
   all_goals
    refine rE (eO [(0,0)] rfl hG ⟨Rn.eq (by rw[hHB];unfold kG;simp_all),Rn.ref (.head _),trivial⟩ ⟨⟨0,_,.head _,rfl,Rn.fz (aQ _),rfl,rfl,λ_ h=>h⟩,trivial⟩)
 repeat' (first|apply bM|apply bN|apply bO|apply bP|apply bQ|apply bR rfl|apply bS rfl|apply bU|apply bT|apply run_seq|apply bF|apply gB [1,6,16,21,30] rfl|apply bH|apply bJ|apply bG|apply z0 hT rfl rfl rfl rfl|apply zk rfl rfl rfl|apply z1 hT rfl rfl rfl rfl|apply zs hT rfl rfl rfl|apply za hT rfl rfl rfl rfl|apply bI|((fail_if_success apply zw rfl);apply zg rfl <;> (intro hb;rw[hb]))|apply bV rfl|apply bW rfl|(apply bX rfl <;> (intro hb;try rw[hb]))|apply bK mixed hC|apply bL|apply d0 rfl rfl rfl rfl rfl (by kernel_rfl)|apply dk rfl rfl rfl rfl (by kernel_rfl)|apply d1 rfl rfl rfl rfl (by kernel_rfl) rfl (by kernel_rfl)|apply ds rfl rfl rfl (by kernel_rfl) rfl (by kernel_rfl)|((fail_if_success apply dw rfl);apply dg rfl <;> (intro hb;rw[hb])))
 · exact gP rfl (FR.eq (by rw[hX,Po (by rw[← sW,← hHB];simpa using hb)]))
 have a1:kG aS o=false:=by rw[← sW,← hHB];simpa using hb
 clear hb hHB
 obtain⟨BV,Av⟩:∃ f:aH->Bool,f=rZ NB:=⟨_,rfl⟩
 refine ny (λi=>Z [(43,some (nD i)),(42,some (nD (o.params.map fO).length)),(41,some (kR o.params)),(1,some (.ref 0 []))] [(0,some (eP o))] 1 204) (λi=>o.params.length - i) (kQ (iY NB o.params) o.params) 0 (.zero _ _) (eO [(0,0)] rfl hG ?_ ?_) ?_
 · repeat' (first|exact trivial|apply And.intro|exact Rn.lf _|exact Rn.ref (.head _)|exact Rn.fz (fe _)|exact Rn.fz (eZ _)|exact Rn.fz (fZ _)|exact Rn.fz (gm _)|exact Rn.fz (aQ _))
 · exact⟨⟨0,_,.head _,rfl,Rn.fz (aQ _),rfl,rfl,λ_ h=>h⟩,trivial⟩
 intro i hi
 repeat' (first|apply bM|apply bN|apply bO|apply bP|apply bQ|apply bR rfl|apply bS rfl|apply bU|apply bT|apply run_seq|apply bF|apply gB [1,6,16,21,30] rfl|apply bH|apply bJ|apply bG|apply z0 hT rfl rfl rfl rfl|apply zk rfl rfl rfl|apply z1 hT rfl rfl rfl rfl|apply zs hT rfl rfl rfl|apply za hT rfl rfl rfl rfl|apply bI|((fail_if_success apply zw rfl);apply zg rfl <;> (intro hb;rw[hb]))|apply bV rfl|apply bW rfl|(apply bX rfl <;> (intro hb;try rw[hb]))|apply bK mixed hC|apply bL|apply d0 rfl rfl rfl rfl rfl (by kernel_rfl)|apply dk rfl rfl rfl rfl (by kernel_rfl)|apply d1 rfl rfl rfl rfl (by kernel_rfl) rfl (by kernel_rfl)|apply ds rfl rfl rfl (by kernel_rfl) rfl (by kernel_rfl)|((fail_if_success apply dw rfl);apply dg rfl <;> (intro hb;rw[hb])))
 · have hl:i<o.params.length:=by simpa using hb
   obtain⟨v,hv⟩:∃ v,o.params[i]? = some v:=⟨_,List.getElem?_eq_getElem hl⟩
   have Aw:=ok.Ov v (List.mem_of_getElem? hv)
   apply zi hT rfl rfl rfl rfl rfl rfl rfl rfl (lJ (f:=fO) hv) rfl
   repeat' (first|apply bM|apply bN|apply bO|apply bP|apply bQ|apply bR rfl|apply bS rfl|apply bU|apply bT|apply run_seq|apply bF|apply gB [1,6,16,21,30] rfl|apply bH|apply bJ|apply bG|apply z0 hT rfl rfl rfl rfl|apply zk rfl rfl rfl|apply z1 hT rfl rfl rfl rfl|apply zs hT rfl rfl rfl|apply za hT rfl rfl rfl rfl|apply bI|((fail_if_success apply zw rfl);apply zg rfl <;> (intro hb;rw[hb]))|apply bV rfl|apply bW rfl|(apply bX rfl <;> (intro hb;try rw[hb]))|apply bK mixed hC|apply bL|apply d0 rfl rfl rfl rfl rfl (by kernel_rfl)|apply dk rfl rfl rfl rfl (by kernel_rfl)|apply d1 rfl rfl rfl rfl (by kernel_rfl) rfl (by kernel_rfl)|apply ds rfl rfl rfl (by kernel_rfl) rfl (by kernel_rfl)|((fail_if_success apply dw rfl);apply dg rfl <;> (intro hb;rw[hb])))
   refine qJ (Z [(86,some (bD (BV v))),(4,some (.ref 1 [])),(3,some (nD i)),(43,some (nD i)),(42,some (nD (o.params.map fO).length)),(41,some (kR o.params)),(1,some (.ref 0 []))] [(1,some (fO v)),(0,some (eP o))] 2 204) ?_ ?_
   · repeat' (first|apply bM|apply bN|apply bO|apply bP|apply bQ|apply bR rfl|apply bS rfl|apply bU|apply bT|apply run_seq|apply bF|apply gF|apply bH|apply bJ|apply bG|apply z0 hT rfl rfl rfl rfl|apply zk rfl rfl rfl|apply z1 hT rfl rfl rfl rfl|apply zs hT rfl rfl rfl|apply za hT rfl rfl rfl rfl|apply bI|((fail_if_success apply zw rfl);apply zg rfl <;> (intro hb;rw[hb]))|apply bV rfl|apply bW rfl|(apply bX rfl <;> (intro hb;try rw[hb]))|apply bK mixed hC|apply bL|apply d0 rfl rfl rfl rfl rfl (by kernel_rfl)|apply dk rfl rfl rfl rfl (by kernel_rfl)|apply d1 rfl rfl rfl rfl (by kernel_rfl) rfl (by kernel_rfl)|apply ds rfl rfl rfl (by kernel_rfl) rfl (by kernel_rfl)|((fail_if_success apply dw rfl);apply dg rfl <;> (intro hb;rw[hb]))|apply zc rfl rfl rfl rfl rfl rfl rfl (HN _ (by assumption)))
     all_goals
      refine rE (eO [(0,0),(1,5)] rfl hG ⟨Rn.eq (by rw[Av];unfold rZ;first|(simp_all;done)|(simp_all;omega)),Rn.ref (.tail _ (.head _)),?_⟩ ⟨⟨5,_,.tail _ (.head _),rfl,Rn.fz (uX _),rfl,rfl,λ_ h=>h⟩,⟨0,_,.head _,rfl,Rn.fz (aQ _),rfl,rfl,λ_ h=>h⟩,trivial⟩)
      repeat' (first|exact trivial|apply And.intro|exact Rn.lf _|exact Rn.ref (.head _)|exact Rn.fz (fe _)|exact Rn.fz (eZ _)|exact Rn.fz (fZ _)|exact Rn.fz (gm _)|exact Rn.fz (aQ _))
   repeat' (first|apply bM|apply bN|apply bO|apply bP|apply bQ|apply bR rfl|apply bS rfl|apply bU|apply bT|apply run_seq|apply bF|apply gB [1,6,16,21,30] rfl|apply bH|apply bJ|apply bG|apply z0 hT rfl rfl rfl rfl|apply zk rfl rfl rfl|apply z1 hT rfl rfl rfl rfl|apply zs hT rfl rfl rfl|apply za hT rfl rfl rfl rfl|apply bI|((fail_if_success apply zw rfl);apply zg rfl <;> (intro hb;rw[hb]))|apply bV rfl|apply bW rfl|(apply bX rfl <;> (intro hb;try rw[hb]))|apply bK mixed hC|apply bL|apply d0 rfl rfl rfl rfl rfl (by kernel_rfl)|apply dk rfl rfl rfl rfl (by kernel_rfl)|apply d1 rfl rfl rfl rfl (by kernel_rfl) rfl (by kernel_rfl)|apply ds rfl rfl rfl (by kernel_rfl) rfl (by kernel_rfl)|((fail_if_success apply dw rfl);apply dg rfl <;> (intro hb;rw[hb])))
   · exact gP rfl (FR.eq (by rw[hX,G6 (uz hv (by rw[← sW];unfold iY;rw[← Av,hb,Bool.true_or]))]))
   have hbv:=hb
   clear hb
   refine ny (λk=>Z [(88,some (nD k)),(87,some (nD i)),(4,some (.ref 1 [])),(43,some (nD i)),(42,some (nD (o.params.map fO).length)),(41,some (kR o.params)),(1,some (.ref 0 []))] [(1,some (fO v)),(0,some (eP o))] 2 204) (λk=>i - k) (λk=>k<=i/\∀ j,j<k->∀ x,o.params[j]? = some x->ko v x=false) 0 ⟨Nat.zero_le _,λj hj=>by omega⟩ (eO [(0,0),(1,1)] rfl hG ⟨Rn.lf _,Rn.lf _,Rn.ref (.tail _ (.head _)),?_⟩ ?_) ?_
   · repeat' (first|exact trivial|apply And.intro|exact Rn.lf _|exact Rn.ref (.head _)|exact Rn.fz (fe _)|exact Rn.fz (eZ _)|exact Rn.fz (fZ _)|exact Rn.fz (gm _)|exact Rn.fz (aQ _))
   · exact⟨⟨1,_,.tail _ (.head _),rfl,Rn.fz (uX _),rfl,rfl,λ_ h=>h⟩,⟨0,_,.head _,rfl,Rn.fz (aQ _),rfl,rfl,λ_ h=>h⟩,trivial⟩
   intro k hk
   repeat' (first|apply bM|apply bN|apply bO|apply bP|apply bQ|apply bR rfl|apply bS rfl|apply bU|apply bT|apply run_seq|apply bF|apply gB [1,6,16,21,30] rfl|apply bH|apply bJ|apply bG|apply z0 hT rfl rfl rfl rfl|apply zk rfl rfl rfl|apply z1 hT rfl rfl rfl rfl|apply zs hT rfl rfl rfl|apply za hT rfl rfl rfl rfl|apply bI|((fail_if_success apply zw rfl);apply zg rfl <;> (intro hb;rw[hb]))|apply bV rfl|apply bW rfl|(apply bX rfl <;> (intro hb;try rw[hb]))|apply bK mixed hC|apply bL|apply d0 rfl rfl rfl rfl rfl (by kernel_rfl)|apply dk rfl rfl rfl rfl (by kernel_rfl)|apply d1 rfl rfl rfl rfl (by kernel_rfl) rfl (by kernel_rfl)|apply ds rfl rfl rfl (by kernel_rfl) rfl (by kernel_rfl)|((fail_if_success apply dw rfl);apply dg rfl <;> (intro hb;rw[hb])))
   · have hki:k<i:=by simpa using hb
     obtain⟨x,hx⟩:∃ x,o.params[k]? = some x:=⟨_,List.getElem?_eq_getElem (by omega)⟩
     apply di rfl rfl rfl rfl rfl rfl rfl rfl (lJ (f:=fO) hx) rfl rfl (by kernel_rfl)
     repeat' (first|apply bM|apply bN|apply bO|apply bP|apply bQ|apply bR rfl|apply bS rfl|apply bU|apply bT|apply run_seq|apply bF|apply gB [1,6,16,21,30] rfl|apply bH|apply bJ|apply bG|apply z0 hT rfl rfl rfl rfl|apply zk rfl rfl rfl|apply z1 hT rfl rfl rfl rfl|apply zs hT rfl rfl rfl|apply za hT rfl rfl rfl rfl|apply bI|((fail_if_success apply zw rfl);apply zg rfl <;> (intro hb;rw[hb]))|apply bV rfl|apply bW rfl|(apply bX rfl <;> (intro hb;try rw[hb]))|apply bK mixed hC|apply bL|apply d0 rfl rfl rfl rfl rfl (by kernel_rfl)|apply dk rfl rfl rfl rfl (by kernel_rfl)|apply d1 rfl rfl rfl rfl (by kernel_rfl) rfl (by kernel_rfl)|apply ds rfl rfl rfl (by kernel_rfl) rfl (by kernel_rfl)|((fail_if_success apply dw rfl);apply dg rfl <;> (intro hb;rw[hb])))
     · exact gP rfl (FR.eq (by rw[hX,G6 (uz hv (by unfold iY;rw[KM hki hx (by unfold ko;simpa using hb),Bool.or_true]))]))
     · have hq:ko v x=false:=by unfold ko;simpa using hb
       have vW:=ok.np
       refine nT (k+1) ⟨hki,λj hj y hy => ?_⟩ (by omega) (eO [(0,0),(1,1)] rfl hG ?_ ?_)
       · rcases Nat.lt_or_ge j k with h1|h1
         · exact hk.2 j h1 y hy
         · have:j=k:=by omega
           subst this
           rw[hx]at hy
           simp only[Option.some.injEq]at hy
           rw[← hy];exact hq
       · refine⟨Rn.eq ?_,Rn.lf _,Rn.ref (.tail _ (.head _)),?_⟩
         · rw[mM hki (by omega)]
         repeat' (first|exact trivial|apply And.intro|exact Rn.lf _|exact Rn.ref (.head _)|exact Rn.fz (fe _)|exact Rn.fz (eZ _)|exact Rn.fz (fZ _)|exact Rn.fz (gm _)|exact Rn.fz (aQ _))
       · exact⟨⟨1,_,.tail _ (.head _),rfl,Rn.fz (uX _),rfl,rfl,λ_ h=>h⟩,⟨0,_,.head _,rfl,Rn.fz (aQ _),rfl,rfl,λ_ h=>h⟩,trivial⟩
   · refine nT (i+1) (hi.succ hv (by unfold iY;rw[← Av,hbv,KN (by simpa using hb) hk.2];rfl)) (by omega) (eO [(0,0)] rfl hG ?_ ?_)
     · refine⟨Rn.eq ?_,?_⟩
       · rw[mM hl ok.np]
       repeat' (first|exact trivial|apply And.intro|exact Rn.lf _|exact Rn.ref (.head _)|exact Rn.fz (fe _)|exact Rn.fz (eZ _)|exact Rn.fz (fZ _)|exact Rn.fz (gm _)|exact Rn.fz (aQ _))
     · exact⟨⟨0,_,.head _,rfl,Rn.fz (aQ _),rfl,rfl,λ_ h=>h⟩,trivial⟩
 have a2:=hi.all (by simpa using hb)
 rw[sW]at a2
 clear hi hb
 obtain⟨FB,wz⟩:∃ b:Bool,b=kH DB o:=⟨_,rfl⟩
 refine qJ (Z [(126,some (bD FB)),(6,some (.ref 1 [])),(1,some (.ref 0 []))] [(1,some (jm o.slots o.cells o.stacks)),(0,some (eP o))] 2 204) ?_ ?_
 · repeat' (first|apply bM|apply bN|apply bO|apply bP|apply bQ|apply bR rfl|apply bS rfl|apply bU|apply bT|apply run_seq|apply bF|apply gF|apply bH|apply bJ|apply bG|apply z0 hT rfl rfl rfl rfl|apply zk rfl rfl rfl|apply z1 hT rfl rfl rfl rfl|apply zs hT rfl rfl rfl|apply za hT rfl rfl rfl rfl|apply bI|((fail_if_success apply zw rfl);apply zg rfl <;> (intro hb;rw[hb]))|apply bV rfl|apply bW rfl|(apply bX rfl <;> (intro hb;try rw[hb]))|apply bK mixed hC|apply bL|apply d0 rfl rfl rfl rfl rfl (by kernel_rfl)|apply dk rfl rfl rfl rfl (by kernel_rfl)|apply d1 rfl rfl rfl rfl (by kernel_rfl) rfl (by kernel_rfl)|apply ds rfl rfl rfl (by kernel_rfl) rfl (by kernel_rfl)|((fail_if_success apply dw rfl);apply dg rfl <;> (intro hb;rw[hb]))|apply zc rfl rfl rfl rfl rfl rfl rfl HD)
   all_goals
    refine rE (eO [(0,0),(1,4)] rfl hG ⟨Rn.eq (by rw[wz];unfold kH;first|(simp_all;done)|(simp_all;omega)),Rn.ref (.tail _ (.head _)),Rn.ref (.head _),trivial⟩ ⟨⟨4,_,.tail _ (.head _),rfl,Rn.fz (lC _ _ _),rfl,rfl,λ_ h=>h⟩,⟨0,_,.head _,rfl,Rn.fz (aQ _),rfl,rfl,λ_ h=>h⟩,trivial⟩)
 repeat' (first|apply bM|apply bN|apply bO|apply bP|apply bQ|apply bR rfl|apply bS rfl|apply bU|apply bT|apply run_seq|apply bF|apply gB [1,6,16,21,30] rfl|apply bH|apply bJ|apply bG|apply z0 hT rfl rfl rfl rfl|apply zk rfl rfl rfl|apply z1 hT rfl rfl rfl rfl|apply zs hT rfl rfl rfl|apply za hT rfl rfl rfl rfl|apply bI|((fail_if_success apply zw rfl);apply zg rfl <;> (intro hb;rw[hb]))|apply bV rfl|apply bW rfl|(apply bX rfl <;> (intro hb;try rw[hb]))|apply bK mixed hC|apply bL|apply d0 rfl rfl rfl rfl rfl (by kernel_rfl)|apply dk rfl rfl rfl rfl (by kernel_rfl)|apply d1 rfl rfl rfl rfl (by kernel_rfl) rfl (by kernel_rfl)|apply ds rfl rfl rfl (by kernel_rfl) rfl (by kernel_rfl)|((fail_if_success apply dw rfl);apply dg rfl <;> (intro hb;rw[hb])))
 · exact gP rfl (FR.eq (by rw[hX,Pp (by rw[← hDB,← wz];simpa using hb)]))
 have a3:kH dZ o=false:=by rw[← hDB,← wz];simpa using hb
 clear hb wz
 obtain⟨BS,wB⟩:∃ f:ay->Bool,f=jD:=⟨_,rfl⟩
 refine ny (λi=>Z [(130,some (nD i)),(129,some (nD (o.slots.map iN).length)),(128,some (pz o.slots)),(6,some (.ref 1 [])),(1,some (.ref 0 []))] [(1,some (jm o.slots o.cells o.stacks)),(0,some (eP o))] 2 204) (λi=>o.slots.length - i) (jB BS o.slots) 0 (.zero _ _) (eO [(0,0),(1,1)] rfl hG ⟨Rn.lf _,Rn.lf _,Rn.fz (eZ _),Rn.ref (.tail _ (.head _)),?_⟩ ?_) ?_
 · repeat' (first|exact trivial|apply And.intro|exact Rn.lf _|exact Rn.ref (.head _)|exact Rn.fz (fe _)|exact Rn.fz (eZ _)|exact Rn.fz (fZ _)|exact Rn.fz (gm _)|exact Rn.fz (aQ _))
 · exact⟨⟨1,_,.tail _ (.head _),rfl,Rn.fz (lC _ _ _),rfl,rfl,λ_ h=>h⟩,⟨0,_,.head _,rfl,Rn.fz (aQ _),rfl,rfl,λ_ h=>h⟩,trivial⟩
 intro i hi
 repeat' (first|apply bM|apply bN|apply bO|apply bP|apply bQ|apply bR rfl|apply bS rfl|apply bU|apply bT|apply run_seq|apply bF|apply gB [1,6,16,21,30] rfl|apply bH|apply bJ|apply bG|apply z0 hT rfl rfl rfl rfl|apply zk rfl rfl rfl|apply z1 hT rfl rfl rfl rfl|apply zs hT rfl rfl rfl|apply za hT rfl rfl rfl rfl|apply bI|((fail_if_success apply zw rfl);apply zg rfl <;> (intro hb;rw[hb]))|apply bV rfl|apply bW rfl|(apply bX rfl <;> (intro hb;try rw[hb]))|apply bK mixed hC|apply bL|apply d0 rfl rfl rfl rfl rfl (by kernel_rfl)|apply dk rfl rfl rfl rfl (by kernel_rfl)|apply d1 rfl rfl rfl rfl (by kernel_rfl) rfl (by kernel_rfl)|apply ds rfl rfl rfl (by kernel_rfl) rfl (by kernel_rfl)|((fail_if_success apply dw rfl);apply dg rfl <;> (intro hb;rw[hb])))
 · have hl:i<o.slots.length:=by simpa using hb
   obtain⟨v,hv⟩:∃ v,o.slots[i]? = some v:=⟨_,List.getElem?_eq_getElem hl⟩
   apply zi hT rfl rfl rfl rfl rfl rfl rfl rfl (lJ (f:=iN) hv) rfl
   repeat' (first|apply bM|apply bN|apply bO|apply bP|apply bQ|apply bR rfl|apply bS rfl|apply bU|apply bT|apply run_seq|apply bF|apply gB [1,6,16,21,30] rfl|apply bH|apply bJ|apply bG|apply z0 hT rfl rfl rfl rfl|apply zk rfl rfl rfl|apply z1 hT rfl rfl rfl rfl|apply zs hT rfl rfl rfl|apply za hT rfl rfl rfl rfl|apply bI|((fail_if_success apply zw rfl);apply zg rfl <;> (intro hb;rw[hb]))|apply bV rfl|apply bW rfl|(apply bX rfl <;> (intro hb;try rw[hb]))|apply bK mixed hC|apply bL|apply d0 rfl rfl rfl rfl rfl (by kernel_rfl)|apply dk rfl rfl rfl rfl (by kernel_rfl)|apply d1 rfl rfl rfl rfl (by kernel_rfl) rfl (by kernel_rfl)|apply ds rfl rfl rfl (by kernel_rfl) rfl (by kernel_rfl)|((fail_if_success apply dw rfl);apply dg rfl <;> (intro hb;rw[hb])))
   refine qJ (Z [(157,some (bD (BS v))),(6,some (.ref 1 [])),(130,some (nD i)),(129,some (nD (o.slots.map iN).length)),(128,some (pz o.slots)),(1,some (.ref 0 []))] [(1,some (jm o.slots o.cells o.stacks)),(0,some (eP o))] 2 204) ?_ ?_
   · repeat' (first|apply bM|apply bN|apply bO|apply bP|apply bQ|apply bR rfl|apply bS rfl|apply bU|apply bT|apply run_seq|apply bF|apply gF|apply bH|apply bJ|apply bG|apply z0 hT rfl rfl rfl rfl|apply zk rfl rfl rfl|apply z1 hT rfl rfl rfl rfl|apply zs hT rfl rfl rfl|apply za hT rfl rfl rfl rfl|apply bI|((fail_if_success apply zw rfl);apply zg rfl <;> (intro hb;rw[hb]))|apply bV rfl|apply bW rfl|(apply bX rfl <;> (intro hb;try rw[hb]))|apply bK mixed hC|apply bL|apply d0 rfl rfl rfl rfl rfl (by kernel_rfl)|apply dk rfl rfl rfl rfl (by kernel_rfl)|apply d1 rfl rfl rfl rfl (by kernel_rfl) rfl (by kernel_rfl)|apply ds rfl rfl rfl (by kernel_rfl) rfl (by kernel_rfl)|((fail_if_success apply dw rfl);apply dg rfl <;> (intro hb;rw[hb])))
     all_goals
      refine rE (eO [(0,0),(1,1)] rfl hG ⟨Rn.eq (by rw[wB];unfold jD;first|(simp_all;done)|(simp_all [bne];done)|(simp only[bne]at *;simp[*];done)|(simp_all;omega)),Rn.ref (.tail _ (.head _)),?_⟩ ⟨⟨1,_,.tail _ (.head _),rfl,Rn.fz (lC _ _ _),rfl,rfl,λ_ h=>h⟩,⟨0,_,.head _,rfl,Rn.fz (aQ _),rfl,rfl,λ_ h=>h⟩,trivial⟩)
      repeat' (first|exact trivial|apply And.intro|exact Rn.lf _|exact Rn.ref (.head _)|exact Rn.fz (fe _)|exact Rn.fz (eZ _)|exact Rn.fz (fZ _)|exact Rn.fz (gm _)|exact Rn.fz (aQ _))
   repeat' (first|apply bM|apply bN|apply bO|apply bP|apply bQ|apply bR rfl|apply bS rfl|apply bU|apply bT|apply run_seq|apply bF|apply gB [1,6,16,21,30] rfl|apply bH|apply bJ|apply bG|apply z0 hT rfl rfl rfl rfl|apply zk rfl rfl rfl|apply z1 hT rfl rfl rfl rfl|apply zs hT rfl rfl rfl|apply za hT rfl rfl rfl rfl|apply bI|((fail_if_success apply zw rfl);apply zg rfl <;> (intro hb;rw[hb]))|apply bV rfl|apply bW rfl|(apply bX rfl <;> (intro hb;try rw[hb]))|apply bK mixed hC|apply bL|apply d0 rfl rfl rfl rfl rfl (by kernel_rfl)|apply dk rfl rfl rfl rfl (by kernel_rfl)|apply d1 rfl rfl rfl rfl (by kernel_rfl) rfl (by kernel_rfl)|apply ds rfl rfl rfl (by kernel_rfl) rfl (by kernel_rfl)|((fail_if_success apply dw rfl);apply dg rfl <;> (intro hb;rw[hb])))
   · exact gP rfl (FR.eq (by rw[hX,Pq (uK hv (by rw[← wB];simpa using hb))]))
   · refine nT (i+1) (hi.succ hv (by simpa using hb)) (by omega) (eO [(0,0),(1,1)] rfl hG ⟨Rn.eq ?_,Rn.lf _,Rn.fz (eZ _),Rn.ref (.tail _ (.head _)),Rn.ref (.head _),trivial⟩ ⟨⟨1,_,.tail _ (.head _),rfl,Rn.fz (lC _ _ _),rfl,rfl,λ_ h=>h⟩,⟨0,_,.head _,rfl,Rn.fz (aQ _),rfl,rfl,λ_ h=>h⟩,trivial⟩)
     have:=ok.few
     rw[mM hl (by omega)]
 have a4:=hi.all (by simpa using hb)
 rw[wB]at a4
 clear hi hb wB BS
 refine ny (λi=>Z [(162,some (nD i)),(161,some (nD (o.params.map fO).length)),(160,some (kR o.params)),(6,some (.ref 1 [])),(1,some (.ref 0 []))] [(1,some (jm o.slots o.cells o.stacks)),(0,some (eP o))] 2 204) (λi=>o.params.length - i) (kQ (iC o.slots) o.params) 0 (.zero _ _) (eO [(0,0),(1,1)] rfl hG ⟨Rn.lf _,Rn.lf _,Rn.fz (fe _),Rn.ref (.tail _ (.head _)),?_⟩ ?_) ?_
 · repeat' (first|exact trivial|apply And.intro|exact Rn.lf _|exact Rn.ref (.head _)|exact Rn.fz (fe _)|exact Rn.fz (eZ _)|exact Rn.fz (fZ _)|exact Rn.fz (gm _)|exact Rn.fz (aQ _))
 · exact⟨⟨1,_,.tail _ (.head _),rfl,Rn.fz (lC _ _ _),rfl,rfl,λ_ h=>h⟩,⟨0,_,.head _,rfl,Rn.fz (aQ _),rfl,rfl,λ_ h=>h⟩,trivial⟩
 intro i hi
 repeat' (first|apply bM|apply bN|apply bO|apply bP|apply bQ|apply bR rfl|apply bS rfl|apply bU|apply bT|apply run_seq|apply bF|apply gB [1,6,16,21,30] rfl|apply bH|apply bJ|apply bG|apply z0 hT rfl rfl rfl rfl|apply zk rfl rfl rfl|apply z1 hT rfl rfl rfl rfl|apply zs hT rfl rfl rfl|apply za hT rfl rfl rfl rfl|apply bI|((fail_if_success apply zw rfl);apply zg rfl <;> (intro hb;rw[hb]))|apply bV rfl|apply bW rfl|(apply bX rfl <;> (intro hb;try rw[hb]))|apply bK mixed hC|apply bL|apply d0 rfl rfl rfl rfl rfl (by kernel_rfl)|apply dk rfl rfl rfl rfl (by kernel_rfl)|apply d1 rfl rfl rfl rfl (by kernel_rfl) rfl (by kernel_rfl)|apply ds rfl rfl rfl (by kernel_rfl) rfl (by kernel_rfl)|((fail_if_success apply dw rfl);apply dg rfl <;> (intro hb;rw[hb])))
 · have hl:i<o.params.length:=by simpa using hb
   obtain⟨v,hv⟩:∃ v,o.params[i]? = some v:=⟨_,List.getElem?_eq_getElem hl⟩
   clear hb
   apply zi hT rfl rfl rfl rfl rfl rfl rfl rfl (lJ (f:=fO) hv) rfl
   repeat' (first|apply bM|apply bN|apply bO|apply bP|apply bQ|apply bR rfl|apply bS rfl|apply bU|apply bT|apply run_seq|apply bF|apply gB [1,6,16,21,30] rfl|apply bH|apply bJ|apply bG|apply z0 hT rfl rfl rfl rfl|apply zk rfl rfl rfl|apply z1 hT rfl rfl rfl rfl|apply zs hT rfl rfl rfl|apply za hT rfl rfl rfl rfl|apply bI|((fail_if_success apply zw rfl);apply zg rfl <;> (intro hb;rw[hb]))|apply bV rfl|apply bW rfl|(apply bX rfl <;> (intro hb;try rw[hb]))|apply bK mixed hC|apply bL|apply d0 rfl rfl rfl rfl rfl (by kernel_rfl)|apply dk rfl rfl rfl rfl (by kernel_rfl)|apply d1 rfl rfl rfl rfl (by kernel_rfl) rfl (by kernel_rfl)|apply ds rfl rfl rfl (by kernel_rfl) rfl (by kernel_rfl)|((fail_if_success apply dw rfl);apply dg rfl <;> (intro hb;rw[hb])))
   · have:o.slots[i]? = none:=List.getElem?_eq_none (by simpa using hb)
     exact gP rfl (FR.eq (by rw[hX,G7 a1 a2 a3 a4 (uz hv (by unfold iC;rw[this]))]))
   have hs:i<o.slots.length:=by simpa using hb
   obtain⟨s,hs⟩:∃ s,o.slots[i]? = some s:=⟨_,List.getElem?_eq_getElem hs⟩
   clear hb
   apply zi hT rfl rfl rfl rfl rfl rfl rfl rfl (lJ (f:=iN) hs) rfl
   obtain⟨MA,Ay⟩:∃ b:Bool,b=r9 v s:=⟨_,rfl⟩
   repeat' (first|apply bM|apply bN|apply bO|apply bP|apply bQ|apply bR rfl|apply bS rfl|apply bU|apply bT|apply run_seq|apply bF|apply gB [1,6,16,21,30] rfl|apply bH|apply bJ|apply bG|apply z0 hT rfl rfl rfl rfl|apply zk rfl rfl rfl|apply z1 hT rfl rfl rfl rfl|apply zs hT rfl rfl rfl|apply za hT rfl rfl rfl rfl|apply bI|((fail_if_success apply zw rfl);apply zg rfl <;> (intro hb;rw[hb]))|apply bV rfl|apply bW rfl|(apply bX rfl <;> (intro hb;try rw[hb]))|apply bK mixed hC|apply bL|apply d0 rfl rfl rfl rfl rfl (by kernel_rfl)|apply dk rfl rfl rfl rfl (by kernel_rfl)|apply d1 rfl rfl rfl rfl (by kernel_rfl) rfl (by kernel_rfl)|apply ds rfl rfl rfl (by kernel_rfl) rfl (by kernel_rfl)|((fail_if_success apply dw rfl);apply dg rfl <;> (intro hb;rw[hb])))
   refine qJ (Z [(195,some (bD MA)),(6,some (.ref 1 [])),(162,some (nD i)),(161,some (nD (o.params.map fO).length)),(160,some (kR o.params)),(1,some (.ref 0 []))] [(1,some (jm o.slots o.cells o.stacks)),(0,some (eP o))] 2 204) ?_ ?_
   · repeat' (first|apply bM|apply bN|apply bO|apply bP|apply bQ|apply bR rfl|apply bS rfl|apply bU|apply bT|apply run_seq|apply bF|apply gF|apply bH|apply bJ|apply bG|apply z0 hT rfl rfl rfl rfl|apply zk rfl rfl rfl|apply z1 hT rfl rfl rfl rfl|apply zs hT rfl rfl rfl|apply za hT rfl rfl rfl rfl|apply bI|((fail_if_success apply zw rfl);apply zg rfl <;> (intro hb;rw[hb]))|apply bV rfl|apply bW rfl|(apply bX rfl <;> (intro hb;try rw[hb]))|apply bK mixed hC|apply bL|apply d0 rfl rfl rfl rfl rfl (by kernel_rfl)|apply dk rfl rfl rfl rfl (by kernel_rfl)|apply d1 rfl rfl rfl rfl (by kernel_rfl) rfl (by kernel_rfl)|apply ds rfl rfl rfl (by kernel_rfl) rfl (by kernel_rfl)|((fail_if_success apply dw rfl);apply dg rfl <;> (intro hb;rw[hb])))
     all_goals
      refine rE (eO [(0,0),(1,1)] rfl hG ⟨Rn.eq (by rw[Ay];unfold r9;first|(simp_all;done)|(simp_all [bne];done)|(simp only[bne]at *;simp[*];done)),Rn.ref (.tail _ (.head _)),?_⟩ ⟨⟨1,_,.tail _ (.head _),rfl,Rn.fz (lC _ _ _),rfl,rfl,λ_ h=>h⟩,⟨0,_,.head _,rfl,Rn.fz (aQ _),rfl,rfl,λ_ h=>h⟩,trivial⟩)
      repeat' (first|exact trivial|apply And.intro|exact Rn.lf _|exact Rn.ref (.head _)|exact Rn.fz (fe _)|exact Rn.fz (eZ _)|exact Rn.fz (fZ _)|exact Rn.fz (gm _)|exact Rn.fz (aQ _))
   repeat' (first|apply bM|apply bN|apply bO|apply bP|apply bQ|apply bR rfl|apply bS rfl|apply bU|apply bT|apply run_seq|apply bF|apply gB [1,6,16,21,30] rfl|apply bH|apply bJ|apply bG|apply z0 hT rfl rfl rfl rfl|apply zk rfl rfl rfl|apply z1 hT rfl rfl rfl rfl|apply zs hT rfl rfl rfl|apply za hT rfl rfl rfl rfl|apply bI|((fail_if_success apply zw rfl);apply zg rfl <;> (intro hb;rw[hb]))|apply bV rfl|apply bW rfl|(apply bX rfl <;> (intro hb;try rw[hb]))|apply bK mixed hC|apply bL|apply d0 rfl rfl rfl rfl rfl (by kernel_rfl)|apply dk rfl rfl rfl rfl (by kernel_rfl)|apply d1 rfl rfl rfl rfl (by kernel_rfl) rfl (by kernel_rfl)|apply ds rfl rfl rfl (by kernel_rfl) rfl (by kernel_rfl)|((fail_if_success apply dw rfl);apply dg rfl <;> (intro hb;rw[hb])))
   · exact gP rfl (FR.eq (by rw[hX,G7 a1 a2 a3 a4 (uz hv (by unfold iC;rw[hs];simp only;rw[← Ay];simpa using hb))]))
   · refine nT (i+1) (hi.succ hv (by unfold iC;rw[hs];simp only;rw[← Ay];simpa using hb)) (by omega) (eO [(0,0),(1,1)] rfl hG ⟨Rn.eq ?_,Rn.lf _,Rn.fz (fe _),Rn.ref (.tail _ (.head _)),Rn.ref (.head _),trivial⟩ ⟨⟨1,_,.tail _ (.head _),rfl,Rn.fz (lC _ _ _),rfl,rfl,λ_ h=>h⟩,⟨0,_,.head _,rfl,Rn.fz (aQ _),rfl,rfl,λ_ h=>h⟩,trivial⟩)
     rw[mM hl ok.np]
 have a5:=hi.all (by simpa using hb)
 clear hi hb
 repeat' (first|apply bM|apply bN|apply bO|apply bP|apply bQ|apply bR rfl|apply bS rfl|apply bU|apply bT|apply run_seq|apply bF|apply gF|apply bH|apply bJ|apply bG|apply z0 hT rfl rfl rfl rfl|apply zk rfl rfl rfl|apply z1 hT rfl rfl rfl rfl|apply zs hT rfl rfl rfl|apply za hT rfl rfl rfl rfl|apply bI|((fail_if_success apply zw rfl);apply zg rfl <;> (intro hb;rw[hb]))|apply bV rfl|apply bW rfl|(apply bX rfl <;> (intro hb;try rw[hb]))|apply bK mixed hC|apply bL|apply d0 rfl rfl rfl rfl rfl (by kernel_rfl)|apply dk rfl rfl rfl rfl (by kernel_rfl)|apply d1 rfl rfl rfl rfl (by kernel_rfl) rfl (by kernel_rfl)|apply ds rfl rfl rfl (by kernel_rfl) rfl (by kernel_rfl)|((fail_if_success apply dw rfl);apply dg rfl <;> (intro hb;rw[hb]))|apply zc rfl rfl rfl rfl rfl rfl rfl HP)
 exact gP rfl (FR.eq (by rw[hX,Ps a1 a2 a3 a4 a5,G8]))
end Go.Proofs.YtadecgbblajifaaGreatDoor.DV
namespace Go.Proofs.YtadecgbblajifaaGreatDoor
end Go.Proofs.YtadecgbblajifaaGreatDoor
