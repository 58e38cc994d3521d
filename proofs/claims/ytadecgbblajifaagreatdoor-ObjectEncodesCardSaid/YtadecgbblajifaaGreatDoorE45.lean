import Derived.Test.YtadecgbblajifaaGreatDoorE29
import Derived.Test.YtadecgbblajifaaGreatDoorE44
import Derived.LaidMore
import Derived.JoinedTies
import Derived.ChangeSame
import Derived.Stop.Joined
import Derived.OpenShut
import Derived.Deep.Slices
set_option linter.unusedSimpArgs false
set_option linter.unusedVariables false
set_option maxRecDepth 100000
set_option maxHeartbeats 25600000
namespace Go.Proofs.YtadecgbblajifaaGreatDoor
end Go.Proofs.YtadecgbblajifaaGreatDoor
namespace Go.Proofs.YtadecgbblajifaaGreatDoor.DV
open Go Go.RowKit
theorem RI (g:G):∀ l:List Int,aj g (List.replicate (l.map uD).length 1) (l.map uD) (flat aL l)
 | []=>by simp[aj,flat]
 |x :: l=>by
  have:=RI g l
  simp only[List.map_cons,List.length_cons,List.replicate_succ,aj]
  refine⟨by simp[flat,aL],by simp[flat,aL,CR,Value.oneCell'],?_⟩
  have e:(flat aL (x :: l)).drop 1=flat aL l:=by simp[flat,aL]
  rw[e];exact this
theorem QG {w:World} {base:Nat} {v:Value} {l:List Int} {k:G} (h:eu w base v l) (hk:∀ b c,base<=b->mem w b=some c->k.fm b=some c):VR k (.sl false 1 (l.map uD)) v:=by
 obtain⟨h0,h|⟨g,cap,cur,rfl,h1,h2,h3,h4,h5,h6⟩⟩:=h
 · obtain⟨rfl,h⟩:=h
   have:l=[]:=List.length_eq_zero_iff.1 h
   subst this
   simp only[VR,CR]
   exact⟨none,0,rfl,⟨Nat.le_refl _,λh=>by simp at h⟩,.inl rfl⟩
 · simp only[VR,CR]
   have hm:mem w g=some cur.toList:=by unfold mem;rw[h2]
   refine⟨some ⟨g,0,none⟩,cap,by simp,⟨by simpa using h3,λh=>by simp at h⟩,.inr ⟨g,0,cur.toList,rfl,hk _ _ h1 hm,?_,?_⟩⟩
   · simp only[List.length_map,Array.length_toList,h5];omega
   · have e:((cur.toList.drop 0).take ((l.map uD).length * 1))=flat aL l:=by
      rw[List.drop_zero,List.length_map];exact h6
     rw[e];exact RI k l
theorem RJ {k:G} : VR k (.sl false 1 []) (.slice none 0 0):=by
 simp only[VR,CR]
 exact⟨none,0,rfl,⟨Nat.le_refl _,λh=>by simp at h⟩,.inl trivial⟩
def rH (o:aO):List Int:=if jZ o=0 then oC o else[]
def zf (l:List Ins):List Int:=if jc l=0 then wA l else[]
theorem ER {k:G} {a:D} {x:Int} {v:Value} (h:VR k a v):VR k (.tu [a,iD x]) (.tuple #[v,.int .i64 x]):=by
 simp only[VR,CR,aC]at h ⊢
 exact⟨trivial,_,rfl,_,_,rfl,h,_,_,rfl,⟨rfl,λh=>by simp at h⟩,rfl⟩
theorem acS (o:aO) (ok:xu o) (hs:Ku o):Pure Tryz.prog dL 21 [gJ o] (.tu [.sl false 1 ((rH o).map uD),iD (jZ o)]):=Po (by kernel_rfl) λg w vs hfm hgl h=>by
 simp only[aC]at h
 obtain⟨v,vs',rfl,h1,rfl⟩:=h
 obtain⟨x,rfl,rfl,hx⟩:=abC hfm ok h1
 refine(_v x w hx (JK hfm hgl) hs).mono λe w' h => ?_
 rcases h with⟨h2,rfl,h3⟩|⟨h2,a,c,rfl,h3,h4⟩
 · refine⟨_,rfl,λk _ => ?_,qN h3⟩
   simp only[rH,if_neg h2,List.map_nil]
   exact ER RJ
 · refine⟨_,rfl,λk hk => ?_,qN h4⟩
   simp only[rH,if_pos h2]
   rw[h2]
   exact ER (QG h3 hk)
theorem aa3 {g:G} {w:World} {l:List Ins} {v:Value} (hfm:∀ b c,g.fm b=some c->mem w b=some c) (hl:l.length<=9223372036854775807) (h:VR g (Bh l) v):aB 5 Ins.cells w v l:=row_of (enc:=wK) hfm (λx=>rfl) hl h
theorem acT (l:List Ins) (hl:l.length<=9223372036854775807) (hb:∀ i∈l,CB i):Pure Tryz.prog dL 22 [Bh l] (.tu [.sl false 1 ((zf l).map uD),iD (jc l)]):=Po (by kernel_rfl) λg w vs hfm hgl h=>by
 simp only[aC]at h
 obtain⟨v,vs',rfl,h1,rfl⟩:=h
 refine(Pq v l w (aa3 hfm hl h1) hb (JK hfm hgl)).mono λe w' h => ?_
 rcases h with⟨h2,rfl,h3⟩|⟨h2,a,c,rfl,h3,h4⟩
 · refine⟨_,rfl,λk _ => ?_,qN h3⟩
   simp only[zf,if_neg h2,List.map_nil]
   exact ER RJ
 · refine⟨_,rfl,λk hk => ?_,qN h4⟩
   simp only[zf,if_pos h2]
   rw[h2]
   exact ER (QG h3 hk)
theorem Pv:∀ l:List Int,(∀ c∈l,0<=c)->∃ bl,bytesD (l.map uD)=some bl
 | [],_=>⟨[],rfl⟩
 |x :: l,h=>by
  obtain⟨bl,hb⟩:=Pv l λc hc=>h c (List.mem_cons_of_mem _ hc)
  have hx:=h x (List.mem_cons_self ..)
  obtain⟨n,rfl⟩:=Int.eq_ofNat_of_zero_le hx
  exact⟨UInt8.ofNat n :: bl,by simp only[List.map_cons,bytesD];rw[hb];rfl⟩
theorem Ep:∀ cs xs:List Int,(wX cs xs).length<=8 * xs.length
 | [],xs=>by simp[wX]
 |c :: cs,[]=>by simp[wX]
 |c :: cs,x :: xs=>by
  have:=Ep cs xs
  have h8:iJ c<=8:=by unfold iJ;split <;> (try split) <;> omega
  simp only[wX,List.length_append,aF,List.length_cons]
  omega
theorem Rt (i:Ins):(wI i).length<=33:=by
 have:=Ep (lZ i.op) (qE i)
 simp only[wI,List.length_append,aF]
 have h4:(qE i).length=4:=rfl
 omega
theorem Bt {α:Type} (w:α->List Int) (c:Nat):∀ l:List α,(∀ x∈l,(w x).length<=c)->(l.flatMap w).length<=c * l.length
 | [],_=>by simp
 |x :: l,h=>by
  have h1:=Bt w c l λy hy=>h y (List.mem_cons_of_mem _ hy)
  have h2:=h x (List.mem_cons_self ..)
  simp only[List.flatMap_cons,List.length_append,List.length_cons,Nat.mul_succ]
  omega
theorem abU (l:List Ins):(wA l).length<=4+33 * l.length:=by
 have:=Bt wI 33 l λi _=>Rt i
 simp only[wA,List.length_append,aF]
 omega
structure Small (o:aO):Prop where
 np:o.params.length<=10
 ns:o.slots.length<=20
 nc:o.code.length<=300
 nr:o.refs.length<=30
 name:o.name.size<=40
 params:∀ v∈o.params,v.name.size<=40
 slots:∀ v∈o.slots,v.name.size<=40
 refs:∀ v∈o.refs,v.name.size<=40
theorem _w {o:aO} (h:qP o=false):Small o:=by
 unfold qP at h
 simp only[Bool.or_eq_false_iff,decide_eq_false_iff_not,List.any_eq_false,decide_eq_true_eq,Int.not_lt,gt_iff_lt]at h
 obtain⟨⟨h1,h2,h3,h4,h5⟩,h6,h7,h8⟩:=h
 exact⟨by omega,by omega,by omega,by omega,by omega,λv hv=>by have:=h6 v hv;omega,λv hv=>by have:=h7 v hv;omega,λv hv=>by have:=h8 v hv;omega⟩
theorem Er (s:ByteArray):(wS s).length=1+s.size:=by simp only[wS,List.length_append,aF,qJ]
theorem _x {o:aO} (h:Small o) (code:List Int):(wF o code).length<=5000+code.length:=by
 have h1:=Bt wV 43 o.params λv hv=>by have:=h.params v hv;simp only[wV,List.length_append,aF,Er];omega
 have h2:=Bt Go.Proofs.YtadecgbblajifaaGreatDoor.cO 47 o.slots λv hv=>by have:=h.slots v hv;simp only[Go.Proofs.YtadecgbblajifaaGreatDoor.cO,List.length_append,aF,Er];omega
 have h3:=Bt wR 45 o.refs λv hv=>by have:=h.refs v hv;simp only[wR,List.length_append,aF,Er];omega
 have:=h.np
 have:=h.ns
 have:=h.nr
 have:=h.name
 simp only[wF,List.length_append,aF,Er]
 omega
theorem Zh (o:aO) (ok:xu o):Pure Tryz.prog dL 5 [gJ o] (bD true):=by
 have HG:=aaD o ok.np (by have:=ok.ok.few;omega) ok.nr
 cases hgr:qP o with
 |true =>
  rw[hgr]at HG
  refine vI (C:=Cs) hT Tryz.func5 rfl rfl rfl (by simp[aZ]) hG λB => ?_
  unfold Tryz.f5
  repeat' (first|apply bJ|apply bK|apply bL|apply bM|apply bN|apply bO rfl|apply bP rfl|apply bR|apply bQ|apply run_seq|apply bA|apply eB|apply bC|apply bF|apply bB|apply z0 hT rfl rfl rfl rfl|apply zk rfl rfl rfl|apply z1 hT rfl rfl rfl rfl|apply zs hT rfl rfl rfl|apply za hT rfl rfl rfl rfl|apply bE|((fail_if_success apply zw rfl);apply zg rfl <;> (intro hb;rw[hb]))|apply bS rfl|apply bT rfl|(apply bU rfl <;> (intro hb;try rw[hb]))|apply bG mixed hC|apply bH|apply d0 rfl rfl rfl rfl rfl (by kernel_rfl)|apply dk rfl rfl rfl rfl (by kernel_rfl)|apply d1 rfl rfl rfl rfl (by kernel_rfl) rfl (by kernel_rfl)|apply ds rfl rfl rfl (by kernel_rfl) rfl (by kernel_rfl)|((fail_if_success apply dw rfl);apply dg rfl <;> (intro hb;rw[hb]))|apply zc rfl rfl rfl rfl rfl rfl rfl D7|apply zc rfl rfl rfl rfl rfl rfl rfl HG)
  exact jq rfl (FR.lf _)
 |false =>
  rw[hgr]at HG
  have sm:=_w hgr
  have hA:=abU o.code
  have hnc:=sm.nc
  have hl:=_x sm (wA o.code)
  have es:Ku o:=⟨by show(wF o (wA o.code)).length<=700000;omega,by have:=sm.name;omega,λv hv=>by have:=sm.params v hv;omega,λv hv=>by have:=sm.slots v hv;omega,λv hv=>by have:=sm.refs v hv;omega⟩
  have HE:=acS o ok es
  have HF:=aaF o ok.flt
  rw[Y4]at HF
  have HA:=acT o.code ok.nc λi hi=>(ok.ok.code i hi).1
  have HL:=abL o (wA o.code) ⟨by omega,by have:=sm.name;omega,λv hv=>by have:=sm.params v hv;omega,λv hv=>by have:=sm.slots v hv;omega,λv hv=>by have:=sm.refs v hv;omega,ok.np,by have:=sm.ns;omega,ok.nr⟩
  obtain⟨bl,hbl⟩:=Pv (oC o) λc hc=>(aa2 o o.code c hc).1
  have TJ:bytesD ((wF o (wA o.code)).map uD)=some bl:=hbl
  by_cases h1:o.kI=0
  · by_cases h2:jc o.code=0
    · have hE:jZ o=0:=by
       have h3:(o.refs.all λr=>decide (r.name.size<=255))=true:=List.all_eq_true.2 λr hr=>by have:=sm.refs r hr;simp;omega
       have:=sm.ns
       unfold jZ
       rw[if_neg (by simp[h1]),if_neg (by simp[h2];omega),if_pos h3]
      have hX:rH o=wF o (wA o.code):=by unfold rH;rw[if_pos hE];rfl
      have hY:zf o.code=wA o.code:=by unfold zf;rw[if_pos h2]
      rw[hE,hX]at HE
      rw[h1]at HF
      rw[h2,hY]at HA
      generalize wF o (wA o.code)=T at *
      generalize wA o.code=AB at *
      refine vI (C:=Cs) hT Tryz.func5 rfl rfl rfl (by simp[aZ]) hG λB => ?_
      unfold Tryz.f5
      repeat' (first|apply bJ|apply bK|apply bL|apply bM|apply bN|apply bO rfl|apply bP rfl|apply bR|apply bQ|apply run_seq|apply bA|apply eB|apply bC|apply bF|apply bB|apply z0 hT rfl rfl rfl rfl|apply zk rfl rfl rfl|apply z1 hT rfl rfl rfl rfl|apply zs hT rfl rfl rfl|apply za hT rfl rfl rfl rfl|apply bE|((fail_if_success apply zw rfl);apply zg rfl <;> (intro hb;rw[hb]))|apply bS rfl|apply bT rfl|(apply bU rfl <;> (intro hb;try rw[hb]))|apply bG mixed hC|apply bH|apply d0 rfl rfl rfl rfl rfl (by kernel_rfl)|apply dk rfl rfl rfl rfl (by kernel_rfl)|apply d1 rfl rfl rfl rfl (by kernel_rfl) rfl (by kernel_rfl)|apply ds rfl rfl rfl (by kernel_rfl) rfl (by kernel_rfl)|((fail_if_success apply dw rfl);apply dg rfl <;> (intro hb;rw[hb]))|apply zc rfl rfl rfl rfl rfl rfl rfl D7|apply zc rfl rfl rfl rfl rfl rfl rfl HG|apply zc rfl rfl rfl rfl rfl rfl rfl HE|apply zc rfl rfl rfl rfl rfl rfl rfl HF|apply zc rfl rfl rfl rfl rfl rfl rfl HA|apply dc rfl rfl rfl rfl rfl rfl rfl HL rfl (by kernel_rfl)|apply dcv rfl rfl rfl rfl rfl rfl rfl rfl rfl rfl rfl TJ rfl (by kernel_rfl))
      exact jq rfl (FR.eq (by simp))
    · have hE:jZ o=5:=by
       unfold jZ
       rw[if_neg (by simp[h1]),if_pos (.inl h2)]
      have hX:rH o=[]:=by unfold rH;rw[if_neg (by rw[hE];decide)]
      rw[hE,hX]at HE
      rw[h1]at HF
      generalize jc o.code=A at *
      generalize zf o.code=AB at *
      refine vI (C:=Cs) hT Tryz.func5 rfl rfl rfl (by simp[aZ]) hG λB => ?_
      unfold Tryz.f5
      repeat' (first|apply bJ|apply bK|apply bL|apply bM|apply bN|apply bO rfl|apply bP rfl|apply bR|apply bQ|apply run_seq|apply bA|apply eB|apply bC|apply bF|apply bB|apply z0 hT rfl rfl rfl rfl|apply zk rfl rfl rfl|apply z1 hT rfl rfl rfl rfl|apply zs hT rfl rfl rfl|apply za hT rfl rfl rfl rfl|apply bE|((fail_if_success apply zw rfl);apply zg rfl <;> (intro hb;rw[hb]))|apply bS rfl|apply bT rfl|(apply bU rfl <;> (intro hb;try rw[hb]))|apply bG mixed hC|apply bH|apply d0 rfl rfl rfl rfl rfl (by kernel_rfl)|apply dk rfl rfl rfl rfl (by kernel_rfl)|apply d1 rfl rfl rfl rfl (by kernel_rfl) rfl (by kernel_rfl)|apply ds rfl rfl rfl (by kernel_rfl) rfl (by kernel_rfl)|((fail_if_success apply dw rfl);apply dg rfl <;> (intro hb;rw[hb]))|apply zc rfl rfl rfl rfl rfl rfl rfl D7|apply zc rfl rfl rfl rfl rfl rfl rfl HG|apply zc rfl rfl rfl rfl rfl rfl rfl HE|apply zc rfl rfl rfl rfl rfl rfl rfl HF|apply zc rfl rfl rfl rfl rfl rfl rfl HA)
      · exact jq rfl (FR.lf _)
      · exfalso;revert hb;simpa using h2
  · have hE:jZ o=o.kI:=by unfold jZ;rw[if_pos h1]
    have hX:rH o=[]:=by unfold rH;rw[if_neg (by rw[hE];exact h1)]
    rw[hE,hX]at HE
    generalize o.kI=K at *
    refine vI (C:=Cs) hT Tryz.func5 rfl rfl rfl (by simp[aZ]) hG λB => ?_
    unfold Tryz.f5
    repeat' (first|apply bJ|apply bK|apply bL|apply bM|apply bN|apply bO rfl|apply bP rfl|apply bR|apply bQ|apply run_seq|apply bA|apply jC [9] rfl|apply bC|apply bF|apply bB|apply z0 hT rfl rfl rfl rfl|apply zk rfl rfl rfl|apply z1 hT rfl rfl rfl rfl|apply zs hT rfl rfl rfl|apply za hT rfl rfl rfl rfl|apply bE|((fail_if_success apply zw rfl);apply zg rfl <;> (intro hb;rw[hb]))|apply bS rfl|apply bT rfl|(apply bU rfl <;> (intro hb;try rw[hb]))|apply bG mixed hC|apply bH|apply d0 rfl rfl rfl rfl rfl (by kernel_rfl)|apply dk rfl rfl rfl rfl (by kernel_rfl)|apply d1 rfl rfl rfl rfl (by kernel_rfl) rfl (by kernel_rfl)|apply ds rfl rfl rfl (by kernel_rfl) rfl (by kernel_rfl)|((fail_if_success apply dw rfl);apply dg rfl <;> (intro hb;rw[hb]))|apply zc rfl rfl rfl rfl rfl rfl rfl D7|apply zc rfl rfl rfl rfl rfl rfl rfl HG|apply zc rfl rfl rfl rfl rfl rfl rfl HE|apply zc rfl rfl rfl rfl rfl rfl rfl HF)
    all_goals first|(exfalso;simp_all;done)|exact jq rfl (FR.eq (by simp_all))
theorem Xq (x:gT) (w:World) (hx:lS w x) (h1:Cells w 1 Gh) (h2:Cells w 0 zB):Calls Tryz.prog 5 #[x.val] w λe w'=>e = .returned (.bool true)/\(∀ b,b<w.heap.size->w'.heap[b]? = w.heap[b]?)/\w.heap.size<=w'.heap.size/\Sm w w':=by
 refine((Zh x.d (.of hx)).calls (by kernel_rfl) (w:=w) (vs:=[x.val]) (ack h1 h2) ?_).mono ?_
 · simp only[aC]
   exact⟨_,_,rfl,abD hx,rfl⟩
 · rintro e w' ⟨v,g,rfl,hv,_,h⟩
   exact⟨by rw[dh hv],h⟩
end Go.Proofs.YtadecgbblajifaaGreatDoor.DV
namespace Go.Proofs.YtadecgbblajifaaGreatDoor
section
open Go.RowKit Go.Instr
attribute [local go_sem ↓] qH
def wQ:List ByteArray:=[⟨#[]⟩,⟨#[]⟩,⟨#[]⟩,⟨#[]⟩,⟨#[]⟩,⟨#[]⟩,⟨#[45]⟩,⟨#[33]⟩,⟨#[43]⟩,⟨#[45]⟩,⟨#[42]⟩,⟨#[47]⟩,⟨#[37]⟩,⟨#[38]⟩,⟨#[124]⟩,⟨#[94]⟩,⟨#[61,61]⟩,⟨#[33,61]⟩,⟨#[60]⟩,⟨#[60,61]⟩,⟨#[62]⟩,⟨#[62,61]⟩,⟨#[38,38]⟩,⟨#[124,124]⟩,⟨#[]⟩,⟨#[]⟩,⟨#[]⟩,⟨#[]⟩,⟨#[]⟩,⟨#[]⟩,⟨#[]⟩,⟨#[]⟩,⟨#[]⟩,⟨#[]⟩,⟨#[]⟩,⟨#[]⟩,⟨#[]⟩,⟨#[]⟩,⟨#[]⟩,⟨#[]⟩,⟨#[43,61]⟩,⟨#[45,61]⟩,⟨#[94,61]⟩]
def Bu (w:World):Prop:=∀ k,k<43->w.cell? ⟨1,k,none⟩=some (.string (wQ.getD k ⟨#[]⟩))
theorem Bu.later {w w':World} (h:Bu w) (hm:Mv (λ_=>False) w w'):Bu w':=λk hk=>by
 have h1:=h k hk
 have h2:=World.block_lt_of_cell? w _ h1
 unfold World.cell? at h1 ⊢
 rw[hm.block _ h2 (λe=>e)];exact h1
set_option maxHeartbeats 800000 in
theorem agd (op:Nat) (w:World) (ht:Bu w) (h:op<43):Calls Tryz.prog 94 #[.int .u8 op] w λe w'=>e = .returned (.string (wQ.getD op ⟨#[]⟩))/\w=w':=by
 have c0:=ht op h
 have hbl:=World.block_lt_of_cell? w _ c0
 have ho:(op:Int)<43:=by omega
 generalize wQ.getD op ⟨#[]⟩=sv at *
 clear ht
 go_enter Tryz.func94,Tryz.ntmps94
 go_wp2_with fail
 go_ret
 exact⟨rfl,rfl⟩
def aed:List Int:=[0,0,0,0,0,0,9,9,7,7,8,8,8,5,3,4,6,6,6,6,6,6,2,1]
set_option maxHeartbeats 3200000 in
theorem agl (op:Nat) (w:World) (h:op<24):Calls Tryz.prog 252 #[.int .u8 op] w λe w'=>e = .returned (.int .i64 (aed.getD op 0))/\w=w':=by
 have:∀ op,op<24->op=0\/op=1\/op=2\/op=3\/op=4\/op=5\/op=6\/op=7\/op=8\/op=9\/op=10\/op=11\/op=12\/op=13\/op=14\/op=15\/op=16\/op=17\/op=18\/op=19\/op=20\/op=21\/op=22\/op=23:=by omega
 rcases this op h with rfl|rfl|rfl|rfl|rfl|rfl|rfl|rfl|rfl|rfl|rfl|rfl|rfl|rfl|rfl|rfl|rfl|rfl|rfl|rfl|rfl|rfl|rfl|rfl <;>
 · go_enter Tryz.func252,Tryz.ntmps252
   go_wp2_with fail
   go_ret
   exact⟨rfl,rfl⟩
def opC (x:Nat):List Value:=[.int .u8 x]
theorem Tryz.abV:(Tryz.prog.info? 5).map (λi=>(i.zero,i.size,i.bytes))=some (some (.int .u8 0),1,1):=by kernel_rfl
theorem Tryz.abW:Elem Tryz.prog 51 5 1 1:=Elem.of Tryz.underlying51 Tryz.abV rfl (by decide) (by decide)
def opsL:List Nat:=(List.range 16).map (· + 8)
theorem _y (k:Nat) (h:k<16):opsL.take (k+1)=opsL.take k ++ [k+8]:=by
 rw[List.take_succ_eq_append_getElem (by simpa[opsL]using h)];simp[opsL]
set_option maxHeartbeats 3200000 in
theorem af5 (w:World):Calls Tryz.prog 93 #[] w λe w'=>∃ a c,e = .returned (.slice a 16 c)/\w'.ownsRow w.heap.size 5 1 (.slice a 16 c) opsL.length (flat opC opsL)/\Grow w w':=by
 go_enter Tryz.func93,Tryz.ntmps93
 go_wp2_with fail
 go_loopw [1,2] (λlv t wr=>∃ (k:Nat) (a:Option Addr) (c:Nat),t = .int .u8 ((k:Int)+8)/\k<=16/\lv = .slice a k c/\Grow w wr/\wr.ownsRow w.heap.size 5 1 (.slice a k c) (opsL.take k).length (flat opC (opsL.take k))) (λ_ t _=>24 - (intOf t).toNat)
 case atStart=>exact⟨0,none,0,rfl,by omega,rfl,Mv.refl _ _,World.ownsRow_nil _ _ _ _⟩
 obtain⟨k,a,c,rfl,hk,rfl,hg,hrow⟩:=hrel
 have HG:=Lib.hid hg
 have HR:=Lib.hid hrow
 clear hg hrow
 by_cases hlt:k<16
 · have hkk:(k:Int)+8<=23:=by omega
   have hlen:(opsL.take k).length=k:=by simp[opsL];omega
   have hg1:Grow w (wr.alloc (.cells #[.int .u8 ((k:Int)+8)] 5)):=HG.out.alloc _
   obtain⟨a',c',w2,⟨hok,iI,haw⟩,hr2,hm2,-⟩:=nL Tryz.abW (f:=opC) (λ_=>rfl) (.slice a k c) (.slice (some ⟨wr.heap.size,0,none⟩) 1 1) (opsL.take k) [k+8] w.heap.size (wr.alloc (.cells #[.int .u8 ((k:Int)+8)] 5)) (fQ HR.out ((Mv.refl (λ_=>False) wr).alloc _) (λ_ _ e=>e)) (aB.gW (f:=opC) (l:=[k+8]) (λ_=>rfl) (heap_alloc_new wr _) (by simp[flat,opC]) (Nat.le_of_ble_eq_true rfl)) (λy hy u hu=>by simp at hy;subst hy;simp[opC]at hu;subst hu;rfl) hg1.size (by simp;omega)
   rw[← _y k hlt]at hr2
   rw[hlen]at iI hr2
   have ow:=Lib.hid (show w2.ownsRow w.heap.size 5 1 (.slice a' (k+1) c') (opsL.take (k+1)).length (flat opC (opsL.take (k+1)))from hr2)
   have Cw:=Lib.hid (hg1.trans hm2 (λb e => .inr (by
    rcases HR.out.2 with⟨e2,-⟩|⟨g',cap,cur,e2,h1,-⟩
    · rw[e2]at e;simp[Value.ownBlock]at e
    · rw[e2]at e;simp[Value.ownBlock]at e;subst e;exact h1)))
   clear hr2 hm2 hg1 hlen
   go_wp2_with fail
   go_roundw
   case rel=>exact⟨k+1,a',c',by go_num,by omega,rfl,Cw.out,ow.out⟩
   case measure=>(simp[intOf] <;> omega)
 · obtain rfl:k=16:=by omega
   have HF:=Lib.hid (show wr.ownsRow w.heap.size 5 1 (.slice a 16 c) opsL.length (flat opC opsL)from HR.out)
   go_wp2_with fail
   go_ret
   exact⟨a,c,rfl,HF.out,HG.out⟩
end
section
open Go.ChangeShapes Go.WideShapes Go.RowKit Go.Instr Go.Deep
abbrev qK : List (String × DataW Unit) := [("backstep/arith.symbols", Rows.laid_backstep_arith_symbols), ("backstep/isa.table", Rows.laid_backstep_isa_table), ("math/bits.deBruijn32tab", Rows.laid_math_bits_deBruijn32tab), ("math/bits.deBruijn64tab", Rows.laid_math_bits_deBruijn64tab), ("internal/strconv.uint64pow10", Rows.laid_internal_strconv_uint64pow10), ("strconv.ErrRange", Rows.laid_strconv_ErrRange), ("strconv.ErrSyntax", Rows.laid_strconv_ErrSyntax)]
theorem Tryz.abX : Tryz.prog.globalNamed "backstep/isa.table" = some 0 := by kernel_rfl
theorem Tryz.abY:(Tryz.prog.globals[0]?).map (·.type)=some 195:=by kernel_rfl
theorem Tryz.Pw:Tryz.prog.cellsOf 194=2:=by kernel_rfl
theorem Tryz.Zi:Tryz.prog.cellsOf 3=1:=by kernel_rfl
theorem Tryz.acU : Tryz.prog.globalNamed "backstep/arith.symbols" = some 1 := by kernel_rfl
theorem Tryz.acV:(Tryz.prog.globals[1]?).map (·.type)=some 204:=by kernel_rfl
theorem Tryz.OE:Tryz.prog.cellsOf 9=1:=by kernel_rfl
def uX:List ByteArray:=[⟨#[110,111,112]⟩,⟨#[97,100,100]⟩,⟨#[115,117,98]⟩,⟨#[120,111,114]⟩,⟨#[97,100,100,105]⟩,⟨#[115,117,98,105]⟩,⟨#[120,111,114,105]⟩,⟨#[115,119,97,112]⟩,⟨#[110,101,103]⟩,⟨#[99,97,108,99]⟩,⟨#[109,101,109]⟩,⟨#[105,100,120]⟩,⟨#[112,117,115,104]⟩,⟨#[112,111,112]⟩,⟨#[116,111,112]⟩,⟨#[115,105,122,101]⟩,⟨#[115,119,97,112,115]⟩,⟨#[114,101,97,100]⟩,⟨#[117,110,114,101,97,100]⟩,⟨#[119,114,105,116,101]⟩,⟨#[117,110,119,114,105,116,101]⟩,⟨#[122,101,114,111]⟩,⟨#[106,109,112]⟩,⟨#[106,109,112,122]⟩,⟨#[106,109,112,110]⟩,⟨#[108,97,110,100]⟩,⟨#[108,97,110,100,122]⟩,⟨#[108,97,110,100,110]⟩,⟨#[102,114,97,109,101]⟩,⟨#[117,110,102,114,97,109,101]⟩,⟨#[99,97,108,108]⟩,⟨#[117,110,99,97,108,108]⟩,⟨#[115,116,97,114,116]⟩,⟨#[101,110,100]⟩,⟨#[104,97,108,116]⟩]
theorem Zj {H:Type} : ∃ l:List (DataW H),Rows.laid_backstep_isa_table = .agg l/\l=(uX.zip kP).map λx => .agg [.lit (.string x.1.data.toList),.lit (.int .i64 x.2)]:=⟨_,rfl,by kernel_rfl⟩
set_option maxRecDepth 100000 in
theorem XJ {W:World} (h:laidMetH Tryz.prog qK W) (k:Nat) (hk:k<35):W.cell? ⟨0,k * 2,none⟩=some (.string (uX.getD k ⟨#[]⟩))/\W.cell? ⟨0,k * 2+1,none⟩=some (.int .i64 (kP.getD k 0)):=by
 rw[MakeChecks.laidMetH_plain _ _ _ (by kernel_rfl)]at h
 obtain⟨ps,⟨_,_,_,_,_,_,_,_,_,_,⟨g0,t0,cs0,f0,p0,q0,hg0,ht0,hv0,hd0,_,_⟩,_⟩,_⟩:=h
 obtain rfl:=Option.some.inj (Tryz.abX.symm.trans hg0)
 obtain rfl:=Option.some.inj (Tryz.abY.symm.trans ht0)
 obtain⟨l,hl,xI⟩:=Zj (H:=Unit)
 rw[hl]at hd0
 obtain⟨xs,m1,rfl,hx1,hlen,zu,hel⟩:=DataW.trod_array Tryz.underlying195 hd0
 simp only[Prod.mk.injEq,DataW.agg.injEq]at hx1
 have hs:l[k]? = some (.agg [.lit (.string (uX.getD k ⟨#[]⟩).data.toList),.lit (.int .i64 (kP.getD k 0))]):=by
  have h1:k<uX.length:=hk
  have h2:k<kP.length:=hk
  rw[xI,List.getElem?_map,show(uX.zip kP)[k]? = some (uX[k],kP[k])from List.getElem?_zip_eq_some.2 ⟨List.getElem?_eq_getElem h1,List.getElem?_eq_getElem h2⟩,List.getD_eq_getElem?_getD,List.getD_eq_getElem?_getD,List.getElem?_eq_getElem h1,List.getElem?_eq_getElem h2]
  rfl
 have Df:=hel k hk
 rw[hx1.1,List.getElem?_map]at hs
 cases hxk:xs[k]? with
 |none=>rw[hxk]at hs;simp at hs
 |some x =>
  rw[hxk]at hs Df
  simp only[Option.map_some,Option.some.injEq]at hs
  obtain⟨ys,m2,rfl,hx2,hcl,hyl,hf⟩:=DataW.trod_struct Tryz.underlying194 Df
  match ys,hyl with
  | [y0,y1],_ =>
   have f1:=hf 1 _ rfl
   have f2:=hf 0 _ rfl
   obtain⟨n,e1,e2,_⟩:=DataW.trod_int Tryz.underlying3 (show DataW.trod _ _ _ _ _ _ _ _ _=some y1 from f1)
   obtain⟨s,e3,e4,_⟩:=DataW.trod_string Tryz.underlying9 (show DataW.trod _ _ _ _ _ _ _ _ _=some y0 from f2)
   rw[hx2]at hs
   simp only[List.map_cons,List.map_nil,DataW.agg.injEq,List.cons.injEq,and_true]at hs
   have hn:n=kP.getD k 0:=by
    have:=hs.2
    rw[e2]at this
    simpa using this
   have hm:s=uX.getD k ⟨#[]⟩:=by
    have h3:=hs.1
    rw[e4]at h3
    simp only[DataW.lit.injEq,Lit.string.injEq]at h3
    exact ByteArray.ext (Array.toList_inj.1 h3)
   have c1:Tryz.prog.cellsOf 3=1:=Tryz.Zi
   have c2:Tryz.prog.cellsOf 9=1:=Tryz.OE
   rw[World.var?_cell hg0 hv0 (k * 2+1),World.var?_cell hg0 hv0 (k * 2),← hn,← hm]
   constructor
   · have h3:(cs0.toList.drop (k * 2))[0]? = some (.string s):=by
      have h4:=congrArg (λt=>t[0]?) e3
      simp only[Tryz.Pw,c2]at h4
      simp[List.getElem?_drop,List.getElem?_take]at h4
      simpa[List.getElem?_drop]using h4.2
     rw[List.getElem?_drop]at h3
     simpa using h3
   · have h3:(cs0.toList.drop (k * 2))[1]? = some (.int .i64 n):=by
      have h4:=congrArg (λt=>t[0]?) e1
      simp only[Tryz.Pw,c1]at h4
      simp[List.getElem?_drop,List.getElem?_take]at h4
      simpa[List.getElem?_drop]using h4.2
     rw[List.getElem?_drop]at h3
     simpa using h3
theorem _z (H:Type):∃ l:List (DataW H),Rows.laid_backstep_arith_symbols = .agg l/\l=wQ.map λs => .lit (.string s.data.toList):=⟨_,rfl,by kernel_rfl⟩
set_option maxRecDepth 100000 in
theorem X3 {W:World} (h:laidMetH Tryz.prog qK W):Bu W:=by
 rw[MakeChecks.laidMetH_plain _ _ _ (by kernel_rfl)]at h
 obtain⟨ps,⟨g0,t0,cs0,f0,p0,q0,hg0,ht0,hv0,hd0,_,_⟩,_⟩:=h
 obtain rfl:=Option.some.inj (Tryz.acU.symm.trans hg0)
 obtain rfl:=Option.some.inj (Tryz.acV.symm.trans ht0)
 obtain⟨l,hl,xI⟩:=_z Unit
 rw[hl]at hd0
 obtain⟨xs,m1,rfl,hx1,hlen,zu,hel⟩:=DataW.trod_array Tryz.underlying204 hd0
 simp only[Prod.mk.injEq,DataW.agg.injEq]at hx1
 intro k hk
 have Df:=hel k hk
 have hs:l[k]? = some (.lit (.string (wQ.getD k ⟨#[]⟩).data.toList)):=by
  rw[xI,List.getElem?_map,List.getD_eq_getElem?_getD]
  have hkl:k<wQ.length:=hk
  rw[List.getElem?_eq_getElem hkl];rfl
 rw[hx1.1,List.getElem?_map]at hs
 cases hxk:xs[k]? with
 |none=>rw[hxk]at hs;simp at hs
 |some x =>
  rw[hxk]at hs Df
  simp only[Option.map_some,Option.some.injEq]at hs
  obtain⟨s,e1,e2,_⟩:=DataW.trod_string Tryz.underlying9 Df
  have hn:s=wQ.getD k ⟨#[]⟩:=by
   have h3:=hs
   rw[e2]at h3
   simp only[DataW.lit.injEq,Lit.string.injEq]at h3
   exact ByteArray.ext (Array.toList_inj.1 h3)
  rw[World.var?_cell hg0 hv0 k]
  have c1:Tryz.prog.cellsOf 9=1:=Tryz.OE
  have h3:(cs0.toList.drop k)[0]? = some (.string s):=by
   have h4:=congrArg (λt=>t[0]?) e1
   simp only[c1,Nat.mul_one]at h4
   simpa[List.getElem?_drop,List.getElem?_take]using h4
  rw[List.getElem?_drop]at h3
  rw[← hn]
  simpa using h3
theorem _A (os:Os) (args:Array Value):laidMetH Tryz.prog qK ((World.doorLaid Tryz.prog 400 os).forCall (λ_ _=>0) ⟨#[],args,[]⟩).memory :=
 laidMetH_of_parts3 (fuel:=8) (laidMet_of_run' 8 (by kernel_rfl) (by kernel_rfl)) (by kernel_rfl) (by kernel_rfl)
end
section
theorem Uv {α β:Type} (f:α->β) (l:List α) (d:α) (k:Nat) (v:β) (h:(l.map f)[k]? = some v):k<l.length/\v=f (l.getD k d):=by
 rw[List.getElem?_map]at h
 rcases Nat.lt_or_ge k l.length with h1|h1
 · rw[List.getElem?_eq_getElem h1]at h
   refine⟨h1,?_⟩
   rw[List.getD_eq_getElem?_getD,List.getElem?_eq_getElem h1]
   simpa using h.symm
 · rw[List.getElem?_eq_none h1]at h;simp at h
theorem _B {W:World} (h:laidMetH Tryz.prog qK W):DV.Cells W 1 DV.Gh:=DV.O7 (λk v hv=>by
 obtain⟨h1,rfl⟩:=Uv _ DV.LQ ⟨#[]⟩ k v hv
 exact X3 h k h1) (by simp[DV.Gh,DV.LQ])
theorem RL:DV.zB=(List.range 70).map λk=>if k % 2=0 then .string (uX.getD (k / 2) ⟨#[]⟩)else .int .i64 (kP.getD (k / 2) 0):=by kernel_rfl
theorem _C {W:World} (h:laidMetH Tryz.prog qK W):DV.Cells W 0 DV.zB:=DV.O7 (λk v hv=>by
 rw[RL]at hv
 obtain⟨h1,rfl⟩:=Uv _ (List.range 70) 0 k v hv
 have h1:k<70:=h1
 have h2:(List.range 70).getD k 0=k:=by
  rw[List.getD_eq_getElem?_getD,List.getElem?_range h1];rfl
 rw[h2]
 have h3:=XJ h (k / 2) (by omega)
 split
 · rw[← h3.1];congr 2;omega
 · rw[← h3.2];congr 2;omega) (by rw[RL];simp)
end
end Go.Proofs.YtadecgbblajifaaGreatDoor
