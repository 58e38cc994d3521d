import Derived.Test.YtnobahchcongnaaGreatF37
import Derived.Test.YtnobahchcongnaaGreatF40
set_option linter.unusedSimpArgs false
set_option linter.unusedVariables false
set_option maxRecDepth 100000
set_option maxHeartbeats 25600000
namespace Go.Proofs.YtnobahchcongnaaGreat
section
open Go.RowKit Go.Instr
theorem Ov {κ:Type} [BEq κ] [LawfulBEq κ] (k x:κ) (v:Value):∀ (l:List (κ × Value)) (i:Nat),(il x (lI k v l) i).map (·.2)=if x == k then some v else(il x l i).map (·.2)
 | [],i=>by
  simp only[lI,il];split <;> simp
 |(a,y) :: l,i=>by
  simp only[lI];by_cases hk:k == a
  · have hka:k=a:=by simpa using hk
    subst hka;simp only[beq_self_eq_true,if_true,il];split <;> simp
  · have hka:¬ k=a:=by simpa using hk
    simp only[hk,Bool.false_eq_true,if_false,il];by_cases hx:x == a
    · have hxa:x=a:=by simpa using hx
      subst hxa;have:¬ x=k:=λe=>hka e.symm;simp[this]
    · simp only[hx,Bool.false_eq_true,if_false];exact Ov k x v l (i+1)
def yY (l:List aA):List (ByteArray × Value):=l.foldl (λd v=>lI v.name (.bool true) d) []
theorem Jy (l:List aA) (s:ByteArray):(vX (yY l) s).getD (.bool false) = .bool (l.any λv=>v.name == s):=by
 have h:∀ (l:List aA) (d:List (ByteArray × Value)),(vX (l.foldl (λd v=>lI v.name (.bool true) d) d) s).getD (.bool false)=if(l.any λv=>v.name == s)then .bool true else(vX d s).getD (.bool false):=by
  intro l
  induction l with
  |nil=>intro d;simp
  |cons v l ih =>
   intro d;rw[List.foldl_cons,ih,List.any_cons];by_cases hl:l.any λv=>v.name == s
   · simp[hl]
   · simp only[hl,Bool.or_false,if_false,Bool.false_eq_true];unfold vX;rw[Ov];by_cases hv:s=v.name
     · subst hv;simp
     · have hv':¬ v.name=s:=λe=>hv e.symm;simp[hv,hv']
 rw[yY,h l []];cases l.any λv=>v.name == s <;> simp[vX,il]
theorem Xo (l:List aA) (j:Nat) (h:j<l.length):yY (l.take (j+1))=lI l[j].name (.bool true) (yY (l.take j)):=by
 rw[List.take_succ_eq_append_getElem h,yY,List.foldl_append];rfl
theorem WA (l:List aA) (j:Nat) (h:j<l.length):frameC (l.take (j+1))=gL (frameC (l.take j)) l[j]:=by
 rw[List.take_succ_eq_append_getElem h,frameC,List.foldl_append];rfl
theorem Zj (l:List aA) (j:Nat) (h:j<l.length):nR ((l.take j).map aA.name) (l.drop j)=(((l.take j).any λv=>v.name == l[j].name) || nR ((l.take (j+1)).map aA.name) (l.drop (j+1))):=by
 rw[List.drop_eq_getElem_cons h,nR,List.take_succ_eq_append_getElem h,List.map_append,List.any_map];rfl
def addNode (f:az) (n:Tree):az :=
 if n.kind=54 then(if(au f n.name 1).isSome then f else gL f ⟨n.name,1,0⟩)
 else if n.kind=55 then(if(au f n.name 3).isSome then f else gL f ⟨n.name,3,0⟩)else f
def clash (vars:List aA) (n:Tree):Bool:=(n.kind == 54 || n.kind == 55) && vars.any (λv=>v.name == n.name)
def mK (vars:List aA) (body:Tree):az:=(dD body).foldl addNode (frameC vars)
def mF (vars:List aA) (body:Tree):Int:=if gN vars && bW body then(if nR [] vars then 22 else if(dD body).any (clash vars)then 22 else 0)else 3
def UQ (w:World) (l:List aA) (b:Tree) (e:Ending) (w':World):Prop :=
 ∃ sv,e = .returned (.tuple #[.agg #[sv,.int .i64 (if mF l b=0 then mK l b else iI).cells,.int .i64 (if mF l b=0 then mK l b else iI).stacks],.int .i64 (mF l b)])/\fV w' sv (if mF l b=0 then mK l b else iI)/\Grow w w'
theorem pU.more {m m':Nat} {f:az} (h:pU m f) (hm:m<=m'):pU m' f:=by
 obtain⟨h1,h2,h3⟩:=h;exact⟨by omega,by omega,λs hs=>by have:=h3 s hs;omega⟩
theorem Xp (f:az) (n:Tree) (m:Nat) (h:pU m f/\f.slots.length<=m):pU (m+1) (addNode f n)/\(addNode f n).slots.length<=m+1:=by
 have hl:∀ v,(gL f v).slots.length=f.slots.length+1:=λv=>by unfold gL;split;simp;split <;> simp
 unfold addNode;split
 · split
   · exact⟨h.1.more (by omega),by omega⟩
   · exact⟨Jb f _ m h.1 rfl,by rw[hl];omega⟩
 · split
   · split
     · exact⟨h.1.more (by omega),by omega⟩
     · exact⟨Jb f _ m h.1 rfl,by rw[hl];omega⟩
   · exact⟨h.1.more (by omega),by omega⟩
theorem NT:∀ (l:List Tree) (f:az) (m:Nat),pU m f/\f.slots.length<=m->pU (m+l.length) (l.foldl addNode f)/\(l.foldl addNode f).slots.length<=m+l.length
 | [],f,m,h=>h
 |n :: l,f,m,h=>by
  have:=NT l (addNode f n) (m+1) (Xp f n m h);rw[show m+(n :: l).length=m+1+l.length from by rw[List.length_cons];omega];exact this
theorem Iq (l:List aA) (j:Nat) (hv:gN l=true):pU 32 (frameC (l.take j))/\(frameC (l.take j)).slots.length<=32:=by
 simp only[gN,Bool.and_eq_true,decide_eq_true_eq]at hv;have h2:(l.take j).all aA.okB=true:=List.all_eq_true.2 λv MV=>List.all_eq_true.1 hv.2 v (List.mem_of_mem_take MV);have h3:(l.take j).length<=32:=by rw[List.length_take];omega
 refine⟨(IQ (l.take j) iI 0 ⟨by simp[iI],by simp[iI],by simp[iI]⟩ h2).more (by omega),?_⟩;rw[NF];exact h3
mutual
theorem AB:∀ (t:Tree),(dD t).length=bA t
 |.mk k n s l=>by
  have:=Pd l;rw[dD,bA,List.length_cons];omega
theorem Pd:∀ (l:List Tree),(gF l).length=dz l
 | []=>by simp[gF,dz]
 |t :: l=>by
  have h1:=AB t;have h2:=Pd l;rw[gF,dz,List.length_append];omega
end
def eG (vars:List aA) (ns:List Tree):az:=ns.foldl addNode (frameC vars)
theorem Jz (vars:List aA) (ns:List Tree) (n:Tree):eG vars (ns ++ [n])=addNode (eG vars ns) n:=by simp[eG]
theorem Ke (vars:List aA) (ns:List Tree) (hv:gN vars=true):pU (32+ns.length) (eG vars ns)/\(eG vars ns).slots.length<=32+ns.length:=by
 have:=Iq vars vars.length hv;rw[List.take_length]at this;exact NT ns _ 32 this
theorem ry (ys:List (Value × ae)) (z:Value × ae):came (ys ++ [z])=came ys ++ [z.2.t]:=by simp[came]
end
section
open Go.RowKit
def aA.decl (v:aA):Bool:=mR v.name && v.okB
theorem VQ (l:List aA) (k:Nat) (h:k<l.length):(l.take (k+1)).all aA.decl=((l.take k).all aA.decl && l[k].decl):=by
 rw[List.take_succ_eq_append_getElem h,List.all_append];simp
theorem Xq (l:List aA) (k:Nat) (h:k<l.length) (hf:l[k].decl=false):l.all aA.decl=false:=by
 apply Bool.eq_false_iff.2;intro ha;have:=List.all_eq_true.1 ha l[k] (List.getElem_mem h);rw[hf]at this;cases this
theorem NG (v:Value) (l:List aA) (w:World) (h:ax 3 aA.cells w v l) (hs:∀ x∈l,x.name.size<=9223372036854775807):Calls Tryz.prog 15 #[v] w (iK w (l.all aA.decl)):=by
 obtain⟨va,vc,rfl,oC,hvl⟩:=h.form;have HR:=ł h;have HS:=ł hs;clear h hs
 go_enter Tryz.func15,Tryz.ntmps15
 go_wp2_with fail
 go_loopw [7] (λt wr=>∃ k:Nat,t = .int .i64 k/\k<=l.length/\Grow w wr/\(l.take k).all aA.decl=true) (λt _=>l.length - (intOf t).toNat)
 case atStart=>exact⟨0,rfl,Nat.zero_le _,Mv.refl _ _,rfl⟩
 obtain⟨k,rfl,hk,hg,hall⟩:=hrel;have HG:=ł hg;have HA:=ł hall;clear hall hg;by_cases hlt:k<l.length
 · obtain⟨b,off,cap',e,_,hcc⟩:=(HR.out.later HG.out).at hlt;simp only[Value.slice.injEq,true_and]at e;obtain⟨rfl,rfl⟩:=e;have c0:=hcc 0 _ rfl;have c1:=hcc 1 _ rfl;have c2:=hcc 2 _ rfl;have HT:=ł (λ(h:l[k].decl=true)=>show(l.take (k+1)).all aA.decl=true from by rw[VQ l k hlt,HA.out,h];rfl);have HF:=ł (λ(h:l[k].decl=false)=>show l.all aA.decl=false from Xq l k hlt h);have iC:=ł (show l[k].decl=(mR l[k].name && mE l[k].kind l[k].len)from rfl);have HS2:=ł (HS.out _ (List.getElem_mem hlt));generalize l[k]=x at *;obtain⟨xs,xk,xn⟩:=x;simp only[Nat.add_zero]at c0 c1 c2 iC HS2;have hbl:b<wr.heap.size:=World.block_lt_of_cell? wr _ c0;clear hcc;have HN:=ł (JK xs (wr.alloc (.cells #[.string xs,.int .u8 xk,.int .i64 xn] 54)) HS2.out);have aK:=ł (show Grow w (wr.alloc (.cells #[.string xs,.int .u8 xk,.int .i64 xn] 54))from HG.out.alloc _);have Ht:=ł (heap_alloc_new wr (.cells #[.string xs,.int .u8 xk,.int .i64 xn] 54));have hnl:wr.heap.size<(wr.alloc (.cells #[.string xs,.int .u8 xk,.int .i64 xn] 54)).heap.size:=by simp
   go_wp2_with fail;generalize (wr.alloc (.cells #[.string xs,.int .u8 xk,.int .i64 xn] 54))=w1 at *;refine HN.out.mono ?_;rintro e w2 ⟨rfl,hm⟩;have hX:=ai Ht.out hm;have x0:w2.cell? ⟨wr.heap.size,0,none⟩=some (.string xs):=by simp[World.cell?,hX]
   have x1:w2.cell? ⟨wr.heap.size,1,none⟩=some (.int .u8 xk):=by simp[World.cell?,hX]
   have x2:w2.cell? ⟨wr.heap.size,2,none⟩=some (.int .i64 xn):=by simp[World.cell?,hX]
   have hxl:=lt_of_block hX;have HG2:=ł (show Grow w w2 from gtr aK.out hm);clear hm hX c0 c1 c2;cases hnb:mR xs with
   |false =>
    have HX:=ł (HF.out (by rw[iC.out,hnb];rfl));clear HT HF;go_wp2_with fail;go_ret;exact⟨aL HX.out.symm,HG2.out⟩
   |true =>
    have rR:=ł (show aA.decl ⟨xs,xk,xn⟩=mE xk xn from by rw[iC.out,hnb];rfl);have hcs:xk=1\/xk=3\/xk=2\/(xk≠1/\xk≠3/\xk≠2):=by omega
    rcases hcs with rfl|rfl|rfl|⟨n1,n3,n2⟩
    iterate 2
     · by_cases hn:xn=0
       · subst hn;have HX:=ł (HT.out (by rw[rR.out];rfl));clear HT HF iC rR;go_wp2_with fail
         go_roundw
         case rel=>exact⟨k+1,by go_num,by omega,HG2.out,HX.out⟩
         case measure=>(simp[intOf] <;> omega)
       · have HX:=ł (HF.out (by rw[rR.out];simp[mE,hn]));have hb:(xn != 0)=true:=by simpa using hn
         clear HT HF hn iC rR;go_wp2_with fail;go_ret;exact⟨aL HX.out.symm,HG2.out⟩
    · by_cases h1:1<=xn
      · by_cases h16:xn<=16
        · have HX:=ł (HT.out (by rw[rR.out];simp[mE,h1,h16]));have hd1:decide (xn<1)=false:=by simp;omega
          have hd2:decide (16<xn)=false:=by simp;omega
          clear HT HF iC rR;go_wp2_with fail
          go_roundw
          case rel=>exact⟨k+1,by go_num,by omega,HG2.out,HX.out⟩
          case measure=>(simp[intOf] <;> omega)
        · have HX:=ł (HF.out (by rw[rR.out];simp[mE];omega));have hd1:decide (xn<1)=false:=by simp;omega
          have hd2:decide (16<xn)=true:=by simp;omega
          clear HT HF iC rR;go_wp2_with fail;go_ret;exact⟨aL HX.out.symm,HG2.out⟩
      · have HX:=ł (HF.out (by rw[rR.out];simp[mE];omega));have hd1:decide (xn<1)=true:=by simp;omega
        clear HT HF iC rR;go_wp2_with fail;go_ret;exact⟨aL HX.out.symm,HG2.out⟩
    · have HX:=ł (HF.out (by rw[rR.out];simp[mE,n1,n2,n3]));have e1:(xk == 1)=false:=by simpa using n1
      have e2:(xk == 2)=false:=by simpa using n2
      have e3:(xk == 3)=false:=by simpa using n3
      clear HT HF n1 n2 n3 iC rR;go_wp2_with fail;go_ret;exact⟨aL HX.out.symm,HG2.out⟩
 · have HX:=ł (show l.all aA.decl=true from by rw[← HA.out,show k=l.length from by omega,List.take_length]);go_wp2_with fail;go_ret;exact⟨aL HX.out.symm,HG.out⟩
mutual
def jI:Tree->Int->Int->Bool × Int
 |.mk _ _ _ l,d,left=>if d=0\/left=0 then(false,left)else nE l (d - 1) (left - 1)
def nE:List Tree->Int->Int->Bool × Int
 | [],_,left=>(true,left)
 |t :: r,d,left=>if(jI t d left).1 then nE r d (jI t d left).2 else(false,(jI t d left).2)
end
mutual
theorem Qy:∀ (t:Tree) (d left:Int),0<=left->0<=(jI t d left).2/\(jI t d left).2<=left
 |.mk _ _ _ l,d,left,h=>by
  rw[jI];split
  · exact⟨h,Int.le_refl _⟩
  · have:=PU l (d - 1) (left - 1) (by omega);omega
theorem PU:∀ (l:List Tree) (d left:Int),0<=left->0<=(nE l d left).2/\(nE l d left).2<=left
 | [],d,left,h=>⟨h,Int.le_refl _⟩
 |t :: r,d,left,h=>by
  have h1:=Qy t d left h;have h2:=PU r d (jI t d left).2 h1.1;rw[nE];split
  · omega
  · exact h1
end
theorem jG {wb w w':World} {O:Nat->Prop} (h:Grow wb w) (hm:Mv O w w') (hO:∀ b,O b->wb.heap.size<=b):Grow wb w':=h.trans hm (λb hb => .inr (hO b hb))
def Qz (L:Nat) (r:Bool × Int) (w:World) (e:Ending) (w':World):Prop:=e = .returned (.bool r.1)/\Mv (λb=>b=L) w w'/\w'.heap[L]? = some (.cells #[.int .i64 r.2] 3 (0,0))
theorem drop_at {α:Type} (l:List α) (j:Nat) (h:j<l.length):l.drop j=l[j] :: l.drop (j+1):=List.drop_eq_getElem_cons h
theorem WB:∀ (m:Nat) (x:ae),SizeOf.sizeOf x<=m->∀ (wb w:World) (L:Nat) (d left:Int),aS wb x->Grow wb w->wb.heap.size<=L->w.heap[L]? = some (.cells #[.int .i64 left] 3 (0,0))->(0<=d/\d<=1000)->(0<=left/\left<=100000) ->
 Calls Tryz.prog 42 #[x.val,.int .i64 d,.pointer (some ⟨L,0,none⟩)] w (Qz L (jI x.t d left) w):=by
 intro m
 induction m with
 |zero=>intro x hm;cases x;simp at hm
 |succ m ih =>
  intro x hm wb w L d left hx hg hL hl hd hlf;obtain⟨k,n,s,kv,l⟩:=x;obtain⟨ka,kc,rfl,hkc,hkl⟩:=hx.form;have fT:=ł (λ(i:Nat) (hi:i<l.length) (z:World) (lf:Int) (hz:Grow wb z) (h1:z.heap[L]? = some (.cells #[.int .i64 lf] 3 (0,0))) (h2:0<=d - 1) (h3:0<=lf/\lf<=100000)=>ih l[i] (by
   have:=nA (k:=k) (n:=n) (s:=s) (kv := .slice ka l.length kc) (List.getElem_mem hi)
   omega) wb z L (d - 1) lf (hx.row.2.2.2.2 _ (List.getElem_mem hi)) hz hL h1 (by omega) h3)
  have ll:=ł hx;have l0:w.cell? ⟨L,0,none⟩=some (.int .i64 left):=by simp[World.cell?,hl]
  have lf:=aD hl 0;have hll:=lt_of_block hl;have HL:=ł hl;have bE:=ł hg;have UR:wb.heap.size<=L:=hL;have aJ:=ł (heap_alloc_new w (.cells #[.int .u8 k,.int .i64 n,.string s,.slice ka l.length kc] 26));have aK:=ł (show Grow wb (w.alloc (.cells #[.int .u8 k,.int .i64 n,.string s,.slice ka l.length kc] 26))from hg.alloc _);have HR:=ł (show jI (ae.t (.mk k n s (.slice ka l.length kc) l)) d left=if d=0\/left=0 then(false,left)else nE (ae.ts l) (d - 1) (left - 1)from by rw[ae.t,jI]);clear hx hg hl ih hL;simp only[ae.val];generalize jI (ae.t (.mk k n s (.slice ka l.length kc) l)) d left=R at *;by_cases h0:d=0\/left=0
  · have HR2:=ł (show R=(false,left)from by rw[HR.out,if_pos h0]);have hL2:=ai HL.out ((Mv.refl (λ_=>False) w).alloc (.cells #[.int .u8 k,.int .i64 n,.string s,.slice ka l.length kc] 26));have HL2:=ł hL2;clear hL2;rcases h0 with rfl|rfl
    · go_enter Tryz.func42,Tryz.ntmps42
      go_wp2_with fail;go_ret;exact⟨aL (by rw[HR2.out]),(Mv.refl _ _).alloc _,by rw[HR2.out];exact HL2.out⟩
    · by_cases hd0:d=0
      · subst hd0
        go_enter Tryz.func42,Tryz.ntmps42
        go_wp2_with fail;go_ret;exact⟨aL (by rw[HR2.out]),(Mv.refl _ _).alloc _,by rw[HR2.out];exact HL2.out⟩
      · have e0:(d == 0)=false:=by simpa using hd0
        go_enter Tryz.func42,Tryz.ntmps42
        go_wp2_with fail;go_ret;exact⟨aL (by rw[HR2.out]),(Mv.refl _ _).alloc _,by rw[HR2.out];exact HL2.out⟩
  · have e0:(d == 0)=false:=by simp;omega
    have e1:(left == 0)=false:=by simp;omega
    have HR2:=ł (show R=nE (ae.ts l) (d - 1) (left - 1)from by rw[HR.out,if_neg h0]);have hd1:1<=d:=by omega
    have hl1:1<=left:=by omega
    clear h0
    go_enter Tryz.func42,Tryz.ntmps42
    go_wp2_with fail;have hb1:=block_setCell (p:=⟨L,0,none⟩) HL.out rfl (.int .i64 (left - 1));have HB2:=ł (show((w.setCell ⟨L,0,none⟩ (.int .i64 (left - 1))).alloc (.cells #[.int .u8 k,.int .i64 n,.string s,.slice ka l.length kc] 26)).heap[L]? = some (.cells #[.int .i64 (left - 1)] 3 (0,0))from aO (by simpa using hb1) _);have iD:=ł (show((w.setCell ⟨L,0,none⟩ (.int .i64 (left - 1))).alloc (.cells #[.int .u8 k,.int .i64 n,.string s,.slice ka l.length kc] 26)).heap[w.heap.size]? = some (.cells #[.int .u8 k,.int .i64 n,.string s,.slice ka l.length kc] 26 (0,0))from by
     have:=heap_alloc_new (w.setCell ⟨L,0,none⟩ (.int .i64 (left - 1))) (.cells #[.int .u8 k,.int .i64 n,.string s,.slice ka l.length kc] 26)
     simpa using this)
    have dE:=ł (show Mv (λb=>b=L) w ((w.setCell ⟨L,0,none⟩ (.int .i64 (left - 1))).alloc (.cells #[.int .u8 k,.int .i64 n,.string s,.slice ka l.length kc] 26))from((Mv.refl (λb=>b=L) w).setCell (p:=⟨L,0,none⟩) (.inl rfl) _).alloc _);generalize ((w.setCell ⟨L,0,none⟩ (.int .i64 (left - 1))).alloc (.cells #[.int .u8 k,.int .i64 n,.string s,.slice ka l.length kc] 26))=w2 at *;have HG2:=ł (jG bE.out dE.out (λb e=>by subst e;exact UR));clear l0 lf hll hb1
    go_loopw [25] (λt wr=>∃ (j:Nat) (lf:Int),t = .int .i64 j/\j<=l.length/\wr.heap[L]? = some (.cells #[.int .i64 lf] 3 (0,0))/\(0<=lf/\lf<=100000)/\nE ((ae.ts l).drop j) (d - 1) lf=R/\Mv (λb=>b=L) w2 wr) (λt _=>l.length - (intOf t).toNat)
    case atStart=>exact⟨0,left - 1,rfl,Nat.zero_le _,HB2.out,by omega,by rw[HR2.out];rfl,Mv.refl _ _⟩
    obtain⟨j,lf,rfl,hj,hlb,Sa,hrest,hmv⟩:=hrel;have Bw:=ł hlb;have gY:=ł hrest;have lN:=ł hmv;have eB:=ł (jG HG2.out hmv (λb e=>by subst e;exact UR));clear hlb hrest hmv;by_cases hlt:j<l.length
    · obtain⟨kb,ko,qE,bF,-,-⟩:=ll.out.row.2.2.2.1.at (show 0<l.length by omega);simp only[Value.slice.injEq,true_and]at bF;obtain⟨rfl,rfl⟩:=bF;have dH:=(dO ll.out j hlt).later eB.out;have HE:=ł (show nE ((ae.ts l).drop j) (d - 1) lf=if(jI l[j].t (d - 1) lf).1 then nE ((ae.ts l).drop (j+1)) (d - 1) (jI l[j].t (d - 1) lf).2 else(false,(jI l[j].t (d - 1) lf).2)from by
       rw[drop_at _ j (by rw[ae.bT];exact hlt),nE,ae.gm l j hlt])
      have hbd:=Qy l[j].t (d - 1) lf Sa.1;have HC:=ł (λz hz h1=>fT.out j hlt z lf hz h1 (by omega) Sa);generalize hRj:jI l[j].t (d - 1) lf=Rj at *;generalize l[j]=y at *;obtain⟨yk,yn,ys,yv,yl⟩:=y;obtain⟨ya,yc,rfl,-,-⟩:=dH.at_.form;obtain⟨⟨d0,d1⟩,d2,d3⟩:=dH.four;simp only[ae.val]at HC;have hbl:kb<wr.heap.size:=World.block_lt_of_cell? wr _ d0;have nJ:=ł (HC.out (wr.alloc (.cells #[.int .u8 yk,.int .i64 yn,.string ys,.slice ya yl.length yc] 26)) (eB.out.alloc _) (aO Bw.out _));clear dH HC hRj;go_wp2_with fail;refine nJ.out.mono ?_;rintro e w4 ⟨rfl,zQ,hl4⟩;have GD:=ł (show Mv (λb=>b=L) w2 w4 from(lN.out.alloc _).trans zQ (λb e => .inl e));have UT:=ł hl4;clear zQ hl4 d0 d1 d2 d3;obtain⟨rb,rl⟩:=Rj;have adw:0<=rl/\rl<=lf:=hbd;cases rb with
      |false =>
       have HF:=ł (show R=(false,rl)from by rw[← gY.out,HE.out];rfl);go_wp2_with fail;go_ret;exact⟨aL (by rw[HF.out]),dE.out.trans GD.out (λb e => .inl e),by rw[HF.out];exact UT.out⟩
      |true =>
       have HF:=ł (show nE ((ae.ts l).drop (j+1)) (d - 1) rl=R from by rw[← gY.out,HE.out];rfl);go_wp2_with fail
       go_roundw
       case rel=>exact⟨j+1,rl,by go_num,by omega,UT.out,by omega,HF.out,GD.out⟩
       case measure=>simp[intOf];omega
    · obtain rfl:j=l.length:=by omega
      have HF:=ł (show R=(true,lf)from by
       rw[← gY.out,List.drop_eq_nil_of_le (by rw[ae.bT];exact Nat.le_refl _)];rfl)
      go_wp2_with fail;go_ret;exact⟨aL (by rw[HF.out]),dE.out.trans lN.out (λb e => .inl e),by rw[HF.out];exact Bw.out⟩
theorem WC (x:ae) (wb w:World) (L:Nat) (d left:Int) (hx:aS wb x) (hg:Grow wb w) (hL:wb.heap.size<=L) (hl:w.heap[L]? = some (.cells #[.int .i64 left] 3 (0,0))) (hd:0<=d/\d<=1000) (hlf:0<=left/\left<=100000):Calls Tryz.prog 42 #[x.val,.int .i64 d,.pointer (some ⟨L,0,none⟩)] w (Qz L (jI x.t d left) w):=WB _ x (Nat.le_refl _) wb w L d left hx hg hL hl hd hlf
def lF (t:Tree):Bool:=(jI t 80 2000).1 && bW t
theorem Ow (x:ae) (w:World) (hx:aS w x):Calls Tryz.prog 17 #[x.val] w (iK w (lF x.t)):=by
 obtain⟨k,n,s,kv,l⟩:=x;obtain⟨ka,kc,rfl,hkc,hkl⟩:=hx.form;have ll:=ł hx;have HR:=ł (show lF (ae.t (.mk k n s (.slice ka l.length kc) l))=((jI (ae.t (.mk k n s (.slice ka l.length kc) l)) 80 2000).1 && bW (ae.t (.mk k n s (.slice ka l.length kc) l)))from rfl);have HB:=ł (show ∀ z,Grow w z->Calls Tryz.prog 26 #[.agg #[.int .u8 k,.int .i64 n,.string s,.slice ka l.length kc]] z (iK z (bW (ae.t (.mk k n s (.slice ka l.length kc) l))))from λz hz=>II _ z (hx.later hz));obtain⟨xz,-,-⟩:=a2 w (.cells #[.int .u8 k,.int .i64 n,.string s,.slice ka l.length kc] 26) (.cells #[.int .i64 2000] 3);have HL1:=ł (show((w.alloc (.cells #[.int .u8 k,.int .i64 n,.string s,.slice ka l.length kc] 26)).alloc (.cells #[.int .i64 2000] 3)).heap[w.heap.size+1]? = some (.cells #[.int .i64 2000] 3 (0,0))from by
  have:=heap_alloc_new (w.alloc (.cells #[.int .u8 k,.int .i64 n,.string s,.slice ka l.length kc] 26)) (.cells #[.int .i64 2000] 3)
  simpa using this)
 obtain⟨-,-,bg⟩:=a2 w (.cells #[.int .u8 k,.int .i64 n,.string s,.slice ka l.length kc] 26) (.cells #[.int .i64 2000] 3);have HC:=ł (WC (.mk k n s (.slice ka l.length kc) l) w ((w.alloc (.cells #[.int .u8 k,.int .i64 n,.string s,.slice ka l.length kc] 26)).alloc (.cells #[.int .i64 2000] 3)) (w.heap.size+1) 80 2000 hx bg.out (by omega) HL1.out (by decide) (by decide));simp only[ae.val]at HC ⊢;clear hx
 go_enter Tryz.func17,Tryz.ntmps17
 go_wp2_with fail;generalize ((w.alloc (.cells #[.int .u8 k,.int .i64 n,.string s,.slice ka l.length kc] 26)).alloc (.cells #[.int .i64 2000] 3))=w1 at *;refine HC.out.mono ?_;rintro e w2 ⟨rfl,hm,-⟩;have HG2:=ł (jG bg.out hm (λb e=>by subst e;omega));obtain⟨⟨n0,n1⟩,n2,n3⟩:=aF (show w2.heap[w.heap.size]? = some (.cells #[.int .u8 k,.int .i64 n,.string s,.slice ka l.length kc] 26 (0,0))from by rw[hm.block _ (lt_of_block xz.out) (by omega)];exact xz.out);have hln:w.heap.size<w2.heap.size:=by have:=lt_of_block xz.out;have:=hm.size;omega
 clear hm;cases hb:(jI (ae.t (.mk k n s (.slice ka l.length kc) l)) 80 2000).1 with
 |false =>
  have HF:=ł (show lF (ae.t (.mk k n s (.slice ka l.length kc) l))=false from by rw[HR.out,hb];rfl);clear hb;go_wp2_with fail;go_ret;exact⟨aL HF.out.symm,HG2.out⟩
 |true =>
  have HF:=ł (show lF (ae.t (.mk k n s (.slice ka l.length kc) l))=bW (ae.t (.mk k n s (.slice ka l.length kc) l))from by rw[HR.out,hb];rfl);have qW:=ł (HB.out w2 HG2.out);clear hb;go_wp2_with fail;refine qW.out.mono ?_;rintro e w3 ⟨rfl,hg3⟩;have aG:=ł (gtr HG2.out hg3);clear hg3 n0 n1 n2 n3;go_wp2_with fail;go_ret;exact⟨aL HF.out.symm,aG.out⟩
structure vW where
 vars:List aA
 procs:List aU
 main:Tree
structure cu where
 vars:List aA
 vv:Value
 procs:List ak
 pv:Value
 main:ae
def cu.d (p:cu):vW:=⟨p.vars,p.procs.map ak.d,p.main.t⟩
def cu.cells (p:cu):List Value:=p.vv :: p.pv :: p.main.cells
def cu.val:cu->Value
 |⟨_,vv,_,pv,.mk k n s kv _⟩ => .agg #[vv,pv,.int .u8 k,.int .i64 n,.string s,kv]
structure qj (w:World) (p:cu):Prop where
 vars:ax 3 aA.cells w p.vv p.vars
 QN:∀ x∈p.vars,x.name.size<=9223372036854775807
 procs:lC w p.pv p.procs
 QO:∀ q∈p.procs,∀ x∈q.params,x.name.size<=9223372036854775807
 main:aS w p.main
theorem qj.later {w w':World} {p:cu} (h:qj w p) (hm:Grow w w'):qj w' p:=⟨h.vars.later hm,h.QN,h.procs.later hm,h.QO,h.main.later hm⟩
def aU.okB (p:aU):Bool:=mR p.name && (decide (p.params.length<=8) && (p.params.all aA.decl && lF p.body))
def vW.okB (p:vW):Bool:=(decide (p.vars.length<=32) && (decide (p.procs.length<=64) && p.vars.all aA.decl)) && (p.procs.all aU.okB && lF p.main)
theorem Yj (l:List aU) (k:Nat) (h:k<l.length):(l.take (k+1)).all aU.okB=((l.take k).all aU.okB && l[k].okB):=by
 rw[List.take_succ_eq_append_getElem h,List.all_append];simp
theorem Xr (l:List aU) (k:Nat) (h:k<l.length) (hf:l[k].okB=false):l.all aU.okB=false:=by
 apply Bool.eq_false_iff.2;intro ha;have:=List.all_eq_true.1 ha l[k] (List.getElem_mem h);rw[hf]at this;cases this
theorem lC.cells {w:World} {v:Value} {l:List ak} (h:lC w v l) {i:Nat} (hi:i<l.length) {len cap b off:Nat} (hv:v = .slice (some ⟨b,off,none⟩) len cap):∀ (j:Nat) (u:Value),(ak.cells l[i])[j]? = some u->w.cell? ⟨b,off+i * 6+j,none⟩=some u:=by
 subst hv;exact h.row.at' hi
theorem qj.form {w:World} {vars:List aA} {vv:Value} {procs:List ak} {pv:Value} {m:ae} (h:qj w ⟨vars,vv,procs,pv,m⟩):(∃ a c,vv = .slice a vars.length c)/\(∃ a c,pv = .slice a procs.length c)/\aS w m:=by
 obtain⟨a,c,h1,-,-⟩:=h.vars.form;obtain⟨a',c',h2,-,-⟩:=h.procs.row.form;exact⟨⟨a,c,h1⟩,⟨a',c',h2⟩,h.main⟩
theorem JA (vars:List aA) (vv:Value) (procs:List ak) (pv:Value) (m:ae):vW.okB (cu.d ⟨vars,vv,procs,pv,m⟩)=((decide (vars.length<=32) && (decide (procs.length<=64) && vars.all aA.decl)) && ((procs.map ak.d).all aU.okB && lF m.t)):=by
 rw[cu.d,vW.okB];simp only[List.length_map]
theorem Ox (p:cu) (w:World) (hp:qj w p):Calls Tryz.prog 6 #[p.val] w (iK w p.d.okB):=by
 obtain⟨vars,vv,procs,pv,⟨k,n,s,kv,l⟩⟩:=p;obtain⟨⟨va,vc,rfl⟩,⟨pa,pc,rfl⟩,hm⟩:=hp.form;obtain⟨ka,kc,rfl,-,-⟩:=hm.form;clear hm;have HP:=ł hp;clear hp;have HR:=ł (show vW.okB (cu.d ⟨vars,.slice va vars.length vc,procs,.slice pa procs.length pc,.mk k n s (.slice ka l.length kc) l⟩)=((decide (vars.length<=32) && (decide (procs.length<=64) && vars.all aA.decl)) && ((procs.map ak.d).all aU.okB && lF (ae.t (.mk k n s (.slice ka l.length kc) l))))from by
  exact JA _ _ _ _ _)
 generalize vW.okB (cu.d ⟨vars,.slice va vars.length vc,procs,.slice pa procs.length pc,.mk k n s (.slice ka l.length kc) l⟩)=R at *;simp only[cu.val];have bg:=ł (show Grow w (w.alloc (.cells #[.slice va vars.length vc,.slice pa procs.length pc,.int .u8 k,.int .i64 n,.string s,.slice ka l.length kc] 28))from(Mv.refl _ w).alloc _);have su:=ł (heap_alloc_new w (.cells #[.slice va vars.length vc,.slice pa procs.length pc,.int .u8 k,.int .i64 n,.string s,.slice ka l.length kc] 28));by_cases hv32:vars.length<=32
 · by_cases Lm:procs.length<=64
   · have d1:decide (32<(vars.length:Int))=false:=by simp;omega
     have d2:decide (64<(procs.length:Int))=false:=by simp;omega
     have HD:=ł (NG _ vars (w.alloc (.cells #[.slice va vars.length vc,.slice pa procs.length pc,.int .u8 k,.int .i64 n,.string s,.slice ka l.length kc] 28)) (HP.out.vars.later bg.out) HP.out.QN);have gZ:=ł (λz (hz:Grow w z)=>Ow (.mk k n s (.slice ka l.length kc) l) z (HP.out.main.later hz));simp only[ae.val]at gZ
     go_enter Tryz.func6,Tryz.ntmps6
     go_wp2_with fail;generalize (w.alloc (.cells #[.slice va vars.length vc,.slice pa procs.length pc,.int .u8 k,.int .i64 n,.string s,.slice ka l.length kc] 28))=w1 at *;refine HD.out.mono ?_;rintro e w2 ⟨rfl,hg2⟩;have HG2:=ł (gtr bg.out hg2);obtain⟨⟨x0,x1,x2⟩,x3,x4,x5⟩:=dK (ai su.out hg2);have bZ:=ł (ai su.out hg2);have hxl:=lt_of_block bZ.out;clear hg2;cases hva:vars.all aA.decl with
     |false =>
      have HF:=ł (show R=false from by rw[HR.out,hva];simp);clear hva;go_wp2_with fail;go_ret;exact⟨aL HF.out.symm,HG2.out⟩
     |true =>
      have HR2:=ł (show R=((procs.map ak.d).all aU.okB && lF (ae.t (.mk k n s (.slice ka l.length kc) l)))from by rw[HR.out,hva];simp[hv32,Lm]);clear hva;go_wp2_with fail
      go_loopw [24] (λt wr=>∃ j:Nat,t = .int .i64 j/\j<=procs.length/\Grow w2 wr/\((procs.map ak.d).take j).all aU.okB=true) (λt _=>procs.length - (intOf t).toNat)
      case atStart=>exact⟨0,rfl,Nat.zero_le _,Mv.refl _ _,rfl⟩
      obtain⟨j,rfl,hj,hg,hall⟩:=hrel;have HG:=ł (gtr HG2.out hg);have dh:=ł hg;have HA:=ł hall;clear hall hg;by_cases hlt:j<procs.length
      · obtain⟨pb,po,Gf,hpv,-,hcc⟩:=(HP.out.procs.later HG.out).row.at hlt;simp only[Value.slice.injEq,true_and]at hpv;obtain⟨rfl,rfl⟩:=hpv;have wN:j<(procs.map ak.d).length:=by simpa using hlt
        have HT:=ł (λ(h:(procs[j].d).okB=true)=>show((procs.map ak.d).take (j+1)).all aU.okB=true from by rw[Yj _ j wN,HA.out,List.getElem_map,h];rfl);have HF:=ł (λ(h:(procs[j].d).okB=false)=>show R=false from by rw[HR2.out,Xr _ j wN (by rw[List.getElem_map];exact h)];rfl);have bY:=ł ((HP.out.procs.later HG.out).each _ (List.getElem_mem hlt));have Mo:=ł (HP.out.QO _ (List.getElem_mem hlt));generalize procs[j]=q at *;obtain⟨qs,aX,qv,⟨bk,bn,bs,bv,bl⟩⟩:=q;obtain⟨qa,qc,rfl,-,-⟩:=bY.out.form;obtain⟨ba,bc,rfl,-,-⟩:=bY.out.body.form;have HQ:=ł (show aU.okB (ak.d ⟨qs,aX,.slice qa aX.length qc,.mk bk bn bs (.slice ba bl.length bc) bl⟩)=(mR qs && (decide (aX.length<=8) && (aX.all aA.decl && lF (ae.t (.mk bk bn bs (.slice ba bl.length bc) bl)))))from rfl);generalize aU.okB (ak.d ⟨qs,aX,.slice qa aX.length qc,.mk bk bn bs (.slice ba bl.length bc) bl⟩)=RQ at *;have c0:=hcc 0 _ rfl;have c1:=hcc 1 _ rfl;have c2:=hcc 2 _ rfl;have c3:=hcc 3 _ rfl;have c4:=hcc 4 _ rfl;have c5:=hcc 5 _ rfl;simp only[Nat.add_zero]at c0;have hbl:pb<wr.heap.size:=World.block_lt_of_cell? wr _ c0;clear hcc;have aK:=ł (show Grow w (wr.alloc (.cells #[.string qs,.slice qa aX.length qc,.int .u8 bk,.int .i64 bn,.string bs,.slice ba bl.length bc] 35))from HG.out.alloc _);have eB:=ł (show Grow w2 (wr.alloc (.cells #[.string qs,.slice qa aX.length qc,.int .u8 bk,.int .i64 bn,.string bs,.slice ba bl.length bc] 35))from dh.out.alloc _);have Ht:=ł (heap_alloc_new wr (.cells #[.string qs,.slice qa aX.length qc,.int .u8 bk,.int .i64 bn,.string bs,.slice ba bl.length bc] 35));have xe:=ł (λz (hz:Grow wr z)=>bY.out.later hz);have D9:=ł (JK qs (wr.alloc (.cells #[.string qs,.slice qa aX.length qc,.int .u8 bk,.int .i64 bn,.string bs,.slice ba bl.length bc] 35)) bY.out.name);have HG0:=ł (show Grow wr (wr.alloc (.cells #[.string qs,.slice qa aX.length qc,.int .u8 bk,.int .i64 bn,.string bs,.slice ba bl.length bc] 35))from(Mv.refl _ wr).alloc _);go_wp2_with fail;generalize (wr.alloc (.cells #[.string qs,.slice qa aX.length qc,.int .u8 bk,.int .i64 bn,.string bs,.slice ba bl.length bc] 35))=w3 at *;refine D9.out.mono ?_;rintro e w4 ⟨rfl,hg4⟩;have aN:=ł (gtr aK.out hg4);have aap:=ł (gtr eB.out hg4);have Sb:=ł (gtr HG0.out hg4);obtain⟨⟨y0,y1,y2⟩,y3,y4,y5⟩:=dK (ai Ht.out hg4);have MW:=ł (ai Ht.out hg4);have hyl:=lt_of_block MW.out;clear hg4 c0 c1 c2 c3 c4 c5;cases hnb:mR qs with
        |false =>
         have HX:=ł (HF.out (by rw[HQ.out,hnb];rfl));clear hnb;go_wp2_with fail;go_ret;exact⟨aL HX.out.symm,aN.out⟩
        |true =>
         by_cases hq8:aX.length<=8
         · have d3:decide (8<(aX.length:Int))=false:=by simp;omega
           have Bl:=ł (show RQ=(aX.all aA.decl && lF (ae.t (.mk bk bn bs (.slice ba bl.length bc) bl)))from by rw[HQ.out,hnb];simp[hq8]);have zL:=ł (NG _ aX w4 ((xe.out _ Sb.out).params) Mo.out);clear hnb;go_wp2_with fail;refine zL.out.mono ?_;rintro e w5 ⟨rfl,hg5⟩;have aT:=ł (gtr aN.out hg5);have aaq:=ł (gtr aap.out hg5);obtain⟨⟨y0,y1,y2⟩,y3,y4,y5⟩:=dK (ai MW.out hg5);have jP:=ł (Ow _ w5 ((xe.out _ (gtr Sb.out hg5)).body));have hyl:=lt_of_block (ai MW.out hg5);simp only[ae.val]at jP;clear hg5;cases Hu:aX.all aA.decl with
           |false =>
            have HX:=ł (HF.out (by rw[Bl.out,Hu];rfl));clear Hu;go_wp2_with fail;go_ret;exact⟨aL HX.out.symm,aT.out⟩
           |true =>
            have UU:=ł (show RQ=lF (ae.t (.mk bk bn bs (.slice ba bl.length bc) bl))from by rw[Bl.out,Hu];rfl);clear Hu;go_wp2_with fail;refine jP.out.mono ?_;rintro e w6 ⟨rfl,MX⟩;have dw:=ł (gtr aT.out MX);have aar:=ł (gtr aaq.out MX);clear MX y0 y1 y2 y3 y4 y5;cases hib:lF (ae.t (.mk bk bn bs (.slice ba bl.length bc) bl))with
            |false =>
             have HX:=ł (HF.out (by rw[UU.out,hib]));clear hib;go_wp2_with fail;go_ret;exact⟨aL HX.out.symm,dw.out⟩
            |true =>
             have HX:=ł (HT.out (by rw[UU.out,hib]));clear hib;go_wp2_with fail
             go_roundw
             case rel=>exact⟨j+1,by go_num,by omega,aar.out,HX.out⟩
             case measure=>simp[intOf];omega
         · have d3:decide (8<(aX.length:Int))=true:=by simp;omega
           have HX:=ł (HF.out (by rw[HQ.out];simp[hq8]));clear hnb;go_wp2_with fail;go_ret;exact⟨aL HX.out.symm,aN.out⟩
      · obtain rfl:j=procs.length:=by omega
        have DR:=ł (show R=lF (ae.t (.mk k n s (.slice ka l.length kc) l))from by
         have h:=HA.out;rw[List.take_of_length_le (by simp)]at h;rw[HR2.out,h];rfl)
        obtain⟨⟨x0,x1,x2⟩,x3,x4,x5⟩:=dK (ai bZ.out dh.out);have hxl:=lt_of_block (ai bZ.out dh.out);have qW:=ł (gZ.out wr HG.out);go_wp2_with fail;refine qW.out.mono ?_;rintro e w3 ⟨rfl,hg3⟩;have aG:=ł (gtr HG.out hg3);clear hg3 x0 x1 x2 x3 x4 x5;go_wp2_with fail;go_ret;exact⟨aL DR.out.symm,aG.out⟩
   · have d1:decide (32<(vars.length:Int))=false:=by simp;omega
     have d2:decide (64<(procs.length:Int))=true:=by simp;omega
     have HF:=ł (show R=false from by rw[HR.out];simp[Lm])
     go_enter Tryz.func6,Tryz.ntmps6
     go_wp2_with fail;go_ret;exact⟨aL HF.out.symm,bg.out⟩
 · have d1:decide (32<(vars.length:Int))=true:=by simp;omega
   have HF:=ł (show R=false from by rw[HR.out];simp[hv32])
   go_enter Tryz.func6,Tryz.ntmps6
   go_wp2_with fail;go_ret;exact⟨aL HF.out.symm,bg.out⟩
end
end Go.Proofs.YtnobahchcongnaaGreat
