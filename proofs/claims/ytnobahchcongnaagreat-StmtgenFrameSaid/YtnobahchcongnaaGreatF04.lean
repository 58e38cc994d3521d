import Derived.Test.YtnobahchcongnaaGreatF03
import Derived.Lib.Strings
import Derived.Deep.AppendSrc
import Derived.Deep.MidRow
import Derived.Deep.Upon
import Derived.Laws.MakeOwn
set_option linter.unusedSimpArgs false
set_option linter.unusedVariables false
set_option maxRecDepth 100000
set_option maxHeartbeats 25600000
namespace Go.Proofs.YtnobahchcongnaaGreat
section
open Go.RowKit Go.Instr
def YO (w:World) (e:Ending) (w':World):Prop:=∃ k n:Int,(k == 1)=false/\e = .returned (.tuple #[.int .u8 k,.int .i64 n])/\w=w'
theorem WQ (s:ByteArray) (w:World) (h1:1<=s.size) (hs:s.size<=16) (hl:xZ (s[0].toNat)=true) :
 Calls Tryz.prog 40 #[.string s] w λe w'=>e = .returned (.tuple #[.int .u8 1,.int .i64 (qp rM s.data.toList)])/\w=w':=by
 go_enter Tryz.func40,Tryz.ntmps40
 go_wp2_with (first
  |(go_at_call 65;refine(BJ _ _).mono ?_;rintro e w' ⟨rfl,rfl⟩)
  |(go_at_call 66;refine(XN s _ (by omega)).mono ?_;rintro e w' ⟨rfl,rfl⟩))
 go_ret2
 exact⟨rfl,rfl⟩
theorem Wm (s:ByteArray) (w:World) (h1:1<=s.size) (hs:s.size<=16) (hl:xZ (s[0].toNat)=false):Calls Tryz.prog 40 #[.string s] w (YO w):=by
 by_cases hd:sM (s[0].toNat)=true
 · go_enter Tryz.func40,Tryz.ntmps40
   go_wp2_with (first
    |(go_at_call 65;refine(BJ _ _).mono ?_;rintro e w' ⟨rfl,rfl⟩)
    |(go_at_call 68;refine(Aw _ _).mono ?_;rintro e w' ⟨rfl,rfl⟩)
    |(go_at_call 66;refine(XO s _ (by omega)).mono ?_;rintro e w' ⟨rfl,rfl⟩))
   go_ret2
   exact⟨_,_,rfl,rfl,rfl⟩
 · have hd2:sM (s[0].toNat)=false:=by simpa using hd
   by_cases hb:uM (s[0].toNat)=true
   · go_enter Tryz.func40,Tryz.ntmps40
     go_wp2_with (first
      |(go_at_call 65;refine(BJ _ _).mono ?_;rintro e w' ⟨rfl,rfl⟩)
      |(go_at_call 68;refine(Aw _ _).mono ?_;rintro e w' ⟨rfl,rfl⟩)
      |(go_at_call 69;refine(EB _ _).mono ?_;rintro e w' ⟨rfl,rfl⟩)
      |(go_at_call 66;refine(XP s _ (by omega)).mono ?_;rintro e w' ⟨rfl,rfl⟩))
     go_ret2
     exact⟨_,_,rfl,rfl,rfl⟩
   · have hb2:uM (s[0].toNat)=false:=by simpa using hb
     go_enter Tryz.func40,Tryz.ntmps40
     go_wp2_with (first
      |(go_at_call 65;refine(BJ _ _).mono ?_;rintro e w' ⟨rfl,rfl⟩)
      |(go_at_call 68;refine(Aw _ _).mono ?_;rintro e w' ⟨rfl,rfl⟩)
      |(go_at_call 69;refine(EB _ _).mono ?_;rintro e w' ⟨rfl,rfl⟩)
      |(go_at_call 66;refine(YL s _ (by omega)).mono ?_;rintro e w' ⟨rfl,rfl⟩)
      |(go_at_call 71;refine(YM s _ h1 hs).mono ?_;rintro e w' ⟨n,rfl,rfl⟩))
     all_goals (go_ret2;exact⟨_,_,rfl,rfl,rfl⟩)
def mR (s:ByteArray):Bool:=if h:1<=s.size then decide (s.size<=16) && (xZ (s[0].toNat) && (decide (qp rM s.data.toList=s.size) && !(decide (2<=s.size) && (decide (s.size<=7) && Bf s))))else false
theorem Nw {s:ByteArray} (h:¬ 1<=s.size):s=⟨#[]⟩:=by
 cases s with|mk a =>
 have:a.size=0:=by simpa[ByteArray.size]using h
 simp[Array.size_eq_zero_iff.1 this]
theorem BK {s:ByteArray} (h:1<=s.size):s.toList.isEmpty=false:=by
 have h1:s.toList=s.data.toList:=ByteArray.toList_eq s;rw[h1];cases hl:s.data.toList with
 |nil =>
  have:s.size=0:=by
   have:=congrArg List.length hl
   simpa using this
  omega
 |cons a l=>rfl
theorem JK (s:ByteArray) (w:World) (hs:s.size<=9223372036854775807):Calls Tryz.prog 16 #[.string s] w λe w'=>e = .returned (.bool (mR s))/\Mv (λ_=>False) w w':=by
 by_cases h1:1<=s.size
 · by_cases h16:s.size<=16
   · by_cases hl:xZ (s[0].toNat)=true
     · have HF:=ł (WQ s w h1 h16 hl);have HK:=ł (Wl s w (by omega));have HN:=ł (show mR s=(decide (qp rM s.data.toList=s.size) && !(decide (2<=s.size) && (decide (s.size<=7) && Bf s)))from by unfold mR;rw[dif_pos h1,hl];simp[h16]);generalize qp rM s.data.toList=n at *;generalize (decide (2<=s.size) && (decide (s.size<=7) && Bf s))=q at *;have hne:=BK h1
       go_enter Tryz.func16,Tryz.ntmps16
       go_wp2_with fail;refine HF.out.mono ?_;rintro e w' ⟨rfl,rfl⟩;by_cases hn:n=s.size
       · have hnb:((n:Int) == (s.size:Int))=true:=by simp[hn]
         have HNN:=ł hn;clear hn;go_wp2_with fail;refine HK.out.mono ?_;rintro e w' ⟨rfl,hm⟩;have HM:=ł hm;clear hm;go_wp2_with fail
         all_goals (go_ret;exact⟨aL (by rw[HN.out,HNN.out];simp_all),HM.out⟩)
       · have hnb:((n:Int) == (s.size:Int))=false:=by simpa using λe=>hn (by omega)
         go_wp2_with fail
         all_goals (go_ret;exact⟨aL (by rw[HN.out];simp_all),Mv.refl _ _⟩)
     · have hl2:xZ (s[0].toNat)=false:=by simpa using hl
       have HF:=ł (Wm s w h1 h16 hl2);have HN:=ł (show mR s=false from by unfold mR;rw[dif_pos h1,hl2];simp);have hne:=BK h1;clear hl hl2
       go_enter Tryz.func16,Tryz.ntmps16
       go_wp2_with fail;refine HF.out.mono ?_;rintro e w' ⟨k,n,hk,rfl,rfl⟩;go_wp2_with fail;go_ret;exact⟨aL (by rw[HN.out]),Mv.refl _ _⟩
   · have HN:=ł (show mR s=false from by unfold mR;rw[dif_pos h1];simp[h16]);have hne:=BK h1
     go_enter Tryz.func16,Tryz.ntmps16
     go_wp2_with fail;go_ret;exact⟨aL (by rw[HN.out]),Mv.refl _ _⟩
 · have HN:=ł (show mR s=false from by unfold mR;rw[dif_neg h1]);obtain rfl:=Nw h1
   go_enter Tryz.func16,Tryz.ntmps16
   go_wp2_with fail;go_ret;exact⟨aL (by rw[HN.out]),Mv.refl _ _⟩
end
section
open Go.RowKit
abbrev Grow (w w':World):Prop:=Mv (λ_=>False) w w'
def ax {α:Type} (n:Nat) (f:α->List Value) (w:World) (v:Value) (l:List α):Prop :=
 ∃ a cap,v = .slice a l.length cap/\l.length<=cap/\l.length<=9223372036854775807/\∀ (i:Nat) (x:α),l[i]? = some x->∃ b off,a=some ⟨b,off,none⟩/\∀ (j:Nat) (u:Value),(f x)[j]? = some u->w.cell? ⟨b,off+i * n+j,none⟩=some u
section
variable {α:Type} {n:Nat} {f:α->List Value} {w w':World} {v:Value} {l:List α}
theorem ax.form (h:ax n f w v l):∃ a cap,v = .slice a l.length cap/\l.length<=cap/\l.length<=9223372036854775807:=by
 obtain⟨a,cap,h1,h2,h3,_⟩:=h;exact⟨a,cap,h1,h2,h3⟩
theorem ax.later (h:ax n f w v l) (hm:Grow w w'):ax n f w' v l:=by
 obtain⟨a,cap,h1,h2,h3,h4⟩:=h;refine⟨a,cap,h1,h2,h3,λi x hx => ?_⟩;obtain⟨b,off,hb,hc⟩:=h4 i x hx;refine⟨b,off,hb,λj u hu => ?_⟩;have h5:=hc j u hu;rw[← h5];exact World.cell?_of_block (w:=w) (w':=w') (hm.block _ (World.block_lt_of_cell? w _ h5) (λh=>h))
theorem ax.nil (n:Nat) (f:α->List Value) (w:World):ax n f w (.slice none 0 0) []:=⟨none,0,rfl,Nat.le_refl _,by simp,λi x hx=>by simp at hx⟩
theorem ax.at (h:ax n f w v l) {i:Nat} (hi:i<l.length):∃ b off cap,v = .slice (some ⟨b,off,none⟩) l.length cap/\l.length<=cap/\∀ (j:Nat) (u:Value),(f l[i])[j]? = some u->w.cell? ⟨b,off+i * n+j,none⟩=some u:=by
 obtain⟨a,cap,rfl,h2,h3,h4⟩:=h;obtain⟨b,off,rfl,hc⟩:=h4 i _ (List.getElem?_eq_getElem hi);exact⟨b,off,cap,rfl,h2,hc⟩
theorem ax.at' {b off len cap:Nat} (h:ax n f w (.slice (some ⟨b,off,none⟩) len cap) l) {i:Nat} (hi:i<l.length):∀ (j:Nat) (u:Value),(f l[i])[j]? = some u->w.cell? ⟨b,off+i * n+j,none⟩=some u:=by
 obtain⟨b',off',cap',e,_,hc⟩:=h.at hi;simp only[Value.slice.injEq,Option.some.injEq,Addr.mk.injEq,and_true]at e;obtain⟨⟨rfl,rfl⟩,_,_⟩:=e;exact hc
end
structure aA where
 name:ByteArray
 kind:Int
 len:Int
structure dL where
 name:ByteArray
 kind:Int
 len:Int
 at':Int
structure cO where
 at':Int
 name:ByteArray
def aA.cells (v:aA):List Value:=[.string v.name,.int .u8 v.kind,.int .i64 v.len]
def dL.cells (v:dL):List Value:=[.string v.name,.int .u8 v.kind,.int .i64 v.len,.int .i64 v.at']
def cO.cells (v:cO):List Value:=[.int .i64 v.at',.string v.name]
abbrev aA.val (v:aA):Value := .agg #[.string v.name,.int .u8 v.kind,.int .i64 v.len]
structure Rn where
 name:ByteArray
 params:List aA
 slots:List dL
 cells:Int
 stacks:Int
 code:List Ins
 refs:List cO
def In64 (x:Int):Prop := -9223372036854775808<=x/\x<=9223372036854775807
def Z9 (i:Ins):Prop:=(0<=i.op/\i.op<=255)/\In64 i.a/\In64 i.b/\In64 i.c/\In64 i.d
structure _d (o:Rn):Prop where
 name:o.name.size<=9223372036854775807
 params:∀ v∈o.params,v.name.size<=9223372036854775807/\In64 v.len
 slots:∀ v∈o.slots,v.name.size<=9223372036854775807/\In64 v.len/\In64 v.at'
 cells:In64 o.cells
 stacks:In64 o.stacks
 code:∀ i∈o.code,Z9 i
 refs:∀ r∈o.refs,r.name.size<=9223372036854775807/\In64 r.at'
 few:o.slots.length<=4398046511104
structure vY where
 d:Rn
 pv:Value
 sv:Value
 cv:Value
 rv:Value
def vY.cells (o:vY):List Value:=[.string o.d.name,o.pv,o.sv,.int .i64 o.d.cells,.int .i64 o.d.stacks,o.cv,o.rv]
abbrev vY.val (o:vY):Value := .agg #[.string o.d.name,o.pv,o.sv,.int .i64 o.d.cells,.int .i64 o.d.stacks,o.cv,o.rv]
structure FH (w:World) (o:vY):Prop where
 ok:_d o.d
 params:ax 3 aA.cells w o.pv o.d.params
 slots:ax 4 dL.cells w o.sv o.d.slots
 code:ax 5 Ins.cells w o.cv o.d.code
 refs:ax 2 cO.cells w o.rv o.d.refs
theorem FH.later {w w':World} {o:vY} (h:FH w o) (hm:Grow w w'):FH w' o:=⟨h.ok,h.params.later hm,h.slots.later hm,h.code.later hm,h.refs.later hm⟩
structure Kj (w:World) (v:Value) (l:List vY):Prop where
 row:ax 7 vY.cells w v l
 each:∀ o∈l,FH w o
theorem Kj.later {w w':World} {v:Value} {l:List vY} (h:Kj w v l) (hm:Grow w w'):Kj w' v l:=⟨h.row.later hm,λo ho=>(h.each o ho).later hm⟩
end
section
open Go.RowKit Go.Instr
def flat {α:Type} (f:α->List Value) (l:List α):List Value:=(l.map f).flatten
theorem IE {α:Type} (f:α->List Value) (a b:List α):flat f (a ++ b)=flat f a ++ flat f b:=by simp[flat]
theorem pY {α:Type} (f:α->List Value) (n:Nat) (h:∀ x,(f x).length=n):∀ l:List α,(flat f l).length=l.length * n
 | []=>by simp[flat]
 |x :: l=>by
  have:=pY f n h l;simp only[flat,List.map_cons,List.flatten_cons,List.length_append,h,List.length_cons]at this ⊢;rw[this,Nat.add_mul];omega
theorem BU {α:Type} (f:α->List Value) (n:Nat) (h:∀ x,(f x).length=n):∀ (l:List α) (i j:Nat) (hi:i<l.length),j<n->(flat f l)[i * n+j]? = (f l[i])[j]?
 | [],i,j,hi,_=>by simp at hi
 |x :: l,0,j,_,hj=>by
  simp only[flat,List.map_cons,List.flatten_cons,Nat.zero_mul,Nat.zero_add,List.getElem_cons_zero];rw[List.getElem?_append_left (by rw[h];exact hj)]
 |x :: l,i+1,j,hi,hj=>by
  have:=BU f n h l i j (by simpa using hi) hj;simp only[flat,List.map_cons,List.flatten_cons,List.getElem_cons_succ]at this ⊢;rw[List.getElem?_append_right (by rw[h,Nat.add_mul];omega),h,show(i+1) * n+j - n=i * n+j by rw[Nat.add_mul];omega];exact this
theorem iF {α:Type} {f:α->List Value} {n e base:Nat} {w:World} {v:Value} {l:List α} (hf:∀ x,(f x).length=n) (h:w.ownsRow base e n v l.length (flat f l)):ax n f w v l:=by
 rcases h.2 with⟨rfl,hl⟩|⟨g,cap,cur,rfl,hb,hg,hnc,hcm,hcs,htake⟩
 · obtain rfl:l=[]:=List.eq_nil_of_length_eq_zero hl;exact ax.nil _ _ _
 · refine⟨_,cap,rfl,hnc,by unfold maxLen at hcm;omega,λi x hx=>⟨g,0,rfl,λj u hu => ?_⟩⟩;have hi:=(List.getElem?_eq_some_iff.1 hx).1;have hj:j<n:=by rw[← hf x];exact(List.getElem?_eq_some_iff.1 hu).1
   have hx':l[i]=x:=by rw[List.getElem?_eq_getElem hi]at hx;simpa using hx
   have h1:=BU f n hf l i j hi hj;rw[hx',hu]at h1;have hlt:i * n+j<l.length * n:=by
    have:=Nat.mul_le_mul_right n (show i+1<=l.length from hi);rw[Nat.add_mul]at this;omega
   have h2:cur[i * n+j]? = some u:=by
    rw[← htake,List.getElem?_take,if_pos hlt]at h1
    simpa using h1
   simp only[World.cell?,hg,Option.isSome_none,Bool.false_eq_true,if_false,Nat.zero_add];exact h2
theorem bM {α:Type} {f:α->List Value} {n e base:Nat} {w w':World} {v:Value} {l:List α} {O:Nat->Prop} (h:w.ownsRow base e n v l.length (flat f l)) (hm:Mv O w w') (hO:∀ g,v.ownBlock=some g->¬ O g):w'.ownsRow base e n v l.length (flat f l):=by
 refine⟨h.1,?_⟩;rcases h.2 with h1|⟨g,cap,cur,rfl,hb,hg,rest⟩
 · exact .inl h1
 · exact .inr ⟨g,cap,cur,rfl,hb,by rw[hm.block g (lt_of_block hg) (hO g rfl)];exact hg,rest⟩
theorem gy {α:Type} {f:α->List Value} {n e base:Nat} {w:World} {v:Value} {l:List α} (h:w.ownsRow base e n v l.length (flat f l)):∃ a c,v = .slice a l.length c:=by
 rcases h.2 with⟨rfl,hl⟩|⟨g,cap,cur,rfl,_⟩
 · exact⟨none,0,by rw[hl]⟩
 · exact⟨_,_,rfl⟩
theorem block_setCell {w:World} {p:Addr} {c:Array Value} {t:TypeId} {z:Nat × Nat} (h:w.heap[p.block]? = some (.cells c t z)) (hp:p.spot=none) (u:Value) :
 (w.setCell p u).heap[p.block]? = some (.cells (c.setIfInBounds p.off u) t z):=by
 have hlt:=lt_of_block h;have h':w.heap[p.block] = .cells c t z:=by simpa[Array.getElem?_eq_getElem hlt]using h
 show(w.heap.modify p.block _)[p.block]? = _
 rw[Array.getElem?_eq_getElem (by simpa using hlt),Array.getElem_modify_self,h'];simp[hp]
theorem flat_get {α:Type} (f:α->List Value) (n:Nat) (hn:0<n) (h:∀ x,(f x).length=n) (l:List α) (j:Nat) (u:Value) (hu:(flat f l)[j]? = some u):∃ i r,j=i * n+r/\∃ hi:i<l.length,(f l[i])[r]? = some u:=by
 have hj:j<l.length * n:=by have:=(List.getElem?_eq_some_iff.1 hu).1;rw[pY f n h]at this;exact this
 have hi:j / n<l.length:=(Nat.div_lt_iff_lt_mul hn).2 hj;have hr:j % n<n:=Nat.mod_lt _ hn;have he:j / n * n+j % n=j:=by rw[Nat.mul_comm];exact Nat.div_add_mod j n
 have h1:=BU f n h l (j / n) (j % n) hi hr;rw[he,hu]at h1;exact⟨j / n,j % n,he.symm,hi,h1.symm⟩
theorem ax.bN {α:Type} {n:Nat} {f:α->List Value} {w:World} {b:Nat} {cs:Array Value} {t:TypeId} {fr:Nat × Nat} {l:List α} (hf:∀ x,(f x).length=n) (h:w.heap[b]? = some (.cells cs t fr)) (hl:cs.toList=flat f l) (hn:l.length<=9223372036854775807):ax n f w (.slice (some ⟨b,0,none⟩) l.length l.length) l:=by
 refine⟨_,_,rfl,Nat.le_refl _,hn,λi x hx=>⟨b,0,rfl,λj u hu => ?_⟩⟩;have hi:=(List.getElem?_eq_some_iff.1 hx).1;have hj:j<n:=by rw[← hf x];exact(List.getElem?_eq_some_iff.1 hu).1
 have hx':l[i]=x:=by rw[List.getElem?_eq_getElem hi]at hx;simpa using hx
 have h1:=BU f n hf l i j hi hj;rw[hx',hu,← hl]at h1;simp only[World.cell?,h,Option.isSome_none,Bool.false_eq_true,if_false,Nat.zero_add]
 simpa using h1
theorem ax.stay {α:Type} {n:Nat} {f:α->List Value} {w w':World} {v:Value} {l:List α} {O:Nat->Prop} (h:ax n f w v l) (hm:Mv O w w') (hO:∀ g,v.ownBlock=some g->¬ O g):ax n f w' v l:=by
 obtain⟨a,cap,rfl,h2,h3,h4⟩:=h;refine⟨a,cap,rfl,h2,h3,λi x hx => ?_⟩;obtain⟨b,off,rfl,hc⟩:=h4 i x hx;refine⟨b,off,rfl,λj u hu => ?_⟩;have h5:=hc j u hu;rw[← h5];exact World.cell?_of_block (w:=w) (w':=w') (hm.block _ (World.block_lt_of_cell? w _ h5) (hO b (by simp[Value.ownBlock])))
theorem Ev {α β:Type} {f:α->List Value} {h:β->List Value} {n m e e' base base':Nat} {w:World} {v v':Value} {l:List α} {l':List β} (h1:w.ownsRow base e n v l.length (flat f l)) (h2:w.ownsRow base' e' m v' l'.length (flat h l')) (he:e≠e'):∀ g,v.ownBlock=some g->¬ v'.ownBlock=some g:=by
 intro g hg hg';rcases h1.2 with⟨rfl,_⟩|⟨g1,c1,u1,rfl,_,hb1,_⟩
 · simp[Value.ownBlock]at hg
 · rcases h2.2 with⟨rfl,_⟩|⟨g2,c2,u2,rfl,_,hb2,_⟩
   · simp[Value.ownBlock]at hg'
   · simp[Value.ownBlock]at hg hg';subst hg hg';rw[hb1]at hb2;simp only[Option.some.injEq,Obj.cells.injEq]at hb2;exact he hb2.2.1
theorem aO {w:World} {b:Nat} {x:Obj} (h:w.heap[b]? = some x) (o:Obj):(w.alloc o).heap[b]? = some x:=by
 have hb:b<w.heap.size:=(Array.getElem?_eq_some_iff.1 h).1;rw[Below.heap_alloc _ _ _ hb];exact h
theorem run_append_nothing {P:Program} (w:World) (t ty e:TypeId) (i:TypeInfo) (ht:P.underlying t=some (.slice e)) (hi:P.info? e=some i) (a:Option Addr) (n cap c:Nat) (hn:n<=cap) :
 (Builtin.append_ #[t,t] ty #[.slice a n cap,.slice none 0 c]).run P w = .ok (.slice a n cap) w:=by
 have hf:=run_firstCells_none (P:=P) w i.size 0 0 c;cases a with
 |none=>simp[Builtin.append_,run_underlying ht,sizeOf,typeInfo,hi,Builtin.lenOf,hn,hf]
 |some a=>simp[Builtin.append_,run_underlying ht,sizeOf,typeInfo,hi,Builtin.lenOf,hn,hf,storeCells]
structure Elem (P:Program) (t e:TypeId) (n bytes:Nat):Prop where
 ht:P.underlying t=some (.slice e)
 hi:∃ i z,P.info? e=some i/\i.zero=some z/\i.size=n/\i.bytes=bytes/\z.cells.size=n
 hn:0<n
 hb:bytes<=1000
theorem Elem.of {P:Program} {t e:TypeId} {n bytes:Nat} {z:Value} (ht:P.underlying t=some (.slice e)) (h:(P.info? e).map (λi=>(i.zero,i.size,i.bytes))=some (some z,n,bytes)) (hz:z.cells.size=n) (hn:0<n) (hb:bytes<=1000):Elem P t e n bytes:=by
 obtain⟨i0,hi,hz0,hz1,hz2⟩:=info_parts h;exact⟨ht,⟨i0,z,hi,hz0,hz1,hz2,hz⟩,hn,hb⟩
section
variable {P:Program} {t e:TypeId} {n bytes:Nat} {α:Type} {f:α->List Value}
theorem oZ (E:Elem P t e n bytes) (hf:∀ x,(f x).length=n) (v s:Value) (xs l:List α) (base:Nat) (w:World) (hrow:w.ownsRow base e n v xs.length (flat f xs)) (hs:ax n f w s l) (h1:∀ x∈l,∀ u∈f x,u.oneCell'=true) (hb:base<=w.heap.size) (hlen:xs.length+l.length<=1000000) :
 ∃ a' c' w2,(rG P t t v s w/\nV P t t v s w = .slice a' (xs.length+l.length) c'/\appW P t t v s w=w2) /\
  w2.ownsRow base e n (.slice a' (xs.length+l.length) c') (xs ++ l).length (flat f (xs ++ l))/\Mv (λb=>v.ownBlock=some b) w w2/\(∀ g,(Value.slice a' (xs.length+l.length) c').ownBlock=some g->v.ownBlock=some g\/w.heap.size<=g):=by
 obtain⟨i,z,hi,hz,hsz,hby,hzc⟩:=E.hi;obtain⟨sa,sc,rfl,hsc,hsl,hcell⟩:=hs;cases sa with
 |none =>
  obtain rfl:l=[]:=by
   cases l with
   |nil=>rfl
   |cons x l=>obtain⟨b,off,e,_⟩:=hcell 0 x rfl;cases e
  obtain⟨va,vc,hv⟩:=gy hrow;have hcap:xs.length<=vc:=by
   rcases hrow.2 with⟨e1,h0⟩|⟨g,cap,cur,e1,hb1,hg,hnc,_⟩
   · rw[hv]at e1;simp at e1;omega
   · rw[hv]at e1;simp at e1;omega
  subst hv;have hr:=run_append_nothing w t t e i E.ht hi va xs.length vc sc hcap;obtain⟨hok,hv,hw⟩:=vQ hr;refine⟨va,vc,w,⟨hok,by simpa using hv,hw⟩,by simpa using hrow,Mv.refl _ _,λg hg => .inl (by simpa using hg)⟩
 |some a =>
  have hnews:∀ j u,(flat f l)[j]? = some u->w.cell? (a.add j)=some u:=λj u hu=>by
   obtain⟨i',r,rfl,hi',hu⟩:=flat_get _ n E.hn hf l j u hu;obtain⟨b,off,e1,hc⟩:=hcell i' _ (List.getElem?_eq_getElem hi');simp only[Option.some.injEq]at e1;subst e1;have:=hc r u hu;have e2:(⟨b,off,none⟩:Addr).add (i' * n+r)=⟨b,off+i' * n+r,none⟩:=by unfold Addr.add;split <;> simp_all [Nat.add_assoc]
   rw[e2];exact this
  have FQ:(xs.length+l.length) * bytes<=140737488355328:=by
   have:=Nat.mul_le_mul hlen E.hb;omega
  obtain⟨v',w2,hr,hown1,hgrow,_,hnew⟩:=VD (P:=P) w base t t e i z n bytes E.ht hi hz hsz hby hzc E.hn v _ _ hrow a l.length sc (flat f l) (pY _ n hf l) hnews
   (λu hu=>by
    simp only[flat,List.mem_flatten,List.mem_map]at hu;obtain⟨_,⟨o,ho,rfl⟩,hu⟩:=hu;exact h1 o ho u hu)
   (by unfold maxLen;omega) FQ hb
  have hform:∃ a' c',v' = .slice a' (xs.length+l.length) c':=by
   rcases hown1.2 with⟨rfl,h0⟩|⟨g,cap,cur,rfl,_⟩
   · exact⟨none,0,by rw[h0]⟩
   · exact⟨_,_,rfl⟩
  obtain⟨a',c',rfl⟩:=hform;obtain⟨hok,hv,hw2⟩:=vQ hr;refine⟨a',c',w2,⟨hok,hv,hw2⟩,?_,(Mv.refl _ _).grown hgrow (λk hk => .inl hk),λg hg=>hnew g hg⟩;rw[IE,List.length_append];exact hown1
end
theorem vO (b off k:Nat):(⟨b,off,none⟩:Addr).add k=⟨b,off+k,none⟩:=by unfold Addr.add;split <;> simp_all
section
variable {P:Program} {t e:TypeId} {n bytes:Nat} {α:Type} {f:α->List Value}
def Dv (n:Nat) (f:α->List Value) (w:World) (base:Nat) (v:Value) (l:List α):Prop :=
 ax n f w v l/\∃ b off cap,v = .slice (some ⟨b,off,none⟩) l.length cap/\(base<=b/\b<w.heap.size)/\l.length<=cap /\
  (∀ j,j<cap * n->(w.cell? ⟨b,off+j,none⟩).isSome=true)/\∀ j,w.frozen? ⟨b,j,none⟩=false
theorem VG {w w':World} {b:Nat} (h:w'.heap[b]? = w.heap[b]?) (j:Nat):w'.frozen? ⟨b,j,none⟩=w.frozen? ⟨b,j,none⟩:=by simp[World.frozen?,h]
theorem Dv.keep {w w':World} {base:Nat} {v:Value} {l:List α} {O:Nat->Prop} (h:Dv n f w base v l) (hm:Mv O w w') (hO:∀ g,v.ownBlock=some g->¬ O g):Dv n f w' base v l:=by
 obtain⟨hr,b,off,cap,rfl,⟨hb,hl⟩,hc,hs,hz⟩:=h;have hbk:=hm.block b hl (hO b rfl);refine⟨?_,b,off,cap,rfl,⟨hb,Nat.lt_of_lt_of_le hl hm.size⟩,hc,λj hj => ?_,λj => ?_⟩
 · obtain⟨a,cap',e1,h2,h3,h4⟩:=hr;refine⟨a,cap',e1,h2,h3,λi x hx => ?_⟩;obtain⟨b',off',hb',hc'⟩:=h4 i x hx;refine⟨b',off',hb',λj u hu => ?_⟩;subst hb';simp only[Value.slice.injEq,Option.some.injEq,Addr.mk.injEq,and_true]at e1;obtain⟨⟨rfl,rfl⟩,-⟩:=e1;rw[← hc' j u hu];exact World.cell?_of_block hbk
 · rw[World.cell?_of_block (w:=w) (w':=w') (a:=⟨b,off+j,none⟩) hbk];exact hs j hj
 · rw[VG hbk];exact hz j
theorem Dv.one {w:World} {base b:Nat} {x:α} {cs:Array Value} {ty:TypeId} (hf:∀ x,(f x).length=n) (h:w.heap[b]? = some (.cells cs ty (0,0))) (hx:cs.toList=f x) (hb:base<=b):Dv n f w base (.slice (some ⟨b,0,none⟩) 1 1) [x]:=by
 have hr:=ax.bN (l:=[x]) hf h (by simpa[flat]using hx) (by simp);refine⟨hr,b,0,1,rfl,⟨hb,lt_of_block h⟩,Nat.le_refl _,λj hj => ?_,λj => ?_⟩
 · have hl:cs.size=n:=by rw[← hf x,← hx,Array.length_toList]
   have:j<cs.size:=by omega
   simp[World.cell?,h,this]
 · simp[World.frozen?,h]
end
def sD (w:World) (bb:Nat) (ty:TypeId) (B:List Bool):Prop:=w.heap[bb]? = some (.cells (B.map Value.bool).toArray ty (0,0))
theorem sD.keep {w w':World} {bb:Nat} {ty:TypeId} {B:List Bool} (h:sD w bb ty B) (hw:w'.heap[bb]? = w.heap[bb]?):sD w' bb ty B:=by unfold sD;rw[hw];exact h
theorem sD.cell {w:World} {bb:Nat} {ty:TypeId} {B:List Bool} (h:sD w bb ty B) {j:Nat} (hj:j<B.length):w.cell? ⟨bb,j,none⟩=some (.bool B[j]):=by
 unfold sD at h;simp[World.cell?,h,hj]
theorem sD.set {w:World} {bb:Nat} {ty:TypeId} {B:List Bool} (h:sD w bb ty B) (j:Nat) (v:Bool):sD (w.setCell ⟨bb,j,none⟩ (.bool v)) bb ty (B.set j v):=by
 unfold sD at h ⊢;have:=block_setCell (p:=⟨bb,j,none⟩) h rfl (.bool v);rw[this];simp[List.map_set]
section
variable {P:Program} {t e:TypeId} {n bytes:Nat} {α:Type} {f:α->List Value}
theorem ax.Qg {w:World} {b cap:Nat} {cs:Array Value} {ty:TypeId} {fr:Nat × Nat} {l:List α} (hf:∀ x,(f x).length=n) (h:w.heap[b]? = some (.cells cs ty fr)) (hl:∀ (j:Nat) (u:Value),(flat f l)[j]? = some u->cs[j]? = some u) (hc:l.length<=cap) (hn:l.length<=9223372036854775807):ax n f w (.slice (some ⟨b,0,none⟩) l.length cap) l:=by
 refine⟨_,_,rfl,hc,hn,λi x hx=>⟨b,0,rfl,λj u hu => ?_⟩⟩;obtain⟨hi,rfl⟩:=List.getElem?_eq_some_iff.1 hx;have hj:j<n:=by rw[← hf l[i]];exact(List.getElem?_eq_some_iff.1 hu).1
 have h6:=BU f n hf l i j hi hj;rw[hu]at h6;simp only[World.cell?,h,Nat.zero_add];exact hl _ _ h6
theorem XR (E:Elem P t e n bytes) (hf:∀ x,(f x).length=n) (s:Value) (l:List α) (g:Nat) (w:World) (hg:w.heap[g]? = some (.cells #[] e (0,0))) (hs:ax n f w s l) (hlen:l.length * bytes<=140737488355328) :
 ∃ v' w2,(rG P t t (.slice (some ⟨g,0,none⟩) 0 0) s w/\nV P t t (.slice (some ⟨g,0,none⟩) 0 0) s w=v'/\appW P t t (.slice (some ⟨g,0,none⟩) 0 0) s w=w2) /\
  (ax n f w2 v' l/\∀ x,v'.ownBlock=some x->(x=g\/w.heap.size<=x)/\x<w2.heap.size)/\Grow w w2:=by
 obtain⟨i,z,hi,hz,hsz,hby,hzc⟩:=E.hi;obtain⟨sa,sc,rfl,hsc,hsl,hcell⟩:=hs;cases sa with
 |none =>
  obtain rfl:l=[]:=by
   cases l with
   |nil=>rfl
   |cons x l=>obtain⟨b,off,e,_⟩:=hcell 0 x rfl;cases e
  have hr:=run_append_nothing w t t e i E.ht hi (some ⟨g,0,none⟩) 0 0 sc (Nat.le_refl _);obtain⟨hok,hv,hw⟩:=vQ hr;exact⟨_,_,⟨hok,hv,hw⟩,⟨⟨_,0,rfl,by simp,by simp,λi x hx=>by simp at hx⟩,λx hx=>by
   simp[Value.ownBlock]at hx;subst hx;exact⟨.inl rfl,lt_of_block hg⟩⟩,Mv.refl _ _⟩
 |some a =>
  have hnews:∀ j u,(flat f l)[j]? = some u->w.cell? (a.add j)=some u:=λj u hu=>by
   obtain⟨i',r,rfl,hi',hu⟩:=flat_get _ n E.hn hf l j u hu;obtain⟨b,off,e1,hc⟩:=hcell i' _ (List.getElem?_eq_getElem hi');simp only[Option.some.injEq]at e1;subst e1;have:=hc r u hu;rw[vO,← Nat.add_assoc];exact this
  rcases Nat.eq_zero_or_pos l.length with h0|h0
  · obtain rfl:l=[]:=List.eq_nil_of_length_eq_zero h0;have hr2:=run_append_room (P:=P) w t t e i E.ht hi g 0 0 #[] hg a 0 sc [] (by simp) (by simp) (by simp) (Nat.le_refl _) (by simp);obtain⟨hok,hv,hw⟩:=vQ hr2;refine⟨_,_,⟨hok,hv,hw⟩,⟨⟨_,0,rfl,by simp,by simp,λi x hx=>by simp at hx⟩,λx hx=>by
     simp[Value.ownBlock]at hx;subst hx;exact⟨.inl rfl,by simpa using lt_of_block hg⟩⟩,?_⟩
    have hrow:=setRow_heap w g #[] ([]:List Value).toArray _ _ hg;refine⟨rfl,rfl,rfl,by simp,λk hk _ => ?_⟩;by_cases hkg:k=g
    · subst hkg;rw[hg];simpa using hrow
    · exact setRow_other w g k _ hkg
  · have hr2:=run_append_grow (P:=P) w t t e i _ E.ht hi hz ⟨g,0,none⟩ 0 0 [] (by simp) (by simp) a l.length sc (flat f l) (by rw[hsz];exact pY _ n hf l) hnews (by omega) (by omega) (growslice_fits (by omega) (by rw[hby];simpa using hlen));obtain⟨hok,hv,hw⟩:=vQ hr2;have hge:=grownCap_ge w (0+l.length) 0 e;have hB:=heap_alloc_new w.drew (.cells (([]:List Value).toArray ++ (flat f l).toArray ++ Builtin.zeroCells z.cells (grownCap w (0+l.length) 0 e - (0+l.length))) e);have hds:w.drew.heap.size=w.heap.size:=rfl;rw[hds]at hB;rw[Nat.zero_add]at hv hB hge;have hrw:=ax.Qg (l:=l) (cap:=grownCap w l.length 0 e) hf hB (λj u hu=>by
     have hj:=(List.getElem?_eq_some_iff.1 hu).1;rw[Array.getElem?_append_left (by simpa using hj)]
     simpa using hu) hge hsl
    rw[Nat.zero_add]at hw;exact⟨_,_,⟨hok,hv,hw⟩,⟨hrw,λx hx=>by
     simp[Value.ownBlock]at hx;subst hx;exact⟨.inr (Nat.le_refl _),by simp⟩⟩,((Mv.refl _ w).drew).alloc _⟩
end
theorem ai {w w':World} {b:Nat} {x:Obj} (h:w.heap[b]? = some x) (hm:Grow w w'):w'.heap[b]? = some x:=by rw[hm.block b (lt_of_block h) (λe=>e)];exact h
def ZV {α:Type} (n:Nat) (f:α->List Value) (w:World) (l:List α) (e:Ending) (w':World):Prop :=
 ∃ v',e = .returned v'/\ax n f w' v' l/\(∀ g,v'.ownBlock=some g->w.heap.size<=g/\g<w'.heap.size)/\Grow w w'
theorem a2 (w : World) (A B : Obj) : RowKit.Hid (((w.alloc A).alloc B).heap[w.heap.size]? = some A) /\ RowKit.Hid (((w.alloc A).alloc B).heap[w.heap.size + 1]? = some B) /\ RowKit.Hid (Grow w ((w.alloc A).alloc B)) := ⟨ł (aO (heap_alloc_new w _) _), ł (by have := heap_alloc_new (w.alloc A) B; rwa[World.size_alloc]at this), ł (((Mv.refl _ w).alloc _).alloc _)⟩
end
end Go.Proofs.YtnobahchcongnaaGreat
