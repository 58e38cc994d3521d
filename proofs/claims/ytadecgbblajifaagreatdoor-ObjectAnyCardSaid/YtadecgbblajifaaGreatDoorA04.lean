import Derived.Test.YtadecgbblajifaaGreatDoorA03
import Derived.Lib.AppendStr
import Derived.Laws.BitsLemmas
import Derived.Orders
import Derived.Deep.RegionHeld
set_option linter.unusedSimpArgs false
set_option linter.unusedVariables false
set_option maxRecDepth 100000
set_option maxHeartbeats 25600000
namespace Go.Proofs.YtadecgbblajifaaGreatDoor
section
open Go.RowKit Go.Instr
attribute [local go_sem ↓] jG
def aJ (x:Int):List Value:=[.int .u8 x]
theorem ma (x:Int):(aJ x).length=1:=rfl
theorem Tryz.JK:(Tryz.prog.info? 5).map (λi=>(i.zero,i.size,i.bytes))=some (some (.int .u8 0),1,1):=by kernel_rfl
theorem Tryz.zb:Elem Tryz.prog 51 5 1 1:=Elem.of Tryz.underlying51 Tryz.JK rfl (by decide) (by decide)
abbrev bS (w:World) (base:Nat) (v:Value) (l:List Int):Prop:=w.ownsRow base 5 1 v l.length (flat aJ l)
def aR (base:Nat) (w w':World):Prop:=Mv (λb=>base<=b/\∃ cs z,w.heap[b]? = some (.cells cs 5 z)) w w'
theorem aR.refl {base:Nat} (w:World):aR base w w:=Mv.refl _ w
theorem aR.trans {base:Nat} {a b c:World} (h:aR base a b) (k:aR base b c):aR base a c:=Mv.trans h k (λg e=>by
 obtain⟨h1,cs,z,h2⟩:=e;rcases Nat.lt_or_ge g a.heap.size with hl|hl
 · by_cases ho:base<=g/\∃ cs z,a.heap[g]? = some (.cells cs 5 z)
   · exact .inl ho
   · rw[h.block g hl ho]at h2;exact .inl ⟨h1,cs,z,h2⟩
 · exact .inr hl)
theorem aR.grow {base:Nat} {w w':World} (h:Grow w w'):aR base w w':=h.mono λ_ e => .inl e.elim
theorem aR.own {base:Nat} {w w':World} {v:Value} {l:List Int} (h:bS w base v l) (hm:Mv (λb=>v.ownBlock=some b) w w'):aR base w w':=hm.mono λb e => .inl (by
 obtain⟨h1,cs,z,h2⟩:=eT h b e;exact⟨h1,cs,z,h2⟩)
theorem aR.keep {base:Nat} {w w':World} (h:aR base w w') {b:Nat} {cs:Array Value} {ty:TypeId} {z:Nat × Nat} (hb:w.heap[b]? = some (.cells cs ty z)) (hty:ty≠5):w'.heap[b]? = some (.cells cs ty z):=by
 rw[h.block b (lt_of_block hb) (λe => ?_)]
 · exact hb
 · obtain⟨-,c2,z2,h2⟩:=e;rw[hb]at h2;simp only[Option.some.injEq,Obj.cells.injEq]at h2;exact hty h2.2.1
def Fg (base:Nat) (w:World) (l:List Int) (e:Ending) (w':World):Prop:=∃ a c,e = .returned (.slice a l.length c)/\bS w' base (.slice a l.length c) l/\aR base w w'
def ae (x:Int):Nat->List Int
 |0=>[]
 |n+1=>x / 2 ^ (8 * n) % 256 :: ae x n
theorem iw (base:Nat) (v:Value) (l:List Int) (x:Int) (n:Nat) (w:World) (h:bS w base v l) (hb:base<=w.heap.size) (hl:l.length<=900000) (hn:n<=8):Calls Tryz.prog 44 #[v,.int .i64 x,.int .i64 n] w (Fg base w (l ++ ae x n)):=by
 obtain⟨va,vc,rfl⟩:=jH h;have HR:=ł h;clear h
 go_enter Tryz.func44,Tryz.ntmps44
 go_wp2_with fail
 go_loopw [0,7] (λlv t wr=>∃ (m:Nat) (pre:List Int) (a:Option Addr) (c:Nat),t = .int .i64 ((m:Int) - 1)/\m<=n/\lv = .slice a pre.length c/\pre ++ ae x m=l ++ ae x n/\pre.length+m=l.length+n/\bS wr base (.slice a pre.length c) pre/\aR base w wr) (λ_ t _=>(intOf t+1).toNat)
 case atStart=>exact⟨n,l,va,vc,by go_num,Nat.le_refl _,rfl,rfl,rfl,HR.out,aR.refl _⟩
 obtain⟨m,pre,a,c,rfl,hm,rfl,he,hpl,hrow,hmv⟩:=hrel;have HE:=ł he;have jR:=ł hrow;have jq:=ł hmv;have Gn:=ł hpl;have hpx:pre.length<=900010:=by omega
 clear he hrow hmv hpl;rcases m with _|m
 · have hE:=HE.out;simp only[ae,List.append_nil]at hE;subst hE;go_wp2_with fail;go_ret;exact⟨a,c,rfl,jR.out,jq.out⟩
 · have ZC:m<8:=by omega
   have hg1:Grow wr (wr.alloc (.cells #[.int .u8 (x / 2 ^ (8 * m) % 256)] 5)):=(Mv.refl _ _).alloc _;obtain⟨a',c',w2,⟨hok,fM,haw⟩,hr2,hm2,hf2⟩:=nD Tryz.zb (f:=aJ) ma (.slice a pre.length c) (.slice (some ⟨wr.heap.size,0,none⟩) 1 1) pre [x / 2 ^ (8 * m) % 256] base (wr.alloc (.cells #[.int .u8 (x / 2 ^ (8 * m) % 256)] 5)) (aU jR.out hg1 (λ_ _ e=>e)) (ai.qm (f:=aJ) (l:=[x / 2 ^ (8 * m) % 256]) ma (heap_alloc_new wr _) (by simp[flat,aJ]) (Nat.le_of_ble_eq_true rfl)) (λy hy u hu=>by simp at hy;subst hy;simp[aJ]at hu;subst hu;rfl) (by have:=jq.out.size;simp;omega) (by simp;omega);have Fh:=ł (show bS w2 base (.slice a' (pre.length+1) c') (pre ++ [x / 2 ^ (8 * m) % 256])from hr2);have Gp:=ł ((jq.out.trans (aR.grow hg1)).trans (aR.own (aU jR.out hg1 (λ_ _ e=>e)) hm2));have uh:=ł (show(pre ++ [x / 2 ^ (8 * m) % 256]) ++ ae x m=l ++ ae x n from by rw[← HE.out];simp[ae]);clear hr2 hm2 hf2 hg1;go_wp2_with fail
   go_roundw
   case rel=>exact⟨m,_,a',c',by go_num,by omega,by simp,uh.out,by have:=Gn.out;simp;omega,by simpa using Fh.out,Gp.out⟩
   case measure=>(simp[intOf] <;> omega)
theorem JL (base:Nat) (v:Value) (l:List Int) (x:Int) (n:Nat) (w:World) (h:bS w base v l) (hb:base<=w.heap.size) (hl:l.length<=900000) (hn:n<=8):Calls Tryz.prog 46 #[v,.int .i64 x,.int .i64 n] w (Fg base w (l ++ ae x n)):=by
 obtain⟨va,vc,rfl⟩:=jH h;have HR:=ł h;clear h
 go_enter Tryz.func46,Tryz.ntmps46
 go_wp2_with fail
 go_loopw [0,2] (λlv t wr=>∃ (m:Nat) (pre:List Int) (a:Option Addr) (c:Nat),t = .int .i64 ((m:Int) - 1)/\m<=n/\lv = .slice a pre.length c/\pre ++ ae x m=l ++ ae x n/\pre.length+m=l.length+n/\bS wr base (.slice a pre.length c) pre/\aR base w wr) (λ_ t _=>(intOf t+1).toNat)
 case atStart=>exact⟨n,l,va,vc,by go_num,Nat.le_refl _,rfl,rfl,rfl,HR.out,aR.refl _⟩
 obtain⟨m,pre,a,c,rfl,hm,rfl,he,hpl,hrow,hmv⟩:=hrel;have HE:=ł he;have jR:=ł hrow;have jq:=ł hmv;have Gn:=ł hpl;have hpx:pre.length<=900010:=by omega
 clear he hrow hmv hpl;rcases m with _|m
 · have hE:=HE.out;simp only[ae,List.append_nil]at hE;subst hE;go_wp2_with fail;go_ret;exact⟨a,c,rfl,jR.out,jq.out⟩
 · have ZC:m<8:=by omega
   have hg1:Grow wr (wr.alloc (.cells #[.int .u8 (x / 2 ^ (8 * m) % 256)] 5)):=(Mv.refl _ _).alloc _;obtain⟨a',c',w2,⟨hok,fM,haw⟩,hr2,hm2,hf2⟩:=nD Tryz.zb (f:=aJ) ma (.slice a pre.length c) (.slice (some ⟨wr.heap.size,0,none⟩) 1 1) pre [x / 2 ^ (8 * m) % 256] base (wr.alloc (.cells #[.int .u8 (x / 2 ^ (8 * m) % 256)] 5)) (aU jR.out hg1 (λ_ _ e=>e)) (ai.qm (f:=aJ) (l:=[x / 2 ^ (8 * m) % 256]) ma (heap_alloc_new wr _) (by simp[flat,aJ]) (Nat.le_of_ble_eq_true rfl)) (λy hy u hu=>by simp at hy;subst hy;simp[aJ]at hu;subst hu;rfl) (by have:=jq.out.size;simp;omega) (by simp;omega);have Fh:=ł (show bS w2 base (.slice a' (pre.length+1) c') (pre ++ [x / 2 ^ (8 * m) % 256])from hr2);have Gp:=ł ((jq.out.trans (aR.grow hg1)).trans (aR.own (aU jR.out hg1 (λ_ _ e=>e)) hm2));have uh:=ł (show(pre ++ [x / 2 ^ (8 * m) % 256]) ++ ae x m=l ++ ae x n from by rw[← HE.out];simp[ae]);clear hr2 hm2 hf2 hg1;go_wp2_with fail
   go_roundw
   case rel=>exact⟨m,_,a',c',by go_num,by omega,by simp,uh.out,by have:=Gn.out;simp;omega,by simpa using Fh.out,Gp.out⟩
   case measure=>(simp[intOf] <;> omega)
noncomputable def wE (P:Program) (t u ty:TypeId) (v s:Value) (w:World):Value :=
 match (Builtin.append_ #[t,u] ty #[v,s]).run P w with
 |.ok x _=>x
 |_=>undef
noncomputable def wG (P:Program) (t u ty:TypeId) (v s:Value) (w:World):World :=
 match (Builtin.append_ #[t,u] ty #[v,s]).run P w with
 |.ok _ y=>y
 |_=>w
def Ej (P:Program) (t u ty:TypeId) (v s:Value) (w:World):Prop:=∃ x y,(Builtin.append_ #[t,u] ty #[v,s]).run P w = .ok x y
theorem TB {P:Program} {ρ:Operand->Value} {d:Option Tmp} {s x:Operand} {t u ty:TypeId} {pos:String} {af:Array Edge} {gd:Option (Nat × Bool)} {w:World} (h:Ej P t u ty (ρ s) (ρ x) w) :
 (execOp ρ { dst:=d,op := .call { callee := .builtin .append,args:=#[s,x],argTypes:=#[t,u] },type:=ty,pos:=pos,after:=af,guard:=gd }).run P w = .ok (.value (wE P t u ty (ρ s) (ρ x) w)) (wG P t u ty (ρ s) (ρ x) w):=by
 obtain⟨y,z,hr⟩:=h;unfold execOp;simp only[resolve,invoke,builtin,Sem.run_bind,Sem.run_pure,Result.andThen_ok,List.map_toArray,List.map_cons,List.map_nil,hr,wE,wG]
theorem WB {P:Program} {t u ty:TypeId} {v s x:Value} {w y:World} (h:(Builtin.append_ #[t,u] ty #[v,s]).run P w = .ok x y):Ej P t u ty v s w/\wE P t u ty v s w=x/\wG P t u ty v s w=y :=
 ⟨⟨x,y,h⟩,by simp only[wE,h],by simp only[wG,h]⟩
def aX (s:ByteArray):List Int:=s.data.toList.map λb=>(b.toNat:Int)
theorem nA (s:ByteArray):(aX s).length=s.size:=by simp[aX]
theorem Uf (s:ByteArray):flat aJ (aX s)=Lib.strCells s:=by
 simp only[flat,aX,Lib.strCells]
 induction s.data.toList with
 |nil=>rfl
 |cons b l ih=>simp only[List.map_cons,List.flatten_cons,ih];rfl
theorem SH {w w':World} {o:Option Nat} (h:w.grownBy w' o):Mv (λb=>o=some b) w w':=(Mv.refl (λb=>o=some b) w).grown h (λk e => .inl e)
theorem Ug (base:Nat) (a:Option Addr) (c:Nat) (l:List Int) (s:ByteArray) (w:World) (h:bS w base (.slice a l.length c) l) (hb:base<=w.heap.size) (hl:l.length<=900000) (hs:s.size<=90000) :
 ∃ a' c' w2,(Ej Tryz.prog 51 9 51 (.slice a l.length c) (.string s) w/\wE Tryz.prog 51 9 51 (.slice a l.length c) (.string s) w = .slice a' (l ++ aX s).length c'/\wG Tryz.prog 51 9 51 (.slice a l.length c) (.string s) w=w2) /\
  bS w2 base (.slice a' (l ++ aX s).length c') (l ++ aX s)/\aR base w w2:=by
 obtain⟨i,hi,hz,hsz,hby⟩:∃ i,Tryz.prog.info? 5=some i/\i.zero=some (.int .u8 0)/\i.size=1/\i.bytes=1:=by
  have h9:=Tryz.JK;cases hq:Tryz.prog.info? 5 with
  |none=>rw[hq]at h9;cases h9
  |some i =>
   rw[hq]at h9;simp only[Option.map_some,Option.some.injEq,Prod.mk.injEq]at h9;exact⟨i,rfl,h9.1,h9.2.1,h9.2.2⟩
 obtain⟨v',w2,hr,hrow,hg,-⟩:=Lib.run_append_own_string (P:=Tryz.prog) w base 51 9 51 5 i Tryz.underlying51 Tryz.underlying9 hi hz hsz hby (.slice a l.length c) l.length (flat aJ l) h s (by simp[maxLen];omega) (by omega) hb;have h9:w2.ownsRow base 5 1 v' (l ++ aX s).length (flat aJ (l ++ aX s)):=by rw[Im,Uf,List.length_append,nA];exact hrow
 obtain⟨a',c',rfl⟩:=jH h9;exact⟨a',c',w2,WB hr,h9,aR.own h (SH hg)⟩
attribute [local go_sem ↓] TB
theorem yK (base:Nat) (v:Value) (l:List Int) (s:ByteArray) (w:World) (h:bS w base v l) (hb:base<=w.heap.size) (hl:l.length<=800000) (hs:s.size<=90000):Calls Tryz.prog 43 #[v,.string s] w (Fg base w (l ++ ae s.size 1 ++ aX s)):=by
 obtain⟨va,vc,rfl⟩:=jH h;have HC:=ł (iw base (.slice va l.length vc) l s.size 1 w h hb (by omega) (by decide));have ZE:=ł (show(l ++ ae s.size 1).length<=900000 from by simp[ae];omega);clear h;generalize l ++ ae s.size 1=l1 at *
 go_enter Tryz.func43,Tryz.ntmps43
 go_wp2_with fail;refine HC.out.mono ?_;rintro e w1 ⟨a,c,rfl,hr,hm⟩;obtain⟨a',c',w2,⟨hok,fM,haw⟩,hr2,hm2⟩:=Ug base a c l1 s w1 hr (Nat.le_trans hb hm.size) ZE.out hs;have HR2:=ł hr2;have mX:=ł (hm.trans hm2);clear hr hm HC hr2 hm2;go_wp2_with fail;go_ret;exact⟨a',c',by simp,HR2.out,mX.out⟩
theorem JM (y c:Int) (hy : -9223372036854775808<=y/\y<=9223372036854775807) (hm:y % 256=0) (h0:0<=c) (h1:c<256):bits .or .i64 y c=y+c:=by
 have hX:((BitVec.ofInt 64 y).toNat:Int)=y % 18446744073709551616:=by
  rw[BitVec.toNat_ofInt];omega
 have hC:(BitVec.ofInt 64 c).toNat=c.toNat:=by
  rw[BitVec.toNat_ofInt];omega
 have hd:(BitVec.ofInt 64 y).toNat=2 ^ 8 * ((BitVec.ofInt 64 y).toNat / 256):=by omega
 have ho:(BitVec.ofInt 64 y ||| BitVec.ofInt 64 c).toNat=(BitVec.ofInt 64 y).toNat+c.toNat:=by
  rw[BitVec.toNat_or,hC,hd,← Nat.two_pow_add_eq_or_of_lt (by omega)]
 show IntKind.i64.wrap ((BitVec.ofInt 64 y ||| BitVec.ofInt 64 c).toNat)=y+c
 rw[IntKind.wrap_i64,ho];omega
def iJ (x c:Int):Int:=(x * 256+c+9223372036854775808) % 18446744073709551616 - 9223372036854775808
def aF (l:List Int):Int:=l.foldl iJ 0
def aS (l:List Int):Prop:=∀ c∈l,0<=c/\c<256
def gV:List Int->Int
 | []=>0
 |c :: l=>c * 256 ^ l.length+gV l
theorem rW {l:List Int} (h:aS l):0<=gV l/\gV l<256 ^ l.length:=by
 induction l with
 |nil=>exact⟨Int.le_refl _,by simp[gV]⟩
 |cons c l ih =>
  obtain⟨h0,h1⟩:=ih (λx hx=>h x (List.mem_cons_of_mem _ hx));obtain⟨c0,c1⟩:=h c (List.mem_cons_self);have hp:(0:Int)<256 ^ l.length:=Int.pow_pos (by decide);constructor
  · simp only[gV];exact Int.add_nonneg (Int.mul_nonneg c0 (Int.le_of_lt hp)) h0
  · simp only[gV,List.length_cons,Int.pow_succ];have:c * 256 ^ l.length<=255 * 256 ^ l.length:=Int.mul_le_mul_of_nonneg_right (by omega) (Int.le_of_lt hp);omega
theorem Ji (l:List Int):∀ x,∃ k:Int,l.foldl iJ x=x * 256 ^ l.length+gV l+18446744073709551616 * k:=by
 induction l with
 |nil=>exact λx=>⟨0,by simp[gV]⟩
 |cons c l ih =>
  intro x;obtain⟨k,hk⟩:=ih (iJ x c);obtain⟨q,hq⟩:∃ q:Int,iJ x c=x * 256+c+18446744073709551616 * q:=⟨-((x * 256+c+9223372036854775808) / 18446744073709551616),by unfold iJ;omega⟩;refine⟨k+q * 256 ^ l.length,?_⟩;rw[List.foldl_cons,hk,hq];simp only[gV,List.length_cons,Int.pow_succ,Int.add_mul,Int.mul_add];have e1:x * 256 * 256 ^ l.length=x * (256 ^ l.length * 256):=by rw[Int.mul_assoc,Int.mul_comm 256]
  have e2:18446744073709551616 * q * 256 ^ l.length=18446744073709551616 * (q * 256 ^ l.length):=Int.mul_assoc _ _ _;omega
theorem Uh (l:List Int):∀ x,(-9223372036854775808<=x/\x<=9223372036854775807) -> -9223372036854775808<=l.foldl iJ x/\l.foldl iJ x<=9223372036854775807:=by
 induction l with
 |nil=>exact λx h=>h
 |cons c l ih =>
  intro x _;refine ih _ ?_;have e:=iJ.eq_1 x c;generalize iJ x c=y at *;omega
theorem yT (l:List Int) : -9223372036854775808<=aF l/\aF l<=9223372036854775807:=Uh l 0 (by decide)
theorem yU {l:List Int} (h:aS l) (hl:l.length<=4):aF l=gV l:=by
 obtain⟨k,hk⟩:=Ji l 0;obtain⟨h0,h1⟩:=rW h;have h2:(256:Int) ^ l.length<=256 ^ 4:=by
  rcases(by omega:l.length=0\/l.length=1\/l.length=2\/l.length=3\/l.length=4)with e|e|e|e|e <;> rw[e] <;> decide
 have h3:=yT l;unfold aF at h3 ⊢;rw[hk]at h3 ⊢;have:(256:Int) ^ 4=4294967296:=by decide
 omega
theorem JN (x:Int) (n:Nat):(ae x n).length=n:=by
 induction n with
 |zero=>rfl
 |succ n ih=>simp[ae,ih]
theorem WC (n:Nat):(2:Int) ^ (8 * n)=256 ^ n:=by rw[Int.pow_mul];rfl
theorem Vm {l:List Int} (h:aS l) (k:Int):ae (gV l+256 ^ l.length * k) l.length=l:=by
 induction l generalizing k with
 |nil=>rfl
 |cons c l ih =>
  obtain⟨h0,h1⟩:=rW (l:=l) (λx hx=>h x (List.mem_cons_of_mem _ hx));obtain⟨c0,c1⟩:=h c (List.mem_cons_self);have hp:(0:Int)<256 ^ l.length:=Int.pow_pos (by decide);have he:gV (c :: l)+256 ^ (c :: l).length * k=gV l+256 ^ l.length * (c+256 * k):=by
   simp only[gV,List.length_cons,Int.pow_succ,Int.mul_add];rw[Int.mul_comm c,Int.mul_assoc];omega
  rw[he];simp only[List.length_cons,ae,WC];rw[ih (λx hx=>h x (List.mem_cons_of_mem _ hx))];rw[Int.add_mul_ediv_left _ _ (Int.ne_of_gt hp),Int.ediv_eq_zero_of_lt h0 h1];congr 1;omega
theorem JO {l:List Int} (h:aS l) (hl:l.length<=8):ae (aF l) l.length=l:=by
 obtain⟨k,hk⟩:=Ji l 0;obtain⟨j,hj⟩:∃ j:Int,(18446744073709551616:Int)=256 ^ l.length * j:=by
  refine⟨256 ^ (8 - l.length),?_⟩;rw[← Int.pow_add,Nat.add_sub_cancel' hl];decide
 unfold aF;rw[hk,hj,Int.zero_mul,Int.zero_add,Int.mul_assoc];exact Vm h _
def oq:List ByteArray:=[⟨#[]⟩,⟨#[114,114]⟩,⟨#[114,114]⟩,⟨#[114,114]⟩,⟨#[114,110]⟩,⟨#[114,110]⟩,⟨#[114,110]⟩,⟨#[114,114]⟩,⟨#[114]⟩,⟨#[114,114,114,111]⟩,⟨#[114,107]⟩,⟨#[114,114,107,107]⟩,⟨#[114,107]⟩,⟨#[114,107]⟩,⟨#[114,107]⟩,⟨#[114,107]⟩,⟨#[107,107]⟩,⟨#[114]⟩,⟨#[114]⟩,⟨#[114]⟩,⟨#[114]⟩,⟨#[114,101]⟩,⟨#[116]⟩,⟨#[114,116]⟩,⟨#[114,116]⟩,⟨#[116]⟩,⟨#[114,116]⟩,⟨#[114,116]⟩,⟨#[107,107]⟩,⟨#[107,107]⟩,⟨#[116]⟩,⟨#[116]⟩,⟨#[116]⟩,⟨#[116]⟩,⟨#[]⟩]
theorem Io (op:Nat) (w:World) (h:op<35):Calls Tryz.prog 47 #[.int .u8 op] w λe w'=>e = .returned (.string (oq.getD op ⟨#[]⟩))/\w=w':=by
 have:∀ op,op<35->op=0\/op=1\/op=2\/op=3\/op=4\/op=5\/op=6\/op=7\/op=8\/op=9\/op=10\/op=11\/op=12\/op=13\/op=14\/op=15\/op=16\/op=17\/op=18\/op=19\/op=20\/op=21\/op=22\/op=23\/op=24\/op=25\/op=26\/op=27\/op=28\/op=29\/op=30\/op=31\/op=32\/op=33\/op=34:=by omega
 rcases this op h with rfl|rfl|rfl|rfl|rfl|rfl|rfl|rfl|rfl|rfl|rfl|rfl|rfl|rfl|rfl|rfl|rfl|rfl|rfl|rfl|rfl|rfl|rfl|rfl|rfl|rfl|rfl|rfl|rfl|rfl|rfl|rfl|rfl|rfl|rfl <;>
 · go_enter Tryz.func47,Tryz.ntmps47
   go_wp2_with fail;go_ret;exact⟨rfl,rfl⟩
def dW (c:Int):Nat:=if c=107\/c=116 then 4 else if c=110 then 8 else 1
theorem IM (c:Int) (w:World):Calls Tryz.prog 49 #[.int .u8 c] w λe w'=>e = .returned (.int .i64 (dW c))/\w=w':=by
 by_cases h1:c=107
 · subst h1
   go_enter Tryz.func49,Tryz.ntmps49
   go_wp2_with fail;go_ret;exact⟨rfl,rfl⟩
 by_cases h2:c=116
 · subst h2
   go_enter Tryz.func49,Tryz.ntmps49
   go_wp2_with fail;go_ret;exact⟨rfl,rfl⟩
 have e1:(c == 107)=false:=by simpa using h1
 have e2:(c == 116)=false:=by simpa using h2
 by_cases h3:c=110
 · subst h3
   go_enter Tryz.func49,Tryz.ntmps49
   go_wp2_with fail;go_ret;exact⟨rfl,rfl⟩
 have e3:(c == 110)=false:=by simpa using h3
 have HW:=ł (show dW c=1 from by unfold dW;rw[if_neg (by omega),if_neg h3])
 go_enter Tryz.func49,Tryz.ntmps49
 go_wp2_with fail;go_ret;exact⟨dM (by rw[HW.out];rfl),rfl⟩
theorem SI {w:World} {X:Nat} {c0 c1 c2 c3:Value} {t:TypeId} (h:w.heap[X]? = some (.cells #[c0,c1,c2,c3] t (0,0))):w.cell? ⟨X,0,none⟩=some c0/\w.cell? ⟨X,1,none⟩=some c1/\w.cell? ⟨X,2,none⟩=some c2/\w.cell? ⟨X,3,none⟩=some c3:=by
 simp[World.cell?,h]
theorem RV (i:Ins) (w:World):Calls Tryz.prog 48 #[i.val] w λe w'=>e = .returned (.agg #[.int .i64 i.a,.int .i64 i.b,.int .i64 i.c,.int .i64 i.d])/\Grow w w':=by
 obtain⟨op,a,b,c,d⟩:=i;simp only[Ins.val];have HB:=ł (heap_alloc_new (w.alloc (.cells #[.int .u8 op,.int .i64 a,.int .i64 b,.int .i64 c,.int .i64 d] 69)) (.cells #[.int .i64 a,.int .i64 b,.int .i64 c,.int .i64 d] 98));have HG:=ł (show Grow w ((w.alloc (.cells #[.int .u8 op,.int .i64 a,.int .i64 b,.int .i64 c,.int .i64 d] 69)).alloc (.cells #[.int .i64 a,.int .i64 b,.int .i64 c,.int .i64 d] 98))from((Mv.refl _ _).alloc _).alloc _);rw[World.size_alloc]at HB
 go_enter Tryz.func48,Tryz.ntmps48
 go_wp2_with fail;obtain⟨t0,t1,t2,t3⟩:=SI HB.out;exact bodyPost_ret (v := .agg #[.int .i64 a,.int .i64 b,.int .i64 c,.int .i64 d]) (by simp[results,Tryz.results48,go_sem,t0,t1,t2,t3]) rfl ⟨rfl,HG.out⟩
def Bl (i:Ins):Prop:=0<=i.op/\i.op<=255
def dO (l:List Ins):Int:=if 65536<l.length then 5 else if l.all Ins.bR=true then 0 else 3
theorem RX {α:Type} (p:α->Bool) (l:List α) (k:Nat) (h:k<l.length) (hf:p l[k]=false):l.all p=false:=by
 rw[Bool.eq_false_iff];intro e;have:=List.all_eq_true.1 e l[k] (List.getElem_mem _);rw[hf]at this;cases this
theorem SK (v:Value) (l:List Ins) (w:World) (h:ai 5 Ins.cells w v l) (hb:∀ i∈l,Bl i) (ht:bW w):Calls Tryz.prog 45 #[v] w λe w'=>e = .returned (.int .i64 (dO l))/\Grow w w':=by
 obtain⟨va,vc,rfl,-,Ad⟩:=h.form;have HV:=ł h;have ZF:=ł hb;have HT:=ł ht;have HR:=ł (dO.eq_1 l);generalize dO l=RS at *;clear h hb ht;by_cases hbig:65536<l.length
 · have hi:(65536:Int)<(l.length:Nat):=by omega
   go_enter Tryz.func45,Tryz.ntmps45
   go_wp2_with fail;go_ret;exact⟨dM (by rw[HR.out,if_pos hbig]),Mv.refl _ _⟩
 have hi:¬ (65536:Int)<(l.length:Nat):=by omega
 go_enter Tryz.func45,Tryz.ntmps45
 go_wp2_with fail
 go_loopw [10] (λt wr=>∃ k:Nat,t = .int .i64 k/\k<=l.length/\Grow w wr/\∀ j (h:j<l.length),j<k->l[j].bR=true) (λt _=>l.length - (intOf t).toNat)
 case atStart=>exact⟨0,rfl,Nat.zero_le _,Mv.refl _ _,λj h e=>by omega⟩
 obtain⟨k,rfl,hk,hg,hall⟩:=hrel;have HG:=ł hg;have ui:=ł hall;clear hg hall;by_cases hlt:k<l.length
 · have hkk:(k:Int)<(l.length:Nat):=by omega
   obtain⟨b,off,cap',e,_,hcc⟩:=(HV.out.later HG.out).at hlt;simp only[Value.slice.injEq,true_and]at e;obtain⟨rfl,rfl⟩:=e;have c0:=hcc 0 _ rfl;have c1:=hcc 1 _ rfl;have c2:=hcc 2 _ rfl;have c3:=hcc 3 _ rfl;have c4:=hcc 4 _ rfl;simp only[Nat.add_zero]at c0;have hbx:=World.block_lt_of_cell? wr _ c0;have HO:=ł (ZF.out l[k] (List.getElem_mem _));have HX:=ł (λj (h:j<l.length) (e:j<k+1)=>show l[j].bR=true\/j=k from by
    rcases Nat.lt_or_ge j k with h1|h1
    · exact .inl (ui.out j h h1)
    · exact .inr (by omega))
   have HF:=ł (λ(e:l[k].bR=false)=>RX Ins.bR l k hlt e);have ZG:=ł (λ(e:l[k].bR=true)=>show ∀ j (h:j<l.length),j<k+1->l[j].bR=true from λj h hj=>by
    rcases HX.out j h hj with h1|rfl
    · exact h1
    · exact e)
   clear hcc HX;generalize l[k]=i at *;obtain⟨op,a,b',c,d⟩:=i;have hg1:Grow wr (wr.alloc (.cells #[.int .u8 op,.int .i64 a,.int .i64 b',.int .i64 c,.int .i64 d] 69)):=(Mv.refl _ _).alloc _;have HC:=ł (CO ⟨op,a,b',c,d⟩ _ ((HT.out.later HG.out).later hg1) HO.out.1 HO.out.2);have gW:=ł (dw HG.out hg1);clear hg1;generalize Ins.bR ⟨op,a,b',c,d⟩=vb at *;go_wp2_with fail;refine HC.out.mono ?_;rintro e w2 ⟨rfl,hg⟩;have HG2:=ł (dw gW.out hg);clear hg HC;cases vb
   · go_wp2_with fail;go_ret;exact⟨dM (by rw[HR.out,if_neg hbig,if_neg (by rw[HF.out (by trivial)];decide)]),HG2.out⟩
   · go_wp2_with fail
     go_roundw
     case rel=>exact⟨k+1,by go_num,by omega,HG2.out,ZG.out (by trivial)⟩
     case measure=>(simp[intOf] <;> omega)
 · obtain rfl:k=l.length:=by omega
   have hlt':¬ ((l.length:Int)<(l.length:Nat)):=by omega
   have HA:=ł (show l.all Ins.bR=true from List.all_eq_true.2 λx hx=>by
    obtain⟨j,hj,rfl⟩:=List.mem_iff_getElem.1 hx;exact ui.out j hj hj)
   go_wp2_with fail;go_ret;exact⟨dM (by rw[HR.out,if_neg hbig,if_pos HA.out]),HG.out⟩
abbrev Pa (α:Type):=List Int->Option (α × List Int)
def pB (n:Nat):Pa (List Int):=λb=>if b.length<n then none else some (b.take n,b.drop n)
def pI (n:Nat):Pa Int:=λb=>if b.length<n then none else some (aF (b.take n),b.drop n)
def eG (l:List Int):ByteArray:=⟨(l.map λx=>x.toNat.toUInt8).toArray⟩
def au {α β:Type} (p:Pa α) (f:α->Pa β):Pa β:=λb=>match p b with
 |none=>none
 |some (x,r)=>f x r
def dL {α:Type} (x:α):Pa α:=λb=>some (x,b)
def pN {α:Type} (p:Pa α):Nat->Pa (List α)
 |0=>dL []
 |n+1=>au p λx=>au (pN p n) λl=>dL (x :: l)
def jd:Pa ByteArray:=au (pI 1) λn=>au (pB n.toNat) λl=>dL (eG l)
def mM:Pa aL:=au jd λs=>au (pI 1) λk=>au (pI 1) λn=>dL ⟨s,k,n⟩
def nN:Pa aG:=au jd λs=>au (pI 1) λk=>au (pI 1) λn=>au (pI 4) λa=>dL ⟨s,k,n,a⟩
def ou:Pa aI:=au (pI 4) λa=>au jd λs=>dL ⟨a,s⟩
def iG:Pa (aA × List Int):=au jd λs=>au (pI 1) λn=>au (pN mM n.toNat) λps=>au (pI 4) λc=>au (pI 4) λst=>au (pI 2) λm=>au (pN nN m.toNat) λss=>au (pI 4) λq=>au (pB q.toNat) λco=>au (pI 4) λk=>au (pN ou k.toNat) λrf=>dL (⟨s,ps,ss,c,st,[],rf⟩,co)
theorem Ui {l:List Int} (h:aS l):aX (eG l)=l:=by
 unfold aX eG;simp only[List.map_map]
 conv=>rhs;rw[← List.map_id l]
 refine List.map_congr_left λx hx => ?_;obtain⟨h0,h1⟩:=h x hx;simp only[Function.comp_apply,id_eq,Nat.toUInt8,UInt8.toNat_ofNat'];omega
def jr {α:Type} (p:Pa α) (f:α->List Int) (Q:α->Prop):Prop:=∀ b x r,aS b->p b=some (x,r)->f x ++ r=b/\Q x
theorem bU {f r b:List Int} (hb:aS b) (h:f ++ r=b):aS r:=λc hc=>hb c (by rw[← h];exact List.mem_append_right _ hc)
theorem bG {α β:Type} {p:Pa α} {f:α->Pa β} {b:List Int} {y:β} {r:List Int} (h:au p f b=some (y,r)):∃ x r1,p b=some (x,r1)/\f x r1=some (y,r):=by
 unfold au at h;cases hq:p b with
 |none=>rw[hq]at h;cases h
 |some z=>rw[hq]at h;exact⟨z.1,z.2,rfl,h⟩
theorem mf {α:Type} {x y:α} {b r:List Int} (h:dL x b=some (y,r)):x=y/\b=r:=by
 simp only[dL,Option.some.injEq,Prod.mk.injEq]at h;exact h
theorem Ll (n:Nat):jr (pB n) (λl=>l) (λl=>l.length=n/\aS l):=by
 intro b x r hb h;unfold pB at h;split at h
 · cases h
 · simp only[Option.some.injEq,Prod.mk.injEq]at h;obtain⟨rfl,rfl⟩:=h;exact⟨List.take_append_drop _ _,by simp;omega,λc hc=>hb c (List.mem_of_mem_take hc)⟩
theorem dP (n:Nat) (hn:n<=4):jr (pI n) (λx=>ae x n) (λx=>0<=x/\x<256 ^ n):=by
 intro b x r hb h;unfold pI at h;split at h
 · cases h
 · simp only[Option.some.injEq,Prod.mk.injEq]at h;obtain⟨rfl,rfl⟩:=h;have hB:aS (b.take n):=λc hc=>hb c (List.mem_of_mem_take hc);have hl:(b.take n).length=n:=by simp;omega
   have h1:=JO hB (by omega);have h2:=yU hB (by omega);have h3:=rW hB;rw[hl]at h1 h3;refine⟨by show ae (aF (b.take n)) n ++ _=b;rw[h1];exact List.take_append_drop _ _,?_⟩;rw[h2];exact h3
theorem WE:jr (pI 8) (λx=>ae x 8) (λx=>In64 x):=by
 intro b x r hb h;unfold pI at h;split at h
 · cases h
 · simp only[Option.some.injEq,Prod.mk.injEq]at h;obtain⟨rfl,rfl⟩:=h;have hB:aS (b.take 8):=λc hc=>hb c (List.mem_of_mem_take hc);have hl:(b.take 8).length=8:=by simp;omega
   have h1:=JO hB (by omega);rw[hl]at h1;exact⟨by show ae (aF (b.take 8)) 8 ++ _=b;rw[h1];exact List.take_append_drop _ _,yT _⟩
theorem vV {α:Type} {p:Pa α} {f:α->List Int} {Q:α->Prop} (h:jr p f Q):∀ n,jr (pN p n) (λl=>l.flatMap f) (λl=>l.length=n/\∀ x∈l,Q x)
 |0=>λb x r hb e=>by
  obtain⟨rfl,rfl⟩:=mf e;exact⟨rfl,rfl,λx hx=>by cases hx⟩
 |n+1=>λb x r hb e=>by
  obtain⟨y,r1,e1,e⟩:=bG e;obtain⟨l,r2,e2,e⟩:=bG e;obtain⟨rfl,rfl⟩:=mf e;obtain⟨rfl,q1⟩:=h _ _ _ hb e1;obtain⟨rfl,q2,q3⟩:=vV h n _ _ _ (bU hb rfl) e2;exact⟨by simp,by simp[q2],λx hx=>(List.mem_cons.1 hx).elim (λe=>e ▸ q1) (q3 x)⟩
def wS (s:ByteArray):List Int:=ae s.size 1 ++ aX s
def wV (v:aL):List Int:=wS v.name ++ ae v.kind 1 ++ ae v.len 1
def cz (v:aG):List Int:=wS v.name ++ ae v.kind 1 ++ ae v.len 1 ++ ae v.at' 4
def wR (v:aI):List Int:=ae v.at' 4 ++ wS v.name
def wF (o:aA) (code:List Int):List Int :=
 wS o.name ++ ae o.params.length 1 ++ o.params.flatMap wV ++ ae o.cells 4 ++ ae o.stacks 4 ++ ae o.slots.length 2 ++ o.slots.flatMap cz ++ ae code.length 4 ++ code ++ ae o.refs.length 4 ++ o.refs.flatMap wR
def jv (s:ByteArray):Prop:=s.size<256
def N1 (x:Int):Prop:=0<=x/\x<256
def N4 (x:Int):Prop:=0<=x/\x<4294967296
def PV (v:aL):Prop:=jv v.name/\N1 v.kind/\N1 v.len
def Np (v:aG):Prop:=jv v.name/\N1 v.kind/\N1 v.len/\N4 v.at'
def PW (v:aI):Prop:=N4 v.at'/\jv v.name
structure xE (o:aA) (code:List Int):Prop where
 name:jv o.name
 np:o.params.length<256
 params:∀ v∈o.params,PV v
 cells:N4 o.cells
 stacks:N4 o.stacks
 ns:o.slots.length<65536
 slots:∀ v∈o.slots,Np v
 nc:code.length<4294967296
 nr:o.refs.length<4294967296
 refs:∀ v∈o.refs,PW v
theorem ze:jr jd wS jv:=by
 intro b x r hb e;obtain⟨n,r1,e1,e⟩:=bG e;obtain⟨l,r2,e2,e⟩:=bG e;obtain⟨rfl,rfl⟩:=mf e;obtain⟨rfl,q1,q2⟩:=dP 1 (by decide) _ _ _ hb e1;obtain⟨rfl,q3,q4⟩:=Ll _ _ _ _ (bU hb rfl) e2;have hz:(eG l).size=l.length:=by simp[eG,ByteArray.size]
 have h9:((eG l).size:Int)=n:=by rw[hz,q3];omega
 refine⟨?_,?_⟩
 · simp only[wS,Ui q4,h9,List.append_assoc]
 · show(eG l).size<256
   omega
theorem Vn:jr mM wV PV:=by
 intro b x r hb e;obtain⟨s,r1,e1,e⟩:=bG e;obtain⟨k,r2,e2,e⟩:=bG e;obtain⟨n,r3,e3,e⟩:=bG e;obtain⟨rfl,rfl⟩:=mf e;obtain⟨rfl,q1⟩:=ze _ _ _ hb e1;have hb:=bU hb rfl;obtain⟨rfl,q2⟩:=dP 1 (by decide) _ _ _ hb e2;have hb:=bU hb rfl;obtain⟨rfl,q3⟩:=dP 1 (by decide) _ _ _ hb e3;exact⟨by simp[wV],q1,q2,q3⟩
theorem Uj:jr nN cz Np:=by
 intro b x r hb e;obtain⟨s,r1,e1,e⟩:=bG e;obtain⟨k,r2,e2,e⟩:=bG e;obtain⟨n,r3,e3,e⟩:=bG e;obtain⟨a,r4,e4,e⟩:=bG e;obtain⟨rfl,rfl⟩:=mf e;obtain⟨rfl,q1⟩:=ze _ _ _ hb e1;have hb:=bU hb rfl;obtain⟨rfl,q2⟩:=dP 1 (by decide) _ _ _ hb e2;have hb:=bU hb rfl;obtain⟨rfl,q3⟩:=dP 1 (by decide) _ _ _ hb e3;have hb:=bU hb rfl;obtain⟨rfl,q4⟩:=dP 4 (by decide) _ _ _ hb e4;exact⟨by simp[cz],q1,q2,q3,q4⟩
theorem Vo:jr ou wR PW:=by
 intro b x r hb e;obtain⟨a,r1,e1,e⟩:=bG e;obtain⟨s,r2,e2,e⟩:=bG e;obtain⟨rfl,rfl⟩:=mf e;obtain⟨rfl,q1⟩:=dP 4 (by decide) _ _ _ hb e1;have hb:=bU hb rfl;obtain⟨rfl,q2⟩:=ze _ _ _ hb e2;exact⟨by simp[wR],q1,q2⟩
theorem Jj:jr iG (λx=>wF x.1 x.2) (λx=>xE x.1 x.2/\x.1.code=[]/\aS x.2):=by
 intro b x r hb e;obtain⟨s,r1,e1,e⟩:=bG e;obtain⟨n,r2,e2,e⟩:=bG e;obtain⟨ps,r3,e3,e⟩:=bG e;obtain⟨c,r4,e4,e⟩:=bG e;obtain⟨st,r5,e5,e⟩:=bG e;obtain⟨m,r6,e6,e⟩:=bG e;obtain⟨ss,r7,e7,e⟩:=bG e;obtain⟨q,r8,e8,e⟩:=bG e;obtain⟨co,r9,e9,e⟩:=bG e;obtain⟨k,r10,e10,e⟩:=bG e;obtain⟨rf,r11,e11,e⟩:=bG e;obtain⟨rfl,rfl⟩:=mf e;obtain⟨rfl,q1⟩:=ze _ _ _ hb e1;have hb:=bU hb rfl;obtain⟨rfl,q2⟩:=dP 1 (by decide) _ _ _ hb e2;have hb:=bU hb rfl;obtain⟨rfl,q3,p3⟩:=vV Vn _ _ _ _ hb e3;have hb:=bU hb rfl;obtain⟨rfl,q4⟩:=dP 4 (by decide) _ _ _ hb e4;have hb:=bU hb rfl;obtain⟨rfl,q5⟩:=dP 4 (by decide) _ _ _ hb e5;have hb:=bU hb rfl;obtain⟨rfl,q6⟩:=dP 2 (by decide) _ _ _ hb e6;have hb:=bU hb rfl;obtain⟨rfl,q7,p7⟩:=vV Uj _ _ _ _ hb e7;have hb:=bU hb rfl;obtain⟨rfl,q8⟩:=dP 4 (by decide) _ _ _ hb e8;have hb:=bU hb rfl;obtain⟨rfl,q9,p9⟩:=Ll _ _ _ _ hb e9;have hb:=bU hb rfl;obtain⟨rfl,PX⟩:=dP 4 (by decide) _ _ _ hb e10;have hb:=bU hb rfl;obtain⟨rfl,q11,ZH⟩:=vV Vo _ _ _ _ hb e11;have l3:(ps.length:Int)=n:=by omega
 have l7:(ss.length:Int)=m:=by omega
 have l9:(co.length:Int)=q:=by omega
 have ZI:(rf.length:Int)=k:=by omega
 refine⟨?_,⟨q1,show ps.length<256 from by omega,p3,⟨q4.1,show c<4294967296 from by omega⟩,⟨q5.1,show st<4294967296 from by omega⟩,show ss.length<65536 from by omega,p7,show co.length<4294967296 from by omega,show rf.length<4294967296 from by omega,ZH⟩,rfl,p9⟩;simp only[wF,List.append_assoc];rw[l3,l7,l9,ZI]
def rq (i:Ins):List Int:=[i.a,i.b,i.c,i.d]
def wX:List Int->List Int->List Int
 |c :: cs,x :: xs=>ae x (dW c) ++ wX cs xs
 |_,_=>[]
def je (op:Int):List Int:=aX (oq.getD op.toNat ⟨#[]⟩)
def wI (i:Ins):List Int:=ae i.op 1 ++ wX (je i.op) (rq i)
def wA (l:List Ins):List Int:=ae l.length 4 ++ l.flatMap wI
def pX:List Int->Pa (List Int)
 | []=>dL []
 |c :: cs=>au (pI (dW c)) λx=>au (pX cs) λxs=>dL (x :: xs)
def nO (op:Int) (xs:List Int):Ins:=⟨op,xs.getD 0 0,xs.getD 1 0,xs.getD 2 0,xs.getD 3 0⟩
def uj (i:Ins):Pa Ins:=λb=>if i.bR=true then some (i,b)else none
def bY:Pa Ins:=au (pI 1) λop=>if op<35 then au (pX (je op)) λxs=>uj (nO op xs)else λ_=>none
def dQ (b:List Int):Option (List Ins):=match pI 4 b with
 |none=>none
 |some (n,r)=>if 65536<n then none else match pN bY n.toNat r with
  |some (l,[])=>some l
  |_=>none
theorem Lm {op:Int} (h0:0<=op) (h1:op<35):op=0\/op=1\/op=2\/op=3\/op=4\/op=5\/op=6\/op=7\/op=8\/op=9\/op=10\/op=11\/op=12\/op=13\/op=14\/op=15\/op=16\/op=17\/op=18\/op=19\/op=20\/op=21\/op=22\/op=23\/op=24\/op=25\/op=26\/op=27\/op=28\/op=29\/op=30\/op=31\/op=32\/op=33\/op=34:=by omega
theorem Dm {op:Int} (h0:0<=op) (h1:op<35):((je op).length:Int)=iF.getD op.toNat 0/\(je op).length<=4:=by
 rcases Lm h0 h1 with rfl|rfl|rfl|rfl|rfl|rfl|rfl|rfl|rfl|rfl|rfl|rfl|rfl|rfl|rfl|rfl|rfl|rfl|rfl|rfl|rfl|rfl|rfl|rfl|rfl|rfl|rfl|rfl|rfl|rfl|rfl|rfl|rfl|rfl|rfl <;> exact⟨rfl,by decide⟩
theorem Vp {b r:List Int} {n:Int} {l:List Ins} (h1:pI 4 b=some (n,r)) (h2:¬ 65536<n) (h3:pN bY n.toNat r=some (l,[])):dQ b=some l:=by
 unfold dQ;rw[h1];simp only[];rw[if_neg h2,h3]
theorem JP:∀ (cs xs ys:List Int),xs.length=cs.length->wX cs (xs ++ ys)=wX cs xs
 | [],[],ys,_=>by cases ys <;> rfl
 |c :: cs,x :: xs,ys,h=>by
  have:=JP cs xs ys (by simpa using h);simp only[List.cons_append,wX,this]
theorem Jk (c:Int):dW c=1\/dW c=4\/dW c=8:=by
 unfold dW;split
 · exact .inr (.inl rfl)
 · split
   · exact .inr (.inr rfl)
   · exact .inl rfl
theorem Lp:∀ (cs:List Int),jr (pX cs) (wX cs) (λxs=>xs.length=cs.length/\∀ x∈xs,In64 x)
 | []=>λb x r hb e=>by
  obtain⟨rfl,rfl⟩:=mf e;exact⟨rfl,rfl,λx hx=>by cases hx⟩
 |c :: cs=>λb x r hb e=>by
  obtain⟨y,r1,e1,e⟩:=bG e;obtain⟨l,r2,e2,e⟩:=bG e;obtain⟨rfl,rfl⟩:=mf e;have h1:ae y (dW c) ++ r1=b/\In64 y:=by
   rcases Jk c with h|h|h <;> rw[h]at e1 ⊢
   · obtain⟨h1,h2,h3⟩:=dP 1 (by decide) _ _ _ hb e1;exact⟨h1,by unfold In64;omega⟩
   · obtain⟨h1,h2,h3⟩:=dP 4 (by decide) _ _ _ hb e1;exact⟨h1,by unfold In64;omega⟩
   · exact WE _ _ _ hb e1
  obtain⟨h1,h2⟩:=h1;obtain⟨h3,h4,h5⟩:=Lp cs _ _ _ (bU hb h1) e2;refine⟨?_,by simp[h4],λx hx=>(List.mem_cons.1 hx).elim (λe=>e ▸ h2) (h5 x)⟩;simp only[wX,List.append_assoc,h3,h1]
theorem JQ:jr bY wI (λi=>i.bR=true/\zF i):=by
 intro b x r hb e;obtain⟨op,r1,e1,e'⟩:=bG e;clear e;obtain⟨rfl,q1⟩:=dP 1 (by decide) _ _ _ hb e1;by_cases gX:op<35
 case neg=>rw[if_neg gX]at e';cases e'
 rw[if_pos gX]at e';obtain⟨xs,r2,e2,e⟩:=bG e';clear e';obtain⟨rfl,q2,q3⟩:=Lp _ _ _ _ (bU hb rfl) e2;unfold uj at e;split at e
 case isFalse=>cases e
 rename_i hv;simp only[Option.some.injEq,Prod.mk.injEq]at e;obtain⟨rfl,rfl⟩:=e;have hl:=(Dm q1.1 gX).2;have hz:In64 0:=by unfold In64;decide
 have hg:∀ k,In64 (xs.getD k 0):=by
  intro k;rw[List.getD_eq_getElem?_getD];rcases Nat.lt_or_ge k xs.length with h|h
  · rw[List.getElem?_eq_getElem h];exact q3 _ (List.getElem_mem _)
  · rw[List.getElem?_eq_none h];exact hz
 refine⟨?_,hv,⟨q1.1,show op<=255 from by omega⟩,hg 0,hg 1,hg 2,hg 3⟩;have hx:∃ ys,rq (nO op xs)=xs ++ ys:=by
  simp only[nO,rq];rw[← q2]at hl
  match xs,hl with
  | [],_=>exact⟨_,rfl⟩
  | [_],_=>exact⟨[0,0,0],rfl⟩
  | [_,_],_=>exact⟨[0,0],rfl⟩
  | [_,_,_],_=>exact⟨[0],rfl⟩
  | [_,_,_,_],_=>exact⟨[],rfl⟩
  |_ :: _ :: _ :: _ :: _ :: _,h=>simp at h
 obtain⟨ys,hy⟩:=hx
 show(ae op 1 ++ wX (je op) (rq (nO op xs))) ++ _=_
 rw[hy,JP _ _ _ q2,List.append_assoc]
theorem JR {b:List Int} {l:List Ins} (hb:aS b) (h:dQ b=some l):wA l=b/\l.length<=65536/\∀ i∈l,i.bR=true/\zF i:=by
 unfold dQ at h;split at h
 case h_1=>cases h
 rename_i n r e1;obtain⟨rfl,q1⟩:=dP 4 (by decide) _ _ _ hb e1;split at h
 · cases h
 split at h
 case h_2=>cases h
 rename_i hn l' e2;obtain rfl:=Option.some.inj h;obtain⟨rfl,q2,q3⟩:=vV JQ _ _ _ _ (bU hb rfl) e2;have hl:(l'.length:Int)=n:=by omega
 exact⟨by simp only[wA,hl,List.append_nil],by omega,q3⟩
end
section
open Go.RowKit
def Closed (ops:Array Oper) (L:Array Bool):Prop:=L.size=ops.size/\∀ (j:Nat) (o:Oper),ops[j]? = some o->L.getD j false=true->∀ e∈o.after,Region.binds .any e=true->L.getD e.on false=true
section
variable {P:Program} {pre:List Oper} {o:Oper} {Q:Exit->Act->World->Prop}
theorem Closed.set {L:Array Bool} {i:Nat} (hc:Closed (pre ++ [o]).toArray L) (hr:i∈Region.ready .any (pre ++ [o]).toArray L):Closed (pre ++ [o]).toArray (L.setIfInBounds i true):=by
 refine⟨by simpa using hc.1,λj oj hj hl e he hb => ?_⟩;by_cases hij:i=j
 · subst hij;obtain⟨_,ox,hox,hall⟩:=mem_ready.1 hr;rw[hj]at hox;cases hox;exact getD_set_true (hall e he hb)
 · rw[getD_set_ne false hij]at hl;exact getD_set_true (hc.2 j oj hj hl e he hb)
end
end
end Go.Proofs.YtadecgbblajifaaGreatDoor
