import Derived.WalkKit
import Derived.WalkSpells
import Derived.WalkLawsBesides
import Derived.Laws.EntriesVeiled
import Derived.Deep.QuietTactic
import Derived.BigQuiet
import Derived.Test.YtadecgbblajifaaGreatDoorRows
import Derived.Lib.Hide
set_option linter.unusedSimpArgs false
set_option linter.unusedVariables false
set_option linter.unusedSectionVars false
set_option maxRecDepth 100000
set_option maxHeartbeats 25600000
namespace Go.Proofs.YtadecgbblajifaaGreatDoor
section
open Go.RowKit
structure Mv (O:Nat->Prop) (w w':World):Prop where
 os:w'.os=w.os
 tape:w'.tape=w.tape
 output:w'.output=w.output
 size:w.heap.size<=w'.heap.size
 block:∀ b,b<w.heap.size->¬ O b->w'.heap[b]? = w.heap[b]?
theorem Mv.refl (O:Nat->Prop) (w:World):Mv O w w:=⟨rfl,rfl,rfl,Nat.le_refl _,λ_ _ _=>rfl⟩
theorem Mv.trans {O O1:Nat->Prop} {a b c:World} (h:Mv O a b) (k:Mv O1 b c) (hs:∀ x,O1 x->O x\/a.heap.size<=x):Mv O a c :=
 ⟨k.os.trans h.os,k.tape.trans h.tape,k.output.trans h.output,Nat.le_trans h.size k.size,λi hi hn =>
  (k.block i (Nat.lt_of_lt_of_le hi h.size) (λe=>by rcases hs i e with h1|h1;exact hn h1;omega)).trans (h.block i hi hn)⟩
theorem Mv.mono {O O1:Nat->Prop} {a b:World} (h:Mv O a b) (hs:∀ x,O x->O1 x\/a.heap.size<=x):Mv O1 a b :=
 ⟨h.os,h.tape,h.output,h.size,λi hi hn=>h.block i hi (λe=>by rcases hs i e with h1|h1;exact hn h1;omega)⟩
theorem Mv.alloc {O:Nat->Prop} {a w:World} (h:Mv O a w) (o:Obj):Mv O a (w.alloc o) :=
 h.trans (O1:=λ_=>False) ⟨rfl,rfl,rfl,by simp,λk hk _=>Below.heap_alloc w o k hk⟩ (λ_ e=>e.elim)
theorem Mv.drew {O:Nat->Prop} {a w:World} (h:Mv O a w):Mv O a w.drew:=⟨h.os,h.tape,h.output,h.size,h.block⟩
theorem Mv.setCell {O:Nat->Prop} {a w:World} (h:Mv O a w) {p:Addr} (hp:O p.block\/a.heap.size<=p.block) (u:Value):Mv O a (w.setCell p u) :=
 h.trans (O1:=λx=>x=p.block) ⟨rfl,rfl,rfl,by simp,λk _ hn=>Below.heap_setCell _ _ _ _ hn⟩ (λx e=>by subst e;exact hp)
theorem Mv.grown {O:Nat->Prop} {a w w':World} {row:Option Nat} (h:Mv O a w) (hg:w.grownBy w' row) (hr:∀ k,row=some k->O k\/a.heap.size<=k):Mv O a w' :=
 h.trans (O1:=λx=>row=some x) ⟨hg.os,hg.tape,hg.output,hg.size,λk hk hn=>hg.block k hk (λe=>hn e.symm)⟩ (λx e=>hr x e)
theorem MZ {P:Program} (w:World) (base:Nat) (t ty e:TypeId) (i:TypeInfo) (z:Value) (size bytes:Nat) (ht:P.underlying t=some (.slice e)) (hi:P.info? e=some i) (hz:i.zero=some z)
 (hsize:i.size=size) (hby:i.bytes=bytes) (hzs:z.cells.size=size) (hsz:0<size)
 (v:Value) (n:Nat) (xs:List Value) (hown:w.ownsRow base e size v n xs)
 (a:Addr) (m c:Nat) (news:List Value) (hl:news.length=m * size) (hnews:∀ j u,news[j]? = some u->w.cell? (a.add j)=some u) (h1:∀ u∈news,u.oneCell'=true)
 (h63:n+m<=maxLen) (hbytes:(n+m) * bytes<=140737488355328) (hbase:base<=w.heap.size) :
 ∃ v' w',(Builtin.append_ #[t,t] ty #[v,.slice (some a) m c]).run P w = .ok v' w'/\w'.ownsRow base e size v' (n+m) (xs ++ news)/\w.grownBy w' v.ownBlock /\
  (v' = .slice none 0 0↔v = .slice none 0 0/\m=0)/\(∀ g,v'.ownBlock=some g->v.ownBlock=some g\/w.heap.size<=g):=by
 obtain⟨v',w',hr,h2,h3,h4⟩:=run_append_own (P:=P) w base t ty e i z size bytes ht hi hz hsize hby hzs hsz v n xs hown a m c news hl hnews h1 h63 hbytes hbase
 refine⟨v',w',hr,h2,h3,h4,?_⟩
 rcases hown.2 with⟨rfl,rfl⟩|⟨g,cap,cur,rfl,hbg,hg,hnc,hcm,hcs,htake⟩
 · have hx:xs=[]:=List.eq_nil_of_length_eq_zero (by simpa using hown.1)
   subst hx
   obtain⟨v2,w2,hr2,h22,_⟩:=run_append_own (P:=P) w w.heap.size t ty e i z size bytes ht hi hz hsize hby hzs hsz (.slice none 0 0) 0 [] (World.ownsRow_nil _ _ _ _) a m c news hl hnews h1 h63 hbytes (Nat.le_refl _)
   rw[hr]at hr2
   simp only[Result.ok.injEq]at hr2
   obtain⟨rfl,rfl⟩:=hr2
   exact λg hg => .inr (h22.lt g hg).1
 · subst hsize
   by_cases hroom:n+m<=cap
   · have hfit:n * i.size+news.length<=cur.size:=by rw[hl,hcs,← Nat.add_mul];exact Nat.mul_le_mul_right _ hroom
     have hr2:=run_append_room (P:=P) w t ty e i ht hi g n cap cur hg a m c news hl hnews h1 hroom hfit
     rw[hr]at hr2
     simp only[Result.ok.injEq]at hr2
     obtain⟨rfl,rfl⟩:=hr2
     exact λg' hg' => .inl (by simpa[Value.ownBlock]using hg')
   · have holds:∀ j u,xs[j]? = some u->w.cell? ((⟨g,0,none⟩:Addr).add j)=some u:=hown.cells (g:=g) rfl
     subst hby
     have hsmall:n+m<=9223372036854775807:=by simp only[maxLen]at h63;omega
     have hr2:=run_append_grow (P:=P) w t ty e i z ht hi hz ⟨g,0,none⟩ n cap xs hown.1 holds a m c news hl hnews (by omega) (by omega) (growslice_fits (by omega) hbytes)
     rw[hr]at hr2
     simp only[Result.ok.injEq]at hr2
     obtain⟨rfl,rfl⟩:=hr2
     exact λg' hg' => .inr (by simp[Value.ownBlock]at hg';omega)
noncomputable def tX (P:Program) (t ty:TypeId) (v s:Value) (w:World):Value :=
 match (Builtin.append_ #[t,t] ty #[v,s]).run P w with
 |.ok x _=>x
 |_=>undef
noncomputable def appW (P:Program) (t ty:TypeId) (v s:Value) (w:World):World :=
 match (Builtin.append_ #[t,t] ty #[v,s]).run P w with
 |.ok _ y=>y
 |_=>w
def yG (P:Program) (t ty:TypeId) (v s:Value) (w:World):Prop:=∃ x y,(Builtin.append_ #[t,t] ty #[v,s]).run P w = .ok x y
theorem aap {P:Program} {t ty:TypeId} {v s:Value} {w:World} (h:yG P t ty v s w):(Builtin.append_ #[t,t] ty #[v,s]).run P w = .ok (tX P t ty v s w) (appW P t ty v s w):=by
 obtain⟨x,y,h⟩:=h
 simp only[tX,appW,h]
theorem qH {P:Program} {ρ:Operand->Value} {d:Option Tmp} {s x:Operand} {t ty:TypeId} {pos:String} {af:Array Edge} {gd:Option (Nat × Bool)} {w:World} (h:yG P t ty (ρ s) (ρ x) w) :
 (execOp ρ { dst:=d,op := .call { callee := .builtin .append,args:=#[s,x],argTypes:=#[t,t] },type:=ty,pos:=pos,after:=af,guard:=gd }).run P w = .ok (.value (tX P t ty (ρ s) (ρ x) w)) (appW P t ty (ρ s) (ρ x) w):=by
 have hr:=aap h
 unfold execOp
 simp only[resolve,invoke,builtin,Sem.run_bind,Sem.run_pure,Result.andThen_ok,List.map_toArray,List.map_cons,List.map_nil,hr]
theorem JG {P:Program} {t ty:TypeId} {v s x:Value} {w y:World} (h:(Builtin.append_ #[t,t] ty #[v,s]).run P w = .ok x y):yG P t ty v s w/\tX P t ty v s w=x/\appW P t ty v s w=y :=
 ⟨⟨x,y,h⟩,by simp only[tX,h],by simp only[appW,h]⟩
structure Ins where
 op:Int
 a:Int
 b:Int
 c:Int
 d:Int
def Ins.cells (i:Ins):List Value:=[.int .u8 i.op,.int .i64 i.a,.int .i64 i.b,.int .i64 i.c,.int .i64 i.d]
abbrev Ins.val (i:Ins):Value := .agg #[.int .u8 i.op,.int .i64 i.a,.int .i64 i.b,.int .i64 i.c,.int .i64 i.d]
def l9 (op:Int):Bool:=op == 22 || (op == 23 || op == 24)
def ny (op:Int):Bool:=op == 25 || (op == 26 || op == 27)
def Cn (op:Int):Bool:=op == 22 || (op == 25 || (op == 30 || (op == 31 || (op == 32 || op == 33))))
def Co (op:Int):Bool:=op == 23 || (op == 24 || (op == 26 || op == 27))
def Ins.target (i:Ins):Int:=if Cn i.op then i.a else if Co i.op then i.b else 0
def Ins.Fb (i:Ins):Bool:=Cn i.op || Co i.op
def Ins.xU (i:Ins) (t:Int):Ins:=if Cn i.op then { i with a:=t }else if Co i.op then { i with b:=t }else i
theorem ax {a b:Bool} (h:a=b):Ending.returned (.bool a) = .returned (.bool b):=by rw[h]
theorem fC {k:IntKind} {a b:Int} (h:a=b):Ending.returned (.int k a) = .returned (.int k b):=by rw[h]
set_option maxHeartbeats 400000 in
theorem NH (op:Int) (w:World):Calls Tryz.prog 126 #[.int .u8 op] w λe w'=>e = .returned (.bool (l9 op))/\w=w':=by
 go_enter Tryz.func126,Tryz.ntmps126
 go_wp2
 all_goals (go_ret;exact⟨ax (by unfold l9;simp_all),rfl⟩)
set_option maxHeartbeats 400000 in
theorem Nc (op:Int) (w:World):Calls Tryz.prog 127 #[.int .u8 op] w λe w'=>e = .returned (.bool (ny op))/\w=w':=by
 go_enter Tryz.func127,Tryz.ntmps127
 go_wp2
 all_goals (go_ret;exact⟨ax (by unfold ny;simp_all),rfl⟩)
set_option maxHeartbeats 800000 in
theorem Ib (i:Ins) (w:World):Calls Tryz.prog 128 #[i.val] w λe w'=>e = .returned (.tuple #[.int .i64 i.target,.bool i.Fb])/\Mv (λ_=>False) w w':=by
 obtain⟨op,a,b,c,d⟩:=i
 have HM:=Lib.hid ((Mv.refl (λ_=>False) w).alloc (.cells #[.int .u8 op,.int .i64 a,.int .i64 b,.int .i64 c,.int .i64 d] 69))
 go_enter Tryz.func128,Tryz.ntmps128
 go_wp2
 all_goals (go_ret2;refine⟨?_,HM.out⟩;simp_all [Ins.target,Ins.Fb,Cn,Co])
set_option maxHeartbeats 1600000 in
theorem Xr (i:Ins) (t:Int) (w:World):Calls Tryz.prog 196 #[i.val,.int .i64 t] w λe w'=>e = .returned (i.xU t).val/\Mv (λ_=>False) w w':=by
 obtain⟨op,a,b,c,d⟩:=i
 go_enter Tryz.func196,Tryz.ntmps196
 go_wp2
 all_goals
  refine bodyPost_ret (v:=(Ins.xU ⟨op,a,b,c,d⟩ t).val) ?_ rfl ⟨rfl,?_⟩
  · simp_all [results,Tryz.results196,go_sem,Ins.xU,Cn,Co]
  · exact((Mv.refl _ _).alloc _).alloc _
def ky (x:Int):Bool:=decide (0<=x) && decide (x<16)
def wJ (x:Int):Bool:=decide (0<=x) && decide (x<=16384)
def Fe (x:Int):Bool:=decide (0<=x) && decide (x<65536)
def KW (x:Int):Bool:=decide (8<=x) && decide (x<=23)
theorem Xt (x:Int) (w:World):Calls Tryz.prog 122 #[.int .i64 x] w λe w'=>e = .returned (.bool (ky x))/\w=w':=by
 go_enter Tryz.func122,Tryz.ntmps122
 go_wp2
 all_goals (go_ret;exact⟨ax (by unfold ky;simp_all <;> omega),rfl⟩)
theorem Yc (x:Int) (w:World):Calls Tryz.prog 124 #[.int .i64 x] w λe w'=>e = .returned (.bool (wJ x))/\w=w':=by
 go_enter Tryz.func124,Tryz.ntmps124
 go_wp2
 all_goals (go_ret;exact⟨ax (by unfold wJ;simp_all <;> omega),rfl⟩)
theorem YW (x:Int) (w:World):Calls Tryz.prog 125 #[.int .i64 x] w λe w'=>e = .returned (.bool (Fe x))/\w=w':=by
 go_enter Tryz.func125,Tryz.ntmps125
 go_wp2
 all_goals (go_ret;exact⟨ax (by unfold Fe;simp_all <;> omega),rfl⟩)
theorem Xu (x:Int) (w:World):Calls Tryz.prog 123 #[.int .i64 x] w λe w'=>e = .returned (.bool (KW x))/\w=w':=by
 go_enter Tryz.func123,Tryz.ntmps123
 go_wp2
 all_goals (go_ret;exact⟨ax (by unfold KW;simp_all <;> omega),rfl⟩)
def kP:List Int:=[0,2,2,2,2,2,2,2,1,4,2,4,2,2,2,2,2,1,1,1,1,2,1,2,2,1,2,2,2,2,1,1,1,1,0]
def cZ (w:World):Prop:=∀ k,k<35->w.cell? ⟨0,k * 2+1,none⟩=some (.int .i64 (kP.getD k 0))
theorem cZ.later {w w':World} (h:cZ w) (hm:Mv (λ_=>False) w w'):cZ w':=λk hk=>by
 have h1:=h k hk
 rw[← h1]
 exact World.cell?_of_block (w:=w) (w':=w') (hm.block _ (World.block_lt_of_cell? w _ h1) (λh=>h))
def unused (n:Int) (i:Ins):Bool:=(decide (0<n) || i.a == 0) && ((decide (1<n) || i.b == 0) && ((decide (2<n) || i.c == 0) && (decide (3<n) || i.d == 0)))
def JH (i:Ins):Bool :=
 if i.op=1\/i.op=2\/i.op=3 then(ky i.a && ky i.b) && i.a != i.b
 else if i.op=7 then ky i.a && ky i.b
 else if i.op=4\/i.op=5\/i.op=6\/i.op=8\/i.op=17\/i.op=18\/i.op=19\/i.op=20 then ky i.a
 else if i.op=9 then((((ky i.a && ky i.b) && ky i.c) && i.a != i.b) && i.a != i.c) && KW i.d
 else if i.op=10\/i.op=12\/i.op=13\/i.op=14\/i.op=15 then ky i.a && wJ i.b
 else if i.op=11 then(((ky i.a && ky i.b) && i.a != i.b) && wJ i.c) && wJ i.d
 else if i.op=16\/i.op=28\/i.op=29 then wJ i.a && wJ i.b
 else if i.op=21 then(ky i.a && decide (1<=i.b)) && decide (i.b<=23)
 else if i.op=22\/i.op=25\/i.op=30\/i.op=31\/i.op=32\/i.op=33 then Fe i.a
 else if i.op=23\/i.op=24\/i.op=26\/i.op=27 then ky i.a && Fe i.b
 else true
def Ins.gF (i:Ins):Bool:=decide (i.op<35) && (unused (kP.getD i.op.toNat 0) i && JH i)
def jX (n:Int) (i:Ins) (k:Nat):Prop:=(0<k->n<=0->i.a=0)/\(1<k->n<=1->i.b=0)/\(2<k->n<=2->i.c=0)/\(3<k->n<=3->i.d=0)
theorem jX.all {n:Int} {i:Ins} (h:jX n i 4):unused n i=true:=by
 obtain⟨h1,h2,h3,h4⟩:=h
 simp only[unused,Bool.and_eq_true,Bool.or_eq_true,decide_eq_true_eq,beq_iff_eq]
 refine⟨?_,?_,?_,?_⟩ <;> omega
theorem Yd {n:Int} {i:Ins} (h:n<=0) (hx:(i.a != 0)=true):unused n i=false:=by
 have h1:¬ 0<n:=by omega
 have h2:(i.a == 0)=false:=by simpa using hx
 simp[unused,h1,h2]
theorem jX.step0 {n:Int} {i:Ins} (h:jX n i 0) (hx:n<=0->i.a=0):jX n i 1:=by
 obtain⟨h1,h2,h3,h4⟩:=h
 refine⟨λ_ => ?_,λ_ => ?_,λ_ => ?_,λ_ => ?_⟩ <;> first|exact hx|(exact h1 (by omega))|(exact h2 (by omega))|(exact h3 (by omega))|omega
theorem Ye {n:Int} {i:Ins} (h:n<=1) (hx:(i.b != 0)=true):unused n i=false:=by
 have h1:¬ 1<n:=by omega
 have h2:(i.b == 0)=false:=by simpa using hx
 simp[unused,h1,h2]
theorem jX.step1 {n:Int} {i:Ins} (h:jX n i 1) (hx:n<=1->i.b=0):jX n i 2:=by
 obtain⟨h1,h2,h3,h4⟩:=h
 refine⟨λ_ => ?_,λ_ => ?_,λ_ => ?_,λ_ => ?_⟩ <;> first|exact hx|(exact h1 (by omega))|(exact h2 (by omega))|(exact h3 (by omega))|omega
theorem Yf {n:Int} {i:Ins} (h:n<=2) (hx:(i.c != 0)=true):unused n i=false:=by
 have h1:¬ 2<n:=by omega
 have h2:(i.c == 0)=false:=by simpa using hx
 simp[unused,h1,h2]
theorem jX.step2 {n:Int} {i:Ins} (h:jX n i 2) (hx:n<=2->i.c=0):jX n i 3:=by
 obtain⟨h1,h2,h3,h4⟩:=h
 refine⟨λ_ => ?_,λ_ => ?_,λ_ => ?_,λ_ => ?_⟩ <;> first|exact hx|(exact h1 (by omega))|(exact h2 (by omega))|(exact h3 (by omega))|omega
theorem Yg {n:Int} {i:Ins} (h:n<=3) (hx:(i.d != 0)=true):unused n i=false:=by
 have h1:¬ 3<n:=by omega
 have h2:(i.d == 0)=false:=by simpa using hx
 simp[unused,h1,h2]
theorem jX.acd {n:Int} {i:Ins} (h:jX n i 3) (hx:n<=3->i.d=0):jX n i 4:=by
 obtain⟨h1,h2,h3,h4⟩:=h
 refine⟨λ_ => ?_,λ_ => ?_,λ_ => ?_,λ_ => ?_⟩ <;> first|exact hx|(exact h1 (by omega))|(exact h2 (by omega))|(exact h3 (by omega))|omega
set_option maxRecDepth 100000 in
set_option maxHeartbeats 4000000 in
theorem Io (i:Ins) (w:World) (ht:cZ w) (h0:0<=i.op) (h1:i.op<=255):Calls Tryz.prog 83 #[i.val] w λe w'=>e = .returned (.bool i.gF)/\Mv (λ_=>False) w w':=by
 obtain⟨op,a,b,c,d⟩:=i
 simp only at h0 h1
 obtain⟨o,rfl⟩:∃ o:Nat,op=o:=⟨op.toNat,by omega⟩
 have HM:=Lib.hid ((Mv.refl (λ_=>False) w).alloc (.cells #[.int .u8 o,.int .i64 a,.int .i64 b,.int .i64 c,.int .i64 d] 69))
 by_cases hbig:(o:Int)<35
 · have hlt:o<35:=by omega
   have hcell:=ht o hlt
   have HV:=Lib.hid (show ∀ q:Int,q=o->Ins.gF ⟨q,a,b,c,d⟩=(unused (kP.getD o 0) ⟨o,a,b,c,d⟩ && JH ⟨q,a,b,c,d⟩)from by rintro q rfl;simp[Ins.gF,hbig])
   generalize kP.getD o 0=n at *
   have hG:0<w.heap.size:=World.block_lt_of_cell? w _ hcell
   clear ht
   have x0:∀ w,(Instr.index 98 (.agg #[.int .i64 a,.int .i64 b,.int .i64 c,.int .i64 d]) (.int .i64 0)).run Tryz.prog w = .ok (.int .i64 a) w:=λ_=>by kernel_rfl
   have x1:∀ w,(Instr.index 98 (.agg #[.int .i64 a,.int .i64 b,.int .i64 c,.int .i64 d]) (.int .i64 1)).run Tryz.prog w = .ok (.int .i64 b) w:=λ_=>by kernel_rfl
   have x2:∀ w,(Instr.index 98 (.agg #[.int .i64 a,.int .i64 b,.int .i64 c,.int .i64 d]) (.int .i64 2)).run Tryz.prog w = .ok (.int .i64 c) w:=λ_=>by kernel_rfl
   have x3:∀ w,(Instr.index 98 (.agg #[.int .i64 a,.int .i64 b,.int .i64 c,.int .i64 d]) (.int .i64 3)).run Tryz.prog w = .ok (.int .i64 d) w:=λ_=>by kernel_rfl
   go_enter Tryz.func83,Tryz.ntmps83
   go_wp2
   go_loop [17] (λt=>∃ k:Nat,k<=4/\t = .int .i64 k/\Hid (jX n ⟨o,a,b,c,d⟩ k)) (λt=>4 - (intOf t).toNat)
   case atStart=>exact⟨0,by omega,rfl,Lib.hid (by simp[jX])⟩
   case round =>
    obtain⟨k,hk,rfl,hu⟩:=hrel
    obtain rfl|rfl|rfl|rfl|rfl:k=0\/k=1\/k=2\/k=3\/k=4:=by omega
    · go_wp2
      all_goals first
       |(go_ret;exact⟨ax (by rw[HV.out _ rfl,Yd (by assumption) (by assumption)];rfl),HM.out⟩)
       |exact⟨⟨1,by omega,rfl,Lib.hid (hu.out.step0 (by simp_all <;> omega))⟩,by simp[intOf]⟩
    · go_wp2
      all_goals first
       |(go_ret;exact⟨ax (by rw[HV.out _ rfl,Ye (by assumption) (by assumption)];rfl),HM.out⟩)
       |exact⟨⟨2,by omega,rfl,Lib.hid (hu.out.step1 (by simp_all <;> omega))⟩,by simp[intOf]⟩
    · go_wp2
      all_goals first
       |(go_ret;exact⟨ax (by rw[HV.out _ rfl,Yf (by assumption) (by assumption)];rfl),HM.out⟩)
       |exact⟨⟨3,by omega,rfl,Lib.hid (hu.out.step2 (by simp_all <;> omega))⟩,by simp[intOf]⟩
    · go_wp2
      all_goals first
       |(go_ret;exact⟨ax (by rw[HV.out _ rfl,Yg (by assumption) (by assumption)];rfl),HM.out⟩)
       |exact⟨⟨4,by omega,rfl,Lib.hid (hu.out.acd (by simp_all <;> omega))⟩,by simp[intOf]⟩
    · have HU:=Lib.hid hu.out.all
      clear hu hcell x0 x1 x2 x3
      rcases(show o=0\/o=1\/o=2\/o=3\/o=4\/o=5\/o=6\/o=7\/o=8\/o=9\/o=10\/o=11\/o=12\/o=13\/o=14\/o=15\/o=16\/o=17\/o=18\/o=19\/o=20\/o=21\/o=22\/o=23\/o=24\/o=25\/o=26\/o=27\/o=28\/o=29\/o=30\/o=31\/o=32\/o=33\/o=34 by omega)with rfl|rfl|rfl|rfl|rfl|rfl|rfl|rfl|rfl|rfl|rfl|rfl|rfl|rfl|rfl|rfl|rfl|rfl|rfl|rfl|rfl|rfl|rfl|rfl|rfl|rfl|rfl|rfl|rfl|rfl|rfl|rfl|rfl|rfl|rfl
      all_goals
       go_wp2_with (first
        |(go_at_call 122;refine(Xt _ _).mono ?_;rintro e w' ⟨rfl,rfl⟩)
        |(go_at_call 124;refine(Yc _ _).mono ?_;rintro e w' ⟨rfl,rfl⟩)
        |(go_at_call 125;refine(YW _ _).mono ?_;rintro e w' ⟨rfl,rfl⟩)
        |(go_at_call 123;refine(Xu _ _).mono ?_;rintro e w' ⟨rfl,rfl⟩))
       all_goals (go_ret;exact⟨ax (by rw[HV.out _ (by omega),HU.out];simp_all [JH] <;> omega),(Mv.refl _ _).alloc _⟩)
 · have hb2:¬ o<35:=by omega
   have hb3:(35:Int)<=o:=by omega
   have hd1:decide ((35:Int)<=o)=true:=by simpa using hb3
   have hd2:decide ((o:Int)<35)=false:=by simpa using hb3
   go_enter Tryz.func83,Tryz.ntmps83
   go_wp2
   go_ret
   exact⟨ax (by simp[Ins.gF];omega),HM.out⟩
end
section
open Go.RowKit Go.Instr
def lU (w:World) (r:Nat) (o:Obj):World := { w with heap:=w.heap.setIfInBounds r o }
theorem bytes_beq (a b:ByteArray):(a == b)=decide (a=b):=by
 cases a with|mk x=>cases b with|mk y =>
 show(x == y)=_
 by_cases h:x=y
 · subst h;simp
 · have h1:(x == y)=false:=by simpa using h
   have h2:¬ (⟨x⟩:ByteArray)=⟨y⟩:=λe=>h (by simpa using congrArg ByteArray.data e)
   simp[h1,h2]
instance:LawfulBEq ByteArray where
 eq_of_beq:=by intro a b h;rw[bytes_beq]at h;exact of_decide_eq_true h
 rfl:=by intro a;rw[bytes_beq];simp
theorem Ip {P:Program} {w:World} {r:Nat} {es:Array MapEntry} {c:Nat} (hb:w.heap[r]? = some (.map es c)):(getObj r).run P w = .ok (.map es c) w:=by simp[getObj,Sem.run,hb]
theorem YX {P:Program} {w:World} {r:Nat} {es:Array MapEntry} {c:Nat} (o':Obj) (hb:w.heap[r]? = some (.map es c)):(setObj r o').run P w = .ok () (lU w r o'):=by simp[setObj,Sem.run,hb,lU]
structure KeyLaw (P:Program) (K:TypeId) {κ:Type} [BEq κ] [LawfulBEq κ] (enc:κ->Value) (desc:TypeDesc):Prop where
 hu:P.underlying K=some desc
 same:∀ a b:κ,sameNow desc (enc a) (enc b)=some (a == b)
 check:∀ (e:Bool) (n:Nat) (a:κ) (w:World),(checkKey e (n+1) K (enc a)).run P w = .ok () w
 bits:∀ a:κ,sameBits 10000 (enc a) (enc a)=true
theorem aaq {P:Program} {K:TypeId} (hu:P.underlying K=some .string):KeyLaw P K Value.string .string:=by
 refine⟨hu,λa b=>rfl,λe n a w => ?_,λa=>by simp[sameBits]⟩
 simp[checkKey,run_underlying hu]
theorem aar {P:Program} {K:TypeId} (hu:P.underlying K=some (.int .i64)):KeyLaw P K (Value.int .i64) (.int .i64):=by
 refine⟨hu,λa b=>by simp[sameNow],λe n a w => ?_,λa=>by simp[sameBits]⟩
 simp[checkKey,run_underlying hu]
section
variable {κ:Type} [BEq κ] [LawfulBEq κ]
def iB (k:κ):List (κ × Value)->Nat->Option (Nat × Value)
 | [],_=>none
 |(a,x) :: l,i=>if k == a then some (i,x)else iB k l (i+1)
def BJ (l:List (κ × Value)) (k:κ):Option Value:=(iB k l 0).map (·.2)
def kC (k:κ) (v:Value):List (κ × Value)->List (κ × Value)
 | []=>[(k,v)]
 |(a,x) :: l=>if k == a then(k,v) :: l else(a,x) :: kC k v l
def iV (enc:κ->Value) (l:List (κ × Value)) (es:List MapEntry):Prop:=es.map (λe=>(e.key,e.val))=l.map (λp=>(enc p.1,p.2))
theorem iV.cons {enc:κ->Value} {p:κ × Value} {l:List (κ × Value)} {es:List MapEntry} (h:iV enc (p :: l) es):∃ e r,es=e :: r/\e.key=enc p.1/\e.val=p.2/\iV enc l r:=by
 cases es with
 |nil=>simp[iV]at h
 |cons e r=>simp[iV]at h;exact⟨e,r,rfl,h.1.1,h.1.2,by simpa[iV]using h.2⟩
theorem O9 {P:Program} {K:TypeId} {enc:κ->Value} {desc:TypeDesc} (L:KeyLaw P K enc desc) (k:κ):∀ (l:List (κ × Value)) (es:List MapEntry) (i:Nat),iV enc l es->findNow desc (enc k) es i=some (iB k l i)
 | [],es,i,h=>by
  have:es=[]:=by simpa[iV]using h
  subst this;rfl
 |(a,x) :: l,es,i,h=>by
  obtain⟨e,r,rfl,h1,h2,h3⟩:=h.cons
  simp only[findNow,h1,L.same,iB]
  cases hka:k == a
  · simp only[Bool.false_eq_true,if_false];exact O9 L k l r (i+1) h3
  · simp only[if_true,h2]
theorem DD (k:κ):∀ (l:List (κ × Value)) (i j:Nat) (v:Value),iB k l i=some (j,v)->i<=j/\j<i+l.length
 | [],i,j,v,h=>by simp[iB]at h
 |(a,x) :: l,i,j,v,h=>by
  simp only[iB]at h
  split at h
  · simp at h;obtain⟨rfl,_⟩:=h;simp
  · have:=DD k l (i+1) j v h;simp;omega
def MapAt (enc:κ->Value) (w:World) (r:Nat) (l:List (κ × Value)):Prop :=
 ∃ es clock,w.heap[r]? = some (.map es clock)/\iV enc l es.toList/\(∀ e∈es.toList,e.born<clock)/\(es.toList.map (·.born)).Nodup
theorem MapAt.lt {enc:κ->Value} {w:World} {r:Nat} {l:List (κ × Value)} (h:MapAt enc w r l):r<w.heap.size:=by
 obtain⟨es,clock,hb,_⟩:=h
 rcases Nat.lt_or_ge r w.heap.size with h' | h'
 · exact h'
 · rw[Array.getElem?_eq_none h']at hb;cases hb
theorem MapAt.keep {enc:κ->Value} {w w':World} {r:Nat} {l:List (κ × Value)} (h:MapAt enc w r l) (hw:w'.heap[r]? = w.heap[r]?):MapAt enc w' r l:=by
 obtain⟨es,clock,hb,rest⟩:=h
 exact⟨es,clock,by rw[hw];exact hb,rest⟩
theorem MapAt.new (enc:κ->Value) (w:World):MapAt enc (w.alloc (.map #[] 0)) w.heap.size []:=⟨#[],0,heap_alloc_new w _,by simp[iV],by simp,by simp⟩
theorem Mv.lU (w:World) (r:Nat) (o:Obj):Mv (λb=>b=r) w (lU w r o):=by
 refine⟨rfl,rfl,rfl,by simp[YtadecgbblajifaaGreatDoor.lU],λb _ hne => ?_⟩
 have:r≠b:=λe=>hne e.symm
 simp[YtadecgbblajifaaGreatDoor.lU,this]
theorem Qk (w:World) (r:Nat) (o:Obj) (h:r<w.heap.size):(lU w r o).heap[r]? = some o:=by simp[lU,h]
variable {P:Program} {K T E:TypeId} {enc:κ->Value} {desc:TypeDesc} {w:World} {r:Nat} {l:List (κ × Value)}
theorem run_findKey (L:KeyLaw P K enc desc) (k:κ) {es:Array MapEntry} (h:iV enc l es.toList):(findKey K (enc k) es.toList).run P w = .ok (iB k l 0) w:=by
 simp only[findKey,Sem.run_bind,run_underlying L.hu,Result.andThen_ok,O9 L k l es.toList 0 h,Sem.run_pure]
theorem run_get (L:KeyLaw P K enc desc) (ht:P.underlying T=some (.map K E)) (k:κ) (z:Value) (hz:∀ w,(zeroValue E).run P w = .ok z w) (h:MapAt enc w r l) :
 (lookup T (.map (some r)) (enc k) false).run P w = .ok ((BJ l k).getD z) w:=by
 obtain⟨es,clock,hb,he,_⟩:=h
 unfold lookup
 simp only[Sem.run_bind,run_underlying ht,Result.andThen_ok,Ip hb,Sem.run_pure,L.check,run_findKey L k he]
 unfold BJ
 cases iB k l 0 with
 |none=>simp[hz]
 |some p=>simp
theorem Hu (k:κ) (v:Value):∀ (l:List (κ × Value)) (es:List MapEntry) (i j:Nat) (x:Value),iV enc l es->iB k l i=some (j,x)->iV enc (kC k v l) (es.modify (j - i) λe => { e with key:=enc k,val:=v })
 | [],es,i,j,x,_,h=>by simp[iB]at h
 |(a,y) :: l,es,i,j,x,he,h=>by
  obtain⟨e,r,rfl,h1,h2,h3⟩:=he.cons
  simp only[iB]at h
  simp only[kC]
  cases hka:k == a
  · simp only[hka,Bool.false_eq_true,if_false]at h ⊢
    have hge:=(DD k l (i+1) j x h).1
    have:=Hu k v l r (i+1) j x h3 h
    rw[show j - i=j - (i+1)+1 by omega,List.modify_succ_cons]
    simp[iV,h1,h2]at this ⊢
    exact this
  · simp only[hka,if_true]at h ⊢
    simp at h
    obtain⟨rfl,_⟩:=h
    simp[iV]at h3 ⊢
    exact h3
theorem Od (k:κ) (v:Value) (n:Nat):∀ (l:List (κ × Value)) (es:List MapEntry) (i:Nat),iV enc l es->iB k l i=none->iV enc (kC k v l) (es ++ [{ key:=enc k,val:=v,born:=n }])
 | [],es,i,he,_=>by
  have:es=[]:=by simpa[iV]using he
  subst this;simp[iV,kC]
 |(a,y) :: l,es,i,he,h=>by
  obtain⟨e,r,rfl,h1,h2,h3⟩:=he.cons
  simp only[iB]at h
  simp only[kC]
  cases hka:k == a
  · simp only[hka,Bool.false_eq_true,if_false]at h ⊢
    have:=Od k v n l r (i+1) h3 h
    simp[iV,h1,h2]at this ⊢
    exact this
  · simp[hka]at h
theorem run_set (L:KeyLaw P K enc desc) (ht:P.underlying T=some (.map K E)) (k:κ) (v:Value) (h:MapAt enc w r l) :
 ∃ w',(mapUpdate T (.map (some r)) (enc k) v).run P w = .ok () w'/\MapAt enc w' r (kC k v l)/\Mv (λb=>b=r) w w':=by
 have hlt:=h.lt
 obtain⟨es,clock,hb,he,hborn,hnd⟩:=h
 have hrun:∀ o,(setObj r o).run P w = .ok () (lU w r o):=λo=>YX o hb
 have hc:=L.check false 9999 k w
 cases hf:iB k l 0 with
 |none =>
  refine⟨lU w r (.map (es.push { key:=enc k,val:=v,born:=clock }) (clock+1)),?_,⟨_,_,Qk _ _ _ hlt,?_,?_,?_⟩,Mv.lU _ _ _⟩
  · unfold mapUpdate
    simp only[Sem.run_bind,run_underlying ht,Result.andThen_ok,Ip hb,hc,run_findKey L k he,hf,hrun]
  · simpa using Od k v clock l es.toList 0 he hf
  · intro e hm
    simp at hm
    rcases hm with hm|rfl
    · have:=hborn e (by simpa using hm);omega
    · simp
  · simp only[Array.toList_push,List.map_append,List.map_cons,List.map_nil]
    refine List.nodup_append.2 ⟨hnd,by simp,?_⟩
    intro a ha b hb'
    simp at hb'
    subst hb'
    obtain⟨e,hm,rfl⟩:=List.mem_map.1 ha
    have:=hborn e hm;omega
 |some p =>
  obtain⟨j,x⟩:=p
  have hj:=(DD k l 0 j x hf).2
  have hlen:es.toList.length=l.length:=by
   have:=congrArg List.length he
   simpa using this
  have hkey:((es[j]?).map (·.key)).getD (enc k)=enc k:=by
   have h1:=Hu (enc:=enc) k v l es.toList 0 j x he hf
   have hje:j<es.size:=by simp at hlen;omega
   have h2:=congrArg (λt=>t[j]?) he
   simp only[List.getElem?_map]at h2
   have hl:∀ (l:List (κ × Value)) (i:Nat),iB k l i=some (j,x)->∃ p,l[j - i]? = some p/\k=p.1:=by
    intro l
    induction l with
    |nil=>intro i h;simp[iB]at h
    |cons p l ih =>
     intro i h
     obtain⟨a,y⟩:=p
     simp only[iB]at h
     cases hka:k == a
     · simp only[hka,Bool.false_eq_true,if_false]at h
       have hge:=(DD k l (i+1) j x h).1
       obtain⟨p,h1,h2⟩:=ih (i+1) h
       exact⟨p,by rw[show j - i=j - (i+1)+1 by omega,List.getElem?_cons_succ];exact h1,h2⟩
     · simp only[hka,if_true]at h
       simp at h
       obtain⟨rfl,_⟩:=h
       exact⟨(a,y),by simp,by simpa using hka⟩
   obtain⟨p,h3,h4⟩:=hl l 0 hf
   simp only[Nat.sub_zero]at h3
   rw[h3]at h2
   have h5:es[j]? = some es[j]:=Array.getElem?_eq_getElem hje
   have h6:es.toList[j]? = some es[j]:=by simp
   rw[h6]at h2
   simp at h2
   rw[h5]
   simp[h2.1,h4]
  have hst:(keyThatStays (((es[j]?).map (·.key)).getD (enc k)) (enc k)).run P w = .ok (enc k) w:=by
   rw[hkey];simp[keyThatStays,L.bits]
  refine⟨lU w r (.map (es.modify j λe => { e with key:=enc k,val:=v }) clock),?_,⟨_,_,Qk _ _ _ hlt,?_,?_,?_⟩,Mv.lU _ _ _⟩
  · unfold mapUpdate
    simp only[Sem.run_bind,run_underlying ht,Result.andThen_ok,Ip hb,hc,run_findKey L k he,hf,hst,hrun]
  · have:=Hu (enc:=enc) k v l es.toList 0 j x he hf
    simpa[Array.toList_modify]using this
  · intro e hm
    rw[Array.toList_modify]at hm
    obtain⟨i,hi,rfl⟩:=List.mem_iff_getElem.1 hm
    rw[List.getElem_modify]
    have:=hborn (es.toList[i]'(by simpa using hi)) (List.getElem_mem _)
    split <;> exact this
  · have:(es.modify j λe => { e with key:=enc k,val:=v }).toList.map (·.born)=es.toList.map (·.born):=by
     rw[Array.toList_modify]
     apply List.ext_getElem?
     intro i
     simp only[List.getElem?_map,List.getElem?_modify]
     cases es.toList[i]? <;> simp
     split <;> rfl
    rw[this];exact hnd
end
def oh (c:Int):Bool:=decide (97<=c) && decide (c<=122)
def kD (c:Int):Bool:=decide (48<=c) && decide (c<=57)
def lV (c:Int):Bool:=oh c || kD c
def kX (c:Int):Bool:=((c == 32 || c == 9) || c == 13) || c == 10
def rQ (c:Int):Bool:=c != 10
theorem o5 (c:Int) (w:World):Calls Tryz.prog 129 #[.int .u8 c] w λe w'=>e = .returned (.bool (oh c))/\w=w':=by
 go_enter Tryz.func129,Tryz.ntmps129
 go_wp2
 all_goals (go_ret;exact⟨ax (by unfold oh;simp_all <;> omega),rfl⟩)
theorem o6 (c:Int) (w:World):Calls Tryz.prog 132 #[.int .u8 c] w λe w'=>e = .returned (.bool (kD c))/\w=w':=by
 go_enter Tryz.func132,Tryz.ntmps132
 go_wp2
 all_goals (go_ret;exact⟨ax (by unfold kD;simp_all <;> omega),rfl⟩)
theorem ve (c:Int) (w:World):Calls Tryz.prog 133 #[.int .u8 c] w λe w'=>e = .returned (.bool (kX c))/\w=w':=by
 go_enter Tryz.func133,Tryz.ntmps133
 go_wp2
 all_goals (go_ret;exact⟨ax (by unfold kX;simp_all),rfl⟩)
theorem Pb (c:Int) (w:World):Calls Tryz.prog 134 #[.int .u8 c] w λe w'=>e = .returned (.bool (rQ c))/\w=w':=by
 go_enter Tryz.func134,Tryz.ntmps134
 go_wp2
 all_goals (go_ret;exact⟨ax (by unfold rQ;simp_all),rfl⟩)
theorem Pd (c:Int) (w:World):Calls Tryz.prog 131 #[.int .u8 c] w λe w'=>e = .returned (.bool (lV c))/\w=w':=by
 go_enter Tryz.func131,Tryz.ntmps131
 go_wp2_with (first
  |(go_at_call 129;refine(o5 _ _).mono ?_;rintro e w' ⟨rfl,rfl⟩)
  |(go_at_call 132;refine(o6 _ _).mono ?_;rintro e w' ⟨rfl,rfl⟩))
 all_goals (go_ret;exact⟨ax (by unfold lV;simp_all),rfl⟩)
def jE (p:Int->Bool) (l:List UInt8):Nat:=(l.takeWhile λb=>p b.toNat).length
theorem DF (p:Int->Bool) (l:List UInt8) (k:Nat) (hk:k<l.length) (h:∀ j (hj:j<k),p (l[j].toNat)=true) (hn:p (l[k].toNat)=false):jE p l=k:=by
 induction l generalizing k with
 |nil=>simp at hk
 |cons b l ih =>
  cases k with
  |zero=>simp at hn;simp[jE,hn]
  |succ k =>
   have h0:=h 0 (by omega)
   simp at h0
   have:=ih k (by simpa using hk) (λj hj=>by have:=h (j+1) (by omega);simpa using this) (by simpa using hn)
   simp[jE,h0]at this ⊢
   exact this
theorem Dv (p:Int->Bool) (l:List UInt8) (h:∀ j (hj:j<l.length),p (l[j].toNat)=true):jE p l=l.length:=by
 induction l with
 |nil=>rfl
 |cons b l ih =>
  have h0:=h 0 (by simp)
  simp at h0
  have:=ih (λj hj=>by have:=h (j+1) (by simpa using hj);simpa using this)
  simp[jE,h0]at this ⊢
  exact this
def EB (p:Int->Bool) (s:ByteArray) (k:Nat):Prop:=∀ j (hj:j<s.size),j<k->p (s[j].toNat)=true
set_option maxHeartbeats 800000 in
theorem Oe (s:ByteArray) (w:World) (hs:s.size<=1000000000):Calls Tryz.prog 130 #[.string s,.func (.func 131) #[] #[]] w λe w'=>e = .returned (.int .i64 (jE lV s.data.toList))/\w=w':=by
 go_enter Tryz.func130,Tryz.ntmps130
 go_wp2_with fail
 go_loop [8] (λt=>∃ k:Nat,k<=s.size/\t = .int .i64 k/\Hid (EB lV s k)) (λt=>s.size - (intOf t).toNat)
 case atStart=>exact⟨0,Nat.zero_le _,rfl,Lib.hid (λj _ h=>by omega)⟩
 case round =>
  obtain⟨k,hk,rfl,hu⟩:=hrel
  by_cases hlt:k<s.size
  · by_cases hc:lV (s[k].toNat)=true
    · go_wp2_with fail
      refine(Pd _ _).mono ?_
      rintro e w' ⟨rfl,rfl⟩
      go_wp2_with fail
      go_round
      case rel=>exact⟨k+1,by omega,by go_num,Lib.hid (λj hj h=>by
       rcases Nat.lt_or_ge j k with h1|h1
       · exact hu.out j hj h1
       · obtain rfl:j=k:=by omega
         exact hc)⟩
      case measure=>simp[intOf];omega
    · have hc2:lV (s[k].toNat)=false:=by simpa using hc
      have HF:=Lib.hid (DF lV s.data.toList k (by simpa using hlt) (λj hj=>hu.out j (by omega) hj) hc2)
      go_wp2_with fail
      refine(Pd _ _).mono ?_
      rintro e w' ⟨rfl,rfl⟩
      go_wp2_with fail
      go_ret
      exact⟨fC (by rw[HF.out]),rfl⟩
  · have hge:s.size<=k:=by omega
    have HF:=Lib.hid (Dv lV s.data.toList (λj hj=>hu.out j (by simpa using hj) (Nat.lt_of_lt_of_le (by simpa using hj) hge)))
    go_wp2_with fail
    go_ret
    exact⟨fC (by rw[HF.out];simp),rfl⟩
set_option maxHeartbeats 800000 in
theorem Og (s:ByteArray) (w:World) (hs:s.size<=1000000000):Calls Tryz.prog 130 #[.string s,.func (.func 132) #[] #[]] w λe w'=>e = .returned (.int .i64 (jE kD s.data.toList))/\w=w':=by
 go_enter Tryz.func130,Tryz.ntmps130
 go_wp2_with fail
 go_loop [8] (λt=>∃ k:Nat,k<=s.size/\t = .int .i64 k/\Hid (EB kD s k)) (λt=>s.size - (intOf t).toNat)
 case atStart=>exact⟨0,Nat.zero_le _,rfl,Lib.hid (λj _ h=>by omega)⟩
 case round =>
  obtain⟨k,hk,rfl,hu⟩:=hrel
  by_cases hlt:k<s.size
  · by_cases hc:kD (s[k].toNat)=true
    · go_wp2_with fail
      refine(o6 _ _).mono ?_
      rintro e w' ⟨rfl,rfl⟩
      go_wp2_with fail
      go_round
      case rel=>exact⟨k+1,by omega,by go_num,Lib.hid (λj hj h=>by
       rcases Nat.lt_or_ge j k with h1|h1
       · exact hu.out j hj h1
       · obtain rfl:j=k:=by omega
         exact hc)⟩
      case measure=>simp[intOf];omega
    · have hc2:kD (s[k].toNat)=false:=by simpa using hc
      have HF:=Lib.hid (DF kD s.data.toList k (by simpa using hlt) (λj hj=>hu.out j (by omega) hj) hc2)
      go_wp2_with fail
      refine(o6 _ _).mono ?_
      rintro e w' ⟨rfl,rfl⟩
      go_wp2_with fail
      go_ret
      exact⟨fC (by rw[HF.out]),rfl⟩
  · have hge:s.size<=k:=by omega
    have HF:=Lib.hid (Dv kD s.data.toList (λj hj=>hu.out j (by simpa using hj) (Nat.lt_of_lt_of_le (by simpa using hj) hge)))
    go_wp2_with fail
    go_ret
    exact⟨fC (by rw[HF.out];simp),rfl⟩
set_option maxHeartbeats 800000 in
theorem Oh (s:ByteArray) (w:World) (hs:s.size<=1000000000):Calls Tryz.prog 130 #[.string s,.func (.func 133) #[] #[]] w λe w'=>e = .returned (.int .i64 (jE kX s.data.toList))/\w=w':=by
 go_enter Tryz.func130,Tryz.ntmps130
 go_wp2_with fail
 go_loop [8] (λt=>∃ k:Nat,k<=s.size/\t = .int .i64 k/\Hid (EB kX s k)) (λt=>s.size - (intOf t).toNat)
 case atStart=>exact⟨0,Nat.zero_le _,rfl,Lib.hid (λj _ h=>by omega)⟩
 case round =>
  obtain⟨k,hk,rfl,hu⟩:=hrel
  by_cases hlt:k<s.size
  · by_cases hc:kX (s[k].toNat)=true
    · go_wp2_with fail
      refine(ve _ _).mono ?_
      rintro e w' ⟨rfl,rfl⟩
      go_wp2_with fail
      go_round
      case rel=>exact⟨k+1,by omega,by go_num,Lib.hid (λj hj h=>by
       rcases Nat.lt_or_ge j k with h1|h1
       · exact hu.out j hj h1
       · obtain rfl:j=k:=by omega
         exact hc)⟩
      case measure=>simp[intOf];omega
    · have hc2:kX (s[k].toNat)=false:=by simpa using hc
      have HF:=Lib.hid (DF kX s.data.toList k (by simpa using hlt) (λj hj=>hu.out j (by omega) hj) hc2)
      go_wp2_with fail
      refine(ve _ _).mono ?_
      rintro e w' ⟨rfl,rfl⟩
      go_wp2_with fail
      go_ret
      exact⟨fC (by rw[HF.out]),rfl⟩
  · have hge:s.size<=k:=by omega
    have HF:=Lib.hid (Dv kX s.data.toList (λj hj=>hu.out j (by simpa using hj) (Nat.lt_of_lt_of_le (by simpa using hj) hge)))
    go_wp2_with fail
    go_ret
    exact⟨fC (by rw[HF.out];simp),rfl⟩
set_option maxHeartbeats 800000 in
theorem IQ (s:ByteArray) (w:World) (hs:s.size<=1000000000):Calls Tryz.prog 130 #[.string s,.func (.func 134) #[] #[]] w λe w'=>e = .returned (.int .i64 (jE rQ s.data.toList))/\w=w':=by
 go_enter Tryz.func130,Tryz.ntmps130
 go_wp2_with fail
 go_loop [8] (λt=>∃ k:Nat,k<=s.size/\t = .int .i64 k/\Hid (EB rQ s k)) (λt=>s.size - (intOf t).toNat)
 case atStart=>exact⟨0,Nat.zero_le _,rfl,Lib.hid (λj _ h=>by omega)⟩
 case round =>
  obtain⟨k,hk,rfl,hu⟩:=hrel
  by_cases hlt:k<s.size
  · by_cases hc:rQ (s[k].toNat)=true
    · go_wp2_with fail
      refine(Pb _ _).mono ?_
      rintro e w' ⟨rfl,rfl⟩
      go_wp2_with fail
      go_round
      case rel=>exact⟨k+1,by omega,by go_num,Lib.hid (λj hj h=>by
       rcases Nat.lt_or_ge j k with h1|h1
       · exact hu.out j hj h1
       · obtain rfl:j=k:=by omega
         exact hc)⟩
      case measure=>simp[intOf];omega
    · have hc2:rQ (s[k].toNat)=false:=by simpa using hc
      have HF:=Lib.hid (DF rQ s.data.toList k (by simpa using hlt) (λj hj=>hu.out j (by omega) hj) hc2)
      go_wp2_with fail
      refine(Pb _ _).mono ?_
      rintro e w' ⟨rfl,rfl⟩
      go_wp2_with fail
      go_ret
      exact⟨fC (by rw[HF.out]),rfl⟩
  · have hge:s.size<=k:=by omega
    have HF:=Lib.hid (Dv rQ s.data.toList (λj hj=>hu.out j (by simpa using hj) (Nat.lt_of_lt_of_le (by simpa using hj) hge)))
    go_wp2_with fail
    go_ret
    exact⟨fC (by rw[HF.out];simp),rfl⟩
end
end Go.Proofs.YtadecgbblajifaaGreatDoor
