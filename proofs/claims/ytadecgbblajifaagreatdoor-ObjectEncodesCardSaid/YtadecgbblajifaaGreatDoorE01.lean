import Derived.Lib.Hide
import Derived.Test.YtadecgbblajifaaGreatDoorRows
import Derived.Test.YtadecgbblajifaaGreatDoorCards
import Derived.Test.YtadecgbblajifaaGreatDoorTie
import Derived.WalkKit
import Derived.ProofKit
import Derived.HandedShaped
import Derived.SevenTiedAt
import Derived.JoinedOf
import Derived.Laws.CopyRow
set_option linter.unusedSimpArgs false
set_option linter.unusedVariables false
set_option maxRecDepth 100000
set_option maxHeartbeats 25600000
namespace Go.Proofs.YtadecgbblajifaaGreatDoor
section
theorem ł {p : Prop} (h : p) : Go.RowKit.Hid p := h
end
end Go.Proofs.YtadecgbblajifaaGreatDoor
namespace Go.Proofs.YtadecgbblajifaaGreatDoor.objectEncodes
open Go.ChangeShapes Go.WideShapes Go.ChangeAt Go.RowKit
theorem QH : Tryz.prog.funcNamed "backstep/backsteplaw29.ObjectEncodes" = some 5 := by kernel_rfl
theorem _H:joinedFacts Tryz.pinned.checked.prog 5 Tryz.f5 Rows.objectEncodesSpec Rows.objectEncodesRow=true:=by kernel_rfl
theorem abZ:Tryz.f5.isInstance Tryz.pinned.checked.prog Rows.objectEncodesRow.origin Rows.objectEncodesRow.targs:=of_decide_eq_true (by kernel_rfl)
theorem ab0:Tryz.f5.isWrapper Tryz.pinned.checked.prog Rows.objectEncodesRow.wrapper Rows.objectEncodesRow.mainSum:=by unfold Func.isWrapper;first|(rw[if_pos (by decide +kernel)];kernel_rfl)|(rw[if_neg (by decide +kernel)];exact⟨rfl,rfl⟩)
theorem ab1:Tryz.pinned.checked.prog.mainIs=some (true,Rows.objectEncodesCard.stood.harness.2.toList):=by kernel_rfl
theorem aa4:true=Tryz.pinned.checked.prog.looks []:=by kernel_rfl
theorem aa5:([39].all λu => !Tryz.pinned.checked.prog.wantsStandIn u)=true:=by kernel_rfl
theorem ab2:false=Rows.objectEncodesRow.goesBy Tryz.pinned.checked.prog:=by kernel_rfl
theorem fWf:Rows.objectEncodesRow.wfByText (OpenSpec.ofChange Rows.objectEncodesSpec)=true:=by kernel_rfl
end Go.Proofs.YtadecgbblajifaaGreatDoor.objectEncodes
namespace Go.Proofs.YtadecgbblajifaaGreatDoor
end Go.Proofs.YtadecgbblajifaaGreatDoor
namespace Go.Proofs.YtadecgbblajifaaGreatDoor.DV
open Go
inductive D where
 |lf (v:Value)
 |st (ss:List Nat) (ds:List D)
 |ar (s:Nat) (ds:List D)
 |sl (t:Bool) (s:Nat) (xs:List D)
 |fp (d:D)
 |ref (i:Nat) (p:List (Nat × Nat))
 |own (t:Bool) (i off n:Nat)
 |e0
 |fn (f:Fn) (a b:List D)
 |tu (ds:List D)
 |gZ (t:Nat) (d:D)
 |bZ
 |mp (i:Nat)
 |mo (es:List MapEntry) (c:Nat)
 |yd (i:Nat)
 |lo (tm:List D) (ps:List Nat) (az bd:Code)
 |lb (tm:List D) (ps:List Nat) (az bd:Code)
 |jK (c:Code)
 |df
 deriving Inhabited
structure Loc where
 b:Nat
 o:Nat
 len:Nat
 s:Nat
structure G where
 fm:Nat->Option (List Value)
 ae:Nat->Option Loc
def dI:List (Nat × Nat)->Nat
 | []=>0
 |x :: p=>x.2+dI p
def sz:D->Nat
 |.st t _=>t.sum
 |.ar s ds=>ds.length * s
 |_=>1
def wrap (m:Bool) (cs:List Value):List Value:=if m then[.agg ⟨cs⟩]else cs
mutual
def CR (g:G):Bool->D->List Value->Prop
 |m,.lf v,cs=>cs=[v]/\(m=false->v.oneCell'=true)
 |m,.st t ds,cs=>∃ c,cs=wrap m c/\aj g t ds c
 |m,.ar s ds,cs=>∃ c,cs=wrap m c/\aj g (List.replicate ds.length s) ds c
 |_,.sl t s xs,cs=>∃ a c,cs=[.slice a xs.length c]/\(xs.length<=c/\(t=true->c=xs.length))/\(xs=[]\/∃ b o blk,a=some ⟨b,o,none⟩/\g.fm b=some blk/\o+xs.length * s<=blk.length/\aj g (List.replicate xs.length s) xs ((blk.drop o).take (xs.length * s)))
 |_,.fp d,cs=>∃ b o blk k,cs=[.pointer (some ⟨b,o,none⟩)]/\g.fm b=some blk/\o+k<=blk.length/\CR g false d ((blk.drop o).take k)
 |_,.ref i p,cs=>∃ l,g.ae i=some l/\cs=[.pointer (some ⟨l.b,l.o+dI p,none⟩)]
 |_,.own t i off n,cs=>∃ l a c,g.ae i=some l/\cs=[.slice (some a) n c]/\(n<=c/\(t=true->c=n))/\(c=0\/(a=⟨l.b,l.o+off * l.s,none⟩/\(off+c) * l.s<=l.len))
 |_,.e0,cs=>∃ a,cs=[.slice (some a) 0 0]
 |_,.fn f a b,cs=>∃ a' b',cs=[.func f ⟨a'⟩ ⟨b'⟩]/\aC g a a'/\aC g b b'
 |_,.gZ t d,cs=>∃ v,cs=[.iface t v]/\CR g true d [v]
 |m,.tu ds,cs=>m=true/\∃ vs,cs=[.tuple ⟨vs⟩]/\aC g ds vs
 |m,.bZ,cs=>m=true/\∃ v,cs=[v]
 |_,.mp i,cs=>∃ l,g.ae i=some l/\cs=[.map (some l.b)]
 |_,.mo _ _,_=>False
 |_,.yd i,cs=>∃ l,g.ae i=some l/\cs=[.func (.yield l.b) #[] #[]]
 |_,.lo _ _ _ _,_=>False
 |_,.lb _ _ _ _,_=>False
 |_,.jK _,_=>False
 |_,.df,_=>False
def aj (g:G):List Nat->List D->List Value->Prop
 | [],[],cs=>cs=[]
 |s :: ss,d :: ds,cs=>s<=cs.length/\CR g false d (cs.take s)/\aj g ss ds (cs.drop s)
 |_,_,_=>False
def aC (g:G):List D->List Value->Prop
 | [],vs=>vs=[]
 |d :: ds,vs=>∃ v vs',vs=v :: vs'/\CR g true d [v]/\aC g ds vs'
end
def VR (g:G) (d:D) (v:Value):Prop:=CR g true d [v]
structure Le (g h:G):Prop where
 fm:∀ b c,g.fm b=some c->h.fm b=some c
 ae:∀ i l,g.ae i=some l->h.ae i=some l
theorem Le.refl (g:G):Le g g:=⟨λ_ _ h=>h,λ_ _ h=>h⟩
theorem Le.trans {g h k:G} (a:Le g h) (b:Le h k):Le g k:=⟨λ_ _ x=>b.fm _ _ (a.fm _ _ x),λ_ _ x=>b.ae _ _ (a.ae _ _ x)⟩
mutual
theorem CR.mono {g h:G} (le:Le g h):∀ (m:Bool) (d:D) (cs:List Value),CR g m d cs->CR h m d cs
 |m,.lf v,cs,H=>by simpa only[CR]using H
 |m,.st t ds,cs,H=>by
  simp only[CR]at H ⊢
  obtain⟨c,a,b⟩:=H
  exact⟨c,a,aj.mono le _ _ _ b⟩
 |m,.ar s ds,cs,H=>by
  simp only[CR]at H ⊢
  obtain⟨c,a,b⟩:=H
  exact⟨c,a,aj.mono le _ _ _ b⟩
 |m,.sl t s xs,cs,H=>by
  simp only[CR]at H ⊢
  obtain⟨a,c,h1,h2,h4⟩:=H
  refine⟨a,c,h1,h2,?_⟩
  rcases h4 with h4|⟨b,o,blk,h4,h5,h6,h7⟩
  · exact .inl h4
  · exact .inr ⟨b,o,blk,h4,le.fm _ _ h5,h6,aj.mono le _ _ _ h7⟩
 |m,.fp d,cs,H=>by
  simp only[CR]at H ⊢
  obtain⟨b,o,blk,k,h1,h2,h3,h4⟩:=H
  exact⟨b,o,blk,k,h1,le.fm _ _ h2,h3,CR.mono le _ _ _ h4⟩
 |m,.ref i p,cs,H=>by
  simp only[CR]at H ⊢
  obtain⟨l,h1,h2⟩:=H
  exact⟨l,le.ae _ _ h1,h2⟩
 |m,.own t i off n,cs,H=>by
  simp only[CR]at H ⊢
  obtain⟨l,a,c,h1,h2⟩:=H
  exact⟨l,a,c,le.ae _ _ h1,h2⟩
 |m,.e0,cs,H=>by simpa only[CR]using H
 |m,.fn f a b,cs,H=>by
  simp only[CR]at H ⊢
  obtain⟨a',b',h1,h2,h3⟩:=H
  exact⟨a',b',h1,aC.mono le _ _ h2,aC.mono le _ _ h3⟩
 |m,.gZ t d,cs,H=>by
  simp only[CR]at H ⊢
  obtain⟨v,h1,h2⟩:=H
  exact⟨v,h1,CR.mono le _ _ _ h2⟩
 |m,.tu ds,cs,H=>by
  simp only[CR]at H ⊢
  obtain⟨h0,v,h1,h2⟩:=H
  exact⟨h0,v,h1,aC.mono le _ _ h2⟩
 |m,.bZ,cs,H=>by simpa only[CR]using H
 |m,.mp i,cs,H=>by
  simp only[CR]at H ⊢
  obtain⟨l,h1,h2⟩:=H
  exact⟨l,le.ae _ _ h1,h2⟩
 |m,.mo es c,cs,H=>by simp only[CR]at H
 |m,.yd i,cs,H=>by
  simp only[CR]at H ⊢
  obtain⟨l,h1,h2⟩:=H
  exact⟨l,le.ae _ _ h1,h2⟩
 |m,.lo _ _ _ _,cs,H=>by simp only[CR]at H
 |m,.lb _ _ _ _,cs,H=>by simp only[CR]at H
 |m,.jK _,cs,H=>by simp only[CR]at H
 |m,.df,cs,H=>by simp only[CR]at H
theorem aj.mono {g h:G} (le:Le g h):∀ (ss:List Nat) (ds:List D) (cs:List Value),aj g ss ds cs->aj h ss ds cs
 | [],[],cs,H=>by simpa only[aj]using H
 |s :: ss,d :: ds,cs,H=>by
  simp only[aj]at H ⊢
  exact⟨H.1,CR.mono le _ _ _ H.2.1,aj.mono le _ _ _ H.2.2⟩
 | [],_ :: _,_,H=>by simp only[aj]at H
 |_ :: _,[],_,H=>by simp only[aj]at H
theorem aC.mono {g h:G} (le:Le g h):∀ (ds:List D) (vs:List Value),aC g ds vs->aC h ds vs
 | [],vs,H=>by simpa only[aC]using H
 |d :: ds,vs,H=>by
  simp only[aC]at H ⊢
  obtain⟨v,vs',h1,h2,h3⟩:=H
  exact⟨v,vs',h1,CR.mono le _ _ _ h2,aC.mono le _ _ h3⟩
end
mutual
theorem CR.len {g:G} : ∀ (d:D) (cs:List Value),CR g false d cs->cs.length=sz d/\∀ v∈cs,v.oneCell'=true
 |.lf v,cs,H=>by
  simp only[CR]at H
  obtain⟨rfl,h⟩:=H
  simp[sz,h]
 |.st t ds,cs,H=>by
  simp only[CR,wrap]at H
  obtain⟨c,rfl,b⟩:=H
  simpa[sz]using aj.len _ _ _ b
 |.ar s ds,cs,H=>by
  simp only[CR,wrap]at H
  obtain⟨c,rfl,b⟩:=H
  simpa[sz]using aj.len _ _ _ b
 |.sl t s xs,cs,H=>by
  simp only[CR]at H
  obtain⟨a,c,rfl,_⟩:=H
  simp[sz,Value.oneCell']
 |.fp d,cs,H=>by
  simp only[CR]at H
  obtain⟨b,o,blk,k,rfl,_⟩:=H
  simp[sz,Value.oneCell']
 |.ref i p,cs,H=>by
  simp only[CR]at H
  obtain⟨l,_,rfl⟩:=H
  simp[sz,Value.oneCell']
 |.own t i off n,cs,H=>by
  simp only[CR]at H
  obtain⟨l,a,c,_,rfl,_⟩:=H
  simp[sz,Value.oneCell']
 |.e0,cs,H=>by
  simp only[CR]at H
  obtain⟨a,rfl⟩:=H
  simp[sz,Value.oneCell']
 |.fn f a b,cs,H=>by
  simp only[CR]at H
  obtain⟨a',b',rfl,_⟩:=H
  simp[sz,Value.oneCell']
 |.gZ t d,cs,H=>by
  simp only[CR]at H
  obtain⟨v,rfl,_⟩:=H
  simp[sz,Value.oneCell']
 |.tu ds,cs,H=>by simp[CR]at H
 |.bZ,cs,H=>by simp[CR]at H
 |.mp i,cs,H=>by
  simp only[CR]at H
  obtain⟨l,_,rfl⟩:=H
  simp[sz,Value.oneCell']
 |.mo es c,cs,H=>by simp[CR]at H
 |.yd i,cs,H=>by
  simp only[CR]at H
  obtain⟨l,_,rfl⟩:=H
  simp[sz,Value.oneCell']
 |.lo _ _ _ _,cs,H=>by simp[CR]at H
 |.lb _ _ _ _,cs,H=>by simp[CR]at H
 |.jK _,cs,H=>by simp[CR]at H
 |.df,cs,H=>by simp[CR]at H
theorem aj.len {g:G} : ∀ (ss:List Nat) (ds:List D) (cs:List Value),aj g ss ds cs->cs.length=ss.sum/\∀ v∈cs,v.oneCell'=true
 | [],[],cs,H=>by
  simp only[aj]at H
  simp[H]
 |s :: ss,d :: ds,cs,H=>by
  simp only[aj]at H
  have h1:=CR.len _ _ H.2.1
  have h2:=aj.len _ _ _ H.2.2
  have h3:=H.1
  have e:cs.take s ++ cs.drop s=cs:=List.take_append_drop s cs
  simp only[List.length_drop,List.length_take]at h1 h2
  refine⟨by simp only[List.sum_cons];omega,λv hv => ?_⟩
  rw[← e]at hv
  rcases List.mem_append.1 hv with h|h
  · exact h1.2 _ h
  · exact h2.2 _ h
 | [],_ :: _,_,H=>by simp only[aj]at H
 |_ :: _,[],_,H=>by simp only[aj]at H
end
end Go.Proofs.YtadecgbblajifaaGreatDoor.DV
namespace Go.Proofs.YtadecgbblajifaaGreatDoor
end Go.Proofs.YtadecgbblajifaaGreatDoor
namespace Go.Proofs.YtadecgbblajifaaGreatDoor.DV
open Go
def splice (cs:List Value) (o:Nat) (xs:List Value):List Value:=cs.take o ++ (xs ++ cs.drop (o+xs.length))
theorem aj.get {g:G} : ∀ (ss:List Nat) (ds:List D) (cs:List Value) (k:Nat) (d:D),aj g ss ds cs->ds[k]? = some d ->
 CR g false d ((cs.drop (ss.take k).sum).take (sz d))/\(ss.take k).sum+sz d<=cs.length
 | [],[],cs,k,d,H,hd=>by simp at hd
 |s :: ss,e :: ds,cs,0,d,H,hd=>by
  simp only[aj]at H
  simp only[List.getElem?_cons_zero,Option.some.injEq]at hd
  subst hd
  have h:=(CR.len _ _ H.2.1).1
  simp only[List.length_take]at h
  have h2:s=sz e:=by have:=H.1;omega
  rw[← h2]
  simpa using⟨H.2.1,H.1⟩
 |s :: ss,e :: ds,cs,k+1,d,H,hd=>by
  simp only[aj]at H
  simp only[List.getElem?_cons_succ]at hd
  have ih:=aj.get ss ds _ k d H.2.2 hd
  simp only[List.drop_drop,List.length_drop]at ih
  simp only[List.take_succ_cons,List.sum_cons]
  exact⟨ih.1,by have:=H.1;omega⟩
 | [],_ :: _,_,_,_,H,_=>by simp only[aj]at H
 |_ :: _,[],_,_,_,H,_=>by simp only[aj]at H
theorem aj.set {g:G} (x:D) (xs:List Value) (hx:CR g false x xs):∀ (ss:List Nat) (ds:List D) (cs:List Value) (k:Nat) (d:D),aj g ss ds cs->ds[k]? = some d->sz x=sz d ->
 aj g ss (ds.set k x) (splice cs (ss.take k).sum xs)
 | [],[],cs,k,d,H,hd,_=>by simp at hd
 |s :: ss,e :: ds,cs,0,d,H,hd,he=>by
  simp only[aj]at H
  simp only[List.getElem?_cons_zero,Option.some.injEq]at hd
  subst hd
  have h:=(CR.len _ _ H.2.1).1
  have h3:=(CR.len _ _ hx).1
  simp only[List.length_take]at h
  have h2:xs.length=s:=by have:=H.1;omega
  have h4:=H.1
  simp only[List.set_cons_zero,List.take_zero,List.sum_nil,splice,List.nil_append,aj,Nat.zero_add]
  refine⟨by simp;omega,?_,?_⟩
  · rw[← h2,List.take_left']
    · exact hx
    · rfl
  · rw[← h2,List.drop_left']
    · rw[h2];exact H.2.2
    · rfl
 |s :: ss,e :: ds,cs,k+1,d,H,hd,he=>by
  simp only[aj]at H
  simp only[List.getElem?_cons_succ]at hd
  have ih:=aj.set x xs hx ss ds _ k d H.2.2 hd he
  have hb:=(aj.get ss ds _ k d H.2.2 hd).2
  have h4:=H.1
  simp only[List.set_cons_succ,List.take_succ_cons,List.sum_cons,aj]
  have e1:(splice cs (s+(ss.take k).sum) xs).take s=cs.take s:=by
   unfold splice
   rw[List.take_append_of_le_length (by simp;omega),List.take_take]
   congr 1;omega
  have e2:(splice cs (s+(ss.take k).sum) xs).drop s=splice (cs.drop s) (ss.take k).sum xs:=by
   unfold splice
   rw[List.drop_append_of_le_length (by simp;omega),List.drop_take,List.drop_drop]
   congr 3 <;> omega
  refine⟨?_,by rw[e1];exact H.2.1,by rw[e2];exact ih⟩
  simp only[splice,List.length_append,List.length_take];omega
 | [],_ :: _,_,_,_,H,_,_=>by simp only[aj]at H
 |_ :: _,[],_,_,_,H,_,_=>by simp only[aj]at H
def nV:D->Nat->Nat->Option D
 |.st t ds,k,o=>if Nat.beq (t.take k).sum o then ds[k]? else none
 |.ar s ds,k,o=>if Nat.beq (k * s) o then ds[k]? else none
 |_,_,_=>none
def wh:D->Nat->D->D
 |.st t ds,k,e => .st t (ds.set k e)
 |.ar s ds,k,e => .ar s (ds.set k e)
 |d,_,_=>d
def wT:D->List (Nat × Nat)->Option D
 |d,[]=>some d
 |d,(k,o) :: p=>match nV d k o with
  |some e=>wT e p
  |none=>none
def PD:D->D->Bool
 |.ar s _,.ar s' _=>Nat.beq s s'
 |_,.ar _ _=>false
 |_,_=>true
def put:D->List (Nat × Nat)->D->Option D
 |d,[],x=>if Nat.beq (sz x) (sz d) && PD d x then some x else none
 |d,(k,o) :: p,x=>match nV d k o with
  |some e=>match put e p x with
   |some e'=>some (wh d k e')
   |none=>none
  |none=>none
theorem OL (n s k:Nat) (h:k<=n):((List.replicate n s).take k).sum=k * s:=by
 rw[List.take_replicate,List.sum_replicate_nat,Nat.min_eq_left h]
theorem Ak {g:G} {d e:D} {cs:List Value} {k o:Nat} (H:CR g false d cs) (h:nV d k o=some e) :
 CR g false e ((cs.drop o).take (sz e))/\o+sz e<=cs.length /\
 (∀ x xs,CR g false x xs->sz x=sz e->CR g false (wh d k x) (splice cs o xs)/\sz (wh d k x)=sz d):=by
 cases d with
 |st t ds =>
  simp only[CR,wrap,Bool.false_eq_true,if_false]at H
  obtain⟨c,rfl,H⟩:=H
  simp only[nV]at h
  split at h
  · rename_i ho
    have ho:=Nat.eq_of_beq_eq_true ho
    subst ho
    have h1:=aj.get _ _ _ k e H h
    refine⟨h1.1,h1.2,λx xs hx hs=>⟨?_,rfl⟩⟩
    simp only[wh,CR,wrap,Bool.false_eq_true,if_false]
    exact⟨_,rfl,aj.set x xs hx _ _ _ k e H h hs⟩
  · simp at h
 |ar s ds =>
  simp only[CR,wrap,Bool.false_eq_true,if_false]at H
  obtain⟨c,rfl,H⟩:=H
  simp only[nV]at h
  split at h
  · rename_i ho
    have ho:=Nat.eq_of_beq_eq_true ho
    subst ho
    have hk:k<ds.length:=by
     rcases Nat.lt_or_ge k ds.length with h1|h1
     · exact h1
     · rw[List.getElem?_eq_none h1]at h;simp at h
    have e1:=OL ds.length s k (by omega)
    have h1:=aj.get _ _ _ k e H h
    rw[e1]at h1
    refine⟨h1.1,h1.2,λx xs hx hs=>⟨?_,by simp[wh,sz]⟩⟩
    simp only[wh,CR,wrap,Bool.false_eq_true,if_false]
    have h2:=aj.set x xs hx _ _ _ k e H h hs
    rw[e1]at h2
    exact⟨_,rfl,by simpa using h2⟩
  · simp at h
 |_=>simp[nV]at h
theorem Ee {g:G} : ∀ (p:List (Nat × Nat)) (d e:D) (cs:List Value),CR g false d cs->wT d p=some e ->
 CR g false e ((cs.drop (dI p)).take (sz e))/\dI p+sz e<=cs.length
 | [],d,e,cs,H,h=>by
  simp only[wT,Option.some.injEq]at h
  subst h
  have:=(CR.len _ _ H).1
  simp only[dI,List.drop_zero,Nat.zero_add,← this,List.take_length]
  exact⟨H,Nat.le_refl _⟩
 |(k,o) :: p,d,e,cs,H,h=>by
  simp only[wT]at h
  split at h
  · rename_i e1 h1
    have h2:=Ak H h1
    have ih:=Ee p e1 e _ h2.1 h
    have hl:=(CR.len _ _ ih.1).1
    simp only[List.drop_take,List.length_take,List.length_drop,List.drop_drop,List.take_take,dI]at ih hl ⊢
    refine⟨?_,by omega⟩
    have:=ih.1
    rwa[show min (sz e) (sz e1 - dI p)=sz e by omega]at this
  · simp at h
theorem Xg (cs:List Value) (o n p:Nat) (xs:List Value) (hn:o+n<=cs.length) (hp:p+xs.length<=n) :
 splice cs o (splice ((cs.drop o).take n) p xs)=splice cs (o+p) xs:=by
 unfold splice
 have e1:(List.take p (List.take n (List.drop o cs)) ++ (xs ++ List.drop (p+xs.length) (List.take n (List.drop o cs)))).length=n:=by
  simp;omega
 rw[e1]
 have e3:List.take (o+p) cs=List.take o cs ++ List.take p (List.drop o cs):=List.take_add
 have e4:List.drop (o+p+xs.length) cs=List.take (n - (p+xs.length)) (List.drop (o+p+xs.length) cs) ++ List.drop (o+n) cs:=by
  have:=(List.take_append_drop (n - (p+xs.length)) (List.drop (o+p+xs.length) cs)).symm
  rw[List.drop_drop,show o+p+xs.length+(n - (p+xs.length))=o+n by omega]at this
  exact this
 rw[List.take_take,List.drop_take,List.drop_drop,show min p n=p by omega,e3,e4,show o+(p+xs.length)=o+p+xs.length by omega]
 simp only[List.append_assoc]
theorem Jj {g:G} (x:D) (xs:List Value) (hx:CR g false x xs):∀ (p:List (Nat × Nat)) (d d':D) (cs:List Value),CR g false d cs->put d p x=some d' ->
 CR g false d' (splice cs (dI p) xs)/\sz d'=sz d/\dI p+xs.length<=cs.length
 | [],d,d',cs,H,h=>by
  simp only[put]at h
  split at h
  · rename_i he
    have he:=Nat.eq_of_beq_eq_true (Bool.and_eq_true_iff.1 he).1
    simp only[Option.some.injEq]at h
    subst h
    have h1:=(CR.len _ _ H).1
    have h2:=(CR.len _ _ hx).1
    refine⟨?_,he,by simp[dI];omega⟩
    simp only[splice,dI,List.take_zero,List.nil_append,Nat.zero_add]
    rw[List.drop_eq_nil_of_le (by omega),List.append_nil]
    exact hx
  · simp at h
 |(k,o) :: p,d,d',cs,H,h=>by
  simp only[put]at h
  split at h
  · rename_i e1 h1
    split at h
    · rename_i e2 h2
      simp only[Option.some.injEq]at h
      subst h
      have h3:=Ak H h1
      have ih:=Jj x xs hx p e1 e2 _ h3.1 h2
      have h4:=h3.2.2 _ _ ih.1 ih.2.1
      have hl:dI p+xs.length<=sz e1:=by
       have:=ih.2.2
       simp only[List.length_take]at this
       omega
      rw[Xg _ _ _ _ _ h3.2.1 hl]at h4
      exact⟨h4.1,h4.2,by simp only[dI];omega⟩
    · simp at h
  · simp at h
end Go.Proofs.YtadecgbblajifaaGreatDoor.DV
namespace Go.Proofs.YtadecgbblajifaaGreatDoor
end Go.Proofs.YtadecgbblajifaaGreatDoor
namespace Go.Proofs.YtadecgbblajifaaGreatDoor.DV
open Go
abbrev au:=Nat->Option D
abbrev Eff:=List (Nat × Option D)
def aH:Eff->Nat->Option (Option D)
 | [],_=>none
 |(k,d) :: e,i=>match Nat.beq k i with
  |true=>some d
  |false=>aH e i
def app (e:Eff) (s:au):au:=λi=>match aH e i with
 |some d=>d
 |none=>s i
def row (w:World) (b:Nat) (blk:List Value):Prop :=
 ∃ el fz,w.heap[b]? = some (.cells ⟨blk⟩ el fz)/\∀ k,k<blk.length->¬ (fz.1<=k/\k<fz.2)
def mem (w:World) (b:Nat):Option (List Value) :=
 match w.heap[b]? with
 |some (.cells c _ _)=>some c.toList
 |_=>none
theorem row.mem {w:World} {b:Nat} {blk:List Value} (h:row w b blk):mem w b=some blk:=by
 obtain⟨el,fz,h,_⟩:=h
 simp[DV.mem,h]
theorem row.lt {w:World} {b:Nat} {blk:List Value} (h:row w b blk):b<w.heap.size:=by
 obtain⟨el,fz,h,_⟩:=h
 exact(Array.getElem?_eq_some_iff.1 h).1
theorem sG {w:World} {b:Nat} {c:List Value} (h:mem w b=some c):b<w.heap.size:=by
 unfold mem at h
 split at h
 · rename_i h1
   exact(Array.getElem?_eq_some_iff.1 h1).1
 · simp at h
def bu (blk:List Value) (o n:Nat):List Value:=(blk.drop o).take n
def jr (l:Loc):D->Prop
 |.ar s _=>l.s=s
 |_=>True
structure Has (g:G) (w:World) (i:Nat) (d:D) (l:Loc) (blk:List Value):Prop where
 ae:g.ae i=some l
 row:row w l.b blk
 fm:g.fm l.b=none
 len:l.o+l.len<=blk.length
 sz:sz d<=l.len
 s:jr l d
 cr:CR g false d (bu blk l.o (DV.sz d))
def fU:D->Bool
 |.mo _ _ | .lo _ _ _ _ | .lb _ _ _ _ | .jK _ | .df=>true
 |_=>false
def nk (g:G):D->Obj->Prop
 |.mo es c,o=>o = .map ⟨es⟩ c
 |.lo tm ps az bd,o=>∃ r,o = .loop r/\r.state = .ready/\r.pending=none/\r.params.toList=ps/\r.assign=az/\r.body=bd/\r.tmps.size=tm.length/\∀ t:Nat,VR g ((tm[t]?).getD .bZ) (r.tmps.getD t (.tuple #[]))
 |.lb tm ps az bd,o=>∃ r,o = .loop r/\r.params.toList=ps/\r.assign=az/\r.body=bd/\r.tmps.size=tm.length/\∀ t:Nat,VR g ((tm[t]?).getD .bZ) (r.tmps.getD t (.tuple #[]))
 |.jK c,o=>∃ r,o = .loop r/\r.state = .done/\r.pending=some c
 |.df,o=>o = .deferred (some [])
 |_,_=>False
theorem nk.mono {g h:G} {d:D} {o:Obj} (le:Le g h) (H:nk g d o):nk h d o:=by
 cases d <;> simp only[nk]at H ⊢ <;> (try exact H)
 · obtain⟨r,h1,h2,h3,h4,h5,h6,h8,h7⟩:=H
   exact⟨r,h1,h2,h3,h4,h5,h6,h8,λt=>CR.mono le _ _ _ (h7 t)⟩
 · obtain⟨r,h1,h4,h5,h6,h8,h7⟩:=H
   exact⟨r,h1,h4,h5,h6,h8,λt=>CR.mono le _ _ _ (h7 t)⟩
def je (g:G) (w:World) (i:Nat) (d:D) (l:Loc):Prop :=
 (∃ blk,Has g w i d l blk)\/(∃ o,fU d=true/\g.ae i=some l/\g.fm l.b=none/\w.heap[l.b]? = some o/\nk g d o)
theorem je.ae {g:G} {w:World} {i:Nat} {d:D} {l:Loc} (h:je g w i d l):g.ae i=some l:=by
 rcases h with⟨blk,h⟩|⟨o,_,h,_⟩
 · exact h.ae
 · exact h
theorem je.fm {g:G} {w:World} {i:Nat} {d:D} {l:Loc} (h:je g w i d l):g.fm l.b=none:=by
 rcases h with⟨blk,h⟩|⟨o,_,_,h,_⟩
 · exact h.fm
 · exact h
theorem je.lt {g:G} {w:World} {i:Nat} {d:D} {l:Loc} (h:je g w i d l):l.b<w.heap.size:=by
 rcases h with⟨blk,h⟩|⟨o,_,_,_,h,_⟩
 · exact h.row.lt
 · exact(Array.getElem?_eq_some_iff.1 h).1
theorem je.keep {g g':G} {w w':World} {i:Nat} {d:D} {l:Loc} (h:je g w i d l) (le:Le g g') (hf:g'.fm l.b=none) (hw:w'.heap[l.b]? = w.heap[l.b]?):je g' w' i d l:=by
 rcases h with⟨blk,h⟩|⟨o,h1,h2,h3,h4,h5⟩
 · refine .inl ⟨blk,le.ae _ _ h.ae,?_,hf,h.len,h.sz,h.s,CR.mono le _ _ _ h.cr⟩
   obtain⟨el,fz,h6,h7⟩:=h.row
   exact⟨el,fz,by rw[hw];exact h6,h7⟩
 · exact .inr ⟨o,h1,le.ae _ _ h2,hf,by rw[hw];exact h4,h5.mono le⟩
structure Rel (g:G) (σ:au) (w:World):Prop where
 fm:∀ b c,g.fm b=some c->mem w b=some c
 ob:∀ i d,σ i=some d->∃ l,je g w i d l
 dj:∀ i j l m,σ i≠none->σ j≠none->g.ae i=some l->g.ae j=some m->l.b=m.b->i=j
theorem Rel.has {g:G} {σ:au} {w:World} (R:Rel g σ w) {i:Nat} {d:D} (h:σ i=some d) (hm:fU d=false):∃ l blk,Has g w i d l blk:=by
 obtain⟨l,h1⟩:=R.ob i d h
 rcases h1 with⟨blk,h1⟩|⟨o,h2,_⟩
 · exact⟨l,blk,h1⟩
 · rw[hm]at h2;simp at h2
def Mine (g:G) (σ:au) (w:World) (b:Nat):Prop:=w.heap.size<=b\/∃ i l,σ i≠none/\g.ae i=some l/\l.b=b
structure Sm (w w':World):Prop where
 os:w'.os=w.os
 tape:w'.tape=w.tape
 output:w'.output=w.output
theorem Sm.refl (w:World):Sm w w:=⟨rfl,rfl,rfl⟩
theorem Sm.trans {a b c:World} (h:Sm a b) (k:Sm b c):Sm a c:=⟨k.os.trans h.os,k.tape.trans h.tape,k.output.trans h.output⟩
structure Ext (g:G) (σ:au) (w:World) (N:Nat->Prop) (g':G) (σ':au) (w':World):Prop where
 le:Le g g'
 hp:w.heap.size<=w'.heap.size
 fr:∀ b,¬ Mine g σ w b->w'.heap[b]? = w.heap[b]?
 jv:∀ b,g'.fm b≠none->g.fm b≠none\/Mine g σ w b
 rn:∀ i l,g'.ae i=some l->g.ae i=some l\/(Mine g σ w l.b/\N i)
 sn:∀ i,σ' i≠none->σ i≠none\/N i
 sm:Sm w w'
theorem Ext.refl (g:G) (σ:au) (w:World) (N:Nat->Prop):Ext g σ w N g σ w :=
 ⟨.refl g,Nat.le_refl _,λ_ _=>rfl,λ_ h => .inl h,λ_ _ h => .inl h,λ_ h => .inl h,.refl w⟩
theorem Ext.trans {g h k:G} {σ τ υ:au} {w x y:World} {N M O:Nat->Prop} (a:Ext g σ w N h τ x) (b:Ext h τ x M k υ y) (hN:∀ i,N i->O i) (hM:∀ i,M i->O i)
 (hf:∀ i,N i->g.ae i=none):Ext g σ w O k υ y:=by
 have hm:∀ c,Mine h τ x c->Mine g σ w c:=by
  rintro c (hc|⟨i,l,h1,h2,rfl⟩)
  · exact .inl (Nat.le_trans a.hp hc)
  · rcases a.rn _ _ h2 with h3|h3
    · rcases a.sn _ h1 with h4|h4
      · exact .inr ⟨i,l,h4,h3,rfl⟩
      · rw[hf _ h4]at h3;simp at h3
    · exact h3.1
 refine⟨a.le.trans b.le,Nat.le_trans a.hp b.hp,λc hc => ?_,λc hc => ?_,λi l hi => ?_,λi hi => ?_,a.sm.trans b.sm⟩
 · rw[b.fr c λh=>hc (hm _ h),a.fr c hc]
 · rcases b.jv c hc with h1|h1
   · exact a.jv c h1
   · exact .inr (hm _ h1)
 · rcases b.rn i l hi with h1|h1
   · rcases a.rn i l h1 with h2|h2
     · exact .inl h2
     · exact .inr ⟨h2.1,hN _ h2.2⟩
   · exact .inr ⟨hm _ h1.1,hM _ h1.2⟩
 · rcases b.sn i hi with h1|h1
   · rcases a.sn i h1 with h2|h2
     · exact .inl h2
     · exact .inr (hN _ h2)
   · exact .inr (hM _ h1)
theorem frame {g g':G} {s S:au} {w w':World} {N:Nat->Prop} {e:Eff} (R:Rel g S w) (hs:∀ i d,s i=some d->S i=some d)
 (x:Ext g s w N g' (app e s) w') (R':Rel g' (app e s) w') (hN:∀ i,N i->g.ae i=none) (he:∀ i,aH e i≠none->s i≠none\/N i) :
 Rel g' (app e S) w'/\Ext g S w N g' (app e S) w':=by
 have lQ:∀ b,Mine g s w b->Mine g S w b:=by
  rintro b (h|⟨i,l,h1,h2,rfl⟩)
  · exact .inl h
  · refine .inr ⟨i,l,?_,h2,rfl⟩
    cases hd:s i with
    |none=>exact absurd hd h1
    |some d=>rw[hs _ _ hd];simp
 have hin:∀ i d,app e S i=some d->app e s i=some d\/(s i=none/\aH e i=none/\S i=some d):=by
  intro i d h
  unfold app at h ⊢
  cases hl:aH e i with
  |some v=>simp only[hl]at h ⊢;exact .inl h
  |none =>
   simp only[hl]at h ⊢
   cases hd:s i with
   |none=>exact .inr ⟨rfl,trivial,h⟩
   |some d'=>rw[hs _ _ hd]at h;exact .inl h
 have hrest:∀ i d,s i=none->S i=some d->∃ l,je g w i d l/\¬ Mine g s w l.b:=by
  intro i d h1 h2
  obtain⟨l,h⟩:=R.ob i d h2
  refine⟨l,h,?_⟩
  rintro(h3|⟨j,m,h3,h4,h5⟩)
  · have:=h.lt;omega
  · have:j=i:=R.dj j i m l (by
     cases hd:s j with
     |none=>exact absurd hd h3
     |some d=>rw[hs _ _ hd];simp) (by simp[h2]) h4 h.ae h5
    subst this
    exact h3 h1
 refine⟨⟨R'.fm,λi d h => ?_,λi j l m hi hj hl hm hb => ?_⟩,⟨x.le,x.hp,λb hb=>x.fr b λh=>hb (lQ _ h),λb hb=>(x.jv b hb).imp_right (lQ b),λi l hi=>(x.rn i l hi).imp_right λh=>⟨lQ _ h.1,h.2⟩,λi hi => ?_,x.sm⟩⟩
 · rcases hin i d h with h1|⟨h1,h2,h3⟩
   · exact R'.ob i d h1
   · obtain⟨l,h4,h5⟩:=hrest i d h1 h3
     refine⟨l,h4.keep x.le ?_ (x.fr _ h5)⟩
     cases hf:g'.fm l.b with
     |none=>rfl
     |some c =>
      rcases x.jv l.b (by simp[hf])with h6|h6
      · exact absurd h4.fm h6
      · exact absurd h6 h5
 · have key:∀ i j l m d d',app e s i=some d->s j=none->S j=some d'->g'.ae i=some l->g'.ae j=some m->l.b=m.b->False:=by
    intro i j l m d d' hi h1 h2 hl hm hb
    obtain⟨m',h4,h5⟩:=hrest j d' h1 h2
    have:m'=m:=by have:=x.le.ae _ _ h4.ae;rw[hm]at this;simpa using this.symm
    subst this
    rcases x.rn i l hl with h6|h6
    · rcases x.sn i (by simp[hi])with h7|h7
      · exact h5 (.inr ⟨i,l,h7,h6,hb⟩)
      · rw[hN _ h7]at h6;simp at h6
    · exact h5 (hb ▸ h6.1)
   cases hi':app e S i with
   |none=>exact absurd hi' hi
   |some d =>
    cases hj':app e S j with
    |none=>exact absurd hj' hj
    |some d' =>
     rcases hin i d hi' with h1|⟨h1,h2,h3⟩ <;> rcases hin j d' hj' with h4|⟨h4,h5,h6⟩
     · exact R'.dj i j l m (by simp[h1]) (by simp[h4]) hl hm hb
     · exact(key i j l m d d' h1 h4 h6 hl hm hb).elim
     · exact(key j i m l d' d h4 h1 h3 hm hl hb.symm).elim
     · obtain⟨l',a,_⟩:=hrest i d h1 h3
       obtain⟨m',b,_⟩:=hrest j d' h4 h6
       have e1:l'=l:=by have:=x.le.ae _ _ a.ae;rw[hl]at this;simpa using this.symm
       have e2:m'=m:=by have:=x.le.ae _ _ b.ae;rw[hm]at this;simpa using this.symm
       subst e1 e2
       exact R.dj i j _ _ (by simp[h3]) (by simp[h6]) a.ae b.ae hb
 · cases hl:aH e i with
   |some v =>
    rcases he i (by simp[hl])with h|h
    · cases hd:s i with
      |none=>exact absurd hd h
      |some d=>exact .inl (by rw[hs _ _ hd];simp)
    · exact .inr h
   |none =>
    unfold app at hi
    simp only[hl]at hi
    exact .inl hi
theorem je.row {g:G} {w:World} {n:Nat} {d:D} {l:Loc} {blk:List Value} (hrow:row w l.b blk) (hlen:l.o+l.len<=blk.length) (hsz:sz d<=l.len) (hs:jr l d) {g0:G} (hcr:CR g0 false d (bu blk l.o (sz d)))
 (le:Le g0 g) (h1:g.ae n=some l) (h2:g.fm l.b=none):je g w n d l := .inl ⟨blk,h1,hrow,h2,hlen,hsz,hs,CR.mono le _ _ _ hcr⟩
def G.put (g:G) (n:Nat) (l:Loc):G := { g with ae:=λi=>if i=n then some l else g.ae i }
theorem Af {g:G} {σ:au} {w w':World} (R:Rel g σ w) (n:Nat) (l:Loc) (d:D) (e:Eff) (N:Nat->Prop)
 (acW:∀ g',Le g g'->g'.ae n=some l->g'.fm l.b=none->je g' w' n d l)
 (hn:g.ae n=some l\/(g.ae n=none/\N n)) (hfm:g.fm l.b=none) (hoth:∀ b,b≠l.b->b<w.heap.size->w'.heap[b]? = w.heap[b]?) (hp:w.heap.size<=w'.heap.size)
 (he:aH e n=some (some d)) (heo:∀ i,i≠n->aH e i=none\/aH e i=some none)
 (hfree:∀ j m,σ j≠none->g.ae j=some m->m.b=l.b->j=n\/aH e j=some none)
 (lQ:Mine g σ w l.b) (hsn:σ n≠none\/N n) (hsm:Sm w w') :
 Rel (g.put n l) (app e σ) w'/\Ext g σ w N (g.put n l) (app e σ) w':=by
 have le:Le g (g.put n l):=by
  refine⟨λ_ _ h=>h,λi m h => ?_⟩
  simp only[G.put]
  split
  · rename_i hi
    subst hi
    rcases hn with h1|h1
    · rw[h1]at h;exact h
    · rw[h1.1]at h;simp at h
  · exact h
 have hne:∀ i d',i≠n->app e σ i=some d'->σ i=some d'/\∃ m,je g w i d' m/\m.b≠l.b:=by
  intro i d' hi h
  unfold app at h
  rcases heo i hi with h1|h1
  · simp only[h1]at h
    obtain⟨m,hm⟩:=R.ob i d' h
    refine⟨h,m,hm,λhb => ?_⟩
    rcases hfree i m (by simp[h]) hm.ae hb with h2|h2
    · exact hi h2
    · rw[h1]at h2;simp at h2
  · simp[h1]at h
 refine⟨⟨λb c h => ?_,λi d' h => ?_,λi j l' m' hi hj hl hm hb => ?_⟩,⟨le,hp,λb hb => ?_,λb hb => .inl hb,λi l' hi => ?_,λi hi => ?_,hsm⟩⟩
 · have h1:=R.fm b c h
   have h2:b≠l.b:=by rintro rfl;simp only[G.put]at h;rw[hfm]at h;simp at h
   have h3:=sG h1
   unfold mem at h1 ⊢
   rw[hoth b h2 h3]
   exact h1
 · by_cases hi:i=n
   · subst hi
     simp only[app,he,Option.some.injEq]at h
     subst h
     exact⟨l,acW _ le (by simp[G.put]) hfm⟩
   · obtain⟨_,m,hm,hb⟩:=hne i d' hi h
     exact⟨m,hm.keep le hm.fm (hoth _ hb hm.lt)⟩
 · cases hi':app e σ i with
   |none=>exact absurd hi' hi
   |some d1 =>
    cases hj':app e σ j with
    |none=>exact absurd hj' hj
    |some d2 =>
     by_cases h1:i=n <;> by_cases h2:j=n
     · rw[h1,h2]
     · obtain⟨_,m,hmm,hb'⟩:=hne j d2 h2 hj'
       have e1:m=m':=by have:=le.ae _ _ hmm.ae;rw[hm]at this;simpa using this.symm
       have e2:l'=l:=by subst h1;simp[G.put]at hl;exact hl.symm
       subst e1 e2
       exact absurd hb.symm hb'
     · obtain⟨_,m,hmm,hb'⟩:=hne i d1 h1 hi'
       have e1:m=l':=by have:=le.ae _ _ hmm.ae;rw[hl]at this;simpa using this.symm
       have e2:m'=l:=by subst h2;simp[G.put]at hm;exact hm.symm
       subst e1 e2
       exact absurd hb hb'
     · obtain⟨h3,m1,a1,_⟩:=hne i d1 h1 hi'
       obtain⟨h4,m2,a2,_⟩:=hne j d2 h2 hj'
       have e1:m1=l':=by have:=le.ae _ _ a1.ae;rw[hl]at this;simpa using this.symm
       have e2:m2=m':=by have:=le.ae _ _ a2.ae;rw[hm]at this;simpa using this.symm
       subst e1 e2
       exact R.dj i j _ _ (by simp[h3]) (by simp[h4]) a1.ae a2.ae hb
 · have hb1:b≠l.b:=by rintro rfl;exact hb lQ
   refine hoth b hb1 ?_
   rcases Nat.lt_or_ge b w.heap.size with h|h
   · exact h
   · exact absurd (.inl h) hb
 · simp only[G.put]at hi
   split at hi
   · rename_i hin
     subst hin
     simp only[Option.some.injEq]at hi
     subst hi
     rcases hn with h1|h1
     · exact .inl h1
     · exact .inr ⟨lQ,h1.2⟩
   · exact .inl hi
 · by_cases h1:i=n
   · subst h1;exact hsn
   · cases hi':app e σ i with
     |none=>exact absurd hi' hi
     |some d1=>exact .inl (by rw[(hne i d1 h1 hi').1];simp)
end Go.Proofs.YtadecgbblajifaaGreatDoor.DV
namespace Go.Proofs.YtadecgbblajifaaGreatDoor
end Go.Proofs.YtadecgbblajifaaGreatDoor
