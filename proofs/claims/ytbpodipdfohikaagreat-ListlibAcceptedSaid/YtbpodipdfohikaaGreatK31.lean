import Derived.Test.YtbpodipdfohikaaGreatK13
set_option linter.unusedSimpArgs false
set_option linter.unusedVariables false
set_option maxRecDepth 100000
set_option maxHeartbeats 25600000
namespace Go.Proofs.YtbpodipdfohikaaGreat
open Go.RowKit
def sA:ByteArray:=⟨#[97]⟩
def sB:ByteArray:=⟨#[98]⟩
def sG:ByteArray:=⟨#[103]⟩
def sN:ByteArray:=⟨#[110]⟩
def sT:ByteArray:=⟨#[116]⟩
def sX:ByteArray:=⟨#[120]⟩
def sY:ByteArray:=⟨#[121]⟩
def aC (n:Int):Tree := .mk 1 n ⟨#[]⟩ []
def bR (s:ByteArray):Tree := .mk 2 0 s []
def aS (s:ByteArray):Tree := .mk 5 0 s []
def aX (a b:Tree):Tree := .mk 16 0 ⟨#[]⟩ [a,b]
def gz (l:List Tree):Tree := .mk 57 0 ⟨#[]⟩ l
def psT (n s:ByteArray):Tree := .mk 44 0 s [bR n]
def fT (n s:ByteArray):Tree := .mk 45 0 s [bR n]
def dK (n:ByteArray) (f:Tree) (l:List Tree) (z:Tree):Tree := .mk 54 0 n [f,gz l,z]
def uD (n:ByteArray) (l:List Tree):Tree := .mk 55 0 n [gz l]
def cO (e x:Tree) (l:List Tree):Tree := .mk 53 0 ⟨#[]⟩ [e,gz [],gz l,x]
def dN (a b:ByteArray):Tree:=dK sX (aC 0) [fT sX a,psT sX b] (aC 0)
def BL:Tree:=gz [dK sN (aS sA) [cO (aX (aS sA) (bR sN)) (aX (aS sA) (aC 0)) [dN sA sG],psT sN sG] (aC 0)]
def mV:Tree:=dK sX (aC 0) [fT sX sT,dK sY (bR sX) [psT sY sB] (aC 0),psT sX sA] (aC 0)
def Ca:Tree:=gz [uD sT [cO (aX (aS sT) (aC 0)) (aX (aS sA) (aC 0)) [dN sA sT],cO (aX (aS sA) (aC 0)) (aX (aS sT) (aC 0)) [mV]]]
def S4 (C:List (List Int)) (V:List (au × Nat)) (n st:Nat) (B:dQ):ai:=⟨C,B,[⟨V,n⟩],st⟩
section
variable {C:List (List Int)} {V:List (au × Nat)} {n st fuel:Nat} {B:dQ}
theorem S4.cur:(S4 C V n st B).cur=⟨V,n⟩:=rfl
theorem S4.step (h:st<fuel):(S4 C V n st B).step fuel = .ok (S4 C V n (st+1) B):=by
 unfold ai.step
 rw[if_neg (by show ¬ fuel<=st;omega)];rfl
theorem S4.open {x:ByteArray} {k v:Int} (h:bz V x=none):(S4 C V n st B).open x k v = .ok (S4 (C ++ [if k=1 then[v]else[]]) (V ++ [(⟨x,k,0⟩,C.length)]) (n+1) st B):=by
 unfold ai.open
 rw[S4.cur,h];rfl
theorem S4.close {x:ByteArray} {v c:Int} {i:Nat} (h:C[i]? = some [c]):(S4 C (V ++ [(⟨x,1,0⟩,i)]) (n+1) st B).close x v=some (if c=v then .ok (S4 C V n st B)else .error 16):=by
 unfold ai.close
 rw[S4.cur,if_neg (by simp)]
 simp only[List.getLast?_concat]
 rw[if_neg (by simp)]
 rw[show(S4 C (V ++ [(⟨x,1,0⟩,i)]) (n+1) st B).cells[i]? = some [c]from h]
 by_cases hc:c=v
 · simp[hc,ai.setCur,S4]
 · simp[hc]
theorem S4.NI {x:ByteArray} {c:List Int} {i:Nat} (h:C[i]? = some c):(S4 C (V ++ [(⟨x,3,0⟩,i)]) (n+1) st B).close x 0=some (if c=[]then .ok (S4 C V n st B)else .error 16):=by
 unfold ai.close
 rw[S4.cur,if_neg (by simp)]
 simp only[List.getLast?_concat]
 rw[if_neg (by simp)]
 rw[show(S4 C (V ++ [(⟨x,3,0⟩,i)]) (n+1) st B).cells[i]? = some c from h]
 by_cases hc:c=[]
 · simp[hc,ai.setCur,S4]
 · simp[hc]
theorem S4.look {x:ByteArray} {d:au} {i:Nat} {c:List Int} (h:bz V x=some (d,i)) (hc:C[i]? = some c):(S4 C V n st B).look x=some c:=by
 unfold ai.look
 rw[S4.cur]
 show(bz V x).map (λv=>C.getD v.2 [])=_
 rw[h]
 simp[List.getD,hc]
theorem S4.num {v:Int} (hv:0<=v):(S4 C V n st B).val (aC v)=some (v,0):=by
 unfold ai.val aC
 rw[if_pos (by simp[aJ,hv];rfl)]
 rfl
theorem S4.var {x:ByteArray} {d:au} {i:Nat} {c:Int} (hx:aJ (bR x)=true) (h:bz V x=some (d,i)) (hc:C[i]? = some [c]):(S4 C V n st B).val (bR x)=some (c,0):=by
 unfold ai.val
 rw[if_pos hx]
 unfold bR gL
 rw[if_neg (by decide),if_pos rfl,S4.look h hc];rfl
theorem S4.size {x:ByteArray} {d:au} {i:Nat} {c:List Int} (hx:aJ (aS x)=true) (h:bz V x=some (d,i)) (hc:C[i]? = some c):(S4 C V n st B).val (aS x)=some ((c.length:Int),0):=by
 unfold ai.val
 rw[if_pos hx]
 unfold aS gL
 rw[if_neg (by decide),if_neg (by decide),if_pos rfl,S4.look h hc]
theorem S4.eq {a b:Tree} {u v:Int} (hx:aJ (aX a b)=true) (ha:(S4 C V n st B).val a=some (u,0)) (hb:(S4 C V n st B).val b=some (v,0)):(S4 C V n st B).val (aX a b)=some (if u=v then 1 else 0,0):=by
 have h2:aJ a=true/\aJ b=true:=by
  have h3:=hx
  unfold aX aJ at h3
  simp[kS]at h3
  exact h3.2
 unfold ai.val at ha hb ⊢
 rw[if_pos h2.1]at ha
 rw[if_pos h2.2]at hb
 rw[if_pos hx]
 unfold aX gL
 rw[if_neg (by decide),if_neg (by decide),if_neg (by decide),if_pos rfl]
 simp only[gL.xg,ha,hb]
 rfl
theorem S4.value {t:Tree} {v:Int} (h:(S4 C V n st B).val t=some (v,0)):(S4 C V n st B).value t=some (.ok v):=by
 unfold ai.value
 rw[h];rfl
theorem S4.holds {t:Tree} {v:Int} (hf:st<fuel) (h:(S4 C V n (st+1) B).val t=some (v,0)):(S4 C V n st B).holds fuel t=some (.ok (v != 0,S4 C V n (st+1) B)):=by
 unfold ai.holds
 rw[S4.step hf]
 simp only[aI]
 rw[S4.value h]
theorem S4.pop {x p:ByteArray} {dn dp:au} {i j:Nat} {c:List Int} {v:Int} (h:bz V x=some (dn,i)) (hk:dn.kind=3) (h2:bz V p=some (dp,j)) (hk2:dp.kind=1) (hc:C[i]? = some c) (hv:C[j]? = some [v]) (hij:i≠j):(S4 C V n st B).move false x p=some (if c=[]then .error 13 else if v≠0 then .error 14 else .ok (S4 ((C.set i c.dropLast).set j [c.getLast?.getD 0]) V n st B)):=by
 unfold ai.move
 simp only[S4.cur,h,h2,hk,hk2,ne_eq,not_true_eq_false,if_false]
 show(match C[j]?,C[i]? with|some [x],some c=>_|_,_=>_)=_
 rw[hv,hc]
 simp only[hij,if_false,Bool.false_eq_true,List.length_eq_zero_iff]
 by_cases h1:c=[]
 · simp[h1]
 · rw[if_neg h1,if_neg h1]
   by_cases h2:v=0
   · simp[h2,S4]
   · simp[h2]
theorem S4.push {x p:ByteArray} {dn dp:au} {i j:Nat} {c:List Int} {v:Int} (h:bz V x=some (dn,i)) (hk:dn.kind=3) (h2:bz V p=some (dp,j)) (hk2:dp.kind=1) (hc:C[i]? = some c) (hv:C[j]? = some [v]) (hij:i≠j):(S4 C V n st B).move true x p=some (if 1000<=c.length then .error 5 else .ok (S4 ((C.set i (c ++ [v])).set j [0]) V n st B)):=by
 unfold ai.move
 simp only[S4.cur,h,h2,hk,hk2,ne_eq,not_true_eq_false,if_false]
 show(match C[j]?,C[i]? with|some [x],some c=>_|_,_=>_)=_
 rw[hv,hc]
 simp only[hij,if_false,if_true]
 by_cases h1:1000<=c.length
 · simp[h1]
 · rw[if_neg h1,if_neg h1];rfl
end
theorem Bo (V:List (au × Nat)) (d:au × Nat) (n:ByteArray):bz (V ++ [d]) n=if d.1.name == n then some d else bz V n:=by
 induction V with
 |nil=>simp[bz]
 |cons a V ih =>
  rw[List.cons_append,bz,ih]
  by_cases h:(d.1.name == n)=true
  · simp[h]
  · simp only[h]
    rfl
section
variable {P:List bC} {fuel g:Nat} {b:Bool} {s:ai}
theorem kN:exec P fuel (g+1) (.stmts []) b s=some (.ok s):=rfl
theorem fZ {t:Tree} {r:List Tree} : exec P fuel (g+1) (.stmts (t :: r)) b s=aI (exec P fuel g (.stmt t) b s) λs=>exec P fuel g (.stmts r) b s:=rfl
theorem wR {x:ByteArray} {f z:Tree} {l:List Tree} (h:aW (dK x f l z)=true):exec P fuel (g+1) (.stmt (dK x f l z)) b s=aI (some (s.step fuel)) λs =>
 aI (s.value (if b then z else f)) λv =>
 aI (some (s.open x 1 v)) λs =>
 aI (exec P fuel g (.stmts (turned b l)) b s) λs =>
 aI (some (s.step fuel)) λs =>
 aI (s.value (if b then f else z)) λv=>s.close x v:=by
 rw[exec,if_neg (by rw[h];decide),if_neg (show ¬ (dK x f l z).kind=53 from by show ¬ (54:Int)=53;decide),if_pos (show(dK x f l z).kind=54 from rfl)]
 cases b <;> rfl
theorem Nl {x:ByteArray} {l:List Tree} (h:aW (uD x l)=true):exec P fuel (g+1) (.stmt (uD x l)) b s=aI (some (s.step fuel)) λs =>
 aI (some (s.open x 3 0)) λs =>
 aI (exec P fuel g (.stmts (turned b l)) b s) λs =>
 aI (some (s.step fuel)) λs=>s.close x 0:=by
 rw[exec,if_neg (by rw[h];decide),if_neg (show ¬ (uD x l).kind=53 from by show ¬ (55:Int)=53;decide),if_neg (show ¬ (uD x l).kind=54 from by show ¬ (55:Int)=54;decide),if_pos (show(uD x l).kind=55 from rfl)]
 rfl
theorem zJ {e x:Tree} {l:List Tree} (h:aW (cO e x l)=true):exec P fuel (g+1) (.stmt (cO e x l)) b s=aI (s.holds fuel (if b then x else e)) λy=>if y.1 then exec P fuel g (.round (cO e x l)) b y.2 else some (.error 15):=by
 rw[exec,if_neg (by rw[h];decide),if_pos (by rfl)]
 cases b <;> rfl
theorem Bp {e x:Tree} {l:List Tree} : exec P fuel (g+1+1) (.round (cO e x l)) b s =
 aI (s.holds fuel (if b then e else x)) λy =>
 if y.1 then some (.ok y.2)else
 aI (exec P fuel (g+1) (.stmts (turned b l)) b y.2) λs =>
 aI (s.holds fuel (if b then x else e)) λy =>
 if y.1 then some (.error 15)else exec P fuel (g+1) (.round (cO e x l)) b y.2:=by
 rw[exec]
 have:turned b (jA (cO e x l) 1).kids=[]:=by cases b <;> rfl
 rw[this,kN]
 cases b <;> rfl
theorem Ep {x p:ByteArray} (h:aW (fT x p)=true):exec P fuel (g+1) (.stmt (fT x p)) b s=aI (some (s.step fuel)) λs=>s.move b p x:=by
 rw[exec,if_neg (by rw[h];decide),if_neg (show ¬ (fT x p).kind=53 from by show ¬ (45:Int)=53;decide),if_neg (show ¬ (fT x p).kind=54 from by show ¬ (45:Int)=54;decide),if_neg (show ¬ (fT x p).kind=55 from by show ¬ (45:Int)=55;decide),if_neg (show ¬ ((fT x p).kind=50\/(fT x p).kind=51)from by show ¬ ((45:Int)=50\/(45:Int)=51);decide),if_pos (show((fT x p).kind=44\/(fT x p).kind=45)/\(jA (fT x p) 0).kind=2 from by show((45:Int)=44\/(45:Int)=45)/\(2:Int)=2;decide)]
 cases b <;> rfl
theorem uR {x p:ByteArray} (h:aW (psT x p)=true):exec P fuel (g+1) (.stmt (psT x p)) b s=aI (some (s.step fuel)) λs=>s.move (!b) p x:=by
 rw[exec,if_neg (by rw[h];decide),if_neg (show ¬ (psT x p).kind=53 from by show ¬ (44:Int)=53;decide),if_neg (show ¬ (psT x p).kind=54 from by show ¬ (44:Int)=54;decide),if_neg (show ¬ (psT x p).kind=55 from by show ¬ (44:Int)=55;decide),if_neg (show ¬ ((psT x p).kind=50\/(psT x p).kind=51)from by show ¬ ((44:Int)=50\/(44:Int)=51);decide),if_pos (show((psT x p).kind=44\/(psT x p).kind=45)/\(jA (psT x p) 0).kind=2 from by show((44:Int)=44\/(44:Int)=45)/\(2:Int)=2;decide)]
 cases b <;> rfl
end
section
variable {P:Program} {Q:Exit->Act->World->Prop}
theorem ZP {id:Nat} {a:Act} {w:World} {l:List Oper} (m:Nat) (N:Nat) (ds:List (Option Tmp)) (ns:List (List Nat)) (T:List Nat) (Ss:List Sp) (iJ:AS ((Ss.map Sp.k).filterMap Kd.zero) T 0 Ss) (hR0:∀ i R iv z t,(Ss.map Sp.k).getD i .op = .rs R iv z t->R<w.heap.size/\w.heap[R]? = some (.cells z t (0,0)))
 (hstep:iX (lT P ds (bK (l.take m).toArray) ns T Ss w a) 0 (l.take m))
 (hend:∀ (vs:Nat->Value) (x:World),GE T Ss w vs x->wpList P l.toArray Q (l.drop m) (aK ds (λj=>sv (Ss.getD j .n) (vs j)) (rg 0 ds) a) x)
 (hN:a.tmps.size=N:=by rfl) (hok:fI N (l.take m).toArray ds (bK (l.take m).toArray) ns []=true:=by kernel_rfl) (hkd:tH (bK (l.take m).toArray) (jF T Ss.length) (Ss.map Sp.k)=true:=by kernel_rfl) (hlen:(Ss.map Sp.k).length=(l.take m).length:=by rfl) (hr:rg 0 ds=List.range (l.take m).length:=by rfl) (hc:mi T Ss=true:=by kernel_rfl)
 (hsp:wY (bK l.toArray) m l.length=true:=by kernel_rfl) (hg:Bv l=true:=by kernel_rfl) (jE:(l.take m).length=m:=by rfl):(Code.region id l.toArray false).wp P Q a w:=by
 refine wp_region ?_
 have hl:l.take m ++ l.drop m=l:=List.take_append_drop m l
 have h1:=KH (P:=P) (Q:=Q) (pre:=l.take m) (suf:=l.drop m) (a:=a) (w:=w) (by rw[hl,jE];exact hsp) (by rw[hl];exact hg) (by
  refine DY N ds (bK (l.take m).toArray) ns (jF T Ss.length) (Ss.map Sp.k) (Ss.map Sp.P) hN hok hkd hlen (pW Ss) (by have:=iJ.all;rwa[← List.range_eq_range']at this) hR0 (zw (λ_ _ h=>h.s) _ _ hstep) λvs x h => ?_
  have h1:=GE.of h hc
  have h2:=hend vs x h1
  rw[hl]
  rwa[hr,uP _ _ λj _=>h1.c j]at h2)
 rw[hl]at h1
 have h:=Kw (ops:=l.toArray) ?_ l.toArray.size 0 _ a w (by simp) (by simp) (λj hj => ?_) h1
 · rw[List.range_eq_range'];exact h
 · intro i o ho e he hb
   have hi:i<l.toArray.size:=(Array.getElem?_eq_some_iff.1 ho).1
   simp only[wY,Bool.and_eq_true]at hsp
   have h3:=List.all_eq_true.1 hsp.1 i (List.mem_range.2 (by simpa using hi))
   have hm:e.on∈(bK l.toArray).getD i []:=by
    simp only[bK]
    have ho':l[i]? = some o:=by simpa using ho
    simp[ho',and_assoc]
    exact⟨e,he,hb,rfl⟩
   simpa using List.all_eq_true.1 h3 e.on hm
 · have:j<l.length:=by simpa using hj
   simp[this]
end
end Go.Proofs.YtbpodipdfohikaaGreat
