import Derived.Test.YtadecgbblajifaaGreatDoorE04
import Derived.Laws.AppendOwn
set_option linter.unusedSimpArgs false
set_option linter.unusedVariables false
set_option maxRecDepth 100000
set_option maxHeartbeats 25600000
namespace Go.Proofs.YtadecgbblajifaaGreatDoor
end Go.Proofs.YtadecgbblajifaaGreatDoor
namespace Go.Proofs.YtadecgbblajifaaGreatDoor.DV
open Go
variable {P:Program}
def jQ (σ:au) (s:Nat):D->Option (List D)
 |.own _ i off n=>match σ i with
  |some (.ar s' ds)=>if Nat.beq s s' && Nat.ble (off+n) ds.length then some ((ds.drop off).take n)else none
  |_=>none
 |.sl _ s' xs=>if Nat.beq s s' then some xs else none
 |.e0=>some []
 |.lf (.slice none n _)=>if Nat.beq n 0 then some []else none
 |.lf (.string b)=>if Nat.beq s 1 then some (b.data.toList.map λb => .lf (.int .u8 b.toNat))else none
 |_=>none
theorem Am {g:G} {s:Nat} : ∀ (xs ys:List D) (cs ds:List Value),aj g (List.replicate xs.length s) xs cs->aj g (List.replicate ys.length s) ys ds->aj g (List.replicate (xs ++ ys).length s) (xs ++ ys) (cs ++ ds)
 | [],ys,cs,ds,h,k=>by
  simp only[List.length_nil,List.replicate_zero,aj]at h
  subst h
  simpa using k
 |x :: xs,ys,cs,ds,h,k=>by
  simp only[List.length_cons,List.replicate_succ,aj]at h
  have ih:=Am xs ys _ ds h.2.2 k
  simp only[List.cons_append,List.length_cons,List.replicate_succ,aj]
  refine⟨by simp;omega,?_,?_⟩
  · rw[List.take_append_of_le_length h.1];exact h.2.1
  · rw[List.drop_append_of_le_length h.1];exact ih
theorem Ig {g:G} : ∀ l:List UInt8,aj g (List.replicate (l.map λb=>D.lf (.int .u8 b.toNat)).length 1) (l.map λb=>D.lf (.int .u8 b.toNat)) (l.map λb=>Value.int .u8 b.toNat)
 | []=>by simp[aj]
 |b :: l=>by
  have ih:=Ig (g:=g) l
  simp only[List.map_cons,List.length_cons,List.replicate_succ,aj]
  exact⟨by simp,by simp[CR,Value.oneCell'],by simpa using ih⟩
theorem Ih {w:World} {b o n s:Nat} {blk:List Value} {c k:Nat} (hm:mem w b=some blk) (hl:o+n * s<=blk.length):(Builtin.firstCells s n (.slice (some ⟨b,o,none⟩) k c)).run P w = .ok ⟨bu blk o (n * s)⟩ w:=by
 simp only[Builtin.firstCells]
 exact Nb hm hl
theorem xP {g:G} {σ:au} {w:World} {s:Nat} {x:D} {v:Value} {zs:List D} (R:Rel g σ w) (h:jQ σ s x=some zs) (hx:VR g x v) :
 ∃ cs,aj g (List.replicate zs.length s) zs cs/\(∀ w',w'.heap=w.heap->(Builtin.lenOf v).run P w' = .ok zs.length w'/\(Builtin.firstCells s zs.length v).run P w' = .ok ⟨cs⟩ w'):=by
 unfold jQ at h
 split at h
 · rename_i _ i off n
   split at h
   case h_2=>simp at h
   rename_i s' ds hσ
   split at h
   case isFalse=>simp at h
   rename_i hb
   simp only[Bool.and_eq_true]at hb
   have h1:=Nat.eq_of_beq_eq_true hb.1
   have h2:=Nat.le_of_ble_eq_true hb.2
   subst h1
   simp only[Option.some.injEq]at h
   subst h
   obtain⟨l,blk,H⟩:=R.has hσ rfl
   have hls:l.s=s:=H.s
   simp only[VR,CR,List.cons.injEq,and_true]at hx
   obtain⟨l',ad,c,hl',rfl,hnc,hor⟩:=hx
   have:l'=l:=by have:=H.ae;rw[hl']at this;simpa using this
   subst this
   have hn:((ds.drop off).take n).length=n:=by simp;omega
   have hcr:=H.cr
   simp only[CR,wrap]at hcr
   obtain⟨c0,hc0,hcr⟩:=hcr
   have e1:=xO n _ _ (xN off ds _ hcr)
   rw[hn]at e1
   have hle:off * s+n * s<=ds.length * s:=by rw[← Nat.add_mul];exact Nat.mul_le_mul_right s h2
   have e2:=DT blk l'.o (ds.length * s) (off * s) (n * s) hle
   have e3:c0=bu blk l'.o (ds.length * s):=hc0.symm
   rw[e3,e2]at e1
   have hL:=H.len
   have hS:=H.sz
   simp only[sz]at hS
   rw[hn]
   refine⟨_,e1,λw' hw=>⟨by simp[Builtin.lenOf],?_⟩⟩
   rcases hor with rfl|⟨rfl,_⟩
   · have:n=0:=by have:=hnc.1;omega
     subst this
     simp[Builtin.firstCells,loadCells,loadCellsFrom,bu]
   · have hm:mem w' l'.b=some blk:=by
      have:=H.row.mem
      unfold mem at this ⊢
      rw[hw];exact this
     rw[hls]
     exact Ih hm (by omega)
 · rename_i _ s' xs
   split at h
   case isFalse=>simp at h
   rename_i hb
   have h1:=Nat.eq_of_beq_eq_true hb
   subst h1
   simp only[Option.some.injEq]at h
   subst h
   simp only[VR,CR,List.cons.injEq,and_true]at hx
   obtain⟨ad,c,rfl,hnc,hor⟩:=hx
   rcases hor with rfl|⟨b,o,blk,rfl,hm,hl,hcr⟩
   · exact⟨[],by simp[aj],λw' _=>⟨by simp[Builtin.lenOf],by cases ad <;> simp[Builtin.firstCells,loadCells,loadCellsFrom]⟩⟩
   refine⟨_,hcr,λw' hw=>⟨by simp[Builtin.lenOf],?_⟩⟩
   refine Ih (blk:=blk) ?_ hl
   have:=R.fm _ _ hm
   unfold mem at this ⊢
   rw[hw];exact this
 · simp only[Option.some.injEq]at h
   subst h
   simp only[VR,CR,List.cons.injEq,and_true]at hx
   obtain⟨a,rfl⟩:=hx
   exact⟨[],by simp[aj],λw' _=>⟨by simp[Builtin.lenOf],by simp[Builtin.firstCells,loadCells,loadCellsFrom]⟩⟩
 · rename_i n _
   split at h
   case isFalse=>simp at h
   rename_i hb
   have hb:=Nat.eq_of_beq_eq_true hb
   simp only[Option.some.injEq]at h
   subst h hb
   have hx:=dh hx
   subst hx
   exact⟨[],by simp[aj],λw' _=>⟨by simp[Builtin.lenOf],by simp[Builtin.firstCells]⟩⟩
 · rename_i b
   split at h
   case isFalse=>simp at h
   rename_i hb
   have hb:=Nat.eq_of_beq_eq_true hb
   simp only[Option.some.injEq]at h
   subst h hb
   have hx:=dh hx
   subst hx
   refine⟨_,Ig b.data.toList,λw' _=>⟨?_,?_⟩⟩
   · simp only[Builtin.lenOf,List.length_map,Array.length_toList];rfl
   · have:b.extract 0 b.size=b:=by simp
     simp only[Builtin.firstCells,List.length_map,Array.length_toList]
     rw[show b.data.size=b.size from rfl,this]
     simp only[Sem.run_pure]
     congr 1
     apply Array.ext';simp
 · simp at h
def yO:D->Bool
 |.own _ _ _ _ | .sl _ _ _ | .e0 | .lf (.slice none 0 _)=>true
 |_=>false
def yP (t:Bool) (i n:Nat) (d:D):Eff:=match t with
 |true=>[(n,some d)]
 |false=>[(i,none),(n,some d)]
def xQ (y ye:Ty) (σ:au) (dC:Nat) (x z:D):Option (D × Eff):=match y.k with
 |.sl _ s=>match jQ σ s z with
  |some []=>if yO x then some (x,[])else none
  |some (z0 :: zs)=>match gX ye.zero && Nat.beq (sz ye.zero) s with
   |true=>match x with
    |.own tt i _ _=>match jQ σ s x with
     |some os=>if Nat.ble ((os.length+(z0 :: zs).length) * ye.bytes) 140737488355328 && Nat.ble (os.length+(z0 :: zs).length) 9223372036854775807 then some (.own false dC 0 (os.length+(z0 :: zs).length),yP tt i dC (.ar s (os ++ z0 :: zs)))else none
     |none=>none
    |.sl true s' xs=>if Nat.beq s s' && (Nat.ble ((xs.length+(z0 :: zs).length) * ye.bytes) 140737488355328 && Nat.ble (xs.length+(z0 :: zs).length) 9223372036854775807)then some (.own false dC 0 (xs.length+(z0 :: zs).length),[(dC,some (.ar s (xs ++ z0 :: zs)))])else none
    |.e0=>if Nat.ble ((z0 :: zs).length * ye.bytes) 140737488355328 && Nat.ble (z0 :: zs).length 9223372036854775807 then some (.own false dC 0 (z0 :: zs).length,[(dC,some (.ar s (z0 :: zs)))])else none
    |.lf (.slice none 0 0)=>if Nat.ble ((z0 :: zs).length * ye.bytes) 140737488355328 && Nat.ble (z0 :: zs).length 9223372036854775807 then some (.own false dC 0 (z0 :: zs).length,[(dC,some (.ar s (z0 :: zs)))])else none
    |_=>none
   |false=>none
  |none=>none
 |_=>none
def nM (y:Ty):Bool:=match y.k with
 |.sl _ _ | .str=>true
 |_=>false
theorem Hy {y:Ty} {t:Nat} (hy:aW P t y) (h:nM y=true):(∃ e,P.underlying t=some (.slice e))\/P.underlying t=some .string:=by
 obtain⟨u,hu,-,hk⟩:=hy.und
 unfold nM at h
 split at h <;> rename_i hf <;> (try (simp at h;done)) <;> rw[hf]at hk <;> cases u <;> simp only[bz]at hk
 · exact .inl ⟨_,hu⟩
 · exact .inr hu
theorem WZ (z:Array Value) (n:Nat):(Builtin.zeroCells z n).size=n * z.size:=by simp[Builtin.zeroCells]
theorem IB {y2 ye:Ty} {w:World} {t t2 ty el s m n sCap:Nat} {base:Option Addr} {x:Value} {z:Value} {olds news:List Value} (hu:P.underlying t=some (.slice el)) (hs:mQ P el s) (hy2:aW P t2 y2) (h2:nM y2=true) (hye:aW P el ye)
 (hz:∀ w,(zeroValue el).run P w = .ok z w) (hzs:z.cells.size=s)
 (hcap:sCap<m+n) (hl:∀ w',w'.heap=w.heap->(Builtin.lenOf x).run P w' = .ok n w'/\(Builtin.firstCells s n x).run P w' = .ok ⟨news⟩ w') (ho:∀ w',w'.heap=w.heap->(Builtin.firstCells s m (.slice base m sCap)).run P w' = .ok ⟨olds⟩ w')
 (hb:(m+n) * ye.bytes<=140737488355328) (h63:m+n<=9223372036854775807) :
 ∃ w' cap rest,(Builtin.append_ #[t,t2] ty #[.slice base m sCap,x]).run P w = .ok (.slice (some ⟨w.heap.size,0,none⟩) (m+n) cap) w'/\m+n<=cap/\rest.length=(cap - (m+n)) * s/\w'.heap=w.heap.push (.cells ⟨olds ++ news ++ rest⟩ el)/\Sm w w':=by
 obtain⟨i,z',hi,hi1,hi2,hi3,_⟩:=hye.info
 have hfit:=growslice_fits hcap hb
 have hcut:=grownCap_ge w (m+n) sCap el
 refine⟨w.drew.alloc (.cells ⟨olds ++ news ++ (Builtin.zeroCells z.cells (grownCap w (m+n) sCap el - (m+n))).toList⟩ el),grownCap w (m+n) sCap el,(Builtin.zeroCells z.cells (grownCap w (m+n) sCap el - (m+n))).toList,?_,hcut,by simp[WZ,hzs],rfl,rfl,rfl,rfl⟩
 have hn:¬ (m+n<=sCap):=by omega
 have h63':¬ (9223372036854775807<((m:Int)+(n:Int))):=by omega
 have h48':¬ (281474976710656<Builtin.nextslicecap (m+n) sCap * i.bytes):=by rw[hi2];omega
 have hl1:=(hl w rfl).1
 have hl2:=(hl w.drew rfl).2
 have ho2:=ho w.drew rfl
 have hz2:=hz w.drew
 have hs':i.size=s:=by obtain⟨j,hj,h⟩:=hs;rw[hi]at hj;simp only[Option.some.injEq]at hj;rw[hj];exact h
 have hzz:z'=z:=by have:=hz w;simp[zeroValue,typeInfo,hi,hi3]at this;exact this
 subst hzz
 have fin:(⟨olds⟩:Array Value) ++ ⟨news⟩ ++ Builtin.zeroCells z'.cells (grownCap w (m+n) sCap el - (m+n))=⟨olds ++ news ++ (Builtin.zeroCells z'.cells (grownCap w (m+n) sCap el - (m+n))).toList⟩:=by
  apply Array.ext';simp
 rw[← fin]
 rcases Hy hy2 h2 with⟨e2,hu2⟩|hu2
 · simp[Builtin.append_,run_underlying hu,run_underlying hu2,sizeOf,typeInfo,zeroValue,hi,hi3,hs',hl1,hn,h63',h48',Question.forced,hl2,ho2,newRow,grownCap]
   congr 2
   apply Array.ext'
   simp
 · simp[Builtin.append_,run_underlying hu,run_underlying hu2,sizeOf,typeInfo,zeroValue,hi,hi3,hs',hl1,hn,h63',h48',Question.forced,hl2,ho2,newRow,grownCap]
   congr 2
   apply Array.ext'
   simp
theorem Zx {y2:Ty} {w:World} {t t2 ty el s m n sCap b o:Nat} {x:Value} {news blk:List Value} (hu:P.underlying t=some (.slice el)) (hs:mQ P el s) (hy2:aW P t2 y2) (h2:nM y2=true)
 (hcap:m+n<=sCap) (hl:(Builtin.lenOf x).run P w = .ok n w/\(Builtin.firstCells s n x).run P w = .ok ⟨news⟩ w) (hrow:row w b blk) (hfit:o+m * s+news.length<=blk.length) (h1:∀ v∈news,v.oneCell'=true) :
 ∃ w',(Builtin.append_ #[t,t2] ty #[.slice (some ⟨b,o,none⟩) m sCap,x]).run P w = .ok (.slice (some ⟨b,o,none⟩) (m+n) sCap) w'/\row w' b (splice blk (o+m * s) news)/\(∀ c,c≠b->w'.heap[c]? = w.heap[c]?)/\w'.heap.size=w.heap.size/\Sm w w':=by
 obtain⟨w',h3,h4,h5,h6⟩:=Dh (P:=P) news w b (o+m * s) 0 blk hrow (by omega) h1
 refine⟨w',?_,by simpa using h4,h5,h6⟩
 rcases Hy hy2 h2 with⟨e2,hu2⟩|hu2
 · simp[Builtin.append_,run_underlying hu,run_underlying hu2,ji hs,hl.1,hcap,hl.2,nI,h3]
 · simp[Builtin.append_,run_underlying hu,run_underlying hu2,ji hs,hl.1,hcap,hl.2,nI,h3]
theorem _W {blk cs ds:List Value} {o n m:Nat} (h:bu blk o n=cs) (hn:cs.length=n) (hd:ds.length=m) (hl:o+n+m<=blk.length):bu (splice blk (o+n) ds) o (n+m)=cs ++ ds:=by
 subst h
 apply List.ext_getElem?
 intro j
 simp only[bu,splice,List.getElem?_take,List.getElem?_drop,List.getElem?_append,List.length_take,List.length_drop]
 repeat' split
 all_goals first|omega|rfl|(congr 1;omega)|(rw[eq_comm,List.getElem?_eq_none_iff];omega)|skip
theorem XK {y y2 ye:Ty} {g:G} {σ:au} {w:World} {t t2 ty dC:Nat} {x z d:D} {vx vz:Value} {e:Eff} (hy:aW P t y) (hy2:aW P t2 y2) (h2:nM y2=true) (hye:aW P (gY y.k) ye)
 (h:xQ y ye σ dC x z=some (d,e)) (R:Rel g σ w) (hn:g.ae dC=none) (hx:VR g x vx) (hz:VR g z vz) :
 ∃ v w',(Builtin.append_ #[t,t2] ty #[vx,vz]).run P w = .ok v w'/\Out g σ w (· = dC) d e v w':=by
 unfold xQ at h
 obtain⟨u,hu,-,hk⟩:=hy.und
 obtain⟨zv,hzv,uw⟩:=hye.zero
 split at h
 case h_2=>simp at h
 rename_i el s hf
 rw[hf]at hk hzv hye
 simp only[gY]at hzv hye
 cases u <;> simp only[bz]at hk
 obtain⟨rfl,hs,hs0⟩:=hk
 rename_i el
 split at h
 ·
   rename_i he
   obtain⟨cs,_,hrun⟩:=xP (P:=P) R he hz
   have hl:=hrun w rfl
   simp only[List.length_nil]at hl
   split at h
   case isFalse=>simp at h
   rename_i hsl
   simp only[Option.some.injEq,Prod.mk.injEq]at h
   obtain⟨rfl,rfl⟩:=h
   have hv:∃ base m c,vx = .slice base m c/\m<=c:=by
    unfold yO at hsl
    split at hsl
    · simp only[VR,CR,List.cons.injEq,and_true]at hx
      obtain⟨l,a,c,_,rfl,h1,_⟩:=hx
      exact⟨_,_,_,rfl,h1.1⟩
    · simp only[VR,CR,List.cons.injEq,and_true]at hx
      obtain⟨ad,c,rfl,h1,_⟩:=hx
      exact⟨_,_,_,rfl,h1.1⟩
    · simp only[VR,CR,List.cons.injEq,and_true]at hx
      obtain⟨a,rfl⟩:=hx
      exact⟨_,_,_,rfl,Nat.le_refl _⟩
    · exact⟨_,_,_,dh hx,Nat.zero_le _⟩
    · simp at hsl
   obtain⟨base,m,c,rfl,hmc⟩:=hv
   have hc0:cs=[]:=by
    rename_i hcc
    simpa[aj]using hcc
   subst hc0
   refine⟨_,w,?_,Out.pure R hx⟩
   rcases Hy hy2 h2 with⟨e2,hu2⟩|hu2 <;> cases base <;>
    simp[Builtin.append_,run_underlying hu,run_underlying hu2,ji hs,hl.1,hmc,hl.2,storeCells]
 · rename_i z0 zs he
   obtain⟨news,hcr,hrun⟩:=xP (P:=P) R he hz
   generalize hzs:z0 :: zs=L at *
   have hnl:news.length=L.length * s:=by
    have:=(aj.len _ _ _ hcr).1
    rwa[List.sum_replicate_nat]at this
   have hL0:0<L.length:=by rw[← hzs];simp
   split at h
   case h_2=>simp at h
   rename_i hb
   simp only[Bool.and_eq_true]at hb
   have hz1:=wU (uw g) hb.1
   have hz2:=Nat.eq_of_beq_eq_true hb.2
   have hz3:=(CR.len _ _ hz1).1
   have hzc:zv.cells.size=s:=by rw[← hz2,← hz3];simp
   have hns:CR g false (.ar s L) news:=by
    simp only[CR,wrap]
    exact⟨_,rfl,hcr⟩
   have fresh:∀ (base:Option Addr),vx = .slice base 0 0->(Nat.ble (L.length * ye.bytes) 140737488355328 && Nat.ble L.length 9223372036854775807)=true ->
    ∃ v w',(Builtin.append_ #[t,t2] ty #[vx,vz]).run P w = .ok v w'/\Out g σ w (· = dC) (.own false dC 0 L.length) [(dC,some (.ar s L))] v w':=by
    rintro base rfl hbb
    simp only[Bool.and_eq_true]at hbb
    have hb1:=Nat.le_of_ble_eq_true hbb.1
    have hb2:=Nat.le_of_ble_eq_true hbb.2
    obtain⟨w',cap,rest,h3,h4,h5,h6,hsm⟩:=IB (P:=P) (w:=w) (ty:=ty) (m:=0) (sCap:=0) (base:=base) (olds:=[]) hu hs hy2 h2 hye hzv hzc (by omega) hrun
     (λw' _=>by cases base <;> simp[Builtin.firstCells,loadCells,loadCellsFrom]) (by simpa using hb1) (by simpa using hb2)
    refine⟨_,w',h3,?_⟩
    simp only[Nat.zero_add,List.nil_append]at h4 h5 h6 ⊢
    have hcap:cap * s=L.length * s+rest.length:=by rw[h5,← Nat.add_mul];congr 1;omega
    refine Out.new (d := .ar s L) (blk:=news ++ rest) s R hn ⟨el,(0,0),by rw[h6];simp,λk _ h=>by omega⟩ (λb hb=>by rw[h6];simp[Array.getElem?_push,Nat.ne_of_lt hb]) (by rw[h6];simp) (by simp[sz];omega) (by simp only[sz];rw[← hnl,List.take_left'];exact hns;rfl) rfl _ _ ?_ hsm
    intro g' hg
    simp only[VR,CR]
    exact⟨_,_,cap,hg,rfl,⟨h4,by simp⟩,.inr ⟨by simp,by simp;omega⟩⟩
   split at h
   · rename_i tt i off k
     split at h
     case h_2=>simp at h
     rename_i os hos
     split at h
     case isFalse=>simp at h
     rename_i hbb
     simp only[Bool.and_eq_true]at hbb
     have hb1:=Nat.le_of_ble_eq_true hbb.1
     have hb2:=Nat.le_of_ble_eq_true hbb.2
     simp only[Option.some.injEq,Prod.mk.injEq]at h
     obtain⟨rfl,rfl⟩:=h
     obtain⟨olds,Bw,Es⟩:=xP (P:=P) R hos hx
     have hol:olds.length=os.length * s:=by
      have:=(aj.len _ _ _ Bw).1
      rwa[List.sum_replicate_nat]at this
     simp only[jQ]at hos
     split at hos
     case h_2=>simp at hos
     rename_i s' ds hσ
     split at hos
     case isFalse=>simp at hos
     rename_i hb3
     simp only[Bool.and_eq_true]at hb3
     have h8:=Nat.eq_of_beq_eq_true hb3.1
     have h9:=Nat.le_of_ble_eq_true hb3.2
     subst h8
     simp only[Option.some.injEq]at hos
     obtain⟨l,blk,H⟩:=R.has hσ rfl
     have hls:l.s=s:=H.s
     simp only[VR,CR,List.cons.injEq,and_true]at hx
     obtain⟨l',ad,c,hl',rfl,hnc,hor⟩:=hx
     have:l'=l:=by have:=H.ae;rw[hl']at this;simpa using this
     subst this
     have wu:os.length=k:=by rw[← hos];simp;omega
     have hin:i≠dC:=by rintro rfl;rw[hn]at hl';simp at hl'
     have hall:CR g false (.ar s (os ++ L)) (olds ++ news):=by
      simp only[CR,wrap]
      exact⟨_,rfl,Am _ _ _ _ Bw hcr⟩
     have Ef:sz (.ar s (os ++ L))=(k+L.length) * s:=by simp[sz,wu]
     generalize he0:yP tt i dC (.ar s (os ++ L))=e
     have he1:aH e dC=some (some (.ar s (os ++ L))):=by
      cases tt <;> simp only[yP]at he0 <;> subst he0
      · rw[j5 _ _ (Ne.symm hin),xM]
      · rw[xM]
     have he2:∀ j,j≠dC->aH e j=none\/aH e j=some none:=by
      intro j hj
      cases tt <;> simp only[yP]at he0 <;> subst he0
      · by_cases hji:j=i
        · subst hji;exact .inr (xM _ _ _)
        · rw[j5 _ _ hji,j5 _ _ hj];exact .inl rfl
      · rw[j5 _ _ hj];exact .inl rfl
     have hrow:=H.row
     have hL:=H.len
     have hS:=H.sz
     rw[wu]at hb1 hb2 ⊢
     by_cases hcap:k+L.length<=c
     · have htf:tt=false:=by
        cases tt with
        |false=>rfl
        |true=>have:=hnc.2 rfl;omega
       subst htf
       simp only[yP]at he0
       rcases hor with rfl|⟨rfl,hfit⟩
       · omega
       rw[hls]at hfit ⊢
       have hle:(off+(k+L.length)) * s<=(off+c) * s:=Nat.mul_le_mul_right s (by omega)
       have hmul:(off+(k+L.length)) * s=off * s+k * s+L.length * s:=by rw[Nat.add_mul,Nat.add_mul];omega
       obtain⟨w',h3,h4,h5,h6,hsm⟩:=Zx (P:=P) (ty:=ty) (t2:=t2) (o:=l'.o+off * s) hu hs hy2 h2 hcap (hrun w rfl) hrow (by rw[hnl];omega) (aj.len _ _ _ hcr).2
       refine⟨_,w',h3,?_⟩
       have ab3:bu blk (l'.o+off * s) (k * s)=olds:=by
        have h7:=(Es w rfl).2
        rw[wu,hls,Ih (P:=P) (w:=w) (blk:=blk) hrow.mem (by omega)]at h7
        simpa using h7
       have hseg:=_W (ds:=news) ab3 (by rw[hol,wu]) hnl (by omega)
       have hp:=Af R dC ⟨l'.b,l'.o+off * s,l'.len - off * s,s⟩ (.ar s (os ++ L)) e (· = dC)
        (λ_ le h1 h2=>je.row h4 (by simp only[splice,List.length_append,List.length_take,List.length_drop];omega) (by rw[Ef,Nat.add_mul];simp only;omega) rfl
        (by rw[Ef,Nat.add_mul];simp only;rw[hseg];exact hall) le h1 h2) (.inr ⟨hn,rfl⟩) H.fm (λb hb _=>h5 b hb) (by omega) he1 he2
        (λj m hj hm hb=>by
         have:j=i:=R.dj j i m l' hj (by simp[hσ]) hm hl' hb
         subst this
         rw[← he0]
         exact .inr (xM _ _ _)) (.inr ⟨i,l',by simp[hσ],hl',rfl⟩) (.inr rfl) hsm
       subst he0
       refine⟨_,hp.1,hp.2,?_⟩
       simp only[VR,CR]
       refine⟨_,_,c,by simp[G.put];rfl,rfl,⟨hcap,by simp⟩,.inr ⟨by simp,?_⟩⟩
       rw[Nat.add_mul]at hfit
       simp only[Nat.zero_add]
       omega
     · have aa6:∀ w',w'.heap=w.heap->(Builtin.firstCells s k (.slice (some ad) k c)).run P w' = .ok ⟨olds⟩ w':=λw' hw=>by
        have:=(Es w' hw).2
        rwa[wu]at this
       obtain⟨w',cap,rest,h3,h4,h5,h6,hsm⟩:=IB (P:=P) (w:=w) (ty:=ty) (t2:=t2) (m:=k) (sCap:=c) (base:=some ad) (olds:=olds) hu hs hy2 h2 hye hzv hzc (by omega) hrun aa6 hb1 hb2
       refine⟨_,w',h3,?_⟩
       have hcap2:cap * s=(k+L.length) * s+rest.length:=by rw[h5,← Nat.add_mul];congr 1;omega
       have hbl:(olds ++ news ++ rest).length=cap * s:=by
        simp only[List.length_append,hol,hnl,wu]
        rw[hcap2,Nat.add_mul]
       have hf:g.fm w.heap.size=none:=by
        cases h:g.fm w.heap.size with
        |none=>rfl
        |some c=>have:=sG (R.fm _ _ h);omega
       have hp:=Af R dC ⟨w.heap.size,0,cap * s,s⟩ (.ar s (os ++ L)) e (· = dC)
        (λ_ le h1 h2=>je.row (blk:=olds ++ news ++ rest) ⟨el,(0,0),by rw[h6];simp,λk _ h=>by omega⟩ (by rw[hbl];simp) (by rw[Ef];exact Nat.mul_le_mul_right s h4) rfl
        (by
         have:(olds ++ news).length=(k+L.length) * s:=by simp[hol,hnl,wu,Nat.add_mul]
         rw[Ef];simp only[bu,List.drop_zero];rw[← this,List.take_left'];exact hall;rfl) le h1 h2) (.inr ⟨hn,rfl⟩) hf (λb _ hb=>by rw[h6];simp[Array.getElem?_push,Nat.ne_of_lt hb]) (by rw[h6];simp) he1 he2
        (λj m hj hm hb=>by
         cases hd:σ j with
         |none=>exact absurd hd hj
         |some d' =>
          obtain⟨l2,a⟩:=R.ob j d' hd
          have:l2=m:=by have:=a.ae;rw[hm]at this;simpa using this.symm
          subst this
          have:=a.lt
          simp only at hb;omega) (.inl (Nat.le_refl _)) (.inr rfl) hsm
       subst he0
       refine⟨_,hp.1,hp.2,?_⟩
       simp only[VR,CR]
       exact⟨_,_,cap,by simp[G.put];rfl,rfl,⟨h4,by simp⟩,.inr ⟨by simp,by simp⟩⟩
   · rename_i s' xs
     split at h
     case isFalse=>simp at h
     rename_i hbb
     simp only[Bool.and_eq_true]at hbb
     have h8:=Nat.eq_of_beq_eq_true hbb.1
     subst h8
     have hb1:=Nat.le_of_ble_eq_true hbb.2.1
     have hb2:=Nat.le_of_ble_eq_true hbb.2.2
     simp only[Option.some.injEq,Prod.mk.injEq]at h
     obtain⟨rfl,rfl⟩:=h
     obtain⟨olds,Bw,Es⟩:=xP (P:=P) (s:=s) (zs:=xs) R (by simp[jQ]) hx
     have hol:olds.length=xs.length * s:=by
      have:=(aj.len _ _ _ Bw).1
      rwa[List.sum_replicate_nat]at this
     simp only[VR,CR,List.cons.injEq,and_true]at hx
     obtain⟨ad,c,rfl,⟨hnc,hct⟩,_⟩:=hx
     have hc:=hct trivial
     subst hc
     have hall:CR g false (.ar s (xs ++ L)) (olds ++ news):=by
      simp only[CR,wrap]
      exact⟨_,rfl,Am _ _ _ _ Bw hcr⟩
     have hon:(olds ++ news).length=(xs.length+L.length) * s:=by simp[hol,hnl,Nat.add_mul]
     obtain⟨w',cap,rest,h3,h4,h5,h6,hsm⟩:=IB (P:=P) (w:=w) (ty:=ty) (m:=xs.length) (n:=L.length) (sCap:=xs.length) (base:=ad) (olds:=olds) hu hs hy2 h2 hye hzv hzc (by omega) hrun
      (λw' hw=>(Es w' hw).2) hb1 hb2
     refine⟨_,w',h3,?_⟩
     have hcap:cap * s=(xs.length+L.length) * s+rest.length:=by rw[h5,← Nat.add_mul];congr 1;omega
     refine Out.new (d := .ar s (xs ++ L)) (blk:=olds ++ news ++ rest) s R hn ⟨el,(0,0),by rw[h6];simp,λk _ h=>by omega⟩ (λb hb=>by rw[h6];simp[Array.getElem?_push,Nat.ne_of_lt hb]) (by rw[h6];simp) (by simp only[sz,@List.length_append _ (olds ++ news),hon,@List.length_append _ xs];omega)
      (by simp only[sz,@List.length_append _ xs];rw[← hon,List.take_left'];exact hall;rfl) rfl _ _ ?_ hsm
     intro g' hg
     simp only[VR,CR]
     exact⟨_,_,cap,hg,rfl,⟨h4,by simp⟩,.inr ⟨by simp,by simp only[@List.length_append _ (olds ++ news),hon,Nat.zero_add];omega⟩⟩
   · simp only[VR,CR,List.cons.injEq,and_true]at hx
     obtain⟨a,hx⟩:=hx
     split at h
     case isFalse=>simp at h
     rename_i hbb
     simp only[Option.some.injEq,Prod.mk.injEq]at h
     obtain⟨rfl,rfl⟩:=h
     exact fresh (some a) hx hbb
   · have hx:=dh hx
     split at h
     case isFalse=>simp at h
     rename_i hbb
     simp only[Option.some.injEq,Prod.mk.injEq]at h
     obtain⟨rfl,rfl⟩:=h
     exact fresh none hx hbb
   · simp at h
 · simp at h
end Go.Proofs.YtadecgbblajifaaGreatDoor.DV
namespace Go.Proofs.YtadecgbblajifaaGreatDoor
end Go.Proofs.YtadecgbblajifaaGreatDoor
