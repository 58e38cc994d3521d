import Derived.Test.YtadecgbblajifaaGreatDoorE05
import Derived.Laws.MakeOwn
import Derived.Laws.BytesString
set_option linter.unusedSimpArgs false
set_option linter.unusedVariables false
set_option maxRecDepth 100000
set_option maxHeartbeats 25600000
namespace Go.Proofs.YtadecgbblajifaaGreatDoor
end Go.Proofs.YtadecgbblajifaaGreatDoor
namespace Go.Proofs.YtadecgbblajifaaGreatDoor.DV
open Go
variable {P:Program}
def KJ (y ye:Ty) (dC:Nat) (l c:D):Option (D × Eff):=match y.k with
 |.sl _ s=>match mU l,mU c with
  |some n,some m=>if gX ye.zero && Nat.beq (sz ye.zero) s && Nat.ble n m && Nat.ble m 140737488355328 && Nat.ble (m * ye.bytes) 140737488355328 then some (.own (Nat.beq n m) dC 0 n,[(dC,some (.ar s (List.replicate m ye.zero)))])else none
  |_,_=>none
 |_=>none
theorem _X {y ye:Ty} {g:G} {σ:au} {w:World} {a:Act} {o:Oper} {t dC:Nat} {l c:Operand} {dl dc d:D} {e:Eff} (hy:aW P t y) (hye:aW P (gY y.k) ye) (ho:o.op = .makeSlice t l c)
 (h:KJ y ye dC dl dc=some (d,e)) (R:Rel g σ w) (hn:g.ae dC=none) (hl:VR g dl (a.eval l)) (hc:VR g dc (a.eval c)):Does P o a w (Out g σ w (· = dC) d e):=by
 unfold KJ at h
 obtain⟨u,hu,-,hk⟩:=hy.und
 split at h
 case h_2=>simp at h
 rename_i el s hf
 rw[hf]at hk hye
 simp only[gY]at hye
 obtain⟨i,z,hi,hi1,hi2,hi3,uw⟩:=hye.info
 cases u <;> simp only[bz]at hk
 obtain⟨rfl,hs,hs0⟩:=hk
 rename_i el
 split at h
 case h_2=>simp at h
 rename_i n m hn1 hm1
 split at h
 case isFalse=>simp at h
 rename_i hb
 simp only[Bool.and_eq_true]at hb
 obtain⟨⟨⟨⟨hb1,hb2⟩,hb3⟩,hb4⟩,hb5⟩:=hb
 have hb2:=Nat.eq_of_beq_eq_true hb2
 have hb3:=Nat.le_of_ble_eq_true hb3
 have hb4:=Nat.le_of_ble_eq_true hb4
 have hb5:=Nat.le_of_ble_eq_true hb5
 simp only[Option.some.injEq,Prod.mk.injEq]at h
 obtain⟨rfl,rfl⟩:=h
 obtain⟨k1,hl⟩:=xX hn1 hl
 obtain⟨k2,hc⟩:=xX hm1 hc
 have h1:=wU (uw g) hb1
 have zh:=(CR.len _ _ h1).1
 have hz0:z.cells.size=s:=by rw[← hb2,← zh];simp
 have hrow:CR g false (.ar s (List.replicate m ye.zero)) (List.replicate m z.cells.toList).flatten:=by
  simp only[CR,wrap,List.length_replicate]
  exact⟨_,rfl,Jm h1 (by omega) m⟩
 have hrl:=(CR.len _ _ hrow).1
 obtain⟨w',h11,h12⟩:=ND (P:=P) (e:=el) (len:=n) (cap:=m) (rest:=[]) R hn hrow hb3 (λht=>(Nat.eq_of_beq_eq_true ht).symm) (by rw[List.append_nil,hrl];simp[sz])
 refine Does.val (v := .slice (some ⟨w.heap.size,0,none⟩) n m) (w':=w') ?_ h12
 have hrep:=NW (cs:=z.cells.toList) m
 have hsi:i.size=s:=by obtain⟨j,hj,h⟩:=hs;rw[hi]at hj;simp only[Option.some.injEq]at hj;rw[hj];exact h
 have JZ:((Array.range (m * s)).map λi=>z.cells[i % z.cells.size]!)=⟨(List.replicate m z.cells.toList).flatten⟩:=by
  rw[← hrep]
  simp[hz0]
 have hbn:(i.bytes:Int) * (m:Int)<=281474976710656:=by
  have:((i.bytes * m:Nat):Int)<=281474976710656:=by rw[hi2,Nat.mul_comm];omega
  rwa[Int.natCast_mul]at this
 rw[List.append_nil]at h11
 have hmk:=run_make (P:=P) w t el i z hu hi hi3 k1 k2 (n:Int) (m:Int) (by omega) (by omega) hbn (by omega)
 simp only[Int.toNat_natCast,hsi,madeCells,JZ]at hmk
 have hw:w'=w.alloc (.cells ⟨(List.replicate m z.cells.toList).flatten⟩ el):=by
  have:(newRow el ⟨(List.replicate m z.cells.toList).flatten⟩).run P w = .ok ⟨w.heap.size,0,none⟩ (w.alloc (.cells ⟨(List.replicate m z.cells.toList).flatten⟩ el)):=rfl
  rw[h11]at this
  simpa using this
 subst hw
 simp[execOp,ho,hl,hc,hmk]
def Jn (y:Ty) (σ:au) (x z:D):Option (D × Eff):=match y.k with
 |.sl _ s=>match x with
  |.own _ i off k=>match σ i,jQ σ s z with
   |some (.ar s' ds),some zs=>if Nat.beq s s' && Nat.ble (off+k) ds.length && Nat.ble zs.length k && Nat.ble 1 zs.length then some (.lf (goInt zs.length),[(i,some (.ar s (ds.take off ++ (zs ++ ds.drop (off+zs.length)))))])else none
   |_,_=>none
  |_=>none
 |_=>none
def RO:D->Option UInt8
 |.lf (.int .u8 (.ofNat n))=>some (UInt8.ofNat n)
 |_=>none
def bytesD:List D->Option (List UInt8)
 | []=>some []
 |d :: l=>match RO d,bytesD l with
  |some b,some m=>some (b :: m)
  |_,_=>none
def Et (ys yd:Ty) (σ:au) (x:D):Option D:=match yd.k,ys.k with
 |.str,.sl _ s=>match (if Nat.beq s 1 then jQ σ s x else none)with
  |some ds=>match bytesD ds with
   |some l=>some (.lf (.string ⟨⟨l⟩⟩))
   |none=>none
  |none=>none
 |_,_=>none
theorem NY {g:G} : ∀ (ds:List D) (l:List UInt8) (cs:List Value),bytesD ds=some l->aj g (List.replicate ds.length 1) ds cs->∃ ns:List Int,cs=ns.map (Value.int .u8)/\l=ns.map λn=>UInt8.ofNat n.toNat
 | [],l,cs,h,H=>by
  simp only[bytesD,Option.some.injEq]at h
  simp only[List.length_nil,List.replicate_zero,aj]at H
  exact⟨[],by simp[H],by simp[← h]⟩
 |d :: ds,l,cs,h,H=>by
  simp only[bytesD]at h
  split at h
  case h_2=>simp at h
  rename_i b m hb hm
  simp only[Option.some.injEq]at h
  subst h
  simp only[List.length_cons,List.replicate_succ,aj]at H
  obtain⟨ns,h1,h2⟩:=NY ds m _ hm H.2.2
  unfold RO at hb
  split at hb
  case h_2=>simp at hb
  rename_i n
  simp only[Option.some.injEq]at hb
  have h3:=H.2.1
  simp only[CR]at h3
  refine⟨(n:Int) :: ns,?_,?_⟩
  · have:=List.take_append_drop 1 cs
    rw[h3.1,h1]at this
    rw[← this]
    rfl
  · rw[← hb,h2];rfl
theorem NF:∀ (ns:List Int) (s:ByteArray),ns.foldl (λr n=>r.push (UInt8.ofNat n.toNat)) s=⟨⟨s.data.toList ++ ns.map λn=>UInt8.ofNat n.toNat⟩⟩
 | [],s=>by simp
 |n :: ns,s=>by
  rw[List.foldl_cons,NF ns]
  simp
def wz:Tk->Bool
 |.it .u8=>true
 |_=>false
def J2 (yd ye:Ty) (dC:Nat):D->Option (D × Eff)
 |.lf (.string b)=>match yd.k with
  |.sl _ s=>if Nat.beq s 1 && wz ye.k then some (.own false dC 0 b.size,[(dC,some (.ar 1 (b.data.toList.map λb => .lf (.int .u8 b.toNat))))])else none
  |_=>none
 |_=>none
theorem PI {P:Program} {t:Nat} {y:Ty} (hy:aW P t y) (h:wz y.k=true):P.underlying t=some (.int .u8):=by
 obtain⟨u,hu,-,hk⟩:=hy.und
 unfold wz at h
 split at h
 · rename_i hf
   rw[hf]at hk
   cases u <;> simp only[bz]at hk
   rw[hu,hk]
 · simp at h
theorem Zy {ys yd ye:Ty} {g:G} {σ:au} {w:World} {N:Nat->Prop} {a:Act} {o:Oper} {s t:Nat} {x:Operand} {dx d:D} (hs:aW P s ys) (hd:aW P t yd) (hye:aW P (gY ys.k) ye) (wY:wz ye.k=true) (ho:o.op = .convert s t x)
 (h:Et ys yd σ dx=some d) (R:Rel g σ w) (hx:VR g dx (a.eval x)) (hsl:∃ b n c,a.eval x = .slice b n c):Does P o a w (Out g σ w N d []):=by
 unfold Et at h
 obtain⟨u,hu,-,hk⟩:=hs.und
 obtain⟨u',hu',-,hk'⟩:=hd.und
 split at h
 case h_2=>simp at h
 rename_i el sz' hf hf'
 rw[hf']at hk hye
 rw[hf]at hk'
 simp only[gY]at hye
 cases u <;> simp only[bz]at hk
 cases u' <;> simp only[bz]at hk'
 obtain⟨rfl,hs1,hs0⟩:=hk
 rename_i el
 split at h
 case h_2=>simp at h
 rename_i ds he
 split at he
 case isFalse=>simp at he
 rename_i hb
 have hb:=Nat.eq_of_beq_eq_true hb
 subst hb
 split at h
 case h_2=>simp at h
 rename_i l hl
 simp only[Option.some.injEq]at h
 subst h
 obtain⟨cs,hcr,hrun⟩:=xP (P:=P) R he hx
 obtain⟨ns,h1,h2⟩:=NY _ _ _ hl hcr
 obtain⟨b,n,c,hxv⟩:=hsl
 have hr:=hrun w rfl
 rw[hxv]at hr
 simp only[Builtin.lenOf,Sem.run_pure,Result.ok.injEq,and_true]at hr
 obtain⟨rfl,hr⟩:=hr
 refine Does.val (v := .string ⟨⟨l⟩⟩) (w':=w) ?_ (Out.pure R (fF _ _))
 have hue:=PI hye wY
 cases b with
 |none =>
  simp only[Builtin.firstCells,Sem.run_pure,Result.ok.injEq,and_true]at hr
  have hcs:cs=[]:=by
   have:=congrArg Array.toList hr
   simpa using this.symm
  subst hcs
  have hns:ns=[]:=by
   cases ns with
   |nil=>rfl
   |cons _ _=>simp at h1
  subst hns
  simp only[List.map_nil]at h2
  subst h2
  simp[execOp,ho,hxv,run_convert_bytes_string w s t el none _ c hu hue hu',Conv.bytesToString]
  rfl
 |some a0 =>
  simp only[Builtin.firstCells,Nat.mul_one]at hr
  have hbs:=run_bytesToString (P:=P) w a0 ds.length c ns (by rw[hr,h1])
  rw[NF]at hbs
  simp[execOp,ho,hxv,run_convert_bytes_string w s t el (some a0) _ c hu hue hu',hbs,h2]
theorem Zz {ys yd ye:Ty} {g:G} {σ:au} {w:World} {a:Act} {o:Oper} {s t dC:Nat} {x:Operand} {dx d:D} {e:Eff} (hs:aW P s ys) (hd:aW P t yd) (hye:aW P (gY yd.k) ye) (hstr:ys.k = .str) (ho:o.op = .convert s t x)
 (h:J2 yd ye dC dx=some (d,e)) (R:Rel g σ w) (hn:g.ae dC=none) (hx:VR g dx (a.eval x)):Does P o a w (Out g σ w (· = dC) d e):=by
 unfold J2 at h
 obtain⟨u,hu,-,hk⟩:=hs.und
 obtain⟨u',hu',-,hk'⟩:=hd.und
 split at h
 case h_2=>simp at h
 rename_i b
 split at h
 case h_2=>simp at h
 rename_i el sz' hf
 rw[hf]at hk' hye
 rw[hstr]at hk
 simp only[gY]at hye
 cases u <;> simp only[bz]at hk
 cases u' <;> simp only[bz]at hk'
 obtain⟨rfl,hs1,hs0⟩:=hk'
 rename_i el
 split at h
 case isFalse=>simp at h
 rename_i hb
 simp only[Bool.and_eq_true]at hb
 have hb1:=Nat.eq_of_beq_eq_true hb.1
 subst hb1
 have hue:=PI hye hb.2
 simp only[Option.some.injEq,Prod.mk.injEq]at h
 obtain⟨rfl,rfl⟩:=h
 have hx:=dh hx
 have hge:=grownCap_ge w b.size 0 el
 have hrow:CR g false (.ar 1 (b.data.toList.map λb=>D.lf (.int .u8 b.toNat))) (b.data.toList.map λb=>Value.int .u8 b.toNat):=by
  simp only[CR,wrap]
  exact⟨_,rfl,Ig _⟩
 have hbl:(b.data.toList.map λb=>Value.int .u8 b.toNat).length=b.size:=by rw[List.length_map,Array.length_toList];rfl
 let blk:List Value:=(b.data.toList.map λb=>Value.int .u8 b.toNat) ++ List.replicate (grownCap w b.size 0 el - b.size) (.int .u8 0)
 have hblk:blk.length=grownCap w b.size 0 el:=by simp only[blk,List.length_append,hbl,List.length_replicate];omega
 let w':World:=(w.drew.alloc (.cells ⟨blk⟩ el)).freeze ⟨w.heap.size,blk.length,none⟩ 1
 have hw':w'.heap=w.heap.push (.cells ⟨blk⟩ el (blk.length,blk.length+1)):=by
  simp only[w',World.freeze,World.alloc,World.drew]
  simp only[Nat.succ_ne_zero,if_false]
  apply Array.ext_getElem?
  intro i
  simp only[Array.getElem?_modify,Array.getElem?_push]
  split
  · rename_i h;subst h;simp
  · rename_i h
    have:¬ i=w.heap.size:=λh'=>h h'.symm
    simp[this]
 refine Does.val (v := .slice (some ⟨w.heap.size,0,none⟩) b.size (grownCap w b.size 0 el)) (w':=w') ?_ ?_
 · have hsh:(w.drew.alloc (.cells ⟨blk⟩ el)).shape? w.heap.size=some (el,blk.length):=by
    unfold World.shape? World.alloc World.drew
    simp
   have e1:(b.data.map λb=>Value.int .u8 b.toNat) ++ Array.replicate (grownCap w b.size 0 el - b.size) (.int .u8 0)=⟨blk⟩:=by
    apply Array.ext';simp[blk]
   simp only[grownCap]at e1
   simp[execOp,ho,hx,convert,run_underlying hu,run_underlying hu',run_underlying hue,Conv.stringToBytes,Question.forced,newRow,e1,markStringish,hsh,grownCap,w']
 · refine Out.new (d := .ar 1 _) (blk:=blk) 1 R hn ⟨el,(blk.length,blk.length+1),by rw[hw'];simp,λk hk h=>by simp only at h;omega⟩ (λb hb=>by rw[hw'];simp[Array.getElem?_push,Nat.ne_of_lt hb]) (by rw[hw'];simp) (by simp only[sz,List.length_map,Array.length_toList];rw[hblk,Nat.mul_one];exact hge) ?_ rfl _ _ ?_
   · have:sz (.ar 1 (b.data.toList.map λb=>D.lf (.int .u8 b.toNat)))=(b.data.toList.map λb=>Value.int .u8 b.toNat).length:=by simp[sz]
     rw[this,List.take_left']
     · exact hrow
     · rfl
   · intro g' hg
     simp only[VR,CR]
     exact⟨_,_,_,hg,rfl,⟨hge,by simp⟩,.inr ⟨by simp,by simp[hblk]⟩⟩
theorem OT {g:G} {s:Nat} {xs:List D} {cs:List Value} (h:aj g (List.replicate xs.length s) xs cs):cs.length=xs.length * s:=by
 have:=(aj.len _ _ _ h).1
 rwa[List.sum_replicate_nat]at this
theorem YN {y:Ty} {g:G} {σ:au} {w:World} {N:Nat->Prop} {t t2 ty:Nat} {x z d:D} {vx vz:Value} {e:Eff} (hy:aW P t y)
 (h:Jn y σ x z=some (d,e)) (R:Rel g σ w) (hx:VR g x vx) (hz:VR g z vz) :
 ∃ v w',(Builtin.copy_ #[t,t2] ty #[vx,vz]).run P w = .ok v w'/\Out g σ w N d e v w':=by
 unfold Jn at h
 obtain⟨u,hu,-,hk⟩:=hy.und
 split at h
 case h_2=>simp at h
 rename_i el s hf
 rw[hf]at hk
 cases u <;> simp only[bz]at hk
 obtain⟨rfl,hs,hs0⟩:=hk
 rename_i el
 split at h
 case h_2=>simp at h
 rename_i tt i off k
 split at h
 case h_2=>simp at h
 rename_i s' ds zs hσ he
 split at h
 case isFalse=>simp at h
 rename_i hb
 simp only[Bool.and_eq_true]at hb
 obtain⟨⟨⟨hb1,hb2⟩,hb3⟩,hb4⟩:=hb
 have hb1:=Nat.eq_of_beq_eq_true hb1
 have hb2:=Nat.le_of_ble_eq_true hb2
 have hb3:=Nat.le_of_ble_eq_true hb3
 have hb4:=Nat.le_of_ble_eq_true hb4
 subst hb1
 simp only[Option.some.injEq,Prod.mk.injEq]at h
 obtain⟨rfl,rfl⟩:=h
 obtain⟨news,hcr,hrun⟩:=xP (P:=P) R he hz
 have hnl:=OT hcr
 obtain⟨l,blk,H⟩:=R.has hσ rfl
 have hls:l.s=s:=H.s
 simp only[VR,CR,List.cons.injEq,and_true]at hx
 obtain⟨l',ad,c,hl',rfl,hnc,hor⟩:=hx
 have:l'=l:=by have:=H.ae;rw[hl']at this;simpa using this
 subst this
 rcases hor with rfl|⟨rfl,hfit⟩
 · omega
 rw[hls]at hfit ⊢
 have hL:=H.len
 have hS:=H.sz
 have wB:=H.cr
 simp only[sz]at hS wB
 simp only[CR,wrap]at wB
 obtain⟨cd,hcd,wB⟩:=wB
 simp only[Bool.false_eq_true,if_false]at hcd
 have agI:=OT wB
 have m1:(off+k) * s<=ds.length * s:=Nat.mul_le_mul_right s hb2
 have m2:zs.length * s<=k * s:=Nat.mul_le_mul_right s hb3
 rw[Nat.add_mul]at m1
 obtain⟨w',h3,h4,h5,h6,hsm⟩:=Dh (P:=P) news w l'.b (l'.o+off * s) 0 blk H.row (by rw[hnl];omega) (aj.len _ _ _ hcr).2
 have hr:=hrun w rfl
 refine⟨goInt zs.length,w',?_,?_⟩
 · simp[Builtin.copy_,run_underlying hu,ji hs,hr.1,Nat.min_eq_left hb3,hr.2,h3]
 · refine Out.set (d := .ar s (ds.take off ++ (zs ++ ds.drop (off+zs.length)))) (ET:=splice blk (l'.o+off * s) news) R hσ H (by simpa using h4) (by simp only[splice,List.length_append,List.length_take,List.length_drop];omega) h5 h6 ?_ ?_ hls _ _ (fF _ _) hsm
   · simp only[sz,List.length_append,List.length_take,List.length_drop]
     congr 1
     omega
   · have hlen:(ds.take off ++ (zs ++ ds.drop (off+zs.length))).length=ds.length:=by
      simp only[List.length_append,List.length_take,List.length_drop];omega
     have h7:bu (splice blk (l'.o+off * s) news) l'.o (ds.length * s)=cd.take (off * s) ++ (news ++ cd.drop ((off+zs.length) * s)):=by
      rw[← hcd,Nat.add_mul]
      apply List.ext_getElem?
      intro j
      simp only[bu,splice,List.getElem?_take,List.getElem?_drop,List.getElem?_append,List.length_take,List.length_drop]
      repeat' split
      all_goals first|omega|rfl|(congr 1;omega)|(rw[eq_comm,List.getElem?_eq_none_iff];omega)|skip
     have h8:=xO (g:=g) off ds cd wB
     have h9:=xN (g:=g) (off+zs.length) ds cd wB
     have h10:(ds.take off).length=off:=by simp;omega
     have h8:aj g (List.replicate (ds.take off).length s) (ds.take off) (cd.take (off * s)):=by rwa[h10]at h8 ⊢
     simp only[sz,hlen,CR,wrap]
     refine⟨_,rfl,?_⟩
     show aj g _ _ (bu (splice blk (l'.o+off * s) news) l'.o (ds.length * s))
     rw[h7]
     have:=Am _ _ _ _ h8 (Am _ _ _ _ hcr h9)
     rwa[hlen]at this
end Go.Proofs.YtadecgbblajifaaGreatDoor.DV
namespace Go.Proofs.YtadecgbblajifaaGreatDoor
end Go.Proofs.YtadecgbblajifaaGreatDoor
namespace Go.Proofs.YtadecgbblajifaaGreatDoor.DV
open Go
inductive Tr (α:Type) where
 |e
 |n (v:Option α) (l r:Tr α)
section
variable {α β:Type}
noncomputable def fN (n:Nat) (k:Nat->β):β:=Nat.rec (k 0) (λm _=>k (Nat.succ m)) n
theorem EX {a b:Nat} (h:¬ a=b):Nat.beq a b=false:=by
 cases hb:Nat.beq a b with
 |false=>rfl
 |true=>exact absurd (Nat.eq_of_beq_eq_true hb) h
theorem qW (n:Nat) (k:Nat->β):fN n k=k n:=by cases n <;> rfl
noncomputable def tgt (t:Tr α):Nat->Option α :=
 Tr.rec (motive:=λ_=>Nat->Option α) (λ_=>none) (λv _ _ gl gr k=>Bool.rec (Bool.rec (gr (Nat.div k 2)) (gl (Nat.div k 2)) (Nat.beq (Nat.mod k 2) 0)) v (Nat.beq k 1)) t
noncomputable def aX (t:Tr α) (k:Nat):Option α:=tgt t (Nat.succ k)
noncomputable def iy (d:Nat):Nat->Option α->Tr α->(Tr α->β)->β :=
 Nat.rec (motive:=λ_=>Nat->Option α->Tr α->(Tr α->β)->β) (λ_ _ t K=>K t)
  (λ_ ih i a t K=>Tr.rec (motive:=λ_=>β)
   (Bool.rec (fN (Nat.div i 2) λj=>Bool.rec (ih j a .e λt=>K (.n none .e t)) (ih j a .e λt=>K (.n none t .e)) (Nat.beq (Nat.mod i 2) 0)) (K (.n a .e .e)) (Nat.beq i 1))
   (λv l r _ _=>Bool.rec (fN (Nat.div i 2) λj=>Bool.rec (ih j a r λt=>K (.n v l t)) (ih j a l λt=>K (.n v t r)) (Nat.beq (Nat.mod i 2) 0)) (K (.n a l r)) (Nat.beq i 1)) t) d
noncomputable def iU (t:Tr α) (i:Nat) (a:Option α) (K:Tr α->β):β:=iy (Nat.succ i) (Nat.succ i) a t K
noncomputable def ed (t:Tr α) (i:Nat) (a:Option α):Tr α:=iU t i a id
theorem IC (d i:Nat) (a v:Option α) (l r:Tr α) (K:Tr α->β):iy (d+1) i a (.n v l r) K=if i=1 then K (.n a l r)else if i % 2=0 then iy d (i / 2) a l (λt=>K (.n v t r))else iy d (i / 2) a r (λt=>K (.n v l t)):=by
 show(Bool.rec (fN (Nat.div i 2) λj=>Bool.rec (iy d j a r λt=>K (.n v l t)) (iy d j a l λt=>K (.n v t r)) (Nat.beq (Nat.mod i 2) 0)) (K (.n a l r)) (Nat.beq i 1):β)=_
 rw[qW]
 by_cases h:i=1
 · subst h;rfl
 · rw[EX h,if_neg h]
   by_cases h2:i % 2=0
   · have h3:Nat.beq (Nat.mod i 2) 0=true:=by rw[show Nat.mod i 2=0 from h2];rfl
     rw[if_pos h2,h3];rfl
   · rw[if_neg h2,EX (show ¬ Nat.mod i 2=0 from h2)];rfl
theorem ZA (d i:Nat) (a:Option α) (K:Tr α->β):iy (d+1) i a .e K=iy (d+1) i a (.n none .e .e) K:=rfl
theorem vw:∀ (d:Nat) {β:Type} (i:Nat) (a:Option α) (t:Tr α) (K:Tr α->β),iy d i a t K=K (iy d i a t id)
 |0,_,_,_,_,_=>rfl
 |d+1,_,i,a,t,K=>by
  have key:∀ v l r,iy (d+1) i a (.n v l r) K=K (iy (d+1) i a (.n v l r) id):=by
   intro v l r
   rw[IC,IC]
   split
   · rfl
   · split
     · exact(vw d _ a l λt=>K (.n v t r)).trans (congrArg K (vw d _ a l λt=>id (Tr.n v t r)).symm)
     · exact(vw d _ a r λt=>K (.n v l t)).trans (congrArg K (vw d _ a r λt=>id (Tr.n v l t)).symm)
  cases t with
  |e=>rw[ZA,key];rfl
  |n v l r=>exact key v l r
theorem j6 (t:Tr α) (i:Nat) (a:Option α) (K:Tr α->β):iU t i a K=K (ed t i a):=vw _ _ _ _ _
theorem vQ (v:Option α) (l r:Tr α) (k:Nat):tgt (.n v l r) k=if k=1 then v else if k % 2=0 then tgt l (k / 2)else tgt r (k / 2):=by
 show(Bool.rec (Bool.rec (tgt r (Nat.div k 2)) (tgt l (Nat.div k 2)) (Nat.beq (Nat.mod k 2) 0)) v (Nat.beq k 1):Option α)=_
 by_cases h:k=1
 · subst h;rfl
 · have h1:Nat.beq k 1=false:=EX h
   rw[h1,if_neg h]
   by_cases h2:k % 2=0
   · have h3:Nat.beq (Nat.mod k 2) 0=true:=by rw[show Nat.mod k 2=0 from h2];rfl
     rw[if_pos h2,h3];rfl
   · have h3:Nat.beq (Nat.mod k 2) 0=false:=EX h2
     rw[if_neg h2,h3];rfl
theorem _Y (d i:Nat) (a:Option α) (v:Option α) (l r:Tr α) (h:i≠1):iy (d+1) i a (.n v l r) id=if i % 2=0 then .n v (iy d (i / 2) a l id) r else .n v l (iy d (i / 2) a r id):=by
 rw[IC,if_neg h]
 split
 · rw[vw d _ a l];rfl
 · rw[vw d _ a r];rfl
theorem _Z (d i:Nat) (a:Option α):iy (d+1) i a (.e:Tr α) id=iy (d+1) i a (.n none .e .e) id:=rfl
theorem PK:∀ (d i k:Nat) (a:Option α) (t:Tr α),1<=i->i<=d->1<=k->tgt (iy d i a t id) k=if k=i then a else tgt t k
 |0,i,k,a,t,h1,h2,_=>by omega
 |d+1,i,k,a,t,h1,h2,h3=>by
  have key:∀ (v:Option α) (l r:Tr α),tgt (iy (d+1) i a (.n v l r) id) k=if k=i then a else tgt (.n v l r) k:=by
   intro v l r
   by_cases hi:i=1
   · subst hi
     show tgt (.n a l r) k=_
     rw[vQ,vQ]
     split <;> rfl
   · rw[_Y d i a v l r hi]
     have ih:∀ t,2<=k->tgt (iy d (i / 2) a t id) (k / 2)=if k / 2=i / 2 then a else tgt t (k / 2):=λt hk=>PK d (i / 2) (k / 2) a t (by omega) (by omega) (by omega)
     by_cases h4:i % 2=0
     · rw[if_pos h4,vQ,vQ]
       by_cases hk:k=1
       · have:¬ k=i:=by omega
         rw[if_pos hk,if_neg this,if_pos hk]
       · rw[if_neg hk,if_neg hk]
         by_cases h5:k % 2=0
         · rw[if_pos h5,if_pos h5,ih l (by omega)]
           by_cases h6:k=i
           · rw[if_pos h6,if_pos (by omega)]
           · rw[if_neg h6,if_neg (by omega)]
         · rw[if_neg h5,if_neg h5,if_neg (by omega)]
     · rw[if_neg h4,vQ,vQ]
       by_cases hk:k=1
       · have:¬ k=i:=by omega
         rw[if_pos hk,if_neg this,if_pos hk]
       · rw[if_neg hk,if_neg hk]
         by_cases h5:k % 2=0
         · rw[if_pos h5,if_pos h5,if_neg (by omega)]
         · rw[if_neg h5,if_neg h5,ih r (by omega)]
           by_cases h6:k=i
           · rw[if_pos h6,if_pos (by omega)]
           · rw[if_neg h6,if_neg (by omega)]
  cases t with
  |e =>
   rw[_Z,key]
   split
   · rfl
   · rw[vQ]
     split
     · rfl
     · split <;> rfl
  |n v l r=>exact key v l r
theorem lG (t:Tr α) (i k:Nat) (a:Option α):aX (ed t i a) k=if k=i then a else aX t k:=by
 show tgt (iy (i+1) (i+1) a t id) (k+1)=_
 rw[PK _ _ _ _ _ (by omega) (by omega) (by omega)]
 by_cases h:k=i
 · rw[if_pos h,if_pos (by omega)]
 · rw[if_neg h,if_neg (by omega)];rfl
end
end Go.Proofs.YtadecgbblajifaaGreatDoor.DV
namespace Go.Proofs.YtadecgbblajifaaGreatDoor
end Go.Proofs.YtadecgbblajifaaGreatDoor
namespace Go.Proofs.YtadecgbblajifaaGreatDoor.DV
open Go
variable {P:Program}
def EY:Tk->Option TypeDesc
 |.it k=>some (.int k)
 |.str=>some .string
 |_=>none
def plainKey:Value->Bool
 |.int _ _ | .string _=>true
 |_=>false
def QO (kd:TypeDesc) (kv vv:Value) (es:List MapEntry) (c:Nat):Option (List MapEntry × Nat):=match Instr.findNow kd kv es 0 with
 |some (some (j,_))=>some (es.modify j λe => { e with key:=kv,val:=vv },c)
 |some none=>some (es ++ [⟨kv,vv,c⟩],c+1)
 |none=>none
def KL (y yk:Ty) (σ:au) (m k v:D):Option Eff:=match y.k,EY yk.k with
 |.mp _ _,some kd=>match m,k,v with
  |.mp i,.lf kv,.lf vv=>match σ i with
   |some (.mo es c)=>if plainKey kv then match QO kd kv vv es c with
    |some (es,c)=>some [(i,some (.mo es c))]
    |none=>none else none
   |_=>none
  |_,_,_=>none
 |_,_=>none
def KM (y yk ye:Ty) (σ:au) (m k:D) (ok:Bool):Option D:=match y.k,EY yk.k with
 |.mp _ _,some kd=>match m,k with
  |.mp i,.lf kv=>match σ i with
   |some (.mo es _)=>if plainKey kv then match Instr.findNow kd kv es 0 with
    |some (some (_,v))=>some (match ok with|true => .tu [.lf v,.lf (.bool true)] | false => .lf v)
    |some none=>some (match ok with|true => .tu [ye.zero,.lf (.bool false)] | false=>ye.zero)
    |none=>none else none
   |_=>none
  |_,_=>none
 |_,_=>none
def yQ:Tk->Nat
 |.mp k _=>k
 |_=>0
def KN:Tk->Nat
 |.mp _ e=>e
 |_=>0
theorem PL {yk:Ty} {t:Nat} {kd:TypeDesc} (hy:aW P t yk) (h:EY yk.k=some kd):P.underlying t=some kd/\((∃ k,kd = .int k)\/kd = .string):=by
 obtain⟨u,hu,-,hk⟩:=hy.und
 unfold EY at h
 split at h <;> simp only[Option.some.injEq,reduceCtorEq]at h <;> subst h <;> rename_i hf <;> rw[hf]at hk <;> cases u <;> simp only[bz]at hk
 · subst hk;exact⟨hu,.inl ⟨_,rfl⟩⟩
 · exact⟨hu,.inr rfl⟩
theorem Nk {t:Nat} {kd:TypeDesc} {kv:Value} {b:Bool} (h:P.underlying t=some kd) (hk:(∃ k,kd = .int k)\/kd = .string) (w:World) (n:Nat):(Instr.checkKey b (n+1) t kv).run P w = .ok () w:=by
 rcases hk with⟨k,rfl⟩|rfl <;> simp[Instr.checkKey,run_underlying h]
theorem Xc:∀ (n:Nat) (kd:TypeDesc) (kv v:Value),Instr.sameNow kd kv v=some true->plainKey kv=true->Instr.sameBits n v kv=true:=by
 intro n kd kv v h hp
 unfold Instr.sameNow at h
 split at h
 · split at h
   · rename_i hj
     subst hj
     simp at h
     subst h
     cases n <;> simp[Instr.sameBits]
   · simp at h
 · rename_i a b
   simp only[Option.some.injEq]at h
   have:(b == a)=true:=by
    rw[beq_toListBytes]at h ⊢
    simp only[beq_iff_eq]at h ⊢
    exact h.symm
   cases n <;> simpa[Instr.sameBits]using this
 · simp[plainKey]at hp
 · simp at h
theorem NG:∀ (kd:TypeDesc) (kv:Value) (es:List MapEntry) (i j:Nat) (v:Value),Instr.findNow kd kv es i=some (some (j,v))->∃ e,es[j - i]? = some e/\i<=j/\Instr.sameNow kd kv e.key=some true/\e.val=v
 |kd,kv,[],i,j,v,h=>by simp[Instr.findNow]at h
 |kd,kv,e :: es,i,j,v,h=>by
  simp only[Instr.findNow]at h
  split at h
  · rename_i hs
    simp only[Option.some.injEq,Prod.mk.injEq]at h
    obtain⟨rfl,rfl⟩:=h
    exact⟨e,by simp,Nat.le_refl _,hs,rfl⟩
  · obtain⟨e',h1,h2,h3,h4⟩:=NG kd kv es (i+1) j v h
    refine⟨e',?_,by omega,h3,h4⟩
    rw[show j - i=(j - (i+1))+1 by omega]
    simpa using h1
  · simp at h
theorem Rel.mo {g:G} {σ:au} {w:World} (R:Rel g σ w) {i:Nat} {es:List MapEntry} {c:Nat} (h:σ i=some (.mo es c)):∃ l,g.ae i=some l/\g.fm l.b=none/\w.heap[l.b]? = some (.map ⟨es⟩ c):=by
 obtain⟨l,h1⟩:=R.ob i _ h
 rcases h1 with⟨blk,h1⟩|⟨o,_,h2,h3,h4,h5⟩
 · have:=h1.cr;simp[CR]at this
 · simp only[nk]at h5
   subst h5
   exact⟨l,h2,h3,h4⟩
theorem Out.obj {g:G} {σ:au} {w w':World} {n:Nat} {d:D} {o:Obj} (R:Rel g σ w) (l:Loc) (hd:fU d=true) (ho:∀ g',Le g g'->nk g' d o)
 (hn:(g.ae n=some l/\σ n≠none)\/(g.ae n=none/\l.b=w.heap.size)) (hfm:g.fm l.b=none) (hh:w'.heap[l.b]? = some o) (hoth:∀ b,b≠l.b->b<w.heap.size->w'.heap[b]? = w.heap[b]?) (hp:w.heap.size<=w'.heap.size)
 (x:D) (v:Value) (hx:∀ g',Le g g'->g'.ae n=some l->VR g' x v) (hsm:Sm w w':=by exact⟨rfl,rfl,rfl⟩):Out g σ w (· = n) x [(n,some d)] v w':=by
 have h:=Af R n l d [(n,some d)] (· = n) (λg' le h1 h2 => .inr ⟨o,hd,h1,h2,hh,ho g' le⟩) (hn.imp (λh=>h.1) λh=>⟨h.1,rfl⟩) hfm hoth hp (xM _ _ _) (λi hi => .inl (by rw[j5 _ _ hi];rfl))
  (λj m hj hm hb=>by
   rcases hn with h|h
   · exact .inl (R.dj j n m l hj h.2 hm h.1 hb)
   · cases hd':σ j with
     |none=>exact absurd hd' hj
     |some d' =>
      obtain⟨l2,a⟩:=R.ob j d' hd'
      have:l2=m:=by have:=a.ae;rw[hm]at this;simpa using this.symm
      subst this
      have:=a.lt
      omega)
  (hn.elim (λh => .inr ⟨n,l,h.2,h.1,rfl⟩) λh => .inl (by omega)) (hn.imp (λh=>h.2) λ_=>rfl) hsm
 exact⟨_,h.1,h.2,hx _ h.2.le (by simp[G.put])⟩
theorem Jo {g:G} {σ:au} {w:World} (R:Rel g σ w):g.fm w.heap.size=none:=by
 cases h:g.fm w.heap.size with
 |none=>rfl
 |some c=>have:=sG (R.fm _ _ h);omega
theorem _0 {g:G} {σ:au} {w:World} {a:Act} {o:Oper} {t n:Nat} (ho:o.op = .makeMap t none) (R:Rel g σ w) (hn:g.ae n=none):Does P o a w (Out g σ w (· = n) (.mp n) [(n,some (.mo [] 0))]):=by
 refine Does.val (v := .map (some w.heap.size)) (w' := { w with heap:=w.heap.push (.map #[] 0) }) ?_ ?_
 · simp[execOp,ho,Instr.makeMap]
 · refine Out.obj (d := .mo [] 0) (o := .map ⟨[]⟩ 0) R ⟨w.heap.size,0,0,0⟩ rfl (λ_ _=>rfl) (.inr ⟨hn,rfl⟩) (Jo R) (by simp) (λb hb hlt=>by simp[Array.getElem?_push,Nat.ne_of_lt hlt]) (by simp) _ _ ?_
   intro g' _ h
   simp only[VR,CR]
   exact⟨_,h,rfl⟩
theorem PM {y yk:Ty} {g:G} {σ:au} {w:World} {n:Nat} {a:Act} {o:Oper} {t:Nat} {m k v:Operand} {dm dk dv:D} {e:Eff} (hy:aW P t y) (hyk:aW P (yQ y.k) yk) (ho:o.op = .mapUpdate t m k v\/o.op = .insert t m k v)
 (h:KL y yk σ dm dk dv=some e) (R:Rel g σ w) (hm:VR g dm (a.eval m)) (hk:VR g dk (a.eval k)) (hv:VR g dv (a.eval v)):Does P o a w (Out g σ w (· = n) .bZ e):=by
 unfold KL at h
 obtain⟨u,hu,-,wZ⟩:=hy.und
 split at h
 case h_2=>simp at h
 rename_i kt et kd hf hkd
 rw[hf]at wZ hyk
 simp only[yQ]at hyk
 cases u <;> simp only[bz]at wZ
 obtain⟨rfl,rfl⟩:=wZ
 rename_i kt et
 obtain⟨rM,hkk⟩:=PL hyk hkd
 split at h
 case h_2=>simp at h
 rename_i i kv vv
 split at h
 case h_2=>simp at h
 rename_i es c hσ
 split at h
 case isFalse=>simp at h
 rename_i hpl
 split at h
 case h_2=>simp at h
 rename_i es' c' hms
 simp only[Option.some.injEq]at h
 subst h
 obtain⟨l,h1,h2,h3⟩:=R.mo hσ
 simp only[VR,CR,List.cons.injEq,and_true]at hm
 obtain⟨l',hl',hm⟩:=hm
 have:l'=l:=by rw[h1]at hl';simpa using hl'.symm
 subst this
 have hk:=dh hk
 have hv:=dh hv
 have hlt:=(Array.getElem?_eq_some_iff.1 h3).1
 have hgo:(getObj l'.b).run P w = .ok (.map ⟨es⟩ c) w:=by simp[getObj,Sem.run,h3]
 have hck:=Nk (P:=P) (kv:=kv) (b:=false) rM hkk w 9999
 have hset:∀ o',(setObj l'.b o').run P w = .ok () { w with heap:=w.heap.setIfInBounds l'.b o' } := λo'=>by simp[setObj,Sem.run,h3]
 have hrun:(Instr.mapUpdate t (a.eval m) (a.eval k) (a.eval v)).run P w = .ok () { w with heap:=w.heap.setIfInBounds l'.b (.map ⟨es'⟩ c') } := by
  unfold QO at hms
  rw[hm,hk,hv]
  split at hms
  · rename_i j v0 hfn
    simp only[Option.some.injEq,Prod.mk.injEq]at hms
    obtain⟨rfl,rfl⟩:=hms
    obtain⟨e0,he1,_,he3,_⟩:=NG _ _ _ _ _ _ hfn
    have acY:(Instr.keyThatStays (((es[j]?).map (·.key)).getD kv) kv).run P w = .ok kv w:=by
     have:(es[j]?).map (·.key)=some e0.key:=by
      simp only[Nat.sub_zero]at he1
      rw[he1];rfl
     rw[this]
     simp[Instr.keyThatStays,Xc _ _ _ _ he3 hpl]
    have hmod:(⟨es⟩:Array MapEntry).modify j (λe => { e with key:=kv,val:=vv })=⟨es.modify j λe => { e with key:=kv,val:=vv }⟩:=by
     apply Array.ext';simp
    simp[Instr.mapUpdate,run_underlying hu,hgo,hck,Instr.findKey,run_underlying rM,hfn,acY,hset]
  · rename_i hfn
    simp only[Option.some.injEq,Prod.mk.injEq]at hms
    obtain⟨rfl,rfl⟩:=hms
    simp[Instr.mapUpdate,run_underlying hu,hgo,hck,Instr.findKey,run_underlying rM,hfn,hset]
  · simp at hms
 refine Does.skip (w' := { w with heap:=w.heap.setIfInBounds l'.b (.map ⟨es'⟩ c') }) ?_ ?_
 · rcases ho with ho|ho <;> simp[execOp,ho,hrun]
 · have hout:=Out.obj (n:=i) (d := .mo es' c') (o := .map ⟨es'⟩ c') (w' := { w with heap:=w.heap.setIfInBounds l'.b (.map ⟨es'⟩ c') }) R l' rfl (λ_ _=>rfl) (.inl ⟨h1,by simp[hσ]⟩) h2 (by simp[hlt]) (λb hb _=>by simp[Ne.symm hb]) (by simp) .bZ undef (λ_ _ _=>by simp[VR,CR])
   obtain⟨g',r1,r2,r3⟩:=hout
   refine⟨g',r1,⟨r2.le,r2.hp,r2.fr,r2.jv,λj m hj => ?_,λj hj => ?_,r2.sm⟩,r3⟩
   · rcases r2.rn j m hj with h|⟨h,rfl⟩
     · exact .inl h
     · exact .inl (by have:=r2.le.ae _ _ h1;rw[hj]at this;rw[this];exact h1)
   · rcases r2.sn j hj with h|rfl
     · exact .inl h
     · exact .inl (by simp[hσ])
theorem _1 {y yk ye:Ty} {g:G} {σ:au} {w:World} {N:Nat->Prop} {a:Act} {o:Oper} {t:Nat} {m k:Operand} {dm dk d:D} {ok:Bool} (hy:aW P t y) (hyk:aW P (yQ y.k) yk) (hye:aW P (KN y.k) ye) (ho:o.op = .lookup t m k ok)
 (h:KM y yk ye σ dm dk ok=some d) (R:Rel g σ w) (hm:VR g dm (a.eval m)) (hk:VR g dk (a.eval k)):Does P o a w (Out g σ w N d []):=by
 unfold KM at h
 obtain⟨u,hu,-,wZ⟩:=hy.und
 split at h
 case h_2=>simp at h
 rename_i kt et kd hf hkd
 rw[hf]at wZ hyk hye
 simp only[yQ]at hyk
 simp only[KN]at hye
 cases u <;> simp only[bz]at wZ
 obtain⟨rfl,rfl⟩:=wZ
 rename_i kt et
 obtain⟨rM,hkk⟩:=PL hyk hkd
 obtain⟨z,hz,uw⟩:=hye.zero
 split at h
 case h_2=>simp at h
 rename_i i kv
 split at h
 case h_2=>simp at h
 rename_i es c hσ
 split at h
 case isFalse=>simp at h
 rename_i hpl
 obtain⟨l,h1,h2,h3⟩:=R.mo hσ
 simp only[VR,CR,List.cons.injEq,and_true]at hm
 obtain⟨l',hl',hm⟩:=hm
 have:l'=l:=by rw[h1]at hl';simpa using hl'.symm
 subst this
 have hk:=dh hk
 have hgo:(getObj l'.b).run P w = .ok (.map ⟨es⟩ c) w:=by simp[getObj,Sem.run,h3]
 have hck:=λb=>Nk (P:=P) (kv:=kv) (b:=b) rM hkk w 9999
 split at h
 · rename_i j v hfn
   simp only[Option.some.injEq]at h
   subst h
   cases ok with
   |true =>
    refine Does.val (v := .tuple #[v,.bool true]) (w':=w) ?_ (Out.pure R ?_)
    · simp[execOp,ho,hm,hk,Instr.lookup,run_underlying hu,hgo,hck,Instr.findKey,run_underlying rM,hfn]
    · simp[VR,CR,aC]
   |false =>
    refine Does.val (v:=v) (w':=w) ?_ (Out.pure R (fF _ _))
    simp[execOp,ho,hm,hk,Instr.lookup,run_underlying hu,hgo,hck,Instr.findKey,run_underlying rM,hfn]
 · rename_i hfn
   simp only[Option.some.injEq]at h
   subst h
   cases ok with
   |true =>
    refine Does.val (v := .tuple #[z,.bool false]) (w':=w) ?_ (Out.pure R ?_)
    · simp[execOp,ho,hm,hk,Instr.lookup,run_underlying hu,hgo,hck,Instr.findKey,run_underlying rM,hfn,hz]
    · simp only[VR,CR,aC,true_and]
      exact⟨_,rfl,z,_,rfl,uw g,.bool false,_,rfl,by simp,rfl⟩
   |false =>
    refine Does.val (v:=z) (w':=w) ?_ (Out.pure R (uw g))
    simp[execOp,ho,hm,hk,Instr.lookup,run_underlying hu,hgo,hck,Instr.findKey,run_underlying rM,hfn,hz]
 · simp at h
end Go.Proofs.YtadecgbblajifaaGreatDoor.DV
namespace Go.Proofs.YtadecgbblajifaaGreatDoor
end Go.Proofs.YtadecgbblajifaaGreatDoor
