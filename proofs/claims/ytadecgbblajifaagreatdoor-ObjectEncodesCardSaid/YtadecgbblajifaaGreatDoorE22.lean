import Derived.Test.YtadecgbblajifaaGreatDoorE21
set_option linter.unusedSimpArgs false
set_option linter.unusedVariables false
set_option maxRecDepth 100000
set_option maxHeartbeats 25600000
namespace Go.Proofs.YtadecgbblajifaaGreatDoor
section
open Go.RowKit
def uf (k n:Int):Bool:=if k=1\/k=3 then n == 0 else if k=2 then decide (1<=n) && decide (n<=16)else false
def aT.rq (v:aT):Bool:=dH v.name && uf v.kind v.len
set_option maxHeartbeats 1600000 in
theorem Xx (v:aT) (w:World) (hs:v.name.size<=9223372036854775807):Calls Tryz.prog 82 #[v.val] w λe w'=>e = .returned (.bool v.rq)/\Grow w w':=by
 obtain⟨s,k,n⟩:=v
 simp only at hs
 go_enter Tryz.func82,Tryz.ntmps82
 go_wp2_with fail
 refine(DI s _ hs).mono ?_
 rintro e w1 ⟨rfl,hm⟩
 obtain⟨hc,hf⟩:=vT hm
 have HM:=Lib.hid (Mv.trans (O1:=λ_=>False) ((Mv.refl (λ_=>False) w).alloc _) hm (λ_ e=>e.elim))
 have HN:=Lib.hid (show aT.rq ⟨s,k,n⟩=(dH s && uf k n)from rfl)
 generalize dH s=q at *
 clear hm
 by_cases hq:q=true
 · subst hq
   by_cases h1:k=1
   · subst h1
     go_wp2_with fail
     go_ret
     exact⟨ax (by rw[HN.out];simp[uf]),HM.out⟩
   · have h1b:(k == 1)=false:=by simpa using h1
     by_cases h3:k=3
     · subst h3
       go_wp2_with fail
       go_ret
       exact⟨ax (by rw[HN.out];simp[uf]),HM.out⟩
     · have h3b:(k == 3)=false:=by simpa using h3
       by_cases h2:k=2
       · subst h2
         go_wp2_with fail
         all_goals (go_ret;exact⟨ax (by rw[HN.out];simp_all [uf] <;> omega),HM.out⟩)
       · have h2b:(k == 2)=false:=by simpa using h2
         have HL:=Lib.hid (show uf k n=false from by simp[uf,h1,h2,h3])
         clear h1 h2 h3
         go_wp2_with fail
         go_ret
         exact⟨ax (by rw[HN.out,HL.out];rfl),HM.out⟩
 · have hq2:q=false:=by simpa using hq
   subst hq2
   go_wp2_with fail
   go_ret
   exact⟨ax (by rw[HN.out];rfl),HM.out⟩
def mI (l:List aT) (s:ByteArray):Bool:=l.all λv => !(v.name == s)
def nJ (l:List aT) (i:Nat):Bool:=(List.range i).all λk=>match l[k]? with
 |some v=>v.rq && mI (l.take k) v.name
 |none=>true
def aO.mM (o:aO):Bool:=if o.name.size=0 then decide (o.params.length=0)else dH o.name && (decide (o.params.length<=8) && nJ o.params o.params.length)
theorem Xl (l:List aT) (i:Nat) (h:i<l.length):nJ l (i+1)=(nJ l i && (l[i].rq && mI (l.take i) l[i].name)):=by
 unfold nJ
 rw[List.range_succ,List.all_append]
 simp[h]
theorem XV (l:List aT) (s:ByteArray) (j:Nat) (h:j<l.length):mI (l.take (j+1)) s=(mI (l.take j) s && !(l[j].name == s)):=by
 unfold mI
 rw[List.take_succ_eq_append_getElem h,List.all_append]
 simp
theorem Xd (l:List aT) (i n:Nat) (hin:i<n) (h:i<l.length) (hf:(l[i].rq && mI (l.take i) l[i].name)=false):nJ l n=false:=by
 unfold nJ
 apply Bool.eq_false_iff.2
 intro hall
 have:=List.all_eq_true.1 hall i (by simp;exact hin)
 rw[List.getElem?_eq_getElem h]at this
 simp only at this
 rw[hf]at this;cases this
theorem Xy (l:List aT) (s:ByteArray) (i j:Nat) (hij:j<i) (h:j<l.length) (he:(l[j].name == s)=true):mI (l.take i) s=false:=by
 unfold mI
 apply Bool.eq_false_iff.2
 intro hall
 have:=List.all_eq_true.1 hall l[j] (by rw[List.mem_iff_getElem?];exact⟨j,by rw[List.getElem?_take,if_pos hij,List.getElem?_eq_getElem h]⟩)
 simp[he]at this
set_option maxRecDepth 100000 in
set_option maxHeartbeats 3200000 in
theorem Yk (o:gT) (w:World) (h:lS w o):Calls Tryz.prog 38 #[o.val] w λe w'=>e = .returned (.bool o.d.mM)/\Grow w w':=by
 obtain⟨⟨s,l,sl,cl,st,co,rf⟩,pv,sv,cv,rv⟩:=o
 have hl:=h.params
 have hs:=h.ok.name
 have hpn:=h.ok.params
 simp only at hl hs hpn
 obtain⟨a,cap,hpv,hcap,hlen⟩:=hl.form
 subst hpv
 have HL:=Lib.hid hl
 have Me:=Lib.hid hpn
 clear h hl hpn
 by_cases h0:s.size=0
 · obtain rfl:=Di (s:=s) (by omega)
   have HB:=Lib.hid (show aO.mM ⟨⟨#[]⟩,l,sl,cl,st,co,rf⟩=decide (l.length=0)from if_pos rfl)
   go_enter Tryz.func38,Tryz.ntmps38
   go_wp2_with fail
   go_ret
   exact⟨ax (by rw[HB.out];by_cases hh:l.length=0 <;> simp[hh]),(Mv.refl _ _).alloc _⟩
 · have hne:=xK (s:=s) (by omega)
   have HB:=Lib.hid (show aO.mM ⟨s,l,sl,cl,st,co,rf⟩=(dH s && (decide (l.length<=8) && nJ l l.length))from by simp[aO.mM,h0])
   go_enter Tryz.func38,Tryz.ntmps38
   go_wp2_with fail
   refine(DI s _ hs).mono ?_
   rintro e w1 ⟨rfl,hm⟩
   obtain⟨hc,hf⟩:=vT hm
   have hM:=Mv.trans (O1:=λ_=>False) ((Mv.refl (λ_=>False) w).alloc (.cells #[.string s,.slice a l.length cap,sv,.int .i64 cl,.int .i64 st,cv,rv] 39)) hm (λ_ e=>e.elim)
   have hbx:w1.heap[w.heap.size]? = some (.cells #[.string s,.slice a l.length cap,sv,.int .i64 cl,.int .i64 st,cv,rv] 39 (0,0)):=by
    rw[hm.block _ (by simp) (λh=>h)];exact heap_alloc_new w _
   have HM:=Lib.hid hM
   have LV:=Lib.hid hbx
   generalize dH s=q at *
   clear hm hM hbx
   by_cases hq:q=true
   · subst hq
     by_cases h8:l.length<=8
     · have HP:Hid (True):=Lib.hid trivial
       go_wp2_with fail
       clear hc hf
       go_loopw [27] (λt wr=>∃ k:Nat,t = .int .i64 k/\k<=l.length/\Grow w1 wr/\nJ l k=true) (λt _=>l.length - (intOf t).toNat)
       case atStart=>exact⟨0,rfl,Nat.zero_le _,Mv.refl _ _,rfl⟩
       obtain⟨k,rfl,hk,hg,hpt⟩:=hrel
       have HG:=Lib.hid hg
       have uI:=Lib.hid hpt
       have hbr:wr.heap[w.heap.size]? = some (.cells #[.string s,.slice a l.length cap,sv,.int .i64 cl,.int .i64 st,cv,rv] 39 (0,0)):=by
        rw[hg.block _ (lt_of_block LV.out) (λh=>h)];exact LV.out
       have hbl:=lt_of_block hbr
       have p1:wr.cell? ⟨w.heap.size,1,none⟩=some (.slice a l.length cap):=by simp[World.cell?,hbr]
       have uH:=Lib.hid hbr
       have hgm:=Mv.trans HM.out hg (λ_ e=>e.elim)
       have VK:=Lib.hid hgm
       have hrow:=HL.out.later hgm
       clear hg hpt hbr hgm
       by_cases hlt:k<l.length
       · obtain⟨b,off,cap',e,_,hcc⟩:=hrow.at hlt
         simp only[Value.slice.injEq,true_and]at e
         obtain⟨rfl,rfl⟩:=e
         have c0:=hcc 0 _ rfl
         have c1:=hcc 1 _ rfl
         have c2:=hcc 2 _ rfl
         simp only[Nat.add_zero]at c0
         have hbb:b<wr.heap.size:=World.block_lt_of_cell? wr _ c0
         have HS:=Lib.hid (Xl l k hlt)
         have VL:=Lib.hid (Xd l k l.length hlt hlt)
         have zH:=(Me.out l[k] (List.getElem_mem hlt)).1
         have HRO:=Lib.hid hrow
         generalize hvk:l[k]=vk at *
         obtain⟨vs,Gp,Gq⟩:=vk
         simp only at c0 c1 c2 zH
         have HVK:=Lib.hid hvk
         clear hcc hrow hvk
         go_wp2_with fail
         refine(Xx ⟨vs,Gp,Gq⟩ _ zH).mono ?_
         rintro e w2 ⟨rfl,hm2⟩
         obtain⟨hc2,hf2⟩:=vT hm2
         have hg2:=Mv.trans HG.out (Mv.trans ((Mv.refl (λ_=>False) wr).alloc (.cells #[.string vs,.int .u8 Gp,.int .i64 Gq] 75)) hm2 (λ_ e=>e.elim)) (λ_ e=>e.elim)
         have hsz2:=hm2.size
         simp only[World.size_alloc]at hsz2
         have hn2:w2.cell? ⟨wr.heap.size,0,none⟩=some (.string vs):=by rw[hc2 _ _ (by simp),IV];rfl
         have hp2:w2.cell? ⟨w.heap.size,1,none⟩=some (.slice (some ⟨b,off,none⟩) l.length cap):=by rw[hc2 _ _ (by simp;omega)];rw[← p1];exact World.cell?_of_block (w:=wr) (w':=wr.alloc _) (Below.heap_alloc _ _ _ hbl)
         have HG2:=Lib.hid hg2
         have TG:=Mv.trans VK.out (Mv.trans ((Mv.refl (λ_=>False) wr).alloc (.cells #[.string vs,.int .u8 Gp,.int .i64 Gq] 75)) hm2 (λ_ e=>e.elim)) (λ_ e=>e.elim)
         have KZ:=Lib.hid TG
         generalize aT.rq ⟨vs,Gp,Gq⟩=dq at *
         clear hm2 hg2 TG hc2 hf2 c0 c1 c2 p1
         by_cases VM:dq=true
         · subst VM
           go_wp2_with fail
           obtain⟨wo,rfl⟩:∃ wo:World,wo=wr:=⟨_,rfl⟩
           go_loopw [40] (λt wr2=>∃ j:Nat,t = .int .i64 j/\j<=k/\Grow w2 wr2/\mI (l.take j) vs=true) (λt _=>k - (intOf t).toNat)
           case atStart=>exact⟨0,rfl,Nat.zero_le _,Mv.refl _ _,rfl⟩
           obtain⟨j,rfl,hj,hg3,hfr⟩:=hrel
           have cu:=Lib.hid hg3
           have Gr:=Lib.hid hfr
           have hrow3:=(HL.out.later KZ.out).later hg3
           have zu:wr.cell? ⟨wo.heap.size,0,none⟩=some (.string vs):=by rw[(vT hg3).1 _ _ (by omega)];exact hn2
           have TH:=hg3.size
           clear hg3 hfr
           by_cases hjk:j<k
           · have hjl:j<l.length:=by omega
             have hcc:=hrow3.at' hjl
             have c0:=hcc 0 _ rfl
             have c1:=hcc 1 _ rfl
             have c2:=hcc 2 _ rfl
             simp only[Nat.add_zero]at c0
             have agM:b<wr.heap.size:=World.block_lt_of_cell? wr _ c0
             have hnl:wo.heap.size<wr.heap.size:=by omega
             have zI:=Lib.hid (XV l vs j hjl)
             have Mf:=Lib.hid (Xy l vs k j hjk hjl)
             generalize hvj:l[j]=vj at *
             obtain⟨js,jk,jn⟩:=vj
             simp only at c0 c1 c2
             clear hcc hvj hrow3
             have Cu:=Lib.hid (Oi js vs)
             by_cases Mg:(js.toList == vs.toList)=true
             · have Mh:=Lib.hid (show(js == vs)=true from by rw[← Cu.out];exact Mg)
               go_wp2_with fail
               go_ret
               exact⟨ax (by rw[HB.out,VL.out (by rw[Mf.out Mh.out];rfl)];simp),(Mv.trans KZ.out cu.out (λ_ e=>e.elim)).alloc _⟩
             · have adh:(js.toList == vs.toList)=false:=by simpa using Mg
               have Mh:=Lib.hid (show(js == vs)=false from by rw[← Cu.out];exact adh)
               clear Mg
               go_wp2_with fail
               go_roundw
               case rel=>exact⟨j+1,by go_num,by omega,cu.out.alloc _,by rw[zI.out,Gr.out,Mh.out];rfl⟩
               case measure=>simp[intOf];omega
           · obtain rfl:j=k:=by omega
             clear hrow3
             go_wp2_with fail
             go_roundw
             case rel=>exact⟨j+1,by go_num,by omega,Mv.trans HG2.out cu.out (λ_ e=>e.elim),by rw[HS.out,uI.out,Gr.out];rfl⟩
             case measure=>simp[intOf];omega
         · have adi:dq=false:=by simpa using VM
           subst adi
           go_wp2_with fail
           go_ret
           exact⟨ax (by rw[HB.out,VL.out rfl];simp),KZ.out⟩
       · obtain rfl:k=l.length:=by omega
         clear hrow
         go_wp2_with fail
         go_ret
         exact⟨ax (by rw[HB.out,uI.out];simp[h8]),VK.out⟩
     · go_wp2_with fail
       go_ret
       exact⟨ax (by rw[HB.out];simp[h8]),HM.out⟩
   · have hq2:q=false:=by simpa using hq
     subst hq2
     go_wp2_with fail
     go_ret
     exact⟨ax (by rw[HB.out];rfl),HM.out⟩
end
section
open Go.RowKit
def aI.okB (s:aI):Bool:=decide (s.name.size<=255) && (if s.kind=2 then decide (1<=s.len) && decide (s.len<=16)else s.len == 0)
def vU (c s:Int):Bool:=decide (0<=c) && (decide (c<=16384) && (decide (0<=s) && decide (s<=16384)))
def mO (l:List aI) (c s:Int):Bool:=vU c s && (l.all aI.okB && iQ l c s)
theorem all_false {l:List aI} {k:Nat} (h:k<l.length) (hf:l[k].okB=false):l.all aI.okB=false:=by
 apply Bool.eq_false_iff.2
 intro hall
 have:=List.all_eq_true.1 hall l[k] (List.getElem_mem h)
 rw[hf]at this;cases this
theorem ZY {l:List aI} {k:Nat} (h:k<l.length) (h1:(l.take k).all aI.okB=true) (h2:l[k].okB=true):(l.take (k+1)).all aI.okB=true:=by
 rw[List.take_succ_eq_append_getElem h,List.all_append,h1]
 simp[h2]
set_option maxRecDepth 100000 in
set_option maxHeartbeats 3200000 in
theorem Yl (fv:Value) (l:List aI) (cells stacks:Int) (w:World) (h:aB 4 aI.cells w fv l) (TF:l.length<=4398046511104) (hnm:∀ s∈l,s.name.size<=9223372036854775807) :
 Calls Tryz.prog 39 #[.agg #[fv,.int .i64 cells,.int .i64 stacks]] w λe w'=>e = .returned (.bool (mO l cells stacks))/\Grow w w':=by
 obtain⟨fa,mY,rfl,aci,acj⟩:=h.form
 have HR:=Lib.hid h
 have nz:=Lib.hid hnm
 have Mi:=Lib.hid (show mO l cells stacks=(vU cells stacks && (l.all aI.okB && iQ l cells stacks))from rfl)
 have hg0:Grow w (w.alloc (.cells #[.slice fa l.length mY,.int .i64 cells,.int .i64 stacks] 33)):=(Mv.refl _ _).alloc _
 have tZ:=heap_alloc_new w (.cells #[.slice fa l.length mY,.int .i64 cells,.int .i64 stacks] 33)
 have ma:=Lib.hid hg0
 have tY:=Lib.hid tZ
 clear h hg0 tZ hnm
 by_cases Fj:(0<=cells/\cells<=16384)/\0<=stacks/\stacks<=16384
 · obtain⟨⟨q1,q2⟩,q3,q4⟩:=Fj
   have HNB:=Lib.hid (show vU cells stacks=true from by simp[vU,q1,q2,q3,q4])
   go_enter Tryz.func39,Tryz.ntmps39
   go_wp2_with fail
   have hsz1:w.heap.size<(w.alloc (.cells #[.slice fa l.length mY,.int .i64 cells,.int .i64 stacks] 33)).heap.size:=by simp
   generalize w.alloc (.cells #[.slice fa l.length mY,.int .i64 cells,.int .i64 stacks] 33)=w1 at *
   go_loopw [26] (λt wr=>∃ k:Nat,t = .int .i64 k/\k<=l.length/\Grow w1 wr/\(l.take k).all aI.okB=true) (λt _=>l.length - (intOf t).toNat)
   case atStart=>exact⟨0,rfl,Nat.zero_le _,Mv.refl _ _,rfl⟩
   obtain⟨k,rfl,hk,hg,hall⟩:=hrel
   have HG:=Lib.hid hg
   have ek:=Lib.hid hall
   have aU:=Lib.hid (Mv.trans ma.out hg (λ_ e=>e.elim))
   clear hall
   by_cases hlt:k<l.length
   · obtain⟨b,off,cap',e,_,hcc⟩:=(HR.out.later aU.out).at hlt
     simp only[Value.slice.injEq,true_and]at e
     obtain⟨rfl,rfl⟩:=e
     have c0:=hcc 0 _ rfl
     have c1:=hcc 1 _ rfl
     have c2:=hcc 2 _ rfl
     have c3:=hcc 3 _ rfl
     simp only[Nat.add_zero]at c0
     have hbl:b<wr.heap.size:=World.block_lt_of_cell? wr _ c0
     have qD:=Lib.hid (all_false hlt)
     have HAS:=Lib.hid (ZY hlt ek.out)
     have hsn:=nz.out l[k] (List.getElem_mem hlt)
     generalize hx:l[k]=x at *
     obtain⟨xs,xk,xl,xt⟩:=x
     simp only at c0 c1 c2 c3 hsn
     clear hcc hx hg
     have Gs:=Lib.hid (show aI.okB ⟨xs,xk,xl,xt⟩=(decide (xs.size<=255) && (if xk=2 then decide (1<=xl) && decide (xl<=16)else xl == 0))from rfl)
     by_cases hok:aI.okB ⟨xs,xk,xl,xt⟩=true
     · have TI:=Lib.hid (HAS.out hok)
       rw[Gs.out]at hok
       have BO:xs.size<=255:=by simp at hok;exact hok.1
       clear qD HAS
       by_cases h2:xk=2
       · subst h2
         obtain⟨g1,g2⟩:1<=xl/\xl<=16:=by simpa[BO]using hok
         clear hok
         go_wp2_with fail
         go_roundw
         case rel=>exact⟨k+1,by go_num,by omega,HG.out.alloc _,TI.out⟩
         case measure=>simp[intOf];omega
       · have n2:(xk == 2)=false:=by simpa using h2
         have n2':(xk != 2)=true:=by simpa using h2
         obtain rfl:xl=0:=by simpa[BO,h2]using hok
         clear hok h2
         go_wp2_with fail
         go_roundw
         case rel=>exact⟨k+1,by go_num,by omega,HG.out.alloc _,TI.out⟩
         case measure=>simp[intOf];omega
     · have hok2:aI.okB ⟨xs,xk,xl,xt⟩=false:=by simpa using hok
       have HF:=Lib.hid (show mO l cells stacks=false from by rw[Mi.out,qD.out hok2];simp)
       rw[Gs.out]at hok2
       clear hok qD HAS
       by_cases BO:xs.size<=255
       · by_cases h2:xk=2
         · subst h2
           have hbad:xl<1\/16<xl:=by simp[BO]at hok2;omega
           clear hok2
           rcases hbad with hbad|hbad
           · go_wp2_with fail
             go_ret
             exact⟨ax (by rw[HF.out]),aU.out.alloc _⟩
           · have:¬ xl<1:=by omega
             go_wp2_with fail
             go_ret
             exact⟨ax (by rw[HF.out]),aU.out.alloc _⟩
         · have n2:(xk == 2)=false:=by simpa using h2
           have n2':(xk != 2)=true:=by simpa using h2
           have n0:(xl != 0)=true:=by simpa[BO,h2]using hok2
           clear hok2 h2
           go_wp2_with fail
           go_ret
           exact⟨ax (by rw[HF.out]),aU.out.alloc _⟩
       · clear hok2
         go_wp2_with fail
         go_ret
         exact⟨ax (by rw[HF.out]),aU.out.alloc _⟩
   · obtain rfl:k=l.length:=by omega
     have hbr:wr.heap[w.heap.size]? = some (.cells #[.slice fa l.length mY,.int .i64 cells,.int .i64 stacks] 33 (0,0)):=by
      rw[hg.block _ hsz1 (λh=>h)];exact tY.out
     have b0:wr.cell? ⟨w.heap.size,0,none⟩=some (.slice fa l.length mY):=by simp[World.cell?,hbr]
     have b1:wr.cell? ⟨w.heap.size,1,none⟩=some (.int .i64 cells):=by simp[World.cell?,hbr]
     have b2:wr.cell? ⟨w.heap.size,2,none⟩=some (.int .i64 stacks):=by simp[World.cell?,hbr]
     have HD:=Lib.hid (Np _ l cells stacks wr (HR.out.later aU.out) TF)
     have HF:=Lib.hid (show mO l cells stacks=iQ l cells stacks from by
      have:=ek.out
      rw[List.take_length]at this
      rw[Mi.out,HNB.out,this];simp)
     clear hbr hg
     go_wp2_with fail
     refine HD.out.mono ?_
     rintro e w2 ⟨rfl,hm2⟩
     have kY:=Lib.hid (Mv.trans aU.out hm2 (λ_ e=>e.elim))
     clear hm2
     go_wp2_with fail
     go_ret
     exact⟨ax (by rw[HF.out]),kY.out⟩
 · have HF:=Lib.hid (show mO l cells stacks=false from by
    rw[Mi.out]
    have:vU cells stacks=false:=by
     apply Bool.eq_false_iff.2
     intro h
     simp[vU]at h
     exact Fj ⟨⟨h.1,h.2.1⟩,h.2.2⟩
    rw[this];rfl)
   by_cases q1:cells<0
   · go_enter Tryz.func39,Tryz.ntmps39
     go_wp2_with fail
     go_ret
     exact⟨ax (by rw[HF.out]),ma.out⟩
   · by_cases q2:16384<cells
     · go_enter Tryz.func39,Tryz.ntmps39
       go_wp2_with fail
       go_ret
       exact⟨ax (by rw[HF.out]),ma.out⟩
     · by_cases q3:stacks<0
       · clear Fj
         go_enter Tryz.func39,Tryz.ntmps39
         go_wp2_with fail
         go_ret
         exact⟨ax (by rw[HF.out]),ma.out⟩
       · have q4:16384<stacks:=by omega
         clear Fj
         go_enter Tryz.func39,Tryz.ntmps39
         go_wp2_with fail
         go_ret
         exact⟨ax (by rw[HF.out]),ma.out⟩
end
section
open Go.RowKit
def yw (v:aT) (s:aI):Bool:=(s.name == v.name) && ((s.kind == v.kind) && (s.len == v.len))
def lI (ps:List aT) (ss:List aI) (k:Nat):Bool:=(List.range k).all λi=>match ps[i]?,ss[i]? with
 |some v,some s=>yw v s
 |_,_=>true
theorem Xz (ps:List aT) (ss:List aI) (k:Nat) (h:k<ps.length) (h2:k<ss.length):lI ps ss (k+1)=(lI ps ss k && yw ps[k] ss[k]):=by
 unfold lI
 rw[List.range_succ,List.all_append]
 simp[h,h2]
theorem Xm (ps:List aT) (ss:List aI) (k n:Nat) (hkn:k<n) (h:k<ps.length) (h2:k<ss.length) (hf:yw ps[k] ss[k]=false):lI ps ss n=false:=by
 unfold lI
 apply Bool.eq_false_iff.2
 intro hall
 have:=List.all_eq_true.1 hall k (by simp;exact hkn)
 rw[List.getElem?_eq_getElem h,List.getElem?_eq_getElem h2]at this
 simp only at this
 rw[hf]at this;cases this
def aO.kI (o:aO):Int:=if(o.mM && mO o.slots o.cells o.stacks)=false then 3 else if o.slots.length<o.params.length then 20 else if lI o.params o.slots o.params.length=false then 20 else(fZ o.code o.refs).2
set_option maxRecDepth 100000 in
set_option maxHeartbeats 4000000 in
theorem Ym (o:gT) (w:World) (ht:cZ w) (h:lS w o):Calls Tryz.prog 19 #[o.val] w λe w'=>e = .returned (.int .i64 o.d.kI)/\Grow w w':=by
 have HT:=Lib.hid ht
 have HO:=Lib.hid h
 obtain⟨pa,kE,hpv,Kj,Kk⟩:=h.params.form
 obtain⟨sa,jI,hsv,Kl,Km⟩:=h.slots.form
 obtain⟨ca,eX,hcv,ED,EF⟩:=h.code.form
 obtain⟨ra,fw,Cv,EH,hrlen⟩:=h.refs.form
 clear ht h
 obtain⟨⟨s,ps,ss,cl,st,co,rf⟩,pv,sv,cv,rv⟩:=o
 simp only at hpv hsv hcv Cv Kk Km EF hrlen Kj Kl ED EH
 subst hpv hsv hcv Cv
 have uJ:=Lib.hid (show aO.kI ⟨s,ps,ss,cl,st,co,rf⟩=(if(aO.mM ⟨s,ps,ss,cl,st,co,rf⟩ && mO ss cl st)=false then 3 else if ss.length<ps.length then 20 else if lI ps ss ps.length=false then 20 else(fZ co rf).2)from rfl)
 have hg0:Grow w (w.alloc (.cells #[.string s,.slice pa ps.length kE,.slice sa ss.length jI,.int .i64 cl,.int .i64 st,.slice ca co.length eX,.slice ra rf.length fw] 39)):=(Mv.refl _ _).alloc _
 have tZ:=heap_alloc_new w (.cells #[.string s,.slice pa ps.length kE,.slice sa ss.length jI,.int .i64 cl,.int .i64 st,.slice ca co.length eX,.slice ra rf.length fw] 39)
 have HH:=Lib.hid (Yk _ _ (HO.out.later hg0))
 have ma:=Lib.hid hg0
 have tY:=Lib.hid tZ
 clear hg0 tZ
 go_enter Tryz.func19,Tryz.ntmps19
 go_wp2_with fail
 have hsz1:w.heap.size<(w.alloc (.cells #[.string s,.slice pa ps.length kE,.slice sa ss.length jI,.int .i64 cl,.int .i64 st,.slice ca co.length eX,.slice ra rf.length fw] 39)).heap.size:=by simp
 generalize w.alloc (.cells #[.string s,.slice pa ps.length kE,.slice sa ss.length jI,.int .i64 cl,.int .i64 st,.slice ca co.length eX,.slice ra rf.length fw] 39)=w1 at *
 refine HH.out.mono ?_
 rintro e w2 ⟨rfl,hm2⟩
 have hbr:w2.heap[w.heap.size]? = some (.cells #[.string s,.slice pa ps.length kE,.slice sa ss.length jI,.int .i64 cl,.int .i64 st,.slice ca co.length eX,.slice ra rf.length fw] 39 (0,0)):=by
  rw[hm2.block _ hsz1 (λh=>h)];exact tY.out
 have hsz2:w.heap.size<w2.heap.size:=by have:=hm2.size;omega
 have HG2:=Lib.hid (Mv.trans ma.out hm2 (λ_ e=>e.elim))
 have HB2:=Lib.hid hbr
 generalize aO.mM ⟨s,ps,ss,cl,st,co,rf⟩=hq at *
 cases hq
 · clear hm2 hbr
   go_wp2_with fail
   go_ret
   exact⟨fC (by rw[uJ.out];simp),HG2.out⟩
 have b2:w2.cell? ⟨w.heap.size,2,none⟩=some (.slice sa ss.length jI):=by simp[World.cell?,hbr]
 have b3:w2.cell? ⟨w.heap.size,3,none⟩=some (.int .i64 cl):=by simp[World.cell?,hbr]
 have b4:w2.cell? ⟨w.heap.size,4,none⟩=some (.int .i64 st):=by simp[World.cell?,hbr]
 have Gr:=Lib.hid (Yl _ ss cl st w2 (HO.out.later HG2.out).slots HO.out.ok.few (λx hx=>(HO.out.ok.slots x hx).1))
 clear hm2 hbr
 go_wp2_with fail
 refine Gr.out.mono ?_
 rintro e w3 ⟨rfl,dR⟩
 have hbr:w3.heap[w.heap.size]? = some (.cells #[.string s,.slice pa ps.length kE,.slice sa ss.length jI,.int .i64 cl,.int .i64 st,.slice ca co.length eX,.slice ra rf.length fw] 39 (0,0)):=by
  rw[dR.block _ hsz2 (λh=>h)];exact HB2.out
 have TH:w.heap.size<w3.heap.size:=by have:=dR.size;omega
 have cu:=Lib.hid (Mv.trans HG2.out dR (λ_ e=>e.elim))
 have HB3:=Lib.hid hbr
 generalize mO ss cl st=fq at *
 cases fq
 · clear dR hbr b2 b3 b4
   go_wp2_with fail
   go_ret
   exact⟨fC (by rw[uJ.out];simp),cu.out⟩
 have d1:w3.cell? ⟨w.heap.size,1,none⟩=some (.slice pa ps.length kE):=by simp[World.cell?,hbr]
 have d2:w3.cell? ⟨w.heap.size,2,none⟩=some (.slice sa ss.length jI):=by simp[World.cell?,hbr]
 clear dR hbr b2 b3 b4
 by_cases hsl:ss.length<ps.length
 · go_wp2_with fail
   go_ret
   exact⟨fC (by rw[uJ.out];simp[hsl]),cu.out⟩
 have Fp:=Lib.hid (show aO.kI ⟨s,ps,ss,cl,st,co,rf⟩=(if lI ps ss ps.length=false then 20 else(fZ co rf).2)from by rw[uJ.out,if_neg (by simp),if_neg hsl])
 go_wp2_with fail
 clear d1 d2
 go_loopw [28] (λt wr=>∃ k:Nat,t = .int .i64 k/\k<=ps.length/\Grow w3 wr/\lI ps ss k=true) (λt _=>ps.length - (intOf t).toNat)
 case atStart=>exact⟨0,rfl,Nat.zero_le _,Mv.refl _ _,rfl⟩
 obtain⟨k,rfl,hk,hg,hag⟩:=hrel
 have HG:=Lib.hid hg
 have VN:=Lib.hid hag
 have aU:=Lib.hid (Mv.trans cu.out hg (λ_ e=>e.elim))
 have hbr:wr.heap[w.heap.size]? = some (.cells #[.string s,.slice pa ps.length kE,.slice sa ss.length jI,.int .i64 cl,.int .i64 st,.slice ca co.length eX,.slice ra rf.length fw] 39 (0,0)):=by
  rw[hg.block _ TH (λh=>h)];exact HB3.out
 have TA:w.heap.size<wr.heap.size:=by have:=hg.size;omega
 clear hag hg
 by_cases hlt:k<ps.length
 · have hks:k<ss.length:=by omega
   obtain⟨b,off,cap',e,_,hcc⟩:=(HO.out.params.later aU.out).at hlt
   simp only[Value.slice.injEq,true_and]at e
   obtain⟨rfl,rfl⟩:=e
   have c0:=hcc 0 _ rfl
   have c1:=hcc 1 _ rfl
   have c2:=hcc 2 _ rfl
   simp only[Nat.add_zero]at c0
   obtain⟨b',off',agu,e,_,BP⟩:=(HO.out.slots.later aU.out).at hks
   simp only[Value.slice.injEq,true_and]at e
   obtain⟨rfl,rfl⟩:=e
   have e0:=BP 0 _ rfl
   have e1:=BP 1 _ rfl
   have e2:=BP 2 _ rfl
   have e3:=BP 3 _ rfl
   simp only[Nat.add_zero]at e0
   have hbl:b<wr.heap.size:=World.block_lt_of_cell? wr _ c0
   have TJ:b'<wr.heap.size:=World.block_lt_of_cell? wr _ e0
   have d2:wr.cell? ⟨w.heap.size,2,none⟩=some (.slice (some ⟨b',off',none⟩) ss.length jI):=by simp[World.cell?,hbr]
   have HAS:=Lib.hid (Xz ps ss k hlt hks)
   have qD:=Lib.hid (Xm ps ss k ps.length hlt hlt hks)
   simp only at c0 c1 c2 e0 e1 e2 e3
   generalize hvx:ps[k]=v at *
   generalize hsx:ss[k]=sl at *
   obtain⟨vs,vk,vl⟩:=v
   obtain⟨xs,xk,xl,xt⟩:=sl
   simp only at c0 c1 c2 e0 e1 e2 e3
   have Cu:=Lib.hid (Oi xs vs)
   have uK:=Lib.hid (show yw ⟨vs,vk,vl⟩ ⟨xs,xk,xl,xt⟩=((xs == vs) && ((xk == vk) && (xl == vl)))from rfl)
   clear hcc BP hvx hsx hbr
   by_cases n1:(xs.toList == vs.toList)=true
   · have m1:(xs.toList != vs.toList)=false:=by simp[bne,n1]
     by_cases n2:xk=vk
     · have m2:(xk != vk)=false:=by simp[n2]
       by_cases n3:xl=vl
       · have m3:(xl != vl)=false:=by simp[n3]
         have Gs:=Lib.hid (show lI ps ss (k+1)=true from by rw[HAS.out,VN.out,uK.out,← Cu.out,n1];simp[n2,n3])
         clear n2 n3
         go_wp2_with fail
         go_roundw
         case rel=>exact⟨k+1,by go_num,by omega,(HG.out.alloc _).alloc _,Gs.out⟩
         case measure=>simp[intOf];omega
       · have m3:(xl != vl)=true:=by simpa using n3
         have HF:=Lib.hid (show aO.kI ⟨s,ps,ss,cl,st,co,rf⟩=20 from by rw[Fp.out,if_pos (qD.out (by rw[uK.out];simp[n3]))])
         clear n2 n3
         go_wp2_with fail
         go_ret
         exact⟨fC (by rw[HF.out]),(aU.out.alloc _).alloc _⟩
     · have m2:(xk != vk)=true:=by simpa using n2
       have HF:=Lib.hid (show aO.kI ⟨s,ps,ss,cl,st,co,rf⟩=20 from by rw[Fp.out,if_pos (qD.out (by rw[uK.out];simp[n2]))])
       clear n2
       go_wp2_with fail
       go_ret
       exact⟨fC (by rw[HF.out]),(aU.out.alloc _).alloc _⟩
   · have n1':(xs.toList == vs.toList)=false:=by simpa using n1
     have m1:(xs.toList != vs.toList)=true:=by simp[bne,n1']
     have HF:=Lib.hid (show aO.kI ⟨s,ps,ss,cl,st,co,rf⟩=20 from by rw[Fp.out,if_pos (qD.out (by rw[uK.out,← Cu.out,n1'];rfl))])
     clear n1
     go_wp2_with fail
     go_ret
     exact⟨fC (by rw[HF.out]),(aU.out.alloc _).alloc _⟩
 · obtain rfl:k=ps.length:=by omega
   have d5:wr.cell? ⟨w.heap.size,5,none⟩=some (.slice ca co.length eX):=by simp[World.cell?,hbr]
   have d6:wr.cell? ⟨w.heap.size,6,none⟩=some (.slice ra rf.length fw):=by simp[World.cell?,hbr]
   have HF:=Lib.hid (show aO.kI ⟨s,ps,ss,cl,st,co,rf⟩=(fZ co rf).2 from by rw[Fp.out,VN.out,if_neg (by simp)])
   have qz:=Lib.hid (NI _ _ co rf wr (HT.out.later aU.out) (HO.out.code.later aU.out) (HO.out.refs.later aU.out) (λx hx=>(HO.out.ok.code x hx).1))
   clear hbr
   go_wp2_with fail
   refine qz.out.mono ?_
   rintro e w5 ⟨rfl,VO⟩
   have adj:=Lib.hid (Mv.trans aU.out VO (λ_ e=>e.elim))
   clear VO
   go_wp2_with fail
   go_ret
   exact⟨fC (by rw[HF.out]),adj.out⟩
end
end Go.Proofs.YtadecgbblajifaaGreatDoor
namespace Go.Proofs.YtadecgbblajifaaGreatDoor.DV
open Go Go.RowKit Go.Sort
theorem aaG (l:List dM) (x:dM) (h:x∈l):x∈mH l:=by
 have hp:=(pdq_sorts (ltOf mK) Kh l.toArray 0 l.length (Lib.bitLen l.length) true true (Nat.zero_le _) (by simp) (Or.inl rfl)).1
 have hs:(pdq (ltOf mK) l.toArray 0 l.length (Lib.bitLen l.length) true true).size=l.length:=by simpa using hp.1
 have h2:=hp.2.2
 rw[show(l.toArray.extract 0 l.length)=l.toArray from by simp,Array.extract_eq_self_of_le (by omega)]at h2
 exact h2.symm.subset h
theorem Ri (first count:Int):∀ (l:List dM) (used:Int),pY first count used l=true->∀ x∈l,1<=x.2
 | [],_,_,x,hx=>by cases hx
 |y :: l,used,h,x,hx=>by
  simp only[pY]at h
  split at h
  · simp at h
  · split at h
    · simp at h
    · rename_i h1
      rcases List.mem_cons.1 hx with rfl|hx
      · omega
      · exact Ri first count l _ h x hx
theorem Rj:∀ (l:List aI) (p q:List dM × List dM),l.foldlM qQ p=some q->(∀ x∈p.1,x∈q.1)/\∀ s∈l,s.kind=2->(s.at',s.len)∈q.1
 | [],p,q,h=>by
  simp only[List.foldlM_nil,Option.pure_def,Option.some.injEq]at h
  subst h
  exact⟨λ_ h=>h,λs hs=>by cases hs⟩
 |s :: l,p,q,h=>by
  rw[List.foldlM_cons]at h
  cases hp:qQ p s with
  |none=>rw[hp]at h;cases h
  |some p' =>
   rw[hp]at h
   obtain⟨i1,i2⟩:=Rj l p' q h
   have hst:(∀ x∈p.1,x∈p'.1)/\(s.kind=2->(s.at',s.len)∈p'.1):=by
    unfold qQ at hp
    split at hp
    · rename_i hk
      simp only[Option.some.injEq]at hp;subst hp
      exact⟨λx hx=>by simp[hx],λh=>by omega⟩
    · split at hp
      · simp only[Option.some.injEq]at hp;subst hp
        exact⟨λx hx=>by simp[hx],λ_=>by simp⟩
      · split at hp
        · rename_i hk
          simp only[Option.some.injEq]at hp;subst hp
          exact⟨λx hx=>hx,λh=>by omega⟩
        · cases hp
   refine⟨λx hx=>i1 x (hst.1 x hx),λt ht hk => ?_⟩
   rcases List.mem_cons.1 ht with rfl|ht
   · exact i1 _ (hst.2 hk)
   · exact i2 t ht hk
theorem Pf {l:List aI} {c st:Int} (h:iQ l c st=true):∀ s∈l,s.kind=2->1<=s.len:=by
 intro s hs hk
 unfold iQ at h
 cases hp:lH l l.length with
 |none=>rw[hp]at h;cases h
 |some p =>
  rw[hp]at h
  simp only[Bool.and_eq_true]at h
  unfold lH at hp
  rw[List.take_length]at hp
  have h2:=(Rj l _ p hp).2 s hs hk
  exact Ri 0 c (mH p.1) 0 h.1 _ (aaG _ _ h2)
theorem En (a b:ByteArray):(a.toList == b.toList)=(a == b):=by
 have e:∀ s:ByteArray,s.toList=s.data.toList:=λs=>by rw[ByteArray.toList_eq]
 rw[e,e]
 by_cases h:a=b
 · subst h;simp
 · have h1:(a == b)=false:=by simpa using h
   have h2:¬ a.data.toList=b.data.toList:=λq=>h (by cases a;cases b;simp only[ByteArray.mk.injEq];exact Array.toList_inj.1 q)
   rw[h1];simpa using h2
theorem ZZ (v:aT):BM dH v = !v.rq:=by
 unfold BM aT.rq uf
 cases dH v.name
 · simp
 · by_cases h1:v.kind=1
   · simp only[h1];by_cases h:v.len=0
     · simp[h]
     · have hb:(v.len == 0)=false:=by simpa using h
       simp[hb]
   · by_cases h3:v.kind=3
     · simp only[h3];by_cases h:v.len=0
       · simp[h]
       · have hb:(v.len == 0)=false:=by simpa using h
         simp[hb]
     · by_cases h2:v.kind=2
       · simp only[h2]
         by_cases h:v.len=0
         · simp[h]
         · by_cases ha:v.len<0
           · have:¬ 1<=v.len:=by omega
             simp[h,ha,this]
           · by_cases hb:v.len > 16
             · have:¬ v.len<=16:=by omega
               simp[h,hb,this]
             · have q1:1<=v.len:=by omega
               have q2:v.len<=16:=by omega
               simp[h,ha,hb,q1,q2]
       · simp[h1,h2,h3]
theorem Y3 (l:List aT) (v:aT):(l.any (qj v)) = !mI l v.name:=by
 unfold mI
 rw[← List.not_any_eq_all_not]
 simp only[Bool.not_not]
 congr 1
 funext x
 exact En _ _
theorem Yn (l:List aT):anyI (mZ dH l) l = !nJ l l.length:=by
 unfold anyI nJ
 rw[List.any_eq_not_all_not]
 congr 2
 funext k
 cases l[k]? with
 |none=>rfl
 |some v =>
  simp only[mZ,ZZ,Y3]
  cases v.rq <;> cases mI (l.take k) v.name <;> rfl
theorem abw (s:ByteArray):(s.toList == (⟨#[]⟩:ByteArray).toList)=decide (s.size=0):=by
 rw[En]
 by_cases h:s.size=0
 · have:=Go.Proofs.YtadecgbblajifaaGreatDoor.Di (s:=s) (by omega)
   subst this;rfl
 · have h2:¬ s=⟨#[]⟩:=λq=>h (by rw[q];rfl)
   simp[h,h2]
theorem head_eq (o:aO):(qB dH o || anyI (mZ dH o.params) o.params) = !o.mM:=by
 rw[Yn]
 unfold qB aO.mM
 rw[abw]
 by_cases h:o.name.size=0
 · cases hp:o.params with
   |nil=>simp[h,nJ]
   |cons v l=>simp[h]
 · simp only[h,decide_false,Bool.false_and,Bool.false_or,Bool.not_false,Bool.true_and,if_false]
   cases dH o.name
   · simp
   · by_cases h8:o.params.length<=8
     · have:¬ ((o.params.length:Int) > 8):=by omega
       simp[h8,this]
     · have:(o.params.length:Int) > 8:=by omega
       simp[h8,this]
theorem Ql {s:aI} (h:s.kind=2->1<=s.len):ou s = !s.okB:=by
 unfold ou aI.okB
 by_cases hz:s.name.size<=255
 · have hz2:¬ ((s.name.size:Int) > 255):=by omega
   by_cases hk:s.kind=2
   · have h1:=h hk
     by_cases hl:s.len<=16
     · have:¬ s.len > 16:=by omega
       simp[*]
     · have:s.len > 16:=by omega
       simp[*]
   · have hkb:(s.kind == 2)=false:=by simpa using hk
     simp[hz,hz2,hk,hkb]
 · have hz2:(s.name.size:Int) > 255:=by omega
   simp[hz,hz2]
theorem aaH (o:aO):(qC iQ o || o.slots.any ou) = !mO o.slots o.cells o.stacks:=by
 unfold qC mO vU
 cases hd:iQ o.slots o.cells o.stacks
 · simp
 · have h1:o.slots.any ou = !o.slots.all aI.okB:=by
    rw[Bool.eq_iff_iff]
    simp only[List.any_eq_true,Bool.not_eq_true',List.all_eq_false]
    constructor
    · rintro⟨s,hs,h⟩
      rw[Ql (Pf hd s hs)]at h
      exact⟨s,hs,by simpa using h⟩
    · rintro⟨s,hs,h⟩
      refine⟨s,hs,?_⟩
      rw[Ql (Pf hd s hs)]
      simpa using h
   rw[h1]
   by_cases a:o.cells<0
   · have:¬ 0<=o.cells:=by omega
     simp[a,this]
   · have q1:0<=o.cells:=by omega
     by_cases b:o.cells > 16384
     · have:¬ o.cells<=16384:=by omega
       simp[b,this]
     · have q2:o.cells<=16384:=by omega
       by_cases c:o.stacks<0
       · have:¬ 0<=o.stacks:=by omega
         simp[c,this]
       · have q3:0<=o.stacks:=by omega
         by_cases d:o.stacks > 16384
         · have:¬ o.stacks<=16384:=by omega
           simp[d,this]
         · have q4:o.stacks<=16384:=by omega
           simp[a,b,c,d,q1,q2,q3,q4]
theorem Z0 (o:aO):(o.slots.length<o.params.length\/lI o.params o.slots o.params.length=false)↔anyI (lW o.slots) o.params=true:=by
 unfold lI anyI
 constructor
 · rintro(h|h)
   · refine List.any_eq_true.2 ⟨o.slots.length,List.mem_range.2 h,?_⟩
     rw[List.getElem?_eq_getElem h]
     simp[lW]
   · rw[← Bool.not_eq_true,List.all_eq_true]at h
     simp only[Classical.not_forall]at h
     obtain⟨i,hi,h⟩:=h
     refine List.any_eq_true.2 ⟨i,hi,?_⟩
     cases hv:o.params[i]? with
     |none=>rw[hv]at h;simp at h
     |some v =>
      cases hs:o.slots[i]? with
      |none=>simp[lW,hs]
      |some s =>
       rw[hv,hs]at h
       simp only[yw]at h
       simp only[lW,hs,BN,En]
       revert h
       cases s.name == v.name <;> cases s.kind == v.kind <;> cases s.len == v.len <;> simp
 · intro h
   obtain⟨i,hi,h⟩:=List.any_eq_true.1 h
   have hi:=List.mem_range.1 hi
   rw[List.getElem?_eq_getElem hi]at h
   simp only[lW]at h
   rcases Nat.lt_or_ge i o.slots.length with h1|h1
   · rw[List.getElem?_eq_getElem h1]at h
     right
     rw[← Bool.not_eq_true,List.all_eq_true]
     intro hall
     have:=hall i (List.mem_range.2 hi)
     rw[List.getElem?_eq_getElem hi,List.getElem?_eq_getElem h1]at this
     simp only[BN,En]at h
     simp only[yw]at this
     revert h this
     generalize (o.slots[i].name == o.params[i].name)=b1
     generalize (o.slots[i].kind == o.params[i].kind)=b2
     generalize (o.slots[i].len == o.params[i].len)=b3
     cases b1 <;> cases b2 <;> cases b3 <;> simp
   · left;omega
theorem Y4 (o:aO):jT o=o.kI:=by
 unfold jT aO.kI
 have h1:=head_eq o
 have h2:=aaH o
 have h3:=Z0 o
 have e:(qB dH o || anyI (mZ dH o.params) o.params || qC iQ o || o.slots.any ou) = !(o.mM && mO o.slots o.cells o.stacks):=by
  rw[Bool.or_assoc,h1,h2]
  cases o.mM <;> rfl
 rw[e]
 cases hh:(o.mM && mO o.slots o.cells o.stacks)
 · simp
 · simp only[Bool.not_true,Bool.false_eq_true,if_false]
   by_cases q:anyI (lW o.slots) o.params=true
   · rw[if_pos q]
     rcases h3.2 q with h4|h4
     · simp[h4]
     · by_cases h5:o.slots.length<o.params.length
       · simp[h5]
       · simp[h5,h4]
   · rw[if_neg q]
     have h4:¬ (o.slots.length<o.params.length\/lI o.params o.slots o.params.length=false):=λh=>q (h3.1 h)
     simp only[not_or]at h4
     simp[h4.1,h4.2]
end Go.Proofs.YtadecgbblajifaaGreatDoor.DV
namespace Go.Proofs.YtadecgbblajifaaGreatDoor
end Go.Proofs.YtadecgbblajifaaGreatDoor
