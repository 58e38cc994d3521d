import Derived.Test.YtadecgbblajifaaGreatDoorE18
import Derived.Shelf.SlGeneric
import Derived.Shelf.SlSortCmp.WholeK
import Derived.Ground.SlsfProg
import Derived.Shelf.SlSortCmp.NoneTotal
set_option linter.unusedSimpArgs false
set_option linter.unusedVariables false
set_option maxRecDepth 100000
set_option maxHeartbeats 25600000
namespace Go.Proofs.YtadecgbblajifaaGreatDoor
section
open Go.RowKit Go.Instr
def mi (refs:List cB) (k:Nat):List (Int × Value):=(refs.take k).foldl (λm r=>kC r.at' (.bool true) m) []
def pQ (refs:List cB) (i:Int):Bool:=(BJ (mi refs refs.length) i).isSome
theorem Nf (refs:List cB) (k:Nat) (h:k<refs.length):mi refs (k+1)=kC refs[k].at' (.bool true) (mi refs k):=by
 unfold mi
 rw[List.take_succ_eq_append_getElem h,List.foldl_append]
 rfl
theorem Ns (refs:List cB):∀ (k:Nat),k<=refs.length->∀ p∈mi refs k,p.2 = .bool true:=by
 intro k
 induction k with
 |zero=>intro _ p hp;simp[mi]at hp
 |succ k ih=>intro hk p hp;rw[Nf refs k (by omega)]at hp;exact Ir _ _ (ih (by omega)) p hp
def Av (code:List Ins) (refs:List cB) (next:Nat):Int × Int:=if next<refs.length then((code.length:Int),6)else(-1,0)
def pz (code:List Ins) (refs:List cB):Nat->Nat->Nat->Int × Int
 |0,_,next=>Av code refs next
 |f+1,i,next=>match code[i]? with
  |none=>Av code refs next
  |some x =>
   if x.gF=false\/x.op=32\/x.op=33\/x.op=34 then((i:Int),3)
   else if mX x.op=true/\sS code i=false then((i:Int),23)
   else if x.op≠30/\x.op≠31 then(if pQ refs i then((i:Int),6)else pz code refs f (i+1) next)
   else if x.a≠0\/next=refs.length\/(refs[next]?.map cB.at')≠some (i:Int)then((i:Int),6)else pz code refs f (i+1) (next+1)
def fZ (code:List Ins) (refs:List cB):Int × Int:=pz code refs code.length 0 0
theorem aaE (op:Int) (h:mX op=true):op≠30/\op≠31:=by
 constructor
 · rintro rfl;revert h;decide
 · rintro rfl;revert h;decide
theorem cZ.keep {O:Nat->Prop} {w w':World} (h:cZ w) (hm:Mv O w w') (hO:∀ b,O b->w.heap.size<=b):cZ w':=h.later (hm.mono λx hx => .inr (hO x hx))
theorem Tryz.JJ:KeyLaw Tryz.prog 3 (Value.int .i64) (.int .i64):=aar Tryz.underlying3
set_option maxRecDepth 100000 in
set_option maxHeartbeats 3200000 in
theorem NI (cv rv:Value) (code:List Ins) (refs:List cB) (w:World) (ht:cZ w) (hc:aB 5 Ins.cells w cv code) (hr:aB 2 cB.cells w rv refs) (hop:∀ x∈code,0<=x.op/\x.op<=255) :
 Calls Tryz.prog 40 #[.agg #[cv,rv]] w λe w'=>e = .returned (.tuple #[.int .i64 (fZ code refs).1,.int .i64 (fZ code refs).2])/\Grow w w':=by
 obtain⟨ca,eX,rfl,ED,EF⟩:=hc.form
 obtain⟨ra,fw,rfl,EH,hrlen⟩:=hr.form
 have hmm := @run_makeMap Tryz.prog
 have HT:=Lib.hid ht
 have HC:=Lib.hid hc
 have HR:=Lib.hid hr
 have Gi:=Lib.hid hop
 have R9:MapAt (Value.int .i64) ((w.alloc (.cells #[.slice ca code.length eX,.slice ra refs.length fw] 37)).alloc (.map #[] 0)) (w.heap.size+1) []:=by
  have:=MapAt.new (Value.int .i64) (w.alloc (.cells #[.slice ca code.length eX,.slice ra refs.length fw] 37))
  simpa using this
 have Sa:((w.alloc (.cells #[.slice ca code.length eX,.slice ra refs.length fw] 37)).alloc (.map #[] 0)).heap[w.heap.size]? = some (.cells #[.slice ca code.length eX,.slice ra refs.length fw] 37 (0,0)):=by
  rw[Below.heap_alloc _ _ _ (by simp)];exact heap_alloc_new w _
 have hgw:Mv (λb=>b=w.heap.size+1) w ((w.alloc (.cells #[.slice ca code.length eX,.slice ra refs.length fw] 37)).alloc (.map #[] 0)):=((Mv.refl _ _).alloc _).alloc _
 have ac9:=Lib.hid R9
 have tY:=Lib.hid Sa
 have aS:=Lib.hid hgw
 clear ht hc hr hop R9 Sa hgw
 go_enter Tryz.func40,Tryz.ntmps40
 go_wp2_with fail
 have hsz1:w.heap.size+1<((w.alloc (.cells #[.slice ca code.length eX,.slice ra refs.length fw] 37)).alloc (.map #[] 0)).heap.size:=by simp
 generalize (w.alloc (.cells #[.slice ca code.length eX,.slice ra refs.length fw] 37)).alloc (.map #[] 0)=w1 at *
 go_loopw [14] (λt wr=>∃ k:Nat,t = .int .i64 k/\k<=refs.length/\Mv (λb=>b=w.heap.size+1) w1 wr/\MapAt (Value.int .i64) wr (w.heap.size+1) (mi refs k)) (λt _=>refs.length - (intOf t).toNat)
 case atStart=>exact⟨0,rfl,Nat.zero_le _,Mv.refl _ _,ac9.out⟩
 obtain⟨k,rfl,hk,hg,hmp⟩:=hrel
 have wL:=aS.out.trans hg (λx e => .inl e)
 have hgr:Grow w wr:=wL.mono (λx e => .inr (by omega))
 have TA:=hg.size
 have qi:wr.heap[w.heap.size]? = some (.cells #[.slice ca code.length eX,.slice ra refs.length fw] 37 (0,0)):=by
  rw[hg.block _ (by omega) (by omega)];exact tY.out
 have HG:=Lib.hid hg
 have aU:=Lib.hid hgr
 have HMP:=Lib.hid hmp
 have LV:=Lib.hid qi
 by_cases hlt:k<refs.length
 · obtain⟨b,off,cap',e,_,hcc⟩:=(HR.out.later hgr).at hlt
   simp only[Value.slice.injEq,true_and]at e
   obtain⟨rfl,rfl⟩:=e
   have c0:=hcc 0 _ rfl
   have c1:=hcc 1 _ rfl
   simp only[Nat.add_zero]at c0
   have hbl:b<wr.heap.size:=World.block_lt_of_cell? wr _ c0
   have HS:=Lib.hid (Nf refs k hlt)
   generalize hx:refs[k]=x at *
   obtain⟨xa,xs⟩:=x
   simp only at c0 c1
   obtain⟨w2,hup,BK,eG⟩:=run_set Tryz.JJ Tryz.underlying147 xa (.bool true) (hmp.keep (w':=wr.alloc (.cells #[.int .i64 xa,.string xs] 67)) (Below.heap_alloc _ _ _ hmp.lt))
   have yV:=Lib.hid BK
   have ada:=Lib.hid eG
   clear hcc hx hmp BK eG hg hgr wL qi
   go_wp2_with fail
   go_roundw
   case rel=>exact⟨k+1,by go_num,by omega,(HG.out.alloc _).trans ada.out (λx e => .inl e),by rw[HS.out];exact yV.out⟩
   case measure=>simp[intOf];omega
 · obtain rfl:k=refs.length:=by omega
   have p0:wr.cell? ⟨w.heap.size,0,none⟩=some (.slice ca code.length eX):=by simp[World.cell?,qi]
   have yX:w.heap.size<wr.heap.size:=by omega
   clear hmp hg hgr wL qi
   go_wp2_with fail
   clear p0
   obtain⟨wo,rfl⟩:∃ wo:World,wo=wr:=⟨_,rfl⟩
   go_loopw [7,25] (λnx t wr=>∃ i next:Nat,nx = .int .i64 next/\t = .int .i64 i/\i<=code.length/\next<=refs.length/\Mv (λb=>b=w.heap.size+1) w1 wr/\MapAt (Value.int .i64) wr (w.heap.size+1) (mi refs refs.length)/\fZ code refs=pz code refs (code.length - i) i next) (λ_ t _=>code.length - (intOf t).toNat)
   case atStart=>exact⟨0,0,rfl,rfl,Nat.zero_le _,Nat.zero_le _,HG.out,HMP.out,rfl⟩
   obtain⟨i,next,rfl,rfl,hi,hnx,hg,hmp,hpc⟩:=hrel
   have wL:=aS.out.trans hg (λx e => .inl e)
   have hgr:Grow w wr:=wL.mono (λx e => .inr (by omega))
   have ags:=hg.size
   have qi:wr.heap[w.heap.size]? = some (.cells #[.slice ca code.length eX,.slice ra refs.length fw] 37 (0,0)):=by
    rw[hg.block _ (by omega) (by omega)];exact tY.out
   have qz:=Lib.hid hpc
   clear hpc
   by_cases hlt:i<code.length
   · obtain⟨b,off,cap',e,_,_⟩:=(HC.out.later hgr).at hlt
     simp only[Value.slice.injEq,true_and]at e
     obtain⟨rfl,rfl⟩:=e
     obtain⟨⟨c0,c1,c2⟩,c3,c4,hbl⟩:=(HC.out.later hgr).ins hlt
     have gm:=Gi.out code[i] (List.getElem_mem hlt)
     have HST:=Lib.hid (show pz code refs (code.length - i) i next=(if code[i].gF=false\/code[i].op=32\/code[i].op=33\/code[i].op=34 then((i:Int),3)
      else if mX code[i].op=true/\sS code i=false then((i:Int),23)
      else if code[i].op≠30/\code[i].op≠31 then(if pQ refs i then((i:Int),6)else pz code refs (code.length - (i+1)) (i+1) next)
      else if code[i].a≠0\/next=refs.length\/(refs[next]?.map cB.at')≠some (i:Int)then((i:Int),6)else pz code refs (code.length - (i+1)) (i+1) (next+1))from by
       rw[show code.length - i=(code.length - (i+1))+1 by omega]
       simp only[pz,List.getElem?_eq_getElem hlt])
     have HV:=Lib.hid (λw ht=>Io code[i] w ht gm.1 gm.2)
     have HTB:=Lib.hid (HT.out.later (hgr.alloc (.cells #[.int .u8 code[i].op,.int .i64 code[i].a,.int .i64 code[i].b,.int .i64 code[i].c,.int .i64 code[i].d] 69)))
     generalize hx:code[i]=x at *
     obtain⟨xo,xa,xb,xc,xd⟩:=x
     simp only at c0 c1 c2 c3 c4 gm
     have LW:=Lib.hid hg
     have Ff:=Lib.hid hgr
     have adb:=Lib.hid hmp
     have acg:w.heap.size<wr.heap.size:=by omega
     have ade:=Lib.hid qi
     clear hx hg hgr wL hmp qi
     go_wp2_with fail
     refine(HV.out _ HTB.out).mono ?_
     rintro e w2 ⟨rfl,hm2⟩
     obtain⟨hc2,hf2⟩:=vT hm2
     have hs2:=hm2.size
     simp only[World.size_alloc]at hs2
     have hg2:Mv (λb=>b=w.heap.size+1) w1 w2:=(LW.out.alloc _).trans hm2 (λ_ e=>e.elim)
     have hb2:w2.heap[w.heap.size]? = some (.cells #[.slice (some ⟨b,off,none⟩) code.length eX,.slice ra refs.length fw] 37 (0,0)):=by
      rw[hm2.block _ (by simp;omega) (λh=>h),Below.heap_alloc _ _ _ acg];exact ade.out
     have p0:w2.cell? ⟨w.heap.size,0,none⟩=some (.slice (some ⟨b,off,none⟩) code.length eX):=by simp[World.cell?,hb2]
     have p1:w2.cell? ⟨w.heap.size,1,none⟩=some (.slice ra refs.length fw):=by simp[World.cell?,hb2]
     have x0:w2.cell? ⟨wr.heap.size,0,none⟩=some (.int .u8 xo):=by rw[hc2 _ _ (by simp),IV];rfl
     have x1:w2.cell? ⟨wr.heap.size,1,none⟩=some (.int .i64 xa):=by rw[hc2 _ _ (by simp),IV];rfl
     have BL:Grow w w2:=Mv.trans (Ff.out.alloc _) hm2 (λ_ e=>e.elim)
     have BK:MapAt (Value.int .i64) w2 (w.heap.size+1) (mi refs refs.length):=adb.out.keep (by rw[hm2.block _ (by simp;omega) (λh=>h),Below.heap_alloc _ _ _ (by omega)])
     have HG2:=Lib.hid hg2
     have kY:=Lib.hid BL
     have yV:=Lib.hid BK
     have hX2:wr.heap.size<w2.heap.size:=by omega
     generalize Ins.gF ⟨xo,xa,xb,xc,xd⟩=vq at *
     clear hm2 hc2 hf2 hg2 hb2 BL BK c0 c1 c2 c3 c4
     by_cases hbad:vq=false\/xo=32\/xo=33\/xo=34
     · have iC:=Lib.hid (show fZ code refs=((i:Int),3)from by rw[qz.out,HST.out,if_pos hbad])
       cases vq
       · go_wp2_with fail
         go_ret2
         exact⟨by rw[iC.out];rfl,kY.out⟩
       · rcases hbad with h|h|h|h
         · cases h
         all_goals
          subst h
          go_wp2_with fail
          go_ret2
          exact⟨by rw[iC.out];rfl,kY.out⟩
     · have HB0:=Lib.hid hbad
       cases vq
       · exact(hbad (.inl rfl)).elim
       have n32:(xo == 32)=false:=by simpa using λe=>hbad (.inr (.inl e))
       have n33:(xo == 33)=false:=by simpa using λe=>hbad (.inr (.inr (.inl e)))
       have n34:(xo == 34)=false:=by simpa using λe=>hbad (.inr (.inr (.inr e)))
       clear hbad
       go_wp2_with fail
       refine(Oj xo _).mono ?_
       rintro e w' ⟨rfl,rfl⟩
       have Gj:=Lib.hid (aaE xo)
       generalize hmq:mX xo=mq at *
       cases mq
       · have nz:=Lib.hid (show ¬ (false=true/\sS code i=false)from by simp)
         by_cases hcall:xo≠30/\xo≠31
         · have zD:=Lib.hid hcall
           have n30:(xo != 30)=true:=by simpa using hcall.1
           have n31:(xo != 31)=true:=by simpa using hcall.2
           clear hcall Gj
           have hl:=run_get Tryz.JJ Tryz.underlying147 (i:Int) (.bool false) Tryz.IU yV.out
           have hl2:(lookup 147 (.map (some (w.heap.size+1))) (.int .i64 (i:Int)) false).run Tryz.prog w2 = .ok (.bool (pQ refs i)) w2:=by
            rw[hl];exact congrArg (λv=>Result.ok v w2) (Dw (i:Int) (mi refs refs.length) 0 (Ns refs refs.length (Nat.le_refl _)))
           have HLI:=Lib.hid (show pQ refs i=pQ refs i from rfl)
           clear hl
           generalize hq:pQ refs (i:Int)=lq at *
           cases lq
           · go_wp2_with fail
             go_roundw
             case rel=>exact⟨i+1,next,rfl,by go_num,by omega,hnx,HG2.out,yV.out,by rw[qz.out,HST.out,if_neg HB0.out,if_neg (by simp),if_pos zD.out,if_neg (by simp)]⟩
             case measure=>simp[intOf];omega
           · have iC:=Lib.hid (show fZ code refs=((i:Int),6)from by rw[qz.out,HST.out,if_neg HB0.out,if_neg (by simp),if_pos zD.out,if_pos (by simp)])
             go_wp2_with fail
             go_ret2
             exact⟨by rw[iC.out];rfl,kY.out⟩
         · have zD:=Lib.hid hcall
           have qA:=Lib.hid (show fZ code refs=(if xa≠0\/next=refs.length\/(refs[next]?.map cB.at')≠some (i:Int)then((i:Int),6)else pz code refs (code.length - (i+1)) (i+1) (next+1))from by
            rw[qz.out,HST.out,if_neg HB0.out,if_neg (by simp),if_neg hcall])
           have Fg:xo=30\/xo=31:=by omega
           clear hcall Gj hmq n32 n33 n34
           by_cases ha:xa=0
           · subst ha
             by_cases hne:next=refs.length
             · have iC:=Lib.hid (show fZ code refs=((i:Int),6)from by rw[qA.out,if_pos (.inr (.inl hne))])
               have hnb:((next:Int) == (refs.length:Int))=true:=by simp[hne]
               have LX:=Lib.hid hne
               clear hne
               rcases Fg with rfl|rfl
               all_goals
                go_wp2_with fail
                go_ret2
                exact⟨by rw[iC.out];rfl,kY.out⟩
             · have hnl:next<refs.length:=by omega
               have hnb:((next:Int) == (refs.length:Int))=false:=by simpa using λe=>hne (by omega)
               obtain⟨rb,roff,agt,e,_,hcc⟩:=(HR.out.later kY.out).at hnl
               simp only[Value.slice.injEq,true_and]at e
               obtain⟨rfl,rfl⟩:=e
               have r0:=hcc 0 _ rfl
               simp only[Nat.add_zero]at r0
               have agL:rb<w2.heap.size:=World.block_lt_of_cell? w2 _ r0
               have hgt:(refs[next]?.map cB.at')=some refs[next].at':=by rw[List.getElem?_eq_getElem hnl];rfl
               rw[hgt]at qA
               generalize refs[next].at'=ra at *
               clear hcc hgt hne
               by_cases hra:ra=i
               · have hrb:(ra != (i:Int))=false:=by simp[hra]
                 have iC:=Lib.hid (show fZ code refs=pz code refs (code.length - (i+1)) (i+1) (next+1)from by rw[qA.out,if_neg (by rw[hra];simp;omega)])
                 clear hra
                 rcases Fg with rfl|rfl
                 all_goals
                  go_wp2_with fail
                  go_roundw
                  case rel=>exact⟨i+1,next+1,by go_num,by go_num,by omega,by omega,HG2.out,yV.out,iC.out⟩
                  case measure=>simp[intOf];omega
               · have hrb:(ra != (i:Int))=true:=by simpa using hra
                 have iC:=Lib.hid (show fZ code refs=((i:Int),6)from by rw[qA.out,if_pos (.inr (.inr (by simpa using hra)))])
                 clear hra
                 rcases Fg with rfl|rfl
                 all_goals
                  go_wp2_with fail
                  go_ret2
                  exact⟨by rw[iC.out];rfl,kY.out⟩
           · have hab:(xa != 0)=true:=by simpa using ha
             have iC:=Lib.hid (show fZ code refs=((i:Int),6)from by rw[qA.out,if_pos (.inl ha)])
             clear ha
             rcases Fg with rfl|rfl
             all_goals
              go_wp2_with fail
              go_ret2
              exact⟨by rw[iC.out];rfl,kY.out⟩
       · have ach:=Lib.hid (Xv _ code i w2 (HC.out.later kY.out) hlt)
         obtain⟨LY,LZ⟩:=Gj.out rfl
         have n30:(xo != 30)=true:=by simpa using LY
         have n31:(xo != 31)=true:=by simpa using LZ
         have zD:=Lib.hid (show xo≠30/\xo≠31 from⟨LY,LZ⟩)
         clear LY LZ Gj
         go_wp2_with fail
         refine ach.out.mono ?_
         rintro e w3 ⟨rfl,dR⟩
         have hg3:=HG2.out.trans dR (λ_ e=>e.elim)
         have TB:=Mv.trans kY.out dR (λ_ e=>e.elim)
         have hs3:=dR.size
         have TC:MapAt (Value.int .i64) w3 (w.heap.size+1) (mi refs refs.length):=yV.out.keep (dR.block _ (by omega) (λh=>h))
         have y0:w3.cell? ⟨wr.heap.size,0,none⟩=some (.int .u8 xo):=by rw[(vT dR).1 _ _ hX2];exact x0
         have cu:=Lib.hid hg3
         have Fh:=Lib.hid TB
         have TD:=Lib.hid TC
         have Gl:wr.heap.size<w3.heap.size:=by omega
         clear dR hg3 TB TC x0 x1 p0 p1
         generalize hpq:sS code i=pq at *
         cases pq
         · have iC:=Lib.hid (show fZ code refs=((i:Int),23)from by rw[qz.out,HST.out,if_neg HB0.out,if_pos (by simp)])
           go_wp2_with fail
           go_ret2
           exact⟨by rw[iC.out];rfl,Fh.out⟩
         · have nz:=Lib.hid (show ¬ (true=true/\true=false)from by simp)
           have hl:=run_get Tryz.JJ Tryz.underlying147 (i:Int) (.bool false) Tryz.IU TD.out
           have hl2:(lookup 147 (.map (some (w.heap.size+1))) (.int .i64 (i:Int)) false).run Tryz.prog w3 = .ok (.bool (pQ refs i)) w3:=by
            rw[hl];exact congrArg (λv=>Result.ok v w3) (Dw (i:Int) (mi refs refs.length) 0 (Ns refs refs.length (Nat.le_refl _)))
           have HLI:=Lib.hid (show pQ refs i=pQ refs i from rfl)
           clear hl
           generalize hq:pQ refs (i:Int)=lq at *
           cases lq
           · go_wp2_with fail
             go_roundw
             case rel=>exact⟨i+1,next,rfl,by go_num,by omega,hnx,cu.out,TD.out,by rw[qz.out,HST.out,if_neg HB0.out,if_neg (by simp),if_pos zD.out,if_neg (by simp)]⟩
             case measure=>simp[intOf];omega
           · have iC:=Lib.hid (show fZ code refs=((i:Int),6)from by rw[qz.out,HST.out,if_neg HB0.out,if_neg (by simp),if_pos zD.out,if_pos (by simp)])
             go_wp2_with fail
             go_ret2
             exact⟨by rw[iC.out];rfl,Fh.out⟩
   · obtain rfl:i=code.length:=by omega
     have p0:wr.cell? ⟨w.heap.size,0,none⟩=some (.slice ca code.length eX):=by simp[World.cell?,qi]
     have p1:wr.cell? ⟨w.heap.size,1,none⟩=some (.slice ra refs.length fw):=by simp[World.cell?,qi]
     have Ff:=Lib.hid hgr
     have iC:=Lib.hid (show fZ code refs=Av code refs next from by rw[qz.out,Nat.sub_self];rfl)
     clear hmp hg hgr wL qi
     by_cases hnl:next<refs.length
     · have L8:=Lib.hid (show fZ code refs=((code.length:Int),6)from by rw[iC.out,Av,if_pos hnl])
       go_wp2_with fail
       go_ret2
       exact⟨by rw[L8.out];rfl,Ff.out⟩
     · have L8:=Lib.hid (show fZ code refs=(-1,0)from by rw[iC.out,Av,if_neg hnl])
       go_wp2_with fail
       go_ret2
       exact⟨by rw[L8.out];rfl,Ff.out⟩
end
end Go.Proofs.YtadecgbblajifaaGreatDoor
namespace Go.Proofs
open Go.Shelf
def Tryz.Xw:Go.Shelf.Ren:=⟨fun|6=>136|15=>175|14=>174|28=>207|29=>208|20=>199|21=>200|22=>201|23=>202|24=>203|25=>204|26=>205|27=>206|46=>223|47=>224|48=>225|49=>226|50=>227|57=>246|n=>n,fun|22=>153|24=>155|25=>203|3=>3|39=>157|0=>0|53=>249|55=>251|4=>4|46=>243|45=>242|50=>197|5=>5|9=>9|66=>260|70=>122|76=>282|77=>283|n=>n,fun|n=>n⟩
theorem Tryz.Pe:Go.Proofs.SlLaysF0.n6 Tryz.prog Tryz.Xw := {
 mixed:=by kernel_rfl
 f6:=⟨Tryz.f136.name,by decide,Tryz.func136.trans (congrArg some (by kernel_rfl))⟩
 f14:=⟨Tryz.f174.name,by decide,Tryz.func174.trans (congrArg some (by kernel_rfl))⟩
 f15:=Tryz.func175.trans (congrArg some (by kernel_rfl))
 f20:=⟨Tryz.f199.name,by decide,Tryz.func199.trans (congrArg some (by kernel_rfl))⟩
 f21:=⟨Tryz.f200.name,by decide,Tryz.func200.trans (congrArg some (by kernel_rfl))⟩
 f22:=⟨Tryz.f201.name,by decide,Tryz.func201.trans (congrArg some (by kernel_rfl))⟩
 f23:=⟨Tryz.f202.name,by decide,Tryz.func202.trans (congrArg some (by kernel_rfl))⟩
 f24:=⟨Tryz.f203.name,by decide,Tryz.func203.trans (congrArg some (by kernel_rfl))⟩
 f25:=⟨Tryz.f204.name,by decide,Tryz.func204.trans (congrArg some (by kernel_rfl))⟩
 f26:=⟨Tryz.f205.name,by decide,Tryz.func205.trans (congrArg some (by kernel_rfl))⟩
 f27:=⟨Tryz.f206.name,by decide,Tryz.func206.trans (congrArg some (by kernel_rfl))⟩
 f28:=Tryz.func207.trans (congrArg some (by kernel_rfl))
 f29:=Tryz.func208.trans (congrArg some (by kernel_rfl))
 f46:=⟨Tryz.f223.name,by decide,Tryz.func223.trans (congrArg some (by kernel_rfl))⟩
 f47:=Tryz.func224.trans (congrArg some (by kernel_rfl))
 f48:=Tryz.func225.trans (congrArg some (by kernel_rfl))
 f49:=⟨Tryz.f226.name,by decide,Tryz.func226.trans (congrArg some (by kernel_rfl))⟩
 f50:=⟨Tryz.f227.name,by decide,Tryz.func227.trans (congrArg some (by kernel_rfl))⟩
 f57:=⟨Tryz.f246.name,by decide,Tryz.func246.trans (congrArg some (by kernel_rfl))⟩
 t0:=Tryz.underlying0
 a0:=Tryz.isAgg0
 z0:=Tryz.sizeOf0
 v0:=Tryz.zeroValue0
 t3:=Tryz.underlying3
 a3:=Tryz.isAgg3
 z3:=Tryz.sizeOf3
 v3:=Tryz.zeroValue3
 t4:=Tryz.underlying4
 a4:=Tryz.isAgg4
 z4:=Tryz.sizeOf4
 v4:=Tryz.zeroValue4
 t5:=Tryz.underlying5
 a5:=Tryz.isAgg5
 z5:=Tryz.sizeOf5
 v5:=Tryz.zeroValue5
 t9:=Tryz.underlying9
 a9:=Tryz.isAgg9
 z9:=Tryz.sizeOf9
 v9:=Tryz.zeroValue9
 t22:=Tryz.underlying153
 a22:=Tryz.isAgg153
 z22:=Tryz.sizeOf153
 v22:=Tryz.zeroValue153
 t25:=Tryz.underlying203
 a25:=Tryz.isAgg203
 z25:=Tryz.sizeOf203
 v25:=Tryz.zeroValue203
 t39:=Tryz.underlying157
 a39:=Tryz.isAgg157
 z39:=Tryz.sizeOf157
 v39:=Tryz.zeroValue157
 t45:=Tryz.underlying242
 a45:=Tryz.isAgg242
 z45:=Tryz.sizeOf242
 v45:=Tryz.zeroValue242
 t46:=Tryz.underlying243
 a46:=Tryz.isAgg243
 z46:=Tryz.sizeOf243
 v46:=Tryz.zeroValue243
 t50:=Tryz.underlying197
 a50:=Tryz.isAgg197
 z50:=Tryz.sizeOf197
 v50:=Tryz.zeroValue197
 t53:=Tryz.underlying249
 a53:=Tryz.isAgg249
 z53:=Tryz.sizeOf249
 v53:=Tryz.zeroValue249
 t55:=Tryz.underlying251
 a55:=Tryz.isAgg251
 z55:=Tryz.sizeOf251
 v55:=Tryz.zeroValue251
 t66:=Tryz.underlying260
 a66:=Tryz.isAgg260
 z66:=Tryz.sizeOf260
 v66:=Tryz.zeroValue260
 t70:=Tryz.underlying122
 a70:=Tryz.isAgg122
 z70:=Tryz.sizeOf122
 v70:=Tryz.zeroValue122
 t76:=Tryz.underlying282
 a76:=Tryz.isAgg282
 z76:=Tryz.sizeOf282
 v76:=Tryz.zeroValue282
 t77:=Tryz.underlying283
 a77:=Tryz.isAgg283
 z77:=Tryz.sizeOf283
 v77:=Tryz.zeroValue283 }
end Go.Proofs
namespace Go.Proofs.YtadecgbblajifaaGreatDoor
section
open Go.RowKit Go.Lib Go.Sort
abbrev dM:=Int × Int
def pR (x:dM):List Value:=[.int .i64 x.1,.int .i64 x.2]
def mK (x y:dM):Int:=Lib.compareInt x.1 y.1
set_option maxHeartbeats 1000000 in
theorem Y0 (x y:dM) (W:World):Calls Tryz.prog 137 #[.agg #[.int .i64 x.1,.int .i64 x.2],.agg #[.int .i64 y.1,.int .i64 y.2]] W λe w'=>e = .returned (.int .i64 (Lib.compareInt x.1 y.1))/\∃ q os',w'=grow (W.drewN q) os':=by
 have hcon:=λW'=>Tryz.cmp_Compare_int x.1 y.1 W'
 generalize Lib.compareInt x.1 y.1=r at hcon ⊢
 go_enter Tryz.func137,Tryz.ntmps137
 go_wp2_with (go_at_call 138;refine(hcon _).mono ?_;rintro e w' ⟨rfl,rfl⟩)
 go_ret
 exact⟨rfl,0,_,by rw[alloc_eq_grow,alloc_eq_grow,grow_grow];rfl⟩
theorem Y1 (blk off size:Nat) (w:World):CmpLays Tryz.prog 137 #[] pR 2 mK blk off size w:=λ_ _ _ _ x y=>Y0 x y _
theorem KX (x y:dM):ltOf mK x y=decide (x.1<y.1):=by
 unfold ltOf mK Lib.compareInt
 by_cases h1:x.1<y.1
 · simp[h1]
 · by_cases h2:y.1<x.1 <;> simp[h1,h2]
theorem Kh:SWO (ltOf mK) where
 irrefl x:=by rw[KX];simp
 trans x y z h1 h2:=by rw[KX]at *;simp at *;omega
 ntrans x y z h1 h2:=by rw[KX]at *;simp at *;omega
def mH (l:List dM):List dM:=(pdq (ltOf mK) l.toArray 0 l.length (Lib.bitLen l.length) true true).toList
def pW:List dM->List Value
 | []=>[]
 |x :: l => .int .i64 x.1 :: .int .i64 x.2 :: pW l
theorem Ol:∀ (l:List dM) (i:Nat) (h:i<l.length),(pW l)[i * 2]? = some (.int .i64 l[i].1)/\(pW l)[i * 2+1]? = some (.int .i64 l[i].2)
 | [],i,h=>by simp at h
 |x :: l,0,h=>by simp[pW]
 |x :: l,i+1,h=>by
  have:=Ol l i (by simpa using h)
  rw[show(i+1) * 2=i * 2+1+1 by omega,show i * 2+1+1+1=(i * 2+1)+1+1 by omega]
  simp only[pW,List.getElem?_cons_succ,List.getElem_cons_succ]
  exact this
theorem Xk (a:List dM) (x:dM):pW (a ++ [x])=pW a ++ [.int .i64 x.1,.int .i64 x.2]:=by
 induction a with
 |nil=>rfl
 |cons y a ih=>simp[pW,ih]
abbrev jF (w:World) (base:Nat) (v:Value) (l:List dM):Prop:=w.ownsRow base 155 2 v l.length (pW l)
theorem jF.holds {w:World} {base g cap n:Nat} {l:List dM} (h:jF w base (.slice (some ⟨g,0,none⟩) n cap) l):HoldsK pR 2 w g 0 l.toArray/\g<w.heap.size:=by
 rcases h.2 with⟨e,_⟩|⟨g',cap',cur,e,_,hg,hnc,hcm,hcs,htake⟩
 · simp at e
 · simp only[Value.slice.injEq,Option.some.injEq,Addr.mk.injEq,and_true]at e
   obtain⟨rfl,_,_⟩:=e
   refine⟨λj hj => ?_,lt_of_block hg⟩
   simp only[size_flatK,List.size_toArray]at hj
   rw[get_flatK _ _ _ _ (by simpa using hj)]
   have hjl:j / 2<l.length:=by omega
   have hget:(pW l)[j]? = some ((pR (l.toArray[j / 2]!))[j % 2]!):=by
    have h1:=Ol l (j / 2) hjl
    have h2:l.toArray[j / 2]! = l[j / 2]:=by simp[hjl]
    rw[h2]
    rcases Nat.mod_two_eq_zero_or_one j with h3|h3
    · rw[h3]
      have h4:=h1.1
      rw[show j / 2 * 2=j by omega]at h4
      exact h4
    · rw[h3]
      have h4:=h1.2
      rw[show j / 2 * 2+1=j by omega]at h4
      exact h4
   have adf:cur[j]? = some ((pR (l.toArray[j / 2]!))[j % 2]!):=by
    rw[← hget,← htake,List.getElem?_take,if_pos (by omega)];simp
   constructor
   · simp only[World.cell?,hg,Option.isSome_none,Bool.false_eq_true,if_false,Nat.zero_add];exact adf
   · simp[World.frozen?,hg]
set_option maxHeartbeats 1000000 in
theorem Yj (base:Nat) (v:Value) (l:List dM) (w:World) (h:jF w base v l) (hsz:l.length<4611686018427387904) :
 Calls Tryz.prog 136 #[v,.func (.func 137) #[] #[]] w λe w'=>e = .returned (.tuple #[])/\aB 2 pR w' v (mH l)/\Mv (λb=>v.ownBlock=some b) w w':=by
 have eg:∀ args w,(callFunc 137 args).run Tryz.prog w = .ok (.enter 137 args) w:=enters_of Tryz.func137 (by kernel_rfl) rfl
 have hlen:(mH l).length=l.length:=by
  have hp:=(pdq_sorts (ltOf mK) Kh l.toArray 0 l.length (Lib.bitLen l.length) true true (Nat.zero_le _) (by simp) (Or.inl rfl)).1.1
  simpa[mH]using hp
 rcases h.2 with⟨rfl,hl⟩|⟨g,cap,cur,rfl,hb,hg,hnc,hcm,hcs,htake⟩
 · obtain rfl:l=[]:=List.eq_nil_of_length_eq_zero hl
   have hcon:=AnyF.slices_SortFunc_none Tryz.Pe none 0 (.func (.func 137) #[] #[]) w
   change Calls Tryz.prog 136 _ _ _ at hcon
   refine hcon.mono ?_
   rintro e w' ⟨rfl,rfl⟩
   have h0:mH []=[]:=List.eq_nil_of_length_eq_zero (by simpa using hlen)
   rw[h0]
   exact⟨rfl,aB.nil _ _ _,Mv.refl _ _⟩
 · obtain⟨hH,hblk⟩:=jF.holds h
   have hcon:=AnyQ.slices_SortFunc_eq Tryz.Pe 2 Tryz.isAgg155 Tryz.sizeOf155 pR (λ_=>rfl) (λx v hv=>by simp[pR]at hv;rcases hv with rfl|rfl <;> rfl) mK Kh 137 #[] g 0 cap l.toArray w eg (Y1 g 0 _ w) hH hblk (by simpa using hsz)
   change Calls Tryz.prog 136 _ _ _ at hcon
   simp only[List.size_toArray]at hcon
   refine hcon.mono ?_
   rintro e w' ⟨rfl,n,os,rfl⟩
   have hH2:=holdsK_sortWorldK_c pR 2 w g 0 l.toArray (pdq (ltOf mK) l.toArray 0 l.length (Lib.bitLen l.length) true true) n os hH hblk (by have:=hlen;simp only[mH,Array.length_toList]at this;simpa using this)
   refine⟨rfl,⟨some ⟨g,0,none⟩,cap,by rw[hlen],by rw[hlen];exact hnc,by rw[hlen];omega,λi x hx=>⟨g,0,rfl,λj u hu => ?_⟩⟩,?_⟩
   · have hi:=(List.getElem?_eq_some_iff.1 hx).1
     have hj:j<2:=by
      have:=(List.getElem?_eq_some_iff.1 hu).1
      simpa[pR]using this
     have hc:=(hH2.cell (i:=i) (c:=j) (by simpa[mH]using hi) hj).1
     rw[hc]
     have h1:(pdq (ltOf mK) l.toArray 0 l.length (Lib.bitLen l.length) true true)[i]! = x:=by
      have:(pdq (ltOf mK) l.toArray 0 l.length (Lib.bitLen l.length) true true)[i]? = some x:=by simpa[mH]using hx
      simp[getElem!_def,this]
     rw[h1]
     simp[getElem!_def,hu]
   · refine⟨rfl,rfl,rfl,size_sortWorldK_c pR 2 w g 0 n _ os,λb hb hne => ?_⟩
     have hbg:g≠b:=λe=>hne (by simp[Value.ownBlock,e])
     show(w.heap.modify g _ ++ os)[b]? = _
     rw[Array.getElem?_append_left (by simpa using hb),Array.getElem?_modify,if_neg hbg]
def pY (first count:Int):Int->List dM->Bool
 |_,[]=>true
 |used,x :: r=>if x.1<first then false
  else if wrap64 (x.1 - first)<used\/count<=wrap64 (x.1 - first)\/x.2<1\/wrap64 (count - wrap64 (x.1 - first))<x.2 then false
  else pY first count (wrap64 (wrap64 (x.1 - first)+x.2)) r
def lL (l:List dM) (first count:Int):Bool:=pY first count 0 (mH l)
set_option maxRecDepth 100000 in
set_option maxHeartbeats 3200000 in
theorem Om (base:Nat) (v:Value) (l:List dM) (first count:Int) (w:World) (h:jF w base v l) (hsz:l.length<4611686018427387904) :
 Calls Tryz.prog 88 #[v,.int .i64 first,.int .i64 count] w λe w'=>e = .returned (.bool (lL l first count))/\Mv (λb=>v.ownBlock=some b) w w':=by
 have HS:=Lib.hid (Yj base v l w h hsz)
 obtain⟨va,vc,rfl⟩:∃ a c,v = .slice a l.length c:=by
  rcases h.2 with⟨rfl,hl⟩|⟨g,cap,cur,rfl,_⟩
  · exact⟨none,0,by rw[hl]⟩
  · exact⟨_,_,rfl⟩
 clear h
 go_enter Tryz.func88,Tryz.ntmps88
 go_wp2_with fail
 refine HS.out.mono ?_
 rintro e w1 ⟨rfl,hrow,hm⟩
 have HB:=Lib.hid (show lL l first count=pY first count 0 (mH l)from rfl)
 generalize mH l=sl at *
 obtain⟨a,cap,hv,hcap,hlen⟩:=hrow.form
 have HR:=Lib.hid hrow
 have HM:=Lib.hid hm
 simp only[Value.slice.injEq,true_and]at hv
 obtain⟨rfl,hll,rfl⟩:=hv
 rw[hll]at HR HM ⊢
 clear hrow hm hll HS hsz
 go_wp2_with fail
 go_loopw [7,15] (λu t wr=>∃ (k:Nat) (used:Int),u = .int .i64 used/\t = .int .i64 k/\k<=sl.length/\Grow w1 wr/\lL l first count=pY first count used (sl.drop k)) (λ_ t _=>sl.length - (intOf t).toNat)
 case atStart=>exact⟨0,0,rfl,rfl,Nat.zero_le _,Mv.refl _ _,HB.out⟩
 obtain⟨k,used,rfl,rfl,hk,hg,hap⟩:=hrel
 have HG:=Lib.hid hg
 have L9:=Lib.hid hap
 have zF:=Lib.hid (Mv.trans HM.out hg (λ_ e=>e.elim))
 clear hap
 by_cases hlt:k<sl.length
 · obtain⟨b,off,cap',e,_,hcc⟩:=(HR.out.later hg).at hlt
   simp only[Value.slice.injEq,true_and]at e
   obtain⟨rfl,rfl⟩:=e
   have c0:=hcc 0 _ rfl
   have c1:=hcc 1 _ rfl
   simp only[Nat.add_zero]at c0
   have hbl:b<wr.heap.size:=World.block_lt_of_cell? wr _ c0
   have HD:=Lib.hid (show sl.drop k=sl[k] :: sl.drop (k+1)from(List.getElem_cons_drop hlt).symm)
   generalize hx:sl[k]=x at *
   obtain⟨xa,xn⟩:=x
   simp only at c0 c1
   clear hcc hx hg
   by_cases h1:xa<first
   · have HF:=Lib.hid (show lL l first count=false from by rw[L9.out,HD.out];simp only[pY];rw[if_pos h1])
     go_wp2_with fail
     go_ret
     exact⟨ax (by rw[HF.out]),zF.out.alloc _⟩
   · have HST:=Lib.hid (show lL l first count=(if wrap64 (xa - first)<used\/count<=wrap64 (xa - first)\/xn<1\/wrap64 (count - wrap64 (xa - first))<xn then false else pY first count (wrap64 (wrap64 (xa - first)+xn)) (sl.drop (k+1)))from by
      rw[L9.out,HD.out];simp only[pY];rw[if_neg h1])
     generalize hsk:wrap64 (xa - first)=skip at *
     by_cases hbad:skip<used\/count<=skip\/xn<1\/wrap64 (count - skip)<xn
     · have HF:=Lib.hid (show lL l first count=false from by rw[HST.out,if_pos hbad])
       by_cases b1:skip<used
       · go_wp2_with fail
         go_ret
         exact⟨ax (by rw[HF.out]),zF.out.alloc _⟩
       · by_cases b2:count<=skip
         · go_wp2_with fail
           go_ret
           exact⟨ax (by rw[HF.out]),zF.out.alloc _⟩
         · by_cases b3:xn<1
           · clear hbad
             go_wp2_with fail
             go_ret
             exact⟨ax (by rw[HF.out]),zF.out.alloc _⟩
           · have b4:wrap64 (count - skip)<xn:=by omega
             clear hbad
             go_wp2_with fail
             go_ret
             exact⟨ax (by rw[HF.out]),zF.out.alloc _⟩
     · have HF:=Lib.hid (show lL l first count=pY first count (wrap64 (skip+xn)) (sl.drop (k+1))from by rw[HST.out,if_neg hbad])
       have b1:¬ skip<used:=λe=>hbad (.inl e)
       have b2:¬ count<=skip:=λe=>hbad (.inr (.inl e))
       have b3:¬ xn<1:=λe=>hbad (.inr (.inr (.inl e)))
       have b4:¬ wrap64 (count - skip)<xn:=λe=>hbad (.inr (.inr (.inr e)))
       clear hbad
       go_wp2_with fail
       go_roundw
       case rel=>exact⟨k+1,wrap64 (skip+xn),rfl,by go_num,by omega,HG.out.alloc _,HF.out⟩
       case measure=>simp[intOf];omega
 · obtain rfl:k=sl.length:=by omega
   have HF:=Lib.hid (show lL l first count=true from by rw[L9.out,List.drop_length];rfl)
   go_wp2_with fail
   go_ret
   exact⟨ax (by rw[HF.out]),zF.out.mono (λx e => .inl (by cases va with|none=>simp[Value.ownBlock]at e|some a=>simpa[Value.ownBlock]using e))⟩
end
end Go.Proofs.YtadecgbblajifaaGreatDoor
