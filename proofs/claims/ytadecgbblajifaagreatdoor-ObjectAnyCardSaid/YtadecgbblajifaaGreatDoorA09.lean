import Derived.Test.YtadecgbblajifaaGreatDoorA08
set_option linter.unusedSimpArgs false
set_option linter.unusedVariables false
set_option maxRecDepth 100000
set_option maxHeartbeats 25600000
namespace Go.Proofs.YtadecgbblajifaaGreatDoor
open Go.RowKit Go.Instr
def iW (refs:List aI) (k:Nat):List (Int × Value):=(refs.take k).foldl (λm r=>gz r.at' (.bool true) m) []
def kH (refs:List aI) (i:Int):Bool:=(wD (iW refs refs.length) i).isSome
theorem Ie (refs:List aI) (k:Nat) (h:k<refs.length):iW refs (k+1)=gz refs[k].at' (.bool true) (iW refs k):=by
 unfold iW;rw[List.take_succ_eq_append_getElem h,List.foldl_append];rfl
theorem Ir (refs:List aI):∀ (k:Nat),k<=refs.length->∀ p∈iW refs k,p.2 = .bool true:=by
 intro k
 induction k with
 |zero=>intro _ p hp;simp[iW]at hp
 |succ k ih=>intro hk p hp;rw[Ie refs k (by omega)]at hp;exact CL _ _ (ih (by omega)) p hp
def vC (code:List Ins) (refs:List aI) (next:Nat):Int × Int:=if next<refs.length then((code.length:Int),6)else(-1,0)
def kF (code:List Ins) (refs:List aI):Nat->Nat->Nat->Int × Int
 |0,_,next=>vC code refs next
 |f+1,i,next=>match code[i]? with
  |none=>vC code refs next
  |some x =>
   if x.bR=false\/x.op=32\/x.op=33\/x.op=34 then((i:Int),3)
   else if tC x.op=true/\nR code i=false then((i:Int),23)
   else if x.op≠30/\x.op≠31 then(if kH refs i then((i:Int),6)else kF code refs f (i+1) next)
   else if x.a≠0\/next=refs.length\/(refs[next]?.map aI.at')≠some (i:Int)then((i:Int),6)else kF code refs f (i+1) (next+1)
def dR (code:List Ins) (refs:List aI):Int × Int:=kF code refs code.length 0 0
theorem Vx (op:Int) (h:tC op=true):op≠30/\op≠31:=by
 constructor
 · rintro rfl;revert h;decide
 · rintro rfl;revert h;decide
theorem bW.keep {O:Nat->Prop} {w w':World} (h:bW w) (hm:Mv O w w') (hO:∀ b,O b->w.heap.size<=b):bW w':=h.later (hm.mono λx hx => .inr (hO x hx))
theorem Tryz.DN:KeyLaw Tryz.prog 3 (Value.int .i64) (.int .i64):=U9 Tryz.underlying3
theorem SQ (cv rv:Value) (code:List Ins) (refs:List aI) (w:World) (ht:bW w) (hc:ai 5 Ins.cells w cv code) (hr:ai 2 aI.cells w rv refs) (hop:∀ x∈code,0<=x.op/\x.op<=255) :
 Calls Tryz.prog 40 #[.agg #[cv,rv]] w λe w'=>e = .returned (.tuple #[.int .i64 (dR code refs).1,.int .i64 (dR code refs).2])/\Grow w w':=by
 obtain⟨ca,bD,rfl,zG,zH⟩:=hc.form;obtain⟨ra,bI,rfl,zI,hrlen⟩:=hr.form;have hmm := @run_makeMap Tryz.prog;have HT:=ł ht;have HC:=ł hc;have HR:=ł hr;have ZV:=ł hop;have LB:MapAt (Value.int .i64) ((w.alloc (.cells #[.slice ca code.length bD,.slice ra refs.length bI] 37)).alloc (.map #[] 0)) (w.heap.size+1) []:=by
  have:=MapAt.new (Value.int .i64) (w.alloc (.cells #[.slice ca code.length bD,.slice ra refs.length bI] 37))
  simpa using this
 have LC:((w.alloc (.cells #[.slice ca code.length bD,.slice ra refs.length bI] 37)).alloc (.map #[] 0)).heap[w.heap.size]? = some (.cells #[.slice ca code.length bD,.slice ra refs.length bI] 37 (0,0)):=by
  rw[Below.heap_alloc _ _ _ (by simp)];exact heap_alloc_new w _
 have hgw:Mv (λb=>b=w.heap.size+1) w ((w.alloc (.cells #[.slice ca code.length bD,.slice ra refs.length bI] 37)).alloc (.map #[] 0)):=((Mv.refl _ _).alloc _).alloc _;have Yr:=ł LB;have oD:=ł LC;have Qp:=ł hgw;clear ht hc hr hop LB LC hgw
 go_enter Tryz.func40,Tryz.ntmps40
 go_wp2_with fail;have hsz1:w.heap.size+1<((w.alloc (.cells #[.slice ca code.length bD,.slice ra refs.length bI] 37)).alloc (.map #[] 0)).heap.size:=by simp
 generalize (w.alloc (.cells #[.slice ca code.length bD,.slice ra refs.length bI] 37)).alloc (.map #[] 0)=w1 at *
 go_loopw [14] (λt wr=>∃ k:Nat,t = .int .i64 k/\k<=refs.length/\Mv (λb=>b=w.heap.size+1) w1 wr/\MapAt (Value.int .i64) wr (w.heap.size+1) (iW refs k)) (λt _=>refs.length - (intOf t).toNat)
 case atStart=>exact⟨0,rfl,Nat.zero_le _,Mv.refl _ _,Yr.out⟩
 obtain⟨k,rfl,hk,hg,hmp⟩:=hrel;have qN:=Qp.out.trans hg (λx e => .inl e);have hgr:Grow w wr:=qN.mono (λx e => .inr (by omega));have Nt:=hg.size;have ll:wr.heap[w.heap.size]? = some (.cells #[.slice ca code.length bD,.slice ra refs.length bI] 37 (0,0)):=by
  rw[hg.block _ (by omega) (by omega)];exact oD.out
 have HG:=ł hg;have eO:=ł hgr;have ZW:=ł hmp;have xQ:=ł ll;by_cases hlt:k<refs.length
 · obtain⟨b,off,cap',e,_,hcc⟩:=(HR.out.later hgr).at hlt;simp only[Value.slice.injEq,true_and]at e;obtain⟨rfl,rfl⟩:=e;have c0:=hcc 0 _ rfl;have c1:=hcc 1 _ rfl;simp only[Nat.add_zero]at c0;have hbl:b<wr.heap.size:=World.block_lt_of_cell? wr _ c0;have HS:=ł (Ie refs k hlt);generalize hx:refs[k]=x at *;obtain⟨xa,xs⟩:=x;simp only at c0 c1;obtain⟨w2,hup,wN,eX⟩:=run_set Tryz.DN Tryz.underlying147 xa (.bool true) (hmp.keep (w':=wr.alloc (.cells #[.int .i64 xa,.string xs] 67)) (Below.heap_alloc _ _ _ hmp.lt));have tH:=ł wN;have Yt:=ł eX;clear hcc hx hmp wN eX hg hgr qN ll;go_wp2_with fail
   go_roundw
   case rel=>exact⟨k+1,by go_num,by omega,(HG.out.alloc _).trans Yt.out (λx e => .inl e),by rw[HS.out];exact tH.out⟩
   case measure=>simp[intOf];omega
 · obtain rfl:k=refs.length:=by omega
   have p0:wr.cell? ⟨w.heap.size,0,none⟩=some (.slice ca code.length bD):=by simp[World.cell?,ll]
   have tJ:w.heap.size<wr.heap.size:=by omega
   clear hmp hg hgr qN ll;go_wp2_with fail;clear p0;obtain⟨wo,rfl⟩:∃ wo:World,wo=wr:=⟨_,rfl⟩
   go_loopw [7,25] (λnx t wr=>∃ i next:Nat,nx = .int .i64 next/\t = .int .i64 i/\i<=code.length/\next<=refs.length/\Mv (λb=>b=w.heap.size+1) w1 wr/\MapAt (Value.int .i64) wr (w.heap.size+1) (iW refs refs.length)/\dR code refs=kF code refs (code.length - i) i next) (λ_ t _=>code.length - (intOf t).toNat)
   case atStart=>exact⟨0,0,rfl,rfl,Nat.zero_le _,Nat.zero_le _,HG.out,ZW.out,rfl⟩
   obtain⟨i,next,rfl,rfl,hi,hnx,hg,hmp,hpc⟩:=hrel;have qN:=Qp.out.trans hg (λx e => .inl e);have hgr:Grow w wr:=qN.mono (λx e => .inr (by omega));have aad:=hg.size;have ll:wr.heap[w.heap.size]? = some (.cells #[.slice ca code.length bD,.slice ra refs.length bI] 37 (0,0)):=by
    rw[hg.block _ (by omega) (by omega)];exact oD.out
   have lL:=ł hpc;clear hpc;by_cases hlt:i<code.length
   · obtain⟨b,off,cap',e,_,_⟩:=(HC.out.later hgr).at hlt;simp only[Value.slice.injEq,true_and]at e;obtain⟨rfl,rfl⟩:=e;obtain⟨⟨c0,c1,c2⟩,c3,c4,hbl⟩:=(HC.out.later hgr).ins hlt;have bO:=ZV.out code[i] (List.getElem_mem hlt);have HST:=ł (show kF code refs (code.length - i) i next=(if code[i].bR=false\/code[i].op=32\/code[i].op=33\/code[i].op=34 then((i:Int),3)
      else if tC code[i].op=true/\nR code i=false then((i:Int),23)
      else if code[i].op≠30/\code[i].op≠31 then(if kH refs i then((i:Int),6)else kF code refs (code.length - (i+1)) (i+1) next)
      else if code[i].a≠0\/next=refs.length\/(refs[next]?.map aI.at')≠some (i:Int)then((i:Int),6)else kF code refs (code.length - (i+1)) (i+1) (next+1))from by
       rw[show code.length - i=(code.length - (i+1))+1 by omega];simp only[kF,List.getElem?_eq_getElem hlt])
     have HV:=ł (λw ht=>CO code[i] w ht bO.1 bO.2);have ZX:=ł (HT.out.later (hgr.alloc (.cells #[.int .u8 code[i].op,.int .i64 code[i].a,.int .i64 code[i].b,.int .i64 code[i].c,.int .i64 code[i].d] 69)));generalize hx:code[i]=x at *;obtain⟨xo,xa,xb,xc,xd⟩:=x;simp only at c0 c1 c2 c3 c4 bO;have Gy:=ł hg;have Ah:=ł hgr;have Yu:=ł hmp;have XA:w.heap.size<wr.heap.size:=by omega
     have Yv:=ł ll;clear hx hg hgr qN hmp ll;go_wp2_with fail;refine(HV.out _ ZX.out).mono ?_;rintro e w2 ⟨rfl,hm2⟩;obtain⟨hc2,hf2⟩:=qB hm2;have hs2:=hm2.size;simp only[World.size_alloc]at hs2
     have hg2:Mv (λb=>b=w.heap.size+1) w1 w2:=(Gy.out.alloc _).trans hm2 (λ_ e=>e.elim);have hb2:w2.heap[w.heap.size]? = some (.cells #[.slice (some ⟨b,off,none⟩) code.length bD,.slice ra refs.length bI] 37 (0,0)):=by
      rw[hm2.block _ (by simp;omega) (λh=>h),Below.heap_alloc _ _ _ XA];exact Yv.out
     have p0:w2.cell? ⟨w.heap.size,0,none⟩=some (.slice (some ⟨b,off,none⟩) code.length bD):=by simp[World.cell?,hb2]
     have p1:w2.cell? ⟨w.heap.size,1,none⟩=some (.slice ra refs.length bI):=by simp[World.cell?,hb2]
     have x0:w2.cell? ⟨wr.heap.size,0,none⟩=some (.int .u8 xo):=by rw[hc2 _ _ (by simp),C8];rfl
     have x1:w2.cell? ⟨wr.heap.size,1,none⟩=some (.int .i64 xa):=by rw[hc2 _ _ (by simp),C8];rfl
     have wO:Grow w w2:=Mv.trans (Ah.out.alloc _) hm2 (λ_ e=>e.elim);have wN:MapAt (Value.int .i64) w2 (w.heap.size+1) (iW refs refs.length):=Yu.out.keep (by rw[hm2.block _ (by simp;omega) (λh=>h),Below.heap_alloc _ _ _ (by omega)]);have HG2:=ł hg2;have gP:=ł wO;have tH:=ł wN;have hX2:wr.heap.size<w2.heap.size:=by omega
     generalize Ins.bR ⟨xo,xa,xb,xc,xd⟩=vq at *;clear hm2 hc2 hf2 hg2 hb2 wO wN c0 c1 c2 c3 c4;by_cases hbad:vq=false\/xo=32\/xo=33\/xo=34
     · have dS:=ł (show dR code refs=((i:Int),3)from by rw[lL.out,HST.out,if_pos hbad]);cases vq
       · go_wp2_with fail
         go_ret2
         exact⟨by rw[dS.out];rfl,gP.out⟩
       · rcases hbad with h|h|h|h
         · cases h
         all_goals
          subst h;go_wp2_with fail
          go_ret2
          exact⟨by rw[dS.out];rfl,gP.out⟩
     · have HB0:=ł hbad;cases vq
       · exact(hbad (.inl rfl)).elim
       have n32:(xo == 32)=false:=by simpa using λe=>hbad (.inr (.inl e))
       have n33:(xo == 33)=false:=by simpa using λe=>hbad (.inr (.inr (.inl e)))
       have n34:(xo == 34)=false:=by simpa using λe=>hbad (.inr (.inr (.inr e)))
       clear hbad;go_wp2_with fail;refine(TE xo _).mono ?_;rintro e w' ⟨rfl,rfl⟩;have Bv:=ł (Vx xo);generalize ZY:tC xo=mq at *;cases mq
       · have jD:=ł (show ¬ (false=true/\nR code i=false)from by simp);by_cases hcall:xo≠30/\xo≠31
         · have um:=ł hcall;have n30:(xo != 30)=true:=by simpa using hcall.1
           have n31:(xo != 31)=true:=by simpa using hcall.2
           clear hcall Bv;have hl:=run_get Tryz.DN Tryz.underlying147 (i:Int) (.bool false) Tryz.CY tH.out;have hl2:(lookup 147 (.map (some (w.heap.size+1))) (.int .i64 (i:Int)) false).run Tryz.prog w2 = .ok (.bool (kH refs i)) w2:=by
            rw[hl];exact congrArg (λv=>Result.ok v w2) (yS (i:Int) (iW refs refs.length) 0 (Ir refs refs.length (Nat.le_refl _)))
           have ZZ:=ł (show kH refs i=kH refs i from rfl);clear hl;generalize hq:kH refs (i:Int)=lq at *;cases lq
           · go_wp2_with fail
             go_roundw
             case rel=>exact⟨i+1,next,rfl,by go_num,by omega,hnx,HG2.out,tH.out,by rw[lL.out,HST.out,if_neg HB0.out,if_neg (by simp),if_pos um.out,if_neg (by simp)]⟩
             case measure=>simp[intOf];omega
           · have dS:=ł (show dR code refs=((i:Int),6)from by rw[lL.out,HST.out,if_neg HB0.out,if_neg (by simp),if_pos um.out,if_pos (by simp)]);go_wp2_with fail
             go_ret2
             exact⟨by rw[dS.out];rfl,gP.out⟩
         · have um:=ł hcall;have lJ:=ł (show dR code refs=(if xa≠0\/next=refs.length\/(refs[next]?.map aI.at')≠some (i:Int)then((i:Int),6)else kF code refs (code.length - (i+1)) (i+1) (next+1))from by
            rw[lL.out,HST.out,if_neg HB0.out,if_neg (by simp),if_neg hcall])
           have Ai:xo=30\/xo=31:=by omega
           clear hcall Bv ZY n32 n33 n34;by_cases ha:xa=0
           · subst ha;by_cases hne:next=refs.length
             · have dS:=ł (show dR code refs=((i:Int),6)from by rw[lJ.out,if_pos (.inr (.inl hne))]);have hnb:((next:Int) == (refs.length:Int))=true:=by simp[hne]
               have Gz:=ł hne;clear hne;rcases Ai with rfl|rfl
               all_goals
                go_wp2_with fail
                go_ret2
                exact⟨by rw[dS.out];rfl,gP.out⟩
             · have hnl:next<refs.length:=by omega
               have hnb:((next:Int) == (refs.length:Int))=false:=by simpa using λe=>hne (by omega)
               obtain⟨rb,roff,aae,e,_,hcc⟩:=(HR.out.later gP.out).at hnl;simp only[Value.slice.injEq,true_and]at e;obtain⟨rfl,rfl⟩:=e;have r0:=hcc 0 _ rfl;simp only[Nat.add_zero]at r0;have aau:rb<w2.heap.size:=World.block_lt_of_cell? w2 _ r0;have hgt:(refs[next]?.map aI.at')=some refs[next].at':=by rw[List.getElem?_eq_getElem hnl];rfl
               rw[hgt]at lJ;generalize refs[next].at'=ra at *;clear hcc hgt hne;by_cases hra:ra=i
               · have hrb:(ra != (i:Int))=false:=by simp[hra]
                 have dS:=ł (show dR code refs=kF code refs (code.length - (i+1)) (i+1) (next+1)from by rw[lJ.out,if_neg (by rw[hra];simp;omega)]);clear hra;rcases Ai with rfl|rfl
                 all_goals
                  go_wp2_with fail
                  go_roundw
                  case rel=>exact⟨i+1,next+1,by go_num,by go_num,by omega,by omega,HG2.out,tH.out,dS.out⟩
                  case measure=>simp[intOf];omega
               · have hrb:(ra != (i:Int))=true:=by simpa using hra
                 have dS:=ł (show dR code refs=((i:Int),6)from by rw[lJ.out,if_pos (.inr (.inr (by simpa using hra)))]);clear hra;rcases Ai with rfl|rfl
                 all_goals
                  go_wp2_with fail
                  go_ret2
                  exact⟨by rw[dS.out];rfl,gP.out⟩
           · have hab:(xa != 0)=true:=by simpa using ha
             have dS:=ł (show dR code refs=((i:Int),6)from by rw[lJ.out,if_pos (.inl ha)]);clear ha;rcases Ai with rfl|rfl
             all_goals
              go_wp2_with fail
              go_ret2
              exact⟨by rw[dS.out];rfl,gP.out⟩
       · have XC:=ł (RZ _ code i w2 (HC.out.later gP.out) hlt);obtain⟨GA,GD⟩:=Bv.out rfl;have n30:(xo != 30)=true:=by simpa using GA
         have n31:(xo != 31)=true:=by simpa using GD
         have um:=ł (show xo≠30/\xo≠31 from⟨GA,GD⟩);clear GA GD Bv;go_wp2_with fail;refine XC.out.mono ?_;rintro e w3 ⟨rfl,eH⟩;have hg3:=HG2.out.trans eH (λ_ e=>e.elim);have Nu:=Mv.trans gP.out eH (λ_ e=>e.elim);have hs3:=eH.size;have Nv:MapAt (Value.int .i64) w3 (w.heap.size+1) (iW refs refs.length):=tH.out.keep (eH.block _ (by omega) (λh=>h));have y0:w3.cell? ⟨wr.heap.size,0,none⟩=some (.int .u8 xo):=by rw[(qB eH).1 _ _ hX2];exact x0
         have fP:=ł hg3;have Aj:=ł Nu;have Ny:=ł Nv;have hX3:wr.heap.size<w3.heap.size:=by omega
         clear eH hg3 Nu Nv x0 x1 p0 p1;generalize hpq:nR code i=pq at *;cases pq
         · have dS:=ł (show dR code refs=((i:Int),23)from by rw[lL.out,HST.out,if_neg HB0.out,if_pos (by simp)]);go_wp2_with fail
           go_ret2
           exact⟨by rw[dS.out];rfl,Aj.out⟩
         · have jD:=ł (show ¬ (true=true/\true=false)from by simp);have hl:=run_get Tryz.DN Tryz.underlying147 (i:Int) (.bool false) Tryz.CY Ny.out;have hl2:(lookup 147 (.map (some (w.heap.size+1))) (.int .i64 (i:Int)) false).run Tryz.prog w3 = .ok (.bool (kH refs i)) w3:=by
            rw[hl];exact congrArg (λv=>Result.ok v w3) (yS (i:Int) (iW refs refs.length) 0 (Ir refs refs.length (Nat.le_refl _)))
           have ZZ:=ł (show kH refs i=kH refs i from rfl);clear hl;generalize hq:kH refs (i:Int)=lq at *;cases lq
           · go_wp2_with fail
             go_roundw
             case rel=>exact⟨i+1,next,rfl,by go_num,by omega,hnx,fP.out,Ny.out,by rw[lL.out,HST.out,if_neg HB0.out,if_neg (by simp),if_pos um.out,if_neg (by simp)]⟩
             case measure=>simp[intOf];omega
           · have dS:=ł (show dR code refs=((i:Int),6)from by rw[lL.out,HST.out,if_neg HB0.out,if_neg (by simp),if_pos um.out,if_pos (by simp)]);go_wp2_with fail
             go_ret2
             exact⟨by rw[dS.out];rfl,Aj.out⟩
   · obtain rfl:i=code.length:=by omega
     have p0:wr.cell? ⟨w.heap.size,0,none⟩=some (.slice ca code.length bD):=by simp[World.cell?,ll]
     have p1:wr.cell? ⟨w.heap.size,1,none⟩=some (.slice ra refs.length bI):=by simp[World.cell?,ll]
     have Ah:=ł hgr;have dS:=ł (show dR code refs=vC code refs next from by rw[lL.out,Nat.sub_self];rfl);clear hmp hg hgr qN ll;by_cases hnl:next<refs.length
     · have GG:=ł (show dR code refs=((code.length:Int),6)from by rw[dS.out,vC,if_pos hnl]);go_wp2_with fail
       go_ret2
       exact⟨by rw[GG.out];rfl,Ah.out⟩
     · have GG:=ł (show dR code refs=(-1,0)from by rw[dS.out,vC,if_neg hnl]);go_wp2_with fail
       go_ret2
       exact⟨by rw[GG.out];rfl,Ah.out⟩
structure fC where
 code:List Ins
 refs:List aI
attribute [local go_sem ↓] jG
theorem Vy (v:Value) (x:Ins) (xs:List Ins) (base:Nat) (w:World) (hrow:mr w base v xs) (hb:base<=w.heap.size) (hlen:xs.length<=900000) :
 ∃ a' c' w2,(sO Tryz.prog 34 34 v (.slice (some ⟨w.heap.size,0,none⟩) 1 1) (w.alloc (.cells #[.int .u8 x.op,.int .i64 x.a,.int .i64 x.b,.int .i64 x.c,.int .i64 x.d] 69)) /\
  oh Tryz.prog 34 34 v (.slice (some ⟨w.heap.size,0,none⟩) 1 1) (w.alloc (.cells #[.int .u8 x.op,.int .i64 x.a,.int .i64 x.b,.int .i64 x.c,.int .i64 x.d] 69)) = .slice a' (xs.length+1) c'/\appW Tryz.prog 34 34 v (.slice (some ⟨w.heap.size,0,none⟩) 1 1) (w.alloc (.cells #[.int .u8 x.op,.int .i64 x.a,.int .i64 x.b,.int .i64 x.c,.int .i64 x.d] 69))=w2) /\
  mr w2 base (.slice a' (xs.length+1) c') (xs ++ [x])/\Mv (λb=>v.ownBlock=some b) w w2:=by
 have hs:ai 5 Ins.cells (w.alloc (.cells #[.int .u8 x.op,.int .i64 x.a,.int .i64 x.b,.int .i64 x.c,.int .i64 x.d] 69)) (.slice (some ⟨w.heap.size,0,none⟩) 1 1) [x]:=ai.qm (f:=Ins.cells) (l:=[x]) (λ_=>rfl) (heap_alloc_new w _) (by simp[flat,Ins.cells]) (by simp);obtain⟨a',c',w2,⟨hok,hv,hw⟩,hrow2,eX,hnew⟩:=nD Tryz.Vv (f:=Ins.cells) (λ_=>rfl) v _ xs [x] base _ (aU hrow (((Mv.refl (λ_=>False) w).alloc _)) (λ_ _ e=>e)) hs Vw (by simp;omega) (by simp;omega);exact⟨a',c',w2,⟨hok,hv,hw⟩,hrow2,((Mv.refl _ w).alloc _).trans eX (λx e => .inl e)⟩
structure qC (w0 wr:World) (v:Value) (l:List Ins):Prop where
 g:Grow w0 wr
 row:mr wr w0.heap.size v l
theorem qC.grow {w0 wr w2:World} {v:Value} {l:List Ins} (h:qC w0 wr v l) (hm:Grow wr w2):qC w0 w2 v l:=⟨h.g.trans hm (λ_ e=>e.elim),aU h.row hm (λ_ _ e=>e)⟩
theorem qC.app {w0 wr w2:World} {v v2:Value} {l l2:List Ins} (h:qC w0 wr v l) (h2:mr w2 w0.heap.size v2 l2) (hm:Mv (λb=>v.ownBlock=some b) wr w2):qC w0 w2 v2 l2:=⟨h.g.trans hm (λb e => .inr (h.row.lt b e).1),h2⟩
end Go.Proofs.YtadecgbblajifaaGreatDoor
