import Derived.Test.YtnobahchcongnaaGreatDoorR12
import Derived.Deep.CutRange
set_option linter.unusedSimpArgs false
set_option linter.unusedVariables false
set_option maxRecDepth 100000
set_option maxHeartbeats 25600000
namespace Go.Proofs.YtnobahchcongnaaGreatDoor
open Go.RowKit Go.Instr
def qy (refs:List aV) (k:Nat):List (Int × Value):=(refs.take k).foldl (λm r=>jl r.at' (.bool true) m) []
def o6 (refs:List aV) (i:Int):Bool:=(sD (qy refs refs.length) i).isSome
theorem Pj (refs:List aV) (k:Nat) (h:k<refs.length):qy refs (k+1)=jl refs[k].at' (.bool true) (qy refs k):=by
 unfold qy;rw[List.take_succ_eq_append_getElem h,List.foldl_append];rfl
theorem PI (refs:List aV):∀ (k:Nat),k<=refs.length->∀ p∈qy refs k,p.2 = .bool true:=by
 intro k
 induction k with
 |zero=>intro _ p hp;simp[qy]at hp
 |succ k ih=>intro hk p hp;rw[Pj refs k (by omega)]at hp;exact Kz _ _ (ih (by omega)) p hp
def Aa (code:List Ins) (refs:List aV) (next:Nat):Int × Int:=if next<refs.length then((code.length:Int),6)else(-1,0)
def rP (code:List Ins) (refs:List aV):Nat->Nat->Nat->Int × Int
 |0,_,next=>Aa code refs next
 |f+1,i,next=>match code[i]? with
  |none=>Aa code refs next
  |some x =>
   if x.gT=false\/x.op=32\/x.op=33\/x.op=34 then((i:Int),3)
   else if bH x.op=true/\wW code i=false then((i:Int),23)
   else if x.op≠30/\x.op≠31 then(if o6 refs i then((i:Int),6)else rP code refs f (i+1) next)
   else if x.a≠0\/next=refs.length\/(refs[next]?.map aV.at')≠some (i:Int)then((i:Int),6)else rP code refs f (i+1) (next+1)
def kG (code:List Ins) (refs:List aV):Int × Int:=rP code refs code.length 0 0
theorem aam (op:Int) (h:bH op=true):op≠30/\op≠31:=by
 constructor
 · rintro rfl;revert h;decide
 · rintro rfl;revert h;decide
theorem qH.keep {O:Nat->Prop} {w w':World} (h:qH w) (hm:Mv O w w') (hO:∀ b,O b->w.heap.size<=b):qH w':=h.later (hm.mono λx hx => .inr (hO x hx))
theorem Tryz.LD:KeyLaw Tryz.prog 3 (Value.int .i64) (.int .i64):=aab Tryz.underlying3
theorem PY (cv rv:Value) (code:List Ins) (refs:List aV) (w:World) (ht:qH w) (hc:az 5 Ins.cells w cv code) (hr:az 2 aV.cells w rv refs) (hop:∀ x∈code,0<=x.op/\x.op<=255) :
 Calls Tryz.prog 11 #[.agg #[cv,rv]] w λe w'=>e = .returned (.tuple #[.int .i64 (kG code refs).1,.int .i64 (kG code refs).2])/\Grow w w':=by
 obtain⟨ca,qN,rfl,aeC,aeD⟩:=hc.form;obtain⟨ra,sG,rfl,aeE,hrlen⟩:=hr.form;have hmm := @run_makeMap Tryz.prog;have HT:=ł ht;have HC:=ł hc;have HR:=ł hr;have zA:=ł hop;have Sr:MapAt (Value.int .i64) ((w.alloc (.cells #[.slice ca code.length qN,.slice ra refs.length sG] 34)).alloc (.map #[] 0)) (w.heap.size+1) []:=by
  have:=MapAt.new (Value.int .i64) (w.alloc (.cells #[.slice ca code.length qN,.slice ra refs.length sG] 34))
  simpa using this
 have Su:((w.alloc (.cells #[.slice ca code.length qN,.slice ra refs.length sG] 34)).alloc (.map #[] 0)).heap[w.heap.size]? = some (.cells #[.slice ca code.length qN,.slice ra refs.length sG] 34 (0,0)):=by
  rw[Below.heap_alloc _ _ _ (by simp)];exact heap_alloc_new w _
 have hgw:Mv (λb=>b=w.heap.size+1) w ((w.alloc (.cells #[.slice ca code.length qN,.slice ra refs.length sG] 34)).alloc (.map #[] 0)):=((Mv.refl _ _).alloc _).alloc _;have abu:=ł Sr;have IB:=ł Su;have bf:=ł hgw;clear ht hc hr hop Sr Su hgw
 go_enter Tryz.func11,Tryz.ntmps11
 go_wp2_with fail;have hsz1:w.heap.size+1<((w.alloc (.cells #[.slice ca code.length qN,.slice ra refs.length sG] 34)).alloc (.map #[] 0)).heap.size:=by simp
 generalize (w.alloc (.cells #[.slice ca code.length qN,.slice ra refs.length sG] 34)).alloc (.map #[] 0)=w1 at *
 go_loopw [14] (λt wr=>∃ k:Nat,t = .int .i64 k/\k<=refs.length/\Mv (λb=>b=w.heap.size+1) w1 wr/\MapAt (Value.int .i64) wr (w.heap.size+1) (qy refs k)) (λt _=>refs.length - (intOf t).toNat)
 case atStart=>exact⟨0,rfl,Nat.zero_le _,Mv.refl _ _,abu.out⟩
 obtain⟨k,rfl,hk,hg,hmp⟩:=hrel;have Al:=bf.out.trans hg (λx e => .inl e);have hgr:Grow w wr:=Al.mono (λx e => .inr (by omega));have abv:=hg.size;have vQ:wr.heap[w.heap.size]? = some (.cells #[.slice ca code.length qN,.slice ra refs.length sG] 34 (0,0)):=by
  rw[hg.block _ (by omega) (by omega)];exact IB.out
 have HG:=ł hg;have bS:=ł hgr;have oD:=ł hmp;have cZ:=ł vQ;by_cases hlt:k<refs.length
 · obtain⟨b,off,cap',e,_,hcc⟩:=(HR.out.later hgr).at hlt;simp only[Value.slice.injEq,true_and]at e;obtain⟨rfl,rfl⟩:=e;have c0:=hcc 0 _ rfl;have c1:=hcc 1 _ rfl;simp only[Nat.add_zero]at c0;have hbl:b<wr.heap.size:=World.block_lt_of_cell? wr _ c0;have HS:=ł (Pj refs k hlt);generalize hx:refs[k]=x at *;obtain⟨xa,xs⟩:=x;simp only at c0 c1;obtain⟨w2,hup,Eh,bz⟩:=run_set Tryz.LD Tryz.underlying79 xa (.bool true) (hmp.keep (w':=wr.alloc (.cells #[.int .i64 xa,.string xs] 78)) (Below.heap_alloc _ _ _ hmp.lt));have Cr:=ł Eh;have Ei:=ł bz;clear hcc hx hmp Eh bz hg hgr Al vQ;go_wp2_with fail
   go_roundw
   case rel=>exact⟨k+1,by go_num,by omega,(HG.out.alloc _).trans Ei.out (λx e => .inl e),by rw[HS.out];exact Cr.out⟩
   case measure=>simp[intOf];omega
 · obtain rfl:k=refs.length:=by omega
   have p0:wr.cell? ⟨w.heap.size,0,none⟩=some (.slice ca code.length qN):=by simp[World.cell?,vQ]
   have ae2:w.heap.size<wr.heap.size:=by omega
   clear hmp hg hgr Al vQ;go_wp2_with fail;clear p0;obtain⟨wo,rfl⟩:∃ wo:World,wo=wr:=⟨_,rfl⟩
   go_loopw [7,25] (λnx t wr=>∃ i next:Nat,nx = .int .i64 next/\t = .int .i64 i/\i<=code.length/\next<=refs.length/\Mv (λb=>b=w.heap.size+1) w1 wr/\MapAt (Value.int .i64) wr (w.heap.size+1) (qy refs refs.length)/\kG code refs=rP code refs (code.length - i) i next) (λ_ t _=>code.length - (intOf t).toNat)
   case atStart=>exact⟨0,0,rfl,rfl,Nat.zero_le _,Nat.zero_le _,HG.out,oD.out,rfl⟩
   obtain⟨i,next,rfl,rfl,hi,hnx,hg,hmp,hpc⟩:=hrel;have Al:=bf.out.trans hg (λx e => .inl e);have hgr:Grow w wr:=Al.mono (λx e => .inr (by omega));have aeF:=hg.size;have vQ:wr.heap[w.heap.size]? = some (.cells #[.slice ca code.length qN,.slice ra refs.length sG] 34 (0,0)):=by
    rw[hg.block _ (by omega) (by omega)];exact IB.out
   have eX:=ł hpc;clear hpc;by_cases hlt:i<code.length
   · obtain⟨b,off,cap',e,_,_⟩:=(HC.out.later hgr).at hlt;simp only[Value.slice.injEq,true_and]at e;obtain⟨rfl,rfl⟩:=e;obtain⟨⟨c0,c1,c2⟩,c3,c4,hbl⟩:=(HC.out.later hgr).ins hlt;have iH:=zA.out code[i] (List.getElem_mem hlt);have HST:=ł (show rP code refs (code.length - i) i next=(if code[i].gT=false\/code[i].op=32\/code[i].op=33\/code[i].op=34 then((i:Int),3)
      else if bH code[i].op=true/\wW code i=false then((i:Int),23)
      else if code[i].op≠30/\code[i].op≠31 then(if o6 refs i then((i:Int),6)else rP code refs (code.length - (i+1)) (i+1) next)
      else if code[i].a≠0\/next=refs.length\/(refs[next]?.map aV.at')≠some (i:Int)then((i:Int),6)else rP code refs (code.length - (i+1)) (i+1) (next+1))from by
       rw[show code.length - i=(code.length - (i+1))+1 by omega];simp only[rP,List.getElem?_eq_getElem hlt])
     have HV:=ł (λw ht=>Zc code[i] w ht iH.1 iH.2);have E8:=ł (HT.out.later (hgr.alloc (.cells #[.int .u8 code[i].op,.int .i64 code[i].a,.int .i64 code[i].b,.int .i64 code[i].c,.int .i64 code[i].d] 57)));generalize hx:code[i]=x at *;obtain⟨xo,xa,xb,xc,xd⟩:=x;simp only at c0 c1 c2 c3 c4 iH;have wh:=ł hg;have IC:=ł hgr;have abw:=ł hmp;have aa5:w.heap.size<wr.heap.size:=by omega
     have abx:=ł vQ;clear hx hg hgr Al hmp vQ;go_wp2_with fail;refine(HV.out _ E8.out).mono ?_;rintro e w2 ⟨rfl,hm2⟩;obtain⟨hc2,hf2⟩:=LM hm2;have hs2:=hm2.size;simp only[World.size_alloc]at hs2
     have hg2:Mv (λb=>b=w.heap.size+1) w1 w2:=(wh.out.alloc _).trans hm2 (λ_ e=>e.elim);have hb2:w2.heap[w.heap.size]? = some (.cells #[.slice (some ⟨b,off,none⟩) code.length qN,.slice ra refs.length sG] 34 (0,0)):=by
      rw[hm2.block _ (by simp;omega) (λh=>h),Below.heap_alloc _ _ _ aa5];exact abx.out
     have p0:w2.cell? ⟨w.heap.size,0,none⟩=some (.slice (some ⟨b,off,none⟩) code.length qN):=by simp[World.cell?,hb2]
     have p1:w2.cell? ⟨w.heap.size,1,none⟩=some (.slice ra refs.length sG):=by simp[World.cell?,hb2]
     have x0:w2.cell? ⟨wr.heap.size,0,none⟩=some (.int .u8 xo):=by rw[hc2 _ _ (by simp),Q3];rfl
     have x1:w2.cell? ⟨wr.heap.size,1,none⟩=some (.int .i64 xa):=by rw[hc2 _ _ (by simp),Q3];rfl
     have Ej:Grow w w2:=Mv.trans (IC.out.alloc _) hm2 (λ_ e=>e.elim);have Eh:MapAt (Value.int .i64) w2 (w.heap.size+1) (qy refs refs.length):=abw.out.keep (by rw[hm2.block _ (by simp;omega) (λh=>h),Below.heap_alloc _ _ _ (by omega)]);have HG2:=ł hg2;have sI:=ł Ej;have Cr:=ł Eh;have hX2:wr.heap.size<w2.heap.size:=by omega
     generalize Ins.gT ⟨xo,xa,xb,xc,xd⟩=vq at *;clear hm2 hc2 hf2 hg2 hb2 Ej Eh c0 c1 c2 c3 c4;by_cases hbad:vq=false\/xo=32\/xo=33\/xo=34
     · have aJ:=ł (show kG code refs=((i:Int),3)from by rw[eX.out,HST.out,if_pos hbad]);cases vq
       · go_wp2_with fail
         go_ret2
         exact⟨by rw[aJ.out];rfl,sI.out⟩
       · rcases hbad with h|h|h|h
         · cases h
         all_goals
          subst h;go_wp2_with fail
          go_ret2
          exact⟨by rw[aJ.out];rfl,sI.out⟩
     · have HB0:=ł hbad;cases vq
       · exact(hbad (.inl rfl)).elim
       have n32:(xo == 32)=false:=by simpa using λe=>hbad (.inr (.inl e))
       have n33:(xo == 33)=false:=by simpa using λe=>hbad (.inr (.inr (.inl e)))
       have n34:(xo == 34)=false:=by simpa using λe=>hbad (.inr (.inr (.inr e)))
       clear hbad;go_wp2_with fail;refine(KG xo _).mono ?_;rintro e w' ⟨rfl,rfl⟩;have Jl:=ł (aam xo);generalize hmq:bH xo=mq at *;cases mq
       · have E9:=ł (show ¬ (false=true/\wW code i=false)from by simp);by_cases hcall:xo≠30/\xo≠31
         · have CK:=ł hcall;have n30:(xo != 30)=true:=by simpa using hcall.1
           have n31:(xo != 31)=true:=by simpa using hcall.2
           clear hcall Jl;have hl:=run_get Tryz.LD Tryz.underlying79 (i:Int) (.bool false) Tryz.BZ Cr.out;have hl2:(lookup 79 (.map (some (w.heap.size+1))) (.int .i64 (i:Int)) false).run Tryz.prog w2 = .ok (.bool (o6 refs i)) w2:=by
            rw[hl];exact congrArg (λv=>Result.ok v w2) (Gz (i:Int) (qy refs refs.length) 0 (PI refs refs.length (Nat.le_refl _)))
           have HLI:=ł (show o6 refs i=o6 refs i from rfl);clear hl;generalize hq:o6 refs (i:Int)=lq at *;cases lq
           · go_wp2_with fail
             go_roundw
             case rel=>exact⟨i+1,next,rfl,by go_num,by omega,hnx,HG2.out,Cr.out,by rw[eX.out,HST.out,if_neg HB0.out,if_neg (by simp),if_pos CK.out,if_neg (by simp)]⟩
             case measure=>simp[intOf];omega
           · have aJ:=ł (show kG code refs=((i:Int),6)from by rw[eX.out,HST.out,if_neg HB0.out,if_neg (by simp),if_pos CK.out,if_pos (by simp)]);go_wp2_with fail
             go_ret2
             exact⟨by rw[aJ.out];rfl,sI.out⟩
         · have CK:=ł hcall;have ik:=ł (show kG code refs=(if xa≠0\/next=refs.length\/(refs[next]?.map aV.at')≠some (i:Int)then((i:Int),6)else rP code refs (code.length - (i+1)) (i+1) (next+1))from by
            rw[eX.out,HST.out,if_neg HB0.out,if_neg (by simp),if_neg hcall])
           have IE:xo=30\/xo=31:=by omega
           clear hcall Jl hmq n32 n33 n34;by_cases ha:xa=0
           · subst ha;by_cases hne:next=refs.length
             · have aJ:=ł (show kG code refs=((i:Int),6)from by rw[ik.out,if_pos (.inr (.inl hne))]);have hnb:((next:Int) == (refs.length:Int))=true:=by simp[hne]
               have Jm:=ł hne;clear hne;rcases IE with rfl|rfl
               all_goals
                go_wp2_with fail
                go_ret2
                exact⟨by rw[aJ.out];rfl,sI.out⟩
             · have hnl:next<refs.length:=by omega
               have hnb:((next:Int) == (refs.length:Int))=false:=by simpa using λe=>hne (by omega)
               obtain⟨rb,roff,aeG,e,_,hcc⟩:=(HR.out.later sI.out).at hnl;simp only[Value.slice.injEq,true_and]at e;obtain⟨rfl,rfl⟩:=e;have r0:=hcc 0 _ rfl;simp only[Nat.add_zero]at r0;have ae3:rb<w2.heap.size:=World.block_lt_of_cell? w2 _ r0;have hgt:(refs[next]?.map aV.at')=some refs[next].at':=by rw[List.getElem?_eq_getElem hnl];rfl
               rw[hgt]at ik;generalize refs[next].at'=ra at *;clear hcc hgt hne;by_cases hra:ra=i
               · have hrb:(ra != (i:Int))=false:=by simp[hra]
                 have aJ:=ł (show kG code refs=rP code refs (code.length - (i+1)) (i+1) (next+1)from by rw[ik.out,if_neg (by rw[hra];simp;omega)]);clear hra;rcases IE with rfl|rfl
                 all_goals
                  go_wp2_with fail
                  go_roundw
                  case rel=>exact⟨i+1,next+1,by go_num,by go_num,by omega,by omega,HG2.out,Cr.out,aJ.out⟩
                  case measure=>simp[intOf];omega
               · have hrb:(ra != (i:Int))=true:=by simpa using hra
                 have aJ:=ł (show kG code refs=((i:Int),6)from by rw[ik.out,if_pos (.inr (.inr (by simpa using hra)))]);clear hra;rcases IE with rfl|rfl
                 all_goals
                  go_wp2_with fail
                  go_ret2
                  exact⟨by rw[aJ.out];rfl,sI.out⟩
           · have hab:(xa != 0)=true:=by simpa using ha
             have aJ:=ł (show kG code refs=((i:Int),6)from by rw[ik.out,if_pos (.inl ha)]);clear ha;rcases IE with rfl|rfl
             all_goals
              go_wp2_with fail
              go_ret2
              exact⟨by rw[aJ.out];rfl,sI.out⟩
       · have aa6:=ł (Xv _ code i w2 (HC.out.later sI.out) hlt);obtain⟨NG,NH⟩:=Jl.out rfl;have n30:(xo != 30)=true:=by simpa using NG
         have n31:(xo != 31)=true:=by simpa using NH
         have CK:=ł (show xo≠30/\xo≠31 from⟨NG,NH⟩);clear NG NH Jl;go_wp2_with fail;refine aa6.out.mono ?_;rintro e w3 ⟨rfl,jL⟩;have hg3:=HG2.out.trans jL (λ_ e=>e.elim);have Te:=Mv.trans sI.out jL (λ_ e=>e.elim);have hs3:=jL.size;have Tf:MapAt (Value.int .i64) w3 (w.heap.size+1) (qy refs refs.length):=Cr.out.keep (jL.block _ (by omega) (λh=>h));have y0:w3.cell? ⟨wr.heap.size,0,none⟩=some (.int .u8 xo):=by rw[(LM jL).1 _ _ hX2];exact x0
         have aH:=ł hg3;have IG:=ł Te;have Tg:=ł Tf;have Jn:wr.heap.size<w3.heap.size:=by omega
         clear jL hg3 Te Tf x0 x1 p0 p1;generalize hpq:wW code i=pq at *;cases pq
         · have aJ:=ł (show kG code refs=((i:Int),23)from by rw[eX.out,HST.out,if_neg HB0.out,if_pos (by simp)]);go_wp2_with fail
           go_ret2
           exact⟨by rw[aJ.out];rfl,IG.out⟩
         · have E9:=ł (show ¬ (true=true/\true=false)from by simp);have hl:=run_get Tryz.LD Tryz.underlying79 (i:Int) (.bool false) Tryz.BZ Tg.out;have hl2:(lookup 79 (.map (some (w.heap.size+1))) (.int .i64 (i:Int)) false).run Tryz.prog w3 = .ok (.bool (o6 refs i)) w3:=by
            rw[hl];exact congrArg (λv=>Result.ok v w3) (Gz (i:Int) (qy refs refs.length) 0 (PI refs refs.length (Nat.le_refl _)))
           have HLI:=ł (show o6 refs i=o6 refs i from rfl);clear hl;generalize hq:o6 refs (i:Int)=lq at *;cases lq
           · go_wp2_with fail
             go_roundw
             case rel=>exact⟨i+1,next,rfl,by go_num,by omega,hnx,aH.out,Tg.out,by rw[eX.out,HST.out,if_neg HB0.out,if_neg (by simp),if_pos CK.out,if_neg (by simp)]⟩
             case measure=>simp[intOf];omega
           · have aJ:=ł (show kG code refs=((i:Int),6)from by rw[eX.out,HST.out,if_neg HB0.out,if_neg (by simp),if_pos CK.out,if_pos (by simp)]);go_wp2_with fail
             go_ret2
             exact⟨by rw[aJ.out];rfl,IG.out⟩
   · obtain rfl:i=code.length:=by omega
     have p0:wr.cell? ⟨w.heap.size,0,none⟩=some (.slice ca code.length qN):=by simp[World.cell?,vQ]
     have p1:wr.cell? ⟨w.heap.size,1,none⟩=some (.slice ra refs.length sG):=by simp[World.cell?,vQ]
     have IC:=ł hgr;have aJ:=ł (show kG code refs=Aa code refs next from by rw[eX.out,Nat.sub_self];rfl);clear hmp hg hgr Al vQ;by_cases hnl:next<refs.length
     · have kg:=ł (show kG code refs=((code.length:Int),6)from by rw[aJ.out,Aa,if_pos hnl]);go_wp2_with fail
       go_ret2
       exact⟨by rw[kg.out];rfl,IC.out⟩
     · have kg:=ł (show kG code refs=(-1,0)from by rw[aJ.out,Aa,if_neg hnl]);go_wp2_with fail
       go_ret2
       exact⟨by rw[kg.out];rfl,IC.out⟩
structure aB where
 code:List Ins
 refs:List aV
def cB:aB:=⟨[],[]⟩
def dL (op:Int):Int :=
 if op=1 then 2 else if op=2 then 1 else if op=4 then 5 else if op=5 then 4 else if op=12 then 13 else if op=13 then 12
 else if op=17 then 18 else if op=18 then 17 else if op=19 then 20 else if op=20 then 19
 else if op=22\/op=23\/op=24 then op+3 else if op=25\/op=26\/op=27 then op - 3
 else if op=28 then 29 else if op=29 then 28 else if op=32 then 33 else if op=33 then 32 else op
def Ins.inv (i:Ins):Ins := { i with op:=dL i.op }
def dC (l:List Ins):List Ins:=(l.map Ins.inv).reverse
def Ins.shift (i:Ins) (by':Int):Ins:=if bH i.op then i.bN (wrap64 (i.target+by'))else i
def bR (l:List Ins) (by':Int):List Ins:=l.map λi=>i.shift by'
def aV.shift (r:aV) (by':Int):aV:=⟨wrap64 (r.at'+by'),r.name⟩
def eF (p q:aB):aB:=⟨p.code ++ bR q.code p.code.length,p.refs ++ q.refs.map λr=>r.shift p.code.length⟩
def aL (l:List aB):aB:=l.foldl eF cB
def ah (l:List Ins):aB:=⟨l,[]⟩
def gy (p:aB) (i j:Nat):aB :=
 match p.code[i]?,p.code[j]? with
 |some x,some y=>⟨(p.code.set i (x.bN j)).set j (y.bN i),p.refs⟩
 |_,_=>p
def bW (f:ax) (e:Tree):List Ins:=iP f e 0
def aD (f:ax) (e:Tree) (use:aB):aB :=
 ah (bW f e ++ [⟨13,4,0,0,0⟩] ++ bR use.code (bW f e).length.succ ++ [⟨12,4,0,0,0⟩] ++ dC (bW f e))
def aj (f:ax) (s:ByteArray) (k:Int):Int:=((au f s k).getD noSlot).at'
def bX (f:ax) (p:Tree) (r i:Int):Ins:=⟨11,r,i,((au f p.name 2).getD noSlot).at',((au f p.name 2).getD noSlot).len⟩
def dx:Tree := .mk 0 0 ⟨#[]⟩ []
def Tree.kid (t:Tree) (i:Nat):Tree:=t.kids.getD i dx
def vG (f:ax) (p:Tree) (list:Ins->aB):aB :=
 if p.kind=2 then list ⟨10,5,aj f p.name 1,0,0⟩else aD f (p.kid 0) (list (bX f p 5 4))
def moveC (f:ax) (p:Tree) (i:Ins):aB:=vG f p λcell=>ah [cell,i,cell]
def fP:aB:=ah [⟨7,4,5,0,0⟩]
def kU (f:ax) (p e:Tree) (op:Int):aB :=
 if p.kind=2 then aD f e (ah [⟨10,5,aj f p.name 1,0,0⟩,⟨op,5,4,0,0⟩,⟨10,5,aj f p.name 1,0,0⟩])
 else aD f (p.kid 0) (aL [fP,aD f e (ah [bX f p 6 5,⟨op,6,4,0,0⟩,bX f p 6 5]),fP])
def dH (f:ax) (p q:Tree):aB :=
 if p.name≠q.name then ah [bX f p 6 5,bX f q 6 4,bX f p 6 5]
 else gy (ah [bX f p 6 5,bX f p 6 5,⟨9,7,5,4,16⟩,⟨24,7,0,0,0⟩,bX f p 6 5,bX f q 6 4,bX f p 6 5,⟨27,7,0,0,0⟩,⟨9,7,5,4,16⟩,bX f p 6 5,bX f p 6 5]) 3 7
def rV (f:ax) (p q:Tree):aB :=
 if q.kind=2/\p.name=q.name then cB
 else vG f q λcell=>ah [⟨10,5,aj f p.name 1,0,0⟩,cell,⟨10,5,aj f p.name 1,0,0⟩]
def jB (f:ax) (p q:Tree):aB :=
 if p.kind=3/\q.kind=3 then aD f (p.kid 0) (aL [fP,aD f (q.kid 0) (dH f p q),fP])
 else if p.kind=3 then rV f q p else rV f p q
def dW (f:ax) (e:Tree):aB:=aD f e (ah [⟨9,0,4,5,17⟩])
def lK:Ins:=⟨21,0,15,0,0⟩
def jU:Ins:=⟨6,0,1,0,0⟩
def rT (f:ax) (e1:Tree) (s t:aB) (e2:Tree):aB :=
 let t1:=dW f e1
 let p:=aL [ah [lK],t1,ah [⟨23,0,0,0,0⟩,jU],s,ah [jU,⟨22,0,0,0,0⟩,⟨25,0,0,0,0⟩],t,ah [⟨27,0,0,0,0⟩],dW f e2,ah [lK]]
 let first:=1+t1.code.length
 let second:=first+3+s.code.length
 gy (gy p first (second+1)) second (second+2+t.code.length)
def rZ (f:ax) (e1:Tree) (s t:aB) (e2:Tree):aB :=
 let t1:=dW f e1
 let t2:=dW f e2
 let p:=aL [ah [jU,⟨26,0,0,0,0⟩],t1,ah [lK],s,ah [lK],t2,ah [⟨24,0,0,0,0⟩],t,ah [⟨22,0,0,0,0⟩,⟨25,0,0,0,0⟩,jU]]
 let leave:=4+t1.code.length+s.code.length+t2.code.length
 let rep:=leave+1+t.code.length
 gy (gy p 1 rep) leave (rep+1)
def lJ (f:ax) (name:ByteArray) (e1:Tree) (s:aB) (e2:Tree):aB :=
 aL [aD f e1 (ah [⟨10,5,aj f name 1,0,0⟩,⟨21,5,16,0,0⟩,⟨3,5,4,0,0⟩,⟨10,5,aj f name 1,0,0⟩]),s,aD f e2 (ah [⟨10,5,aj f name 1,0,0⟩,⟨3,5,4,0,0⟩,⟨21,5,16,0,0⟩,⟨10,5,aj f name 1,0,0⟩])]
def Ac (f:ax) (name:ByteArray):aB:=ah [⟨15,5,aj f name 3,0,0⟩,⟨21,5,16,0,0⟩,⟨15,5,aj f name 3,0,0⟩]
def lG (f:ax) (name:ByteArray) (s:aB):aB:=aL [Ac f name,s,Ac f name]
def lH (f:ax) (v:bu):ax :=
 if v.kind=3 then⟨f.slots ++ [⟨v.name,v.kind,v.len,f.stacks+1⟩],f.cells,f.stacks+1⟩
 else if v.kind=2 then⟨f.slots ++ [⟨v.name,v.kind,v.len,f.cells⟩],f.cells+v.len,f.stacks⟩
 else⟨f.slots ++ [⟨v.name,v.kind,v.len,f.cells⟩],f.cells+1,f.stacks⟩
def iK:ax:=⟨[],0,0⟩
def frameC (l:List bu):ax:=l.foldl lH iK
def pF (f:ax) (x:Int) (s:dA):List aB :=
 if s.kind=3 then[ah [⟨16,x,f.stacks+s.at',0,0⟩]]
 else(List.range (if s.kind=2 then s.len.toNat else 1)).map λ(j:Nat)=>ah [⟨10,5,x+j,0,0⟩,⟨10,5,f.cells+s.at'+j,0,0⟩,⟨10,5,x+j,0,0⟩]
def ji (f:ax) (kids:List Tree) (slots:List dA):List aB:=((kids.zip slots).map λx=>pF f (aj f x.1.name x.2.kind) x.2).flatten
def si (f:ax) (procs:List bQ) (op:Int) (name:ByteArray) (kids:List Tree):aB :=
 let there:=ji f kids (frameC ((tV procs name).map bQ.params |>.getD [])).slots
 aL [aL there,ah [⟨28,f.cells,f.stacks,0,0⟩],⟨[⟨op,0,0,0,0⟩],[⟨0,name⟩]⟩,ah [⟨29,f.cells,f.stacks,0,0⟩],aL there.reverse]
mutual
def dX (f:ax) (procs:List bQ):Tree->aB
 |.mk k _ s l =>
  let e:=λ(i:Nat)=>l.getD i dx
  let b:=eY f procs l
  if k=40 then kU f (e 0) (e 1) 1 else if k=41 then kU f (e 0) (e 1) 2 else if k=42 then kU f (e 0) (e 1) 3
  else if k=43 then jB f (e 0) (e 1)
  else if k=44 then moveC f (e 0) ⟨12,5,aj f s 3,0,0⟩else if k=45 then moveC f (e 0) ⟨13,5,aj f s 3,0,0⟩
  else if k=46 then moveC f (e 0) ⟨17,5,0,0,0⟩else if k=47 then moveC f (e 0) ⟨18,5,0,0,0⟩
  else if k=48 then moveC f (e 0) ⟨19,5,0,0,0⟩else if k=49 then moveC f (e 0) ⟨20,5,0,0,0⟩
  else if k=52 then rT f (e 0) (b.getD 1 cB) (b.getD 2 cB) (e 3)
  else if k=53 then rZ f (e 0) (b.getD 1 cB) (b.getD 2 cB) (e 3)
  else if k=54 then lJ f s (e 0) (b.getD 1 cB) (e 2)
  else if k=55 then lG f s (b.getD 0 cB)
  else si f procs (if k=51 then 31 else 30) s l
def aQ (f:ax) (procs:List bQ):Tree->aB
 |.mk _ _ _ l=>aL (qE f procs l)
def qE (f:ax) (procs:List bQ):List Tree->List aB
 | []=>[]
 |t :: l=>dX f procs t :: qE f procs l
def eY (f:ax) (procs:List bQ):List Tree->List aB
 | []=>[]
 |t :: l=>aQ f procs t :: eY f procs l
end
theorem GA (f:ax) (procs:List bQ) (l:List Tree):qE f procs l=l.map (dX f procs):=by
 induction l with
 |nil=>rw[qE];rfl
 |cons t l ih=>rw[qE,ih];rfl
theorem Yt (f:ax) (procs:List bQ) (l:List Tree):eY f procs l=l.map (aQ f procs):=by
 induction l with
 |nil=>rw[eY];rfl
 |cons t l ih=>rw[eY,ih];rfl
attribute [local go_sem ↓] ni
theorem Zo (op:Int) (w:World) (h0:0<=op) (h1:op<=255):Calls Tryz.prog 48 #[.int .u8 op] w λe w'=>e = .returned (.int .u8 (dL op))/\w=w':=by
 by_cases hx:op=22\/op=23\/op=24\/op=25\/op=26\/op=27
 · rcases hx with rfl|rfl|rfl|rfl|rfl|rfl
   all_goals
    go_enter Tryz.func48,Tryz.ntmps48
    go_wp2
    go_ret;exact⟨rfl,rfl⟩
 · simp only[not_or]at hx;obtain⟨x1,x2,x3,x4,x5,x6⟩:=hx
   go_enter Tryz.func48,Tryz.ntmps48
   go_wp2
   all_goals (go_ret;exact⟨iF (by unfold dL;simp_all),rfl⟩)
theorem PZ (i:Ins) (w:World) (h0:0<=i.op) (h1:i.op<=255):Calls Tryz.prog 26 #[i.val] w λe w'=>e = .returned i.inv.val/\Grow w w':=by
 obtain⟨op,a,b,c,d⟩:=i;have HC:=ł (λw=>Zo op w h0 h1);have HI:=ł (show(Ins.inv ⟨op,a,b,c,d⟩).val = .agg #[.int .u8 (dL op),.int .i64 a,.int .i64 b,.int .i64 c,.int .i64 d]from rfl)
 go_enter Tryz.func26,Tryz.ntmps26
 go_wp2_with fail;refine(HC.out _).mono ?_;rintro e w' ⟨rfl,rfl⟩;generalize dL op=r at *;go_wp2_with fail;refine bodyPost_ret (v := .agg #[.int .u8 r,.int .i64 a,.int .i64 b,.int .i64 c,.int .i64 d]) (by simp[results,Tryz.results26,go_sem]) rfl ⟨by rw[HI.out],((Mv.refl _ _).alloc _).alloc _⟩
theorem DI (v:Value) (x:Ins) (xs:List Ins) (base:Nat) (w:World) (hrow:dO w base v xs) (hb:base<=w.heap.size) (hlen:xs.length<=900000) :
 ∃ a' c' w2,(qG Tryz.prog 31 31 v (.slice (some ⟨w.heap.size,0,none⟩) 1 1) (w.alloc (.cells #[.int .u8 x.op,.int .i64 x.a,.int .i64 x.b,.int .i64 x.c,.int .i64 x.d] 57)) /\
  nA Tryz.prog 31 31 v (.slice (some ⟨w.heap.size,0,none⟩) 1 1) (w.alloc (.cells #[.int .u8 x.op,.int .i64 x.a,.int .i64 x.b,.int .i64 x.c,.int .i64 x.d] 57)) = .slice a' (xs.length+1) c'/\appW Tryz.prog 31 31 v (.slice (some ⟨w.heap.size,0,none⟩) 1 1) (w.alloc (.cells #[.int .u8 x.op,.int .i64 x.a,.int .i64 x.b,.int .i64 x.c,.int .i64 x.d] 57))=w2) /\
  dO w2 base (.slice a' (xs.length+1) c') (xs ++ [x])/\Mv (λb=>v.ownBlock=some b) w w2:=by
 have hs:az 5 Ins.cells (w.alloc (.cells #[.int .u8 x.op,.int .i64 x.a,.int .i64 x.b,.int .i64 x.c,.int .i64 x.d] 57)) (.slice (some ⟨w.heap.size,0,none⟩) 1 1) [x]:=az.bO (f:=Ins.cells) (l:=[x]) (λ_=>rfl) (heap_alloc_new w _) (by simp[flat,Ins.cells]) (by simp);obtain⟨a',c',w2,⟨hok,hv,hw⟩,hrow2,bz,hnew⟩:=qA Tryz.Hm (f:=Ins.cells) (λ_=>rfl) v _ xs [x] base _ (bg hrow (((Mv.refl (λ_=>False) w).alloc _)) (λ_ _ e=>e)) hs Ho (by simp;omega) (by simp;omega);exact⟨a',c',w2,⟨hok,hv,hw⟩,hrow2,((Mv.refl _ w).alloc _).trans bz (λx e => .inl e)⟩
theorem j4 {w:World} {X:Nat} {a b c d e:Value} {t:TypeId} (h:w.heap[X]? = some (.cells #[a,b,c,d,e] t (0,0))) (p q r s u:Value) :
 (((((w.setCell ⟨X,0,none⟩ p).setCell ⟨X,1,none⟩ q).setCell ⟨X,2,none⟩ r).setCell ⟨X,3,none⟩ s).setCell ⟨X,4,none⟩ u).heap[X]? = some (.cells #[p,q,r,s,u] t (0,0))/\Mv (λb=>b=X) w (((((w.setCell ⟨X,0,none⟩ p).setCell ⟨X,1,none⟩ q).setCell ⟨X,2,none⟩ r).setCell ⟨X,3,none⟩ s).setCell ⟨X,4,none⟩ u):=by
 constructor
 · have h1:=block_setCell (p:=⟨X,0,none⟩) h rfl p;have h2:=block_setCell (p:=⟨X,1,none⟩) h1 rfl q;have h3:=block_setCell (p:=⟨X,2,none⟩) h2 rfl r;have h4:=block_setCell (p:=⟨X,3,none⟩) h3 rfl s;have h5:=block_setCell (p:=⟨X,4,none⟩) h4 rfl u
   simpa using h5
 · exact(((((Mv.refl (λb=>b=X) w).setCell (p:=⟨X,0,none⟩) (.inl rfl) p).setCell (p:=⟨X,1,none⟩) (.inl rfl) q).setCell (p:=⟨X,2,none⟩) (.inl rfl) r).setCell (p:=⟨X,3,none⟩) (.inl rfl) s).setCell (p:=⟨X,4,none⟩) (.inl rfl) u
structure lL (w0 wr:World) (v:Value) (l:List Ins):Prop where
 g:Grow w0 wr
 row:dO wr w0.heap.size v l
theorem lL.grow {w0 wr w2:World} {v:Value} {l:List Ins} (h:lL w0 wr v l) (hm:Grow wr w2):lL w0 w2 v l:=⟨h.g.trans hm (λ_ e=>e.elim),bg h.row hm (λ_ _ e=>e)⟩
theorem lL.app {w0 wr w2:World} {v v2:Value} {l l2:List Ins} (h:lL w0 wr v l) (h2:dO w2 w0.heap.size v2 l2) (hm:Mv (λb=>v.ownBlock=some b) wr w2):lL w0 w2 v2 l2:=⟨h.g.trans hm (λb e => .inr (h.row.lt b e).1),h2⟩
theorem Yu (l:List Ins) (j:Nat) (h:j<l.length):dC (l.drop j)=dC (l.drop (j+1)) ++ [l[j].inv]:=by
 rw[List.drop_eq_getElem_cons h];simp only[dC,List.map_cons,List.reverse_cons]
theorem BO (l:List Ins):(dC l).length=l.length:=by simp[dC]
theorem Yv (v:Value) (l:List Ins) (w:World) (h:az 5 Ins.cells w v l) (hl:l.length<=300000) (hop:∀ x∈l,0<=x.op/\x.op<=255) :
 Calls Tryz.prog 41 #[v] w λe w'=>∃ v',e = .returned v'/\lL w w' v' (dC l):=by
 obtain⟨va,vc,rfl,Fa,hvl⟩:=h.form;have HR:=ł h;have zA:=ł hop;obtain⟨i0,hi,hz0,hz1,hz2⟩:=info_parts Tryz.Lj;obtain⟨w1,hmk,hown,hgr⟩:=run_makeSlice_owned (P:=Tryz.prog) w w.heap.size 31 57 i0 _ 5 Tryz.underlying31 hi hz0 hz1 .i64 .i64 l.length (by omega) (by rw[hz2];omega) (by simp only[maxLen];omega) (Nat.le_refl _);have pG:=ł (show lL w w1 (.slice (some ⟨w.heap.size,0,none⟩) 0 l.length) []from⟨(Mv.refl _ w).grown hgr (λk e=>by cases e),by simpa[dO,flat]using hown⟩);clear h hop hi hz0 hz1 hz2 hown hgr
 go_enter Tryz.func41,Tryz.ntmps41
 go_wp2_with fail;clear hmk
 go_loopw [3,4] (λcv t wr=>∃ i:Int,t = .int .i64 i /\ -1<=i/\i<l.length/\lL w wr cv (dC (l.drop (i+1).toNat))) (λ_ t _=>(intOf t+1).toNat)
 case atStart=>exact⟨_,rfl,by omega,by omega,by
  have e:l.drop ((l.length:Int) - 1+1).toNat=[]:=List.drop_of_length_le (by omega);rw[e];exact pG.out⟩
 obtain⟨i,rfl,hi1,hi2,hst⟩:=hrel;have HST:=ł hst;clear hst;by_cases h0:0<=i
 · obtain⟨j,rfl⟩:∃ j:Nat,i=j:=⟨i.toNat,by omega⟩;have hj:j<l.length:=by omega
   obtain⟨b,off,cap',e,_,_⟩:=(HR.out.later HST.out.g).at hj;simp only[Value.slice.injEq,true_and]at e;obtain⟨rfl,rfl⟩:=e;obtain⟨⟨c0,c1,c2⟩,c3,c4,hbl⟩:=(HR.out.later HST.out.g).ins hj;have HU:=ł (show dC (l.drop ((j:Int) - 1+1).toNat)=dC (l.drop (j+1)) ++ [l[j].inv]from by
    rw[show((j:Int) - 1+1).toNat=j from by omega];exact Yu l j hj)
   have II:=ł (show lL w wr _ (dC (l.drop (j+1)))from by have:=HST.out;rwa[show((j:Int)+1).toNat=j+1 from by omega]at this);have hcl:(dC (l.drop (j+1))).length<=300000:=by rw[BO,List.length_drop];omega
   have xO:=ł (λw'=>PZ l[j] w' (zA.out _ (List.getElem_mem hj)).1 (zA.out _ (List.getElem_mem hj)).2);clear HST;generalize dC (l.drop (j+1))=cs at *;obtain⟨na,nc,pQ⟩:=gF II.out.row;subst pQ;generalize hx:l[j]=x at *;generalize hr:x.inv=r at *;obtain⟨xo,xa,xb,xc,xd⟩:=x;obtain⟨ro,ra,rb,rc,rd⟩:=r;simp only at c0 c1 c2 c3 c4;clear hx hr;go_wp2_with fail;refine(xO.out _).mono ?_;rintro e w3 ⟨rfl,jL⟩;obtain⟨a',c',w6,⟨hok,hv,hw⟩,hrow2,bz⟩:=DI _ ⟨ro,ra,rb,rc,rd⟩ cs _ w3 (II.out.grow jL).row (II.out.grow jL).g.size (by omega);have El:=ł ((II.out.grow jL).app hrow2 bz);clear hrow2 bz jL c0 c1 c2 c3 c4;simp only at hok hv hw;go_wp2_with fail
   go_roundw
   case rel=>exact⟨_,by go_num,by omega,by omega,by rw[HU.out];exact El.out⟩
   case measure=>(simp[intOf] <;> omega)
 · have HF:=ł (show lL w wr _ (dC l)from by have:=HST.out;rwa[show(i+1).toNat=0 from by omega,List.drop_zero]at this);clear HST;go_wp2_with fail;go_ret;exact⟨_,rfl,HF.out⟩
theorem Ins.KH {i:Ins} {b:Int} (h:bH i.op=true):i.shift b=i.bN (wrap64 (i.target+b)):=by simp[Ins.shift,h]
theorem Ins.KI {i:Ins} {b:Int} (h:bH i.op=false):i.shift b=i:=by simp[Ins.shift,h]
theorem tq (l:List Ins) (b:Int):(bR l b).length=l.length:=by simp[bR]
theorem KJ (v:Value) (l:List Ins) (by':Int) (w:World) (h:az 5 Ins.cells w v l) (hl:l.length<=300000) :
 Calls Tryz.prog 47 #[v,.int .i64 by'] w λe w'=>∃ v',e = .returned v'/\lL w w' v' (bR l by'):=by
 obtain⟨va,vc,rfl,Fa,hvl⟩:=h.form;have HR:=ł h;obtain⟨i0,hi,hz0,hz1,hz2⟩:=info_parts Tryz.Lj;obtain⟨w1,hmk,hown,hgr⟩:=run_makeSlice_owned (P:=Tryz.prog) w w.heap.size 31 57 i0 _ 5 Tryz.underlying31 hi hz0 hz1 .i64 .i64 l.length (by omega) (by rw[hz2];omega) (by simp only[maxLen];omega) (Nat.le_refl _);have pG:=ł (show lL w w1 (.slice (some ⟨w.heap.size,0,none⟩) 0 l.length) []from⟨(Mv.refl _ w).grown hgr (λk e=>by cases e),by simpa[dO,flat]using hown⟩);clear h hi hz0 hz1 hz2 hown hgr
 go_enter Tryz.func47,Tryz.ntmps47
 go_wp2_with fail;clear hmk
 go_loopw [5,15] (λcv t wr=>∃ k:Nat,t = .int .i64 k/\k<=l.length/\lL w wr cv (bR (l.take k) by')) (λ_ t _=>l.length - (intOf t).toNat)
 case atStart=>exact⟨0,rfl,Nat.zero_le _,pG.out⟩
 obtain⟨k,rfl,hk,hst⟩:=hrel;have hnl:(bR (l.take k) by').length=k:=by rw[tq];simp;omega
 have mG:=ł (λhlt:k<l.length=>show bR (l.take (k+1)) by'=bR (l.take k) by' ++ [l[k].shift by']from by
  rw[List.take_succ_eq_append_getElem hlt];simp only[bR,List.map_append,List.map_cons,List.map_nil])
 have iI:=ł (show l.take l.length=l from List.take_length);have uE:=ł (λ(e:k=l.length)=>show bR (l.take k) by'=bR l by' from by rw[e,List.take_length]);generalize hcs:bR (l.take k) by'=cs at *;clear hcs;obtain⟨na,nc,pQ⟩:=gF hst.row;subst pQ;have HST:=ł hst;have xm:=hst.g.size;have hnb:cs.length<=300000:=by omega
 clear hst hnl;by_cases hlt:k<l.length
 · obtain⟨b,off,cap',e,_,_⟩:=(HR.out.later HST.out.g).at hlt;simp only[Value.slice.injEq,true_and]at e;obtain⟨rfl,rfl⟩:=e;obtain⟨⟨c0,c1,c2⟩,c3,c4,hbl⟩:=(HR.out.later HST.out.g).ins hlt;have qO:=ł (mG.out hlt);have Jo:=ł (λw'=>Gm l[k] w');have dQ:=ł (λt w'=>F9 l[k] t w');have Ba:=ł (λ(h:bH l[k].op=true)=>Ins.KH (b:=by') h);have Jp:=ł (λ(h:bH l[k].op=false)=>Ins.KI (b:=by') h);generalize hx:l[k]=x at *;obtain⟨xo,xa,xb,xc,xd⟩:=x;simp only at c0 c1 c2 c3 c4;clear hx mG;have j5:=ł (λw'=>KG xo w');go_wp2_with fail;refine(j5.out _).mono ?_;rintro e w' ⟨rfl,rfl⟩;clear j5 c0 c1 c2 c3 c4;generalize hmo:bH xo=mo at *;cases mo with
   |false =>
    have pR:=ł (Jp.out rfl);obtain⟨a',c',w2,⟨hok,hv,hw⟩,hrow2,bz⟩:=DI _ ⟨xo,xa,xb,xc,xd⟩ _ _ _ (HST.out.grow ((Mv.refl _ _).alloc (.cells #[.int .u8 xo,.int .i64 xa,.int .i64 xb,.int .i64 xc,.int .i64 xd] 57))).row (by simp;omega) (by omega);rw[World.size_alloc]at hok hv hw;have El:=ł ((HST.out.grow ((Mv.refl _ _).alloc (.cells #[.int .u8 xo,.int .i64 xa,.int .i64 xb,.int .i64 xc,.int .i64 xd] 57))).app hrow2 bz);clear hrow2 bz hmo;go_wp2_with fail
    go_roundw
    case rel=>exact⟨k+1,by go_num,by omega,by rw[qO.out,pR.out];exact El.out⟩
    case measure=>(simp[intOf] <;> omega)
   |true =>
    have pR:=ł (Ba.out rfl);clear hmo;go_wp2_with fail;refine(Jo.out _).mono ?_;rintro e w3 ⟨rfl,jL⟩;have Jn:w3.heap[wr.heap.size]? = some (.cells #[.int .u8 xo,.int .i64 xa,.int .i64 xb,.int .i64 xc,.int .i64 xd] 57 (0,0)):=by
     rw[jL.block _ (by simp) (λh=>h)];exact heap_alloc_new wr _
    have hs3:=jL.size;simp only[World.size_alloc]at hs3;obtain⟨⟨d0,d1,d2⟩,d3,d4⟩:=bJ Jn;have NI:=ł Jn;have xK:=ł jL;clear Jn jL;generalize NJ:Ins.target ⟨xo,xa,xb,xc,xd⟩=tg at *;clear NJ;generalize Ins.Ec ⟨xo,xa,xb,xc,xd⟩=am at *;go_wp2_with fail;refine(dQ.out _ _).mono ?_;rintro e w4 ⟨rfl,Jq⟩;have Jr:w4.heap[wr.heap.size]? = some (.cells #[.int .u8 xo,.int .i64 xa,.int .i64 xb,.int .i64 xc,.int .i64 xd] 57 (0,0)):=by
     rw[Jq.block _ (by omega) (λh=>h)];exact NI.out
    have hs4:=Jq.size;generalize hr:Ins.bN ⟨xo,xa,xb,xc,xd⟩ (wrap64 (tg+by'))=r at *;obtain⟨ro,ra,rb,rc,rd⟩:=r;obtain⟨⟨f0,f1,f2⟩,f3,f4⟩:=bJ Jr;have z0:∀ i,w4.frozen? ⟨wr.heap.size,i,none⟩=false:=λi=>by simp[World.frozen?,Jr]
    have HX4:=ł Jr;have HM4:=ł Jq;clear Jr Jq d0 d1 d2 d3 d4 hr;go_upto_region 8 with(fail);obtain⟨Fb,mW⟩:=j4 HX4.out (.int .u8 ro) (.int .i64 ra) (.int .i64 rb) (.int .i64 rc) (.int .i64 rd);generalize ((((w4.setCell ⟨wr.heap.size,0,none⟩ (.int .u8 ro)).setCell ⟨wr.heap.size,1,none⟩ (.int .i64 ra)).setCell ⟨wr.heap.size,2,none⟩ (.int .i64 rb)).setCell ⟨wr.heap.size,3,none⟩ (.int .i64 rc)).setCell ⟨wr.heap.size,4,none⟩ (.int .i64 rd)=w5 at *;have vR:lL w w5 (.slice na cs.length nc) cs:=by
     have h4:=((HST.out.grow ((Mv.refl _ _).alloc (.cells #[.int .u8 xo,.int .i64 xa,.int .i64 xb,.int .i64 xc,.int .i64 xd] 57))).grow xK.out).grow HM4.out;refine⟨h4.g.trans mW (λb e => .inr (by omega)),bg h4.row mW (λg hg e => ?_)⟩;have:=(HST.out.row.lt g hg).2;omega
    obtain⟨⟨g0,g1,g2⟩,g3,g4⟩:=bJ Fb;have hs5:=mW.size;obtain⟨a',c',w6,⟨hok,hv,hw⟩,hrow2,bz⟩:=DI _ ⟨ro,ra,rb,rc,rd⟩ _ _ _ vR.row (by have:=vR.g.size;omega) (by omega);have El:=ł (vR.app hrow2 bz);clear hrow2 bz vR Fb mW f0 f1 f2 f3 f4 z0;go_wp2_with fail
    go_roundw
    case rel=>exact⟨k+1,by go_num,by omega,by rw[qO.out,pR.out];exact El.out⟩
    case measure=>(simp[intOf] <;> omega)
 · have HF:=ł (uE.out (by omega));go_wp2_with fail;go_ret;exact⟨_,rfl,by rw[← HF.out];exact HST.out⟩
end Go.Proofs.YtnobahchcongnaaGreatDoor
