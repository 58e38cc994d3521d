import Derived.Test.YtnobahchcongnaaGreatDoorQ15
set_option linter.unusedSimpArgs false
set_option linter.unusedVariables false
set_option maxRecDepth 100000
set_option maxHeartbeats 25600000
namespace Go.Proofs.YtnobahchcongnaaGreatDoor
open Go.RowKit Go.Instr
def oP (refs:List bD) (k:Nat):List (Int × Value):=(refs.take k).foldl (fun m r=>iN r.at' (.bool true) m) []
def nY (refs:List bD) (i:Int):Bool:=(qQ (oP refs refs.length) i).isSome
theorem Md (refs:List bD) (k:Nat) (h:k<refs.length):oP refs (k+1)=iN refs[k].at' (.bool true) (oP refs k):=by
 unfold oP;rw [List.take_succ_eq_append_getElem h,List.foldl_append];rfl
theorem Ms (refs:List bD):∀ (k:Nat),k≤refs.length→∀ p∈oP refs k,p.2 = .bool true:=by
 intro k
 induction k with
 | zero=>intro _ p hp;simp [oP] at hp
 | succ k ih=>intro hk p hp;rw [Md refs k (by omega)] at hp;exact Ic _ _ (ih (by omega)) p hp
def xZ (code:List Ins) (refs:List bD) (next:Nat):Int × Int:=if next<refs.length then ((code.length:Int),6) else (-1,0)
def qD (code:List Ins) (refs:List bD):Nat→Nat→Nat→Int × Int
 | 0,_,next=>xZ code refs next
 | f+1,i,next=>match code[i]? with
  | none=>xZ code refs next
  | some x =>
   if x.iJ=false∨x.op=32∨x.op=33∨x.op=34 then ((i:Int),3)
   else if eG x.op=true∧vD code i=false then ((i:Int),23)
   else if x.op≠30∧x.op≠31 then (if nY refs i then ((i:Int),6) else qD code refs f (i+1) next)
   else if x.a≠0∨next=refs.length∨(refs[next]?.map bD.at')≠some (i:Int) then ((i:Int),6) else qD code refs f (i+1) (next+1)
def kZ (code:List Ins) (refs:List bD):Int × Int:=qD code refs code.length 0 0
theorem Yp (op:Int) (h:eG op=true):op≠30∧op≠31:=by
 constructor
 · rintro rfl;revert h;decide
 · rintro rfl;revert h;decide
theorem qM.keep {O:Nat→Prop} {w w':World} (h:qM w) (hm:Mv O w w') (hO:∀ b,O b→w.heap.size≤b):qM w':=h.later (hm.mono fun x hx => .inr (hO x hx))
theorem Tryz.Jf:KeyLaw Tryz.prog 3 (Value.int .i64) (.int .i64):=Yh Tryz.underlying3
theorem Vz (cv rv:Value) (code:List Ins) (refs:List bD) (w:World) (ht:qM w) (hc:ax 5 Ins.cells w cv code) (hr:ax 2 bD.cells w rv refs) (hop:∀ x∈code,0≤x.op∧x.op≤255) :
 Calls Tryz.prog 11 #[.agg #[cv,rv]] w fun e w'=>e = .returned (.tuple #[.int .i64 (kZ code refs).1,.int .i64 (kZ code refs).2])∧Grow w w':=by
 obtain ⟨ca,pF,rfl,abS,abT⟩:=hc.form;obtain ⟨ra,qV,rfl,abU,hrlen⟩:=hr.form;have hmm := @run_makeMap Tryz.prog;have HT:=ł ht;have HC:=ł hc;have HR:=ł hr;have xJ:=ł hop;have Pz:MapAt (Value.int .i64) ((w.alloc (.cells #[.slice ca code.length pF,.slice ra refs.length qV] 34)).alloc (.map #[] 0)) (w.heap.size+1) []:=by
  have:=MapAt.new (Value.int .i64) (w.alloc (.cells #[.slice ca code.length pF,.slice ra refs.length qV] 34))
  simpa using this
 have PG:((w.alloc (.cells #[.slice ca code.length pF,.slice ra refs.length qV] 34)).alloc (.map #[] 0)).heap[w.heap.size]? = some (.cells #[.slice ca code.length pF,.slice ra refs.length qV] 34 (0,0)):=by
  rw [Below.heap_alloc _ _ _ (by simp)];exact heap_alloc_new w _
 have hgw:Mv (fun b=>b=w.heap.size+1) w ((w.alloc (.cells #[.slice ca code.length pF,.slice ra refs.length qV] 34)).alloc (.map #[] 0)):=((Mv.refl _ _).alloc _).alloc _;have Zr:=ł Pz;have Fz:=ł PG;have aQ:=ł hgw;clear ht hc hr hop Pz PG hgw
 go_enter Tryz.func11,Tryz.ntmps11
 go_wp2_with fail;have hsz1:w.heap.size+1<((w.alloc (.cells #[.slice ca code.length pF,.slice ra refs.length qV] 34)).alloc (.map #[] 0)).heap.size:=by simp
 generalize (w.alloc (.cells #[.slice ca code.length pF,.slice ra refs.length qV] 34)).alloc (.map #[] 0)=w1 at *
 go_loopw [14] (fun t wr=>∃ k:Nat,t = .int .i64 k∧k≤refs.length∧Mv (fun b=>b=w.heap.size+1) w1 wr∧MapAt (Value.int .i64) wr (w.heap.size+1) (oP refs k)) (fun t _=>refs.length - (intOf t).toNat)
 case atStart=>exact ⟨0,rfl,Nat.zero_le _,Mv.refl _ _,Zr.out⟩
 obtain ⟨k,rfl,hk,hg,hmp⟩:=hrel;have yC:=aQ.out.trans hg (fun x e => .inl e);have hgr:Grow w wr:=yC.mono (fun x e => .inr (by omega));have Zt:=hg.size;have uw:wr.heap[w.heap.size]? = some (.cells #[.slice ca code.length pF,.slice ra refs.length qV] 34 (0,0)):=by
  rw [hg.block _ (by omega) (by omega)];exact Fz.out
 have HG:=ł hg;have bV:=ł hgr;have nH:=ł hmp;have di:=ł uw;by_cases hlt:k<refs.length
 · obtain ⟨b,off,cap',e,_,hcc⟩:=(HR.out.later hgr).at hlt;simp only [Value.slice.injEq,true_and] at e;obtain ⟨rfl,rfl⟩:=e;have c0:=hcc 0 _ rfl;have c1:=hcc 1 _ rfl;simp only [Nat.add_zero] at c0;have hbl:b<wr.heap.size:=World.block_lt_of_cell? wr _ c0;have HS:=ł (Md refs k hlt);generalize hx:refs[k]=x at *;obtain ⟨xa,xs⟩:=x;simp only at c0 c1;obtain ⟨w2,hup,BO,bE⟩:=run_set Tryz.Jf Tryz.underlying79 xa (.bool true) (hmp.keep (w':=wr.alloc (.cells #[.int .i64 xa,.string xs] 78)) (Below.heap_alloc _ _ _ hmp.lt));have Ak:=ł BO;have BP:=ł bE;clear hcc hx hmp BO bE hg hgr yC uw;go_wp2_with fail
   go_roundw
   case rel=>exact ⟨k+1,by go_num,by omega,(HG.out.alloc _).trans BP.out (fun x e => .inl e),by rw [HS.out];exact Ak.out⟩
   case measure=>simp [intOf];omega
 · obtain rfl:k=refs.length:=by omega
   have p0:wr.cell? ⟨w.heap.size,0,none⟩=some (.slice ca code.length pF):=by simp [World.cell?,uw]
   have aci:w.heap.size<wr.heap.size:=by omega
   clear hmp hg hgr yC uw;go_wp2_with fail;clear p0;obtain ⟨wo,rfl⟩:∃ wo:World,wo=wr:=⟨_,rfl⟩
   go_loopw [7,25] (fun nx t wr=>∃ i next:Nat,nx = .int .i64 next∧t = .int .i64 i∧i≤code.length∧next≤refs.length∧Mv (fun b=>b=w.heap.size+1) w1 wr∧MapAt (Value.int .i64) wr (w.heap.size+1) (oP refs refs.length)∧kZ code refs=qD code refs (code.length - i) i next) (fun _ t _=>code.length - (intOf t).toNat)
   case atStart=>exact ⟨0,0,rfl,rfl,Nat.zero_le _,Nat.zero_le _,HG.out,nH.out,rfl⟩
   obtain ⟨i,next,rfl,rfl,hi,hnx,hg,hmp,hpc⟩:=hrel;have yC:=aQ.out.trans hg (fun x e => .inl e);have hgr:Grow w wr:=yC.mono (fun x e => .inr (by omega));have abV:=hg.size;have uw:wr.heap[w.heap.size]? = some (.cells #[.slice ca code.length pF,.slice ra refs.length qV] 34 (0,0)):=by
    rw [hg.block _ (by omega) (by omega)];exact Fz.out
   have eQ:=ł hpc;clear hpc;by_cases hlt:i<code.length
   · obtain ⟨b,off,cap',e,_,_⟩:=(HC.out.later hgr).at hlt;simp only [Value.slice.injEq,true_and] at e;obtain ⟨rfl,rfl⟩:=e;obtain ⟨⟨c0,c1,c2⟩,c3,c4,hbl⟩:=(HC.out.later hgr).ins hlt;have jo:=xJ.out code[i] (List.getElem_mem hlt);have HST:=ł (show qD code refs (code.length - i) i next=(if code[i].iJ=false∨code[i].op=32∨code[i].op=33∨code[i].op=34 then ((i:Int),3)
      else if eG code[i].op=true∧vD code i=false then ((i:Int),23)
      else if code[i].op≠30∧code[i].op≠31 then (if nY refs i then ((i:Int),6) else qD code refs (code.length - (i+1)) (i+1) next)
      else if code[i].a≠0∨next=refs.length∨(refs[next]?.map bD.at')≠some (i:Int) then ((i:Int),6) else qD code refs (code.length - (i+1)) (i+1) (next+1)) from by
       rw [show code.length - i=(code.length - (i+1))+1 by omega];simp only [qD,List.getElem?_eq_getElem hlt])
     have HV:=ł (fun w ht=>Wn code[i] w ht jo.1 jo.2);have CV:=ł (HT.out.later (hgr.alloc (.cells #[.int .u8 code[i].op,.int .i64 code[i].a,.int .i64 code[i].b,.int .i64 code[i].c,.int .i64 code[i].d] 57)));generalize hx:code[i]=x at *;obtain ⟨xo,xa,xb,xc,xd⟩:=x;simp only at c0 c1 c2 c3 c4 jo;have KA:=ł hg;have FB:=ł hgr;have Zu:=ł hmp;have Y7:w.heap.size<wr.heap.size:=by omega
     have Zv:=ł uw;clear hx hg hgr yC hmp uw;go_wp2_with fail;refine (HV.out _ CV.out).mono ?_;rintro e w2 ⟨rfl,hm2⟩;obtain ⟨hc2,hf2⟩:=Jn hm2;have hs2:=hm2.size;simp only [World.size_alloc] at hs2
     have hg2:Mv (fun b=>b=w.heap.size+1) w1 w2:=(KA.out.alloc _).trans hm2 (fun _ e=>e.elim);have hb2:w2.heap[w.heap.size]? = some (.cells #[.slice (some ⟨b,off,none⟩) code.length pF,.slice ra refs.length qV] 34 (0,0)):=by
      rw [hm2.block _ (by simp;omega) (fun h=>h),Below.heap_alloc _ _ _ Y7];exact Zv.out
     have p0:w2.cell? ⟨w.heap.size,0,none⟩=some (.slice (some ⟨b,off,none⟩) code.length pF):=by simp [World.cell?,hb2]
     have p1:w2.cell? ⟨w.heap.size,1,none⟩=some (.slice ra refs.length qV):=by simp [World.cell?,hb2]
     have x0:w2.cell? ⟨wr.heap.size,0,none⟩=some (.int .u8 xo):=by rw [hc2 _ _ (by simp),Oe];rfl
     have x1:w2.cell? ⟨wr.heap.size,1,none⟩=some (.int .i64 xa):=by rw [hc2 _ _ (by simp),Oe];rfl
     have BQ:Grow w w2:=Mv.trans (FB.out.alloc _) hm2 (fun _ e=>e.elim);have BO:MapAt (Value.int .i64) w2 (w.heap.size+1) (oP refs refs.length):=Zu.out.keep (by rw [hm2.block _ (by simp;omega) (fun h=>h),Below.heap_alloc _ _ _ (by omega)]);have HG2:=ł hg2;have qW:=ł BQ;have Ak:=ł BO;have hX2:wr.heap.size<w2.heap.size:=by omega
     generalize Ins.iJ ⟨xo,xa,xb,xc,xd⟩=vq at *;clear hm2 hc2 hf2 hg2 hb2 BQ BO c0 c1 c2 c3 c4;by_cases hbad:vq=false∨xo=32∨xo=33∨xo=34
     · have aM:=ł (show kZ code refs=((i:Int),3) from by rw [eQ.out,HST.out,if_pos hbad]);cases vq
       · go_wp2_with fail
         go_ret2
         exact ⟨by rw [aM.out];rfl,qW.out⟩
       · rcases hbad with h | h | h | h
         · cases h
         all_goals
          subst h;go_wp2_with fail
          go_ret2
          exact ⟨by rw [aM.out];rfl,qW.out⟩
     · have HB0:=ł hbad;cases vq
       · exact (hbad (.inl rfl)).elim
       have n32:(xo == 32)=false:=by simpa using fun e=>hbad (.inr (.inl e))
       have n33:(xo == 33)=false:=by simpa using fun e=>hbad (.inr (.inr (.inl e)))
       have n34:(xo == 34)=false:=by simpa using fun e=>hbad (.inr (.inr (.inr e)))
       clear hbad;go_wp2_with fail;refine (Nn xo _).mono ?_;rintro e w' ⟨rfl,rfl⟩;have Gd:=ł (Yp xo);generalize _3:eG xo=mq at *;cases mq
       · have CW:=ł (show ¬ (false=true∧vD code i=false) from by simp);by_cases hcall:xo≠30∧xo≠31
         · have AB:=ł hcall;have n30:(xo != 30)=true:=by simpa using hcall.1
           have n31:(xo != 31)=true:=by simpa using hcall.2
           clear hcall Gd;have hl:=run_get Tryz.Jf Tryz.underlying79 (i:Int) (.bool false) Tryz.zV Ak.out;have hl2:(lookup 79 (.map (some (w.heap.size+1))) (.int .i64 (i:Int)) false).run Tryz.prog w2 = .ok (.bool (nY refs i)) w2:=by
            rw [hl];exact congrArg (fun v=>Result.ok v w2) (Ej (i:Int) (oP refs refs.length) 0 (Ms refs refs.length (Nat.le_refl _)))
           have _4:=ł (show nY refs i=nY refs i from rfl);clear hl;generalize hq:nY refs (i:Int)=lq at *;cases lq
           · go_wp2_with fail
             go_roundw
             case rel=>exact ⟨i+1,next,rfl,by go_num,by omega,hnx,HG2.out,Ak.out,by rw [eQ.out,HST.out,if_neg HB0.out,if_neg (by simp),if_pos AB.out,if_neg (by simp)]⟩
             case measure=>simp [intOf];omega
           · have aM:=ł (show kZ code refs=((i:Int),6) from by rw [eQ.out,HST.out,if_neg HB0.out,if_neg (by simp),if_pos AB.out,if_pos (by simp)]);go_wp2_with fail
             go_ret2
             exact ⟨by rw [aM.out];rfl,qW.out⟩
         · have AB:=ł hcall;have jT:=ł (show kZ code refs=(if xa≠0∨next=refs.length∨(refs[next]?.map bD.at')≠some (i:Int) then ((i:Int),6) else qD code refs (code.length - (i+1)) (i+1) (next+1)) from by
            rw [eQ.out,HST.out,if_neg HB0.out,if_neg (by simp),if_neg hcall])
           have FC:xo=30∨xo=31:=by omega
           clear hcall Gd _3 n32 n33 n34;by_cases ha:xa=0
           · subst ha;by_cases hne:next=refs.length
             · have aM:=ł (show kZ code refs=((i:Int),6) from by rw [jT.out,if_pos (.inr (.inl hne))]);have hnb:((next:Int) == (refs.length:Int))=true:=by simp [hne]
               have Gf:=ł hne;clear hne;rcases FC with rfl | rfl
               all_goals
                go_wp2_with fail
                go_ret2
                exact ⟨by rw [aM.out];rfl,qW.out⟩
             · have hnl:next<refs.length:=by omega
               have hnb:((next:Int) == (refs.length:Int))=false:=by simpa using fun e=>hne (by omega)
               obtain ⟨rb,roff,abW,e,_,hcc⟩:=(HR.out.later qW.out).at hnl;simp only [Value.slice.injEq,true_and] at e;obtain ⟨rfl,rfl⟩:=e;have r0:=hcc 0 _ rfl;simp only [Nat.add_zero] at r0;have acj:rb<w2.heap.size:=World.block_lt_of_cell? w2 _ r0;have hgt:(refs[next]?.map bD.at')=some refs[next].at':=by rw [List.getElem?_eq_getElem hnl];rfl
               rw [hgt] at jT;generalize refs[next].at'=ra at *;clear hcc hgt hne;by_cases hra:ra=i
               · have hrb:(ra != (i:Int))=false:=by simp [hra]
                 have aM:=ł (show kZ code refs=qD code refs (code.length - (i+1)) (i+1) (next+1) from by rw [jT.out,if_neg (by rw [hra];simp;omega)]);clear hra;rcases FC with rfl | rfl
                 all_goals
                  go_wp2_with fail
                  go_roundw
                  case rel=>exact ⟨i+1,next+1,by go_num,by go_num,by omega,by omega,HG2.out,Ak.out,aM.out⟩
                  case measure=>simp [intOf];omega
               · have hrb:(ra != (i:Int))=true:=by simpa using hra
                 have aM:=ł (show kZ code refs=((i:Int),6) from by rw [jT.out,if_pos (.inr (.inr (by simpa using hra)))]);clear hra;rcases FC with rfl | rfl
                 all_goals
                  go_wp2_with fail
                  go_ret2
                  exact ⟨by rw [aM.out];rfl,qW.out⟩
           · have hab:(xa != 0)=true:=by simpa using ha
             have aM:=ł (show kZ code refs=((i:Int),6) from by rw [jT.out,if_pos (.inl ha)]);clear ha;rcases FC with rfl | rfl
             all_goals
              go_wp2_with fail
              go_ret2
              exact ⟨by rw [aM.out];rfl,qW.out⟩
       · have Y8:=ł (UM _ code i w2 (HC.out.later qW.out) hlt);obtain ⟨KC,KD⟩:=Gd.out rfl;have n30:(xo != 30)=true:=by simpa using KC
         have n31:(xo != 31)=true:=by simpa using KD
         have AB:=ł (show xo≠30∧xo≠31 from ⟨KC,KD⟩);clear KC KD Gd;go_wp2_with fail;refine Y8.out.mono ?_;rintro e w3 ⟨rfl,jq⟩;have hg3:=HG2.out.trans jq (fun _ e=>e.elim);have Qf:=Mv.trans qW.out jq (fun _ e=>e.elim);have hs3:=jq.size;have Qg:MapAt (Value.int .i64) w3 (w.heap.size+1) (oP refs refs.length):=Ak.out.keep (jq.block _ (by omega) (fun h=>h));have y0:w3.cell? ⟨wr.heap.size,0,none⟩=some (.int .u8 xo):=by rw [(Jn jq).1 _ _ hX2];exact x0
         have aG:=ł hg3;have FD:=ł Qf;have Qh:=ł Qg;have Gg:wr.heap.size<w3.heap.size:=by omega
         clear jq hg3 Qf Qg x0 x1 p0 p1;generalize hpq:vD code i=pq at *;cases pq
         · have aM:=ł (show kZ code refs=((i:Int),23) from by rw [eQ.out,HST.out,if_neg HB0.out,if_pos (by simp)]);go_wp2_with fail
           go_ret2
           exact ⟨by rw [aM.out];rfl,FD.out⟩
         · have CW:=ł (show ¬ (true=true∧true=false) from by simp);have hl:=run_get Tryz.Jf Tryz.underlying79 (i:Int) (.bool false) Tryz.zV Qh.out;have hl2:(lookup 79 (.map (some (w.heap.size+1))) (.int .i64 (i:Int)) false).run Tryz.prog w3 = .ok (.bool (nY refs i)) w3:=by
            rw [hl];exact congrArg (fun v=>Result.ok v w3) (Ej (i:Int) (oP refs refs.length) 0 (Ms refs refs.length (Nat.le_refl _)))
           have _4:=ł (show nY refs i=nY refs i from rfl);clear hl;generalize hq:nY refs (i:Int)=lq at *;cases lq
           · go_wp2_with fail
             go_roundw
             case rel=>exact ⟨i+1,next,rfl,by go_num,by omega,hnx,aG.out,Qh.out,by rw [eQ.out,HST.out,if_neg HB0.out,if_neg (by simp),if_pos AB.out,if_neg (by simp)]⟩
             case measure=>simp [intOf];omega
           · have aM:=ł (show kZ code refs=((i:Int),6) from by rw [eQ.out,HST.out,if_neg HB0.out,if_neg (by simp),if_pos AB.out,if_pos (by simp)]);go_wp2_with fail
             go_ret2
             exact ⟨by rw [aM.out];rfl,FD.out⟩
   · obtain rfl:i=code.length:=by omega
     have p0:wr.cell? ⟨w.heap.size,0,none⟩=some (.slice ca code.length pF):=by simp [World.cell?,uw]
     have p1:wr.cell? ⟨w.heap.size,1,none⟩=some (.slice ra refs.length qV):=by simp [World.cell?,uw]
     have FB:=ł hgr;have aM:=ł (show kZ code refs=xZ code refs next from by rw [eQ.out,Nat.sub_self];rfl);clear hmp hg hgr yC uw;by_cases hnl:next<refs.length
     · have lL:=ł (show kZ code refs=((code.length:Int),6) from by rw [aM.out,xZ,if_pos hnl]);go_wp2_with fail
       go_ret2
       exact ⟨by rw [lL.out];rfl,FB.out⟩
     · have lL:=ł (show kZ code refs=(-1,0) from by rw [aM.out,xZ,if_neg hnl]);go_wp2_with fail
       go_ret2
       exact ⟨by rw [lL.out];rfl,FB.out⟩
structure aC where
 code:List Ins
 refs:List bD
def cO:aC:=⟨[],[]⟩
def Ag (op:Int):Int :=
 if op=1 then 2 else if op=2 then 1 else if op=4 then 5 else if op=5 then 4 else if op=12 then 13 else if op=13 then 12
 else if op=17 then 18 else if op=18 then 17 else if op=19 then 20 else if op=20 then 19
 else if op=22∨op=23∨op=24 then op+3 else if op=25∨op=26∨op=27 then op - 3
 else if op=28 then 29 else if op=29 then 28 else if op=32 then 33 else if op=33 then 32 else op
def Ins.inv (i:Ins):Ins := { i with op:=Ag i.op }
def gJ (l:List Ins):List Ins:=(l.map Ins.inv).reverse
def Ins.shift (i:Ins) (by':Int):Ins:=if eG i.op then i.dE (wrap64 (i.target+by')) else i
def bU (l:List Ins) (by':Int):List Ins:=l.map fun i=>i.shift by'
def bD.shift (r:bD) (by':Int):bD:=⟨wrap64 (r.at'+by'),r.name⟩
def eZ (p q:aC):aC:=⟨p.code ++ bU q.code p.code.length,p.refs ++ q.refs.map fun r=>r.shift p.code.length⟩
def aK (l:List aC):aC:=l.foldl eZ cO
def ah (l:List Ins):aC:=⟨l,[]⟩
def fU (p:aC) (i j:Nat):aC :=
 match p.code[i]?,p.code[j]? with
 | some x,some y=>⟨(p.code.set i (x.dE j)).set j (y.dE i),p.refs⟩
 | _,_=>p
def dC (f:az) (e:Tree):List Ins:=gX f e 0
def aH (f:az) (e:Tree) (use:aC):aC :=
 ah (dC f e ++ [⟨13,4,0,0,0⟩] ++ bU use.code (dC f e).length.succ ++ [⟨12,4,0,0,0⟩] ++ gJ (dC f e))
def ak (f:az) (s:ByteArray) (k:Int):Int:=((au f s k).getD noSlot).at'
def eF (f:az) (p:Tree) (r i:Int):Ins:=⟨11,r,i,((au f p.name 2).getD noSlot).at',((au f p.name 2).getD noSlot).len⟩
def dG:Tree := .mk 0 0 ⟨#[]⟩ []
def Tree.kid (t:Tree) (i:Nat):Tree:=t.kids.getD i dG
def yg (f:az) (p:Tree) (list:Ins→aC):aC :=
 if p.kind=2 then list ⟨10,5,ak f p.name 1,0,0⟩ else aH f (p.kid 0) (list (eF f p 5 4))
def moveC (f:az) (p:Tree) (i:Ins):aC:=yg f p fun cell=>ah [cell,i,cell]
def kT:aC:=ah [⟨7,4,5,0,0⟩]
def lS (f:az) (p e:Tree) (op:Int):aC :=
 if p.kind=2 then aH f e (ah [⟨10,5,ak f p.name 1,0,0⟩,⟨op,5,4,0,0⟩,⟨10,5,ak f p.name 1,0,0⟩])
 else aH f (p.kid 0) (aK [kT,aH f e (ah [eF f p 6 5,⟨op,6,4,0,0⟩,eF f p 6 5]),kT])
def eD (f:az) (p q:Tree):aC :=
 if p.name≠q.name then ah [eF f p 6 5,eF f q 6 4,eF f p 6 5]
 else fU (ah [eF f p 6 5,eF f p 6 5,⟨9,7,5,4,16⟩,⟨24,7,0,0,0⟩,eF f p 6 5,eF f q 6 4,eF f p 6 5,⟨27,7,0,0,0⟩,⟨9,7,5,4,16⟩,eF f p 6 5,eF f p 6 5]) 3 7
def vo (f:az) (p q:Tree):aC :=
 if q.kind=2∧p.name=q.name then cO
 else yg f q fun cell=>ah [⟨10,5,ak f p.name 1,0,0⟩,cell,⟨10,5,ak f p.name 1,0,0⟩]
def jO (f:az) (p q:Tree):aC :=
 if p.kind=3∧q.kind=3 then aH f (p.kid 0) (aK [kT,aH f (q.kid 0) (eD f p q),kT])
 else if p.kind=3 then vo f q p else vo f p q
def ed (f:az) (e:Tree):aC:=aH f e (ah [⟨9,0,4,5,17⟩])
def kU:Ins:=⟨21,0,15,0,0⟩
def jE:Ins:=⟨6,0,1,0,0⟩
def qF (f:az) (e1:Tree) (s t:aC) (e2:Tree):aC :=
 let t1:=ed f e1
 let p:=aK [ah [kU],t1,ah [⟨23,0,0,0,0⟩,jE],s,ah [jE,⟨22,0,0,0,0⟩,⟨25,0,0,0,0⟩],t,ah [⟨27,0,0,0,0⟩],ed f e2,ah [kU]]
 let first:=1+t1.code.length
 let second:=first+3+s.code.length
 fU (fU p first (second+1)) second (second+2+t.code.length)
def qN (f:az) (e1:Tree) (s t:aC) (e2:Tree):aC :=
 let t1:=ed f e1
 let t2:=ed f e2
 let p:=aK [ah [jE,⟨26,0,0,0,0⟩],t1,ah [kU],s,ah [kU],t2,ah [⟨24,0,0,0,0⟩],t,ah [⟨22,0,0,0,0⟩,⟨25,0,0,0,0⟩,jE]]
 let leave:=4+t1.code.length+s.code.length+t2.code.length
 let rep:=leave+1+t.code.length
 fU (fU p 1 rep) leave (rep+1)
def qH (f:az) (name:ByteArray) (e1:Tree) (s:aC) (e2:Tree):aC :=
 aK [aH f e1 (ah [⟨10,5,ak f name 1,0,0⟩,⟨21,5,16,0,0⟩,⟨3,5,4,0,0⟩,⟨10,5,ak f name 1,0,0⟩]),s,aH f e2 (ah [⟨10,5,ak f name 1,0,0⟩,⟨3,5,4,0,0⟩,⟨21,5,16,0,0⟩,⟨10,5,ak f name 1,0,0⟩])]
def EZ (f:az) (name:ByteArray):aC:=ah [⟨15,5,ak f name 3,0,0⟩,⟨21,5,16,0,0⟩,⟨15,5,ak f name 3,0,0⟩]
def qy (f:az) (name:ByteArray) (s:aC):aC:=aK [EZ f name,s,EZ f name]
def kR (f:az) (v:bq):az :=
 if v.kind=3 then ⟨f.slots ++ [⟨v.name,v.kind,v.len,f.stacks+1⟩],f.cells,f.stacks+1⟩
 else if v.kind=2 then ⟨f.slots ++ [⟨v.name,v.kind,v.len,f.cells⟩],f.cells+v.len,f.stacks⟩
 else ⟨f.slots ++ [⟨v.name,v.kind,v.len,f.cells⟩],f.cells+1,f.stacks⟩
def gU:az:=⟨[],0,0⟩
def frameC (l:List bq):az:=l.foldl kR gU
def ow (f:az) (x:Int) (s:dF):List aC :=
 if s.kind=3 then [ah [⟨16,x,f.stacks+s.at',0,0⟩]]
 else (List.range (if s.kind=2 then s.len.toNat else 1)).map fun (j:Nat)=>ah [⟨10,5,x+j,0,0⟩,⟨10,5,f.cells+s.at'+j,0,0⟩,⟨10,5,x+j,0,0⟩]
def iL (f:az) (kids:List Tree) (slots:List dF):List aC:=((kids.zip slots).map fun x=>ow f (ak f x.1.name x.2.kind) x.2).flatten
def qO (f:az) (procs:List cB) (op:Int) (name:ByteArray) (kids:List Tree):aC :=
 let there:=iL f kids (frameC ((rU procs name).map cB.params |>.getD [])).slots
 aK [aK there,ah [⟨28,f.cells,f.stacks,0,0⟩],⟨[⟨op,0,0,0,0⟩],[⟨0,name⟩]⟩,ah [⟨29,f.cells,f.stacks,0,0⟩],aK there.reverse]
mutual
def fB (f:az) (procs:List cB):Tree→aC
 | .mk k _ s l =>
  let e:=fun (i:Nat)=>l.getD i dG
  let b:=iW f procs l
  if k=40 then lS f (e 0) (e 1) 1 else if k=41 then lS f (e 0) (e 1) 2 else if k=42 then lS f (e 0) (e 1) 3
  else if k=43 then jO f (e 0) (e 1)
  else if k=44 then moveC f (e 0) ⟨12,5,ak f s 3,0,0⟩ else if k=45 then moveC f (e 0) ⟨13,5,ak f s 3,0,0⟩
  else if k=46 then moveC f (e 0) ⟨17,5,0,0,0⟩ else if k=47 then moveC f (e 0) ⟨18,5,0,0,0⟩
  else if k=48 then moveC f (e 0) ⟨19,5,0,0,0⟩ else if k=49 then moveC f (e 0) ⟨20,5,0,0,0⟩
  else if k=52 then qF f (e 0) (b.getD 1 cO) (b.getD 2 cO) (e 3)
  else if k=53 then qN f (e 0) (b.getD 1 cO) (b.getD 2 cO) (e 3)
  else if k=54 then qH f s (e 0) (b.getD 1 cO) (e 2)
  else if k=55 then qy f s (b.getD 0 cO)
  else qO f procs (if k=51 then 31 else 30) s l
def aR (f:az) (procs:List cB):Tree→aC
 | .mk _ _ _ l=>aK (o6 f procs l)
def o6 (f:az) (procs:List cB):List Tree→List aC
 | []=>[]
 | t :: l=>fB f procs t :: o6 f procs l
def iW (f:az) (procs:List cB):List Tree→List aC
 | []=>[]
 | t :: l=>aR f procs t :: iW f procs l
end
theorem Bi (f:az) (procs:List cB) (l:List Tree):o6 f procs l=l.map (fB f procs):=by
 induction l with
 | nil=>rw [o6];rfl
 | cons t l ih=>rw [o6,ih];rfl
theorem VA (f:az) (procs:List cB) (l:List Tree):iW f procs l=l.map (aR f procs):=by
 induction l with
 | nil=>rw [iW];rfl
 | cons t l ih=>rw [iW,ih];rfl
end Go.Proofs.YtnobahchcongnaaGreatDoor
