import Derived.Test.YtbpodipdfohikaaGreatK19
set_option linter.unusedSimpArgs false
set_option linter.unusedVariables false
set_option maxRecDepth 100000
set_option maxHeartbeats 25600000
namespace Go.Proofs.YtbpodipdfohikaaGreat
section
open Go.RowKit
set_option maxRecDepth 100000 in
theorem oO (b:Bool) (w:World):Calls Tryz.prog 169 #[.bool b] w λe w'=>e = .returned (.int .i64 (if b then 1 else 0))/\w=w':=by
 cases b
 all_goals
  go_enter Tryz.func169,Tryz.ntmps169
  go_wp2_with fail
  go_ret
  exact⟨rfl,rfl⟩
set_option maxRecDepth 100000 in
set_option maxHeartbeats 1600000 in
theorem Wu (x y:Int) (w:World):Calls Tryz.prog 165 #[.int .u8 16,.int .i64 x,.int .i64 y] w (wh (if x=y then 1 else 0,0) w):=by
 by_cases h:x=y
 · subst h
   rw[if_pos rfl]
   go_enter Tryz.func165,Tryz.ntmps165
   go_wp2_with fail
   refine(oO true w).mono ?_
   rintro e w2 ⟨rfl,rfl⟩
   go_wp2_with fail
   go_ret2
   exact⟨rfl,Mv.refl _ _⟩
 · rw[if_neg h]
   have he:(x == y)=false:=by simpa using h
   clear h
   go_enter Tryz.func165,Tryz.ntmps165
   go_wp2_with fail
   refine(oO false w).mono ?_
   rintro e w2 ⟨rfl,rfl⟩
   go_wp2_with fail
   go_ret2
   exact⟨rfl,Mv.refl _ _⟩
set_option maxRecDepth 100000 in
set_option maxHeartbeats 3200000 in
theorem UC (f S:Nat) (st:ai):∀ (m:Nat) (x:ae),SizeOf.sizeOf x<=m->∀ (w:World) (r:Int × Int),bD w x->qU w f S st->gL st.look x.t=some r ->
 Calls Tryz.prog 159 #[x.val,.func (.func f) #[.pointer (some ⟨S,0,none⟩)] #[]] w (wh r w):=by
 intro m
 induction m with
 |zero=>intro x hm;cases x;simp at hm
 |succ m ih =>
  intro x hm w r hx hf hr
  obtain⟨k,n,s,kv,l⟩:=x
  obtain⟨ka,kc,rfl,hkc,hkl⟩:=hx.form
  have iM:=Lib.hid (λ(i:Nat) (hi:i<l.length)=>ih l[i] (Nat.le_of_lt_succ (Nat.lt_of_lt_of_le (rX (k:=k) (n:=n) (s:=s) (kv := .slice ka l.length kc) (List.getElem_mem hi)) hm)))
  have aj:=Lib.hid (show Grow w (w.alloc (.cells #[.int .u8 k,.int .i64 n,.string s,.slice ka l.length kc] 40))from(Mv.refl _ w).alloc _)
  have bf:=Lib.hid (heap_alloc_new w (.cells #[.int .u8 k,.int .i64 n,.string s,.slice ka l.length kc] 40))
  have HX:=Lib.hid hx
  have HF:=Lib.hid hf
  clear ih hm
  by_cases h1:k=1
  · subst h1
    have HR:=Lib.hid (show r=(n,0)from by
     simp only[ae.t,gL,if_true]at hr
     simpa using hr.symm)
    clear hx hf hr
    simp only[ae.val]
    go_enter Tryz.func159,Tryz.ntmps159
    go_wp2_with fail
    go_ret2
    exact⟨by rw[HR.out];rfl,aj.out⟩
  · have e1:(k == 1)=false:=by simpa using h1
    by_cases h2:k=2\/k=5
    · have HC:=Lib.hid (Wt k n s ka l kc f S st _ r h2 (hf.later aj.out) hr)
      clear hx hf hr
      simp only[ae.val]
      rcases h2 with rfl|rfl
      all_goals
       go_enter Tryz.func159,Tryz.ntmps159
       go_wp2_with fail
       refine HC.out.mono ?_
       rintro e w2 ⟨rfl,hg⟩
       have HG2:=Lib.hid (gtr aj.out hg)
       clear hg
       go_wp2_with fail
       go_ret2
       exact⟨rfl,HG2.out⟩
    · have h16:k=16:=by
       rw[ae.t,gL,if_neg h1,if_neg (by omega),if_neg (by omega)]at hr
       by_cases h:k=16
       · exact h
       · rw[if_neg h]at hr;cases hr
      subst h16
      have hr2:∃ a b x e y g,l=[a,b]/\gL st.look a.t=some (x,e)/\gL st.look b.t=some (y,g)/\r=if e=0 then(if g=0 then(if x=y then 1 else 0,0)else(0,g))else(0,e):=by
       rw[ae.t,gL]at hr
       rw[if_neg (by decide),if_neg (by decide),if_neg (by decide),if_pos rfl]at hr
       rcases l with _|⟨a,_|⟨b,_|⟨c,d⟩⟩⟩
       · simp[ae.ts,gL.xg]at hr
       · simp[ae.ts,gL.xg]at hr
       · simp only[ae.ts,gL.xg]at hr
         cases ha:gL st.look a.t with
         |none=>rw[ha]at hr;simp at hr
         |some p =>
          cases hb:gL st.look b.t with
          |none=>rw[ha,hb]at hr;simp at hr
          |some q =>
           rw[ha,hb]at hr
           obtain⟨x,e⟩:=p
           obtain⟨y,g⟩:=q
           refine⟨a,b,x,e,y,g,rfl,ha,hb,?_⟩
           simp only at hr
           by_cases he:e=0
           · by_cases hg:g=0
             · simp only[he,hg,if_true]at hr ⊢;simpa using hr.symm
             · simp only[he,hg,if_true,if_false]at hr ⊢;simpa using hr.symm
           · simp only[he,if_false]at hr ⊢;simpa using hr.symm
       · simp[ae.ts,gL.xg]at hr
      obtain⟨a,b,x,e,y,g,rfl,ha,hb,hrr⟩:=hr2
      have HR:=Lib.hid hrr
      obtain⟨kb,ko,nQ,dz,-,-⟩:=hx.row.2.2.2.1.at (i:=0) (by simp)
      simp only[Value.slice.injEq,true_and]at dz
      obtain⟨rfl,rfl⟩:=dz
      have hk0:=uW hx 0 (by simp)
      have hk1:=uW hx 1 (by simp)
      simp only[List.getElem_cons_zero,List.getElem_cons_succ,Nat.zero_mul,Nat.add_zero,Nat.one_mul]at hk0 hk1
      have _6:=Lib.hid hk0
      have CY:=Lib.hid hk1
      have mZ:=Lib.hid (λz (hz:Grow w z)=>iM.out 0 (by simp) z (x,e) (hk0.at_.later hz) (HF.out.later hz) ha)
      have gG:=Lib.hid (λz (hz:Grow w z)=>iM.out 1 (by simp) z (y,g) (hk1.at_.later hz) (HF.out.later hz) hb)
      simp only[List.getElem_cons_zero,List.getElem_cons_succ]at mZ gG
      obtain⟨ak,an,a3,av,al⟩:=a
      obtain⟨bk,bn,bs,bv,bl⟩:=b
      obtain⟨aa,ac,rfl,-,-⟩:=hk0.at_.form
      obtain⟨ba,bc,rfl,-,-⟩:=hk1.at_.form
      clear hx hf hr hk0 hk1 hrr ha hb iM h1 h2
      simp only[ae.val]at mZ gG ⊢
      have hk0:=_6.out
      obtain⟨⟨d0,d1⟩,d2,d3⟩:=hk0.four
      have hbl:=World.block_lt_of_cell? _ _ d0
      simp only at hbl
      clear hk0
      go_enter Tryz.func159,Tryz.ntmps159
      go_wp2_with fail
      refine(mZ.out _ aj.out).mono ?_
      rintro en w2 ⟨rfl,hg⟩
      have HG2:=Lib.hid (gtr aj.out hg)
      have hn2:=ah bf.out hg
      have bV:=Lib.hid hn2
      obtain⟨⟨n0,n1⟩,n2,n3⟩:=az hn2
      have hnl:=lt_of_block hn2
      have hk1:=CY.out.later (gtr aj.out hg)
      obtain⟨⟨f0,f1⟩,f2,f3⟩:=hk1.four
      have Aj:=World.block_lt_of_cell? _ _ f0
      simp only at Aj
      clear hg hn2 d0 d1 d2 d3 hbl hk1
      by_cases he:e=0
      · subst he
        have HR2:=Lib.hid (show r=if g=0 then(if x=y then 1 else 0,0)else(0,g)from by rw[HR.out,if_pos rfl])
        clear HR
        go_wp2_with fail
        refine(gG.out _ HG2.out).mono ?_
        rintro en w3 ⟨rfl,hg⟩
        have aA:=Lib.hid (gtr HG2.out hg)
        have JA:=ah bV.out hg
        obtain⟨⟨n0,n1⟩,n2,n3⟩:=az JA
        have hnl:=lt_of_block JA
        clear hg JA f0 f1 f2 f3 Aj
        by_cases hg0:g=0
        · subst hg0
          have HR3:=Lib.hid (show r=(if x=y then 1 else 0,0)from by rw[HR2.out,if_pos rfl])
          clear HR2
          go_wp2_with fail
          refine(Wu x y w3).mono ?_
          rintro en w4 ⟨rfl,hg⟩
          have bA:=Lib.hid (gtr aA.out hg)
          clear hg n0 n1 n2 n3 hnl
          simp only
          generalize (if x=y then(1:Int)else 0)=vv at *
          go_wp2_with fail
          go_ret2
          exact⟨by rw[HR3.out];rfl,bA.out⟩
        · have HR3:=Lib.hid (show r=(0,g)from by rw[HR2.out,if_neg hg0])
          have hne:(g != 0)=true:=by simpa using hg0
          clear HR2 hg0
          go_wp2_with fail
          go_ret2
          exact⟨by rw[HR3.out];rfl,aA.out⟩
      · have HR2:=Lib.hid (show r=(0,e)from by rw[HR.out,if_neg he])
        have hne:(e != 0)=true:=by simpa using he
        clear HR he
        go_wp2_with fail
        go_ret2
        exact⟨by rw[HR2.out];rfl,HG2.out⟩
end
section
open Go.RowKit Go.Instr
def jH (b:Bool):Int:=if b then 1 else 0
def bZ (k x y:Int):Int × Int :=
 if k=8 then(wrap64 (x+y),0)else if k=9 then(wrap64 (x - y),0)else if k=10 then(wrap64 (x * y),0)
 else if k=11 then(if y=0 then(0,11)else(wrap64 (x.tdiv y),0))else if k=12 then(if y=0 then(0,11)else(x.tmod y,0))
 else if k=13 then(bits BinOp.and IntKind.i64 x y,0)else if k=14 then(bits BinOp.or IntKind.i64 x y,0)else if k=15 then(bits BinOp.xor IntKind.i64 x y,0)
 else if k=16 then(jH (x == y),0)else if k=17 then(jH (x != y),0)else if k=18 then(jH (decide (x<y)),0)else if k=19 then(jH (decide (x<=y)),0)
 else if k=20 then(jH (decide (y<x)),0)else if k=21 then(jH (decide (y<=x)),0)else if k=22 then(jH (x != 0 && y != 0),0)else if k=23 then(jH (x != 0 || y != 0),0)else(0,7)
def nI (k x:Int):Int × Int:=if k=6 then(wrap64 (-x),0)else if k=7 then(jH (x == 0),0)else(0,7)
def iR (r:Int × Int) (w:World) (e:Ending) (w':World):Prop:=e = .returned (.tuple #[.int .i64 r.1,.int .i64 r.2])/\w=w'
set_option maxRecDepth 100000 in
theorem K8 (k x y:Int) (w:World) (hk:k=11\/k=12):Calls Tryz.prog 170 #[.int .u8 k,.int .i64 x,.int .i64 y] w (iR (bZ k x y) w):=by
 by_cases h:y=0
 · have h1:(y == 0)=true:=by simpa using h
   have hr:bZ k x y=(0,11):=by rcases hk with rfl|rfl <;> simp[bZ,h]
   rw[hr]
   clear h hr
   rcases hk with rfl|rfl
   all_goals
    go_enter Tryz.func170,Tryz.ntmps170
    go_wp2_with fail
    go_ret2
    exact⟨rfl,rfl⟩
 · have h1:(y == 0)=false:=by simpa using h
   rcases hk with rfl|rfl
   · have hr:bZ 11 x y=(wrap64 (x.tdiv y),0):=by simp[bZ,h]
     rw[hr]
     go_enter Tryz.func170,Tryz.ntmps170
     go_wp2_with fail
     go_ret2
     exact⟨rfl,rfl⟩
   · have hr:bZ 12 x y=(x.tmod y,0):=by simp[bZ,h]
     rw[hr]
     go_enter Tryz.func170,Tryz.ntmps170
     go_wp2_with fail
     go_ret2
     exact⟨rfl,rfl⟩
set_option maxRecDepth 100000 in
theorem XM (x y:Int) (w:World):Calls Tryz.prog 165 #[.int .u8 8,.int .i64 x,.int .i64 y] w (iR (bZ 8 x y) w):=by
 go_enter Tryz.func165,Tryz.ntmps165
 go_wp2_with fail
 go_ret2
 exact⟨rfl,rfl⟩
set_option maxRecDepth 100000 in
theorem XN (x y:Int) (w:World):Calls Tryz.prog 165 #[.int .u8 9,.int .i64 x,.int .i64 y] w (iR (bZ 9 x y) w):=by
 go_enter Tryz.func165,Tryz.ntmps165
 go_wp2_with fail
 go_ret2
 exact⟨rfl,rfl⟩
set_option maxRecDepth 100000 in
theorem Wv (x y:Int) (w:World):Calls Tryz.prog 165 #[.int .u8 10,.int .i64 x,.int .i64 y] w (iR (bZ 10 x y) w):=by
 go_enter Tryz.func165,Tryz.ntmps165
 go_wp2_with fail
 go_ret2
 exact⟨rfl,rfl⟩
set_option maxRecDepth 100000 in
theorem Ww (x y:Int) (w:World):Calls Tryz.prog 165 #[.int .u8 13,.int .i64 x,.int .i64 y] w (iR (bZ 13 x y) w):=by
 go_enter Tryz.func165,Tryz.ntmps165
 go_wp2_with fail
 go_ret2
 exact⟨rfl,rfl⟩
set_option maxRecDepth 100000 in
theorem Wx (x y:Int) (w:World):Calls Tryz.prog 165 #[.int .u8 14,.int .i64 x,.int .i64 y] w (iR (bZ 14 x y) w):=by
 go_enter Tryz.func165,Tryz.ntmps165
 go_wp2_with fail
 go_ret2
 exact⟨rfl,rfl⟩
set_option maxRecDepth 100000 in
theorem Wy (x y:Int) (w:World):Calls Tryz.prog 165 #[.int .u8 15,.int .i64 x,.int .i64 y] w (iR (bZ 15 x y) w):=by
 go_enter Tryz.func165,Tryz.ntmps165
 go_wp2_with fail
 go_ret2
 exact⟨rfl,rfl⟩
set_option maxRecDepth 100000 in
theorem Wz (x y:Int) (w:World):Calls Tryz.prog 165 #[.int .u8 11,.int .i64 x,.int .i64 y] w (iR (bZ 11 x y) w):=by
 have HD:=Lib.hid (K8 11 x y w (by decide))
 generalize bZ 11 x y=r at *
 obtain⟨r1,r2⟩:=r
 go_enter Tryz.func165,Tryz.ntmps165
 go_wp2_with fail
 refine HD.out.mono ?_
 rintro e w2 ⟨rfl,rfl⟩
 go_wp2_with fail
 go_ret2
 exact⟨rfl,rfl⟩
set_option maxRecDepth 100000 in
theorem WA (x y:Int) (w:World):Calls Tryz.prog 165 #[.int .u8 12,.int .i64 x,.int .i64 y] w (iR (bZ 12 x y) w):=by
 have HD:=Lib.hid (K8 12 x y w (by decide))
 generalize bZ 12 x y=r at *
 obtain⟨r1,r2⟩:=r
 go_enter Tryz.func165,Tryz.ntmps165
 go_wp2_with fail
 refine HD.out.mono ?_
 rintro e w2 ⟨rfl,rfl⟩
 go_wp2_with fail
 go_ret2
 exact⟨rfl,rfl⟩
set_option maxRecDepth 100000 in
theorem WB (x y:Int) (w:World):Calls Tryz.prog 165 #[.int .u8 16,.int .i64 x,.int .i64 y] w (iR (bZ 16 x y) w):=by
 have hr:bZ 16 x y=(jH (x == y),0):=rfl
 rw[hr]
 have HB:=Lib.hid (λb=>oO b w)
 generalize hx:(x == y)=bx at *
 cases bx
 all_goals
  go_enter Tryz.func165,Tryz.ntmps165
  go_wp2_with fail
  refine(HB.out _).mono ?_
  rintro e w2 ⟨rfl,rfl⟩
  go_wp2_with fail
  go_ret2
  exact⟨rfl,rfl⟩
set_option maxRecDepth 100000 in
theorem WC (x y:Int) (w:World):Calls Tryz.prog 165 #[.int .u8 17,.int .i64 x,.int .i64 y] w (iR (bZ 17 x y) w):=by
 have hr:bZ 17 x y=(jH (x != y),0):=rfl
 rw[hr]
 have HB:=Lib.hid (λb=>oO b w)
 generalize hx:(x != y)=bx at *
 cases bx
 all_goals
  go_enter Tryz.func165,Tryz.ntmps165
  go_wp2_with fail
  refine(HB.out _).mono ?_
  rintro e w2 ⟨rfl,rfl⟩
  go_wp2_with fail
  go_ret2
  exact⟨rfl,rfl⟩
set_option maxRecDepth 100000 in
theorem WE (x y:Int) (w:World):Calls Tryz.prog 165 #[.int .u8 18,.int .i64 x,.int .i64 y] w (iR (bZ 18 x y) w):=by
 have hr:bZ 18 x y=(jH (decide (x<y)),0):=rfl
 rw[hr]
 have HB:=Lib.hid (λb=>oO b w)
 generalize hx:(decide (x<y))=bx at *
 cases bx
 all_goals
  go_enter Tryz.func165,Tryz.ntmps165
  go_wp2_with fail
  refine(HB.out _).mono ?_
  rintro e w2 ⟨rfl,rfl⟩
  go_wp2_with fail
  go_ret2
  exact⟨rfl,rfl⟩
set_option maxRecDepth 100000 in
theorem WG (x y:Int) (w:World):Calls Tryz.prog 165 #[.int .u8 19,.int .i64 x,.int .i64 y] w (iR (bZ 19 x y) w):=by
 have hr:bZ 19 x y=(jH (decide (x<=y)),0):=rfl
 rw[hr]
 have HB:=Lib.hid (λb=>oO b w)
 generalize hx:(decide (x<=y))=bx at *
 cases bx
 all_goals
  go_enter Tryz.func165,Tryz.ntmps165
  go_wp2_with fail
  refine(HB.out _).mono ?_
  rintro e w2 ⟨rfl,rfl⟩
  go_wp2_with fail
  go_ret2
  exact⟨rfl,rfl⟩
set_option maxRecDepth 100000 in
theorem WH (x y:Int) (w:World):Calls Tryz.prog 165 #[.int .u8 20,.int .i64 x,.int .i64 y] w (iR (bZ 20 x y) w):=by
 have hr:bZ 20 x y=(jH (decide (y<x)),0):=rfl
 rw[hr]
 have HB:=Lib.hid (λb=>oO b w)
 generalize hx:(decide (y<x))=bx at *
 cases bx
 all_goals
  go_enter Tryz.func165,Tryz.ntmps165
  go_wp2_with fail
  refine(HB.out _).mono ?_
  rintro e w2 ⟨rfl,rfl⟩
  go_wp2_with fail
  go_ret2
  exact⟨rfl,rfl⟩
set_option maxRecDepth 100000 in
theorem WI (x y:Int) (w:World):Calls Tryz.prog 165 #[.int .u8 21,.int .i64 x,.int .i64 y] w (iR (bZ 21 x y) w):=by
 have hr:bZ 21 x y=(jH (decide (y<=x)),0):=rfl
 rw[hr]
 have HB:=Lib.hid (λb=>oO b w)
 generalize hx:(decide (y<=x))=bx at *
 cases bx
 all_goals
  go_enter Tryz.func165,Tryz.ntmps165
  go_wp2_with fail
  refine(HB.out _).mono ?_
  rintro e w2 ⟨rfl,rfl⟩
  go_wp2_with fail
  go_ret2
  exact⟨rfl,rfl⟩
set_option maxRecDepth 100000 in
theorem WJ (x y:Int) (w:World):Calls Tryz.prog 165 #[.int .u8 22,.int .i64 x,.int .i64 y] w (iR (bZ 22 x y) w):=by
 have hr:bZ 22 x y=(jH (x != 0 && y != 0),0):=rfl
 rw[hr]
 have HB:=Lib.hid (λb=>oO b w)
 generalize hx:(x != 0)=bx at *
 generalize hy:(y != 0)=b2 at *
 cases bx <;> cases b2
 all_goals
  go_enter Tryz.func165,Tryz.ntmps165
  go_wp2_with fail
  refine(HB.out _).mono ?_
  rintro e w2 ⟨rfl,rfl⟩
  go_wp2_with fail
  go_ret2
  exact⟨rfl,rfl⟩
set_option maxRecDepth 100000 in
theorem WK (x y:Int) (w:World):Calls Tryz.prog 165 #[.int .u8 23,.int .i64 x,.int .i64 y] w (iR (bZ 23 x y) w):=by
 have hr:bZ 23 x y=(jH (x != 0 || y != 0),0):=rfl
 rw[hr]
 have HB:=Lib.hid (λb=>oO b w)
 generalize hx:(x != 0)=bx at *
 generalize hy:(y != 0)=b2 at *
 cases bx <;> cases b2
 all_goals
  go_enter Tryz.func165,Tryz.ntmps165
  go_wp2_with fail
  refine(HB.out _).mono ?_
  rintro e w2 ⟨rfl,rfl⟩
  go_wp2_with fail
  go_ret2
  exact⟨rfl,rfl⟩
theorem Vq (k x y:Int) (w:World) (h:8<=k/\k<=23):Calls Tryz.prog 165 #[.int .u8 k,.int .i64 x,.int .i64 y] w (iR (bZ k x y) w):=by
 have hk:k=8\/k=9\/k=10\/k=11\/k=12\/k=13\/k=14\/k=15\/k=16\/k=17\/k=18\/k=19\/k=20\/k=21\/k=22\/k=23:=by omega
 rcases hk with rfl|rfl|rfl|rfl|rfl|rfl|rfl|rfl|rfl|rfl|rfl|rfl|rfl|rfl|rfl|rfl
 · exact XM x y w
 · exact XN x y w
 · exact Wv x y w
 · exact Wz x y w
 · exact WA x y w
 · exact Ww x y w
 · exact Wx x y w
 · exact Wy x y w
 · exact WB x y w
 · exact WC x y w
 · exact WE x y w
 · exact WG x y w
 · exact WH x y w
 · exact WI x y w
 · exact WJ x y w
 · exact WK x y w
set_option maxRecDepth 100000 in
theorem Vr (k x:Int) (w:World) (h:k=6\/k=7):Calls Tryz.prog 164 #[.int .u8 k,.int .i64 x] w (iR (nI k x) w):=by
 rcases h with rfl|rfl
 · go_enter Tryz.func164,Tryz.ntmps164
   go_wp2_with fail
   go_ret2
   exact⟨rfl,rfl⟩
 · have hr:nI 7 x=(jH (x == 0),0):=rfl
   rw[hr]
   have HB:=Lib.hid (λb=>oO b w)
   generalize hx:(x == 0)=bx at *
   cases bx
   all_goals
    go_enter Tryz.func164,Tryz.ntmps164
    go_wp2_with fail
    refine(HB.out _).mono ?_
    rintro e w2 ⟨rfl,rfl⟩
    go_wp2_with fail
    go_ret2
    exact⟨rfl,rfl⟩
end
section
open Go.RowKit
set_option maxRecDepth 100000 in
set_option maxHeartbeats 1600000 in
theorem LK (f S:Nat) (st:ai) (x:ae) (w:World) (r:Int × Int) (hx:bD w x) (hf:qU w f S st) (he:aJ x.t=true) (hr:gL st.look x.t=some r) :
 Calls Tryz.prog 146 #[x.val,.func (.func f) #[.pointer (some ⟨S,0,none⟩)] #[]] w (wh r w):=by
 have heq:∀ w:World,(binOp .eql 191 (.func (.func f) #[.pointer (some ⟨S,0,none⟩)] #[]) .nilFunc).run Tryz.prog w = .ok (.bool false) w:=λw=>Gc w _ _ _ Tryz.underlying191
 have HE:=Lib.hid (λz (hz:Grow w z)=>rY x z (hx.later hz))
 have HV:=Lib.hid (λz (hz:Grow w z)=>UC f S st _ x (Nat.le_refl _) z r (hx.later hz) (hf.later hz) hr)
 rw[he]at HE
 obtain⟨k,n,s,kv,l⟩:=x
 obtain⟨ka,kc,rfl,-,-⟩:=hx.form
 have aj:=Lib.hid (show Grow w (w.alloc (.cells #[.int .u8 k,.int .i64 n,.string s,.slice ka l.length kc] 40))from(Mv.refl _ w).alloc _)
 have bf:=Lib.hid (heap_alloc_new w (.cells #[.int .u8 k,.int .i64 n,.string s,.slice ka l.length kc] 40))
 clear hx hf he hr
 simp only[ae.val]at HE HV ⊢
 go_enter Tryz.func146,Tryz.ntmps146
 go_wp2_with fail
 refine(HE.out _ aj.out).mono ?_
 rintro e w2 ⟨rfl,hg⟩
 have HG2:=Lib.hid (gtr aj.out hg)
 have hn2:=ah bf.out hg
 obtain⟨⟨n0,n1⟩,n2,n3⟩:=az hn2
 have hnl:=lt_of_block hn2
 clear hg hn2
 go_wp2_with fail
 refine(HV.out _ HG2.out).mono ?_
 rintro e w3 ⟨rfl,hg⟩
 have aA:=Lib.hid (gtr HG2.out hg)
 clear hg n0 n1 n2 n3 hnl
 go_wp2_with fail
 go_ret2
 exact⟨rfl,aA.out⟩
def NS (b:Bool) (n:Int) (w:World) (e:Ending) (w':World):Prop:=e = .returned (.tuple #[.bool b,.int .i64 n])/\Grow w w'
set_option maxRecDepth 100000 in
set_option maxHeartbeats 1600000 in
theorem Vt (f S:Nat) (st:ai) (x:ae) (w:World) (r:Int × Int) (hx:bD w x) (hf:qU w f S st) (he:aJ x.t=true) (hr:gL st.look x.t=some r) :
 Calls Tryz.prog 144 #[x.val,.func (.func f) #[.pointer (some ⟨S,0,none⟩)] #[]] w (NS (r.1 != 0) r.2 w):=by
 have HV:=Lib.hid (λz (hz:Grow w z)=>LK f S st x z r (hx.later hz) (hf.later hz) he hr)
 obtain⟨k,n,s,kv,l⟩:=x
 obtain⟨ka,kc,rfl,-,-⟩:=hx.form
 have aj:=Lib.hid (show Grow w (w.alloc (.cells #[.int .u8 k,.int .i64 n,.string s,.slice ka l.length kc] 40))from(Mv.refl _ w).alloc _)
 obtain⟨r1,r2⟩:=r
 clear hx hf he hr
 simp only[ae.val]at HV ⊢
 go_enter Tryz.func144,Tryz.ntmps144
 go_wp2_with fail
 refine(HV.out _ aj.out).mono ?_
 rintro e w3 ⟨rfl,hg⟩
 have aA:=Lib.hid (gtr aj.out hg)
 clear hg
 go_wp2_with fail
 go_ret2
 exact⟨rfl,aA.out⟩
set_option maxRecDepth 100000 in
set_option maxHeartbeats 1600000 in
theorem K9 (f S:Nat) (n:Int) (s:ByteArray) (kv:Value) (l:List ae) (w:World) (hx:bD w (.mk 2 n s kv l)) (he:fH (ae.t (.mk 2 n s kv l))=true) :
 Calls Tryz.prog 148 #[ae.val (.mk 2 n s kv l),.func (.func f) #[.pointer (some ⟨S,0,none⟩)] #[]] w (wh (0,0) w):=by
 have heq:∀ w:World,(binOp .eql 191 (.func (.func f) #[.pointer (some ⟨S,0,none⟩)] #[]) .nilFunc).run Tryz.prog w = .ok (.bool false) w:=λw=>Gc w _ _ _ Tryz.underlying191
 have HE:=Lib.hid (λz (hz:Grow w z)=>zy _ z (hx.later hz))
 rw[he]at HE
 obtain⟨ka,kc,rfl,-,-⟩:=hx.form
 have aj:=Lib.hid (show Grow w (w.alloc (.cells #[.int .u8 2,.int .i64 n,.string s,.slice ka l.length kc] 40))from(Mv.refl _ w).alloc _)
 have bf:=Lib.hid (heap_alloc_new w (.cells #[.int .u8 2,.int .i64 n,.string s,.slice ka l.length kc] 40))
 clear hx he
 simp only[ae.val]at HE ⊢
 go_enter Tryz.func148,Tryz.ntmps148
 go_wp2_with fail
 refine(HE.out _ aj.out).mono ?_
 rintro e w2 ⟨rfl,hg⟩
 have HG2:=Lib.hid (gtr aj.out hg)
 have hn2:=ah bf.out hg
 obtain⟨⟨n0,n1⟩,n2,n3⟩:=az hn2
 have hnl:=lt_of_block hn2
 clear hg hn2
 go_wp2_with fail
 go_ret2
 exact⟨rfl,HG2.out⟩
end
section
open Go.RowKit Go.Instr
theorem aG.NT {w0:World} {p:aB} {fuel k:Nat} {w:World} {x:aM} {s:ai} (h:aG w0 p fuel k w x s):qU w 145 x.S s:=⟨.inr rfl,λz hz n=>Ws w0 p fuel k z x s n (h.later hz)⟩
def tL {α:Type} (f:α->Value) (w0:World) (p:aB) (fuel k:Nat) (x:aM) (w:World) (res:Except Int (α × ai)) (e:Ending) (w':World):Prop:=match res with
 |.ok (a,s')=>e = .returned (f a)/\∃ x',ax x x' w w'/\aG w0 p fuel k w' x' s'
 |.error n=>(e=Aa n/\n≠0)/\qZ w0 x w w'
theorem tL.of {α:Type} {f:α->Value} {w0:World} {p:aB} {fuel k:Nat} {x x1:aM} {w w1:World} {res:Except Int (α × ai)} {e:Ending} {w':World} (h:tL f w0 p fuel k x1 w1 res e w') (hr:ax x x1 w w1):tL f w0 p fuel k x w res e w':=by
 unfold tL at *
 split at h
 · obtain⟨he,x',hx,hs⟩:=h
   exact⟨he,x',hr.trans hx,hs⟩
 · exact⟨h.1,.of hr h.2⟩
theorem dx.of {w0:World} {p:aB} {fuel k:Nat} {x x1:aM} {w w1:World} {res:Except Int ai} {e:Ending} {w':World} (h:dx w0 p fuel k x1 w1 res e w') (hr:ax x x1 w w1):dx w0 p fuel k x w res e w':=by
 unfold dx at *
 split at h
 · obtain⟨he,x',hx,hs⟩:=h
   exact⟨he,x',hr.trans hx,hs⟩
 · exact⟨h.1,.of hr h.2⟩
def BU (s:ai):Except Int Int->Except Int (Int × ai)
 |.ok v => .ok (v,s)
 |.error e => .error e
theorem MB {s:ai} {t:Tree} {res:Except Int Int} (h:s.value t=some res):aJ t=true/\∃ r,gL s.look t=some r/\res=if r.2=0 then .ok r.1 else .error r.2:=by
 unfold ai.value ai.val at h
 by_cases he:aJ t=true
 · refine⟨he,?_⟩
   rw[if_pos he]at h
   cases hr:gL s.look t with
   |none=>rw[hr]at h;cases h
   |some r =>
    rw[hr]at h
    obtain⟨v,e⟩:=r
    refine⟨(v,e),rfl,?_⟩
    simp only at h ⊢
    by_cases h0:e=0
    · rw[if_pos h0]at h ⊢;simpa using h.symm
    · rw[if_neg h0]at h ⊢;simpa using h.symm
 · rw[if_neg he]at h;cases h
set_option maxRecDepth 100000 in
set_option maxHeartbeats 6400000 in
theorem UD (w0:World) (p:aB) (fuel k:Nat) (w:World) (xx:aM) (s:ai) (n:ae) (res:Except Int Int) (h:aG w0 p fuel k w xx s) (hn:bD w n) (hv:s.value n.t=some res):Calls Tryz.prog 132 #[.pointer (some ⟨xx.R,0,none⟩),n.val] w (tL (.int .i64) w0 p fuel k xx w (BU s res)):=by
 obtain⟨he,⟨r1,r2⟩,hr,hres⟩:=MB hv
 have OL:=Lib.hid (λz (hz:Grow w z)=>LK _ xx.S s n z (r1,r2) (hn.later hz) (h.NT.later hz) he hr)
 obtain⟨nk,nn,ns,nv,nl⟩:=n
 obtain⟨na,nc,rfl,-,-⟩:=hn.form
 have HS:=Lib.hid h
 have aj:=Lib.hid (show Grow w (w.alloc (.cells #[.int .u8 nk,.int .i64 nn,.string ns,.slice na nl.length nc] 40))from(Mv.refl _ w).alloc _)
 have bf:=Lib.hid (heap_alloc_new w (.cells #[.int .u8 nk,.int .i64 nn,.string ns,.slice na nl.length nc] 40))
 have Fp:=Lib.hid (λz (hz:Grow (w.alloc (.cells #[.int .u8 nk,.int .i64 nn,.string ns,.slice na nl.length nc] 40)) z)=>OL.out z (gtr aj.out hz))
 have ng:=Lib.hid hres
 clear hn hv he hr h hres OL
 simp only[ae.val,wh]at Fp ⊢
 go_enter Tryz.func132,Tryz.ntmps132
 go_upto_region 1 with fail
 generalize (w.alloc (.cells #[.int .u8 nk,.int .i64 nn,.string ns,.slice na nl.length nc] 40))=w1 at *
 have HK:=Lib.hid (λ(y:World) (hy:Grow w1 y)=>And.intro (ah bf.out hy) ((HS.out.later (gtr aj.out hy)).cells.1.1))
 refine wg 21 [some 8,some 9,some 10,some 11,some 12,some 13,some 14,some 7,some 15,some 16,some 5,some 6] [[],[],[1],[2],[3],[4],[0,5],[6],[7],[7],[8],[9]] [] [.c (.agg #[.int .u8 nk,.int .i64 nn,.string ns,.slice na nl.length nc]),.c (.pointer (some ⟨xx.R,0,none⟩)),.c (.pointer (some ⟨xx.R,0,none⟩)),.c (.pointer (some ⟨xx.R,6,none⟩)),.c (.pointer (some ⟨xx.S,0,none⟩)),.c (.func (.func 145) #[.pointer (some ⟨xx.S,0,none⟩)] #[]),.c (.tuple #[.int .i64 r1,.int .i64 r2]),.c (.tuple #[.int .i64 r1,.int .i64 r2]),.c (.int .i64 r1),.c (.int .i64 r2),.c (.int .i64 r1),.c (.int .i64 r2)] trivial (dm rfl) ?steps ?done
 case steps =>
  refine⟨?s0,?s1,?s2,?s3,?s4,?s5,?s6,?s7,?s8,?s9,?s10,?s11,trivial⟩
  case s0 =>
   refine ok HK (λvs x hG HX hP => ?_)
   obtain⟨⟨n0,n1⟩,n2,n3⟩:=az HX.out.1
   simp only[zS]
   go_simp
   exact gc
  case s1 =>
   refine oo (λvs x hP => ?_)
   simp only[zS]
   go_simp
   exact gc
  case s2 =>
   refine oo (λvs x hP => ?_)
   simp only[zS]
   go_simp
   exact gc
  case s3 =>
   refine oo (λvs x hP => ?_)
   simp only[zS]
   go_simp
   exact gc
  case s4 =>
   refine ok HK (λvs x hG HX hP => ?_)
   have c6:=HX.out.2
   simp only[zS]
   go_simp
   exact gc
  case s5 =>
   refine oo (λvs x hP => ?_)
   simp only[zS]
   go_simp
   exact gc
  case s6 =>
   refine ok HK (λvs x hG HX hP => ?_)
   have HC:=Lib.hid (Fp.out x hG)
   simp only[zS]
   go_simp
   refine(HC.out).mono ?_
   rintro e y ⟨rfl,hg⟩
   exact⟨_,rfl,gq hg rfl⟩
  case s7 =>
   refine oo (λvs x hP => ?_)
   simp only[zS]
   go_simp
   exact gc
  case s8 =>
   refine oo (λvs x hP => ?_)
   simp only[zS]
   go_simp
   exact gc
  case s9 =>
   refine oo (λvs x hP => ?_)
   simp only[zS]
   go_simp
   exact gc
  case s10 =>
   refine oo (λvs x hP => ?_)
   simp only[zS]
   go_simp
   exact gc
  case s11 =>
   refine oo (λvs x hP => ?_)
   simp only[zS]
   go_simp
   exact gc
 case done =>
 intro vs wx hE
 have hG:=hE.grow
 have aO:=Lib.hid hG
 clear hE hG
 simp only[zS,Nat.reduceAdd]
 have HG2:=Lib.hid (gtr aj.out aO.out)
 go_wp2_with fail
 refine(DZ _ r2 wx).mono ?_
 rintro e w3 ⟨rfl,rfl⟩
 by_cases h0:r2=0
 · rw[if_pos h0]
   have HF:=Lib.hid (show BU s res = .ok (r1,s)from by rw[ng.out];simp[h0,BU])
   clear ng
   go_wp2_with fail
   go_ret
   rw[HF.out]
   exact⟨rfl,xx,ax.grow HG2.out,HS.out.later HG2.out⟩
 · rw[if_neg h0]
   have HF:=Lib.hid (show BU s res = .error r2 from by rw[ng.out];simp[h0,BU])
   refine⟨rfl,?_⟩
   rw[HF.out]
   exact⟨⟨rfl,h0⟩,.new (gtr HS.out.g HG2.out) HG2.out⟩
set_option maxRecDepth 100000 in
set_option maxHeartbeats 6400000 in
theorem LM (w0:World) (p:aB) (fuel k:Nat) (w:World) (xx:aM) (s:ai) (n:ae) (res:Except Int (Bool × ai)) (h:aG w0 p fuel k w xx s) (hno:aL (λ_=>True) w n) (hv:s.holds fuel n.t=some res):Calls Tryz.prog 130 #[.pointer (some ⟨xx.R,0,none⟩),n.val] w (tL .bool w0 p fuel k xx w res):=by
 obtain⟨x1,hr1,ho,h1⟩:=h.fresh
 rw[show xx.R=x1.R from hr1.R.symm]
 refine Calls.mono ?_ (λe w' (hq:tL .bool w0 p fuel k x1 w res e w')=>hq.of hr1)
 clear hr1 h
 revert h1 ho
 generalize x1=xx
 intro ho h
 have bE:=Lib.hid (λ(o:Obj)=>show Grow w (w.alloc o)from(Mv.refl _ w).alloc _)
 have HST:=Lib.hid (λz (hz:Grow w z)=>uS w0 p fuel k z xx s (h.later hz))
 have ow:=Lib.hid hno
 have hn:=hno.at
 clear hno
 unfold ai.holds at hv
 obtain⟨nk,nn,ns,nv,nl⟩:=n
 obtain⟨na,nc,rfl,-,-⟩:=hn.form
 have aj:=Lib.hid (show Grow w (w.alloc (.cells #[.int .u8 nk,.int .i64 nn,.string ns,.slice na nl.length nc] 40))from(Mv.refl _ w).alloc _)
 have bf:=Lib.hid (heap_alloc_new w (.cells #[.int .u8 nk,.int .i64 nn,.string ns,.slice na nl.length nc] 40))
 have rP:=Lib.hid (HST.out _ aj.out)
 have _7:=Lib.hid h
 clear hn h HST bE
 simp only[ae.val]
 cases hst:s.step fuel with
 |error n =>
  rw[hst]at hv rP
  have HF:=Lib.hid (show res = .error n from by simpa[aI]using hv.symm)
  clear hst hv
  go_enter Tryz.func130,Tryz.ntmps130
  go_wp2_with fail
  refine rP.out.mono ?_
  rintro e w2 ⟨⟨rfl,hn0⟩,hg⟩
  refine⟨rfl,?_⟩
  rw[HF.out]
  exact⟨⟨rfl,hn0⟩,.of (ax.grow aj.out) hg⟩
 |ok s' =>
  rw[hst]at hv rP
  simp only[aI]at hv
  have _8:=Lib.hid ho
  go_enter Tryz.func130,Tryz.ntmps130
  go_wp2_with fail
  refine rP.out.mono ?_
  clear rP
  rintro e w2 ⟨rfl,x2,hr2,hs2⟩
  have HR2:=Lib.hid ((ax.grow aj.out).trans hr2)
  have bV:=Lib.hid (hr2.keep bf.out (_8.out _ (Nat.le_refl _)))
  have fQ:=Lib.hid (HR2.out.tree ow.out)
  have HS2:=Lib.hid hs2
  rw[show xx.R=x2.R from hr2.R.symm]
  clear hr2 hs2 hst ho aj bf _7
  cases hvl:s'.value (ae.t (.mk nk nn ns (.slice na nl.length nc) nl))with
  |none=>rw[hvl]at hv;exact absurd hv (by simp[aI])
  |some rv =>
   rw[hvl]at hv
   obtain⟨he,⟨r1,r2⟩,hr,hres⟩:=MB hvl
   have hev:=λz (hz:Grow w2 z)=>Vt 145 x2.S s' (.mk nk nn ns (.slice na nl.length nc) nl) z (r1,r2) (fQ.out.at.later hz) (HS2.out.NT.later hz) he hr
   have ng:=Lib.hid (show res=(if r2=0 then .ok (r1 != 0,s')else .error r2)from by
    subst hres
    by_cases h0:r2=0
    · simp only[if_pos h0,aI]at hv ⊢;exact(Option.some.inj hv).symm
    · simp only[if_neg h0,aI]at hv ⊢;exact(Option.some.inj hv).symm)
   simp only[NS,ae.val]at hev
   generalize (r1 != 0)=bb at *
   have Fp:=Lib.hid hev
   clear hvl he hr hres hev hv ow
   have HK:=Lib.hid (λ(y:World) (hy:Grow w2 y)=>And.intro (ah bV.out hy) ((HS2.out.later hy).cells.1.1))
   go_upto_region 2 with fail
   refine wg 23 [some 10,some 11,some 12,some 13,some 14,some 15,some 16,some 9,some 17,some 18,some 5,some 6] [[],[],[1],[2],[3],[4],[0,5],[6],[7],[7],[8],[9]] [] [.c (.agg #[.int .u8 nk,.int .i64 nn,.string ns,.slice na nl.length nc]),.c (.pointer (some ⟨x2.R,0,none⟩)),.c (.pointer (some ⟨x2.R,0,none⟩)),.c (.pointer (some ⟨x2.R,6,none⟩)),.c (.pointer (some ⟨x2.S,0,none⟩)),.c (.func (.func 145) #[.pointer (some ⟨x2.S,0,none⟩)] #[]),.c (.tuple #[.bool bb,.int .i64 r2]),.c (.tuple #[.bool bb,.int .i64 r2]),.c (.bool bb),.c (.int .i64 r2),.c (.bool bb),.c (.int .i64 r2)] trivial (dm rfl) ?steps ?done
   case steps =>
    refine⟨?s0,?s1,?s2,?s3,?s4,?s5,?s6,?s7,?s8,?s9,?s10,?s11,trivial⟩
    case s0 =>
     refine ok HK (λvs x hG HX hP => ?_)
     obtain⟨⟨n0,n1⟩,n2,n3⟩:=az HX.out.1
     simp only[zS]
     go_simp
     exact gc
    case s1 =>
     refine oo (λvs x hP => ?_)
     simp only[zS]
     go_simp
     exact gc
    case s2 =>
     refine oo (λvs x hP => ?_)
     simp only[zS]
     go_simp
     exact gc
    case s3 =>
     refine oo (λvs x hP => ?_)
     simp only[zS]
     go_simp
     exact gc
    case s4 =>
     refine ok HK (λvs x hG HX hP => ?_)
     have c6:=HX.out.2
     simp only[zS]
     go_simp
     exact gc
    case s5 =>
     refine oo (λvs x hP => ?_)
     simp only[zS]
     go_simp
     exact gc
    case s6 =>
     refine ok HK (λvs x hG HX hP => ?_)
     have HC:=Lib.hid (Fp.out x hG)
     simp only[zS]
     go_simp
     refine(HC.out).mono ?_
     rintro e y ⟨rfl,hg⟩
     exact⟨_,rfl,gq hg rfl⟩
    case s7 =>
     refine oo (λvs x hP => ?_)
     simp only[zS]
     go_simp
     exact gc
    case s8 =>
     refine oo (λvs x hP => ?_)
     simp only[zS]
     go_simp
     exact gc
    case s9 =>
     refine oo (λvs x hP => ?_)
     simp only[zS]
     go_simp
     exact gc
    case s10 =>
     refine oo (λvs x hP => ?_)
     simp only[zS]
     go_simp
     exact gc
    case s11 =>
     refine oo (λvs x hP => ?_)
     simp only[zS]
     go_simp
     exact gc
   case done =>
   intro vs wx hE
   have hG:=hE.grow
   have aO:=Lib.hid hG
   clear hE hG
   simp only[zS,Nat.reduceAdd]
   go_wp2_with fail
   refine(DZ _ r2 wx).mono ?_
   rintro e w3 ⟨rfl,rfl⟩
   by_cases h0:r2=0
   · rw[if_pos h0]
     have HF:=Lib.hid (show res = .ok (bb,s')from by rw[ng.out,if_pos h0])
     clear ng
     go_wp2_with fail
     go_ret
     rw[HF.out]
     exact⟨rfl,x2,HR2.out.trans (ax.grow aO.out),HS2.out.later aO.out⟩
   · rw[if_neg h0]
     have HF:=Lib.hid (show res = .error r2 from by rw[ng.out,if_neg h0])
     refine⟨rfl,?_⟩
     rw[HF.out]
     exact⟨⟨rfl,h0⟩,.of HR2.out (.new (gtr HS2.out.g aO.out) aO.out)⟩
end
end Go.Proofs.YtbpodipdfohikaaGreat
