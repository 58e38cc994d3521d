import Derived.Test.YtbpodipdfohikaaGreatK11
set_option linter.unusedSimpArgs false
set_option linter.unusedVariables false
set_option maxRecDepth 100000
set_option maxHeartbeats 25600000
namespace Go.Proofs.YtbpodipdfohikaaGreat
open Go.RowKit Go.Instr
def Ab (w:World) (t:Tree) (e:Ending) (w':World):Prop:=∃ n:ae,e = .returned n.val/\aL (λb=>w.heap.size<=b) w' n/\n.t=t/\Grow w w'
set_option maxRecDepth 100000 in
theorem zI (k:Int) (s:ByteArray) (a:Option Addr) (m c:Nat) (w:World):Calls Tryz.prog 40 #[.int .u8 k,.string s,.slice a m c] w λe w'=>e = .returned (.agg #[.int .u8 k,.int .i64 0,.string s,.slice a m c])/\Grow w w':=by
 go_enter Tryz.func40,Tryz.ntmps40
 go_wp2_with fail
 obtain⟨⟨t0,t1⟩,t2,t3⟩:=az (heap_alloc_new w (.cells #[.int .u8 k,.int .i64 0,.string s,.slice a m c] 40))
 exact bodyPost_ret (v := .agg #[.int .u8 k,.int .i64 0,.string s,.slice a m c]) (by simp[results,Tryz.results40,go_sem,t0,t1,t2,t3]) rfl ⟨rfl,(Mv.refl _ _).alloc _⟩
theorem qL {P:Nat->Prop} {w:World} {k n:Int} {s:ByteArray} (hk:0<=k/\k<=255) (hn:In64 n) (hs:s.size<=9223372036854775807):aL P w (.mk k n s (.slice none 0 0) []) :=
 .mk hk hn hs (ay.nil _ _ _) (λb hb=>by simp[Value.ownBlock]at hb) (by simp)
theorem iZ {P:Nat->Prop} {w:World} {g:Nat} {k n:Int} {s:ByteArray} {l:List ae} {m:Nat} (hk:0<=k/\k<=255) (hn:In64 n) (hs:s.size<=9223372036854775807) (hb:w.heap[g]? = some (.cells (flat ae.cells l).toArray 40 (0,0))) (hP:P g) (hm:l.length=m) (hl:m<=9223372036854775807) (h:∀ x∈l,aL P w x):aL P w (.mk k n s (.slice (some ⟨g,0,none⟩) m m) l):=by
 subst hm
 exact .mk hk hn hs (ay.dF zL hb rfl hl) (λb e=>by simp[Value.ownBlock]at e;subst e;exact⟨hP,_,_,hb⟩) h
theorem aL.later {P:Nat->Prop} {w w':World} {n:ae} (h:aL P w n) (hg:Grow w w'):aL P w' n:=h.stay hg (λ_ _ _ _ _ e=>e)
theorem aL.fill {w w':World} {n:ae} {A B:Nat} (h:aL (λb=>B<=b) w n) (hm:Mv (λb=>b=A) w w') (hA:A<B):aL (λb=>A<=b) w' n :=
 (h.stay hm (λb _ _ hb _ e=>by omega)).weak (λb _ hb=>by omega)
set_option maxRecDepth 100000 in
theorem oM (n:Int) (w:World) (hn:In64 n):Calls Tryz.prog 37 #[.int .i64 n] w (Ab w (.mk 1 n ⟨#[]⟩ [])):=by
 go_enter Tryz.func37,Tryz.ntmps37
 go_wp2_with fail
 obtain⟨⟨t0,t1⟩,t2,t3⟩:=az (heap_alloc_new w (.cells #[.int .u8 1,.int .i64 n,.string ⟨#[]⟩,.slice none 0 0] 40))
 exact bodyPost_ret (v := .agg #[.int .u8 1,.int .i64 n,.string ⟨#[]⟩,.slice none 0 0]) (by simp[results,Tryz.results37,go_sem,t0,t1,t2,t3]) rfl ⟨.mk 1 n ⟨#[]⟩ (.slice none 0 0) [],rfl,qL (by decide) hn (by decide),by rw[ae.t];rfl,(Mv.refl _ _).alloc _⟩
set_option maxRecDepth 100000 in
theorem DV (s:ByteArray) (w:World) (hs:s.size<=9223372036854775807):Calls Tryz.prog 36 #[.string s] w (Ab w (.mk 2 0 s [])):=by
 have HC:=Lib.hid (zI 2 s none 0 0 (w.alloc (.cells #[.int .u8 0,.int .i64 0,.string ⟨#[]⟩,.slice none 0 0] 40)))
 go_enter Tryz.func36,Tryz.ntmps36
 go_wp2_with fail
 refine HC.out.mono ?_
 rintro e w2 ⟨rfl,hg⟩
 have hb:=ah (heap_alloc_new w (.cells #[.int .u8 0,.int .i64 0,.string ⟨#[]⟩,.slice none 0 0] 40)) hg
 have HG:=Lib.hid (gtr ((Mv.refl (λ_=>False) w).alloc (.cells #[.int .u8 0,.int .i64 0,.string ⟨#[]⟩,.slice none 0 0] 40)) hg)
 clear hg HC
 obtain⟨hs1,hs2⟩:=dH hb (.int .u8 2) (.int .i64 0) (.string s) (.slice none 0 0)
 obtain⟨⟨c0,c1⟩,c2,c3⟩:=az hb
 have zt:=bB hb
 have hlb:=lt_of_block hb
 have jI:=Lib.hid hs1
 have fD:=Lib.hid (bM HG.out hs2 (λb e=>by omega))
 clear hb hs1 hs2
 go_wp2_with fail
 obtain⟨⟨t0,t1⟩,t2,t3⟩:=az jI.out
 exact bodyPost_ret (v := .agg #[.int .u8 2,.int .i64 0,.string s,.slice none 0 0]) (by simp[results,Tryz.results36,go_sem,t0,t1,t2,t3]) rfl ⟨.mk 2 0 s (.slice none 0 0) [],rfl,qL (by decide) ⟨by decide,by decide⟩ hs,by rw[ae.t];rfl,fD.out⟩
set_option maxRecDepth 100000 in
theorem wS (s:ByteArray) (w:World) (hs:s.size<=9223372036854775807):Calls Tryz.prog 43 #[.string s] w (Ab w (.mk 5 0 s [])):=by
 have HC:=Lib.hid (zI 5 s none 0 0 (w.alloc (.cells #[.int .u8 0,.int .i64 0,.string ⟨#[]⟩,.slice none 0 0] 40)))
 go_enter Tryz.func43,Tryz.ntmps43
 go_wp2_with fail
 refine HC.out.mono ?_
 rintro e w2 ⟨rfl,hg⟩
 have hb:=ah (heap_alloc_new w (.cells #[.int .u8 0,.int .i64 0,.string ⟨#[]⟩,.slice none 0 0] 40)) hg
 have HG:=Lib.hid (gtr ((Mv.refl (λ_=>False) w).alloc (.cells #[.int .u8 0,.int .i64 0,.string ⟨#[]⟩,.slice none 0 0] 40)) hg)
 clear hg HC
 obtain⟨hs1,hs2⟩:=dH hb (.int .u8 5) (.int .i64 0) (.string s) (.slice none 0 0)
 obtain⟨⟨c0,c1⟩,c2,c3⟩:=az hb
 have zt:=bB hb
 have hlb:=lt_of_block hb
 have jI:=Lib.hid hs1
 have fD:=Lib.hid (bM HG.out hs2 (λb e=>by omega))
 clear hb hs1 hs2
 go_wp2_with fail
 obtain⟨⟨t0,t1⟩,t2,t3⟩:=az jI.out
 exact bodyPost_ret (v := .agg #[.int .u8 5,.int .i64 0,.string s,.slice none 0 0]) (by simp[results,Tryz.results43,go_sem,t0,t1,t2,t3]) rfl ⟨.mk 5 0 s (.slice none 0 0) [],rfl,qL (by decide) ⟨by decide,by decide⟩ hs,by rw[ae.t];rfl,fD.out⟩
set_option maxRecDepth 100000 in
theorem Ee (n s:ByteArray) (w:World) (hn:n.size<=9223372036854775807) (hs:s.size<=9223372036854775807):Calls Tryz.prog 38 #[.string n,.string s] w (Ab w (.mk 44 0 s [.mk 2 0 n []])):=by
 have HC:=Lib.hid (DV n (w.alloc (.cells #[.int .u8 0,.int .i64 0,.string ⟨#[]⟩,.slice none 0 0] 40)) hn)
 go_enter Tryz.func38,Tryz.ntmps38
 go_wp2_with fail
 refine HC.out.mono ?_
 rintro e w2 ⟨y,rfl,hy,mr,hg⟩
 have HB:=Lib.hid (ah (heap_alloc_new w (.cells #[.int .u8 0,.int .i64 0,.string ⟨#[]⟩,.slice none 0 0] 40)) hg)
 have HZ:=Lib.hid (show w.heap.size+1<=w2.heap.size from by have:=hg.size;simpa using this)
 have HG:=Lib.hid (gtr ((Mv.refl (λ_=>False) w).alloc (.cells #[.int .u8 0,.int .i64 0,.string ⟨#[]⟩,.slice none 0 0] 40)) hg)
 obtain⟨yk,yn,ys,yv,yl⟩:=y
 obtain⟨ya,yc,rfl,-,-⟩:=hy.at.form
 have hg3:Grow w2 (w2.alloc (.cells #[.int .u8 yk,.int .i64 yn,.string ys,.slice ya yl.length yc] 40)):=(Mv.refl _ _).alloc _
 have HR:=Lib.hid (heap_alloc_new w2 (.cells #[.int .u8 yk,.int .i64 yn,.string ys,.slice ya yl.length yc] 40))
 have HY:=Lib.hid (hy.later hg3)
 have JM:=Lib.hid mr
 have aA:=Lib.hid (gtr HG.out hg3)
 have mq:=Lib.hid (zI 44 s (some ⟨w2.heap.size,0,none⟩) 1 1 (w2.alloc (.cells #[.int .u8 yk,.int .i64 yn,.string ys,.slice ya yl.length yc] 40)))
 have HB3:=Lib.hid (ah HB.out hg3)
 clear hg HC hg3 hy mr
 simp only[ae.val]
 go_wp2_with fail
 refine mq.out.mono ?_
 rintro e w4 ⟨rfl,hg4⟩
 have hb:=ah HB3.out hg4
 have bA:=Lib.hid (gtr aA.out hg4)
 have HR4:=Lib.hid (ah HR.out hg4)
 have yh:=Lib.hid (HY.out.later hg4)
 clear hg4 mq HB3
 obtain⟨hs1,hs2⟩:=dH hb (.int .u8 44) (.int .i64 0) (.string s) (.slice (some ⟨w2.heap.size,0,none⟩) 1 1)
 obtain⟨⟨c0,c1⟩,c2,c3⟩:=az hb
 have zt:=bB hb
 have hlb:=lt_of_block hb
 have jI:=Lib.hid hs1
 have fD:=Lib.hid (bM bA.out hs2 (λb e=>by omega))
 have hsz:w.heap.size+1<=w2.heap.size:=HZ.out
 have Dh:=Lib.hid (iZ (k:=44) (n:=0) (s:=s) (m:=1) (P:=λb=>w.heap.size<=b) (l:=[.mk yk yn ys (.slice ya yl.length yc) yl]) (by decide) ⟨by decide,by decide⟩ hs ((hs2.block _ (lt_of_block HR4.out) (λe=>by omega)).trans HR4.out) (by omega) rfl (by decide) (λx hx=>by rw[List.mem_singleton.1 hx];exact yh.out.fill hs2 (by simp)))
 clear hb hs1 hs2
 go_wp2_with fail
 obtain⟨⟨t0,t1⟩,t2,t3⟩:=az jI.out
 exact bodyPost_ret (v := .agg #[.int .u8 44,.int .i64 0,.string s,.slice (some ⟨w2.heap.size,0,none⟩) 1 1]) (by simp[results,Tryz.results38,go_sem,t0,t1,t2,t3]) rfl ⟨.mk 44 0 s (.slice (some ⟨w2.heap.size,0,none⟩) 1 1) [.mk yk yn ys (.slice ya yl.length yc) yl],rfl,Dh.out,by rw[ae.t,← JM.out];simp[ae.ts],fD.out⟩
set_option maxRecDepth 100000 in
theorem MJ (n s:ByteArray) (w:World) (hn:n.size<=9223372036854775807) (hs:s.size<=9223372036854775807):Calls Tryz.prog 45 #[.string n,.string s] w (Ab w (.mk 45 0 s [.mk 2 0 n []])):=by
 have HC:=Lib.hid (DV n (w.alloc (.cells #[.int .u8 0,.int .i64 0,.string ⟨#[]⟩,.slice none 0 0] 40)) hn)
 go_enter Tryz.func45,Tryz.ntmps45
 go_wp2_with fail
 refine HC.out.mono ?_
 rintro e w2 ⟨y,rfl,hy,mr,hg⟩
 have HB:=Lib.hid (ah (heap_alloc_new w (.cells #[.int .u8 0,.int .i64 0,.string ⟨#[]⟩,.slice none 0 0] 40)) hg)
 have HZ:=Lib.hid (show w.heap.size+1<=w2.heap.size from by have:=hg.size;simpa using this)
 have HG:=Lib.hid (gtr ((Mv.refl (λ_=>False) w).alloc (.cells #[.int .u8 0,.int .i64 0,.string ⟨#[]⟩,.slice none 0 0] 40)) hg)
 obtain⟨yk,yn,ys,yv,yl⟩:=y
 obtain⟨ya,yc,rfl,-,-⟩:=hy.at.form
 have hg3:Grow w2 (w2.alloc (.cells #[.int .u8 yk,.int .i64 yn,.string ys,.slice ya yl.length yc] 40)):=(Mv.refl _ _).alloc _
 have HR:=Lib.hid (heap_alloc_new w2 (.cells #[.int .u8 yk,.int .i64 yn,.string ys,.slice ya yl.length yc] 40))
 have HY:=Lib.hid (hy.later hg3)
 have JM:=Lib.hid mr
 have aA:=Lib.hid (gtr HG.out hg3)
 have mq:=Lib.hid (zI 45 s (some ⟨w2.heap.size,0,none⟩) 1 1 (w2.alloc (.cells #[.int .u8 yk,.int .i64 yn,.string ys,.slice ya yl.length yc] 40)))
 have HB3:=Lib.hid (ah HB.out hg3)
 clear hg HC hg3 hy mr
 simp only[ae.val]
 go_wp2_with fail
 refine mq.out.mono ?_
 rintro e w4 ⟨rfl,hg4⟩
 have hb:=ah HB3.out hg4
 have bA:=Lib.hid (gtr aA.out hg4)
 have HR4:=Lib.hid (ah HR.out hg4)
 have yh:=Lib.hid (HY.out.later hg4)
 clear hg4 mq HB3
 obtain⟨hs1,hs2⟩:=dH hb (.int .u8 45) (.int .i64 0) (.string s) (.slice (some ⟨w2.heap.size,0,none⟩) 1 1)
 obtain⟨⟨c0,c1⟩,c2,c3⟩:=az hb
 have zt:=bB hb
 have hlb:=lt_of_block hb
 have jI:=Lib.hid hs1
 have fD:=Lib.hid (bM bA.out hs2 (λb e=>by omega))
 have hsz:w.heap.size+1<=w2.heap.size:=HZ.out
 have Dh:=Lib.hid (iZ (k:=45) (n:=0) (s:=s) (m:=1) (P:=λb=>w.heap.size<=b) (l:=[.mk yk yn ys (.slice ya yl.length yc) yl]) (by decide) ⟨by decide,by decide⟩ hs ((hs2.block _ (lt_of_block HR4.out) (λe=>by omega)).trans HR4.out) (by omega) rfl (by decide) (λx hx=>by rw[List.mem_singleton.1 hx];exact yh.out.fill hs2 (by simp)))
 clear hb hs1 hs2
 go_wp2_with fail
 obtain⟨⟨t0,t1⟩,t2,t3⟩:=az jI.out
 exact bodyPost_ret (v := .agg #[.int .u8 45,.int .i64 0,.string s,.slice (some ⟨w2.heap.size,0,none⟩) 1 1]) (by simp[results,Tryz.results45,go_sem,t0,t1,t2,t3]) rfl ⟨.mk 45 0 s (.slice (some ⟨w2.heap.size,0,none⟩) 1 1) [.mk yk yn ys (.slice ya yl.length yc) yl],rfl,Dh.out,by rw[ae.t,← JM.out];simp[ae.ts],fD.out⟩
def Hz (B:Nat) (w:World) (t:Tree) (e:Ending) (w':World):Prop:=∃ n:ae,e = .returned n.val/\aL (λb=>B<=b) w' n/\n.t=t/\Grow w w'
theorem aL.skip {w w':World} {n:ae} {A B:Nat} {w0:World} (h:aL (λb=>B<=b) w0 n) (hg:Grow w0 w) (hm:Mv (λb=>b=A) w w') (hA:w0.heap.size<=A):aL (λb=>B<=b) w' n :=
 (((h.weak (P':=λb=>B<=b/\b<w0.heap.size) (λb h1 h2=>⟨h2,h1⟩)).later hg).stay hm (λb _ _ hb _ e=>by omega)).weak (λb _ hb=>hb.1)
set_option maxRecDepth 100000 in
theorem zF (B:Nat) (a b:ae) (w:World) (hB:B<=w.heap.size) (ha:aL (λc=>B<=c) w a) (hb:aL (λc=>B<=c) w b):Calls Tryz.prog 42 #[a.val,b.val] w (Hz B w (.mk 16 0 ⟨#[]⟩ [a.t,b.t])):=by
 obtain⟨uk,un,us,uv,ul⟩:=a
 obtain⟨ua,uc,rfl,-,-⟩:=ha.at.form
 obtain⟨qk,qn,qs,qv,ql⟩:=b
 obtain⟨qa,qc,rfl,-,-⟩:=hb.at.form
 have HA:=Lib.hid ha
 have HB:=Lib.hid hb
 clear ha hb
 simp only[ae.val]
 go_enter Tryz.func42,Tryz.ntmps42
 go_wp2_with fail
 have hgw:Grow w ((((w.alloc (.cells #[.int .u8 uk,.int .i64 un,.string us,.slice ua ul.length uc] 40)).alloc (.cells #[.int .u8 qk,.int .i64 qn,.string qs,.slice qa ql.length qc] 40)).alloc (.cells #[.int .u8 16,.int .i64 0,.string ⟨#[]⟩,.slice (some ⟨w.heap.size+1+1+1,0,none⟩) 2 2] 40)).alloc (.cells #[.int .u8 uk,.int .i64 un,.string us,.slice ua ul.length uc,.int .u8 qk,.int .i64 qn,.string qs,.slice qa ql.length qc] 40)):=((((Mv.refl _ w).alloc _).alloc _).alloc _).alloc _
 have hr:=heap_alloc_new (((w.alloc (.cells #[.int .u8 uk,.int .i64 un,.string us,.slice ua ul.length uc] 40)).alloc (.cells #[.int .u8 qk,.int .i64 qn,.string qs,.slice qa ql.length qc] 40)).alloc (.cells #[.int .u8 16,.int .i64 0,.string ⟨#[]⟩,.slice (some ⟨w.heap.size+1+1+1,0,none⟩) 2 2] 40)) (.cells #[.int .u8 uk,.int .i64 un,.string us,.slice ua ul.length uc,.int .u8 qk,.int .i64 qn,.string qs,.slice qa ql.length qc] 40)
 have hx:((((w.alloc (.cells #[.int .u8 uk,.int .i64 un,.string us,.slice ua ul.length uc] 40)).alloc (.cells #[.int .u8 qk,.int .i64 qn,.string qs,.slice qa ql.length qc] 40)).alloc (.cells #[.int .u8 16,.int .i64 0,.string ⟨#[]⟩,.slice (some ⟨w.heap.size+1+1+1,0,none⟩) 2 2] 40)).alloc (.cells #[.int .u8 uk,.int .i64 un,.string us,.slice ua ul.length uc,.int .u8 qk,.int .i64 qn,.string qs,.slice qa ql.length qc] 40)).heap[w.heap.size+1+1]? = some (.cells #[.int .u8 16,.int .i64 0,.string ⟨#[]⟩,.slice (some ⟨w.heap.size+1+1+1,0,none⟩) 2 2] 40 (0,0)):=bS (by have:=heap_alloc_new ((w.alloc (.cells #[.int .u8 uk,.int .i64 un,.string us,.slice ua ul.length uc] 40)).alloc (.cells #[.int .u8 qk,.int .i64 qn,.string qs,.slice qa ql.length qc] 40)) (.cells #[.int .u8 16,.int .i64 0,.string ⟨#[]⟩,.slice (some ⟨w.heap.size+1+1+1,0,none⟩) 2 2] 40);rwa[World.size_alloc,World.size_alloc]at this) _
 rw[World.size_alloc,World.size_alloc,World.size_alloc]at hr
 obtain⟨⟨t0,t1⟩,t2,t3⟩:=az hx
 exact bodyPost_ret (v := .agg #[.int .u8 16,.int .i64 0,.string ⟨#[]⟩,.slice (some ⟨w.heap.size+1+1+1,0,none⟩) 2 2]) (by simp[results,Tryz.results42,go_sem,t0,t1,t2,t3]) rfl ⟨.mk 16 0 ⟨#[]⟩ (.slice (some ⟨w.heap.size+1+1+1,0,none⟩) 2 2) [.mk uk un us (.slice ua ul.length uc) ul,.mk qk qn qs (.slice qa ql.length qc) ql],rfl,iZ (by decide) ⟨by decide,by decide⟩ (by decide) hr (by omega) rfl (by decide) (λx hx=>by
  rcases List.mem_cons.1 hx with rfl|hx
  · exact HA.out.later hgw
  · rw[List.mem_singleton.1 hx];exact HB.out.later hgw),by rw[ae.t];simp[ae.ts],hgw⟩
theorem bH {n:Nat} {a b:World} (hg:Grow a b) (h:n<=a.heap.size):n<=b.heap.size:=Nat.le_trans h hg.size
set_option maxRecDepth 100000 in
theorem zG (a:Option Addr) (m c:Nat) (w:World):Calls Tryz.prog 39 #[.slice a m c] w λe w'=>e = .returned (.agg #[.int .u8 57,.int .i64 0,.string ⟨#[]⟩,.slice a m c])/\Grow w w':=by
 go_enter Tryz.func39,Tryz.ntmps39
 go_wp2_with fail
 obtain⟨⟨t0,t1⟩,t2,t3⟩:=az (heap_alloc_new w (.cells #[.int .u8 57,.int .i64 0,.string ⟨#[]⟩,.slice a m c] 40))
 exact bodyPost_ret (v := .agg #[.int .u8 57,.int .i64 0,.string ⟨#[]⟩,.slice a m c]) (by simp[results,Tryz.results39,go_sem,t0,t1,t2,t3]) rfl ⟨rfl,(Mv.refl _ _).alloc _⟩
set_option maxRecDepth 100000 in
theorem D6 (B:Nat) (s:ByteArray) (a b:ae) (kv:Value) (l:List ae) (w:World) (hs:s.size<=9223372036854775807) (hB:B<=w.heap.size) (ha:aL (λc=>B<=c) w a) (hb:aL (λc=>B<=c) w b) (hl:aL (λc=>B<=c) w (.mk 57 0 ⟨#[]⟩ kv l)):Calls Tryz.prog 35 #[.string s,a.val,b.val,kv] w (Hz B w (.mk 54 0 s [a.t,.mk 57 0 ⟨#[]⟩ (ae.ts l),b.t])):=by
 obtain⟨uk,un,us,uv,ul⟩:=a
 obtain⟨ua,uc,rfl,-,-⟩:=ha.at.form
 obtain⟨qk,qn,qs,qv,ql⟩:=b
 obtain⟨qa,qc,rfl,-,-⟩:=hb.at.form
 obtain⟨ka,kc,rfl,-,-⟩:=hl.at.form
 have HA:=Lib.hid ha
 have HB:=Lib.hid hb
 have HL:=Lib.hid hl
 generalize hm:l.length=m at *
 have HM:=Lib.hid hm
 have aj:=Lib.hid (show Grow w (((w.alloc (.cells #[.int .u8 uk,.int .i64 un,.string us,.slice ua ul.length uc] 40)).alloc (.cells #[.int .u8 qk,.int .i64 qn,.string qs,.slice qa ql.length qc] 40)).alloc (.cells #[.int .u8 0,.int .i64 0,.string ⟨#[]⟩,.slice none 0 0] 40))from(((Mv.refl _ w).alloc _).alloc _).alloc _)
 have JN:=Lib.hid (show(((w.alloc (.cells #[.int .u8 uk,.int .i64 un,.string us,.slice ua ul.length uc] 40)).alloc (.cells #[.int .u8 qk,.int .i64 qn,.string qs,.slice qa ql.length qc] 40)).alloc (.cells #[.int .u8 0,.int .i64 0,.string ⟨#[]⟩,.slice none 0 0] 40)).heap[w.heap.size]? = _ from bS (bS (heap_alloc_new w (.cells #[.int .u8 uk,.int .i64 un,.string us,.slice ua ul.length uc] 40)) _) _)
 have JO:=Lib.hid (show(((w.alloc (.cells #[.int .u8 uk,.int .i64 un,.string us,.slice ua ul.length uc] 40)).alloc (.cells #[.int .u8 qk,.int .i64 qn,.string qs,.slice qa ql.length qc] 40)).alloc (.cells #[.int .u8 0,.int .i64 0,.string ⟨#[]⟩,.slice none 0 0] 40)).heap[w.heap.size+1]? = some (.cells #[.int .u8 qk,.int .i64 qn,.string qs,.slice qa ql.length qc] 40 (0,0))from bS (by have:=heap_alloc_new (w.alloc (.cells #[.int .u8 uk,.int .i64 un,.string us,.slice ua ul.length uc] 40)) (.cells #[.int .u8 qk,.int .i64 qn,.string qs,.slice qa ql.length qc] 40);rwa[World.size_alloc]at this) _)
 have HR1:=Lib.hid (show(((w.alloc (.cells #[.int .u8 uk,.int .i64 un,.string us,.slice ua ul.length uc] 40)).alloc (.cells #[.int .u8 qk,.int .i64 qn,.string qs,.slice qa ql.length qc] 40)).alloc (.cells #[.int .u8 0,.int .i64 0,.string ⟨#[]⟩,.slice none 0 0] 40)).heap[w.heap.size+1+1]? = some (.cells #[.int .u8 0,.int .i64 0,.string ⟨#[]⟩,.slice none 0 0] 40 (0,0))from by have:=heap_alloc_new ((w.alloc (.cells #[.int .u8 uk,.int .i64 un,.string us,.slice ua ul.length uc] 40)).alloc (.cells #[.int .u8 qk,.int .i64 qn,.string qs,.slice qa ql.length qc] 40)) (.cells #[.int .u8 0,.int .i64 0,.string ⟨#[]⟩,.slice none 0 0] 40);rwa[World.size_alloc,World.size_alloc]at this)
 have HZ:=Lib.hid (show w.heap.size+3<=(((w.alloc (.cells #[.int .u8 uk,.int .i64 un,.string us,.slice ua ul.length uc] 40)).alloc (.cells #[.int .u8 qk,.int .i64 qn,.string qs,.slice qa ql.length qc] 40)).alloc (.cells #[.int .u8 0,.int .i64 0,.string ⟨#[]⟩,.slice none 0 0] 40)).heap.size from by simp)
 clear ha hb hl hm
 simp only[ae.val]
 go_enter Tryz.func35,Tryz.ntmps35
 go_upto_region 1 with fail
 generalize (((w.alloc (.cells #[.int .u8 uk,.int .i64 un,.string us,.slice ua ul.length uc] 40)).alloc (.cells #[.int .u8 qk,.int .i64 qn,.string qs,.slice qa ql.length qc] 40)).alloc (.cells #[.int .u8 0,.int .i64 0,.string ⟨#[]⟩,.slice none 0 0] 40))=w1 at *
 have HK:=Lib.hid (λ(y:World) (hy:Grow w1 y)=>And.intro (ah JN.out hy) (ah JO.out hy))
 refine wg 16 [some 9,some 10,some 11,some 12,some 13,some 14,some 15,none] [[],[],[],[2],[],[1,3,4],[0,5],[6]] [5] [.c (.string s),.c (.agg #[.int .u8 uk,.int .i64 un,.string us,.slice ua ul.length uc]),.c (.slice ka m kc),.c (.agg #[.int .u8 57,.int .i64 0,.string ⟨#[]⟩,.slice ka m kc]),.c (.agg #[.int .u8 qk,.int .i64 qn,.string qs,.slice qa ql.length qc]),.p (λv y=>∃ g,v = .slice (some ⟨g,0,none⟩) 3 3/\(w.heap.size+3<=g/\y.heap[g]? = some (.cells #[.int .u8 uk,.int .i64 un,.string us,.slice ua ul.length uc,.int .u8 57,.int .i64 0,.string ⟨#[]⟩,.slice ka m kc,.int .u8 qk,.int .i64 qn,.string qs,.slice qa ql.length qc] 40 (0,0)))),.p (λv y=>∃ g,v = .agg #[.int .u8 54,.int .i64 0,.string s,.slice (some ⟨g,0,none⟩) 3 3]/\(w.heap.size+3<=g/\y.heap[g]? = some (.cells #[.int .u8 uk,.int .i64 un,.string us,.slice ua ul.length uc,.int .u8 57,.int .i64 0,.string ⟨#[]⟩,.slice ka m kc,.int .u8 qk,.int .i64 qn,.string qs,.slice qa ql.length qc] 40 (0,0)))),.rs (w.heap.size+1+1) 6 #[.int .u8 0,.int .i64 0,.string ⟨#[]⟩,.slice none 0 0] 40] ⟨⟨(λv x y hg h=>by obtain⟨g,hv,h2,hb⟩:=h;exact⟨g,hv,h2,ah hb hg⟩),by simp⟩,⟨(λv x y hg h=>by obtain⟨g,hv,h2,hb⟩:=h;exact⟨g,hv,h2,ah hb hg⟩),λ_=>(λz hz g v x y hb hm h=>by simp[Kd.zero,Sp.k]at hz;subst hz;obtain⟨g1,hv,h2,hr⟩:=h;exact⟨g1,hv,h2,(hm.block _ (lt_of_block hr) (λe=>by subst e;rw[hb]at hr;simp at hr)).trans hr⟩)⟩,trivial⟩ (Qq (n:=7) rfl rfl (HR1.out)) ?steps ?done
 case steps =>
  refine⟨?s0,?s1,?s2,?s3,?s4,?s5,?s6,?s7,trivial⟩
  case s0 =>
   refine oo (λvs x hP => ?_)
   simp only[zS]
   go_simp
   exact gc
  case s1 =>
   refine ok HK (λvs x hG HX hP => ?_)
   obtain⟨⟨n0,n1⟩,n2,n3⟩:=az HX.out.1
   simp only[zS]
   go_simp
   exact gc
  case s2 =>
   refine oo (λvs x hP => ?_)
   simp only[zS]
   go_simp
   exact gc
  case s3 =>
   refine ok HK (λvs x hG HX hP => ?_)
   have HC:=Lib.hid (zG ka m kc x)
   simp only[zS]
   go_simp
   refine(HC.out).mono ?_
   rintro e y ⟨rfl,hg⟩
   exact⟨_,rfl,gq hg rfl⟩
  case s4 =>
   refine ok HK (λvs x hG HX hP => ?_)
   obtain⟨⟨n0,n1⟩,n2,n3⟩:=az HX.out.2
   simp only[zS]
   go_simp
   exact gc
  case s5 =>
   refine ok HK (λvs x hG HX hP => ?_)
   have hZ:=bH hG HZ.out
   simp only[zS]
   go_simp
   exact gl ⟨_,rfl,hZ,heap_alloc_new x _⟩
  case s6 =>
   refine ok HK (λvs x hG HX hP => ?_)
   have p5:=pq hP 5
   obtain⟨g5,h5,z5,b5⟩:=p5
   have HC:=Lib.hid (zI 54 s (some ⟨g5,0,none⟩) 3 3 x)
   have FC:=z5
   have hb5:=b5
   simp only[zS,h5]
   go_simp
   refine(HC.out).mono ?_
   rintro e y ⟨rfl,hg⟩
   exact⟨_,rfl,hg,⟨_,rfl,FC,ah hb5 hg⟩⟩
  case s7 =>
   refine Qr (λvs x hb hv => ?_)
   have p6:=hv
   obtain⟨g6,h6,z6,b6⟩:=p6
   obtain⟨c0,c1,c2,c3⟩:=fV hb
   have zt:=bB hb
   simp only[zS,h6]
   go_simp
   exact⟨(dH hb _ _ _ _).1,(dH hb _ _ _ _).2⟩
 case done =>
 intro vs wx hE
 have p6:=hE.val 6
 obtain⟨g6,h6,z6,b6⟩:=p6
 have b7:=hE.res 7
 simp only[zS,h6]at b7
 have HM:=Lib.hid (hE.last 7)
 have cK:=Lib.hid b6
 have rT:=Lib.hid z6
 have HP:=Lib.hid b7
 clear hE b6 z6 b7
 simp only[gJ]at HP
 simp only[zS,Nat.reduceAdd,h6]
 have fD:=Lib.hid (show Grow w wx from bM aj.out HM.out (λb e=>by omega))
 have HT:=Lib.hid (show aL (λc=>B<=c) wx (.mk 54 0 s (.slice (some ⟨g6,0,none⟩) 3 3) [.mk uk un us (.slice ua ul.length uc) ul,.mk 57 0 ⟨#[]⟩ (.slice ka m kc) l,.mk qk qn qs (.slice qa ql.length qc) ql])from iZ (by decide) ⟨by decide,by decide⟩ hs cK.out (by have:=rT.out;omega) rfl (by decide) (λx hx=>by
  rcases List.mem_cons.1 hx with rfl|hx
  · exact HA.out.skip aj.out HM.out (by omega)
  rcases List.mem_cons.1 hx with rfl|hx
  · exact HL.out.skip aj.out HM.out (by omega)
  · rw[List.mem_singleton.1 hx];exact HB.out.skip aj.out HM.out (by omega)))
 clear HM cK
 go_wp2_with fail
 obtain⟨⟨t0,t1⟩,t2,t3⟩:=az HP.out
 exact bodyPost_ret (v := .agg #[.int .u8 54,.int .i64 0,.string s,.slice (some ⟨g6,0,none⟩) 3 3]) (by simp[results,Tryz.results35,go_sem,t0,t1,t2,t3]) rfl ⟨_,rfl,HT.out,by rw[ae.t];simp[ae.ts,ae.t],fD.out⟩
set_option maxRecDepth 100000 in
theorem GL (B:Nat) (a b:ae) (kv:Value) (l:List ae) (w:World) (hB:B<=w.heap.size) (ha:aL (λc=>B<=c) w a) (hb:aL (λc=>B<=c) w b) (hl:aL (λc=>B<=c) w (.mk 57 0 ⟨#[]⟩ kv l)):Calls Tryz.prog 41 #[a.val,b.val,kv] w (Hz B w (.mk 53 0 ⟨#[]⟩ [a.t,.mk 57 0 ⟨#[]⟩ [],.mk 57 0 ⟨#[]⟩ (ae.ts l),b.t])):=by
 obtain⟨uk,un,us,uv,ul⟩:=a
 obtain⟨ua,uc,rfl,-,-⟩:=ha.at.form
 obtain⟨qk,qn,qs,qv,ql⟩:=b
 obtain⟨qa,qc,rfl,-,-⟩:=hb.at.form
 obtain⟨ka,kc,rfl,-,-⟩:=hl.at.form
 have HA:=Lib.hid ha
 have HB:=Lib.hid hb
 have HL:=Lib.hid hl
 generalize hm:l.length=m at *
 have HM:=Lib.hid hm
 have aj:=Lib.hid (show Grow w (((w.alloc (.cells #[.int .u8 uk,.int .i64 un,.string us,.slice ua ul.length uc] 40)).alloc (.cells #[.int .u8 qk,.int .i64 qn,.string qs,.slice qa ql.length qc] 40)).alloc (.cells #[.int .u8 0,.int .i64 0,.string ⟨#[]⟩,.slice none 0 0] 40))from(((Mv.refl _ w).alloc _).alloc _).alloc _)
 have JN:=Lib.hid (show(((w.alloc (.cells #[.int .u8 uk,.int .i64 un,.string us,.slice ua ul.length uc] 40)).alloc (.cells #[.int .u8 qk,.int .i64 qn,.string qs,.slice qa ql.length qc] 40)).alloc (.cells #[.int .u8 0,.int .i64 0,.string ⟨#[]⟩,.slice none 0 0] 40)).heap[w.heap.size]? = _ from bS (bS (heap_alloc_new w (.cells #[.int .u8 uk,.int .i64 un,.string us,.slice ua ul.length uc] 40)) _) _)
 have JO:=Lib.hid (show(((w.alloc (.cells #[.int .u8 uk,.int .i64 un,.string us,.slice ua ul.length uc] 40)).alloc (.cells #[.int .u8 qk,.int .i64 qn,.string qs,.slice qa ql.length qc] 40)).alloc (.cells #[.int .u8 0,.int .i64 0,.string ⟨#[]⟩,.slice none 0 0] 40)).heap[w.heap.size+1]? = some (.cells #[.int .u8 qk,.int .i64 qn,.string qs,.slice qa ql.length qc] 40 (0,0))from bS (by have:=heap_alloc_new (w.alloc (.cells #[.int .u8 uk,.int .i64 un,.string us,.slice ua ul.length uc] 40)) (.cells #[.int .u8 qk,.int .i64 qn,.string qs,.slice qa ql.length qc] 40);rwa[World.size_alloc]at this) _)
 have HR1:=Lib.hid (show(((w.alloc (.cells #[.int .u8 uk,.int .i64 un,.string us,.slice ua ul.length uc] 40)).alloc (.cells #[.int .u8 qk,.int .i64 qn,.string qs,.slice qa ql.length qc] 40)).alloc (.cells #[.int .u8 0,.int .i64 0,.string ⟨#[]⟩,.slice none 0 0] 40)).heap[w.heap.size+1+1]? = some (.cells #[.int .u8 0,.int .i64 0,.string ⟨#[]⟩,.slice none 0 0] 40 (0,0))from by have:=heap_alloc_new ((w.alloc (.cells #[.int .u8 uk,.int .i64 un,.string us,.slice ua ul.length uc] 40)).alloc (.cells #[.int .u8 qk,.int .i64 qn,.string qs,.slice qa ql.length qc] 40)) (.cells #[.int .u8 0,.int .i64 0,.string ⟨#[]⟩,.slice none 0 0] 40);rwa[World.size_alloc,World.size_alloc]at this)
 have HZ:=Lib.hid (show w.heap.size+3<=(((w.alloc (.cells #[.int .u8 uk,.int .i64 un,.string us,.slice ua ul.length uc] 40)).alloc (.cells #[.int .u8 qk,.int .i64 qn,.string qs,.slice qa ql.length qc] 40)).alloc (.cells #[.int .u8 0,.int .i64 0,.string ⟨#[]⟩,.slice none 0 0] 40)).heap.size from by simp)
 clear ha hb hl hm
 simp only[ae.val]
 go_enter Tryz.func41,Tryz.ntmps41
 go_upto_region 1 with fail
 generalize (((w.alloc (.cells #[.int .u8 uk,.int .i64 un,.string us,.slice ua ul.length uc] 40)).alloc (.cells #[.int .u8 qk,.int .i64 qn,.string qs,.slice qa ql.length qc] 40)).alloc (.cells #[.int .u8 0,.int .i64 0,.string ⟨#[]⟩,.slice none 0 0] 40))=w1 at *
 have HK:=Lib.hid (λ(y:World) (hy:Grow w1 y)=>And.intro (ah JN.out hy) (ah JO.out hy))
 refine wg 14 [some 7,some 8,some 9,some 10,some 11,some 12,some 13,none] [[],[],[],[2],[],[0,1,3,4],[5],[6]] [5] [.c (.agg #[.int .u8 uk,.int .i64 un,.string us,.slice ua ul.length uc]),.c (.agg #[.int .u8 57,.int .i64 0,.string ⟨#[]⟩,.slice none 0 0]),.c (.slice ka m kc),.c (.agg #[.int .u8 57,.int .i64 0,.string ⟨#[]⟩,.slice ka m kc]),.c (.agg #[.int .u8 qk,.int .i64 qn,.string qs,.slice qa ql.length qc]),.p (λv y=>∃ g,v = .slice (some ⟨g,0,none⟩) 4 4/\(w.heap.size+3<=g/\y.heap[g]? = some (.cells #[.int .u8 uk,.int .i64 un,.string us,.slice ua ul.length uc,.int .u8 57,.int .i64 0,.string ⟨#[]⟩,.slice none 0 0,.int .u8 57,.int .i64 0,.string ⟨#[]⟩,.slice ka m kc,.int .u8 qk,.int .i64 qn,.string qs,.slice qa ql.length qc] 40 (0,0)))),.p (λv y=>∃ g,v = .agg #[.int .u8 53,.int .i64 0,.string ⟨#[]⟩,.slice (some ⟨g,0,none⟩) 4 4]/\(w.heap.size+3<=g/\y.heap[g]? = some (.cells #[.int .u8 uk,.int .i64 un,.string us,.slice ua ul.length uc,.int .u8 57,.int .i64 0,.string ⟨#[]⟩,.slice none 0 0,.int .u8 57,.int .i64 0,.string ⟨#[]⟩,.slice ka m kc,.int .u8 qk,.int .i64 qn,.string qs,.slice qa ql.length qc] 40 (0,0)))),.rs (w.heap.size+1+1) 6 #[.int .u8 0,.int .i64 0,.string ⟨#[]⟩,.slice none 0 0] 40] ⟨⟨(λv x y hg h=>by obtain⟨g,hv,h2,hb⟩:=h;exact⟨g,hv,h2,ah hb hg⟩),by simp⟩,⟨(λv x y hg h=>by obtain⟨g,hv,h2,hb⟩:=h;exact⟨g,hv,h2,ah hb hg⟩),λ_=>(λz hz g v x y hb hm h=>by simp[Kd.zero,Sp.k]at hz;subst hz;obtain⟨g1,hv,h2,hr⟩:=h;exact⟨g1,hv,h2,(hm.block _ (lt_of_block hr) (λe=>by subst e;rw[hb]at hr;simp at hr)).trans hr⟩)⟩,trivial⟩ (Qq (n:=7) rfl rfl (HR1.out)) ?steps ?done
 case steps =>
  refine⟨?s0,?s1,?s2,?s3,?s4,?s5,?s6,?s7,trivial⟩
  case s0 =>
   refine ok HK (λvs x hG HX hP => ?_)
   obtain⟨⟨n0,n1⟩,n2,n3⟩:=az HX.out.1
   simp only[zS]
   go_simp
   exact gc
  case s1 =>
   refine ok HK (λvs x hG HX hP => ?_)
   have HC:=Lib.hid (zG none 0 0 x)
   simp only[zS]
   go_simp
   refine(HC.out).mono ?_
   rintro e y ⟨rfl,hg⟩
   exact⟨_,rfl,gq hg rfl⟩
  case s2 =>
   refine oo (λvs x hP => ?_)
   simp only[zS]
   go_simp
   exact gc
  case s3 =>
   refine ok HK (λvs x hG HX hP => ?_)
   have HC:=Lib.hid (zG ka m kc x)
   simp only[zS]
   go_simp
   refine(HC.out).mono ?_
   rintro e y ⟨rfl,hg⟩
   exact⟨_,rfl,gq hg rfl⟩
  case s4 =>
   refine ok HK (λvs x hG HX hP => ?_)
   obtain⟨⟨n0,n1⟩,n2,n3⟩:=az HX.out.2
   simp only[zS]
   go_simp
   exact gc
  case s5 =>
   refine ok HK (λvs x hG HX hP => ?_)
   have hZ:=bH hG HZ.out
   simp only[zS]
   go_simp
   exact gl ⟨_,rfl,hZ,heap_alloc_new x _⟩
  case s6 =>
   refine ok HK (λvs x hG HX hP => ?_)
   have p5:=pq hP 5
   obtain⟨g5,h5,z5,b5⟩:=p5
   have FC:=z5
   have hb5:=b5
   simp only[zS,h5]
   go_simp
   exact gk ⟨_,rfl,FC,hb5⟩
  case s7 =>
   refine Qr (λvs x hb hv => ?_)
   have p6:=hv
   obtain⟨g6,h6,z6,b6⟩:=p6
   obtain⟨c0,c1,c2,c3⟩:=fV hb
   have zt:=bB hb
   simp only[zS,h6]
   go_simp
   exact⟨(dH hb _ _ _ _).1,(dH hb _ _ _ _).2⟩
 case done =>
 intro vs wx hE
 have p6:=hE.val 6
 obtain⟨g6,h6,z6,b6⟩:=p6
 have b7:=hE.res 7
 simp only[zS,h6]at b7
 have HM:=Lib.hid (hE.last 7)
 have cK:=Lib.hid b6
 have rT:=Lib.hid z6
 have HP:=Lib.hid b7
 clear hE b6 z6 b7
 simp only[gJ]at HP
 simp only[zS,Nat.reduceAdd,h6]
 have fD:=Lib.hid (show Grow w wx from bM aj.out HM.out (λb e=>by omega))
 have HT:=Lib.hid (show aL (λc=>B<=c) wx (.mk 53 0 ⟨#[]⟩ (.slice (some ⟨g6,0,none⟩) 4 4) [.mk uk un us (.slice ua ul.length uc) ul,.mk 57 0 ⟨#[]⟩ (.slice none 0 0) [],.mk 57 0 ⟨#[]⟩ (.slice ka m kc) l,.mk qk qn qs (.slice qa ql.length qc) ql])from iZ (by decide) ⟨by decide,by decide⟩ (by decide) cK.out (by have:=rT.out;omega) rfl (by decide) (λx hx=>by
  rcases List.mem_cons.1 hx with rfl|hx
  · exact HA.out.skip aj.out HM.out (by omega)
  rcases List.mem_cons.1 hx with rfl|hx
  · exact qL (by decide) ⟨by decide,by decide⟩ (by decide)
  rcases List.mem_cons.1 hx with rfl|hx
  · exact HL.out.skip aj.out HM.out (by omega)
  · rw[List.mem_singleton.1 hx];exact HB.out.skip aj.out HM.out (by omega)))
 clear HM cK
 go_wp2_with fail
 obtain⟨⟨t0,t1⟩,t2,t3⟩:=az HP.out
 exact bodyPost_ret (v := .agg #[.int .u8 53,.int .i64 0,.string ⟨#[]⟩,.slice (some ⟨g6,0,none⟩) 4 4]) (by simp[results,Tryz.results41,go_sem,t0,t1,t2,t3]) rfl ⟨_,rfl,HT.out,by rw[ae.t];simp[ae.ts,ae.t],fD.out⟩
def NZ (a b:ByteArray):Tree := .mk 54 0 ⟨#[120]⟩ [.mk 1 0 ⟨#[]⟩ [],.mk 57 0 ⟨#[]⟩ [.mk 45 0 a [.mk 2 0 ⟨#[120]⟩ []],.mk 44 0 b [.mk 2 0 ⟨#[120]⟩ []]],.mk 1 0 ⟨#[]⟩ []]
theorem aL.from {w:World} {n:ae} {A B:Nat} (h:aL (λb=>A<=b) w n) (hB:B<=A):aL (λb=>B<=b) w n:=h.weak (λb _ hb=>Nat.le_trans hB hb)
set_option maxRecDepth 100000 in
theorem LX (a b:ByteArray) (w:World) (ha:a.size<=9223372036854775807) (hb:b.size<=9223372036854775807):Calls Tryz.prog 44 #[.string a,.string b] w (Ab w (NZ a b)):=by
 have H1:=Lib.hid (oM 0 (w.alloc (.cells #[.int .u8 0,.int .i64 0,.string ⟨#[]⟩,.slice none 0 0] 40)) ⟨by decide,by decide⟩)
 have HB0:=Lib.hid (heap_alloc_new w (.cells #[.int .u8 0,.int .i64 0,.string ⟨#[]⟩,.slice none 0 0] 40))
 have jM:=Lib.hid (show Grow w (w.alloc (.cells #[.int .u8 0,.int .i64 0,.string ⟨#[]⟩,.slice none 0 0] 40))from(Mv.refl _ _).alloc _)
 have HZ0:=Lib.hid (show w.heap.size+1<=(w.alloc (.cells #[.int .u8 0,.int .i64 0,.string ⟨#[]⟩,.slice none 0 0] 40)).heap.size from by simp)
 go_enter Tryz.func44,Tryz.ntmps44
 go_wp2_with fail
 generalize (w.alloc (.cells #[.int .u8 0,.int .i64 0,.string ⟨#[]⟩,.slice none 0 0] 40))=w1 at *
 refine H1.out.mono ?_
 rintro e w2 ⟨m,rfl,hm,hmt,hg2⟩
 have HM:=Lib.hid (hm.from HZ0.out)
 have HG2:=Lib.hid hg2
 have HZ2:=Lib.hid (Nat.le_trans HZ0.out hg2.size)
 clear hm hg2 H1
 go_wp2_with fail
 refine(oM 0 w2 ⟨by decide,by decide⟩).mono ?_
 rintro e w3 ⟨m',rfl,hm',hmt',hg3⟩
 have HM3:=Lib.hid (hm'.from HZ2.out)
 have aA:=Lib.hid hg3
 have HZ3:=Lib.hid (Nat.le_trans HZ2.out hg3.size)
 clear hm' hg3
 go_wp2_with fail
 refine(MJ ⟨#[120]⟩ a w3 (by decide) ha).mono ?_
 rintro e w4 ⟨y,rfl,hy,mr,hg4⟩
 have HY:=Lib.hid (hy.from HZ3.out)
 have bA:=Lib.hid hg4
 have yU:=Lib.hid (Nat.le_trans HZ3.out hg4.size)
 clear hy hg4
 go_wp2_with fail
 refine(Ee ⟨#[120]⟩ b w4 (by decide) hb).mono ?_
 rintro e w5 ⟨y',rfl,hy',ZO,hg5⟩
 have Rh:=Lib.hid (hy'.from yU.out)
 have bG:=Lib.hid hg5
 have Di:=Lib.hid (Nat.le_trans yU.out hg5.size)
 clear hy' hg5
 obtain⟨uk,un,us,uv,ul⟩:=y
 obtain⟨ua,uc,rfl,-,-⟩:=HY.out.at.form
 obtain⟨qk,qn,qs,qv,ql⟩:=y'
 obtain⟨qa,qc,rfl,-,-⟩:=Rh.out.at.form
 simp only[ae.val]
 have mo:Grow w5 (w5.alloc (.cells #[.int .u8 uk,.int .i64 un,.string us,.slice ua ul.length uc,.int .u8 qk,.int .i64 qn,.string qs,.slice qa ql.length qc] 40)):=(Mv.refl _ _).alloc _
 have HK:=Lib.hid (show aL (λc=>w.heap.size+1<=c) (w5.alloc (.cells #[.int .u8 uk,.int .i64 un,.string us,.slice ua ul.length uc,.int .u8 qk,.int .i64 qn,.string qs,.slice qa ql.length qc] 40)) (.mk 57 0 ⟨#[]⟩ (.slice (some ⟨w5.heap.size,0,none⟩) 2 2) [.mk uk un us (.slice ua ul.length uc) ul,.mk qk qn qs (.slice qa ql.length qc) ql])from iZ (by decide) ⟨by decide,by decide⟩ (by decide) (heap_alloc_new w5 (.cells #[.int .u8 uk,.int .i64 un,.string us,.slice ua ul.length uc,.int .u8 qk,.int .i64 qn,.string qs,.slice qa ql.length qc] 40)) Di.out rfl (by decide) (λx hx=>by
  rcases List.mem_cons.1 hx with rfl|hx
  · exact HY.out.later (gtr bG.out mo)
  · rw[List.mem_singleton.1 hx];exact Rh.out.later mo))
 have HC:=Lib.hid (D6 (w.heap.size+1) ⟨#[120]⟩ m m' (.slice (some ⟨w5.heap.size,0,none⟩) 2 2) [.mk uk un us (.slice ua ul.length uc) ul,.mk qk qn qs (.slice qa ql.length qc) ql] (w5.alloc (.cells #[.int .u8 uk,.int .i64 un,.string us,.slice ua ul.length uc,.int .u8 qk,.int .i64 qn,.string qs,.slice qa ql.length qc] 40)) (by decide) (bH mo Di.out) (HM.out.later (gtr (gtr aA.out (gtr bA.out bG.out)) mo)) (HM3.out.later (gtr (gtr bA.out bG.out) mo)) HK.out)
 have FD:=Lib.hid (gtr HG2.out (gtr (gtr aA.out (gtr bA.out bG.out)) mo))
 have HTT:=Lib.hid (show Tree.mk 54 0 ⟨#[120]⟩ [m.t,.mk 57 0 ⟨#[]⟩ (ae.ts [.mk uk un us (.slice ua ul.length uc) ul,.mk qk qn qs (.slice qa ql.length qc) ql]),m'.t]=NZ a b from by rw[hmt,hmt',ae.ts,ae.ts,ae.ts,mr,ZO];rfl)
 clear mo
 go_wp2_with fail
 refine HC.out.mono ?_
 rintro e w7 ⟨n,rfl,hn,hnt,JP⟩
 have hb:=ah HB0.out (gtr FD.out JP)
 have HG:=Lib.hid (gtr jM.out (gtr FD.out JP))
 have HN:=Lib.hid hn
 have HNT:=Lib.hid (hnt.trans HTT.out)
 obtain⟨nk,nn,ns,nv,nl⟩:=n
 obtain⟨na,nc,rfl,-,-⟩:=hn.at.form
 clear hn hnt JP HC
 simp only[ae.val]
 obtain⟨hs1,hs2⟩:=dH hb (.int .u8 nk) (.int .i64 nn) (.string ns) (.slice na nl.length nc)
 obtain⟨⟨c0,c1⟩,c2,c3⟩:=az hb
 have zt:=bB hb
 have hlb:=lt_of_block hb
 have jI:=Lib.hid hs1
 have fD:=Lib.hid (bM HG.out hs2 (λb e=>by omega))
 have Dh:=Lib.hid (HN.out.fill hs2 (by omega))
 clear hb hs1 hs2
 go_wp2_with fail
 obtain⟨⟨t0,t1⟩,t2,t3⟩:=az jI.out
 exact bodyPost_ret (v := .agg #[.int .u8 nk,.int .i64 nn,.string ns,.slice na nl.length nc]) (by simp[results,Tryz.results44,go_sem,t0,t1,t2,t3]) rfl ⟨.mk nk nn ns (.slice na nl.length nc) nl,rfl,Dh.out,HNT.out,fD.out⟩
end Go.Proofs.YtbpodipdfohikaaGreat
