import Derived.Test.YtnobahchcongnaaGreatF33
set_option linter.unusedSimpArgs false
set_option linter.unusedVariables false
set_option maxRecDepth 100000
set_option maxHeartbeats 25600000
namespace Go.Proofs.YtnobahchcongnaaGreat
open Go.RowKit Go.Instr
theorem YX (w:World) (G:Nat) (n:Int) (s:ByteArray) (kv:Value) (l:List ae) (hx:aS w (.mk 40 n s kv l)) (P:aI)
 (hC:∀ z,Grow w z->Calls Tryz.prog 81 #[.pointer (some ⟨G,0,none⟩),ae.val (.mk 40 n s kv l),.int .u8 1] z (bQ z P)) :
 Calls Tryz.prog 58 #[.pointer (some ⟨G,0,none⟩),ae.val (.mk 40 n s kv l)] w (bQ w P):=by
 obtain⟨ka,kc,rfl,hkc,hkl⟩:=hx.form;obtain⟨aJ,bB,HG2⟩:=a2 w (.cells #[.int .u8 40,.int .i64 n,.string s,.slice ka l.length kc] 26) (.cells #[.slice none 0 0,.slice none 0 0] 45);have HC:=ł hC;clear hx hC;simp only[ae.val]at HC ⊢
 go_enter Tryz.func58,Tryz.ntmps58
 obtain⟨⟨n0,n1⟩,n2,n3⟩:=aF aJ.out;have hln:=lt_of_block aJ.out;go_wp2_with fail;refine(HC.out _ HG2.out).mono ?_;rintro e w5 ⟨v,rfl,hp,hg⟩;generalize ((w.alloc (.cells #[.int .u8 40,.int .i64 n,.string s,.slice ka l.length kc] 26)).alloc (.cells #[.slice none 0 0,.slice none 0 0] 45))=w2 at *;clear n0 n1 n2 n3 hln HC;obtain⟨ja,jc,jr,bz,rfl,hr1,hr2⟩:=hp;have hrb:=ai bB.out hg;obtain⟨hs1,hs2⟩:=set2 hrb (.slice ja P.code.length jc) (.slice jr P.refs.length bz);have bC:=ł (ay.box (show ay w5 (.agg #[.slice ja P.code.length jc,.slice jr P.refs.length bz]) P from⟨_,_,_,_,rfl,hr1,hr2⟩) hrb hs2);have aQ:=ł ((gtr HG2.out hg).trans hs2 (λb e => .inr (by omega)));have HB:=ł hs1;obtain⟨c0,c1⟩:=aC hrb;have hlr:=lt_of_block hrb;have zt:=aD hrb;clear hs1 hs2 hr1 hr2 hg hrb;go_wp2_with fail;obtain⟨t0,t1⟩:=aC HB.out;exact bodyPost_ret (v := .agg #[.slice ja P.code.length jc,.slice jr P.refs.length bz]) (by simp[results,Tryz.results58,go_sem,t0,t1]) rfl ⟨_,rfl,bC.out,aQ.out⟩
theorem YY (w:World) (G:Nat) (n:Int) (s:ByteArray) (kv:Value) (l:List ae) (hx:aS w (.mk 41 n s kv l)) (P:aI)
 (hC:∀ z,Grow w z->Calls Tryz.prog 81 #[.pointer (some ⟨G,0,none⟩),ae.val (.mk 41 n s kv l),.int .u8 2] z (bQ z P)) :
 Calls Tryz.prog 58 #[.pointer (some ⟨G,0,none⟩),ae.val (.mk 41 n s kv l)] w (bQ w P):=by
 obtain⟨ka,kc,rfl,hkc,hkl⟩:=hx.form;obtain⟨aJ,bB,HG2⟩:=a2 w (.cells #[.int .u8 41,.int .i64 n,.string s,.slice ka l.length kc] 26) (.cells #[.slice none 0 0,.slice none 0 0] 45);have HC:=ł hC;clear hx hC;simp only[ae.val]at HC ⊢
 go_enter Tryz.func58,Tryz.ntmps58
 obtain⟨⟨n0,n1⟩,n2,n3⟩:=aF aJ.out;have hln:=lt_of_block aJ.out;go_wp2_with fail;refine(HC.out _ HG2.out).mono ?_;rintro e w5 ⟨v,rfl,hp,hg⟩;generalize ((w.alloc (.cells #[.int .u8 41,.int .i64 n,.string s,.slice ka l.length kc] 26)).alloc (.cells #[.slice none 0 0,.slice none 0 0] 45))=w2 at *;clear n0 n1 n2 n3 hln HC;obtain⟨ja,jc,jr,bz,rfl,hr1,hr2⟩:=hp;have hrb:=ai bB.out hg;obtain⟨hs1,hs2⟩:=set2 hrb (.slice ja P.code.length jc) (.slice jr P.refs.length bz);have bC:=ł (ay.box (show ay w5 (.agg #[.slice ja P.code.length jc,.slice jr P.refs.length bz]) P from⟨_,_,_,_,rfl,hr1,hr2⟩) hrb hs2);have aQ:=ł ((gtr HG2.out hg).trans hs2 (λb e => .inr (by omega)));have HB:=ł hs1;obtain⟨c0,c1⟩:=aC hrb;have hlr:=lt_of_block hrb;have zt:=aD hrb;clear hs1 hs2 hr1 hr2 hg hrb;go_wp2_with fail;obtain⟨t0,t1⟩:=aC HB.out;exact bodyPost_ret (v := .agg #[.slice ja P.code.length jc,.slice jr P.refs.length bz]) (by simp[results,Tryz.results58,go_sem,t0,t1]) rfl ⟨_,rfl,bC.out,aQ.out⟩
theorem YZ (w:World) (G:Nat) (n:Int) (s:ByteArray) (kv:Value) (l:List ae) (hx:aS w (.mk 42 n s kv l)) (P:aI)
 (hC:∀ z,Grow w z->Calls Tryz.prog 81 #[.pointer (some ⟨G,0,none⟩),ae.val (.mk 42 n s kv l),.int .u8 3] z (bQ z P)) :
 Calls Tryz.prog 58 #[.pointer (some ⟨G,0,none⟩),ae.val (.mk 42 n s kv l)] w (bQ w P):=by
 obtain⟨ka,kc,rfl,hkc,hkl⟩:=hx.form;obtain⟨aJ,bB,HG2⟩:=a2 w (.cells #[.int .u8 42,.int .i64 n,.string s,.slice ka l.length kc] 26) (.cells #[.slice none 0 0,.slice none 0 0] 45);have HC:=ł hC;clear hx hC;simp only[ae.val]at HC ⊢
 go_enter Tryz.func58,Tryz.ntmps58
 obtain⟨⟨n0,n1⟩,n2,n3⟩:=aF aJ.out;have hln:=lt_of_block aJ.out;go_wp2_with fail;refine(HC.out _ HG2.out).mono ?_;rintro e w5 ⟨v,rfl,hp,hg⟩;generalize ((w.alloc (.cells #[.int .u8 42,.int .i64 n,.string s,.slice ka l.length kc] 26)).alloc (.cells #[.slice none 0 0,.slice none 0 0] 45))=w2 at *;clear n0 n1 n2 n3 hln HC;obtain⟨ja,jc,jr,bz,rfl,hr1,hr2⟩:=hp;have hrb:=ai bB.out hg;obtain⟨hs1,hs2⟩:=set2 hrb (.slice ja P.code.length jc) (.slice jr P.refs.length bz);have bC:=ł (ay.box (show ay w5 (.agg #[.slice ja P.code.length jc,.slice jr P.refs.length bz]) P from⟨_,_,_,_,rfl,hr1,hr2⟩) hrb hs2);have aQ:=ł ((gtr HG2.out hg).trans hs2 (λb e => .inr (by omega)));have HB:=ł hs1;obtain⟨c0,c1⟩:=aC hrb;have hlr:=lt_of_block hrb;have zt:=aD hrb;clear hs1 hs2 hr1 hr2 hg hrb;go_wp2_with fail;obtain⟨t0,t1⟩:=aC HB.out;exact bodyPost_ret (v := .agg #[.slice ja P.code.length jc,.slice jr P.refs.length bz]) (by simp[results,Tryz.results58,go_sem,t0,t1]) rfl ⟨_,rfl,bC.out,aQ.out⟩
theorem Y0 (w:World) (G:Nat) (n:Int) (s:ByteArray) (kv:Value) (l:List ae) (hx:aS w (.mk 52 n s kv l)) (P:aI)
 (hC:∀ z,Grow w z->Calls Tryz.prog 86 #[.pointer (some ⟨G,0,none⟩),ae.val (.mk 52 n s kv l)] z (bQ z P)) :
 Calls Tryz.prog 58 #[.pointer (some ⟨G,0,none⟩),ae.val (.mk 52 n s kv l)] w (bQ w P):=by
 obtain⟨ka,kc,rfl,hkc,hkl⟩:=hx.form;obtain⟨aJ,bB,HG2⟩:=a2 w (.cells #[.int .u8 52,.int .i64 n,.string s,.slice ka l.length kc] 26) (.cells #[.slice none 0 0,.slice none 0 0] 45);have HC:=ł hC;clear hx hC;simp only[ae.val]at HC ⊢
 go_enter Tryz.func58,Tryz.ntmps58
 obtain⟨⟨n0,n1⟩,n2,n3⟩:=aF aJ.out;have hln:=lt_of_block aJ.out;go_wp2_with fail;refine(HC.out _ HG2.out).mono ?_;rintro e w5 ⟨v,rfl,hp,hg⟩;generalize ((w.alloc (.cells #[.int .u8 52,.int .i64 n,.string s,.slice ka l.length kc] 26)).alloc (.cells #[.slice none 0 0,.slice none 0 0] 45))=w2 at *;clear n0 n1 n2 n3 hln HC;obtain⟨ja,jc,jr,bz,rfl,hr1,hr2⟩:=hp;have hrb:=ai bB.out hg;obtain⟨hs1,hs2⟩:=set2 hrb (.slice ja P.code.length jc) (.slice jr P.refs.length bz);have bC:=ł (ay.box (show ay w5 (.agg #[.slice ja P.code.length jc,.slice jr P.refs.length bz]) P from⟨_,_,_,_,rfl,hr1,hr2⟩) hrb hs2);have aQ:=ł ((gtr HG2.out hg).trans hs2 (λb e => .inr (by omega)));have HB:=ł hs1;obtain⟨c0,c1⟩:=aC hrb;have hlr:=lt_of_block hrb;have zt:=aD hrb;clear hs1 hs2 hr1 hr2 hg hrb;go_wp2_with fail;obtain⟨t0,t1⟩:=aC HB.out;exact bodyPost_ret (v := .agg #[.slice ja P.code.length jc,.slice jr P.refs.length bz]) (by simp[results,Tryz.results58,go_sem,t0,t1]) rfl ⟨_,rfl,bC.out,aQ.out⟩
theorem Y1 (w:World) (G:Nat) (n:Int) (s:ByteArray) (kv:Value) (l:List ae) (hx:aS w (.mk 53 n s kv l)) (P:aI)
 (hC:∀ z,Grow w z->Calls Tryz.prog 87 #[.pointer (some ⟨G,0,none⟩),ae.val (.mk 53 n s kv l)] z (bQ z P)) :
 Calls Tryz.prog 58 #[.pointer (some ⟨G,0,none⟩),ae.val (.mk 53 n s kv l)] w (bQ w P):=by
 obtain⟨ka,kc,rfl,hkc,hkl⟩:=hx.form;obtain⟨aJ,bB,HG2⟩:=a2 w (.cells #[.int .u8 53,.int .i64 n,.string s,.slice ka l.length kc] 26) (.cells #[.slice none 0 0,.slice none 0 0] 45);have HC:=ł hC;clear hx hC;simp only[ae.val]at HC ⊢
 go_enter Tryz.func58,Tryz.ntmps58
 obtain⟨⟨n0,n1⟩,n2,n3⟩:=aF aJ.out;have hln:=lt_of_block aJ.out;go_wp2_with fail;refine(HC.out _ HG2.out).mono ?_;rintro e w5 ⟨v,rfl,hp,hg⟩;generalize ((w.alloc (.cells #[.int .u8 53,.int .i64 n,.string s,.slice ka l.length kc] 26)).alloc (.cells #[.slice none 0 0,.slice none 0 0] 45))=w2 at *;clear n0 n1 n2 n3 hln HC;obtain⟨ja,jc,jr,bz,rfl,hr1,hr2⟩:=hp;have hrb:=ai bB.out hg;obtain⟨hs1,hs2⟩:=set2 hrb (.slice ja P.code.length jc) (.slice jr P.refs.length bz);have bC:=ł (ay.box (show ay w5 (.agg #[.slice ja P.code.length jc,.slice jr P.refs.length bz]) P from⟨_,_,_,_,rfl,hr1,hr2⟩) hrb hs2);have aQ:=ł ((gtr HG2.out hg).trans hs2 (λb e => .inr (by omega)));have HB:=ł hs1;obtain⟨c0,c1⟩:=aC hrb;have hlr:=lt_of_block hrb;have zt:=aD hrb;clear hs1 hs2 hr1 hr2 hg hrb;go_wp2_with fail;obtain⟨t0,t1⟩:=aC HB.out;exact bodyPost_ret (v := .agg #[.slice ja P.code.length jc,.slice jr P.refs.length bz]) (by simp[results,Tryz.results58,go_sem,t0,t1]) rfl ⟨_,rfl,bC.out,aQ.out⟩
theorem Y2 (w:World) (G:Nat) (n:Int) (s:ByteArray) (kv:Value) (l:List ae) (hx:aS w (.mk 54 n s kv l)) (P:aI)
 (hC:∀ z,Grow w z->Calls Tryz.prog 88 #[.pointer (some ⟨G,0,none⟩),ae.val (.mk 54 n s kv l)] z (bQ z P)) :
 Calls Tryz.prog 58 #[.pointer (some ⟨G,0,none⟩),ae.val (.mk 54 n s kv l)] w (bQ w P):=by
 obtain⟨ka,kc,rfl,hkc,hkl⟩:=hx.form;obtain⟨aJ,bB,HG2⟩:=a2 w (.cells #[.int .u8 54,.int .i64 n,.string s,.slice ka l.length kc] 26) (.cells #[.slice none 0 0,.slice none 0 0] 45);have HC:=ł hC;clear hx hC;simp only[ae.val]at HC ⊢
 go_enter Tryz.func58,Tryz.ntmps58
 obtain⟨⟨n0,n1⟩,n2,n3⟩:=aF aJ.out;have hln:=lt_of_block aJ.out;go_wp2_with fail;refine(HC.out _ HG2.out).mono ?_;rintro e w5 ⟨v,rfl,hp,hg⟩;generalize ((w.alloc (.cells #[.int .u8 54,.int .i64 n,.string s,.slice ka l.length kc] 26)).alloc (.cells #[.slice none 0 0,.slice none 0 0] 45))=w2 at *;clear n0 n1 n2 n3 hln HC;obtain⟨ja,jc,jr,bz,rfl,hr1,hr2⟩:=hp;have hrb:=ai bB.out hg;obtain⟨hs1,hs2⟩:=set2 hrb (.slice ja P.code.length jc) (.slice jr P.refs.length bz);have bC:=ł (ay.box (show ay w5 (.agg #[.slice ja P.code.length jc,.slice jr P.refs.length bz]) P from⟨_,_,_,_,rfl,hr1,hr2⟩) hrb hs2);have aQ:=ł ((gtr HG2.out hg).trans hs2 (λb e => .inr (by omega)));have HB:=ł hs1;obtain⟨c0,c1⟩:=aC hrb;have hlr:=lt_of_block hrb;have zt:=aD hrb;clear hs1 hs2 hr1 hr2 hg hrb;go_wp2_with fail;obtain⟨t0,t1⟩:=aC HB.out;exact bodyPost_ret (v := .agg #[.slice ja P.code.length jc,.slice jr P.refs.length bz]) (by simp[results,Tryz.results58,go_sem,t0,t1]) rfl ⟨_,rfl,bC.out,aQ.out⟩
theorem Y3 (w:World) (G:Nat) (n:Int) (s:ByteArray) (kv:Value) (l:List ae) (hx:aS w (.mk 55 n s kv l)) (P:aI)
 (hC:∀ z,Grow w z->Calls Tryz.prog 89 #[.pointer (some ⟨G,0,none⟩),ae.val (.mk 55 n s kv l)] z (bQ z P)) :
 Calls Tryz.prog 58 #[.pointer (some ⟨G,0,none⟩),ae.val (.mk 55 n s kv l)] w (bQ w P):=by
 obtain⟨ka,kc,rfl,hkc,hkl⟩:=hx.form;obtain⟨aJ,bB,HG2⟩:=a2 w (.cells #[.int .u8 55,.int .i64 n,.string s,.slice ka l.length kc] 26) (.cells #[.slice none 0 0,.slice none 0 0] 45);have HC:=ł hC;clear hx hC;simp only[ae.val]at HC ⊢
 go_enter Tryz.func58,Tryz.ntmps58
 obtain⟨⟨n0,n1⟩,n2,n3⟩:=aF aJ.out;have hln:=lt_of_block aJ.out;go_wp2_with fail;refine(HC.out _ HG2.out).mono ?_;rintro e w5 ⟨v,rfl,hp,hg⟩;generalize ((w.alloc (.cells #[.int .u8 55,.int .i64 n,.string s,.slice ka l.length kc] 26)).alloc (.cells #[.slice none 0 0,.slice none 0 0] 45))=w2 at *;clear n0 n1 n2 n3 hln HC;obtain⟨ja,jc,jr,bz,rfl,hr1,hr2⟩:=hp;have hrb:=ai bB.out hg;obtain⟨hs1,hs2⟩:=set2 hrb (.slice ja P.code.length jc) (.slice jr P.refs.length bz);have bC:=ł (ay.box (show ay w5 (.agg #[.slice ja P.code.length jc,.slice jr P.refs.length bz]) P from⟨_,_,_,_,rfl,hr1,hr2⟩) hrb hs2);have aQ:=ł ((gtr HG2.out hg).trans hs2 (λb e => .inr (by omega)));have HB:=ł hs1;obtain⟨c0,c1⟩:=aC hrb;have hlr:=lt_of_block hrb;have zt:=aD hrb;clear hs1 hs2 hr1 hr2 hg hrb;go_wp2_with fail;obtain⟨t0,t1⟩:=aC HB.out;exact bodyPost_ret (v := .agg #[.slice ja P.code.length jc,.slice jr P.refs.length bz]) (by simp[results,Tryz.results58,go_sem,t0,t1]) rfl ⟨_,rfl,bC.out,aQ.out⟩
theorem Y4 (w:World) (G:Nat) (n:Int) (s:ByteArray) (kv:Value) (l:List ae) (hx:aS w (.mk 50 n s kv l)) (P:aI)
 (hC:∀ z,Grow w z->Calls Tryz.prog 90 #[.pointer (some ⟨G,0,none⟩),ae.val (.mk 50 n s kv l)] z (bQ z P)) :
 Calls Tryz.prog 58 #[.pointer (some ⟨G,0,none⟩),ae.val (.mk 50 n s kv l)] w (bQ w P):=by
 obtain⟨ka,kc,rfl,hkc,hkl⟩:=hx.form;obtain⟨aJ,bB,HG2⟩:=a2 w (.cells #[.int .u8 50,.int .i64 n,.string s,.slice ka l.length kc] 26) (.cells #[.slice none 0 0,.slice none 0 0] 45);have HC:=ł hC;clear hx hC;simp only[ae.val]at HC ⊢
 go_enter Tryz.func58,Tryz.ntmps58
 obtain⟨⟨n0,n1⟩,n2,n3⟩:=aF aJ.out;have hln:=lt_of_block aJ.out;go_wp2_with fail;refine(HC.out _ HG2.out).mono ?_;rintro e w5 ⟨v,rfl,hp,hg⟩;generalize ((w.alloc (.cells #[.int .u8 50,.int .i64 n,.string s,.slice ka l.length kc] 26)).alloc (.cells #[.slice none 0 0,.slice none 0 0] 45))=w2 at *;clear n0 n1 n2 n3 hln HC;obtain⟨ja,jc,jr,bz,rfl,hr1,hr2⟩:=hp;have hrb:=ai bB.out hg;obtain⟨hs1,hs2⟩:=set2 hrb (.slice ja P.code.length jc) (.slice jr P.refs.length bz);have bC:=ł (ay.box (show ay w5 (.agg #[.slice ja P.code.length jc,.slice jr P.refs.length bz]) P from⟨_,_,_,_,rfl,hr1,hr2⟩) hrb hs2);have aQ:=ł ((gtr HG2.out hg).trans hs2 (λb e => .inr (by omega)));have HB:=ł hs1;obtain⟨c0,c1⟩:=aC hrb;have hlr:=lt_of_block hrb;have zt:=aD hrb;clear hs1 hs2 hr1 hr2 hg hrb;go_wp2_with fail;obtain⟨t0,t1⟩:=aC HB.out;exact bodyPost_ret (v := .agg #[.slice ja P.code.length jc,.slice jr P.refs.length bz]) (by simp[results,Tryz.results58,go_sem,t0,t1]) rfl ⟨_,rfl,bC.out,aQ.out⟩
theorem Y5 (w:World) (G:Nat) (n:Int) (s:ByteArray) (kv:Value) (l:List ae) (hx:aS w (.mk 51 n s kv l)) (P:aI)
 (hC:∀ z,Grow w z->Calls Tryz.prog 90 #[.pointer (some ⟨G,0,none⟩),ae.val (.mk 51 n s kv l)] z (bQ z P)) :
 Calls Tryz.prog 58 #[.pointer (some ⟨G,0,none⟩),ae.val (.mk 51 n s kv l)] w (bQ w P):=by
 obtain⟨ka,kc,rfl,hkc,hkl⟩:=hx.form;obtain⟨aJ,bB,HG2⟩:=a2 w (.cells #[.int .u8 51,.int .i64 n,.string s,.slice ka l.length kc] 26) (.cells #[.slice none 0 0,.slice none 0 0] 45);have HC:=ł hC;clear hx hC;simp only[ae.val]at HC ⊢
 go_enter Tryz.func58,Tryz.ntmps58
 obtain⟨⟨n0,n1⟩,n2,n3⟩:=aF aJ.out;have hln:=lt_of_block aJ.out;go_wp2_with fail;refine(HC.out _ HG2.out).mono ?_;rintro e w5 ⟨v,rfl,hp,hg⟩;generalize ((w.alloc (.cells #[.int .u8 51,.int .i64 n,.string s,.slice ka l.length kc] 26)).alloc (.cells #[.slice none 0 0,.slice none 0 0] 45))=w2 at *;clear n0 n1 n2 n3 hln HC;obtain⟨ja,jc,jr,bz,rfl,hr1,hr2⟩:=hp;have hrb:=ai bB.out hg;obtain⟨hs1,hs2⟩:=set2 hrb (.slice ja P.code.length jc) (.slice jr P.refs.length bz);have bC:=ł (ay.box (show ay w5 (.agg #[.slice ja P.code.length jc,.slice jr P.refs.length bz]) P from⟨_,_,_,_,rfl,hr1,hr2⟩) hrb hs2);have aQ:=ł ((gtr HG2.out hg).trans hs2 (λb e => .inr (by omega)));have HB:=ł hs1;obtain⟨c0,c1⟩:=aC hrb;have hlr:=lt_of_block hrb;have zt:=aD hrb;clear hs1 hs2 hr1 hr2 hg hrb;go_wp2_with fail;obtain⟨t0,t1⟩:=aC HB.out;exact bodyPost_ret (v := .agg #[.slice ja P.code.length jc,.slice jr P.refs.length bz]) (by simp[results,Tryz.results58,go_sem,t0,t1]) rfl ⟨_,rfl,bC.out,aQ.out⟩
theorem Y6 (w:World) (G:Nat) (n:Int) (s:ByteArray) (kv:Value) (l:List ae) (hx:aS w (.mk 43 n s kv l)) (hl:1<l.length) (P:aI)
 (hC:∀ z,Grow w z->Calls Tryz.prog 82 #[.pointer (some ⟨G,0,none⟩),(l[0]).val,(l[1]).val] z (bQ z P)) :
 Calls Tryz.prog 58 #[.pointer (some ⟨G,0,none⟩),ae.val (.mk 43 n s kv l)] w (bQ w P):=by
 have hl0:0<l.length:=by omega
 obtain⟨kb,ko,kc,bF,-,-⟩:=hx.row.2.2.2.1.at hl0;subst bF;have hk0:=dO hx 0 hl0;have hk1:=dO hx 1 hl;simp only[Nat.zero_mul,Nat.one_mul,Nat.add_zero]at hk0 hk1;have fD:=ł hl;generalize l[0]=pp at *;generalize l[1]=qq at *;obtain⟨pk,pn,ps,pv,pl⟩:=pp;obtain⟨pa,pc,rfl,-,-⟩:=hk0.at_.form;obtain⟨qk,qn,qs,qv,ql⟩:=qq;obtain⟨qa,qc,rfl,-,-⟩:=hk1.at_.form;have jD:=ł hk0;have lV:=ł hk1;obtain⟨aJ,bB,HG2⟩:=a2 w (.cells #[.int .u8 43,.int .i64 n,.string s,.slice (some ⟨kb,ko,none⟩) l.length kc] 26) (.cells #[.slice none 0 0,.slice none 0 0] 45);have HC:=ł hC;clear hx hC hk0 hk1 hl hl0;simp only[ae.val]at HC ⊢
 go_enter Tryz.func58,Tryz.ntmps58
 obtain⟨⟨n0,n1⟩,n2,n3⟩:=aF aJ.out;have hln:=lt_of_block aJ.out;go_upto_region 9 with fail;generalize ((w.alloc (.cells #[.int .u8 43,.int .i64 n,.string s,.slice (some ⟨kb,ko,none⟩) l.length kc] 26)).alloc (.cells #[.slice none 0 0,.slice none 0 0] 45))=w2 at *;clear n0 n1 n2 n3 hln;have HK:=ł (λ(y:World) (hy:Grow w2 y)=>And.intro (ai aJ.out hy) (And.intro (jD.out.later (gtr HG2.out hy)) (lV.out.later (gtr HG2.out hy))));refine wg 125 [some 24,some 25,some 26,some 27,some 28,some 29,some 30,some 31,some 32,some 33,none] [[],[],[1],[2],[3],[],[5],[6],[7],[0,4,8],[9]] [] [.c (.pointer (some ⟨G,0,none⟩)),.c (.pointer (some ⟨w.heap.size,3,none⟩)),.c (.slice (some ⟨kb,ko,none⟩) l.length kc),.c (.pointer (some ⟨kb,ko,none⟩)),.c (.agg #[.int .u8 pk,.int .i64 pn,.string ps,.slice pa pl.length pc]),.c (.pointer (some ⟨w.heap.size,3,none⟩)),.c (.slice (some ⟨kb,ko,none⟩) l.length kc),.c (.pointer (some ⟨kb,(ko+4),none⟩)),.c (.agg #[.int .u8 qk,.int .i64 qn,.string qs,.slice qa ql.length qc]),.p (λv y=>ay y v (P)),.rs (w.heap.size+1) 9 #[.slice none 0 0,.slice none 0 0] 45] ⟨sP,trivial⟩ (iP (n:=10) rfl rfl (bB.out)) ?steps ?done
 case steps =>
  refine⟨?s0,?s1,?s2,?s3,?s4,?s5,?s6,?s7,?s8,?s9,?s10,trivial⟩
  case s0|s1|s5 =>
   refine oo (λvs x hP => ?_);simp only[zS];go_simp;exact gc
  case s2|s6 =>
   refine ok HK (λvs x hG HX hP => ?_);obtain⟨⟨n0,n1⟩,n2,n3⟩:=aF (HX.out.1);simp only[zS];go_simp;exact gc
  case s3 =>
   refine ok HK (λvs x hG HX hP => ?_);have hbd:0<l.length:=by have:=fD.out;omega
   simp only[zS];go_simp;exact gc
  case s4 =>
   refine ok HK (λvs x hG HX hP => ?_);obtain⟨⟨d0,d1⟩,d2,d3⟩:=(HX.out.2.1).four;simp only[zS];go_simp;exact gc
  case s7 =>
   refine ok HK (λvs x hG HX hP => ?_);have hbd:(1:Int)<(l.length:Nat):=by have:=fD.out;omega
   simp only[zS];go_simp;exact gc
  case s8 =>
   refine ok HK (λvs x hG HX hP => ?_);obtain⟨⟨d0,d1⟩,d2,d3⟩:=(HX.out.2.2).four;simp only[zS];go_simp;exact gc
  case s9 =>
   refine ok HK (λvs x hG HX hP => ?_);have HC:=ł (HC.out x (gtr HG2.out hG));simp only[zS];go_simp;refine(HC.out).mono ?_;rintro e y ⟨v,rfl,hp,hg⟩;exact⟨_,rfl,aZ hg hp⟩
  case s10 =>
   refine iQ (λvs x hb hv => ?_);obtain⟨fK,fM,gq,gu,h9,c9,f9⟩:=hv;obtain⟨c0,c1⟩:=aC hb;have zt:=aD hb;simp only[zS,h9];go_simp;exact set2 hb _ _
 case done =>
 intro vs w3 hE;obtain⟨fK,fM,gq,gu,h9,c9,f9⟩:=hE.val 9;have b10:=hE.res 10;simp only[zS,h9]at b10;simp only[zS,Nat.reduceAdd,h9];have HM:=ł (hE.last 10);have aQ:=ł (show Grow w w3 from Mv.trans HG2.out HM.out (λb e => .inr (by omega)));have bC:=ł (show ay w3 (.agg #[.slice fK (P).code.length fM,.slice gq (P).refs.length gu]) (P)from⟨fK,fM,gq,gu,rfl,c9,f9⟩);have HB:=ł b10;clear hE b10 HM c9 f9;simp only[bJ]at HB;go_wp2_with fail;obtain⟨t0,t1⟩:=aC HB.out;exact bodyPost_ret (v := .agg #[.slice fK (P).code.length fM,.slice gq (P).refs.length gu]) (by simp[results,Tryz.results58,go_sem,t0,t1]) rfl ⟨_,rfl,bC.out,aQ.out⟩
theorem Y7 (w:World) (G:Nat) (sv pv:Value) (f:az) (procs:List ak) (hg:gD w G sv pv f procs) (n:Int) (s:ByteArray) (kv:Value) (l:List ae) (hx:aS w (.mk 44 n s kv l)) (hl:0<l.length) (P:aI)
 (hC:∀ z,Grow w z->Calls Tryz.prog 83 #[.pointer (some ⟨G,0,none⟩),(l[0]).val,.agg #[.int .u8 12,.int .i64 5,.int .i64 (aj f s 3),.int .i64 0,.int .i64 0]] z (bQ z P)) :
 Calls Tryz.prog 58 #[.pointer (some ⟨G,0,none⟩),ae.val (.mk 44 n s kv l)] w (bQ w P):=by
 obtain⟨fa,fc,rfl,hfc,hfl⟩:=hg.fr.row.form;obtain⟨yD,yE,rfl,-,-⟩:=hg.pr.row.form;obtain⟨kb,ko,kc,bF,-,-⟩:=hx.row.2.2.2.1.at hl;subst bF;have hk0:=dO hx 0 hl;simp only[Nat.zero_mul,Nat.add_zero]at hk0;have fD:=ł hl;generalize l[0]=pp at *;obtain⟨pk,pn,ps,pv,pl⟩:=pp;obtain⟨pa,pc,rfl,-,-⟩:=hk0.at_.form;have jD:=ł hk0;obtain⟨aJ,bB,HG2⟩:=a2 w (.cells #[.int .u8 44,.int .i64 n,.string s,.slice (some ⟨kb,ko,none⟩) l.length kc] 26) (.cells #[.slice none 0 0,.slice none 0 0] 45);have HC:=ł hC;have aK:=ł hg;clear hg hx hC hk0 hl;simp only[ae.val]at HC ⊢
 go_enter Tryz.func58,Tryz.ntmps58
 obtain⟨⟨n0,n1⟩,n2,n3⟩:=aF aJ.out;have hln:=lt_of_block aJ.out;go_upto_region 11 with fail;generalize ((w.alloc (.cells #[.int .u8 44,.int .i64 n,.string s,.slice (some ⟨kb,ko,none⟩) l.length kc] 26)).alloc (.cells #[.slice none 0 0,.slice none 0 0] 45))=w2 at *;clear n0 n1 n2 n3 hln;have HK:=ł (λ(y:World) (hy:Grow w2 y)=>And.intro (ai aJ.out hy) (And.intro (jD.out.later (gtr HG2.out hy)) (aK.out.later (gtr HG2.out hy))));refine wg 125 [some 36,some 37,some 38,some 39,some 40,some 41,some 42,some 43,some 44,some 45,some 46,some 47,none] [[],[],[1],[2],[3],[],[],[6],[5,7],[8],[9],[0,4,10],[11]] [9] [.c (.pointer (some ⟨G,0,none⟩)),.c (.pointer (some ⟨w.heap.size,3,none⟩)),.c (.slice (some ⟨kb,ko,none⟩) l.length kc),.c (.pointer (some ⟨kb,ko,none⟩)),.c (.agg #[.int .u8 pk,.int .i64 pn,.string ps,.slice pa pl.length pc]),.c (.pointer (some ⟨G,0,none⟩)),.c (.pointer (some ⟨w.heap.size,2,none⟩)),.c (.string s),.c (.int .i64 (aj f s 3)),.p (λv y=>∃ g,v = .slice (some ⟨g,0,none⟩) 2 2/\y.heap[g]? = some (.cells #[.int .i64 5,.int .i64 (aj f s 3)] 3 (0,0))),.c (.agg #[.int .u8 12,.int .i64 5,.int .i64 (aj f s 3),.int .i64 0,.int .i64 0]),.p (λv y=>ay y v (P)),.rs (w.heap.size+1) 11 #[.slice none 0 0,.slice none 0 0] 45] ⟨sH,sP,trivial⟩ (iP (n:=12) rfl rfl (bB.out)) ?steps ?done
 case steps =>
  refine⟨?s0,?s1,?s2,?s3,?s4,?s5,?s6,?s7,?s8,?s9,?s10,?s11,?s12,trivial⟩
  case s0|s1|s5|s6 =>
   refine oo (λvs x hP => ?_);simp only[zS];go_simp;exact gc
  case s2 =>
   refine ok HK (λvs x hG HX hP => ?_);obtain⟨⟨n0,n1⟩,n2,n3⟩:=aF (HX.out.1);simp only[zS];go_simp;exact gc
  case s3 =>
   refine ok HK (λvs x hG HX hP => ?_);have hbd:0<l.length:=by have:=fD.out;omega
   simp only[zS];go_simp;exact gc
  case s4 =>
   refine ok HK (λvs x hG HX hP => ?_);obtain⟨⟨d0,d1⟩,d2,d3⟩:=(HX.out.2.1).four;simp only[zS];go_simp;exact gc
  case s7 =>
   refine ok HK (λvs x hG HX hP => ?_);obtain⟨⟨n0,n1⟩,n2,n3⟩:=aF HX.out.1;simp only[zS];go_simp;exact gc
  case s8 =>
   refine ok HK (λvs x hG HX hP => ?_);have rX:=ł (uG x G _ _ f procs HX.out.2.2 s 3);simp only[zS];go_simp;refine(rX.out).mono ?_;rintro e y ⟨rfl,hg⟩;exact⟨_,rfl,bu hg rfl⟩
  case s9 =>
   refine oo (λvs x hP => ?_);simp only[zS];go_simp;exact gl ⟨_,rfl,heap_alloc_new x _⟩
  case s10 =>
   refine ok HK (λvs x hG HX hP => ?_);obtain⟨g9,h9,b9⟩:=pq hP 9;have HC:=ł (fO 12 (5) ((aj f s 3)) g9 _ x b9);simp only[zS,h9];go_simp;refine(HC.out).mono ?_;rintro e y ⟨rfl,hg⟩;exact⟨_,rfl,bu hg rfl⟩
  case s11 =>
   refine ok HK (λvs x hG HX hP => ?_);have HC:=ł (HC.out x (gtr HG2.out hG));simp only[zS];go_simp;refine(HC.out).mono ?_;rintro e y ⟨v,rfl,hp,hg⟩;exact⟨_,rfl,aZ hg hp⟩
  case s12 =>
   refine iQ (λvs x hb hv => ?_);obtain⟨gH,gI,jw,jy,h11,c11,f11⟩:=hv;obtain⟨c0,c1⟩:=aC hb;have zt:=aD hb;simp only[zS,h11];go_simp;exact set2 hb _ _
 case done =>
 intro vs w3 hE;obtain⟨gH,gI,jw,jy,h11,c11,f11⟩:=hE.val 11;have b12:=hE.res 12;simp only[zS,h11]at b12;simp only[zS,Nat.reduceAdd,h11];have HM:=ł (hE.last 12);have aQ:=ł (show Grow w w3 from Mv.trans HG2.out HM.out (λb e => .inr (by omega)));have bC:=ł (show ay w3 (.agg #[.slice gH (P).code.length gI,.slice jw (P).refs.length jy]) (P)from⟨gH,gI,jw,jy,rfl,c11,f11⟩);have HB:=ł b12;clear hE b12 HM c11 f11;simp only[bJ]at HB;go_wp2_with fail;obtain⟨t0,t1⟩:=aC HB.out;exact bodyPost_ret (v := .agg #[.slice gH (P).code.length gI,.slice jw (P).refs.length jy]) (by simp[results,Tryz.results58,go_sem,t0,t1]) rfl ⟨_,rfl,bC.out,aQ.out⟩
theorem Y8 (w:World) (G:Nat) (sv pv:Value) (f:az) (procs:List ak) (hg:gD w G sv pv f procs) (n:Int) (s:ByteArray) (kv:Value) (l:List ae) (hx:aS w (.mk 45 n s kv l)) (hl:0<l.length) (P:aI)
 (hC:∀ z,Grow w z->Calls Tryz.prog 83 #[.pointer (some ⟨G,0,none⟩),(l[0]).val,.agg #[.int .u8 13,.int .i64 5,.int .i64 (aj f s 3),.int .i64 0,.int .i64 0]] z (bQ z P)) :
 Calls Tryz.prog 58 #[.pointer (some ⟨G,0,none⟩),ae.val (.mk 45 n s kv l)] w (bQ w P):=by
 obtain⟨fa,fc,rfl,hfc,hfl⟩:=hg.fr.row.form;obtain⟨yD,yE,rfl,-,-⟩:=hg.pr.row.form;obtain⟨kb,ko,kc,bF,-,-⟩:=hx.row.2.2.2.1.at hl;subst bF;have hk0:=dO hx 0 hl;simp only[Nat.zero_mul,Nat.add_zero]at hk0;have fD:=ł hl;generalize l[0]=pp at *;obtain⟨pk,pn,ps,pv,pl⟩:=pp;obtain⟨pa,pc,rfl,-,-⟩:=hk0.at_.form;have jD:=ł hk0;obtain⟨aJ,bB,HG2⟩:=a2 w (.cells #[.int .u8 45,.int .i64 n,.string s,.slice (some ⟨kb,ko,none⟩) l.length kc] 26) (.cells #[.slice none 0 0,.slice none 0 0] 45);have HC:=ł hC;have aK:=ł hg;clear hg hx hC hk0 hl;simp only[ae.val]at HC ⊢
 go_enter Tryz.func58,Tryz.ntmps58
 obtain⟨⟨n0,n1⟩,n2,n3⟩:=aF aJ.out;have hln:=lt_of_block aJ.out;go_upto_region 13 with fail;generalize ((w.alloc (.cells #[.int .u8 45,.int .i64 n,.string s,.slice (some ⟨kb,ko,none⟩) l.length kc] 26)).alloc (.cells #[.slice none 0 0,.slice none 0 0] 45))=w2 at *;clear n0 n1 n2 n3 hln;have HK:=ł (λ(y:World) (hy:Grow w2 y)=>And.intro (ai aJ.out hy) (And.intro (jD.out.later (gtr HG2.out hy)) (aK.out.later (gtr HG2.out hy))));refine wg 125 [some 50,some 51,some 52,some 53,some 54,some 55,some 56,some 57,some 58,some 59,some 60,some 61,none] [[],[],[1],[2],[3],[],[],[6],[5,7],[8],[9],[0,4,10],[11]] [9] [.c (.pointer (some ⟨G,0,none⟩)),.c (.pointer (some ⟨w.heap.size,3,none⟩)),.c (.slice (some ⟨kb,ko,none⟩) l.length kc),.c (.pointer (some ⟨kb,ko,none⟩)),.c (.agg #[.int .u8 pk,.int .i64 pn,.string ps,.slice pa pl.length pc]),.c (.pointer (some ⟨G,0,none⟩)),.c (.pointer (some ⟨w.heap.size,2,none⟩)),.c (.string s),.c (.int .i64 (aj f s 3)),.p (λv y=>∃ g,v = .slice (some ⟨g,0,none⟩) 2 2/\y.heap[g]? = some (.cells #[.int .i64 5,.int .i64 (aj f s 3)] 3 (0,0))),.c (.agg #[.int .u8 13,.int .i64 5,.int .i64 (aj f s 3),.int .i64 0,.int .i64 0]),.p (λv y=>ay y v (P)),.rs (w.heap.size+1) 11 #[.slice none 0 0,.slice none 0 0] 45] ⟨sH,sP,trivial⟩ (iP (n:=12) rfl rfl (bB.out)) ?steps ?done
 case steps =>
  refine⟨?s0,?s1,?s2,?s3,?s4,?s5,?s6,?s7,?s8,?s9,?s10,?s11,?s12,trivial⟩
  case s0|s1|s5|s6 =>
   refine oo (λvs x hP => ?_);simp only[zS];go_simp;exact gc
  case s2 =>
   refine ok HK (λvs x hG HX hP => ?_);obtain⟨⟨n0,n1⟩,n2,n3⟩:=aF (HX.out.1);simp only[zS];go_simp;exact gc
  case s3 =>
   refine ok HK (λvs x hG HX hP => ?_);have hbd:0<l.length:=by have:=fD.out;omega
   simp only[zS];go_simp;exact gc
  case s4 =>
   refine ok HK (λvs x hG HX hP => ?_);obtain⟨⟨d0,d1⟩,d2,d3⟩:=(HX.out.2.1).four;simp only[zS];go_simp;exact gc
  case s7 =>
   refine ok HK (λvs x hG HX hP => ?_);obtain⟨⟨n0,n1⟩,n2,n3⟩:=aF HX.out.1;simp only[zS];go_simp;exact gc
  case s8 =>
   refine ok HK (λvs x hG HX hP => ?_);have rX:=ł (uG x G _ _ f procs HX.out.2.2 s 3);simp only[zS];go_simp;refine(rX.out).mono ?_;rintro e y ⟨rfl,hg⟩;exact⟨_,rfl,bu hg rfl⟩
  case s9 =>
   refine oo (λvs x hP => ?_);simp only[zS];go_simp;exact gl ⟨_,rfl,heap_alloc_new x _⟩
  case s10 =>
   refine ok HK (λvs x hG HX hP => ?_);obtain⟨g9,h9,b9⟩:=pq hP 9;have HC:=ł (fO 13 (5) ((aj f s 3)) g9 _ x b9);simp only[zS,h9];go_simp;refine(HC.out).mono ?_;rintro e y ⟨rfl,hg⟩;exact⟨_,rfl,bu hg rfl⟩
  case s11 =>
   refine ok HK (λvs x hG HX hP => ?_);have HC:=ł (HC.out x (gtr HG2.out hG));simp only[zS];go_simp;refine(HC.out).mono ?_;rintro e y ⟨v,rfl,hp,hg⟩;exact⟨_,rfl,aZ hg hp⟩
  case s12 =>
   refine iQ (λvs x hb hv => ?_);obtain⟨gH,gI,jw,jy,h11,c11,f11⟩:=hv;obtain⟨c0,c1⟩:=aC hb;have zt:=aD hb;simp only[zS,h11];go_simp;exact set2 hb _ _
 case done =>
 intro vs w3 hE;obtain⟨gH,gI,jw,jy,h11,c11,f11⟩:=hE.val 11;have b12:=hE.res 12;simp only[zS,h11]at b12;simp only[zS,Nat.reduceAdd,h11];have HM:=ł (hE.last 12);have aQ:=ł (show Grow w w3 from Mv.trans HG2.out HM.out (λb e => .inr (by omega)));have bC:=ł (show ay w3 (.agg #[.slice gH (P).code.length gI,.slice jw (P).refs.length jy]) (P)from⟨gH,gI,jw,jy,rfl,c11,f11⟩);have HB:=ł b12;clear hE b12 HM c11 f11;simp only[bJ]at HB;go_wp2_with fail;obtain⟨t0,t1⟩:=aC HB.out;exact bodyPost_ret (v := .agg #[.slice gH (P).code.length gI,.slice jw (P).refs.length jy]) (by simp[results,Tryz.results58,go_sem,t0,t1]) rfl ⟨_,rfl,bC.out,aQ.out⟩
theorem Y9 (w:World) (G:Nat) (n:Int) (s:ByteArray) (kv:Value) (l:List ae) (hx:aS w (.mk 46 n s kv l)) (hl:0<l.length) (P:aI)
 (hC:∀ z,Grow w z->Calls Tryz.prog 83 #[.pointer (some ⟨G,0,none⟩),(l[0]).val,.agg #[.int .u8 17,.int .i64 5,.int .i64 0,.int .i64 0,.int .i64 0]] z (bQ z P)) :
 Calls Tryz.prog 58 #[.pointer (some ⟨G,0,none⟩),ae.val (.mk 46 n s kv l)] w (bQ w P):=by
 obtain⟨kb,ko,kc,bF,-,-⟩:=hx.row.2.2.2.1.at hl;subst bF;have hk0:=dO hx 0 hl;simp only[Nat.zero_mul,Nat.add_zero]at hk0;have fD:=ł hl;generalize l[0]=pp at *;obtain⟨pk,pn,ps,pv,pl⟩:=pp;obtain⟨pa,pc,rfl,-,-⟩:=hk0.at_.form;have jD:=ł hk0;obtain⟨aJ,bB,HG2⟩:=a2 w (.cells #[.int .u8 46,.int .i64 n,.string s,.slice (some ⟨kb,ko,none⟩) l.length kc] 26) (.cells #[.slice none 0 0,.slice none 0 0] 45);have HC:=ł hC;clear hx hC hk0 hl;simp only[ae.val]at HC ⊢
 go_enter Tryz.func58,Tryz.ntmps58
 obtain⟨⟨n0,n1⟩,n2,n3⟩:=aF aJ.out;have hln:=lt_of_block aJ.out;go_upto_region 15 with fail;generalize ((w.alloc (.cells #[.int .u8 46,.int .i64 n,.string s,.slice (some ⟨kb,ko,none⟩) l.length kc] 26)).alloc (.cells #[.slice none 0 0,.slice none 0 0] 45))=w2 at *;clear n0 n1 n2 n3 hln;have HK:=ł (λ(y:World) (hy:Grow w2 y)=>And.intro (ai aJ.out hy) (jD.out.later (gtr HG2.out hy)));refine wg 125 [some 64,some 65,some 66,some 67,some 68,some 69,some 70,some 71,none] [[],[],[1],[2],[3],[],[5],[0,4,6],[7]] [5] [.c (.pointer (some ⟨G,0,none⟩)),.c (.pointer (some ⟨w.heap.size,3,none⟩)),.c (.slice (some ⟨kb,ko,none⟩) l.length kc),.c (.pointer (some ⟨kb,ko,none⟩)),.c (.agg #[.int .u8 pk,.int .i64 pn,.string ps,.slice pa pl.length pc]),.p (λv y=>∃ g,v = .slice (some ⟨g,0,none⟩) 1 1/\y.heap[g]? = some (.cells #[.int .i64 5] 3 (0,0))),.c (.agg #[.int .u8 17,.int .i64 5,.int .i64 0,.int .i64 0,.int .i64 0]),.p (λv y=>ay y v (P)),.rs (w.heap.size+1) 7 #[.slice none 0 0,.slice none 0 0] 45] ⟨sH,sP,trivial⟩ (iP (n:=8) rfl rfl (bB.out)) ?steps ?done
 case steps =>
  refine⟨?s0,?s1,?s2,?s3,?s4,?s5,?s6,?s7,?s8,trivial⟩
  case s0|s1 =>
   refine oo (λvs x hP => ?_);simp only[zS];go_simp;exact gc
  case s2 =>
   refine ok HK (λvs x hG HX hP => ?_);obtain⟨⟨n0,n1⟩,n2,n3⟩:=aF (HX.out.1);simp only[zS];go_simp;exact gc
  case s3 =>
   refine ok HK (λvs x hG HX hP => ?_);have hbd:0<l.length:=by have:=fD.out;omega
   simp only[zS];go_simp;exact gc
  case s4 =>
   refine ok HK (λvs x hG HX hP => ?_);obtain⟨⟨d0,d1⟩,d2,d3⟩:=(HX.out.2).four;simp only[zS];go_simp;exact gc
  case s5 =>
   refine oo (λvs x hP => ?_);simp only[zS];go_simp;exact gl ⟨_,rfl,heap_alloc_new x _⟩
  case s6 =>
   refine ok HK (λvs x hG HX hP => ?_);obtain⟨g5,h5,b5⟩:=pq hP 5;have HC:=ł (vK 17 (5) g5 _ x b5);simp only[zS,h5];go_simp;refine(HC.out).mono ?_;rintro e y ⟨rfl,hg⟩;exact⟨_,rfl,bu hg rfl⟩
  case s7 =>
   refine ok HK (λvs x hG HX hP => ?_);have HC:=ł (HC.out x (gtr HG2.out hG));simp only[zS];go_simp;refine(HC.out).mono ?_;rintro e y ⟨v,rfl,hp,hg⟩;exact⟨_,rfl,aZ hg hp⟩
  case s8 =>
   refine iQ (λvs x hb hv => ?_);obtain⟨iX,iY,jC,jN,h7,c7,f7⟩:=hv;obtain⟨c0,c1⟩:=aC hb;have zt:=aD hb;simp only[zS,h7];go_simp;exact set2 hb _ _
 case done =>
 intro vs w3 hE;obtain⟨iX,iY,jC,jN,h7,c7,f7⟩:=hE.val 7;have b8:=hE.res 8;simp only[zS,h7]at b8;simp only[zS,Nat.reduceAdd,h7];have HM:=ł (hE.last 8);have aQ:=ł (show Grow w w3 from Mv.trans HG2.out HM.out (λb e => .inr (by omega)));have bC:=ł (show ay w3 (.agg #[.slice iX (P).code.length iY,.slice jC (P).refs.length jN]) (P)from⟨iX,iY,jC,jN,rfl,c7,f7⟩);have HB:=ł b8;clear hE b8 HM c7 f7;simp only[bJ]at HB;go_wp2_with fail;obtain⟨t0,t1⟩:=aC HB.out;exact bodyPost_ret (v := .agg #[.slice iX (P).code.length iY,.slice jC (P).refs.length jN]) (by simp[results,Tryz.results58,go_sem,t0,t1]) rfl ⟨_,rfl,bC.out,aQ.out⟩
theorem Za (w:World) (G:Nat) (n:Int) (s:ByteArray) (kv:Value) (l:List ae) (hx:aS w (.mk 47 n s kv l)) (hl:0<l.length) (P:aI)
 (hC:∀ z,Grow w z->Calls Tryz.prog 83 #[.pointer (some ⟨G,0,none⟩),(l[0]).val,.agg #[.int .u8 18,.int .i64 5,.int .i64 0,.int .i64 0,.int .i64 0]] z (bQ z P)) :
 Calls Tryz.prog 58 #[.pointer (some ⟨G,0,none⟩),ae.val (.mk 47 n s kv l)] w (bQ w P):=by
 obtain⟨kb,ko,kc,bF,-,-⟩:=hx.row.2.2.2.1.at hl;subst bF;have hk0:=dO hx 0 hl;simp only[Nat.zero_mul,Nat.add_zero]at hk0;have fD:=ł hl;generalize l[0]=pp at *;obtain⟨pk,pn,ps,pv,pl⟩:=pp;obtain⟨pa,pc,rfl,-,-⟩:=hk0.at_.form;have jD:=ł hk0;obtain⟨aJ,bB,HG2⟩:=a2 w (.cells #[.int .u8 47,.int .i64 n,.string s,.slice (some ⟨kb,ko,none⟩) l.length kc] 26) (.cells #[.slice none 0 0,.slice none 0 0] 45);have HC:=ł hC;clear hx hC hk0 hl;simp only[ae.val]at HC ⊢
 go_enter Tryz.func58,Tryz.ntmps58
 obtain⟨⟨n0,n1⟩,n2,n3⟩:=aF aJ.out;have hln:=lt_of_block aJ.out;go_upto_region 17 with fail;generalize ((w.alloc (.cells #[.int .u8 47,.int .i64 n,.string s,.slice (some ⟨kb,ko,none⟩) l.length kc] 26)).alloc (.cells #[.slice none 0 0,.slice none 0 0] 45))=w2 at *;clear n0 n1 n2 n3 hln;have HK:=ł (λ(y:World) (hy:Grow w2 y)=>And.intro (ai aJ.out hy) (jD.out.later (gtr HG2.out hy)));refine wg 125 [some 74,some 75,some 76,some 77,some 78,some 79,some 80,some 81,none] [[],[],[1],[2],[3],[],[5],[0,4,6],[7]] [5] [.c (.pointer (some ⟨G,0,none⟩)),.c (.pointer (some ⟨w.heap.size,3,none⟩)),.c (.slice (some ⟨kb,ko,none⟩) l.length kc),.c (.pointer (some ⟨kb,ko,none⟩)),.c (.agg #[.int .u8 pk,.int .i64 pn,.string ps,.slice pa pl.length pc]),.p (λv y=>∃ g,v = .slice (some ⟨g,0,none⟩) 1 1/\y.heap[g]? = some (.cells #[.int .i64 5] 3 (0,0))),.c (.agg #[.int .u8 18,.int .i64 5,.int .i64 0,.int .i64 0,.int .i64 0]),.p (λv y=>ay y v (P)),.rs (w.heap.size+1) 7 #[.slice none 0 0,.slice none 0 0] 45] ⟨sH,sP,trivial⟩ (iP (n:=8) rfl rfl (bB.out)) ?steps ?done
 case steps =>
  refine⟨?s0,?s1,?s2,?s3,?s4,?s5,?s6,?s7,?s8,trivial⟩
  case s0|s1 =>
   refine oo (λvs x hP => ?_);simp only[zS];go_simp;exact gc
  case s2 =>
   refine ok HK (λvs x hG HX hP => ?_);obtain⟨⟨n0,n1⟩,n2,n3⟩:=aF (HX.out.1);simp only[zS];go_simp;exact gc
  case s3 =>
   refine ok HK (λvs x hG HX hP => ?_);have hbd:0<l.length:=by have:=fD.out;omega
   simp only[zS];go_simp;exact gc
  case s4 =>
   refine ok HK (λvs x hG HX hP => ?_);obtain⟨⟨d0,d1⟩,d2,d3⟩:=(HX.out.2).four;simp only[zS];go_simp;exact gc
  case s5 =>
   refine oo (λvs x hP => ?_);simp only[zS];go_simp;exact gl ⟨_,rfl,heap_alloc_new x _⟩
  case s6 =>
   refine ok HK (λvs x hG HX hP => ?_);obtain⟨g5,h5,b5⟩:=pq hP 5;have HC:=ł (vK 18 (5) g5 _ x b5);simp only[zS,h5];go_simp;refine(HC.out).mono ?_;rintro e y ⟨rfl,hg⟩;exact⟨_,rfl,bu hg rfl⟩
  case s7 =>
   refine ok HK (λvs x hG HX hP => ?_);have HC:=ł (HC.out x (gtr HG2.out hG));simp only[zS];go_simp;refine(HC.out).mono ?_;rintro e y ⟨v,rfl,hp,hg⟩;exact⟨_,rfl,aZ hg hp⟩
  case s8 =>
   refine iQ (λvs x hb hv => ?_);obtain⟨iX,iY,jC,jN,h7,c7,f7⟩:=hv;obtain⟨c0,c1⟩:=aC hb;have zt:=aD hb;simp only[zS,h7];go_simp;exact set2 hb _ _
 case done =>
 intro vs w3 hE;obtain⟨iX,iY,jC,jN,h7,c7,f7⟩:=hE.val 7;have b8:=hE.res 8;simp only[zS,h7]at b8;simp only[zS,Nat.reduceAdd,h7];have HM:=ł (hE.last 8);have aQ:=ł (show Grow w w3 from Mv.trans HG2.out HM.out (λb e => .inr (by omega)));have bC:=ł (show ay w3 (.agg #[.slice iX (P).code.length iY,.slice jC (P).refs.length jN]) (P)from⟨iX,iY,jC,jN,rfl,c7,f7⟩);have HB:=ł b8;clear hE b8 HM c7 f7;simp only[bJ]at HB;go_wp2_with fail;obtain⟨t0,t1⟩:=aC HB.out;exact bodyPost_ret (v := .agg #[.slice iX (P).code.length iY,.slice jC (P).refs.length jN]) (by simp[results,Tryz.results58,go_sem,t0,t1]) rfl ⟨_,rfl,bC.out,aQ.out⟩
theorem Zb (w:World) (G:Nat) (n:Int) (s:ByteArray) (kv:Value) (l:List ae) (hx:aS w (.mk 48 n s kv l)) (hl:0<l.length) (P:aI)
 (hC:∀ z,Grow w z->Calls Tryz.prog 83 #[.pointer (some ⟨G,0,none⟩),(l[0]).val,.agg #[.int .u8 19,.int .i64 5,.int .i64 0,.int .i64 0,.int .i64 0]] z (bQ z P)) :
 Calls Tryz.prog 58 #[.pointer (some ⟨G,0,none⟩),ae.val (.mk 48 n s kv l)] w (bQ w P):=by
 obtain⟨kb,ko,kc,bF,-,-⟩:=hx.row.2.2.2.1.at hl;subst bF;have hk0:=dO hx 0 hl;simp only[Nat.zero_mul,Nat.add_zero]at hk0;have fD:=ł hl;generalize l[0]=pp at *;obtain⟨pk,pn,ps,pv,pl⟩:=pp;obtain⟨pa,pc,rfl,-,-⟩:=hk0.at_.form;have jD:=ł hk0;obtain⟨aJ,bB,HG2⟩:=a2 w (.cells #[.int .u8 48,.int .i64 n,.string s,.slice (some ⟨kb,ko,none⟩) l.length kc] 26) (.cells #[.slice none 0 0,.slice none 0 0] 45);have HC:=ł hC;clear hx hC hk0 hl;simp only[ae.val]at HC ⊢
 go_enter Tryz.func58,Tryz.ntmps58
 obtain⟨⟨n0,n1⟩,n2,n3⟩:=aF aJ.out;have hln:=lt_of_block aJ.out;go_upto_region 19 with fail;generalize ((w.alloc (.cells #[.int .u8 48,.int .i64 n,.string s,.slice (some ⟨kb,ko,none⟩) l.length kc] 26)).alloc (.cells #[.slice none 0 0,.slice none 0 0] 45))=w2 at *;clear n0 n1 n2 n3 hln;have HK:=ł (λ(y:World) (hy:Grow w2 y)=>And.intro (ai aJ.out hy) (jD.out.later (gtr HG2.out hy)));refine wg 125 [some 84,some 85,some 86,some 87,some 88,some 89,some 90,some 91,none] [[],[],[1],[2],[3],[],[5],[0,4,6],[7]] [5] [.c (.pointer (some ⟨G,0,none⟩)),.c (.pointer (some ⟨w.heap.size,3,none⟩)),.c (.slice (some ⟨kb,ko,none⟩) l.length kc),.c (.pointer (some ⟨kb,ko,none⟩)),.c (.agg #[.int .u8 pk,.int .i64 pn,.string ps,.slice pa pl.length pc]),.p (λv y=>∃ g,v = .slice (some ⟨g,0,none⟩) 1 1/\y.heap[g]? = some (.cells #[.int .i64 5] 3 (0,0))),.c (.agg #[.int .u8 19,.int .i64 5,.int .i64 0,.int .i64 0,.int .i64 0]),.p (λv y=>ay y v (P)),.rs (w.heap.size+1) 7 #[.slice none 0 0,.slice none 0 0] 45] ⟨sH,sP,trivial⟩ (iP (n:=8) rfl rfl (bB.out)) ?steps ?done
 case steps =>
  refine⟨?s0,?s1,?s2,?s3,?s4,?s5,?s6,?s7,?s8,trivial⟩
  case s0|s1 =>
   refine oo (λvs x hP => ?_);simp only[zS];go_simp;exact gc
  case s2 =>
   refine ok HK (λvs x hG HX hP => ?_);obtain⟨⟨n0,n1⟩,n2,n3⟩:=aF (HX.out.1);simp only[zS];go_simp;exact gc
  case s3 =>
   refine ok HK (λvs x hG HX hP => ?_);have hbd:0<l.length:=by have:=fD.out;omega
   simp only[zS];go_simp;exact gc
  case s4 =>
   refine ok HK (λvs x hG HX hP => ?_);obtain⟨⟨d0,d1⟩,d2,d3⟩:=(HX.out.2).four;simp only[zS];go_simp;exact gc
  case s5 =>
   refine oo (λvs x hP => ?_);simp only[zS];go_simp;exact gl ⟨_,rfl,heap_alloc_new x _⟩
  case s6 =>
   refine ok HK (λvs x hG HX hP => ?_);obtain⟨g5,h5,b5⟩:=pq hP 5;have HC:=ł (vK 19 (5) g5 _ x b5);simp only[zS,h5];go_simp;refine(HC.out).mono ?_;rintro e y ⟨rfl,hg⟩;exact⟨_,rfl,bu hg rfl⟩
  case s7 =>
   refine ok HK (λvs x hG HX hP => ?_);have HC:=ł (HC.out x (gtr HG2.out hG));simp only[zS];go_simp;refine(HC.out).mono ?_;rintro e y ⟨v,rfl,hp,hg⟩;exact⟨_,rfl,aZ hg hp⟩
  case s8 =>
   refine iQ (λvs x hb hv => ?_);obtain⟨iX,iY,jC,jN,h7,c7,f7⟩:=hv;obtain⟨c0,c1⟩:=aC hb;have zt:=aD hb;simp only[zS,h7];go_simp;exact set2 hb _ _
 case done =>
 intro vs w3 hE;obtain⟨iX,iY,jC,jN,h7,c7,f7⟩:=hE.val 7;have b8:=hE.res 8;simp only[zS,h7]at b8;simp only[zS,Nat.reduceAdd,h7];have HM:=ł (hE.last 8);have aQ:=ł (show Grow w w3 from Mv.trans HG2.out HM.out (λb e => .inr (by omega)));have bC:=ł (show ay w3 (.agg #[.slice iX (P).code.length iY,.slice jC (P).refs.length jN]) (P)from⟨iX,iY,jC,jN,rfl,c7,f7⟩);have HB:=ł b8;clear hE b8 HM c7 f7;simp only[bJ]at HB;go_wp2_with fail;obtain⟨t0,t1⟩:=aC HB.out;exact bodyPost_ret (v := .agg #[.slice iX (P).code.length iY,.slice jC (P).refs.length jN]) (by simp[results,Tryz.results58,go_sem,t0,t1]) rfl ⟨_,rfl,bC.out,aQ.out⟩
theorem Zc (w:World) (G:Nat) (n:Int) (s:ByteArray) (kv:Value) (l:List ae) (hx:aS w (.mk 49 n s kv l)) (hl:0<l.length) (P:aI)
 (hC:∀ z,Grow w z->Calls Tryz.prog 83 #[.pointer (some ⟨G,0,none⟩),(l[0]).val,.agg #[.int .u8 20,.int .i64 5,.int .i64 0,.int .i64 0,.int .i64 0]] z (bQ z P)) :
 Calls Tryz.prog 58 #[.pointer (some ⟨G,0,none⟩),ae.val (.mk 49 n s kv l)] w (bQ w P):=by
 obtain⟨kb,ko,kc,bF,-,-⟩:=hx.row.2.2.2.1.at hl;subst bF;have hk0:=dO hx 0 hl;simp only[Nat.zero_mul,Nat.add_zero]at hk0;have fD:=ł hl;generalize l[0]=pp at *;obtain⟨pk,pn,ps,pv,pl⟩:=pp;obtain⟨pa,pc,rfl,-,-⟩:=hk0.at_.form;have jD:=ł hk0;obtain⟨aJ,bB,HG2⟩:=a2 w (.cells #[.int .u8 49,.int .i64 n,.string s,.slice (some ⟨kb,ko,none⟩) l.length kc] 26) (.cells #[.slice none 0 0,.slice none 0 0] 45);have HC:=ł hC;clear hx hC hk0 hl;simp only[ae.val]at HC ⊢
 go_enter Tryz.func58,Tryz.ntmps58
 obtain⟨⟨n0,n1⟩,n2,n3⟩:=aF aJ.out;have hln:=lt_of_block aJ.out;go_upto_region 21 with fail;generalize ((w.alloc (.cells #[.int .u8 49,.int .i64 n,.string s,.slice (some ⟨kb,ko,none⟩) l.length kc] 26)).alloc (.cells #[.slice none 0 0,.slice none 0 0] 45))=w2 at *;clear n0 n1 n2 n3 hln;have HK:=ł (λ(y:World) (hy:Grow w2 y)=>And.intro (ai aJ.out hy) (jD.out.later (gtr HG2.out hy)));refine wg 125 [some 94,some 95,some 96,some 97,some 98,some 99,some 100,some 101,none] [[],[],[1],[2],[3],[],[5],[0,4,6],[7]] [5] [.c (.pointer (some ⟨G,0,none⟩)),.c (.pointer (some ⟨w.heap.size,3,none⟩)),.c (.slice (some ⟨kb,ko,none⟩) l.length kc),.c (.pointer (some ⟨kb,ko,none⟩)),.c (.agg #[.int .u8 pk,.int .i64 pn,.string ps,.slice pa pl.length pc]),.p (λv y=>∃ g,v = .slice (some ⟨g,0,none⟩) 1 1/\y.heap[g]? = some (.cells #[.int .i64 5] 3 (0,0))),.c (.agg #[.int .u8 20,.int .i64 5,.int .i64 0,.int .i64 0,.int .i64 0]),.p (λv y=>ay y v (P)),.rs (w.heap.size+1) 7 #[.slice none 0 0,.slice none 0 0] 45] ⟨sH,sP,trivial⟩ (iP (n:=8) rfl rfl (bB.out)) ?steps ?done
 case steps =>
  refine⟨?s0,?s1,?s2,?s3,?s4,?s5,?s6,?s7,?s8,trivial⟩
  case s0|s1 =>
   refine oo (λvs x hP => ?_);simp only[zS];go_simp;exact gc
  case s2 =>
   refine ok HK (λvs x hG HX hP => ?_);obtain⟨⟨n0,n1⟩,n2,n3⟩:=aF (HX.out.1);simp only[zS];go_simp;exact gc
  case s3 =>
   refine ok HK (λvs x hG HX hP => ?_);have hbd:0<l.length:=by have:=fD.out;omega
   simp only[zS];go_simp;exact gc
  case s4 =>
   refine ok HK (λvs x hG HX hP => ?_);obtain⟨⟨d0,d1⟩,d2,d3⟩:=(HX.out.2).four;simp only[zS];go_simp;exact gc
  case s5 =>
   refine oo (λvs x hP => ?_);simp only[zS];go_simp;exact gl ⟨_,rfl,heap_alloc_new x _⟩
  case s6 =>
   refine ok HK (λvs x hG HX hP => ?_);obtain⟨g5,h5,b5⟩:=pq hP 5;have HC:=ł (vK 20 (5) g5 _ x b5);simp only[zS,h5];go_simp;refine(HC.out).mono ?_;rintro e y ⟨rfl,hg⟩;exact⟨_,rfl,bu hg rfl⟩
  case s7 =>
   refine ok HK (λvs x hG HX hP => ?_);have HC:=ł (HC.out x (gtr HG2.out hG));simp only[zS];go_simp;refine(HC.out).mono ?_;rintro e y ⟨v,rfl,hp,hg⟩;exact⟨_,rfl,aZ hg hp⟩
  case s8 =>
   refine iQ (λvs x hb hv => ?_);obtain⟨iX,iY,jC,jN,h7,c7,f7⟩:=hv;obtain⟨c0,c1⟩:=aC hb;have zt:=aD hb;simp only[zS,h7];go_simp;exact set2 hb _ _
 case done =>
 intro vs w3 hE;obtain⟨iX,iY,jC,jN,h7,c7,f7⟩:=hE.val 7;have b8:=hE.res 8;simp only[zS,h7]at b8;simp only[zS,Nat.reduceAdd,h7];have HM:=ł (hE.last 8);have aQ:=ł (show Grow w w3 from Mv.trans HG2.out HM.out (λb e => .inr (by omega)));have bC:=ł (show ay w3 (.agg #[.slice iX (P).code.length iY,.slice jC (P).refs.length jN]) (P)from⟨iX,iY,jC,jN,rfl,c7,f7⟩);have HB:=ł b8;clear hE b8 HM c7 f7;simp only[bJ]at HB;go_wp2_with fail;obtain⟨t0,t1⟩:=aC HB.out;exact bodyPost_ret (v := .agg #[.slice iX (P).code.length iY,.slice jC (P).refs.length jN]) (by simp[results,Tryz.results58,go_sem,t0,t1]) rfl ⟨_,rfl,bC.out,aQ.out⟩
end Go.Proofs.YtnobahchcongnaaGreat
