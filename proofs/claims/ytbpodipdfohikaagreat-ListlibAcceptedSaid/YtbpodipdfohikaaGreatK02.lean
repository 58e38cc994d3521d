import Derived.Test.YtbpodipdfohikaaGreatK01
import Derived.Lib.Strings
set_option linter.unusedSimpArgs false
set_option linter.unusedVariables false
set_option maxRecDepth 100000
set_option maxHeartbeats 25600000
namespace Go.Proofs.YtbpodipdfohikaaGreat
section
open Go.RowKit Go.Instr
def XA (w:World) (e:Ending) (w':World):Prop:=∃ n:Int,e = .returned (.int .i64 n)/\w=w'
theorem XB (s p:ByteArray) (w:World):∃ b:Bool,Calls Tryz.prog 91 #[.string s,.string p] w λe w'=>e = .returned (.bool b)/\w=w' :=
 ⟨_,(Tryz.strings_HasPrefix s p w).mono λ_ _ h=>⟨h.1,h.2.symm⟩⟩
theorem XC (s:ByteArray) (c:Int) (w:World):∃ n:Int,Calls Tryz.prog 92 #[.string s,.int .u8 c] w λe w'=>e = .returned (.int .i64 n)/\w=w' :=
 ⟨_,(Tryz.strings_IndexByte s c w).mono λ_ _ h=>⟨h.1,h.2.symm⟩⟩
set_option maxRecDepth 100000 in
set_option maxHeartbeats 1600000 in
theorem Wh (s:ByteArray) (w:World) (h1:1<=s.size) (hs:s.size<=16):Calls Tryz.prog 69 #[.string s] w (XA w):=by
 obtain⟨b,hb⟩:=XB s ⟨#[60,61,62]⟩ w
 have HB:=Lib.hid hb
 clear hb
 go_enter Tryz.func69,Tryz.ntmps69
 go_wp2_with (first
  |(go_at_call 91;refine HB.out.mono ?_;rintro e w' ⟨rfl,rfl⟩)
  |(go_at_call 92;refine(XC _ _ _).choose_spec.mono ?_;rintro e w' ⟨rfl,rfl⟩))
 all_goals (go_ret;exact⟨_,rfl,rfl⟩)
def Nv:List ByteArray:=[⟨#[105,110,116]⟩,⟨#[97,114,114,97,121]⟩,⟨#[115,116,97,99,107]⟩,⟨#[112,114,111,99]⟩,⟨#[109,97,105,110]⟩,⟨#[112,117,115,104]⟩,⟨#[112,111,112]⟩,⟨#[114,101,97,100]⟩,⟨#[117,110,114,101,97,100]⟩,⟨#[119,114,105,116,101]⟩,⟨#[117,110,119,114,105,116,101]⟩,⟨#[99,97,108,108]⟩,⟨#[117,110,99,97,108,108]⟩,⟨#[105,102]⟩,⟨#[101,108,115,101]⟩,⟨#[102,105]⟩,⟨#[102,114,111,109]⟩,⟨#[108,111,111,112]⟩,⟨#[117,110,116,105,108]⟩,⟨#[108,111,99,97,108]⟩,⟨#[100,101,108,111,99,97,108]⟩,⟨#[116,111,112]⟩,⟨#[115,105,122,101]⟩]
def Ic:List (ByteArray × Value):=Nv.foldl (λl k=>mO k (.bool true) l) []
def Ao (s:ByteArray):Bool:=(EK Ic s).isSome
theorem Lj {κ:Type} [BEq κ] [LawfulBEq κ] (k:κ):∀ (l:List (κ × Value)) (i:Nat),(∀ p∈l,p.2 = .bool true)->((iI k l i).map (·.2)).getD (.bool false) = .bool ((iI k l i).map (·.2)).isSome
 | [],i,_=>rfl
 |(a,x) :: l,i,h=>by
  simp only[iI]
  split
  · have:=h (a,x) (by simp);simp only at this;subst this;rfl
  · exact Lj k l (i+1) (λp hp=>h p (by simp[hp]))
theorem Ll {κ:Type} [BEq κ] [LawfulBEq κ] (k:κ):∀ (l:List (κ × Value)),(∀ p∈l,p.2 = .bool true)->∀ p∈mO k (.bool true) l,p.2 = .bool true
 | [],_,p,hp=>by simp[mO]at hp;subst hp;rfl
 |(a,x) :: l,h,p,hp=>by
  simp only[mO]at hp
  split at hp
  · rcases List.mem_cons.1 hp with rfl|hp
    · rfl
    · exact h p (by simp[hp])
  · rcases List.mem_cons.1 hp with rfl|hp
    · exact h _ (by simp)
    · exact Ll k l (λq hq=>h q (by simp[hq])) p hp
theorem Vh (ks:List ByteArray):∀ (l:List (ByteArray × Value)),(∀ p∈l,p.2 = .bool true)->∀ p∈ks.foldl (λl k=>mO k (.bool true) l) l,p.2 = .bool true:=by
 induction ks with
 |nil=>intro l h;exact h
 |cons k ks ih=>intro l h;exact ih _ (Ll k l h)
theorem Tryz.gI:KeyLaw Tryz.prog 9 Value.string .string:=Xw Tryz.underlying9
theorem Tryz.Wi (w:World):(zeroValue 4).run Tryz.prog w = .ok (.bool false) w:=by kernel_rfl
theorem gU {P:Program} {κ:Type} [BEq κ] [LawfulBEq κ] {enc:κ->Value} {desc:TypeDesc} {K T E:TypeId} {w:World} {ops:Array Oper} {rest:List Oper} {o:Oper} {a:Act} {Q:Exit->Act->World->Prop}
 (L:KeyLaw P K enc desc) (ht:P.underlying T=some (.map K E)) (r:Nat) (l:List (κ × Value)) (k:κ) (v:Value) (h:MapAt enc w r l) (m:Tmp) (kc vc:Value) (hgd:o.guard=none) (ho:o.op = .insert T (.tmp m) (.const kc) (.const vc)) (hm:a.eval (.tmp m) = .map (some r)) (hk:kc=enc k) (hv:vc=v)
 (hnext:∀ w',MapAt enc w' r (mO k v l)->Mv (λb=>b=r) w w'->wpList P ops Q rest (a.put o.dst undef) w'):wpList P ops Q (o :: rest) a w :=
 wpList_plain hgd λ_ hK=>by
  obtain⟨w',hr,h2,h3⟩:=run_set (P:=P) L ht k v h
  subst hk hv
  unfold Oper.wp execOp
  simp only[ho,Act.eval,Sem.run_bind,Sem.run_pure,Result.andThen_ok]at hm ⊢
  simp only[hm,hr,Result.andThen_ok]
  exact hK _ _ (hnext w' h2 h3)
set_option maxRecDepth 100000 in
set_option maxHeartbeats 1600000 in
theorem TN (s:ByteArray) (w:World) (hs:s.size<=1000000000):Calls Tryz.prog 47 #[.string s] w λe w'=>e = .returned (.bool (decide (2<=s.size) && (decide (s.size<=7) && Ao s)))/\Mv (λ_=>False) w w':=by
 by_cases h2:2<=s.size
 · by_cases h7:s.size<=7
   · have hmm := @run_makeMap Tryz.prog
     have H0:MapAt Value.string (w.alloc (.map #[] 0)) w.heap.size []:=MapAt.new _ w
     have M0:Mv (λb=>b=w.heap.size) w (w.alloc (.map #[] 0)):=(Mv.refl _ _).alloc _
     go_enter Tryz.func47,Tryz.ntmps47
     go_wp2_with (refine gU Tryz.gI Tryz.underlying110 w.heap.size _ ⟨#[105,110,116]⟩ (.bool true) H0 _ _ _ rfl rfl rfl rfl rfl ?_)
     intro w1 H1 N1
     have M1:=M0.trans N1 (λ_ e => .inl e)
     clear H0 M0 N1
     go_wp2_with (refine gU Tryz.gI Tryz.underlying110 w.heap.size _ ⟨#[97,114,114,97,121]⟩ (.bool true) H1 _ _ _ rfl rfl rfl rfl rfl ?_)
     intro w2 H2 N2
     have M2:=M1.trans N2 (λ_ e => .inl e)
     clear H1 M1 N2
     go_wp2_with (refine gU Tryz.gI Tryz.underlying110 w.heap.size _ ⟨#[115,116,97,99,107]⟩ (.bool true) H2 _ _ _ rfl rfl rfl rfl rfl ?_)
     intro w3 H3 N3
     have M3:=M2.trans N3 (λ_ e => .inl e)
     clear H2 M2 N3
     go_wp2_with (refine gU Tryz.gI Tryz.underlying110 w.heap.size _ ⟨#[112,114,111,99]⟩ (.bool true) H3 _ _ _ rfl rfl rfl rfl rfl ?_)
     intro w4 H4 N4
     have M4:=M3.trans N4 (λ_ e => .inl e)
     clear H3 M3 N4
     go_wp2_with (refine gU Tryz.gI Tryz.underlying110 w.heap.size _ ⟨#[109,97,105,110]⟩ (.bool true) H4 _ _ _ rfl rfl rfl rfl rfl ?_)
     intro w5 H5 N5
     have M5:=M4.trans N5 (λ_ e => .inl e)
     clear H4 M4 N5
     go_wp2_with (refine gU Tryz.gI Tryz.underlying110 w.heap.size _ ⟨#[112,117,115,104]⟩ (.bool true) H5 _ _ _ rfl rfl rfl rfl rfl ?_)
     intro w6 H6 N6
     have M6:=M5.trans N6 (λ_ e => .inl e)
     clear H5 M5 N6
     go_wp2_with (refine gU Tryz.gI Tryz.underlying110 w.heap.size _ ⟨#[112,111,112]⟩ (.bool true) H6 _ _ _ rfl rfl rfl rfl rfl ?_)
     intro w7 H7 N7
     have M7:=M6.trans N7 (λ_ e => .inl e)
     clear H6 M6 N7
     go_wp2_with (refine gU Tryz.gI Tryz.underlying110 w.heap.size _ ⟨#[114,101,97,100]⟩ (.bool true) H7 _ _ _ rfl rfl rfl rfl rfl ?_)
     intro w8 H8 N8
     have M8:=M7.trans N8 (λ_ e => .inl e)
     clear H7 M7 N8
     go_wp2_with (refine gU Tryz.gI Tryz.underlying110 w.heap.size _ ⟨#[117,110,114,101,97,100]⟩ (.bool true) H8 _ _ _ rfl rfl rfl rfl rfl ?_)
     intro w9 H9 N9
     have M9:=M8.trans N9 (λ_ e => .inl e)
     clear H8 M8 N9
     go_wp2_with (refine gU Tryz.gI Tryz.underlying110 w.heap.size _ ⟨#[119,114,105,116,101]⟩ (.bool true) H9 _ _ _ rfl rfl rfl rfl rfl ?_)
     intro CG Pt Pv
     have Ap:=M9.trans Pv (λ_ e => .inl e)
     clear H9 M9 Pv
     go_wp2_with (refine gU Tryz.gI Tryz.underlying110 w.heap.size _ ⟨#[117,110,119,114,105,116,101]⟩ (.bool true) Pt _ _ _ rfl rfl rfl rfl rfl ?_)
     intro _w Pw Px
     have Py:=Ap.trans Px (λ_ e => .inl e)
     clear Pt Ap Px
     go_wp2_with (refine gU Tryz.gI Tryz.underlying110 w.heap.size _ ⟨#[99,97,108,108]⟩ (.bool true) Pw _ _ _ rfl rfl rfl rfl rfl ?_)
     intro Pz PD PE
     have PG:=Py.trans PE (λ_ e => .inl e)
     clear Pw Py PE
     go_wp2_with (refine gU Tryz.gI Tryz.underlying110 w.heap.size _ ⟨#[117,110,99,97,108,108]⟩ (.bool true) PD _ _ _ rfl rfl rfl rfl rfl ?_)
     intro w13 PH PI
     have PK:=PG.trans PI (λ_ e => .inl e)
     clear PD PG PI
     go_wp2_with (refine gU Tryz.gI Tryz.underlying110 w.heap.size _ ⟨#[105,102]⟩ (.bool true) PH _ _ _ rfl rfl rfl rfl rfl ?_)
     intro w14 PL PM
     have PN:=PK.trans PM (λ_ e => .inl e)
     clear PH PK PM
     go_wp2_with (refine gU Tryz.gI Tryz.underlying110 w.heap.size _ ⟨#[101,108,115,101]⟩ (.bool true) PL _ _ _ rfl rfl rfl rfl rfl ?_)
     intro w15 PO PQ
     have PR:=PN.trans PQ (λ_ e => .inl e)
     clear PL PN PQ
     go_wp2_with (refine gU Tryz.gI Tryz.underlying110 w.heap.size _ ⟨#[102,105]⟩ (.bool true) PO _ _ _ rfl rfl rfl rfl rfl ?_)
     intro w16 PS PT
     have PU:=PR.trans PT (λ_ e => .inl e)
     clear PO PR PT
     go_wp2_with (refine gU Tryz.gI Tryz.underlying110 w.heap.size _ ⟨#[102,114,111,109]⟩ (.bool true) PS _ _ _ rfl rfl rfl rfl rfl ?_)
     intro w17 PV PW
     have PX:=PU.trans PW (λ_ e => .inl e)
     clear PS PU PW
     go_wp2_with (refine gU Tryz.gI Tryz.underlying110 w.heap.size _ ⟨#[108,111,111,112]⟩ (.bool true) PV _ _ _ rfl rfl rfl rfl rfl ?_)
     intro w18 PY PZ
     have P5:=PX.trans PZ (λ_ e => .inl e)
     clear PV PX PZ
     go_wp2_with (refine gU Tryz.gI Tryz.underlying110 w.heap.size _ ⟨#[117,110,116,105,108]⟩ (.bool true) PY _ _ _ rfl rfl rfl rfl rfl ?_)
     intro w19 P6 P7
     have P8:=P5.trans P7 (λ_ e => .inl e)
     clear PY P5 P7
     go_wp2_with (refine gU Tryz.gI Tryz.underlying110 w.heap.size _ ⟨#[108,111,99,97,108]⟩ (.bool true) P6 _ _ _ rfl rfl rfl rfl rfl ?_)
     intro w20 P9 Qa
     have Qb:=P8.trans Qa (λ_ e => .inl e)
     clear P6 P8 Qa
     go_wp2_with (refine gU Tryz.gI Tryz.underlying110 w.heap.size _ ⟨#[100,101,108,111,99,97,108]⟩ (.bool true) P9 _ _ _ rfl rfl rfl rfl rfl ?_)
     intro w21 Qc Qd
     have Qe:=Qb.trans Qd (λ_ e => .inl e)
     clear P9 Qb Qd
     go_wp2_with (refine gU Tryz.gI Tryz.underlying110 w.heap.size _ ⟨#[116,111,112]⟩ (.bool true) Qc _ _ _ rfl rfl rfl rfl rfl ?_)
     intro w22 Qf Qg
     have Qh:=Qe.trans Qg (λ_ e => .inl e)
     clear Qc Qe Qg
     go_wp2_with (refine gU Tryz.gI Tryz.underlying110 w.heap.size _ ⟨#[115,105,122,101]⟩ (.bool true) Qf _ _ _ rfl rfl rfl rfl rfl ?_)
     intro Qi Qj Qk
     have Ql:=Qh.trans Qk (λ_ e => .inl e)
     clear Qf Qh Qk
     have hl:=run_get Tryz.gI Tryz.underlying110 s (.bool false) Tryz.Wi Qj
     have hg:(EK Ic s).getD (.bool false) = .bool (Ao s):=Lj s Ic 0 (Vh Nv [] (by simp))
     have hl2:(lookup 110 (.map (some w.heap.size)) (.string s) false).run Tryz.prog Qi = .ok (.bool (Ao s)) Qi:=hl.trans (by rw[← hg];rfl)
     have HM:=Lib.hid (Ql.mono (O1:=λ_=>False) (λx e => .inr (by omega)))
     clear hl hg Qj Ql
     go_wp2_with fail
     go_ret
     exact⟨aV (by simp[h2,h7]),HM.out⟩
   · go_enter Tryz.func47,Tryz.ntmps47
     go_wp2_with fail
     go_ret
     exact⟨aV (by simp[h7]),Mv.refl _ _⟩
 · go_enter Tryz.func47,Tryz.ntmps47
   go_wp2_with fail
   go_ret
   exact⟨aV (by simp[h2]),Mv.refl _ _⟩
def Wj (w:World) (e:Ending) (w':World):Prop:=∃ k n:Int,(k == 1)=false/\e = .returned (.tuple #[.int .u8 k,.int .i64 n])/\w=w'
set_option maxHeartbeats 800000 in
theorem Uq (s:ByteArray) (w:World) (h1:1<=s.size) (hs:s.size<=16) (hl:vw (s[0].toNat)=true) :
 Calls Tryz.prog 46 #[.string s] w λe w'=>e = .returned (.tuple #[.int .u8 1,.int .i64 (mI nP s.data.toList)])/\w=w':=by
 go_enter Tryz.func46,Tryz.ntmps46
 go_wp2_with (first
  |(go_at_call 63;refine(Bh _ _).mono ?_;rintro e w' ⟨rfl,rfl⟩)
  |(go_at_call 64;refine(Ve s _ (by omega)).mono ?_;rintro e w' ⟨rfl,rfl⟩))
 go_ret2
 exact⟨rfl,rfl⟩
set_option maxHeartbeats 1600000 in
theorem TP (s:ByteArray) (w:World) (h1:1<=s.size) (hs:s.size<=16) (hl:vw (s[0].toNat)=false):Calls Tryz.prog 46 #[.string s] w (Wj w):=by
 by_cases hd:pG (s[0].toNat)=true
 · go_enter Tryz.func46,Tryz.ntmps46
   go_wp2_with (first
    |(go_at_call 63;refine(Bh _ _).mono ?_;rintro e w' ⟨rfl,rfl⟩)
    |(go_at_call 66;refine(zH _ _).mono ?_;rintro e w' ⟨rfl,rfl⟩)
    |(go_at_call 64;refine(Vf s _ (by omega)).mono ?_;rintro e w' ⟨rfl,rfl⟩))
   go_ret2
   exact⟨_,_,rfl,rfl,rfl⟩
 · have hd2:pG (s[0].toNat)=false:=by simpa using hd
   by_cases hb:qX (s[0].toNat)=true
   · go_enter Tryz.func46,Tryz.ntmps46
     go_wp2_with (first
      |(go_at_call 63;refine(Bh _ _).mono ?_;rintro e w' ⟨rfl,rfl⟩)
      |(go_at_call 66;refine(zH _ _).mono ?_;rintro e w' ⟨rfl,rfl⟩)
      |(go_at_call 67;refine(D8 _ _).mono ?_;rintro e w' ⟨rfl,rfl⟩)
      |(go_at_call 64;refine(Vg s _ (by omega)).mono ?_;rintro e w' ⟨rfl,rfl⟩))
     go_ret2
     exact⟨_,_,rfl,rfl,rfl⟩
   · have hb2:qX (s[0].toNat)=false:=by simpa using hb
     go_enter Tryz.func46,Tryz.ntmps46
     go_wp2_with (first
      |(go_at_call 63;refine(Bh _ _).mono ?_;rintro e w' ⟨rfl,rfl⟩)
      |(go_at_call 66;refine(zH _ _).mono ?_;rintro e w' ⟨rfl,rfl⟩)
      |(go_at_call 67;refine(D8 _ _).mono ?_;rintro e w' ⟨rfl,rfl⟩)
      |(go_at_call 64;refine(We s _ (by omega)).mono ?_;rintro e w' ⟨rfl,rfl⟩)
      |(go_at_call 69;refine(Wh s _ h1 hs).mono ?_;rintro e w' ⟨n,rfl,rfl⟩))
     all_goals (go_ret2;exact⟨_,_,rfl,rfl,rfl⟩)
def jV (s:ByteArray):Bool:=if h:1<=s.size then decide (s.size<=16) && (vw (s[0].toNat) && (decide (mI nP s.data.toList=s.size) && !(decide (2<=s.size) && (decide (s.size<=7) && Ao s))))else false
theorem Kv {s:ByteArray} (h:¬ 1<=s.size):s=⟨#[]⟩:=by
 cases s with|mk a =>
 have:a.size=0:=by simpa[ByteArray.size]using h
 simp[Array.size_eq_zero_iff.1 this]
theorem Bi {s:ByteArray} (h:1<=s.size):s.toList.isEmpty=false:=by
 have h1:s.toList=s.data.toList:=ByteArray.toList_eq s
 rw[h1]
 cases hl:s.data.toList with
 |nil =>
  have:s.size=0:=by
   have:=congrArg List.length hl
   simpa using this
  omega
 |cons a l=>rfl
set_option maxHeartbeats 1600000 in
theorem GN (s:ByteArray) (w:World) (hs:s.size<=9223372036854775807):Calls Tryz.prog 29 #[.string s] w λe w'=>e = .returned (.bool (jV s))/\Mv (λ_=>False) w w':=by
 by_cases h1:1<=s.size
 · by_cases h16:s.size<=16
   · by_cases hl:vw (s[0].toNat)=true
     · have HF:=Lib.hid (Uq s w h1 h16 hl)
       have HK:=Lib.hid (TN s w (by omega))
       have HN:=Lib.hid (show jV s=(decide (mI nP s.data.toList=s.size) && !(decide (2<=s.size) && (decide (s.size<=7) && Ao s)))from by unfold jV;rw[dif_pos h1,hl];simp[h16])
       generalize mI nP s.data.toList=n at *
       generalize (decide (2<=s.size) && (decide (s.size<=7) && Ao s))=q at *
       have hne:=Bi h1
       go_enter Tryz.func29,Tryz.ntmps29
       go_wp2_with fail
       refine HF.out.mono ?_
       rintro e w' ⟨rfl,rfl⟩
       by_cases hn:n=s.size
       · have hnb:((n:Int) == (s.size:Int))=true:=by simp[hn]
         have ow:=Lib.hid hn
         clear hn
         go_wp2_with fail
         refine HK.out.mono ?_
         rintro e w' ⟨rfl,hm⟩
         have HM:=Lib.hid hm
         clear hm
         go_wp2_with fail
         all_goals (go_ret;exact⟨aV (by rw[HN.out,ow.out];simp_all),HM.out⟩)
       · have hnb:((n:Int) == (s.size:Int))=false:=by simpa using λe=>hn (by omega)
         go_wp2_with fail
         all_goals (go_ret;exact⟨aV (by rw[HN.out];simp_all),Mv.refl _ _⟩)
     · have hl2:vw (s[0].toNat)=false:=by simpa using hl
       have HF:=Lib.hid (TP s w h1 h16 hl2)
       have HN:=Lib.hid (show jV s=false from by unfold jV;rw[dif_pos h1,hl2];simp)
       have hne:=Bi h1
       clear hl hl2
       go_enter Tryz.func29,Tryz.ntmps29
       go_wp2_with fail
       refine HF.out.mono ?_
       rintro e w' ⟨k,n,hk,rfl,rfl⟩
       go_wp2_with fail
       go_ret
       exact⟨aV (by rw[HN.out]),Mv.refl _ _⟩
   · have HN:=Lib.hid (show jV s=false from by unfold jV;rw[dif_pos h1];simp[h16])
     have hne:=Bi h1
     go_enter Tryz.func29,Tryz.ntmps29
     go_wp2_with fail
     go_ret
     exact⟨aV (by rw[HN.out]),Mv.refl _ _⟩
 · have HN:=Lib.hid (show jV s=false from by unfold jV;rw[dif_neg h1])
   obtain rfl:=Kv h1
   go_enter Tryz.func29,Tryz.ntmps29
   go_wp2_with fail
   go_ret
   exact⟨aV (by rw[HN.out]),Mv.refl _ _⟩
end
section
open Go.RowKit
abbrev Grow (w w':World):Prop:=Mv (λ_=>False) w w'
def ay {α:Type} (n:Nat) (f:α->List Value) (w:World) (v:Value) (l:List α):Prop :=
 ∃ a cap,v = .slice a l.length cap/\l.length<=cap/\l.length<=9223372036854775807/\∀ (i:Nat) (x:α),l[i]? = some x->∃ b off,a=some ⟨b,off,none⟩/\∀ (j:Nat) (u:Value),(f x)[j]? = some u->w.cell? ⟨b,off+i * n+j,none⟩=some u
section
variable {α:Type} {n:Nat} {f:α->List Value} {w w':World} {v:Value} {l:List α}
theorem ay.form (h:ay n f w v l):∃ a cap,v = .slice a l.length cap/\l.length<=cap/\l.length<=9223372036854775807:=by
 obtain⟨a,cap,h1,h2,h3,_⟩:=h
 exact⟨a,cap,h1,h2,h3⟩
theorem ay.later (h:ay n f w v l) (hm:Grow w w'):ay n f w' v l:=by
 obtain⟨a,cap,h1,h2,h3,h4⟩:=h
 refine⟨a,cap,h1,h2,h3,λi x hx => ?_⟩
 obtain⟨b,off,hb,hc⟩:=h4 i x hx
 refine⟨b,off,hb,λj u hu => ?_⟩
 have h5:=hc j u hu
 rw[← h5]
 exact World.cell?_of_block (w:=w) (w':=w') (hm.block _ (World.block_lt_of_cell? w _ h5) (λh=>h))
theorem ay.nil (n:Nat) (f:α->List Value) (w:World):ay n f w (.slice none 0 0) []:=⟨none,0,rfl,Nat.le_refl _,by simp,λi x hx=>by simp at hx⟩
theorem ay.at (h:ay n f w v l) {i:Nat} (hi:i<l.length):∃ b off cap,v = .slice (some ⟨b,off,none⟩) l.length cap/\l.length<=cap/\∀ (j:Nat) (u:Value),(f l[i])[j]? = some u->w.cell? ⟨b,off+i * n+j,none⟩=some u:=by
 obtain⟨a,cap,rfl,h2,h3,h4⟩:=h
 obtain⟨b,off,rfl,hc⟩:=h4 i _ (List.getElem?_eq_getElem hi)
 exact⟨b,off,cap,rfl,h2,hc⟩
theorem ay.at' {b off len cap:Nat} (h:ay n f w (.slice (some ⟨b,off,none⟩) len cap) l) {i:Nat} (hi:i<l.length):∀ (j:Nat) (u:Value),(f l[i])[j]? = some u->w.cell? ⟨b,off+i * n+j,none⟩=some u:=by
 obtain⟨b',off',cap',e,_,hc⟩:=h.at hi
 simp only[Value.slice.injEq,Option.some.injEq,Addr.mk.injEq,and_true]at e
 obtain⟨⟨rfl,rfl⟩,_,_⟩:=e
 exact hc
end
structure au where
 name:ByteArray
 kind:Int
 len:Int
structure pE where
 name:ByteArray
 kind:Int
 len:Int
 at':Int
structure xB where
 at':Int
 name:ByteArray
def au.cells (v:au):List Value:=[.string v.name,.int .u8 v.kind,.int .i64 v.len]
def pE.cells (v:pE):List Value:=[.string v.name,.int .u8 v.kind,.int .i64 v.len,.int .i64 v.at']
def xB.cells (v:xB):List Value:=[.int .i64 v.at',.string v.name]
abbrev au.val (v:au):Value := .agg #[.string v.name,.int .u8 v.kind,.int .i64 v.len]
structure Og where
 name:ByteArray
 params:List au
 slots:List pE
 cells:Int
 stacks:Int
 code:List Ins
 refs:List xB
def In64 (x:Int):Prop := -9223372036854775808<=x/\x<=9223372036854775807
def YS (i:Ins):Prop:=(0<=i.op/\i.op<=255)/\In64 i.a/\In64 i.b/\In64 i.c/\In64 i.d
structure YT (o:Og):Prop where
 name:o.name.size<=9223372036854775807
 params:∀ v∈o.params,v.name.size<=9223372036854775807/\In64 v.len
 slots:∀ v∈o.slots,v.name.size<=9223372036854775807/\In64 v.len/\In64 v.at'
 cells:In64 o.cells
 stacks:In64 o.stacks
 code:∀ i∈o.code,YS i
 refs:∀ r∈o.refs,r.name.size<=9223372036854775807/\In64 r.at'
 few:o.slots.length<=4398046511104
structure tC where
 d:Og
 pv:Value
 sv:Value
 cv:Value
 rv:Value
def tC.cells (o:tC):List Value:=[.string o.d.name,o.pv,o.sv,.int .i64 o.d.cells,.int .i64 o.d.stacks,o.cv,o.rv]
abbrev tC.val (o:tC):Value := .agg #[.string o.d.name,o.pv,o.sv,.int .i64 o.d.cells,.int .i64 o.d.stacks,o.cv,o.rv]
structure ED (w:World) (o:tC):Prop where
 ok:YT o.d
 params:ay 3 au.cells w o.pv o.d.params
 slots:ay 4 pE.cells w o.sv o.d.slots
 code:ay 5 Ins.cells w o.cv o.d.code
 refs:ay 2 xB.cells w o.rv o.d.refs
theorem ED.later {w w':World} {o:tC} (h:ED w o) (hm:Grow w w'):ED w' o:=⟨h.ok,h.params.later hm,h.slots.later hm,h.code.later hm,h.refs.later hm⟩
structure Hr (w:World) (v:Value) (l:List tC):Prop where
 row:ay 7 tC.cells w v l
 each:∀ o∈l,ED w o
theorem Hr.later {w w':World} {v:Value} {l:List tC} (h:Hr w v l) (hm:Grow w w'):Hr w' v l:=⟨h.row.later hm,λo ho=>(h.each o ho).later hm⟩
end
end Go.Proofs.YtbpodipdfohikaaGreat
