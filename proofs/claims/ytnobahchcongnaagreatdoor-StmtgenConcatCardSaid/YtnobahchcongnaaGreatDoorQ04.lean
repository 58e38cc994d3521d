import Derived.Test.YtnobahchcongnaaGreatDoorQ03
import Derived.Lib.Strings
set_option linter.unusedSimpArgs false
set_option linter.unusedVariables false
set_option maxRecDepth 100000
set_option maxHeartbeats 25600000
namespace Go.Proofs.YtnobahchcongnaaGreatDoor
section
open Go.RowKit Go.Instr
def Yk (w:World) (e:Ending) (w':World):Prop:=∃ n:Int,e = .returned (.int .i64 n)∧w=w'
theorem Yl (s p:ByteArray) (w:World):∃ b:Bool,Calls Tryz.prog 136 #[.string s,.string p] w fun e w'=>e = .returned (.bool b)∧w=w' :=
 ⟨_,(Tryz.strings_HasPrefix s p w).mono fun _ _ h=>⟨h.1,h.2.symm⟩⟩
theorem Ym (s:ByteArray) (c:Int) (w:World):∃ n:Int,Calls Tryz.prog 137 #[.string s,.int .u8 c] w fun e w'=>e = .returned (.int .i64 n)∧w=w' :=
 ⟨_,(Tryz.strings_IndexByte s c w).mono fun _ _ h=>⟨h.1,h.2.symm⟩⟩
theorem Xl (s:ByteArray) (w:World) (h1:1≤s.size) (hs:s.size≤16):Calls Tryz.prog 130 #[.string s] w (Yk w):=by
 obtain ⟨b,hb⟩:=Yl s ⟨#[60,61,62]⟩ w;have HB:=ł hb;clear hb
 go_enter Tryz.func130,Tryz.ntmps130
 go_wp2_with (first
  | (go_at_call 136;refine HB.out.mono ?_;rintro e w' ⟨rfl,rfl⟩)
  | (go_at_call 137;refine (Ym _ _ _).choose_spec.mono ?_;rintro e w' ⟨rfl,rfl⟩))
 all_goals (go_ret;exact ⟨_,rfl,rfl⟩)
def O8:List ByteArray:=[⟨#[105,110,116]⟩,⟨#[97,114,114,97,121]⟩,⟨#[115,116,97,99,107]⟩,⟨#[112,114,111,99]⟩,⟨#[109,97,105,110]⟩,⟨#[112,117,115,104]⟩,⟨#[112,111,112]⟩,⟨#[114,101,97,100]⟩,⟨#[117,110,114,101,97,100]⟩,⟨#[119,114,105,116,101]⟩,⟨#[117,110,119,114,105,116,101]⟩,⟨#[99,97,108,108]⟩,⟨#[117,110,99,97,108,108]⟩,⟨#[105,102]⟩,⟨#[101,108,115,101]⟩,⟨#[102,105]⟩,⟨#[102,114,111,109]⟩,⟨#[108,111,111,112]⟩,⟨#[117,110,116,105,108]⟩,⟨#[108,111,99,97,108]⟩,⟨#[100,101,108,111,99,97,108]⟩,⟨#[116,111,112]⟩,⟨#[115,105,122,101]⟩]
def Jl:List (ByteArray × Value):=O8.foldl (fun l k=>iN k (.bool true) l) []
def Ay (s:ByteArray):Bool:=(qQ Jl s).isSome
theorem Ej {κ:Type} [BEq κ] [LawfulBEq κ] (k:κ):∀ (l:List (κ × Value)) (i:Nat),(∀ p∈l,p.2 = .bool true)→((fT k l i).map (·.2)).getD (.bool false) = .bool ((fT k l i).map (·.2)).isSome
 | [],i,_=>rfl
 | (a,x) :: l,i,h=>by
  simp only [fT];split
  · have:=h (a,x) (by simp);simp only at this;subst this;rfl
  · exact Ej k l (i+1) (fun p hp=>h p (by simp [hp]))
theorem Ic {κ:Type} [BEq κ] [LawfulBEq κ] (k:κ):∀ (l:List (κ × Value)),(∀ p∈l,p.2 = .bool true)→∀ p∈iN k (.bool true) l,p.2 = .bool true
 | [],_,p,hp=>by simp [iN] at hp;subst hp;rfl
 | (a,x) :: l,h,p,hp=>by
  simp only [iN] at hp;split at hp
  · rcases List.mem_cons.1 hp with rfl | hp
    · rfl
    · exact h p (by simp [hp])
  · rcases List.mem_cons.1 hp with rfl | hp
    · exact h _ (by simp)
    · exact Ic k l (fun q hq=>h q (by simp [hq])) p hp
theorem Wu (ks:List ByteArray):∀ (l:List (ByteArray × Value)),(∀ p∈l,p.2 = .bool true)→∀ p∈ks.foldl (fun l k=>iN k (.bool true) l) l,p.2 = .bool true:=by
 induction ks with
 | nil=>intro l h;exact h
 | cons k ks ih=>intro l h;exact ih _ (Ic k l h)
theorem Tryz.gB:KeyLaw Tryz.prog 9 Value.string .string:=Yg Tryz.underlying9
theorem Tryz.zV (w:World):(zeroValue 4).run Tryz.prog w = .ok (.bool false) w:=by kernel_rfl
theorem jl {P:Program} {κ:Type} [BEq κ] [LawfulBEq κ] {enc:κ→Value} {desc:TypeDesc} {K T E:TypeId} {w:World} {ops:Array Oper} {rest:List Oper} {o:Oper} {a:Act} {Q:Exit→Act→World→Prop}
 (L:KeyLaw P K enc desc) (ht:P.underlying T=some (.map K E)) (r:Nat) (l:List (κ × Value)) (k:κ) (v:Value) (h:MapAt enc w r l) (m:Tmp) (kc vc:Value) (hgd:o.guard=none) (ho:o.op = .insert T (.tmp m) (.const kc) (.const vc)) (hm:a.eval (.tmp m) = .map (some r)) (hk:kc=enc k) (hv:vc=v)
 (hnext:∀ w',MapAt enc w' r (iN k v l)→Mv (fun b=>b=r) w w'→wpList P ops Q rest (a.put o.dst undef) w'):wpList P ops Q (o :: rest) a w :=
 wpList_plain hgd fun _ hK=>by
  obtain ⟨w',hr,h2,h3⟩:=run_set (P:=P) L ht k v h;subst hk hv;unfold Oper.wp execOp;simp only [ho,Act.eval,Sem.run_bind,Sem.run_pure,Result.andThen_ok] at hm ⊢;simp only [hm,hr,Result.andThen_ok];exact hK _ _ (hnext w' h2 h3)
theorem UZ (s:ByteArray) (w:World) (hs:s.size≤1000000000):Calls Tryz.prog 111 #[.string s] w fun e w'=>e = .returned (.bool (decide (2≤s.size) && (decide (s.size≤7) && Ay s)))∧Mv (fun _=>False) w w':=by
 by_cases h2:2≤s.size
 · by_cases h7:s.size≤7
   · have hmm := @run_makeMap Tryz.prog;have H0:MapAt Value.string (w.alloc (.map #[] 0)) w.heap.size []:=MapAt.new _ w;have M0:Mv (fun b=>b=w.heap.size) w (w.alloc (.map #[] 0)):=(Mv.refl _ _).alloc _
     go_enter Tryz.func111,Tryz.ntmps111
     go_wp2_with (refine jl Tryz.gB Tryz.underlying89 w.heap.size _ ⟨#[105,110,116]⟩ (.bool true) H0 _ _ _ rfl rfl rfl rfl rfl ?_)
     intro w1 H1 N1;have M1:=M0.trans N1 (fun _ e => .inl e);clear H0 M0 N1
     go_wp2_with (refine jl Tryz.gB Tryz.underlying89 w.heap.size _ ⟨#[97,114,114,97,121]⟩ (.bool true) H1 _ _ _ rfl rfl rfl rfl rfl ?_)
     intro w2 H2 N2;have M2:=M1.trans N2 (fun _ e => .inl e);clear H1 M1 N2
     go_wp2_with (refine jl Tryz.gB Tryz.underlying89 w.heap.size _ ⟨#[115,116,97,99,107]⟩ (.bool true) H2 _ _ _ rfl rfl rfl rfl rfl ?_)
     intro w3 H3 N3;have M3:=M2.trans N3 (fun _ e => .inl e);clear H2 M2 N3
     go_wp2_with (refine jl Tryz.gB Tryz.underlying89 w.heap.size _ ⟨#[112,114,111,99]⟩ (.bool true) H3 _ _ _ rfl rfl rfl rfl rfl ?_)
     intro w4 H4 N4;have M4:=M3.trans N4 (fun _ e => .inl e);clear H3 M3 N4
     go_wp2_with (refine jl Tryz.gB Tryz.underlying89 w.heap.size _ ⟨#[109,97,105,110]⟩ (.bool true) H4 _ _ _ rfl rfl rfl rfl rfl ?_)
     intro w5 H5 N5;have M5:=M4.trans N5 (fun _ e => .inl e);clear H4 M4 N5
     go_wp2_with (refine jl Tryz.gB Tryz.underlying89 w.heap.size _ ⟨#[112,117,115,104]⟩ (.bool true) H5 _ _ _ rfl rfl rfl rfl rfl ?_)
     intro w6 H6 N6;have M6:=M5.trans N6 (fun _ e => .inl e);clear H5 M5 N6
     go_wp2_with (refine jl Tryz.gB Tryz.underlying89 w.heap.size _ ⟨#[112,111,112]⟩ (.bool true) H6 _ _ _ rfl rfl rfl rfl rfl ?_)
     intro w7 H7 N7;have M7:=M6.trans N7 (fun _ e => .inl e);clear H6 M6 N7
     go_wp2_with (refine jl Tryz.gB Tryz.underlying89 w.heap.size _ ⟨#[114,101,97,100]⟩ (.bool true) H7 _ _ _ rfl rfl rfl rfl rfl ?_)
     intro w8 H8 N8;have M8:=M7.trans N8 (fun _ e => .inl e);clear H7 M7 N8
     go_wp2_with (refine jl Tryz.gB Tryz.underlying89 w.heap.size _ ⟨#[117,110,114,101,97,100]⟩ (.bool true) H8 _ _ _ rfl rfl rfl rfl rfl ?_)
     intro w9 H9 N9;have M9:=M8.trans N9 (fun _ e => .inl e);clear H8 M8 N9
     go_wp2_with (refine jl Tryz.gB Tryz.underlying89 w.heap.size _ ⟨#[119,114,105,116,101]⟩ (.bool true) H9 _ _ _ rfl rfl rfl rfl rfl ?_)
     intro uB Rn Ro;have Rp:=M9.trans Ro (fun _ e => .inl e);clear H9 M9 Ro
     go_wp2_with (refine jl Tryz.gB Tryz.underlying89 w.heap.size _ ⟨#[117,110,119,114,105,116,101]⟩ (.bool true) Rn _ _ _ rfl rfl rfl rfl rfl ?_)
     intro xE Rq Rs;have Rt:=Rp.trans Rs (fun _ e => .inl e);clear Rn Rp Rs
     go_wp2_with (refine jl Tryz.gB Tryz.underlying89 w.heap.size _ ⟨#[99,97,108,108]⟩ (.bool true) Rq _ _ _ rfl rfl rfl rfl rfl ?_)
     intro xG Ru Rv;have Rw:=Rt.trans Rv (fun _ e => .inl e);clear Rq Rt Rv
     go_wp2_with (refine jl Tryz.gB Tryz.underlying89 w.heap.size _ ⟨#[117,110,99,97,108,108]⟩ (.bool true) Ru _ _ _ rfl rfl rfl rfl rfl ?_)
     intro Az Rx Ry;have Rz:=Rw.trans Ry (fun _ e => .inl e);clear Ru Rw Ry
     go_wp2_with (refine jl Tryz.gB Tryz.underlying89 w.heap.size _ ⟨#[105,102]⟩ (.bool true) Rx _ _ _ rfl rfl rfl rfl rfl ?_)
     intro F8 RA RB;have RD:=Rz.trans RB (fun _ e => .inl e);clear Rx Rz RB
     go_wp2_with (refine jl Tryz.gB Tryz.underlying89 w.heap.size _ ⟨#[101,108,115,101]⟩ (.bool true) RA _ _ _ rfl rfl rfl rfl rfl ?_)
     intro Kr RF RG;have RH:=RD.trans RG (fun _ e => .inl e);clear RA RD RG
     go_wp2_with (refine jl Tryz.gB Tryz.underlying89 w.heap.size _ ⟨#[102,105]⟩ (.bool true) RF _ _ _ rfl rfl rfl rfl rfl ?_)
     intro w16 RI RJ;have RL:=RH.trans RJ (fun _ e => .inl e);clear RF RH RJ
     go_wp2_with (refine jl Tryz.gB Tryz.underlying89 w.heap.size _ ⟨#[102,114,111,109]⟩ (.bool true) RI _ _ _ rfl rfl rfl rfl rfl ?_)
     intro _T RN RO;have RP:=RL.trans RO (fun _ e => .inl e);clear RI RL RO
     go_wp2_with (refine jl Tryz.gB Tryz.underlying89 w.heap.size _ ⟨#[108,111,111,112]⟩ (.bool true) RN _ _ _ rfl rfl rfl rfl rfl ?_)
     intro w18 RQ RS;have RU:=RP.trans RS (fun _ e => .inl e);clear RN RP RS
     go_wp2_with (refine jl Tryz.gB Tryz.underlying89 w.heap.size _ ⟨#[117,110,116,105,108]⟩ (.bool true) RQ _ _ _ rfl rfl rfl rfl rfl ?_)
     intro w19 RV RX;have RY:=RU.trans RX (fun _ e => .inl e);clear RQ RU RX
     go_wp2_with (refine jl Tryz.gB Tryz.underlying89 w.heap.size _ ⟨#[108,111,99,97,108]⟩ (.bool true) RV _ _ _ rfl rfl rfl rfl rfl ?_)
     intro w20 RZ R3;have R4:=RY.trans R3 (fun _ e => .inl e);clear RV RY R3
     go_wp2_with (refine jl Tryz.gB Tryz.underlying89 w.heap.size _ ⟨#[100,101,108,111,99,97,108]⟩ (.bool true) RZ _ _ _ rfl rfl rfl rfl rfl ?_)
     intro w21 R5 R6;have R7:=R4.trans R6 (fun _ e => .inl e);clear RZ R4 R6
     go_wp2_with (refine jl Tryz.gB Tryz.underlying89 w.heap.size _ ⟨#[116,111,112]⟩ (.bool true) R5 _ _ _ rfl rfl rfl rfl rfl ?_)
     intro w22 R8 R9;have Sa:=R7.trans R9 (fun _ e => .inl e);clear R5 R7 R9
     go_wp2_with (refine jl Tryz.gB Tryz.underlying89 w.heap.size _ ⟨#[115,105,122,101]⟩ (.bool true) R8 _ _ _ rfl rfl rfl rfl rfl ?_)
     intro Sb Sc Sd;have Sg:=Sa.trans Sd (fun _ e => .inl e);clear R8 Sa Sd;have hl:=run_get Tryz.gB Tryz.underlying89 s (.bool false) Tryz.zV Sc;have hg:(qQ Jl s).getD (.bool false) = .bool (Ay s):=Ej s Jl 0 (Wu O8 [] (by simp));have hl2:(lookup 89 (.map (some w.heap.size)) (.string s) false).run Tryz.prog Sb = .ok (.bool (Ay s)) Sb:=hl.trans (by rw [← hg];rfl);have HM:=ł (Sg.mono (O1:=fun _=>False) (fun x e => .inr (by omega)));clear hl hg Sc Sg;go_wp2_with fail;go_ret;exact ⟨aD (by simp [h2,h7]),HM.out⟩
   · go_enter Tryz.func111,Tryz.ntmps111
     go_wp2_with fail;go_ret;exact ⟨aD (by simp [h7]),Mv.refl _ _⟩
 · go_enter Tryz.func111,Tryz.ntmps111
   go_wp2_with fail;go_ret;exact ⟨aD (by simp [h2]),Mv.refl _ _⟩
def Xm (w:World) (e:Ending) (w':World):Prop:=∃ k n:Int,(k == 1)=false∧e = .returned (.tuple #[.int .u8 k,.int .i64 n])∧w=w'
theorem Vt (s:ByteArray) (w:World) (h1:1≤s.size) (hs:s.size≤16) (hl:xw (s[0].toNat)=true) :
 Calls Tryz.prog 110 #[.string s] w fun e w'=>e = .returned (.tuple #[.int .u8 1,.int .i64 (o7 qR s.data.toList)])∧w=w':=by
 go_enter Tryz.func110,Tryz.ntmps110
 go_wp2_with (first
  | (go_at_call 124;refine (Bf _ _).mono ?_;rintro e w' ⟨rfl,rfl⟩)
  | (go_at_call 125;refine (Wp s _ (by omega)).mono ?_;rintro e w' ⟨rfl,rfl⟩))
 go_ret2
 exact ⟨rfl,rfl⟩
theorem U0 (s:ByteArray) (w:World) (h1:1≤s.size) (hs:s.size≤16) (hl:xw (s[0].toNat)=false):Calls Tryz.prog 110 #[.string s] w (Xm w):=by
 by_cases hd:rW (s[0].toNat)=true
 · go_enter Tryz.func110,Tryz.ntmps110
   go_wp2_with (first
    | (go_at_call 124;refine (Bf _ _).mono ?_;rintro e w' ⟨rfl,rfl⟩)
    | (go_at_call 127;refine (zQ _ _).mono ?_;rintro e w' ⟨rfl,rfl⟩)
    | (go_at_call 125;refine (Wq s _ (by omega)).mono ?_;rintro e w' ⟨rfl,rfl⟩))
   go_ret2
   exact ⟨_,_,rfl,rfl,rfl⟩
 · have hd2:rW (s[0].toNat)=false:=by simpa using hd
   by_cases hb:uu (s[0].toNat)=true
   · go_enter Tryz.func110,Tryz.ntmps110
     go_wp2_with (first
      | (go_at_call 124;refine (Bf _ _).mono ?_;rintro e w' ⟨rfl,rfl⟩)
      | (go_at_call 127;refine (zQ _ _).mono ?_;rintro e w' ⟨rfl,rfl⟩)
      | (go_at_call 128;refine (Eh _ _).mono ?_;rintro e w' ⟨rfl,rfl⟩)
      | (go_at_call 125;refine (Ws s _ (by omega)).mono ?_;rintro e w' ⟨rfl,rfl⟩))
     go_ret2
     exact ⟨_,_,rfl,rfl,rfl⟩
   · have hb2:uu (s[0].toNat)=false:=by simpa using hb
     go_enter Tryz.func110,Tryz.ntmps110
     go_wp2_with (first
      | (go_at_call 124;refine (Bf _ _).mono ?_;rintro e w' ⟨rfl,rfl⟩)
      | (go_at_call 127;refine (zQ _ _).mono ?_;rintro e w' ⟨rfl,rfl⟩)
      | (go_at_call 128;refine (Eh _ _).mono ?_;rintro e w' ⟨rfl,rfl⟩)
      | (go_at_call 125;refine (Xk s _ (by omega)).mono ?_;rintro e w' ⟨rfl,rfl⟩)
      | (go_at_call 130;refine (Xl s _ h1 hs).mono ?_;rintro e w' ⟨n,rfl,rfl⟩))
     all_goals (go_ret2;exact ⟨_,_,rfl,rfl,rfl⟩)
def rR (s:ByteArray):Bool:=if h:1≤s.size then decide (s.size≤16) && (xw (s[0].toNat) && (decide (o7 qR s.data.toList=s.size) && !(decide (2≤s.size) && (decide (s.size≤7) && Ay s)))) else false
theorem Ma {s:ByteArray} (h:¬ 1≤s.size):s=⟨#[]⟩:=by
 cases s with | mk a =>
 have:a.size=0:=by simpa [ByteArray.size] using h
 simp [Array.size_eq_zero_iff.1 this]
theorem Bg {s:ByteArray} (h:1≤s.size):s.toList.isEmpty=false:=by
 have h1:s.toList=s.data.toList:=ByteArray.toList_eq s;rw [h1];cases hl:s.data.toList with
 | nil =>
  have:s.size=0:=by
   have:=congrArg List.length hl
   simpa using this
  omega
 | cons a l=>rfl
theorem Xn (s:ByteArray) (w:World) (hs:s.size≤9223372036854775807):Calls Tryz.prog 88 #[.string s] w fun e w'=>e = .returned (.bool (rR s))∧Mv (fun _=>False) w w':=by
 by_cases h1:1≤s.size
 · by_cases h16:s.size≤16
   · by_cases hl:xw (s[0].toNat)=true
     · have HF:=ł (Vt s w h1 h16 hl);have HK:=ł (UZ s w (by omega));have HN:=ł (show rR s=(decide (o7 qR s.data.toList=s.size) && !(decide (2≤s.size) && (decide (s.size≤7) && Ay s))) from by unfold rR;rw [dif_pos h1,hl];simp [h16]);generalize o7 qR s.data.toList=n at *;generalize (decide (2≤s.size) && (decide (s.size≤7) && Ay s))=q at *;have hne:=Bg h1
       go_enter Tryz.func88,Tryz.ntmps88
       go_wp2_with fail;refine HF.out.mono ?_;rintro e w' ⟨rfl,rfl⟩;by_cases hn:n=s.size
       · have hnb:((n:Int) == (s.size:Int))=true:=by simp [hn]
         have Kt:=ł hn;clear hn;go_wp2_with fail;refine HK.out.mono ?_;rintro e w' ⟨rfl,hm⟩;have HM:=ł hm;clear hm;go_wp2_with fail
         all_goals (go_ret;exact ⟨aD (by rw [HN.out,Kt.out];simp_all),HM.out⟩)
       · have hnb:((n:Int) == (s.size:Int))=false:=by simpa using fun e=>hn (by omega)
         go_wp2_with fail
         all_goals (go_ret;exact ⟨aD (by rw [HN.out];simp_all),Mv.refl _ _⟩)
     · have hl2:xw (s[0].toNat)=false:=by simpa using hl
       have HF:=ł (U0 s w h1 h16 hl2);have HN:=ł (show rR s=false from by unfold rR;rw [dif_pos h1,hl2];simp);have hne:=Bg h1;clear hl hl2
       go_enter Tryz.func88,Tryz.ntmps88
       go_wp2_with fail;refine HF.out.mono ?_;rintro e w' ⟨k,n,hk,rfl,rfl⟩;go_wp2_with fail;go_ret;exact ⟨aD (by rw [HN.out]),Mv.refl _ _⟩
   · have HN:=ł (show rR s=false from by unfold rR;rw [dif_pos h1];simp [h16]);have hne:=Bg h1
     go_enter Tryz.func88,Tryz.ntmps88
     go_wp2_with fail;go_ret;exact ⟨aD (by rw [HN.out]),Mv.refl _ _⟩
 · have HN:=ł (show rR s=false from by unfold rR;rw [dif_neg h1]);obtain rfl:=Ma h1
   go_enter Tryz.func88,Tryz.ntmps88
   go_wp2_with fail;go_ret;exact ⟨aD (by rw [HN.out]),Mv.refl _ _⟩
end
section
open Go.RowKit
abbrev Grow (w w':World):Prop:=Mv (fun _=>False) w w'
def ax {α:Type} (n:Nat) (f:α→List Value) (w:World) (v:Value) (l:List α):Prop :=
 ∃ a cap,v = .slice a l.length cap∧l.length≤cap∧l.length≤9223372036854775807∧∀ (i:Nat) (x:α),l[i]? = some x→∃ b off,a=some ⟨b,off,none⟩∧∀ (j:Nat) (u:Value),(f x)[j]? = some u→w.cell? ⟨b,off+i * n+j,none⟩=some u
section
variable {α:Type} {n:Nat} {f:α→List Value} {w w':World} {v:Value} {l:List α}
theorem ax.form (h:ax n f w v l):∃ a cap,v = .slice a l.length cap∧l.length≤cap∧l.length≤9223372036854775807:=by
 obtain ⟨a,cap,h1,h2,h3,_⟩:=h;exact ⟨a,cap,h1,h2,h3⟩
theorem ax.later (h:ax n f w v l) (hm:Grow w w'):ax n f w' v l:=by
 obtain ⟨a,cap,h1,h2,h3,h4⟩:=h;refine ⟨a,cap,h1,h2,h3,fun i x hx => ?_⟩;obtain ⟨b,off,hb,hc⟩:=h4 i x hx;refine ⟨b,off,hb,fun j u hu => ?_⟩;have h5:=hc j u hu;rw [← h5];exact World.cell?_of_block (w:=w) (w':=w') (hm.block _ (World.block_lt_of_cell? w _ h5) (fun h=>h))
theorem ax.nil (n:Nat) (f:α→List Value) (w:World):ax n f w (.slice none 0 0) []:=⟨none,0,rfl,Nat.le_refl _,by simp,fun i x hx=>by simp at hx⟩
theorem ax.at (h:ax n f w v l) {i:Nat} (hi:i<l.length):∃ b off cap,v = .slice (some ⟨b,off,none⟩) l.length cap∧l.length≤cap∧∀ (j:Nat) (u:Value),(f l[i])[j]? = some u→w.cell? ⟨b,off+i * n+j,none⟩=some u:=by
 obtain ⟨a,cap,rfl,h2,h3,h4⟩:=h;obtain ⟨b,off,rfl,hc⟩:=h4 i _ (List.getElem?_eq_getElem hi);exact ⟨b,off,cap,rfl,h2,hc⟩
theorem ax.at' {b off len cap:Nat} (h:ax n f w (.slice (some ⟨b,off,none⟩) len cap) l) {i:Nat} (hi:i<l.length):∀ (j:Nat) (u:Value),(f l[i])[j]? = some u→w.cell? ⟨b,off+i * n+j,none⟩=some u:=by
 obtain ⟨b',off',cap',e,_,hc⟩:=h.at hi;simp only [Value.slice.injEq,Option.some.injEq,Addr.mk.injEq,and_true] at e;obtain ⟨⟨rfl,rfl⟩,_,_⟩:=e;exact hc
end
structure bq where
 name:ByteArray
 kind:Int
 len:Int
structure dF where
 name:ByteArray
 kind:Int
 len:Int
 at':Int
structure bD where
 at':Int
 name:ByteArray
def bq.cells (v:bq):List Value:=[.string v.name,.int .u8 v.kind,.int .i64 v.len]
def dF.cells (v:dF):List Value:=[.string v.name,.int .u8 v.kind,.int .i64 v.len,.int .i64 v.at']
def bD.cells (v:bD):List Value:=[.int .i64 v.at',.string v.name]
abbrev bq.val (v:bq):Value := .agg #[.string v.name,.int .u8 v.kind,.int .i64 v.len]
structure Qd where
 name:ByteArray
 params:List bq
 slots:List dF
 cells:Int
 stacks:Int
 code:List Ins
 refs:List bD
def In64 (x:Int):Prop := -9223372036854775808≤x∧x≤9223372036854775807
def Y0 (i:Ins):Prop:=(0≤i.op∧i.op≤255)∧In64 i.a∧In64 i.b∧In64 i.c∧In64 i.d
structure Y1 (o:Qd):Prop where
 name:o.name.size≤9223372036854775807
 params:∀ v∈o.params,v.name.size≤9223372036854775807∧In64 v.len
 slots:∀ v∈o.slots,v.name.size≤9223372036854775807∧In64 v.len∧In64 v.at'
 cells:In64 o.cells
 stacks:In64 o.stacks
 code:∀ i∈o.code,Y0 i
 refs:∀ r∈o.refs,r.name.size≤9223372036854775807∧In64 r.at'
 few:o.slots.length≤4398046511104
structure vG where
 d:Qd
 pv:Value
 sv:Value
 cv:Value
 rv:Value
def vG.cells (o:vG):List Value:=[.string o.d.name,o.pv,o.sv,.int .i64 o.d.cells,.int .i64 o.d.stacks,o.cv,o.rv]
abbrev vG.val (o:vG):Value := .agg #[.string o.d.name,o.pv,o.sv,.int .i64 o.d.cells,.int .i64 o.d.stacks,o.cv,o.rv]
structure Fh (w:World) (o:vG):Prop where
 ok:Y1 o.d
 params:ax 3 bq.cells w o.pv o.d.params
 slots:ax 4 dF.cells w o.sv o.d.slots
 code:ax 5 Ins.cells w o.cv o.d.code
 refs:ax 2 bD.cells w o.rv o.d.refs
theorem Fh.later {w w':World} {o:vG} (h:Fh w o) (hm:Grow w w'):Fh w' o:=⟨h.ok,h.params.later hm,h.slots.later hm,h.code.later hm,h.refs.later hm⟩
structure Jd (w:World) (v:Value) (l:List vG):Prop where
 row:ax 7 vG.cells w v l
 each:∀ o∈l,Fh w o
theorem Jd.later {w w':World} {v:Value} {l:List vG} (h:Jd w v l) (hm:Grow w w'):Jd w' v l:=⟨h.row.later hm,fun o ho=>(h.each o ho).later hm⟩
end
end Go.Proofs.YtnobahchcongnaaGreatDoor
