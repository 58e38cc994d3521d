import Derived.Shelf.Small.Bits
import Derived.Shelf.Small.Strs
import Derived.Shelf.Small.Wraps
import Derived.Shelf.Strconv.Atoi
import Derived.Shelf.Strconv.Itoa0
import Derived.Shelf.Strings.Search1
import Derived.Shelf.Strings.Prefix
import Derived.Ground.Names2Prog
import Derived.Shelf.Slices.Clone
import Derived.Shelf.Slices.SearchI
import Derived.Test.YtadecgbblajifaaGreatDoorProg
import Derived.Test.YtadecgbblajifaaGreatDoorE16
import Derived.Lib.Strings
set_option linter.unusedSimpArgs false
set_option linter.unusedVariables false
set_option maxRecDepth 100000
set_option maxHeartbeats 25600000
namespace Go.Proofs.YtadecgbblajifaaGreatDoor
end Go.Proofs.YtadecgbblajifaaGreatDoor
namespace Go.Proofs
open Go.Shelf
def Tryz.XL:Go.Shelf.Ren:=⟨fun|137=>173|217=>198|266=>222|n=>n,fun|9=>9|5=>5|3=>3|n=>n,fun|n=>n⟩
theorem Tryz.aas:Go.Proofs.Lays.n137 Tryz.prog Tryz.XL := {
 mixed:=by kernel_rfl
 f137:=Tryz.func173.trans (congrArg some (by kernel_rfl))
 f217:=Tryz.func198.trans (congrArg some (by kernel_rfl))
 f266:=Tryz.func222.trans (congrArg some (by kernel_rfl))
 t3:=Tryz.underlying3
 a3:=Tryz.isAgg3
 z3:=Tryz.sizeOf3
 v3:=Tryz.zeroValue3
 t5:=Tryz.underlying5
 a5:=Tryz.isAgg5
 z5:=Tryz.sizeOf5
 v5:=Tryz.zeroValue5
 t9:=Tryz.underlying9
 a9:=Tryz.isAgg9
 z9:=Tryz.sizeOf9
 v9:=Tryz.zeroValue9 }
open Go.RowKit in
theorem Tryz.strings_IndexByte (s:ByteArray) (c:Int) (w:World) :
 Calls Tryz.prog 173 #[.string s,.int .u8 c] w λe w'=>e = .returned (.int .i64 (Lib.indexByte s.data.toList c.toNat.toUInt8))/\w'=w:=Any.strings_IndexByte Tryz.aas s c w
def Tryz.XM:Go.Shelf.Ren:=⟨fun|215=>176|n=>n,fun|3=>3|4=>4|n=>n,fun|n=>n⟩
theorem Tryz.aat:Go.Proofs.Lays.n215 Tryz.prog Tryz.XM := {
 mixed:=by kernel_rfl
 f215:=Tryz.func176.trans (congrArg some (by kernel_rfl))
 t3:=Tryz.underlying3
 a3:=Tryz.isAgg3
 z3:=Tryz.sizeOf3
 v3:=Tryz.zeroValue3
 t4:=Tryz.underlying4
 a4:=Tryz.isAgg4
 z4:=Tryz.sizeOf4
 v4:=Tryz.zeroValue4 }
open Go.RowKit in
theorem Tryz.cmp_isNaN_int (x:Int) (w:World) :
 Calls Tryz.prog 176 #[.int .i64 x] w λe w'=>e = .returned (.bool false)/\w'=w:=Any.cmp_isNaN_int Tryz.aat x w
def Tryz.XN:Go.Shelf.Ren:=⟨fun|122=>138|215=>176|n=>n,fun|3=>3|4=>4|n=>n,fun|n=>n⟩
theorem Tryz.aau:Go.Proofs.Lays.n122 Tryz.prog Tryz.XN := {
 mixed:=by kernel_rfl
 f122:=Tryz.func138.trans (congrArg some (by kernel_rfl))
 f215:=Tryz.func176.trans (congrArg some (by kernel_rfl))
 t3:=Tryz.underlying3
 a3:=Tryz.isAgg3
 z3:=Tryz.sizeOf3
 v3:=Tryz.zeroValue3
 t4:=Tryz.underlying4
 a4:=Tryz.isAgg4
 z4:=Tryz.sizeOf4
 v4:=Tryz.zeroValue4 }
open Go.RowKit in
theorem Tryz.cmp_Compare_int (x y:Int) (w:World) :
 Calls Tryz.prog 138 #[.int .i64 x,.int .i64 y] w λe w'=>e = .returned (.int .i64 (Lib.compareInt x y))/\w'=w:=Any.cmp_Compare_int Tryz.aau x y w
def Tryz.XO:Go.Shelf.Ren:=⟨fun|244=>209|247=>228|287=>247|321=>261|322=>262|n=>n,fun|9=>9|3=>3|75=>221|4=>4|5=>5|167=>265|37=>51|0=>0|85=>266|2=>2|53=>251|175=>285|46=>157|21=>21|80=>103|n=>n,fun|n=>n⟩
theorem Tryz.aav:Go.Proofs.Lays.n244 Tryz.prog Tryz.XO := {
 mixed:=by kernel_rfl
 f244:=Tryz.func209.trans (congrArg some (by kernel_rfl))
 f247:=Tryz.func228.trans (congrArg some (by kernel_rfl))
 f287:=Tryz.func247.trans (congrArg some (by kernel_rfl))
 f321:=Tryz.func261.trans (congrArg some (by kernel_rfl))
 f322:=Tryz.func262.trans (congrArg some (by kernel_rfl))
 t0:=Tryz.underlying0
 a0:=Tryz.isAgg0
 z0:=Tryz.sizeOf0
 v0:=Tryz.zeroValue0
 t2:=Tryz.underlying2
 a2:=Tryz.isAgg2
 z2:=Tryz.sizeOf2
 v2:=Tryz.zeroValue2
 t3:=Tryz.underlying3
 a3:=Tryz.isAgg3
 z3:=Tryz.sizeOf3
 v3:=Tryz.zeroValue3
 t4:=Tryz.underlying4
 a4:=Tryz.isAgg4
 z4:=Tryz.sizeOf4
 v4:=Tryz.zeroValue4
 t5:=Tryz.underlying5
 a5:=Tryz.isAgg5
 z5:=Tryz.sizeOf5
 v5:=Tryz.zeroValue5
 t9:=Tryz.underlying9
 a9:=Tryz.isAgg9
 z9:=Tryz.sizeOf9
 v9:=Tryz.zeroValue9
 t21:=Tryz.underlying21
 a21:=Tryz.isAgg21
 z21:=Tryz.sizeOf21
 v21:=Tryz.zeroValue21
 t37:=Tryz.underlying51
 a37:=Tryz.isAgg51
 z37:=Tryz.sizeOf51
 v37:=Tryz.zeroValue51
 t46:=Tryz.underlying157
 a46:=Tryz.isAgg157
 z46:=Tryz.sizeOf157
 v46:=Tryz.zeroValue157
 t53:=Tryz.underlying251
 a53:=Tryz.isAgg251
 z53:=Tryz.sizeOf251
 v53:=Tryz.zeroValue251
 t75:=Tryz.underlying221
 a75:=Tryz.isAgg221
 z75:=Tryz.sizeOf221
 v75:=Tryz.zeroValue221
 t85:=Tryz.underlying266
 a85:=Tryz.isAgg266
 z85:=Tryz.sizeOf266
 v85:=Tryz.zeroValue266
 t167:=Tryz.underlying265
 a167:=Tryz.isAgg265
 z167:=Tryz.sizeOf265
 v167:=Tryz.zeroValue265
 t175:=Tryz.underlying285
 a175:=Tryz.isAgg285
 z175:=Tryz.sizeOf285
 v175:=Tryz.zeroValue285 }
open Go.RowKit in
theorem Tryz.internal_strconv_Atoi (s:ByteArray) (n:Int) (hl:s.size<=18) (h:Lib.atoi s.data.toList=some n) (w:World) :
 Calls Tryz.prog 209 #[.string s] w λe w'=>e = .returned (.tuple #[.int .i64 n,.nilIface])/\∃ t,w'=Lib.bytesWorld w 5 t:=Any.internal_strconv_Atoi Tryz.aav s n hl h w
def Tryz.XP:Go.Shelf.Ren:=⟨fun|172=>177|244=>209|245=>210|247=>228|279=>229|280=>230|281=>231|282=>232|287=>247|316=>248|171=>250|205=>249|321=>261|322=>262|243=>263|246=>268|283=>270|284=>271|285=>272|286=>273|129=>208|317=>274|318=>275|319=>276|320=>277|337=>278|338=>279|n=>n,fun|9=>9|3=>3|75=>221|76=>222|4=>4|5=>5|167=>265|37=>51|0=>0|85=>266|2=>2|168=>268|53=>251|175=>285|46=>157|210=>289|127=>299|145=>302|143=>300|21=>21|171=>305|173=>307|212=>309|51=>249|20=>20|213=>310|232=>311|233=>312|80=>103|n=>n,fun|15=>3|16=>4|17=>5|18=>6|19=>7|n=>n⟩
theorem Tryz.aaw:Go.Proofs.Lays.n172 Tryz.prog Tryz.XP := {
 mixed:=by kernel_rfl
 f129:=Tryz.func208.trans (congrArg some (by kernel_rfl))
 f171:=Tryz.func250.trans (congrArg some (by kernel_rfl))
 f172:=Tryz.func177.trans (congrArg some (by kernel_rfl))
 f205:=Tryz.func249.trans (congrArg some (by kernel_rfl))
 f243:=Tryz.func263.trans (congrArg some (by kernel_rfl))
 f244:=Tryz.func209.trans (congrArg some (by kernel_rfl))
 f245:=Tryz.func210.trans (congrArg some (by kernel_rfl))
 f246:=Tryz.func268.trans (congrArg some (by kernel_rfl))
 f247:=Tryz.func228.trans (congrArg some (by kernel_rfl))
 f279:=Tryz.func229.trans (congrArg some (by kernel_rfl))
 f280:=Tryz.func230.trans (congrArg some (by kernel_rfl))
 f281:=Tryz.func231.trans (congrArg some (by kernel_rfl))
 f282:=Tryz.func232.trans (congrArg some (by kernel_rfl))
 f283:=Tryz.func270.trans (congrArg some (by kernel_rfl))
 f284:=Tryz.func271.trans (congrArg some (by kernel_rfl))
 f285:=Tryz.func272.trans (congrArg some (by kernel_rfl))
 f286:=Tryz.func273.trans (congrArg some (by kernel_rfl))
 f287:=Tryz.func247.trans (congrArg some (by kernel_rfl))
 f316:=Tryz.func248.trans (congrArg some (by kernel_rfl))
 f317:=Tryz.func274.trans (congrArg some (by kernel_rfl))
 f318:=Tryz.func275.trans (congrArg some (by kernel_rfl))
 f319:=Tryz.func276.trans (congrArg some (by kernel_rfl))
 f320:=Tryz.func277.trans (congrArg some (by kernel_rfl))
 f321:=Tryz.func261.trans (congrArg some (by kernel_rfl))
 f322:=Tryz.func262.trans (congrArg some (by kernel_rfl))
 f337:=Tryz.func278.trans (congrArg some (by kernel_rfl))
 f338:=Tryz.func279.trans (congrArg some (by kernel_rfl))
 t0:=Tryz.underlying0
 a0:=Tryz.isAgg0
 z0:=Tryz.sizeOf0
 v0:=Tryz.zeroValue0
 t2:=Tryz.underlying2
 a2:=Tryz.isAgg2
 z2:=Tryz.sizeOf2
 v2:=Tryz.zeroValue2
 t3:=Tryz.underlying3
 a3:=Tryz.isAgg3
 z3:=Tryz.sizeOf3
 v3:=Tryz.zeroValue3
 t4:=Tryz.underlying4
 a4:=Tryz.isAgg4
 z4:=Tryz.sizeOf4
 v4:=Tryz.zeroValue4
 t5:=Tryz.underlying5
 a5:=Tryz.isAgg5
 z5:=Tryz.sizeOf5
 v5:=Tryz.zeroValue5
 t9:=Tryz.underlying9
 a9:=Tryz.isAgg9
 z9:=Tryz.sizeOf9
 v9:=Tryz.zeroValue9
 t20:=Tryz.underlying20
 a20:=Tryz.isAgg20
 z20:=Tryz.sizeOf20
 v20:=Tryz.zeroValue20
 t21:=Tryz.underlying21
 a21:=Tryz.isAgg21
 z21:=Tryz.sizeOf21
 v21:=Tryz.zeroValue21
 t37:=Tryz.underlying51
 a37:=Tryz.isAgg51
 z37:=Tryz.sizeOf51
 v37:=Tryz.zeroValue51
 t46:=Tryz.underlying157
 a46:=Tryz.isAgg157
 z46:=Tryz.sizeOf157
 v46:=Tryz.zeroValue157
 t51:=Tryz.underlying249
 a51:=Tryz.isAgg249
 z51:=Tryz.sizeOf249
 v51:=Tryz.zeroValue249
 t53:=Tryz.underlying251
 a53:=Tryz.isAgg251
 z53:=Tryz.sizeOf251
 v53:=Tryz.zeroValue251
 t75:=Tryz.underlying221
 a75:=Tryz.isAgg221
 z75:=Tryz.sizeOf221
 v75:=Tryz.zeroValue221
 t76:=Tryz.underlying222
 a76:=Tryz.isAgg222
 z76:=Tryz.sizeOf222
 v76:=Tryz.zeroValue222
 t85:=Tryz.underlying266
 a85:=Tryz.isAgg266
 z85:=Tryz.sizeOf266
 v85:=Tryz.zeroValue266
 t127:=Tryz.underlying299
 a127:=Tryz.isAgg299
 z127:=Tryz.sizeOf299
 v127:=Tryz.zeroValue299
 t143:=Tryz.underlying300
 a143:=Tryz.isAgg300
 z143:=Tryz.sizeOf300
 v143:=Tryz.zeroValue300
 t145:=Tryz.underlying302
 a145:=Tryz.isAgg302
 z145:=Tryz.sizeOf302
 v145:=Tryz.zeroValue302
 t167:=Tryz.underlying265
 a167:=Tryz.isAgg265
 z167:=Tryz.sizeOf265
 v167:=Tryz.zeroValue265
 t168:=Tryz.underlying268
 a168:=Tryz.isAgg268
 z168:=Tryz.sizeOf268
 v168:=Tryz.zeroValue268
 t171:=Tryz.underlying305
 a171:=Tryz.isAgg305
 z171:=Tryz.sizeOf305
 v171:=Tryz.zeroValue305
 t173:=Tryz.underlying307
 a173:=Tryz.isAgg307
 z173:=Tryz.sizeOf307
 v173:=Tryz.zeroValue307
 t175:=Tryz.underlying285
 a175:=Tryz.isAgg285
 z175:=Tryz.sizeOf285
 v175:=Tryz.zeroValue285
 t210:=Tryz.underlying289
 a210:=Tryz.isAgg289
 z210:=Tryz.sizeOf289
 v210:=Tryz.zeroValue289
 t212:=Tryz.underlying309
 a212:=Tryz.isAgg309
 z212:=Tryz.sizeOf309
 v212:=Tryz.zeroValue309
 t213:=Tryz.underlying310
 a213:=Tryz.isAgg310
 z213:=Tryz.sizeOf310
 t232:=Tryz.underlying311
 a232:=Tryz.isAgg311
 z232:=Tryz.sizeOf311
 v232:=Tryz.zeroValue311
 t233:=Tryz.underlying312
 a233:=Tryz.isAgg312
 z233:=Tryz.sizeOf312
 v233:=Tryz.zeroValue312
 g15:=by kernel_rfl
 g16:=by kernel_rfl
 g17:=by kernel_rfl
 g18:=by kernel_rfl
 g19:=by kernel_rfl }
open Go.RowKit in
theorem Tryz.strconv_Atoi (s:ByteArray) (n:Int) (hl:s.size<=18) (h:Lib.atoi s.data.toList=some n) (w:World) :
 Calls Tryz.prog 177 #[.string s] w λe w'=>e = .returned (.tuple #[.int .i64 n,.nilIface])/\∃ t,w'=Lib.bytesWorld w 5 t:=Any.strconv_Atoi Tryz.aaw s n hl h w
def Tryz.XQ:Go.Shelf.Ren:=⟨fun|217=>198|266=>222|n=>n,fun|9=>9|5=>5|3=>3|n=>n,fun|n=>n⟩
theorem Tryz.aax:Go.Proofs.Lays.n217 Tryz.prog Tryz.XQ := {
 mixed:=by kernel_rfl
 f217:=Tryz.func198.trans (congrArg some (by kernel_rfl))
 f266:=Tryz.func222.trans (congrArg some (by kernel_rfl))
 t3:=Tryz.underlying3
 a3:=Tryz.isAgg3
 z3:=Tryz.sizeOf3
 v3:=Tryz.zeroValue3
 t5:=Tryz.underlying5
 a5:=Tryz.isAgg5
 z5:=Tryz.sizeOf5
 v5:=Tryz.zeroValue5
 t9:=Tryz.underlying9
 a9:=Tryz.isAgg9
 z9:=Tryz.sizeOf9
 v9:=Tryz.zeroValue9 }
open Go.RowKit Go.Lib in
theorem Tryz.stringslite_IndexByte (s:ByteArray) (c:Int) (w:World) :
 Calls Tryz.prog 198 #[.string s,.int .u8 c] w λe w'=>e = .returned (.int .i64 (Lib.indexByte s.data.toList c.toNat.toUInt8))/\w'=w:=Any.stringslite_IndexByte Tryz.aax s c w
def Tryz.XR:Go.Shelf.Ren:=⟨fun|206=>197|n=>n,fun|9=>9|4=>4|3=>3|n=>n,fun|n=>n⟩
theorem Tryz.aay:Go.Proofs.Lays.n206 Tryz.prog Tryz.XR := {
 mixed:=by kernel_rfl
 f206:=Tryz.func197.trans (congrArg some (by kernel_rfl))
 t3:=Tryz.underlying3
 a3:=Tryz.isAgg3
 z3:=Tryz.sizeOf3
 v3:=Tryz.zeroValue3
 t4:=Tryz.underlying4
 a4:=Tryz.isAgg4
 z4:=Tryz.sizeOf4
 v4:=Tryz.zeroValue4
 t9:=Tryz.underlying9
 a9:=Tryz.isAgg9
 z9:=Tryz.sizeOf9
 v9:=Tryz.zeroValue9 }
open Go.RowKit Go.Lib in
theorem Tryz.stringslite_HasPrefix (s p:ByteArray) (w:World) :
 Calls Tryz.prog 197 #[.string s,.string p] w λe w'=>e = .returned (.bool (Lib.hasPrefix s.data.toList p.data.toList))/\w'=w:=Any.stringslite_HasPrefix Tryz.aay s p w
def Tryz.Yh:Go.Shelf.Ren:=⟨fun|99=>172|206=>197|n=>n,fun|9=>9|4=>4|3=>3|n=>n,fun|n=>n⟩
theorem Tryz.abp:Go.Proofs.Lays.n99 Tryz.prog Tryz.Yh := {
 mixed:=by kernel_rfl
 f99:=Tryz.func172.trans (congrArg some (by kernel_rfl))
 f206:=Tryz.func197.trans (congrArg some (by kernel_rfl))
 t3:=Tryz.underlying3
 a3:=Tryz.isAgg3
 z3:=Tryz.sizeOf3
 v3:=Tryz.zeroValue3
 t4:=Tryz.underlying4
 a4:=Tryz.isAgg4
 z4:=Tryz.sizeOf4
 v4:=Tryz.zeroValue4
 t9:=Tryz.underlying9
 a9:=Tryz.isAgg9
 z9:=Tryz.sizeOf9
 v9:=Tryz.zeroValue9 }
open Go.RowKit Go.Lib in
theorem Tryz.strings_HasPrefix (s p:ByteArray) (w:World) :
 Calls Tryz.prog 172 #[.string s,.string p] w λe w'=>e = .returned (.bool (Lib.hasPrefix s.data.toList p.data.toList))/\w'=w:=Any.strings_HasPrefix Tryz.abp s p w
def Tryz.Xi:Go.Shelf.Ren:=⟨fun|15=>62|n=>n,fun|22=>65|3=>3|4=>4|n=>n,fun|n=>n⟩
theorem Tryz.Iq:Go.Proofs.Lays2.n15 Tryz.prog Tryz.Xi := {
 mixed:=by kernel_rfl
 f15:=Tryz.func62.trans (congrArg some (by kernel_rfl))
 t3:=Tryz.underlying3
 a3:=Tryz.isAgg3
 z3:=Tryz.sizeOf3
 v3:=Tryz.zeroValue3
 t4:=Tryz.underlying4
 a4:=Tryz.isAgg4
 z4:=Tryz.sizeOf4
 v4:=Tryz.zeroValue4
 t22:=Tryz.underlying65
 a22:=Tryz.isAgg65
 z22:=Tryz.sizeOf65
 v22:=Tryz.zeroValue65
 i3:=by kernel_rfl }
open Go.RowKit Go.Lib in
theorem Tryz.slices_Clone_int (b off n c:Nat) (zs:List Int) (w:World) (hz:n<=zs.length) (hbig:n * 8<=140737488355328) (hc:∀ j,j<zs.length->w.cell? ⟨b,off+j,none⟩=some (.int .i64 (zs.getD j 0))) :
 Calls Tryz.prog 62 #[.slice (some ⟨b,off,none⟩) n c] w λe w'=>∃ v',e = .returned v'/\w'.ownsRow w.heap.size 3 1 v' n ((zs.take n).map (Value.int .i64))/\v' ≠ .slice none 0 0/\Below w.heap.size w w':=Any.slices_Clone_int Tryz.Iq b off n c zs w hz hbig hc
open Go.RowKit Go.Lib in
theorem Tryz.slices_Clone_int_nil (n c:Nat) (w:World) :
 Calls Tryz.prog 62 #[.slice none n c] w λe w'=>e = .returned (.slice none 0 0)/\w'=w:=Any.slices_Clone_int_nil Tryz.Iq n c w
open Go.RowKit Go.Lib in
theorem Tryz.slices_Clone_int_zero (a:Addr) (c:Nat) (w:World) :
 Calls Tryz.prog 62 #[.slice (some a) 0 c] w λe w'=>∃ v',e = .returned v'/\w'.ownsRow w.heap.size 3 1 v' 0 []/\v' ≠ .slice none 0 0/\Below w.heap.size w w':=Any.slices_Clone_int_zero Tryz.Iq a c w
def Tryz.Xj:Go.Shelf.Ren:=⟨fun|37=>176|n=>n,fun|3=>3|4=>4|n=>n,fun|n=>n⟩
theorem Tryz.YY:Go.Proofs.Lays2.n37 Tryz.prog Tryz.Xj := {
 mixed:=by kernel_rfl
 f37:=Tryz.func176.trans (congrArg some (by kernel_rfl))
 t3:=Tryz.underlying3
 a3:=Tryz.isAgg3
 z3:=Tryz.sizeOf3
 v3:=Tryz.zeroValue3
 t4:=Tryz.underlying4
 a4:=Tryz.isAgg4
 z4:=Tryz.sizeOf4
 v4:=Tryz.zeroValue4 }
open Go.RowKit Go.Lib in
theorem Tryz.cmp_isNaN_int2 (x:Int) (w:World) :
 Calls Tryz.prog 176 #[.int .i64 x] w λe w'=>e = .returned (.bool false)/\w'=w:=Any.cmp_isNaN_int2 Tryz.YY x w
end Go.Proofs
namespace Go.Proofs.YtadecgbblajifaaGreatDoor
section
open Go.RowKit Go.Instr
def aaz (w:World) (e:Ending) (w':World):Prop:=∃ n:Int,e = .returned (.int .i64 n)/\w=w'
theorem aaA (s p:ByteArray) (w:World):∃ b:Bool,Calls Tryz.prog 172 #[.string s,.string p] w λe w'=>e = .returned (.bool b)/\w=w' :=
 ⟨_,(Tryz.strings_HasPrefix s p w).mono λ_ _ h=>⟨h.1,h.2.symm⟩⟩
theorem aaB (s:ByteArray) (c:Int) (w:World):∃ n:Int,Calls Tryz.prog 173 #[.string s,.int .u8 c] w λe w'=>e = .returned (.int .i64 n)/\w=w' :=
 ⟨_,(Tryz.strings_IndexByte s c w).mono λ_ _ h=>⟨h.1,h.2.symm⟩⟩
set_option maxRecDepth 100000 in
set_option maxHeartbeats 1600000 in
theorem ZP (s:ByteArray) (w:World) (h1:1<=s.size) (hs:s.size<=16):Calls Tryz.prog 135 #[.string s] w (aaz w):=by
 obtain⟨b,hb⟩:=aaA s ⟨#[60,61,62]⟩ w
 have HB:=Lib.hid hb
 clear hb
 go_enter Tryz.func135,Tryz.ntmps135
 go_wp2_with (first
  |(go_at_call 172;refine HB.out.mono ?_;rintro e w' ⟨rfl,rfl⟩)
  |(go_at_call 173;refine(aaB _ _ _).choose_spec.mono ?_;rintro e w' ⟨rfl,rfl⟩))
 all_goals (go_ret;exact⟨_,rfl,rfl⟩)
def Rf:List ByteArray:=[⟨#[105,110,116]⟩,⟨#[97,114,114,97,121]⟩,⟨#[115,116,97,99,107]⟩,⟨#[112,114,111,99]⟩,⟨#[109,97,105,110]⟩,⟨#[112,117,115,104]⟩,⟨#[112,111,112]⟩,⟨#[114,101,97,100]⟩,⟨#[117,110,114,101,97,100]⟩,⟨#[119,114,105,116,101]⟩,⟨#[117,110,119,114,105,116,101]⟩,⟨#[99,97,108,108]⟩,⟨#[117,110,99,97,108,108]⟩,⟨#[105,102]⟩,⟨#[101,108,115,101]⟩,⟨#[102,105]⟩,⟨#[102,114,111,109]⟩,⟨#[108,111,111,112]⟩,⟨#[117,110,116,105,108]⟩,⟨#[108,111,99,97,108]⟩,⟨#[100,101,108,111,99,97,108]⟩,⟨#[116,111,112]⟩,⟨#[115,105,122,101]⟩]
def Kc:List (ByteArray × Value):=Rf.foldl (λl k=>kC k (.bool true) l) []
def zC (s:ByteArray):Bool:=(BJ Kc s).isSome
theorem Dw {κ:Type} [BEq κ] [LawfulBEq κ] (k:κ):∀ (l:List (κ × Value)) (i:Nat),(∀ p∈l,p.2 = .bool true)->((iB k l i).map (·.2)).getD (.bool false) = .bool ((iB k l i).map (·.2)).isSome
 | [],i,_=>rfl
 |(a,x) :: l,i,h=>by
  simp only[iB]
  split
  · have:=h (a,x) (by simp);simp only at this;subst this;rfl
  · exact Dw k l (i+1) (λp hp=>h p (by simp[hp]))
theorem Ir {κ:Type} [BEq κ] [LawfulBEq κ] (k:κ):∀ (l:List (κ × Value)),(∀ p∈l,p.2 = .bool true)->∀ p∈kC k (.bool true) l,p.2 = .bool true
 | [],_,p,hp=>by simp[kC]at hp;subst hp;rfl
 |(a,x) :: l,h,p,hp=>by
  simp only[kC]at hp
  split at hp
  · rcases List.mem_cons.1 hp with rfl|hp
    · rfl
    · exact h p (by simp[hp])
  · rcases List.mem_cons.1 hp with rfl|hp
    · exact h _ (by simp)
    · exact Ir k l (λq hq=>h q (by simp[hq])) p hp
theorem YZ (ks:List ByteArray):∀ (l:List (ByteArray × Value)),(∀ p∈l,p.2 = .bool true)->∀ p∈ks.foldl (λl k=>kC k (.bool true) l) l,p.2 = .bool true:=by
 induction ks with
 |nil=>intro l h;exact h
 |cons k ks ih=>intro l h;exact ih _ (Ir k l h)
theorem Tryz.gG:KeyLaw Tryz.prog 9 Value.string .string:=aaq Tryz.underlying9
theorem Tryz.IU (w:World):(zeroValue 4).run Tryz.prog w = .ok (.bool false) w:=by kernel_rfl
theorem gM {P:Program} {κ:Type} [BEq κ] [LawfulBEq κ] {enc:κ->Value} {desc:TypeDesc} {K T E:TypeId} {w:World} {ops:Array Oper} {rest:List Oper} {o:Oper} {a:Act} {Q:Exit->Act->World->Prop}
 (L:KeyLaw P K enc desc) (ht:P.underlying T=some (.map K E)) (r:Nat) (l:List (κ × Value)) (k:κ) (v:Value) (h:MapAt enc w r l) (m:Tmp) (kc vc:Value) (hgd:o.guard=none) (ho:o.op = .insert T (.tmp m) (.const kc) (.const vc)) (hm:a.eval (.tmp m) = .map (some r)) (hk:kc=enc k) (hv:vc=v)
 (hnext:∀ w',MapAt enc w' r (kC k v l)->Mv (λb=>b=r) w w'->wpList P ops Q rest (a.put o.dst undef) w'):wpList P ops Q (o :: rest) a w :=
 wpList_plain hgd λ_ hK=>by
  obtain⟨w',hr,h2,h3⟩:=run_set (P:=P) L ht k v h
  subst hk hv
  unfold Oper.wp execOp
  simp only[ho,Act.eval,Sem.run_bind,Sem.run_pure,Result.andThen_ok]at hm ⊢
  simp only[hm,hr,Result.andThen_ok]
  exact hK _ _ (hnext w' h2 h3)
set_option maxRecDepth 100000 in
set_option maxHeartbeats 1600000 in
theorem XT (s:ByteArray) (w:World) (hs:s.size<=1000000000):Calls Tryz.prog 87 #[.string s] w λe w'=>e = .returned (.bool (decide (2<=s.size) && (decide (s.size<=7) && zC s)))/\Mv (λ_=>False) w w':=by
 by_cases h2:2<=s.size
 · by_cases h7:s.size<=7
   · have hmm := @run_makeMap Tryz.prog
     have H0:MapAt Value.string (w.alloc (.map #[] 0)) w.heap.size []:=MapAt.new _ w
     have M0:Mv (λb=>b=w.heap.size) w (w.alloc (.map #[] 0)):=(Mv.refl _ _).alloc _
     go_enter Tryz.func87,Tryz.ntmps87
     go_wp2_with (refine gM Tryz.gG Tryz.underlying136 w.heap.size _ ⟨#[105,110,116]⟩ (.bool true) H0 _ _ _ rfl rfl rfl rfl rfl ?_)
     intro w1 H1 N1
     have M1:=M0.trans N1 (λ_ e => .inl e)
     clear H0 M0 N1
     go_wp2_with (refine gM Tryz.gG Tryz.underlying136 w.heap.size _ ⟨#[97,114,114,97,121]⟩ (.bool true) H1 _ _ _ rfl rfl rfl rfl rfl ?_)
     intro w2 H2 N2
     have M2:=M1.trans N2 (λ_ e => .inl e)
     clear H1 M1 N2
     go_wp2_with (refine gM Tryz.gG Tryz.underlying136 w.heap.size _ ⟨#[115,116,97,99,107]⟩ (.bool true) H2 _ _ _ rfl rfl rfl rfl rfl ?_)
     intro w3 H3 N3
     have M3:=M2.trans N3 (λ_ e => .inl e)
     clear H2 M2 N3
     go_wp2_with (refine gM Tryz.gG Tryz.underlying136 w.heap.size _ ⟨#[112,114,111,99]⟩ (.bool true) H3 _ _ _ rfl rfl rfl rfl rfl ?_)
     intro w4 H4 N4
     have M4:=M3.trans N4 (λ_ e => .inl e)
     clear H3 M3 N4
     go_wp2_with (refine gM Tryz.gG Tryz.underlying136 w.heap.size _ ⟨#[109,97,105,110]⟩ (.bool true) H4 _ _ _ rfl rfl rfl rfl rfl ?_)
     intro w5 H5 N5
     have M5:=M4.trans N5 (λ_ e => .inl e)
     clear H4 M4 N5
     go_wp2_with (refine gM Tryz.gG Tryz.underlying136 w.heap.size _ ⟨#[112,117,115,104]⟩ (.bool true) H5 _ _ _ rfl rfl rfl rfl rfl ?_)
     intro w6 H6 N6
     have M6:=M5.trans N6 (λ_ e => .inl e)
     clear H5 M5 N6
     go_wp2_with (refine gM Tryz.gG Tryz.underlying136 w.heap.size _ ⟨#[112,111,112]⟩ (.bool true) H6 _ _ _ rfl rfl rfl rfl rfl ?_)
     intro w7 H7 N7
     have M7:=M6.trans N7 (λ_ e => .inl e)
     clear H6 M6 N7
     go_wp2_with (refine gM Tryz.gG Tryz.underlying136 w.heap.size _ ⟨#[114,101,97,100]⟩ (.bool true) H7 _ _ _ rfl rfl rfl rfl rfl ?_)
     intro w8 H8 N8
     have M8:=M7.trans N8 (λ_ e => .inl e)
     clear H7 M7 N8
     go_wp2_with (refine gM Tryz.gG Tryz.underlying136 w.heap.size _ ⟨#[117,110,114,101,97,100]⟩ (.bool true) H8 _ _ _ rfl rfl rfl rfl rfl ?_)
     intro w9 H9 N9
     have M9:=M8.trans N9 (λ_ e => .inl e)
     clear H8 M8 N9
     go_wp2_with (refine gM Tryz.gG Tryz.underlying136 w.heap.size _ ⟨#[119,114,105,116,101]⟩ (.bool true) H9 _ _ _ rfl rfl rfl rfl rfl ?_)
     intro w10 UT UU
     have UW:=M9.trans UU (λ_ e => .inl e)
     clear H9 M9 UU
     go_wp2_with (refine gM Tryz.gG Tryz.underlying136 w.heap.size _ ⟨#[117,110,119,114,105,116,101]⟩ (.bool true) UT _ _ _ rfl rfl rfl rfl rfl ?_)
     intro w11 UX UY
     have UZ:=UW.trans UY (λ_ e => .inl e)
     clear UT UW UY
     go_wp2_with (refine gM Tryz.gG Tryz.underlying136 w.heap.size _ ⟨#[99,97,108,108]⟩ (.bool true) UX _ _ _ rfl rfl rfl rfl rfl ?_)
     intro w12 U0 U1
     have U2:=UZ.trans U1 (λ_ e => .inl e)
     clear UX UZ U1
     go_wp2_with (refine gM Tryz.gG Tryz.underlying136 w.heap.size _ ⟨#[117,110,99,97,108,108]⟩ (.bool true) U0 _ _ _ rfl rfl rfl rfl rfl ?_)
     intro w13 U3 U4
     have U5:=U2.trans U4 (λ_ e => .inl e)
     clear U0 U2 U4
     go_wp2_with (refine gM Tryz.gG Tryz.underlying136 w.heap.size _ ⟨#[105,102]⟩ (.bool true) U3 _ _ _ rfl rfl rfl rfl rfl ?_)
     intro w14 U6 U7
     have U8:=U5.trans U7 (λ_ e => .inl e)
     clear U3 U5 U7
     go_wp2_with (refine gM Tryz.gG Tryz.underlying136 w.heap.size _ ⟨#[101,108,115,101]⟩ (.bool true) U6 _ _ _ rfl rfl rfl rfl rfl ?_)
     intro w15 U9 Va
     have Vb:=U8.trans Va (λ_ e => .inl e)
     clear U6 U8 Va
     go_wp2_with (refine gM Tryz.gG Tryz.underlying136 w.heap.size _ ⟨#[102,105]⟩ (.bool true) U9 _ _ _ rfl rfl rfl rfl rfl ?_)
     intro w16 Vd Ve
     have Vf:=Vb.trans Ve (λ_ e => .inl e)
     clear U9 Vb Ve
     go_wp2_with (refine gM Tryz.gG Tryz.underlying136 w.heap.size _ ⟨#[102,114,111,109]⟩ (.bool true) Vd _ _ _ rfl rfl rfl rfl rfl ?_)
     intro w17 Vg Vh
     have Vi:=Vf.trans Vh (λ_ e => .inl e)
     clear Vd Vf Vh
     go_wp2_with (refine gM Tryz.gG Tryz.underlying136 w.heap.size _ ⟨#[108,111,111,112]⟩ (.bool true) Vg _ _ _ rfl rfl rfl rfl rfl ?_)
     intro w18 Vj Vk
     have Vl:=Vi.trans Vk (λ_ e => .inl e)
     clear Vg Vi Vk
     go_wp2_with (refine gM Tryz.gG Tryz.underlying136 w.heap.size _ ⟨#[117,110,116,105,108]⟩ (.bool true) Vj _ _ _ rfl rfl rfl rfl rfl ?_)
     intro w19 Vm Vn
     have Vo:=Vl.trans Vn (λ_ e => .inl e)
     clear Vj Vl Vn
     go_wp2_with (refine gM Tryz.gG Tryz.underlying136 w.heap.size _ ⟨#[108,111,99,97,108]⟩ (.bool true) Vm _ _ _ rfl rfl rfl rfl rfl ?_)
     intro w20 Vp Vq
     have Vr:=Vo.trans Vq (λ_ e => .inl e)
     clear Vm Vo Vq
     go_wp2_with (refine gM Tryz.gG Tryz.underlying136 w.heap.size _ ⟨#[100,101,108,111,99,97,108]⟩ (.bool true) Vp _ _ _ rfl rfl rfl rfl rfl ?_)
     intro w21 Vs Vt
     have Vu:=Vr.trans Vt (λ_ e => .inl e)
     clear Vp Vr Vt
     go_wp2_with (refine gM Tryz.gG Tryz.underlying136 w.heap.size _ ⟨#[116,111,112]⟩ (.bool true) Vs _ _ _ rfl rfl rfl rfl rfl ?_)
     intro w22 Vv Vw
     have Vx:=Vu.trans Vw (λ_ e => .inl e)
     clear Vs Vu Vw
     go_wp2_with (refine gM Tryz.gG Tryz.underlying136 w.heap.size _ ⟨#[115,105,122,101]⟩ (.bool true) Vv _ _ _ rfl rfl rfl rfl rfl ?_)
     intro Vy Vz VA
     have VB:=Vx.trans VA (λ_ e => .inl e)
     clear Vv Vx VA
     have hl:=run_get Tryz.gG Tryz.underlying136 s (.bool false) Tryz.IU Vz
     have hg:(BJ Kc s).getD (.bool false) = .bool (zC s):=Dw s Kc 0 (YZ Rf [] (by simp))
     have hl2:(lookup 136 (.map (some w.heap.size)) (.string s) false).run Tryz.prog Vy = .ok (.bool (zC s)) Vy:=hl.trans (by rw[← hg];rfl)
     have HM:=Lib.hid (VB.mono (O1:=λ_=>False) (λx e => .inr (by omega)))
     clear hl hg Vz VB
     go_wp2_with fail
     go_ret
     exact⟨ax (by simp[h2,h7]),HM.out⟩
   · go_enter Tryz.func87,Tryz.ntmps87
     go_wp2_with fail
     go_ret
     exact⟨ax (by simp[h7]),Mv.refl _ _⟩
 · go_enter Tryz.func87,Tryz.ntmps87
   go_wp2_with fail
   go_ret
   exact⟨ax (by simp[h2]),Mv.refl _ _⟩
end
section
open Go.RowKit Go.Instr
def ZQ (w:World) (e:Ending) (w':World):Prop:=∃ k n:Int,(k == 1)=false/\e = .returned (.tuple #[.int .u8 k,.int .i64 n])/\w=w'
set_option maxHeartbeats 800000 in
theorem Yi (s:ByteArray) (w:World) (h1:1<=s.size) (hs:s.size<=16) (hl:oh (s[0].toNat)=true) :
 Calls Tryz.prog 86 #[.string s] w λe w'=>e = .returned (.tuple #[.int .u8 1,.int .i64 (jE lV s.data.toList)])/\w=w':=by
 go_enter Tryz.func86,Tryz.ntmps86
 go_wp2_with (first
  |(go_at_call 129;refine(o5 _ _).mono ?_;rintro e w' ⟨rfl,rfl⟩)
  |(go_at_call 130;refine(Oe s _ (by omega)).mono ?_;rintro e w' ⟨rfl,rfl⟩))
 go_ret2
 exact⟨rfl,rfl⟩
set_option maxHeartbeats 1600000 in
theorem XU (s:ByteArray) (w:World) (h1:1<=s.size) (hs:s.size<=16) (hl:oh (s[0].toNat)=false):Calls Tryz.prog 86 #[.string s] w (ZQ w):=by
 by_cases hd:kD (s[0].toNat)=true
 · go_enter Tryz.func86,Tryz.ntmps86
   go_wp2_with (first
    |(go_at_call 129;refine(o5 _ _).mono ?_;rintro e w' ⟨rfl,rfl⟩)
    |(go_at_call 132;refine(o6 _ _).mono ?_;rintro e w' ⟨rfl,rfl⟩)
    |(go_at_call 130;refine(Og s _ (by omega)).mono ?_;rintro e w' ⟨rfl,rfl⟩))
   go_ret2
   exact⟨_,_,rfl,rfl,rfl⟩
 · have hd2:kD (s[0].toNat)=false:=by simpa using hd
   by_cases hb:kX (s[0].toNat)=true
   · go_enter Tryz.func86,Tryz.ntmps86
     go_wp2_with (first
      |(go_at_call 129;refine(o5 _ _).mono ?_;rintro e w' ⟨rfl,rfl⟩)
      |(go_at_call 132;refine(o6 _ _).mono ?_;rintro e w' ⟨rfl,rfl⟩)
      |(go_at_call 133;refine(ve _ _).mono ?_;rintro e w' ⟨rfl,rfl⟩)
      |(go_at_call 130;refine(Oh s _ (by omega)).mono ?_;rintro e w' ⟨rfl,rfl⟩))
     go_ret2
     exact⟨_,_,rfl,rfl,rfl⟩
   · have hb2:kX (s[0].toNat)=false:=by simpa using hb
     go_enter Tryz.func86,Tryz.ntmps86
     go_wp2_with (first
      |(go_at_call 129;refine(o5 _ _).mono ?_;rintro e w' ⟨rfl,rfl⟩)
      |(go_at_call 132;refine(o6 _ _).mono ?_;rintro e w' ⟨rfl,rfl⟩)
      |(go_at_call 133;refine(ve _ _).mono ?_;rintro e w' ⟨rfl,rfl⟩)
      |(go_at_call 130;refine(IQ s _ (by omega)).mono ?_;rintro e w' ⟨rfl,rfl⟩)
      |(go_at_call 135;refine(ZP s _ h1 hs).mono ?_;rintro e w' ⟨n,rfl,rfl⟩))
     all_goals (go_ret2;exact⟨_,_,rfl,rfl,rfl⟩)
def dH (s:ByteArray):Bool:=if h:1<=s.size then decide (s.size<=16) && (oh (s[0].toNat) && (decide (jE lV s.data.toList=s.size) && !(decide (2<=s.size) && (decide (s.size<=7) && zC s))))else false
theorem Di {s:ByteArray} (h:¬ 1<=s.size):s=⟨#[]⟩:=by
 cases s with|mk a =>
 have:a.size=0:=by simpa[ByteArray.size]using h
 simp[Array.size_eq_zero_iff.1 this]
theorem xK {s:ByteArray} (h:1<=s.size):s.toList.isEmpty=false:=by
 have h1:s.toList=s.data.toList:=ByteArray.toList_eq s
 rw[h1]
 cases hl:s.data.toList with
 |nil =>
  have:s.size=0:=by
   have:=congrArg List.length hl
   simpa using this
  omega
 |cons a l=>rfl
set_option maxHeartbeats 1600000 in
theorem DI (s:ByteArray) (w:World) (hs:s.size<=9223372036854775807):Calls Tryz.prog 41 #[.string s] w λe w'=>e = .returned (.bool (dH s))/\Mv (λ_=>False) w w':=by
 by_cases h1:1<=s.size
 · by_cases h16:s.size<=16
   · by_cases hl:oh (s[0].toNat)=true
     · have HF:=Lib.hid (Yi s w h1 h16 hl)
       have HK:=Lib.hid (XT s w (by omega))
       have HN:=Lib.hid (show dH s=(decide (jE lV s.data.toList=s.size) && !(decide (2<=s.size) && (decide (s.size<=7) && zC s)))from by unfold dH;rw[dif_pos h1,hl];simp[h16])
       generalize jE lV s.data.toList=n at *
       generalize (decide (2<=s.size) && (decide (s.size<=7) && zC s))=q at *
       have hne:=xK h1
       go_enter Tryz.func41,Tryz.ntmps41
       go_wp2_with fail
       refine HF.out.mono ?_
       rintro e w' ⟨rfl,rfl⟩
       by_cases hn:n=s.size
       · have hnb:((n:Int) == (s.size:Int))=true:=by simp[hn]
         have LU:=Lib.hid hn
         clear hn
         go_wp2_with fail
         refine HK.out.mono ?_
         rintro e w' ⟨rfl,hm⟩
         have HM:=Lib.hid hm
         clear hm
         go_wp2_with fail
         all_goals (go_ret;exact⟨ax (by rw[HN.out,LU.out];simp_all),HM.out⟩)
       · have hnb:((n:Int) == (s.size:Int))=false:=by simpa using λe=>hn (by omega)
         go_wp2_with fail
         all_goals (go_ret;exact⟨ax (by rw[HN.out];simp_all),Mv.refl _ _⟩)
     · have hl2:oh (s[0].toNat)=false:=by simpa using hl
       have HF:=Lib.hid (XU s w h1 h16 hl2)
       have HN:=Lib.hid (show dH s=false from by unfold dH;rw[dif_pos h1,hl2];simp)
       have hne:=xK h1
       clear hl hl2
       go_enter Tryz.func41,Tryz.ntmps41
       go_wp2_with fail
       refine HF.out.mono ?_
       rintro e w' ⟨k,n,hk,rfl,rfl⟩
       go_wp2_with fail
       go_ret
       exact⟨ax (by rw[HN.out]),Mv.refl _ _⟩
   · have HN:=Lib.hid (show dH s=false from by unfold dH;rw[dif_pos h1];simp[h16])
     have hne:=xK h1
     go_enter Tryz.func41,Tryz.ntmps41
     go_wp2_with fail
     go_ret
     exact⟨ax (by rw[HN.out]),Mv.refl _ _⟩
 · have HN:=Lib.hid (show dH s=false from by unfold dH;rw[dif_neg h1])
   obtain rfl:=Di h1
   go_enter Tryz.func41,Tryz.ntmps41
   go_wp2_with fail
   go_ret
   exact⟨ax (by rw[HN.out]),Mv.refl _ _⟩
end
section
open Go.RowKit
abbrev Grow (w w':World):Prop:=Mv (λ_=>False) w w'
def aB {α:Type} (n:Nat) (f:α->List Value) (w:World) (v:Value) (l:List α):Prop :=
 ∃ a cap,v = .slice a l.length cap/\l.length<=cap/\l.length<=9223372036854775807/\∀ (i:Nat) (x:α),l[i]? = some x->∃ b off,a=some ⟨b,off,none⟩/\∀ (j:Nat) (u:Value),(f x)[j]? = some u->w.cell? ⟨b,off+i * n+j,none⟩=some u
section
variable {α:Type} {n:Nat} {f:α->List Value} {w w':World} {v:Value} {l:List α}
theorem aB.form (h:aB n f w v l):∃ a cap,v = .slice a l.length cap/\l.length<=cap/\l.length<=9223372036854775807:=by
 obtain⟨a,cap,h1,h2,h3,_⟩:=h
 exact⟨a,cap,h1,h2,h3⟩
theorem aB.later (h:aB n f w v l) (hm:Grow w w'):aB n f w' v l:=by
 obtain⟨a,cap,h1,h2,h3,h4⟩:=h
 refine⟨a,cap,h1,h2,h3,λi x hx => ?_⟩
 obtain⟨b,off,hb,hc⟩:=h4 i x hx
 refine⟨b,off,hb,λj u hu => ?_⟩
 have h5:=hc j u hu
 rw[← h5]
 exact World.cell?_of_block (w:=w) (w':=w') (hm.block _ (World.block_lt_of_cell? w _ h5) (λh=>h))
theorem aB.nil (n:Nat) (f:α->List Value) (w:World):aB n f w (.slice none 0 0) []:=⟨none,0,rfl,Nat.le_refl _,by simp,λi x hx=>by simp at hx⟩
theorem aB.at (h:aB n f w v l) {i:Nat} (hi:i<l.length):∃ b off cap,v = .slice (some ⟨b,off,none⟩) l.length cap/\l.length<=cap/\∀ (j:Nat) (u:Value),(f l[i])[j]? = some u->w.cell? ⟨b,off+i * n+j,none⟩=some u:=by
 obtain⟨a,cap,rfl,h2,h3,h4⟩:=h
 obtain⟨b,off,rfl,hc⟩:=h4 i _ (List.getElem?_eq_getElem hi)
 exact⟨b,off,cap,rfl,h2,hc⟩
theorem aB.at' {b off len cap:Nat} (h:aB n f w (.slice (some ⟨b,off,none⟩) len cap) l) {i:Nat} (hi:i<l.length):∀ (j:Nat) (u:Value),(f l[i])[j]? = some u->w.cell? ⟨b,off+i * n+j,none⟩=some u:=by
 obtain⟨b',off',cap',e,_,hc⟩:=h.at hi
 simp only[Value.slice.injEq,Option.some.injEq,Addr.mk.injEq,and_true]at e
 obtain⟨⟨rfl,rfl⟩,_,_⟩:=e
 exact hc
end
structure aT where
 name:ByteArray
 kind:Int
 len:Int
structure aI where
 name:ByteArray
 kind:Int
 len:Int
 at':Int
structure cB where
 at':Int
 name:ByteArray
def aT.cells (v:aT):List Value:=[.string v.name,.int .u8 v.kind,.int .i64 v.len]
def aI.cells (v:aI):List Value:=[.string v.name,.int .u8 v.kind,.int .i64 v.len,.int .i64 v.at']
def cB.cells (v:cB):List Value:=[.int .i64 v.at',.string v.name]
abbrev aT.val (v:aT):Value := .agg #[.string v.name,.int .u8 v.kind,.int .i64 v.len]
structure aO where
 name:ByteArray
 params:List aT
 slots:List aI
 cells:Int
 stacks:Int
 code:List Ins
 refs:List cB
def In64 (x:Int):Prop := -9223372036854775808<=x/\x<=9223372036854775807
def Ke (i:Ins):Prop:=(0<=i.op/\i.op<=255)/\In64 i.a/\In64 i.b/\In64 i.c/\In64 i.d
structure Kg (o:aO):Prop where
 name:o.name.size<=9223372036854775807
 params:∀ v∈o.params,v.name.size<=9223372036854775807/\In64 v.len
 slots:∀ v∈o.slots,v.name.size<=9223372036854775807/\In64 v.len/\In64 v.at'
 cells:In64 o.cells
 stacks:In64 o.stacks
 code:∀ i∈o.code,Ke i
 refs:∀ r∈o.refs,r.name.size<=9223372036854775807/\In64 r.at'
 few:o.slots.length<=4398046511104
structure gT where
 d:aO
 pv:Value
 sv:Value
 cv:Value
 rv:Value
def gT.cells (o:gT):List Value:=[.string o.d.name,o.pv,o.sv,.int .i64 o.d.cells,.int .i64 o.d.stacks,o.cv,o.rv]
abbrev gT.val (o:gT):Value := .agg #[.string o.d.name,o.pv,o.sv,.int .i64 o.d.cells,.int .i64 o.d.stacks,o.cv,o.rv]
structure lS (w:World) (o:gT):Prop where
 ok:Kg o.d
 params:aB 3 aT.cells w o.pv o.d.params
 slots:aB 4 aI.cells w o.sv o.d.slots
 code:aB 5 Ins.cells w o.cv o.d.code
 refs:aB 2 cB.cells w o.rv o.d.refs
theorem lS.later {w w':World} {o:gT} (h:lS w o) (hm:Grow w w'):lS w' o:=⟨h.ok,h.params.later hm,h.slots.later hm,h.code.later hm,h.refs.later hm⟩
structure JI (w:World) (v:Value) (l:List gT):Prop where
 row:aB 7 gT.cells w v l
 each:∀ o∈l,lS w o
theorem JI.later {w w':World} {v:Value} {l:List gT} (h:JI w v l) (hm:Grow w w'):JI w' v l:=⟨h.row.later hm,λo ho=>(h.each o ho).later hm⟩
end
end Go.Proofs.YtadecgbblajifaaGreatDoor
