import Derived.Shelf.Small.Bits
import Derived.Shelf.Small.Strs
import Derived.Shelf.Small.Wraps
import Derived.Shelf.Strconv.Atoi
import Derived.Shelf.Strconv.Itoa0
import Derived.Shelf.Strings.Search1
import Derived.Shelf.Strings.Prefix
import Derived.Ground.Names2Prog
import Derived.Shelf.Slices.Clone
import Derived.Shelf.Slices.SearchI
import Derived.Ground.SlgnProg
import Derived.Shelf.SlicesE.Clone
import Derived.Test.YtadecgbblajifaaGreatDoorProg
import Derived.Test.YtadecgbblajifaaGreatDoorA01
import Derived.Lib.Strings
set_option linter.unusedSimpArgs false
set_option linter.unusedVariables false
set_option maxRecDepth 100000
set_option maxHeartbeats 25600000
namespace Go.Proofs.YtadecgbblajifaaGreatDoor
end Go.Proofs.YtadecgbblajifaaGreatDoor
namespace Go.Proofs
open Go.Shelf
def Tryz.Sa:Go.Shelf.Ren:=⟨fun|137=>173|217=>198|266=>222|n=>n,fun|9=>9|5=>5|3=>3|n=>n,fun|n=>n⟩
theorem Tryz.Vb:Go.Proofs.Lays.n137 Tryz.prog Tryz.Sa := {
 mixed:=by kernel_rfl
 f137:=Tryz.func173.trans (congrArg some (by kernel_rfl))
 f217:=Tryz.func198.trans (congrArg some (by kernel_rfl))
 f266:=Tryz.func222.trans (congrArg some (by kernel_rfl))
 t3:=Tryz.underlying3
 a3:=Tryz.isAgg3
 z3:=Tryz.sizeOf3
 v3:=Tryz.zeroValue3
 t5:=Tryz.underlying5
 a5:=Tryz.isAgg5
 z5:=Tryz.sizeOf5
 v5:=Tryz.zeroValue5
 t9:=Tryz.underlying9
 a9:=Tryz.isAgg9
 z9:=Tryz.sizeOf9
 v9:=Tryz.zeroValue9 }
open Go.RowKit in
theorem Tryz.strings_IndexByte (s:ByteArray) (c:Int) (w:World) :
 Calls Tryz.prog 173 #[.string s,.int .u8 c] w λe w'=>e = .returned (.int .i64 (Lib.indexByte s.data.toList c.toNat.toUInt8))/\w'=w:=Any.strings_IndexByte Tryz.Vb s c w
def Tryz.Sb:Go.Shelf.Ren:=⟨fun|215=>176|n=>n,fun|3=>3|4=>4|n=>n,fun|n=>n⟩
theorem Tryz.Vd:Go.Proofs.Lays.n215 Tryz.prog Tryz.Sb := {
 mixed:=by kernel_rfl
 f215:=Tryz.func176.trans (congrArg some (by kernel_rfl))
 t3:=Tryz.underlying3
 a3:=Tryz.isAgg3
 z3:=Tryz.sizeOf3
 v3:=Tryz.zeroValue3
 t4:=Tryz.underlying4
 a4:=Tryz.isAgg4
 z4:=Tryz.sizeOf4
 v4:=Tryz.zeroValue4 }
open Go.RowKit in
theorem Tryz.cmp_isNaN_int (x:Int) (w:World) :
 Calls Tryz.prog 176 #[.int .i64 x] w λe w'=>e = .returned (.bool false)/\w'=w:=Any.cmp_isNaN_int Tryz.Vd x w
def Tryz.Sc:Go.Shelf.Ren:=⟨fun|122=>138|215=>176|n=>n,fun|3=>3|4=>4|n=>n,fun|n=>n⟩
theorem Tryz.Ve:Go.Proofs.Lays.n122 Tryz.prog Tryz.Sc := {
 mixed:=by kernel_rfl
 f122:=Tryz.func138.trans (congrArg some (by kernel_rfl))
 f215:=Tryz.func176.trans (congrArg some (by kernel_rfl))
 t3:=Tryz.underlying3
 a3:=Tryz.isAgg3
 z3:=Tryz.sizeOf3
 v3:=Tryz.zeroValue3
 t4:=Tryz.underlying4
 a4:=Tryz.isAgg4
 z4:=Tryz.sizeOf4
 v4:=Tryz.zeroValue4 }
open Go.RowKit in
theorem Tryz.cmp_Compare_int (x y:Int) (w:World) :
 Calls Tryz.prog 138 #[.int .i64 x,.int .i64 y] w λe w'=>e = .returned (.int .i64 (Lib.compareInt x y))/\w'=w:=Any.cmp_Compare_int Tryz.Ve x y w
def Tryz.Sd:Go.Shelf.Ren:=⟨fun|244=>209|247=>228|287=>247|321=>261|322=>262|n=>n,fun|9=>9|3=>3|75=>221|4=>4|5=>5|167=>265|37=>51|0=>0|85=>266|2=>2|53=>251|175=>285|46=>157|21=>21|80=>103|n=>n,fun|n=>n⟩
theorem Tryz.Vf:Go.Proofs.Lays.n244 Tryz.prog Tryz.Sd := {
 mixed:=by kernel_rfl
 f244:=Tryz.func209.trans (congrArg some (by kernel_rfl))
 f247:=Tryz.func228.trans (congrArg some (by kernel_rfl))
 f287:=Tryz.func247.trans (congrArg some (by kernel_rfl))
 f321:=Tryz.func261.trans (congrArg some (by kernel_rfl))
 f322:=Tryz.func262.trans (congrArg some (by kernel_rfl))
 t0:=Tryz.underlying0
 a0:=Tryz.isAgg0
 z0:=Tryz.sizeOf0
 v0:=Tryz.zeroValue0
 t2:=Tryz.underlying2
 a2:=Tryz.isAgg2
 z2:=Tryz.sizeOf2
 v2:=Tryz.zeroValue2
 t3:=Tryz.underlying3
 a3:=Tryz.isAgg3
 z3:=Tryz.sizeOf3
 v3:=Tryz.zeroValue3
 t4:=Tryz.underlying4
 a4:=Tryz.isAgg4
 z4:=Tryz.sizeOf4
 v4:=Tryz.zeroValue4
 t5:=Tryz.underlying5
 a5:=Tryz.isAgg5
 z5:=Tryz.sizeOf5
 v5:=Tryz.zeroValue5
 t9:=Tryz.underlying9
 a9:=Tryz.isAgg9
 z9:=Tryz.sizeOf9
 v9:=Tryz.zeroValue9
 t21:=Tryz.underlying21
 a21:=Tryz.isAgg21
 z21:=Tryz.sizeOf21
 v21:=Tryz.zeroValue21
 t37:=Tryz.underlying51
 a37:=Tryz.isAgg51
 z37:=Tryz.sizeOf51
 v37:=Tryz.zeroValue51
 t46:=Tryz.underlying157
 a46:=Tryz.isAgg157
 z46:=Tryz.sizeOf157
 v46:=Tryz.zeroValue157
 t53:=Tryz.underlying251
 a53:=Tryz.isAgg251
 z53:=Tryz.sizeOf251
 v53:=Tryz.zeroValue251
 t75:=Tryz.underlying221
 a75:=Tryz.isAgg221
 z75:=Tryz.sizeOf221
 v75:=Tryz.zeroValue221
 t85:=Tryz.underlying266
 a85:=Tryz.isAgg266
 z85:=Tryz.sizeOf266
 v85:=Tryz.zeroValue266
 t167:=Tryz.underlying265
 a167:=Tryz.isAgg265
 z167:=Tryz.sizeOf265
 v167:=Tryz.zeroValue265
 t175:=Tryz.underlying285
 a175:=Tryz.isAgg285
 z175:=Tryz.sizeOf285
 v175:=Tryz.zeroValue285 }
open Go.RowKit in
theorem Tryz.internal_strconv_Atoi (s:ByteArray) (n:Int) (hl:s.size<=18) (h:Lib.atoi s.data.toList=some n) (w:World) :
 Calls Tryz.prog 209 #[.string s] w λe w'=>e = .returned (.tuple #[.int .i64 n,.nilIface])/\∃ t,w'=Lib.bytesWorld w 5 t:=Any.internal_strconv_Atoi Tryz.Vf s n hl h w
def Tryz.Sg:Go.Shelf.Ren:=⟨fun|172=>177|244=>209|245=>210|247=>228|279=>229|280=>230|281=>231|282=>232|287=>247|316=>248|171=>250|205=>249|321=>261|322=>262|243=>263|246=>268|283=>270|284=>271|285=>272|286=>273|129=>208|317=>274|318=>275|319=>276|320=>277|337=>278|338=>279|n=>n,fun|9=>9|3=>3|75=>221|76=>222|4=>4|5=>5|167=>265|37=>51|0=>0|85=>266|2=>2|168=>268|53=>251|175=>285|46=>157|210=>289|127=>299|145=>302|143=>300|21=>21|171=>305|173=>307|212=>309|51=>249|20=>20|213=>310|232=>311|233=>312|80=>103|n=>n,fun|15=>3|16=>4|17=>5|18=>6|19=>7|n=>n⟩
theorem Tryz.Vg:Go.Proofs.Lays.n172 Tryz.prog Tryz.Sg := {
 mixed:=by kernel_rfl
 f129:=Tryz.func208.trans (congrArg some (by kernel_rfl))
 f171:=Tryz.func250.trans (congrArg some (by kernel_rfl))
 f172:=Tryz.func177.trans (congrArg some (by kernel_rfl))
 f205:=Tryz.func249.trans (congrArg some (by kernel_rfl))
 f243:=Tryz.func263.trans (congrArg some (by kernel_rfl))
 f244:=Tryz.func209.trans (congrArg some (by kernel_rfl))
 f245:=Tryz.func210.trans (congrArg some (by kernel_rfl))
 f246:=Tryz.func268.trans (congrArg some (by kernel_rfl))
 f247:=Tryz.func228.trans (congrArg some (by kernel_rfl))
 f279:=Tryz.func229.trans (congrArg some (by kernel_rfl))
 f280:=Tryz.func230.trans (congrArg some (by kernel_rfl))
 f281:=Tryz.func231.trans (congrArg some (by kernel_rfl))
 f282:=Tryz.func232.trans (congrArg some (by kernel_rfl))
 f283:=Tryz.func270.trans (congrArg some (by kernel_rfl))
 f284:=Tryz.func271.trans (congrArg some (by kernel_rfl))
 f285:=Tryz.func272.trans (congrArg some (by kernel_rfl))
 f286:=Tryz.func273.trans (congrArg some (by kernel_rfl))
 f287:=Tryz.func247.trans (congrArg some (by kernel_rfl))
 f316:=Tryz.func248.trans (congrArg some (by kernel_rfl))
 f317:=Tryz.func274.trans (congrArg some (by kernel_rfl))
 f318:=Tryz.func275.trans (congrArg some (by kernel_rfl))
 f319:=Tryz.func276.trans (congrArg some (by kernel_rfl))
 f320:=Tryz.func277.trans (congrArg some (by kernel_rfl))
 f321:=Tryz.func261.trans (congrArg some (by kernel_rfl))
 f322:=Tryz.func262.trans (congrArg some (by kernel_rfl))
 f337:=Tryz.func278.trans (congrArg some (by kernel_rfl))
 f338:=Tryz.func279.trans (congrArg some (by kernel_rfl))
 t0:=Tryz.underlying0
 a0:=Tryz.isAgg0
 z0:=Tryz.sizeOf0
 v0:=Tryz.zeroValue0
 t2:=Tryz.underlying2
 a2:=Tryz.isAgg2
 z2:=Tryz.sizeOf2
 v2:=Tryz.zeroValue2
 t3:=Tryz.underlying3
 a3:=Tryz.isAgg3
 z3:=Tryz.sizeOf3
 v3:=Tryz.zeroValue3
 t4:=Tryz.underlying4
 a4:=Tryz.isAgg4
 z4:=Tryz.sizeOf4
 v4:=Tryz.zeroValue4
 t5:=Tryz.underlying5
 a5:=Tryz.isAgg5
 z5:=Tryz.sizeOf5
 v5:=Tryz.zeroValue5
 t9:=Tryz.underlying9
 a9:=Tryz.isAgg9
 z9:=Tryz.sizeOf9
 v9:=Tryz.zeroValue9
 t20:=Tryz.underlying20
 a20:=Tryz.isAgg20
 z20:=Tryz.sizeOf20
 v20:=Tryz.zeroValue20
 t21:=Tryz.underlying21
 a21:=Tryz.isAgg21
 z21:=Tryz.sizeOf21
 v21:=Tryz.zeroValue21
 t37:=Tryz.underlying51
 a37:=Tryz.isAgg51
 z37:=Tryz.sizeOf51
 v37:=Tryz.zeroValue51
 t46:=Tryz.underlying157
 a46:=Tryz.isAgg157
 z46:=Tryz.sizeOf157
 v46:=Tryz.zeroValue157
 t51:=Tryz.underlying249
 a51:=Tryz.isAgg249
 z51:=Tryz.sizeOf249
 v51:=Tryz.zeroValue249
 t53:=Tryz.underlying251
 a53:=Tryz.isAgg251
 z53:=Tryz.sizeOf251
 v53:=Tryz.zeroValue251
 t75:=Tryz.underlying221
 a75:=Tryz.isAgg221
 z75:=Tryz.sizeOf221
 v75:=Tryz.zeroValue221
 t76:=Tryz.underlying222
 a76:=Tryz.isAgg222
 z76:=Tryz.sizeOf222
 v76:=Tryz.zeroValue222
 t85:=Tryz.underlying266
 a85:=Tryz.isAgg266
 z85:=Tryz.sizeOf266
 v85:=Tryz.zeroValue266
 t127:=Tryz.underlying299
 a127:=Tryz.isAgg299
 z127:=Tryz.sizeOf299
 v127:=Tryz.zeroValue299
 t143:=Tryz.underlying300
 a143:=Tryz.isAgg300
 z143:=Tryz.sizeOf300
 v143:=Tryz.zeroValue300
 t145:=Tryz.underlying302
 a145:=Tryz.isAgg302
 z145:=Tryz.sizeOf302
 v145:=Tryz.zeroValue302
 t167:=Tryz.underlying265
 a167:=Tryz.isAgg265
 z167:=Tryz.sizeOf265
 v167:=Tryz.zeroValue265
 t168:=Tryz.underlying268
 a168:=Tryz.isAgg268
 z168:=Tryz.sizeOf268
 v168:=Tryz.zeroValue268
 t171:=Tryz.underlying305
 a171:=Tryz.isAgg305
 z171:=Tryz.sizeOf305
 v171:=Tryz.zeroValue305
 t173:=Tryz.underlying307
 a173:=Tryz.isAgg307
 z173:=Tryz.sizeOf307
 v173:=Tryz.zeroValue307
 t175:=Tryz.underlying285
 a175:=Tryz.isAgg285
 z175:=Tryz.sizeOf285
 v175:=Tryz.zeroValue285
 t210:=Tryz.underlying289
 a210:=Tryz.isAgg289
 z210:=Tryz.sizeOf289
 v210:=Tryz.zeroValue289
 t212:=Tryz.underlying309
 a212:=Tryz.isAgg309
 z212:=Tryz.sizeOf309
 v212:=Tryz.zeroValue309
 t213:=Tryz.underlying310
 a213:=Tryz.isAgg310
 z213:=Tryz.sizeOf310
 t232:=Tryz.underlying311
 a232:=Tryz.isAgg311
 z232:=Tryz.sizeOf311
 v232:=Tryz.zeroValue311
 t233:=Tryz.underlying312
 a233:=Tryz.isAgg312
 z233:=Tryz.sizeOf312
 v233:=Tryz.zeroValue312
 g15:=by kernel_rfl
 g16:=by kernel_rfl
 g17:=by kernel_rfl
 g18:=by kernel_rfl
 g19:=by kernel_rfl }
open Go.RowKit in
theorem Tryz.strconv_Atoi (s:ByteArray) (n:Int) (hl:s.size<=18) (h:Lib.atoi s.data.toList=some n) (w:World) :
 Calls Tryz.prog 177 #[.string s] w λe w'=>e = .returned (.tuple #[.int .i64 n,.nilIface])/\∃ t,w'=Lib.bytesWorld w 5 t:=Any.strconv_Atoi Tryz.Vg s n hl h w
def Tryz.Si:Go.Shelf.Ren:=⟨fun|217=>198|266=>222|n=>n,fun|9=>9|5=>5|3=>3|n=>n,fun|n=>n⟩
theorem Tryz.Vh:Go.Proofs.Lays.n217 Tryz.prog Tryz.Si := {
 mixed:=by kernel_rfl
 f217:=Tryz.func198.trans (congrArg some (by kernel_rfl))
 f266:=Tryz.func222.trans (congrArg some (by kernel_rfl))
 t3:=Tryz.underlying3
 a3:=Tryz.isAgg3
 z3:=Tryz.sizeOf3
 v3:=Tryz.zeroValue3
 t5:=Tryz.underlying5
 a5:=Tryz.isAgg5
 z5:=Tryz.sizeOf5
 v5:=Tryz.zeroValue5
 t9:=Tryz.underlying9
 a9:=Tryz.isAgg9
 z9:=Tryz.sizeOf9
 v9:=Tryz.zeroValue9 }
open Go.RowKit Go.Lib in
theorem Tryz.stringslite_IndexByte (s:ByteArray) (c:Int) (w:World) :
 Calls Tryz.prog 198 #[.string s,.int .u8 c] w λe w'=>e = .returned (.int .i64 (Lib.indexByte s.data.toList c.toNat.toUInt8))/\w'=w:=Any.stringslite_IndexByte Tryz.Vh s c w
def Tryz.Sj:Go.Shelf.Ren:=⟨fun|206=>197|n=>n,fun|9=>9|4=>4|3=>3|n=>n,fun|n=>n⟩
theorem Tryz.Vi:Go.Proofs.Lays.n206 Tryz.prog Tryz.Sj := {
 mixed:=by kernel_rfl
 f206:=Tryz.func197.trans (congrArg some (by kernel_rfl))
 t3:=Tryz.underlying3
 a3:=Tryz.isAgg3
 z3:=Tryz.sizeOf3
 v3:=Tryz.zeroValue3
 t4:=Tryz.underlying4
 a4:=Tryz.isAgg4
 z4:=Tryz.sizeOf4
 v4:=Tryz.zeroValue4
 t9:=Tryz.underlying9
 a9:=Tryz.isAgg9
 z9:=Tryz.sizeOf9
 v9:=Tryz.zeroValue9 }
open Go.RowKit Go.Lib in
theorem Tryz.stringslite_HasPrefix (s p:ByteArray) (w:World) :
 Calls Tryz.prog 197 #[.string s,.string p] w λe w'=>e = .returned (.bool (Lib.hasPrefix s.data.toList p.data.toList))/\w'=w:=Any.stringslite_HasPrefix Tryz.Vi s p w
def Tryz.Sy:Go.Shelf.Ren:=⟨fun|99=>172|206=>197|n=>n,fun|9=>9|4=>4|3=>3|n=>n,fun|n=>n⟩
theorem Tryz.WA:Go.Proofs.Lays.n99 Tryz.prog Tryz.Sy := {
 mixed:=by kernel_rfl
 f99:=Tryz.func172.trans (congrArg some (by kernel_rfl))
 f206:=Tryz.func197.trans (congrArg some (by kernel_rfl))
 t3:=Tryz.underlying3
 a3:=Tryz.isAgg3
 z3:=Tryz.sizeOf3
 v3:=Tryz.zeroValue3
 t4:=Tryz.underlying4
 a4:=Tryz.isAgg4
 z4:=Tryz.sizeOf4
 v4:=Tryz.zeroValue4
 t9:=Tryz.underlying9
 a9:=Tryz.isAgg9
 z9:=Tryz.sizeOf9
 v9:=Tryz.zeroValue9 }
open Go.RowKit Go.Lib in
theorem Tryz.strings_HasPrefix (s p:ByteArray) (w:World) :
 Calls Tryz.prog 172 #[.string s,.string p] w λe w'=>e = .returned (.bool (Lib.hasPrefix s.data.toList p.data.toList))/\w'=w:=Any.strings_HasPrefix Tryz.WA s p w
def Tryz.RG:Go.Shelf.Ren:=⟨fun|15=>62|n=>n,fun|22=>65|3=>3|4=>4|n=>n,fun|n=>n⟩
theorem Tryz.CJ:Go.Proofs.Lays2.n15 Tryz.prog Tryz.RG := {
 mixed:=by kernel_rfl
 f15:=Tryz.func62.trans (congrArg some (by kernel_rfl))
 t3:=Tryz.underlying3
 a3:=Tryz.isAgg3
 z3:=Tryz.sizeOf3
 v3:=Tryz.zeroValue3
 t4:=Tryz.underlying4
 a4:=Tryz.isAgg4
 z4:=Tryz.sizeOf4
 v4:=Tryz.zeroValue4
 t22:=Tryz.underlying65
 a22:=Tryz.isAgg65
 z22:=Tryz.sizeOf65
 v22:=Tryz.zeroValue65
 i3:=by kernel_rfl }
open Go.RowKit Go.Lib in
theorem Tryz.slices_Clone_int (b off n c:Nat) (zs:List Int) (w:World) (hz:n<=zs.length) (hbig:n * 8<=140737488355328) (hc:∀ j,j<zs.length->w.cell? ⟨b,off+j,none⟩=some (.int .i64 (zs.getD j 0))) :
 Calls Tryz.prog 62 #[.slice (some ⟨b,off,none⟩) n c] w λe w'=>∃ v',e = .returned v'/\w'.ownsRow w.heap.size 3 1 v' n ((zs.take n).map (Value.int .i64))/\v' ≠ .slice none 0 0/\Below w.heap.size w w':=Any.slices_Clone_int Tryz.CJ b off n c zs w hz hbig hc
open Go.RowKit Go.Lib in
theorem Tryz.slices_Clone_int_nil (n c:Nat) (w:World) :
 Calls Tryz.prog 62 #[.slice none n c] w λe w'=>e = .returned (.slice none 0 0)/\w'=w:=Any.slices_Clone_int_nil Tryz.CJ n c w
open Go.RowKit Go.Lib in
theorem Tryz.slices_Clone_int_zero (a:Addr) (c:Nat) (w:World) :
 Calls Tryz.prog 62 #[.slice (some a) 0 c] w λe w'=>∃ v',e = .returned v'/\w'.ownsRow w.heap.size 3 1 v' 0 []/\v' ≠ .slice none 0 0/\Below w.heap.size w w':=Any.slices_Clone_int_zero Tryz.CJ a c w
def Tryz.RH:Go.Shelf.Ren:=⟨fun|37=>176|n=>n,fun|3=>3|4=>4|n=>n,fun|n=>n⟩
theorem Tryz.Tz:Go.Proofs.Lays2.n37 Tryz.prog Tryz.RH := {
 mixed:=by kernel_rfl
 f37:=Tryz.func176.trans (congrArg some (by kernel_rfl))
 t3:=Tryz.underlying3
 a3:=Tryz.isAgg3
 z3:=Tryz.sizeOf3
 v3:=Tryz.zeroValue3
 t4:=Tryz.underlying4
 a4:=Tryz.isAgg4
 z4:=Tryz.sizeOf4
 v4:=Tryz.zeroValue4 }
open Go.RowKit Go.Lib in
theorem Tryz.cmp_isNaN_int2 (x:Int) (w:World) :
 Calls Tryz.prog 176 #[.int .i64 x] w λe w'=>e = .returned (.bool false)/\w'=w:=Any.cmp_isNaN_int2 Tryz.Tz x w
def Tryz.Rx:Go.Shelf.Ren:=⟨fun|41=>62|n=>n,fun|22=>65|23=>3|4=>4|n=>n,fun|n=>n⟩
theorem Tryz.Hz:Go.Proofs.SlLaysE0.n41 Tryz.prog Tryz.Rx := {
 mixed:=by kernel_rfl
 f41:=⟨Tryz.f62.name,by decide,Tryz.func62.trans (congrArg some (by kernel_rfl))⟩
 t4:=Tryz.underlying4
 a4:=Tryz.isAgg4
 z4:=Tryz.sizeOf4
 v4:=Tryz.zeroValue4
 t22:=Tryz.underlying65
 a22:=Tryz.isAgg65
 z22:=Tryz.sizeOf65
 v22:=Tryz.zeroValue65 }
open Go.RowKit Go.Lib in
theorem Tryz.slices_Clone (i0:TypeInfo) (z:Value) (size bytes:Nat) (hi:Tryz.prog.info? 3=some i0) (hz0:i0.zero=some z) (hz1:i0.size=size) (hz2:i0.bytes=bytes) (hzs:z.cells.size=size) (hsz:0<size) (z23:∀ w,(Go.sizeOf 3).run Tryz.prog w = .ok size w) (b off n c:Nat) (news:List Value) (w:World) (hl:news.length=n * size) (hn:n<=maxLen) (hbig:n * bytes<=140737488355328) (hc:∀ j u,news[j]? = some u->w.cell? ⟨b,off+j,none⟩=some u) (h1:∀ u∈news,u.oneCell'=true) :
 Calls Tryz.prog 62 #[.slice (some ⟨b,off,none⟩) n c] w λe w'=>∃ v',e = .returned v'/\w'.ownsRow w.heap.size 3 size v' n news/\v' ≠ .slice none 0 0/\Below w.heap.size w w':=AnyE.slices_Clone Tryz.Hz i0 z size bytes hi hz0 hz1 hz2 hzs hsz z23 b off n c news w hl hn hbig hc h1
open Go.RowKit Go.Lib in
theorem Tryz.slices_Clone_nil (n c:Nat) (w:World) :
 Calls Tryz.prog 62 #[.slice none n c] w λe w'=>e = .returned (.slice none 0 0)/\w'=w:=AnyE.slices_Clone_nil Tryz.Hz n c w
end Go.Proofs
namespace Go.Proofs.YtadecgbblajifaaGreatDoor
section
open Go.RowKit Go.Instr
def Vj (w:World) (e:Ending) (w':World):Prop:=∃ n:Int,e = .returned (.int .i64 n)/\w=w'
theorem Vk (s p:ByteArray) (w:World):∃ b:Bool,Calls Tryz.prog 172 #[.string s,.string p] w λe w'=>e = .returned (.bool b)/\w=w' :=
 ⟨_,(Tryz.strings_HasPrefix s p w).mono λ_ _ h=>⟨h.1,h.2.symm⟩⟩
theorem Vl (s:ByteArray) (c:Int) (w:World):∃ n:Int,Calls Tryz.prog 173 #[.string s,.int .u8 c] w λe w'=>e = .returned (.int .i64 n)/\w=w' :=
 ⟨_,(Tryz.strings_IndexByte s c w).mono λ_ _ h=>⟨h.1,h.2.symm⟩⟩
theorem Ud (s:ByteArray) (w:World) (h1:1<=s.size) (hs:s.size<=16):Calls Tryz.prog 135 #[.string s] w (Vj w):=by
 obtain⟨b,hb⟩:=Vk s ⟨#[60,61,62]⟩ w;have HB:=ł hb;clear hb
 go_enter Tryz.func135,Tryz.ntmps135
 go_wp2_with (first
  |(go_at_call 172;refine HB.out.mono ?_;rintro e w' ⟨rfl,rfl⟩)
  |(go_at_call 173;refine(Vl _ _ _).choose_spec.mono ?_;rintro e w' ⟨rfl,rfl⟩))
 all_goals (go_ret;exact⟨_,rfl,rfl⟩)
def Kv:List ByteArray:=[⟨#[105,110,116]⟩,⟨#[97,114,114,97,121]⟩,⟨#[115,116,97,99,107]⟩,⟨#[112,114,111,99]⟩,⟨#[109,97,105,110]⟩,⟨#[112,117,115,104]⟩,⟨#[112,111,112]⟩,⟨#[114,101,97,100]⟩,⟨#[117,110,114,101,97,100]⟩,⟨#[119,114,105,116,101]⟩,⟨#[117,110,119,114,105,116,101]⟩,⟨#[99,97,108,108]⟩,⟨#[117,110,99,97,108,108]⟩,⟨#[105,102]⟩,⟨#[101,108,115,101]⟩,⟨#[102,105]⟩,⟨#[102,114,111,109]⟩,⟨#[108,111,111,112]⟩,⟨#[117,110,116,105,108]⟩,⟨#[108,111,99,97,108]⟩,⟨#[100,101,108,111,99,97,108]⟩,⟨#[116,111,112]⟩,⟨#[115,105,122,101]⟩]
def Eh:List (ByteArray × Value):=Kv.foldl (λl k=>gz k (.bool true) l) []
def ug (s:ByteArray):Bool:=(wD Eh s).isSome
theorem yS {κ:Type} [BEq κ] [LawfulBEq κ] (k:κ):∀ (l:List (κ × Value)) (i:Nat),(∀ p∈l,p.2 = .bool true)->((dD k l i).map (·.2)).getD (.bool false) = .bool ((dD k l i).map (·.2)).isSome
 | [],i,_=>rfl
 |(a,x) :: l,i,h=>by
  simp only[dD];split
  · have:=h (a,x) (by simp);simp only at this;subst this;rfl
  · exact yS k l (i+1) (λp hp=>h p (by simp[hp]))
theorem CL {κ:Type} [BEq κ] [LawfulBEq κ] (k:κ):∀ (l:List (κ × Value)),(∀ p∈l,p.2 = .bool true)->∀ p∈gz k (.bool true) l,p.2 = .bool true
 | [],_,p,hp=>by simp[gz]at hp;subst hp;rfl
 |(a,x) :: l,h,p,hp=>by
  simp only[gz]at hp;split at hp
  · rcases List.mem_cons.1 hp with rfl|hp
    · rfl
    · exact h p (by simp[hp])
  · rcases List.mem_cons.1 hp with rfl|hp
    · exact h _ (by simp)
    · exact CL k l (λq hq=>h q (by simp[hq])) p hp
theorem TA (ks:List ByteArray):∀ (l:List (ByteArray × Value)),(∀ p∈l,p.2 = .bool true)->∀ p∈ks.foldl (λl k=>gz k (.bool true) l) l,p.2 = .bool true:=by
 induction ks with
 |nil=>intro l h;exact h
 |cons k ks ih=>intro l h;exact ih _ (CL k l h)
theorem Tryz.bV:KeyLaw Tryz.prog 9 Value.string .string:=U8 Tryz.underlying9
theorem Tryz.CY (w:World):(zeroValue 4).run Tryz.prog w = .ok (.bool false) w:=by kernel_rfl
theorem cK {P:Program} {κ:Type} [BEq κ] [LawfulBEq κ] {enc:κ->Value} {desc:TypeDesc} {K T E:TypeId} {w:World} {ops:Array Oper} {rest:List Oper} {o:Oper} {a:Act} {Q:Exit->Act->World->Prop}
 (L:KeyLaw P K enc desc) (ht:P.underlying T=some (.map K E)) (r:Nat) (l:List (κ × Value)) (k:κ) (v:Value) (h:MapAt enc w r l) (m:Tmp) (kc vc:Value) (hgd:o.guard=none) (ho:o.op = .insert T (.tmp m) (.const kc) (.const vc)) (hm:a.eval (.tmp m) = .map (some r)) (hk:kc=enc k) (hv:vc=v)
 (hnext:∀ w',MapAt enc w' r (gz k v l)->Mv (λb=>b=r) w w'->wpList P ops Q rest (a.put o.dst undef) w'):wpList P ops Q (o :: rest) a w :=
 wpList_plain hgd λ_ hK=>by
  obtain⟨w',hr,h2,h3⟩:=run_set (P:=P) L ht k v h;subst hk hv;unfold Oper.wp execOp;simp only[ho,Act.eval,Sem.run_bind,Sem.run_pure,Result.andThen_ok]at hm ⊢;simp only[hm,hr,Result.andThen_ok];exact hK _ _ (hnext w' h2 h3)
theorem Sk (s:ByteArray) (w:World) (hs:s.size<=1000000000):Calls Tryz.prog 87 #[.string s] w λe w'=>e = .returned (.bool (decide (2<=s.size) && (decide (s.size<=7) && ug s)))/\Mv (λ_=>False) w w':=by
 by_cases h2:2<=s.size
 · by_cases h7:s.size<=7
   · have hmm := @run_makeMap Tryz.prog;have H0:MapAt Value.string (w.alloc (.map #[] 0)) w.heap.size []:=MapAt.new _ w;have M0:Mv (λb=>b=w.heap.size) w (w.alloc (.map #[] 0)):=(Mv.refl _ _).alloc _
     go_enter Tryz.func87,Tryz.ntmps87
     go_wp2_with (refine cK Tryz.bV Tryz.underlying136 w.heap.size _ ⟨#[105,110,116]⟩ (.bool true) H0 _ _ _ rfl rfl rfl rfl rfl ?_)
     intro w1 H1 N1;have M1:=M0.trans N1 (λ_ e => .inl e);clear H0 M0 N1
     go_wp2_with (refine cK Tryz.bV Tryz.underlying136 w.heap.size _ ⟨#[97,114,114,97,121]⟩ (.bool true) H1 _ _ _ rfl rfl rfl rfl rfl ?_)
     intro w2 H2 N2;have M2:=M1.trans N2 (λ_ e => .inl e);clear H1 M1 N2
     go_wp2_with (refine cK Tryz.bV Tryz.underlying136 w.heap.size _ ⟨#[115,116,97,99,107]⟩ (.bool true) H2 _ _ _ rfl rfl rfl rfl rfl ?_)
     intro w3 H3 N3;have M3:=M2.trans N3 (λ_ e => .inl e);clear H2 M2 N3
     go_wp2_with (refine cK Tryz.bV Tryz.underlying136 w.heap.size _ ⟨#[112,114,111,99]⟩ (.bool true) H3 _ _ _ rfl rfl rfl rfl rfl ?_)
     intro w4 H4 N4;have M4:=M3.trans N4 (λ_ e => .inl e);clear H3 M3 N4
     go_wp2_with (refine cK Tryz.bV Tryz.underlying136 w.heap.size _ ⟨#[109,97,105,110]⟩ (.bool true) H4 _ _ _ rfl rfl rfl rfl rfl ?_)
     intro w5 H5 N5;have M5:=M4.trans N5 (λ_ e => .inl e);clear H4 M4 N5
     go_wp2_with (refine cK Tryz.bV Tryz.underlying136 w.heap.size _ ⟨#[112,117,115,104]⟩ (.bool true) H5 _ _ _ rfl rfl rfl rfl rfl ?_)
     intro w6 H6 N6;have M6:=M5.trans N6 (λ_ e => .inl e);clear H5 M5 N6
     go_wp2_with (refine cK Tryz.bV Tryz.underlying136 w.heap.size _ ⟨#[112,111,112]⟩ (.bool true) H6 _ _ _ rfl rfl rfl rfl rfl ?_)
     intro w7 H7 N7;have M7:=M6.trans N7 (λ_ e => .inl e);clear H6 M6 N7
     go_wp2_with (refine cK Tryz.bV Tryz.underlying136 w.heap.size _ ⟨#[114,101,97,100]⟩ (.bool true) H7 _ _ _ rfl rfl rfl rfl rfl ?_)
     intro w8 H8 N8;have M8:=M7.trans N8 (λ_ e => .inl e);clear H7 M7 N8
     go_wp2_with (refine cK Tryz.bV Tryz.underlying136 w.heap.size _ ⟨#[117,110,114,101,97,100]⟩ (.bool true) H8 _ _ _ rfl rfl rfl rfl rfl ?_)
     intro w9 H9 N9;have M9:=M8.trans N9 (λ_ e => .inl e);clear H8 M8 N9
     go_wp2_with (refine cK Tryz.bV Tryz.underlying136 w.heap.size _ ⟨#[119,114,105,116,101]⟩ (.bool true) H9 _ _ _ rfl rfl rfl rfl rfl ?_)
     intro w10 OW OX;have OY:=M9.trans OX (λ_ e => .inl e);clear H9 M9 OX
     go_wp2_with (refine cK Tryz.bV Tryz.underlying136 w.heap.size _ ⟨#[117,110,119,114,105,116,101]⟩ (.bool true) OW _ _ _ rfl rfl rfl rfl rfl ?_)
     intro w11 OZ O0;have O3:=OY.trans O0 (λ_ e => .inl e);clear OW OY O0
     go_wp2_with (refine cK Tryz.bV Tryz.underlying136 w.heap.size _ ⟨#[99,97,108,108]⟩ (.bool true) OZ _ _ _ rfl rfl rfl rfl rfl ?_)
     intro w12 O4 O5;have O6:=O3.trans O5 (λ_ e => .inl e);clear OZ O3 O5
     go_wp2_with (refine cK Tryz.bV Tryz.underlying136 w.heap.size _ ⟨#[117,110,99,97,108,108]⟩ (.bool true) O4 _ _ _ rfl rfl rfl rfl rfl ?_)
     intro w13 O7 O8;have O9:=O6.trans O8 (λ_ e => .inl e);clear O4 O6 O8
     go_wp2_with (refine cK Tryz.bV Tryz.underlying136 w.heap.size _ ⟨#[105,102]⟩ (.bool true) O7 _ _ _ rfl rfl rfl rfl rfl ?_)
     intro w14 Pb Pd;have Pe:=O9.trans Pd (λ_ e => .inl e);clear O7 O9 Pd
     go_wp2_with (refine cK Tryz.bV Tryz.underlying136 w.heap.size _ ⟨#[101,108,115,101]⟩ (.bool true) Pb _ _ _ rfl rfl rfl rfl rfl ?_)
     intro w15 Pf Pg;have Ph:=Pe.trans Pg (λ_ e => .inl e);clear Pb Pe Pg
     go_wp2_with (refine cK Tryz.bV Tryz.underlying136 w.heap.size _ ⟨#[102,105]⟩ (.bool true) Pf _ _ _ rfl rfl rfl rfl rfl ?_)
     intro w16 Pj Pk;have Pm:=Ph.trans Pk (λ_ e => .inl e);clear Pf Ph Pk
     go_wp2_with (refine cK Tryz.bV Tryz.underlying136 w.heap.size _ ⟨#[102,114,111,109]⟩ (.bool true) Pj _ _ _ rfl rfl rfl rfl rfl ?_)
     intro w17 Pn Po;have Pp:=Pm.trans Po (λ_ e => .inl e);clear Pj Pm Po
     go_wp2_with (refine cK Tryz.bV Tryz.underlying136 w.heap.size _ ⟨#[108,111,111,112]⟩ (.bool true) Pn _ _ _ rfl rfl rfl rfl rfl ?_)
     intro w18 Pq Pt;have Pv:=Pp.trans Pt (λ_ e => .inl e);clear Pn Pp Pt
     go_wp2_with (refine cK Tryz.bV Tryz.underlying136 w.heap.size _ ⟨#[117,110,116,105,108]⟩ (.bool true) Pq _ _ _ rfl rfl rfl rfl rfl ?_)
     intro w19 Pw Px;have Py:=Pv.trans Px (λ_ e => .inl e);clear Pq Pv Px
     go_wp2_with (refine cK Tryz.bV Tryz.underlying136 w.heap.size _ ⟨#[108,111,99,97,108]⟩ (.bool true) Pw _ _ _ rfl rfl rfl rfl rfl ?_)
     intro qZ Pz PD;have PE:=Py.trans PD (λ_ e => .inl e);clear Pw Py PD
     go_wp2_with (refine cK Tryz.bV Tryz.underlying136 w.heap.size _ ⟨#[100,101,108,111,99,97,108]⟩ (.bool true) Pz _ _ _ rfl rfl rfl rfl rfl ?_)
     intro Bj PG PH;have PK:=PE.trans PH (λ_ e => .inl e);clear Pz PE PH
     go_wp2_with (refine cK Tryz.bV Tryz.underlying136 w.heap.size _ ⟨#[116,111,112]⟩ (.bool true) PG _ _ _ rfl rfl rfl rfl rfl ?_)
     intro PL PM PN;have PO:=PK.trans PN (λ_ e => .inl e);clear PG PK PN
     go_wp2_with (refine cK Tryz.bV Tryz.underlying136 w.heap.size _ ⟨#[115,105,122,101]⟩ (.bool true) PM _ _ _ rfl rfl rfl rfl rfl ?_)
     intro PR PS PT;have PU:=PO.trans PT (λ_ e => .inl e);clear PM PO PT;have hl:=run_get Tryz.bV Tryz.underlying136 s (.bool false) Tryz.CY PS;have hg:(wD Eh s).getD (.bool false) = .bool (ug s):=yS s Eh 0 (TA Kv [] (by simp));have hl2:(lookup 136 (.map (some w.heap.size)) (.string s) false).run Tryz.prog PR = .ok (.bool (ug s)) PR:=hl.trans (by rw[← hg];rfl);have HM:=ł (PU.mono (O1:=λ_=>False) (λx e => .inr (by omega)));clear hl hg PS PU;go_wp2_with fail;go_ret;exact⟨aC (by simp[h2,h7]),HM.out⟩
   · go_enter Tryz.func87,Tryz.ntmps87
     go_wp2_with fail;go_ret;exact⟨aC (by simp[h7]),Mv.refl _ _⟩
 · go_enter Tryz.func87,Tryz.ntmps87
   go_wp2_with fail;go_ret;exact⟨aC (by simp[h2]),Mv.refl _ _⟩
end
section
open Go.RowKit Go.Instr
def Ue (w:World) (e:Ending) (w':World):Prop:=∃ k n:Int,(k == 1)=false/\e = .returned (.tuple #[.int .u8 k,.int .i64 n])/\w=w'
theorem Sz (s:ByteArray) (w:World) (h1:1<=s.size) (hs:s.size<=16) (hl:om (s[0].toNat)=true) :
 Calls Tryz.prog 86 #[.string s] w λe w'=>e = .returned (.tuple #[.int .u8 1,.int .i64 (iE jb s.data.toList)])/\w=w':=by
 go_enter Tryz.func86,Tryz.ntmps86
 go_wp2_with (first
  |(go_at_call 129;refine(uU _ _).mono ?_;rintro e w' ⟨rfl,rfl⟩)
  |(go_at_call 130;refine(Tv s _ (by omega)).mono ?_;rintro e w' ⟨rfl,rfl⟩))
 go_ret2
 exact⟨rfl,rfl⟩
theorem Sl (s:ByteArray) (w:World) (h1:1<=s.size) (hs:s.size<=16) (hl:om (s[0].toNat)=false):Calls Tryz.prog 86 #[.string s] w (Ue w):=by
 by_cases hd:jQ (s[0].toNat)=true
 · go_enter Tryz.func86,Tryz.ntmps86
   go_wp2_with (first
    |(go_at_call 129;refine(uU _ _).mono ?_;rintro e w' ⟨rfl,rfl⟩)
    |(go_at_call 132;refine(rV _ _).mono ?_;rintro e w' ⟨rfl,rfl⟩)
    |(go_at_call 130;refine(Tw s _ (by omega)).mono ?_;rintro e w' ⟨rfl,rfl⟩))
   go_ret2
   exact⟨_,_,rfl,rfl,rfl⟩
 · have hd2:jQ (s[0].toNat)=false:=by simpa using hd
   by_cases hb:kZ (s[0].toNat)=true
   · go_enter Tryz.func86,Tryz.ntmps86
     go_wp2_with (first
      |(go_at_call 129;refine(uU _ _).mono ?_;rintro e w' ⟨rfl,rfl⟩)
      |(go_at_call 132;refine(rV _ _).mono ?_;rintro e w' ⟨rfl,rfl⟩)
      |(go_at_call 133;refine(yQ _ _).mono ?_;rintro e w' ⟨rfl,rfl⟩)
      |(go_at_call 130;refine(Tx s _ (by omega)).mono ?_;rintro e w' ⟨rfl,rfl⟩))
     go_ret2
     exact⟨_,_,rfl,rfl,rfl⟩
   · have hb2:kZ (s[0].toNat)=false:=by simpa using hb
     go_enter Tryz.func86,Tryz.ntmps86
     go_wp2_with (first
      |(go_at_call 129;refine(uU _ _).mono ?_;rintro e w' ⟨rfl,rfl⟩)
      |(go_at_call 132;refine(rV _ _).mono ?_;rintro e w' ⟨rfl,rfl⟩)
      |(go_at_call 133;refine(yQ _ _).mono ?_;rintro e w' ⟨rfl,rfl⟩)
      |(go_at_call 130;refine(Uc s _ (by omega)).mono ?_;rintro e w' ⟨rfl,rfl⟩)
      |(go_at_call 135;refine(Ud s _ h1 hs).mono ?_;rintro e w' ⟨n,rfl,rfl⟩))
     all_goals (go_ret2;exact⟨_,_,rfl,rfl,rfl⟩)
def gq (s:ByteArray):Bool:=if h:1<=s.size then decide (s.size<=16) && (om (s[0].toNat) && (decide (iE jb s.data.toList=s.size) && !(decide (2<=s.size) && (decide (s.size<=7) && ug s))))else false
theorem Ic {s:ByteArray} (h:¬ 1<=s.size):s=⟨#[]⟩:=by
 cases s with|mk a =>
 have:a.size=0:=by simpa[ByteArray.size]using h
 simp[Array.size_eq_zero_iff.1 this]
theorem yN {s:ByteArray} (h:1<=s.size):s.toList.isEmpty=false:=by
 have h1:s.toList=s.data.toList:=ByteArray.toList_eq s;rw[h1];cases hl:s.data.toList with
 |nil =>
  have:s.size=0:=by
   have:=congrArg List.length hl
   simpa using this
  omega
 |cons a l=>rfl
theorem Jh (s:ByteArray) (w:World) (hs:s.size<=9223372036854775807):Calls Tryz.prog 41 #[.string s] w λe w'=>e = .returned (.bool (gq s))/\Mv (λ_=>False) w w':=by
 by_cases h1:1<=s.size
 · by_cases h16:s.size<=16
   · by_cases hl:om (s[0].toNat)=true
     · have HF:=ł (Sz s w h1 h16 hl);have HK:=ł (Sk s w (by omega));have HN:=ł (show gq s=(decide (iE jb s.data.toList=s.size) && !(decide (2<=s.size) && (decide (s.size<=7) && ug s)))from by unfold gq;rw[dif_pos h1,hl];simp[h16]);generalize iE jb s.data.toList=n at *;generalize (decide (2<=s.size) && (decide (s.size<=7) && ug s))=q at *;have hne:=yN h1
       go_enter Tryz.func41,Tryz.ntmps41
       go_wp2_with fail;refine HF.out.mono ?_;rintro e w' ⟨rfl,rfl⟩;by_cases hn:n=s.size
       · have hnb:((n:Int) == (s.size:Int))=true:=by simp[hn]
         have Gl:=ł hn;clear hn;go_wp2_with fail;refine HK.out.mono ?_;rintro e w' ⟨rfl,hm⟩;have HM:=ł hm;clear hm;go_wp2_with fail
         all_goals (go_ret;exact⟨aC (by rw[HN.out,Gl.out];simp_all),HM.out⟩)
       · have hnb:((n:Int) == (s.size:Int))=false:=by simpa using λe=>hn (by omega)
         go_wp2_with fail
         all_goals (go_ret;exact⟨aC (by rw[HN.out];simp_all),Mv.refl _ _⟩)
     · have hl2:om (s[0].toNat)=false:=by simpa using hl
       have HF:=ł (Sl s w h1 h16 hl2);have HN:=ł (show gq s=false from by unfold gq;rw[dif_pos h1,hl2];simp);have hne:=yN h1;clear hl hl2
       go_enter Tryz.func41,Tryz.ntmps41
       go_wp2_with fail;refine HF.out.mono ?_;rintro e w' ⟨k,n,hk,rfl,rfl⟩;go_wp2_with fail;go_ret;exact⟨aC (by rw[HN.out]),Mv.refl _ _⟩
   · have HN:=ł (show gq s=false from by unfold gq;rw[dif_pos h1];simp[h16]);have hne:=yN h1
     go_enter Tryz.func41,Tryz.ntmps41
     go_wp2_with fail;go_ret;exact⟨aC (by rw[HN.out]),Mv.refl _ _⟩
 · have HN:=ł (show gq s=false from by unfold gq;rw[dif_neg h1]);obtain rfl:=Ic h1
   go_enter Tryz.func41,Tryz.ntmps41
   go_wp2_with fail;go_ret;exact⟨aC (by rw[HN.out]),Mv.refl _ _⟩
end
end Go.Proofs.YtadecgbblajifaaGreatDoor
