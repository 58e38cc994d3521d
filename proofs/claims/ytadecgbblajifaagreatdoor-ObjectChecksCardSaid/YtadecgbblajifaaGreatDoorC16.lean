import Derived.Shelf.Small.Bits
import Derived.Shelf.Small.Strs
import Derived.Shelf.Small.Wraps
import Derived.Shelf.Strconv.Atoi
import Derived.Shelf.Strconv.Itoa0
import Derived.Shelf.Strings.Search1
import Derived.Shelf.Strings.Prefix
import Derived.Ground.Names2Prog
import Derived.Shelf.Slices.Clone
import Derived.Shelf.Slices.SearchI
import Derived.Test.YtadecgbblajifaaGreatDoorProg
import Derived.Test.YtadecgbblajifaaGreatDoorC15
import Derived.Lib.Strings
set_option linter.unusedSimpArgs false
set_option linter.unusedVariables false
set_option maxRecDepth 100000
set_option maxHeartbeats 25600000
namespace Go.Proofs.YtadecgbblajifaaGreatDoor
end Go.Proofs.YtadecgbblajifaaGreatDoor
namespace Go.Proofs
open Go.Shelf
def Tryz.IL:Go.Shelf.Ren:=⟨fun|137=>173|217=>198|266=>222|n=>n,fun|9=>9|5=>5|3=>3|n=>n,fun|n=>n⟩
theorem Tryz.L8:Go.Proofs.Lays.n137 Tryz.prog Tryz.IL := {
 mixed:=by kernel_rfl
 f137:=Tryz.func173.trans (congrArg some (by kernel_rfl))
 f217:=Tryz.func198.trans (congrArg some (by kernel_rfl))
 f266:=Tryz.func222.trans (congrArg some (by kernel_rfl))
 t3:=Tryz.underlying3
 a3:=Tryz.isAgg3
 z3:=Tryz.sizeOf3
 v3:=Tryz.zeroValue3
 t5:=Tryz.underlying5
 a5:=Tryz.isAgg5
 z5:=Tryz.sizeOf5
 v5:=Tryz.zeroValue5
 t9:=Tryz.underlying9
 a9:=Tryz.isAgg9
 z9:=Tryz.sizeOf9
 v9:=Tryz.zeroValue9 }
open Go.RowKit in
theorem Tryz.strings_IndexByte (s:ByteArray) (c:Int) (w:World) :
 Calls Tryz.prog 173 #[.string s,.int .u8 c] w λe w'=>e = .returned (.int .i64 (Lib.indexByte s.data.toList c.toNat.toUInt8))/\w'=w:=Any.strings_IndexByte Tryz.L8 s c w
def Tryz.IM:Go.Shelf.Ren:=⟨fun|215=>176|n=>n,fun|3=>3|4=>4|n=>n,fun|n=>n⟩
theorem Tryz.L9:Go.Proofs.Lays.n215 Tryz.prog Tryz.IM := {
 mixed:=by kernel_rfl
 f215:=Tryz.func176.trans (congrArg some (by kernel_rfl))
 t3:=Tryz.underlying3
 a3:=Tryz.isAgg3
 z3:=Tryz.sizeOf3
 v3:=Tryz.zeroValue3
 t4:=Tryz.underlying4
 a4:=Tryz.isAgg4
 z4:=Tryz.sizeOf4
 v4:=Tryz.zeroValue4 }
open Go.RowKit in
theorem Tryz.cmp_isNaN_int (x:Int) (w:World) :
 Calls Tryz.prog 176 #[.int .i64 x] w λe w'=>e = .returned (.bool false)/\w'=w:=Any.cmp_isNaN_int Tryz.L9 x w
def Tryz.IP:Go.Shelf.Ren:=⟨fun|122=>138|215=>176|n=>n,fun|3=>3|4=>4|n=>n,fun|n=>n⟩
theorem Tryz.Ma:Go.Proofs.Lays.n122 Tryz.prog Tryz.IP := {
 mixed:=by kernel_rfl
 f122:=Tryz.func138.trans (congrArg some (by kernel_rfl))
 f215:=Tryz.func176.trans (congrArg some (by kernel_rfl))
 t3:=Tryz.underlying3
 a3:=Tryz.isAgg3
 z3:=Tryz.sizeOf3
 v3:=Tryz.zeroValue3
 t4:=Tryz.underlying4
 a4:=Tryz.isAgg4
 z4:=Tryz.sizeOf4
 v4:=Tryz.zeroValue4 }
open Go.RowKit in
theorem Tryz.cmp_Compare_int (x y:Int) (w:World) :
 Calls Tryz.prog 138 #[.int .i64 x,.int .i64 y] w λe w'=>e = .returned (.int .i64 (Lib.compareInt x y))/\w'=w:=Any.cmp_Compare_int Tryz.Ma x y w
def Tryz.IQ:Go.Shelf.Ren:=⟨fun|244=>209|247=>228|287=>247|321=>261|322=>262|n=>n,fun|9=>9|3=>3|75=>221|4=>4|5=>5|167=>265|37=>51|0=>0|85=>266|2=>2|53=>251|175=>285|46=>157|21=>21|80=>103|n=>n,fun|n=>n⟩
theorem Tryz.Mc:Go.Proofs.Lays.n244 Tryz.prog Tryz.IQ := {
 mixed:=by kernel_rfl
 f244:=Tryz.func209.trans (congrArg some (by kernel_rfl))
 f247:=Tryz.func228.trans (congrArg some (by kernel_rfl))
 f287:=Tryz.func247.trans (congrArg some (by kernel_rfl))
 f321:=Tryz.func261.trans (congrArg some (by kernel_rfl))
 f322:=Tryz.func262.trans (congrArg some (by kernel_rfl))
 t0:=Tryz.underlying0
 a0:=Tryz.isAgg0
 z0:=Tryz.sizeOf0
 v0:=Tryz.zeroValue0
 t2:=Tryz.underlying2
 a2:=Tryz.isAgg2
 z2:=Tryz.sizeOf2
 v2:=Tryz.zeroValue2
 t3:=Tryz.underlying3
 a3:=Tryz.isAgg3
 z3:=Tryz.sizeOf3
 v3:=Tryz.zeroValue3
 t4:=Tryz.underlying4
 a4:=Tryz.isAgg4
 z4:=Tryz.sizeOf4
 v4:=Tryz.zeroValue4
 t5:=Tryz.underlying5
 a5:=Tryz.isAgg5
 z5:=Tryz.sizeOf5
 v5:=Tryz.zeroValue5
 t9:=Tryz.underlying9
 a9:=Tryz.isAgg9
 z9:=Tryz.sizeOf9
 v9:=Tryz.zeroValue9
 t21:=Tryz.underlying21
 a21:=Tryz.isAgg21
 z21:=Tryz.sizeOf21
 v21:=Tryz.zeroValue21
 t37:=Tryz.underlying51
 a37:=Tryz.isAgg51
 z37:=Tryz.sizeOf51
 v37:=Tryz.zeroValue51
 t46:=Tryz.underlying157
 a46:=Tryz.isAgg157
 z46:=Tryz.sizeOf157
 v46:=Tryz.zeroValue157
 t53:=Tryz.underlying251
 a53:=Tryz.isAgg251
 z53:=Tryz.sizeOf251
 v53:=Tryz.zeroValue251
 t75:=Tryz.underlying221
 a75:=Tryz.isAgg221
 z75:=Tryz.sizeOf221
 v75:=Tryz.zeroValue221
 t85:=Tryz.underlying266
 a85:=Tryz.isAgg266
 z85:=Tryz.sizeOf266
 v85:=Tryz.zeroValue266
 t167:=Tryz.underlying265
 a167:=Tryz.isAgg265
 z167:=Tryz.sizeOf265
 v167:=Tryz.zeroValue265
 t175:=Tryz.underlying285
 a175:=Tryz.isAgg285
 z175:=Tryz.sizeOf285
 v175:=Tryz.zeroValue285 }
open Go.RowKit in
theorem Tryz.internal_strconv_Atoi (s:ByteArray) (n:Int) (hl:s.size<=18) (h:Lib.atoi s.data.toList=some n) (w:World) :
 Calls Tryz.prog 209 #[.string s] w λe w'=>e = .returned (.tuple #[.int .i64 n,.nilIface])/\∃ t,w'=Lib.bytesWorld w 5 t:=Any.internal_strconv_Atoi Tryz.Mc s n hl h w
def Tryz.IU:Go.Shelf.Ren:=⟨fun|172=>177|244=>209|245=>210|247=>228|279=>229|280=>230|281=>231|282=>232|287=>247|316=>248|171=>250|205=>249|321=>261|322=>262|243=>263|246=>268|283=>270|284=>271|285=>272|286=>273|129=>208|317=>274|318=>275|319=>276|320=>277|337=>278|338=>279|n=>n,fun|9=>9|3=>3|75=>221|76=>222|4=>4|5=>5|167=>265|37=>51|0=>0|85=>266|2=>2|168=>268|53=>251|175=>285|46=>157|210=>289|127=>299|145=>302|143=>300|21=>21|171=>305|173=>307|212=>309|51=>249|20=>20|213=>310|232=>311|233=>312|80=>103|n=>n,fun|15=>3|16=>4|17=>5|18=>6|19=>7|n=>n⟩
theorem Tryz.Md:Go.Proofs.Lays.n172 Tryz.prog Tryz.IU := {
 mixed:=by kernel_rfl
 f129:=Tryz.func208.trans (congrArg some (by kernel_rfl))
 f171:=Tryz.func250.trans (congrArg some (by kernel_rfl))
 f172:=Tryz.func177.trans (congrArg some (by kernel_rfl))
 f205:=Tryz.func249.trans (congrArg some (by kernel_rfl))
 f243:=Tryz.func263.trans (congrArg some (by kernel_rfl))
 f244:=Tryz.func209.trans (congrArg some (by kernel_rfl))
 f245:=Tryz.func210.trans (congrArg some (by kernel_rfl))
 f246:=Tryz.func268.trans (congrArg some (by kernel_rfl))
 f247:=Tryz.func228.trans (congrArg some (by kernel_rfl))
 f279:=Tryz.func229.trans (congrArg some (by kernel_rfl))
 f280:=Tryz.func230.trans (congrArg some (by kernel_rfl))
 f281:=Tryz.func231.trans (congrArg some (by kernel_rfl))
 f282:=Tryz.func232.trans (congrArg some (by kernel_rfl))
 f283:=Tryz.func270.trans (congrArg some (by kernel_rfl))
 f284:=Tryz.func271.trans (congrArg some (by kernel_rfl))
 f285:=Tryz.func272.trans (congrArg some (by kernel_rfl))
 f286:=Tryz.func273.trans (congrArg some (by kernel_rfl))
 f287:=Tryz.func247.trans (congrArg some (by kernel_rfl))
 f316:=Tryz.func248.trans (congrArg some (by kernel_rfl))
 f317:=Tryz.func274.trans (congrArg some (by kernel_rfl))
 f318:=Tryz.func275.trans (congrArg some (by kernel_rfl))
 f319:=Tryz.func276.trans (congrArg some (by kernel_rfl))
 f320:=Tryz.func277.trans (congrArg some (by kernel_rfl))
 f321:=Tryz.func261.trans (congrArg some (by kernel_rfl))
 f322:=Tryz.func262.trans (congrArg some (by kernel_rfl))
 f337:=Tryz.func278.trans (congrArg some (by kernel_rfl))
 f338:=Tryz.func279.trans (congrArg some (by kernel_rfl))
 t0:=Tryz.underlying0
 a0:=Tryz.isAgg0
 z0:=Tryz.sizeOf0
 v0:=Tryz.zeroValue0
 t2:=Tryz.underlying2
 a2:=Tryz.isAgg2
 z2:=Tryz.sizeOf2
 v2:=Tryz.zeroValue2
 t3:=Tryz.underlying3
 a3:=Tryz.isAgg3
 z3:=Tryz.sizeOf3
 v3:=Tryz.zeroValue3
 t4:=Tryz.underlying4
 a4:=Tryz.isAgg4
 z4:=Tryz.sizeOf4
 v4:=Tryz.zeroValue4
 t5:=Tryz.underlying5
 a5:=Tryz.isAgg5
 z5:=Tryz.sizeOf5
 v5:=Tryz.zeroValue5
 t9:=Tryz.underlying9
 a9:=Tryz.isAgg9
 z9:=Tryz.sizeOf9
 v9:=Tryz.zeroValue9
 t20:=Tryz.underlying20
 a20:=Tryz.isAgg20
 z20:=Tryz.sizeOf20
 v20:=Tryz.zeroValue20
 t21:=Tryz.underlying21
 a21:=Tryz.isAgg21
 z21:=Tryz.sizeOf21
 v21:=Tryz.zeroValue21
 t37:=Tryz.underlying51
 a37:=Tryz.isAgg51
 z37:=Tryz.sizeOf51
 v37:=Tryz.zeroValue51
 t46:=Tryz.underlying157
 a46:=Tryz.isAgg157
 z46:=Tryz.sizeOf157
 v46:=Tryz.zeroValue157
 t51:=Tryz.underlying249
 a51:=Tryz.isAgg249
 z51:=Tryz.sizeOf249
 v51:=Tryz.zeroValue249
 t53:=Tryz.underlying251
 a53:=Tryz.isAgg251
 z53:=Tryz.sizeOf251
 v53:=Tryz.zeroValue251
 t75:=Tryz.underlying221
 a75:=Tryz.isAgg221
 z75:=Tryz.sizeOf221
 v75:=Tryz.zeroValue221
 t76:=Tryz.underlying222
 a76:=Tryz.isAgg222
 z76:=Tryz.sizeOf222
 v76:=Tryz.zeroValue222
 t85:=Tryz.underlying266
 a85:=Tryz.isAgg266
 z85:=Tryz.sizeOf266
 v85:=Tryz.zeroValue266
 t127:=Tryz.underlying299
 a127:=Tryz.isAgg299
 z127:=Tryz.sizeOf299
 v127:=Tryz.zeroValue299
 t143:=Tryz.underlying300
 a143:=Tryz.isAgg300
 z143:=Tryz.sizeOf300
 v143:=Tryz.zeroValue300
 t145:=Tryz.underlying302
 a145:=Tryz.isAgg302
 z145:=Tryz.sizeOf302
 v145:=Tryz.zeroValue302
 t167:=Tryz.underlying265
 a167:=Tryz.isAgg265
 z167:=Tryz.sizeOf265
 v167:=Tryz.zeroValue265
 t168:=Tryz.underlying268
 a168:=Tryz.isAgg268
 z168:=Tryz.sizeOf268
 v168:=Tryz.zeroValue268
 t171:=Tryz.underlying305
 a171:=Tryz.isAgg305
 z171:=Tryz.sizeOf305
 v171:=Tryz.zeroValue305
 t173:=Tryz.underlying307
 a173:=Tryz.isAgg307
 z173:=Tryz.sizeOf307
 v173:=Tryz.zeroValue307
 t175:=Tryz.underlying285
 a175:=Tryz.isAgg285
 z175:=Tryz.sizeOf285
 v175:=Tryz.zeroValue285
 t210:=Tryz.underlying289
 a210:=Tryz.isAgg289
 z210:=Tryz.sizeOf289
 v210:=Tryz.zeroValue289
 t212:=Tryz.underlying309
 a212:=Tryz.isAgg309
 z212:=Tryz.sizeOf309
 v212:=Tryz.zeroValue309
 t213:=Tryz.underlying310
 a213:=Tryz.isAgg310
 z213:=Tryz.sizeOf310
 t232:=Tryz.underlying311
 a232:=Tryz.isAgg311
 z232:=Tryz.sizeOf311
 v232:=Tryz.zeroValue311
 t233:=Tryz.underlying312
 a233:=Tryz.isAgg312
 z233:=Tryz.sizeOf312
 v233:=Tryz.zeroValue312
 g15:=by kernel_rfl
 g16:=by kernel_rfl
 g17:=by kernel_rfl
 g18:=by kernel_rfl
 g19:=by kernel_rfl }
open Go.RowKit in
theorem Tryz.strconv_Atoi (s:ByteArray) (n:Int) (hl:s.size<=18) (h:Lib.atoi s.data.toList=some n) (w:World) :
 Calls Tryz.prog 177 #[.string s] w λe w'=>e = .returned (.tuple #[.int .i64 n,.nilIface])/\∃ t,w'=Lib.bytesWorld w 5 t:=Any.strconv_Atoi Tryz.Md s n hl h w
def Tryz.IV:Go.Shelf.Ren:=⟨fun|217=>198|266=>222|n=>n,fun|9=>9|5=>5|3=>3|n=>n,fun|n=>n⟩
theorem Tryz.Me:Go.Proofs.Lays.n217 Tryz.prog Tryz.IV := {
 mixed:=by kernel_rfl
 f217:=Tryz.func198.trans (congrArg some (by kernel_rfl))
 f266:=Tryz.func222.trans (congrArg some (by kernel_rfl))
 t3:=Tryz.underlying3
 a3:=Tryz.isAgg3
 z3:=Tryz.sizeOf3
 v3:=Tryz.zeroValue3
 t5:=Tryz.underlying5
 a5:=Tryz.isAgg5
 z5:=Tryz.sizeOf5
 v5:=Tryz.zeroValue5
 t9:=Tryz.underlying9
 a9:=Tryz.isAgg9
 z9:=Tryz.sizeOf9
 v9:=Tryz.zeroValue9 }
open Go.RowKit Go.Lib in
theorem Tryz.stringslite_IndexByte (s:ByteArray) (c:Int) (w:World) :
 Calls Tryz.prog 198 #[.string s,.int .u8 c] w λe w'=>e = .returned (.int .i64 (Lib.indexByte s.data.toList c.toNat.toUInt8))/\w'=w:=Any.stringslite_IndexByte Tryz.Me s c w
def Tryz.IW:Go.Shelf.Ren:=⟨fun|206=>197|n=>n,fun|9=>9|4=>4|3=>3|n=>n,fun|n=>n⟩
theorem Tryz.Mf:Go.Proofs.Lays.n206 Tryz.prog Tryz.IW := {
 mixed:=by kernel_rfl
 f206:=Tryz.func197.trans (congrArg some (by kernel_rfl))
 t3:=Tryz.underlying3
 a3:=Tryz.isAgg3
 z3:=Tryz.sizeOf3
 v3:=Tryz.zeroValue3
 t4:=Tryz.underlying4
 a4:=Tryz.isAgg4
 z4:=Tryz.sizeOf4
 v4:=Tryz.zeroValue4
 t9:=Tryz.underlying9
 a9:=Tryz.isAgg9
 z9:=Tryz.sizeOf9
 v9:=Tryz.zeroValue9 }
open Go.RowKit Go.Lib in
theorem Tryz.stringslite_HasPrefix (s p:ByteArray) (w:World) :
 Calls Tryz.prog 197 #[.string s,.string p] w λe w'=>e = .returned (.bool (Lib.hasPrefix s.data.toList p.data.toList))/\w'=w:=Any.stringslite_HasPrefix Tryz.Mf s p w
def Tryz.Jj:Go.Shelf.Ren:=⟨fun|99=>172|206=>197|n=>n,fun|9=>9|4=>4|3=>3|n=>n,fun|n=>n⟩
theorem Tryz.MV:Go.Proofs.Lays.n99 Tryz.prog Tryz.Jj := {
 mixed:=by kernel_rfl
 f99:=Tryz.func172.trans (congrArg some (by kernel_rfl))
 f206:=Tryz.func197.trans (congrArg some (by kernel_rfl))
 t3:=Tryz.underlying3
 a3:=Tryz.isAgg3
 z3:=Tryz.sizeOf3
 v3:=Tryz.zeroValue3
 t4:=Tryz.underlying4
 a4:=Tryz.isAgg4
 z4:=Tryz.sizeOf4
 v4:=Tryz.zeroValue4
 t9:=Tryz.underlying9
 a9:=Tryz.isAgg9
 z9:=Tryz.sizeOf9
 v9:=Tryz.zeroValue9 }
open Go.RowKit Go.Lib in
theorem Tryz.strings_HasPrefix (s p:ByteArray) (w:World) :
 Calls Tryz.prog 172 #[.string s,.string p] w λe w'=>e = .returned (.bool (Lib.hasPrefix s.data.toList p.data.toList))/\w'=w:=Any.strings_HasPrefix Tryz.MV s p w
def Tryz.Im:Go.Shelf.Ren:=⟨fun|15=>62|n=>n,fun|22=>65|3=>3|4=>4|n=>n,fun|n=>n⟩
theorem Tryz.xg:Go.Proofs.Lays2.n15 Tryz.prog Tryz.Im := {
 mixed:=by kernel_rfl
 f15:=Tryz.func62.trans (congrArg some (by kernel_rfl))
 t3:=Tryz.underlying3
 a3:=Tryz.isAgg3
 z3:=Tryz.sizeOf3
 v3:=Tryz.zeroValue3
 t4:=Tryz.underlying4
 a4:=Tryz.isAgg4
 z4:=Tryz.sizeOf4
 v4:=Tryz.zeroValue4
 t22:=Tryz.underlying65
 a22:=Tryz.isAgg65
 z22:=Tryz.sizeOf65
 v22:=Tryz.zeroValue65
 i3:=by kernel_rfl }
open Go.RowKit Go.Lib in
theorem Tryz.slices_Clone_int (b off n c:Nat) (zs:List Int) (w:World) (hz:n<=zs.length) (hbig:n * 8<=140737488355328) (hc:∀ j,j<zs.length->w.cell? ⟨b,off+j,none⟩=some (.int .i64 (zs.getD j 0))) :
 Calls Tryz.prog 62 #[.slice (some ⟨b,off,none⟩) n c] w λe w'=>∃ v',e = .returned v'/\w'.ownsRow w.heap.size 3 1 v' n ((zs.take n).map (Value.int .i64))/\v' ≠ .slice none 0 0/\Below w.heap.size w w':=Any.slices_Clone_int Tryz.xg b off n c zs w hz hbig hc
open Go.RowKit Go.Lib in
theorem Tryz.slices_Clone_int_nil (n c:Nat) (w:World) :
 Calls Tryz.prog 62 #[.slice none n c] w λe w'=>e = .returned (.slice none 0 0)/\w'=w:=Any.slices_Clone_int_nil Tryz.xg n c w
open Go.RowKit Go.Lib in
theorem Tryz.slices_Clone_int_zero (a:Addr) (c:Nat) (w:World) :
 Calls Tryz.prog 62 #[.slice (some a) 0 c] w λe w'=>∃ v',e = .returned v'/\w'.ownsRow w.heap.size 3 1 v' 0 []/\v' ≠ .slice none 0 0/\Below w.heap.size w w':=Any.slices_Clone_int_zero Tryz.xg a c w
def Tryz.Io:Go.Shelf.Ren:=⟨fun|37=>176|n=>n,fun|3=>3|4=>4|n=>n,fun|n=>n⟩
theorem Tryz.JS:Go.Proofs.Lays2.n37 Tryz.prog Tryz.Io := {
 mixed:=by kernel_rfl
 f37:=Tryz.func176.trans (congrArg some (by kernel_rfl))
 t3:=Tryz.underlying3
 a3:=Tryz.isAgg3
 z3:=Tryz.sizeOf3
 v3:=Tryz.zeroValue3
 t4:=Tryz.underlying4
 a4:=Tryz.isAgg4
 z4:=Tryz.sizeOf4
 v4:=Tryz.zeroValue4 }
open Go.RowKit Go.Lib in
theorem Tryz.cmp_isNaN_int2 (x:Int) (w:World) :
 Calls Tryz.prog 176 #[.int .i64 x] w λe w'=>e = .returned (.bool false)/\w'=w:=Any.cmp_isNaN_int2 Tryz.JS x w
end Go.Proofs
namespace Go.Proofs.YtadecgbblajifaaGreatDoor
section
open Go.RowKit Go.Instr
def Mg (w:World) (e:Ending) (w':World):Prop:=∃ n:Int,e = .returned (.int .i64 n)/\w=w'
theorem Mh (s p:ByteArray) (w:World):∃ b:Bool,Calls Tryz.prog 172 #[.string s,.string p] w λe w'=>e = .returned (.bool b)/\w=w' :=
 ⟨_,(Tryz.strings_HasPrefix s p w).mono λ_ _ h=>⟨h.1,h.2.symm⟩⟩
theorem Mi (s:ByteArray) (c:Int) (w:World):∃ n:Int,Calls Tryz.prog 173 #[.string s,.int .u8 c] w λe w'=>e = .returned (.int .i64 n)/\w=w' :=
 ⟨_,(Tryz.strings_IndexByte s c w).mono λ_ _ h=>⟨h.1,h.2.symm⟩⟩
set_option maxRecDepth 100000 in
set_option maxHeartbeats 1600000 in
theorem KF (s:ByteArray) (w:World) (h1:1<=s.size) (hs:s.size<=16):Calls Tryz.prog 135 #[.string s] w (Mg w):=by
 obtain⟨b,hb⟩:=Mh s ⟨#[60,61,62]⟩ w
 have HB:=Lib.hid hb
 clear hb
 go_enter Tryz.func135,Tryz.ntmps135
 go_wp2_with (first
  |(go_at_call 172;refine HB.out.mono ?_;rintro e w' ⟨rfl,rfl⟩)
  |(go_at_call 173;refine(Mi _ _ _).choose_spec.mono ?_;rintro e w' ⟨rfl,rfl⟩))
 all_goals (go_ret;exact⟨_,rfl,rfl⟩)
def Ea:List ByteArray:=[⟨#[105,110,116]⟩,⟨#[97,114,114,97,121]⟩,⟨#[115,116,97,99,107]⟩,⟨#[112,114,111,99]⟩,⟨#[109,97,105,110]⟩,⟨#[112,117,115,104]⟩,⟨#[112,111,112]⟩,⟨#[114,101,97,100]⟩,⟨#[117,110,114,101,97,100]⟩,⟨#[119,114,105,116,101]⟩,⟨#[117,110,119,114,105,116,101]⟩,⟨#[99,97,108,108]⟩,⟨#[117,110,99,97,108,108]⟩,⟨#[105,102]⟩,⟨#[101,108,115,101]⟩,⟨#[102,105]⟩,⟨#[102,114,111,109]⟩,⟨#[108,111,111,112]⟩,⟨#[117,110,116,105,108]⟩,⟨#[108,111,99,97,108]⟩,⟨#[100,101,108,111,99,97,108]⟩,⟨#[116,111,112]⟩,⟨#[115,105,122,101]⟩]
def zn:List (ByteArray × Value):=Ea.foldl (λl k=>gJ k (.bool true) l) []
def qp (s:ByteArray):Bool:=(rW zn s).isSome
theorem tY {κ:Type} [BEq κ] [LawfulBEq κ] (k:κ):∀ (l:List (κ × Value)) (i:Nat),(∀ p∈l,p.2 = .bool true)->((dO k l i).map (·.2)).getD (.bool false) = .bool ((dO k l i).map (·.2)).isSome
 | [],i,_=>rfl
 |(a,x) :: l,i,h=>by
  simp only[dO]
  split
  · have:=h (a,x) (by simp);simp only at this;subst this;rfl
  · exact tY k l (i+1) (λp hp=>h p (by simp[hp]))
theorem xh {κ:Type} [BEq κ] [LawfulBEq κ] (k:κ):∀ (l:List (κ × Value)),(∀ p∈l,p.2 = .bool true)->∀ p∈gJ k (.bool true) l,p.2 = .bool true
 | [],_,p,hp=>by simp[gJ]at hp;subst hp;rfl
 |(a,x) :: l,h,p,hp=>by
  simp only[gJ]at hp
  split at hp
  · rcases List.mem_cons.1 hp with rfl|hp
    · rfl
    · exact h p (by simp[hp])
  · rcases List.mem_cons.1 hp with rfl|hp
    · exact h _ (by simp)
    · exact xh k l (λq hq=>h q (by simp[hq])) p hp
theorem JU (ks:List ByteArray):∀ (l:List (ByteArray × Value)),(∀ p∈l,p.2 = .bool true)->∀ p∈ks.foldl (λl k=>gJ k (.bool true) l) l,p.2 = .bool true:=by
 induction ks with
 |nil=>intro l h;exact h
 |cons k ks ih=>intro l h;exact ih _ (xh k l h)
theorem Tryz.dA:KeyLaw Tryz.prog 9 Value.string .string:=LZ Tryz.underlying9
theorem Tryz.xK (w:World):(zeroValue 4).run Tryz.prog w = .ok (.bool false) w:=by kernel_rfl
theorem dD {P:Program} {κ:Type} [BEq κ] [LawfulBEq κ] {enc:κ->Value} {desc:TypeDesc} {K T E:TypeId} {w:World} {ops:Array Oper} {rest:List Oper} {o:Oper} {a:Act} {Q:Exit->Act->World->Prop}
 (L:KeyLaw P K enc desc) (ht:P.underlying T=some (.map K E)) (r:Nat) (l:List (κ × Value)) (k:κ) (v:Value) (h:MapAt enc w r l) (m:Tmp) (kc vc:Value) (hgd:o.guard=none) (ho:o.op = .insert T (.tmp m) (.const kc) (.const vc)) (hm:a.eval (.tmp m) = .map (some r)) (hk:kc=enc k) (hv:vc=v)
 (hnext:∀ w',MapAt enc w' r (gJ k v l)->Mv (λb=>b=r) w w'->wpList P ops Q rest (a.put o.dst undef) w'):wpList P ops Q (o :: rest) a w :=
 wpList_plain hgd λ_ hK=>by
  obtain⟨w',hr,h2,h3⟩:=run_set (P:=P) L ht k v h
  subst hk hv
  unfold Oper.wp execOp
  simp only[ho,Act.eval,Sem.run_bind,Sem.run_pure,Result.andThen_ok]at hm ⊢
  simp only[hm,hr,Result.andThen_ok]
  exact hK _ _ (hnext w' h2 h3)
set_option maxRecDepth 100000 in
set_option maxHeartbeats 1600000 in
theorem IX (s:ByteArray) (w:World) (hs:s.size<=1000000000):Calls Tryz.prog 87 #[.string s] w λe w'=>e = .returned (.bool (decide (2<=s.size) && (decide (s.size<=7) && qp s)))/\Mv (λ_=>False) w w':=by
 by_cases h2:2<=s.size
 · by_cases h7:s.size<=7
   · have hmm := @run_makeMap Tryz.prog
     have H0:MapAt Value.string (w.alloc (.map #[] 0)) w.heap.size []:=MapAt.new _ w
     have M0:Mv (λb=>b=w.heap.size) w (w.alloc (.map #[] 0)):=(Mv.refl _ _).alloc _
     go_enter Tryz.func87,Tryz.ntmps87
     go_wp2_with (refine dD Tryz.dA Tryz.underlying136 w.heap.size _ ⟨#[105,110,116]⟩ (.bool true) H0 _ _ _ rfl rfl rfl rfl rfl ?_)
     intro w1 H1 N1
     have M1:=M0.trans N1 (λ_ e => .inl e)
     clear H0 M0 N1
     go_wp2_with (refine dD Tryz.dA Tryz.underlying136 w.heap.size _ ⟨#[97,114,114,97,121]⟩ (.bool true) H1 _ _ _ rfl rfl rfl rfl rfl ?_)
     intro w2 H2 N2
     have M2:=M1.trans N2 (λ_ e => .inl e)
     clear H1 M1 N2
     go_wp2_with (refine dD Tryz.dA Tryz.underlying136 w.heap.size _ ⟨#[115,116,97,99,107]⟩ (.bool true) H2 _ _ _ rfl rfl rfl rfl rfl ?_)
     intro w3 H3 N3
     have M3:=M2.trans N3 (λ_ e => .inl e)
     clear H2 M2 N3
     go_wp2_with (refine dD Tryz.dA Tryz.underlying136 w.heap.size _ ⟨#[112,114,111,99]⟩ (.bool true) H3 _ _ _ rfl rfl rfl rfl rfl ?_)
     intro w4 H4 N4
     have M4:=M3.trans N4 (λ_ e => .inl e)
     clear H3 M3 N4
     go_wp2_with (refine dD Tryz.dA Tryz.underlying136 w.heap.size _ ⟨#[109,97,105,110]⟩ (.bool true) H4 _ _ _ rfl rfl rfl rfl rfl ?_)
     intro w5 H5 N5
     have M5:=M4.trans N5 (λ_ e => .inl e)
     clear H4 M4 N5
     go_wp2_with (refine dD Tryz.dA Tryz.underlying136 w.heap.size _ ⟨#[112,117,115,104]⟩ (.bool true) H5 _ _ _ rfl rfl rfl rfl rfl ?_)
     intro w6 H6 N6
     have M6:=M5.trans N6 (λ_ e => .inl e)
     clear H5 M5 N6
     go_wp2_with (refine dD Tryz.dA Tryz.underlying136 w.heap.size _ ⟨#[112,111,112]⟩ (.bool true) H6 _ _ _ rfl rfl rfl rfl rfl ?_)
     intro w7 H7 N7
     have M7:=M6.trans N7 (λ_ e => .inl e)
     clear H6 M6 N7
     go_wp2_with (refine dD Tryz.dA Tryz.underlying136 w.heap.size _ ⟨#[114,101,97,100]⟩ (.bool true) H7 _ _ _ rfl rfl rfl rfl rfl ?_)
     intro w8 H8 N8
     have M8:=M7.trans N8 (λ_ e => .inl e)
     clear H7 M7 N8
     go_wp2_with (refine dD Tryz.dA Tryz.underlying136 w.heap.size _ ⟨#[117,110,114,101,97,100]⟩ (.bool true) H8 _ _ _ rfl rfl rfl rfl rfl ?_)
     intro w9 H9 N9
     have M9:=M8.trans N9 (λ_ e => .inl e)
     clear H8 M8 N9
     go_wp2_with (refine dD Tryz.dA Tryz.underlying136 w.heap.size _ ⟨#[119,114,105,116,101]⟩ (.bool true) H9 _ _ _ rfl rfl rfl rfl rfl ?_)
     intro QO FZ F3
     have F4:=M9.trans F3 (λ_ e => .inl e)
     clear H9 M9 F3
     go_wp2_with (refine dD Tryz.dA Tryz.underlying136 w.heap.size _ ⟨#[117,110,119,114,105,116,101]⟩ (.bool true) FZ _ _ _ rfl rfl rfl rfl rfl ?_)
     intro QP F5 F6
     have F7:=F4.trans F6 (λ_ e => .inl e)
     clear FZ F4 F6
     go_wp2_with (refine dD Tryz.dA Tryz.underlying136 w.heap.size _ ⟨#[99,97,108,108]⟩ (.bool true) F5 _ _ _ rfl rfl rfl rfl rfl ?_)
     intro QQ F8 F9
     have Ga:=F7.trans F9 (λ_ e => .inl e)
     clear F5 F7 F9
     go_wp2_with (refine dD Tryz.dA Tryz.underlying136 w.heap.size _ ⟨#[117,110,99,97,108,108]⟩ (.bool true) F8 _ _ _ rfl rfl rfl rfl rfl ?_)
     intro QR Gb Gc
     have Gd:=Ga.trans Gc (λ_ e => .inl e)
     clear F8 Ga Gc
     go_wp2_with (refine dD Tryz.dA Tryz.underlying136 w.heap.size _ ⟨#[105,102]⟩ (.bool true) Gb _ _ _ rfl rfl rfl rfl rfl ?_)
     intro QS Gf Gg
     have Gh:=Gd.trans Gg (λ_ e => .inl e)
     clear Gb Gd Gg
     go_wp2_with (refine dD Tryz.dA Tryz.underlying136 w.heap.size _ ⟨#[101,108,115,101]⟩ (.bool true) Gf _ _ _ rfl rfl rfl rfl rfl ?_)
     intro QT Gi Gj
     have Gl:=Gh.trans Gj (λ_ e => .inl e)
     clear Gf Gh Gj
     go_wp2_with (refine dD Tryz.dA Tryz.underlying136 w.heap.size _ ⟨#[102,105]⟩ (.bool true) Gi _ _ _ rfl rfl rfl rfl rfl ?_)
     intro w16 Gm Gn
     have Gp:=Gl.trans Gn (λ_ e => .inl e)
     clear Gi Gl Gn
     go_wp2_with (refine dD Tryz.dA Tryz.underlying136 w.heap.size _ ⟨#[102,114,111,109]⟩ (.bool true) Gm _ _ _ rfl rfl rfl rfl rfl ?_)
     intro QU Gq Gr
     have Gs:=Gp.trans Gr (λ_ e => .inl e)
     clear Gm Gp Gr
     go_wp2_with (refine dD Tryz.dA Tryz.underlying136 w.heap.size _ ⟨#[108,111,111,112]⟩ (.bool true) Gq _ _ _ rfl rfl rfl rfl rfl ?_)
     intro QV Gt Gu
     have Gv:=Gs.trans Gu (λ_ e => .inl e)
     clear Gq Gs Gu
     go_wp2_with (refine dD Tryz.dA Tryz.underlying136 w.heap.size _ ⟨#[117,110,116,105,108]⟩ (.bool true) Gt _ _ _ rfl rfl rfl rfl rfl ?_)
     intro QW Gw Gx
     have Gy:=Gv.trans Gx (λ_ e => .inl e)
     clear Gt Gv Gx
     go_wp2_with (refine dD Tryz.dA Tryz.underlying136 w.heap.size _ ⟨#[108,111,99,97,108]⟩ (.bool true) Gw _ _ _ rfl rfl rfl rfl rfl ?_)
     intro QX Gz GA
     have GD:=Gy.trans GA (λ_ e => .inl e)
     clear Gw Gy GA
     go_wp2_with (refine dD Tryz.dA Tryz.underlying136 w.heap.size _ ⟨#[100,101,108,111,99,97,108]⟩ (.bool true) Gz _ _ _ rfl rfl rfl rfl rfl ?_)
     intro QZ GG GH
     have GI:=GD.trans GH (λ_ e => .inl e)
     clear Gz GD GH
     go_wp2_with (refine dD Tryz.dA Tryz.underlying136 w.heap.size _ ⟨#[116,111,112]⟩ (.bool true) GG _ _ _ rfl rfl rfl rfl rfl ?_)
     intro Q0 GJ GK
     have GL:=GI.trans GK (λ_ e => .inl e)
     clear GG GI GK
     go_wp2_with (refine dD Tryz.dA Tryz.underlying136 w.heap.size _ ⟨#[115,105,122,101]⟩ (.bool true) GJ _ _ _ rfl rfl rfl rfl rfl ?_)
     intro GM GN GQ
     have GR:=GL.trans GQ (λ_ e => .inl e)
     clear GJ GL GQ
     have hl:=run_get Tryz.dA Tryz.underlying136 s (.bool false) Tryz.xK GN
     have hg:(rW zn s).getD (.bool false) = .bool (qp s):=tY s zn 0 (JU Ea [] (by simp))
     have hl2:(lookup 136 (.map (some w.heap.size)) (.string s) false).run Tryz.prog GM = .ok (.bool (qp s)) GM:=hl.trans (by rw[← hg];rfl)
     have HM:=Lib.hid (GR.mono (O1:=λ_=>False) (λx e => .inr (by omega)))
     clear hl hg GN GR
     go_wp2_with fail
     go_ret
     exact⟨aj (by simp[h2,h7]),HM.out⟩
   · go_enter Tryz.func87,Tryz.ntmps87
     go_wp2_with fail
     go_ret
     exact⟨aj (by simp[h7]),Mv.refl _ _⟩
 · go_enter Tryz.func87,Tryz.ntmps87
   go_wp2_with fail
   go_ret
   exact⟨aj (by simp[h2]),Mv.refl _ _⟩
end
section
open Go.RowKit Go.Instr
def KG (w:World) (e:Ending) (w':World):Prop:=∃ k n:Int,(k == 1)=false/\e = .returned (.tuple #[.int .u8 k,.int .i64 n])/\w=w'
set_option maxHeartbeats 800000 in
theorem Jk (s:ByteArray) (w:World) (h1:1<=s.size) (hs:s.size<=16) (hl:l6 (s[0].toNat)=true) :
 Calls Tryz.prog 86 #[.string s] w λe w'=>e = .returned (.tuple #[.int .u8 1,.int .i64 (iw iW s.data.toList)])/\w=w':=by
 go_enter Tryz.func86,Tryz.ntmps86
 go_wp2_with (first
  |(go_at_call 129;refine(qF _ _).mono ?_;rintro e w' ⟨rfl,rfl⟩)
  |(go_at_call 130;refine(JP s _ (by omega)).mono ?_;rintro e w' ⟨rfl,rfl⟩))
 go_ret2
 exact⟨rfl,rfl⟩
set_option maxHeartbeats 1600000 in
theorem IY (s:ByteArray) (w:World) (h1:1<=s.size) (hs:s.size<=16) (hl:l6 (s[0].toNat)=false):Calls Tryz.prog 86 #[.string s] w (KG w):=by
 by_cases hd:jA (s[0].toNat)=true
 · go_enter Tryz.func86,Tryz.ntmps86
   go_wp2_with (first
    |(go_at_call 129;refine(qF _ _).mono ?_;rintro e w' ⟨rfl,rfl⟩)
    |(go_at_call 132;refine(oG _ _).mono ?_;rintro e w' ⟨rfl,rfl⟩)
    |(go_at_call 130;refine(JQ s _ (by omega)).mono ?_;rintro e w' ⟨rfl,rfl⟩))
   go_ret2
   exact⟨_,_,rfl,rfl,rfl⟩
 · have hd2:jA (s[0].toNat)=false:=by simpa using hd
   by_cases hb:j6 (s[0].toNat)=true
   · go_enter Tryz.func86,Tryz.ntmps86
     go_wp2_with (first
      |(go_at_call 129;refine(qF _ _).mono ?_;rintro e w' ⟨rfl,rfl⟩)
      |(go_at_call 132;refine(oG _ _).mono ?_;rintro e w' ⟨rfl,rfl⟩)
      |(go_at_call 133;refine(tV _ _).mono ?_;rintro e w' ⟨rfl,rfl⟩)
      |(go_at_call 130;refine(JR s _ (by omega)).mono ?_;rintro e w' ⟨rfl,rfl⟩))
     go_ret2
     exact⟨_,_,rfl,rfl,rfl⟩
   · have hb2:j6 (s[0].toNat)=false:=by simpa using hb
     go_enter Tryz.func86,Tryz.ntmps86
     go_wp2_with (first
      |(go_at_call 129;refine(qF _ _).mono ?_;rintro e w' ⟨rfl,rfl⟩)
      |(go_at_call 132;refine(oG _ _).mono ?_;rintro e w' ⟨rfl,rfl⟩)
      |(go_at_call 133;refine(tV _ _).mono ?_;rintro e w' ⟨rfl,rfl⟩)
      |(go_at_call 130;refine(KE s _ (by omega)).mono ?_;rintro e w' ⟨rfl,rfl⟩)
      |(go_at_call 135;refine(KF s _ h1 hs).mono ?_;rintro e w' ⟨n,rfl,rfl⟩))
     all_goals (go_ret2;exact⟨_,_,rfl,rfl,rfl⟩)
def aS (s:ByteArray):Bool:=if h:1<=s.size then decide (s.size<=16) && (l6 (s[0].toNat) && (decide (iw iW s.data.toList=s.size) && !(decide (2<=s.size) && (decide (s.size<=7) && qp s))))else false
theorem tJ {s:ByteArray} (h:¬ 1<=s.size):s=⟨#[]⟩:=by
 cases s with|mk a =>
 have:a.size=0:=by simpa[ByteArray.size]using h
 simp[Array.size_eq_zero_iff.1 this]
theorem oF {s:ByteArray} (h:1<=s.size):s.toList.isEmpty=false:=by
 have h1:s.toList=s.data.toList:=ByteArray.toList_eq s
 rw[h1]
 cases hl:s.data.toList with
 |nil =>
  have:s.size=0:=by
   have:=congrArg List.length hl
   simpa using this
  omega
 |cons a l=>rfl
set_option maxHeartbeats 1600000 in
theorem ui (s:ByteArray) (w:World) (hs:s.size<=9223372036854775807):Calls Tryz.prog 41 #[.string s] w λe w'=>e = .returned (.bool (aS s))/\Mv (λ_=>False) w w':=by
 by_cases h1:1<=s.size
 · by_cases h16:s.size<=16
   · by_cases hl:l6 (s[0].toNat)=true
     · have HF:=Lib.hid (Jk s w h1 h16 hl)
       have HK:=Lib.hid (IX s w (by omega))
       have HN:=Lib.hid (show aS s=(decide (iw iW s.data.toList=s.size) && !(decide (2<=s.size) && (decide (s.size<=7) && qp s)))from by unfold aS;rw[dif_pos h1,hl];simp[h16])
       generalize iw iW s.data.toList=n at *
       generalize (decide (2<=s.size) && (decide (s.size<=7) && qp s))=q at *
       have hne:=oF h1
       go_enter Tryz.func41,Tryz.ntmps41
       go_wp2_with fail
       refine HF.out.mono ?_
       rintro e w' ⟨rfl,rfl⟩
       by_cases hn:n=s.size
       · have hnb:((n:Int) == (s.size:Int))=true:=by simp[hn]
         have Ah:=Lib.hid hn
         clear hn
         go_wp2_with fail
         refine HK.out.mono ?_
         rintro e w' ⟨rfl,hm⟩
         have HM:=Lib.hid hm
         clear hm
         go_wp2_with fail
         all_goals (go_ret;exact⟨aj (by rw[HN.out,Ah.out];simp_all),HM.out⟩)
       · have hnb:((n:Int) == (s.size:Int))=false:=by simpa using λe=>hn (by omega)
         go_wp2_with fail
         all_goals (go_ret;exact⟨aj (by rw[HN.out];simp_all),Mv.refl _ _⟩)
     · have hl2:l6 (s[0].toNat)=false:=by simpa using hl
       have HF:=Lib.hid (IY s w h1 h16 hl2)
       have HN:=Lib.hid (show aS s=false from by unfold aS;rw[dif_pos h1,hl2];simp)
       have hne:=oF h1
       clear hl hl2
       go_enter Tryz.func41,Tryz.ntmps41
       go_wp2_with fail
       refine HF.out.mono ?_
       rintro e w' ⟨k,n,hk,rfl,rfl⟩
       go_wp2_with fail
       go_ret
       exact⟨aj (by rw[HN.out]),Mv.refl _ _⟩
   · have HN:=Lib.hid (show aS s=false from by unfold aS;rw[dif_pos h1];simp[h16])
     have hne:=oF h1
     go_enter Tryz.func41,Tryz.ntmps41
     go_wp2_with fail
     go_ret
     exact⟨aj (by rw[HN.out]),Mv.refl _ _⟩
 · have HN:=Lib.hid (show aS s=false from by unfold aS;rw[dif_neg h1])
   obtain rfl:=tJ h1
   go_enter Tryz.func41,Tryz.ntmps41
   go_wp2_with fail
   go_ret
   exact⟨aj (by rw[HN.out]),Mv.refl _ _⟩
end
section
open Go.RowKit
abbrev Grow (w w':World):Prop:=Mv (λ_=>False) w w'
def aA {α:Type} (n:Nat) (f:α->List Value) (w:World) (v:Value) (l:List α):Prop :=
 ∃ a cap,v = .slice a l.length cap/\l.length<=cap/\l.length<=9223372036854775807/\∀ (i:Nat) (x:α),l[i]? = some x->∃ b off,a=some ⟨b,off,none⟩/\∀ (j:Nat) (u:Value),(f x)[j]? = some u->w.cell? ⟨b,off+i * n+j,none⟩=some u
section
variable {α:Type} {n:Nat} {f:α->List Value} {w w':World} {v:Value} {l:List α}
theorem aA.form (h:aA n f w v l):∃ a cap,v = .slice a l.length cap/\l.length<=cap/\l.length<=9223372036854775807:=by
 obtain⟨a,cap,h1,h2,h3,_⟩:=h
 exact⟨a,cap,h1,h2,h3⟩
theorem aA.later (h:aA n f w v l) (hm:Grow w w'):aA n f w' v l:=by
 obtain⟨a,cap,h1,h2,h3,h4⟩:=h
 refine⟨a,cap,h1,h2,h3,λi x hx => ?_⟩
 obtain⟨b,off,hb,hc⟩:=h4 i x hx
 refine⟨b,off,hb,λj u hu => ?_⟩
 have h5:=hc j u hu
 rw[← h5]
 exact World.cell?_of_block (w:=w) (w':=w') (hm.block _ (World.block_lt_of_cell? w _ h5) (λh=>h))
theorem aA.nil (n:Nat) (f:α->List Value) (w:World):aA n f w (.slice none 0 0) []:=⟨none,0,rfl,Nat.le_refl _,by simp,λi x hx=>by simp at hx⟩
theorem aA.at (h:aA n f w v l) {i:Nat} (hi:i<l.length):∃ b off cap,v = .slice (some ⟨b,off,none⟩) l.length cap/\l.length<=cap/\∀ (j:Nat) (u:Value),(f l[i])[j]? = some u->w.cell? ⟨b,off+i * n+j,none⟩=some u:=by
 obtain⟨a,cap,rfl,h2,h3,h4⟩:=h
 obtain⟨b,off,rfl,hc⟩:=h4 i _ (List.getElem?_eq_getElem hi)
 exact⟨b,off,cap,rfl,h2,hc⟩
theorem aA.at' {b off len cap:Nat} (h:aA n f w (.slice (some ⟨b,off,none⟩) len cap) l) {i:Nat} (hi:i<l.length):∀ (j:Nat) (u:Value),(f l[i])[j]? = some u->w.cell? ⟨b,off+i * n+j,none⟩=some u:=by
 obtain⟨b',off',cap',e,_,hc⟩:=h.at hi
 simp only[Value.slice.injEq,Option.some.injEq,Addr.mk.injEq,and_true]at e
 obtain⟨⟨rfl,rfl⟩,_,_⟩:=e
 exact hc
end
structure aH where
 name:ByteArray
 kind:Int
 len:Int
structure ay where
 name:ByteArray
 kind:Int
 len:Int
 at':Int
structure bC where
 at':Int
 name:ByteArray
def aH.cells (v:aH):List Value:=[.string v.name,.int .u8 v.kind,.int .i64 v.len]
def ay.cells (v:ay):List Value:=[.string v.name,.int .u8 v.kind,.int .i64 v.len,.int .i64 v.at']
def bC.cells (v:bC):List Value:=[.int .i64 v.at',.string v.name]
abbrev aH.val (v:aH):Value := .agg #[.string v.name,.int .u8 v.kind,.int .i64 v.len]
structure aM where
 name:ByteArray
 params:List aH
 slots:List ay
 cells:Int
 stacks:Int
 code:List Ins
 refs:List bC
def In64 (x:Int):Prop := -9223372036854775808<=x/\x<=9223372036854775807
def Ey (i:Ins):Prop:=(0<=i.op/\i.op<=255)/\In64 i.a/\In64 i.b/\In64 i.c/\In64 i.d
structure Ez (o:aM):Prop where
 name:o.name.size<=9223372036854775807
 params:∀ v∈o.params,v.name.size<=9223372036854775807/\In64 v.len
 slots:∀ v∈o.slots,v.name.size<=9223372036854775807/\In64 v.len/\In64 v.at'
 cells:In64 o.cells
 stacks:In64 o.stacks
 code:∀ i∈o.code,Ey i
 refs:∀ r∈o.refs,r.name.size<=9223372036854775807/\In64 r.at'
 few:o.slots.length<=4398046511104
structure gu where
 d:aM
 pv:Value
 sv:Value
 cv:Value
 rv:Value
def gu.cells (o:gu):List Value:=[.string o.d.name,o.pv,o.sv,.int .i64 o.d.cells,.int .i64 o.d.stacks,o.cv,o.rv]
abbrev gu.val (o:gu):Value := .agg #[.string o.d.name,o.pv,o.sv,.int .i64 o.d.cells,.int .i64 o.d.stacks,o.cv,o.rv]
structure jq (w:World) (o:gu):Prop where
 ok:Ez o.d
 params:aA 3 aH.cells w o.pv o.d.params
 slots:aA 4 ay.cells w o.sv o.d.slots
 code:aA 5 Ins.cells w o.cv o.d.code
 refs:aA 2 bC.cells w o.rv o.d.refs
theorem jq.later {w w':World} {o:gu} (h:jq w o) (hm:Grow w w'):jq w' o:=⟨h.ok,h.params.later hm,h.slots.later hm,h.code.later hm,h.refs.later hm⟩
structure yO (w:World) (v:Value) (l:List gu):Prop where
 row:aA 7 gu.cells w v l
 each:∀ o∈l,jq w o
theorem yO.later {w w':World} {v:Value} {l:List gu} (h:yO w v l) (hm:Grow w w'):yO w' v l:=⟨h.row.later hm,λo ho=>(h.each o ho).later hm⟩
end
end Go.Proofs.YtadecgbblajifaaGreatDoor
