/- The library's contracts at this translation, as the kit's shelf lays them in plain words. -/
import Derived.Shelf.Strings.Search1
import Derived.Shelf.Strings.Search2
import Derived.Shelf.Strings.Search3
import Derived.Shelf.LaysM
import Derived.Shelf.Strings.Shaped
import Derived.Shelf.Unicode.DecodeSlow
import Derived.Test.YtpicpebolghcfaaGreatDoorProg

namespace Go.Proofs
open Go.Shelf
def Tryz.lays217_ren:Go.Shelf.Ren:=⟨fun|217=>172|266=>177|n=>n,fun|9=>9|5=>5|3=>3|n=>n,fun|n=>n⟩
theorem Tryz.lays217:Go.Proofs.Lays.n217 prog Tryz.lays217_ren:={mixed:=by kernel_rfl,f217:=func172.trans (congrArg some (by kernel_rfl)),f266:=func177.trans (congrArg some (by kernel_rfl)),t3:=underlying3,a3:=Tryz.isAgg3,z3:=Tryz.sizeOf3,v3:=zeroValue3,t5:=underlying5,a5:=Tryz.isAgg5,z5:=Tryz.sizeOf5,v5:=zeroValue5,t9:=underlying9,a9:=Tryz.isAgg9,z9:=Tryz.sizeOf9,v9:=zeroValue9}
open Go.RowKit Go.Lib in
theorem Tryz.stringslite_IndexByte(s:ByteArray)(c:Int)(w:World):
 Calls prog 172 #[.string s,.int .u8 c] w fun e w'=>e=.returned (.int .i64 (Lib.indexByte s.data.toList c.toNat.toUInt8))/\w'=w:=Any.stringslite_IndexByte Tryz.lays217 s c w
def Tryz.lays224_ren:Go.Shelf.Ren:=⟨fun|224=>174|n=>n,fun|3=>3|n=>n,fun|n=>n⟩
theorem Tryz.lays224:Go.Proofs.Lays.n224 prog Tryz.lays224_ren:={mixed:=by kernel_rfl,f224:=func174.trans (congrArg some (by kernel_rfl)),t3:=underlying3,a3:=Tryz.isAgg3,z3:=Tryz.sizeOf3,v3:=zeroValue3}
open Go.RowKit Go.Lib in
theorem Tryz.bytealg_Cutover(n:Int)(h0:0<=n)(h1:n<4611686018427387904)(w:World):
 Calls prog 174 #[.int .i64 n] w fun e w'=>e=.returned (.int .i64 ((n+16) / 8))/\w'=w:=Any.bytealg_Cutover Tryz.lays224 n h0 h1 w
def Tryz.lays314_ren:Go.Shelf.Ren:=⟨fun|314=>178|n=>n,fun|9=>9|51=>188|3=>3|4=>4|5=>5|46=>185|n=>n,fun|n=>n⟩
theorem Tryz.lays314:Go.Proofs.Lays.n314 prog Tryz.lays314_ren:={mixed:=by kernel_rfl,f314:=func178.trans (congrArg some (by kernel_rfl)),t3:=underlying3,a3:=Tryz.isAgg3,z3:=Tryz.sizeOf3,v3:=zeroValue3,t4:=underlying4,a4:=Tryz.isAgg4,z4:=Tryz.sizeOf4,v4:=zeroValue4,t5:=underlying5,a5:=Tryz.isAgg5,z5:=Tryz.sizeOf5,v5:=zeroValue5,t9:=underlying9,a9:=Tryz.isAgg9,z9:=Tryz.sizeOf9,v9:=zeroValue9,t46:=underlying185,a46:=Tryz.isAgg185,z46:=Tryz.sizeOf185,v46:=zeroValue185,t51:=underlying188,a51:=Tryz.isAgg188,z51:=Tryz.sizeOf188,v51:=zeroValue188}
open Go.RowKit Go.Lib in
theorem Tryz.bytealg_hashStr(sep:ByteArray)(hs:sep.size<4294967281)(w:World):
 Calls prog 178 #[.string sep] w fun e w'=>e=.returned (.tuple #[.int .u32 (RK.H sep.data.toList % 4294967296),.int .u32 (16777619^sep.size % 4294967296)])/\w'=w:=Any.bytealg_hashStr Tryz.lays314 sep hs w
def Tryz.lays267_ren:Go.Shelf.Ren:=⟨fun|267=>175|314=>178|n=>n,fun|9=>9|3=>3|146=>261|51=>188|4=>4|5=>5|46=>185|n=>n,fun|n=>n⟩
theorem Tryz.lays267:Go.Proofs.Lays.n267 prog Tryz.lays267_ren:={mixed:=by kernel_rfl,f267:=func175.trans (congrArg some (by kernel_rfl)),f314:=func178.trans (congrArg some (by kernel_rfl)),t3:=underlying3,a3:=Tryz.isAgg3,z3:=Tryz.sizeOf3,v3:=zeroValue3,t4:=underlying4,a4:=Tryz.isAgg4,z4:=Tryz.sizeOf4,v4:=zeroValue4,t5:=underlying5,a5:=Tryz.isAgg5,z5:=Tryz.sizeOf5,v5:=zeroValue5,t9:=underlying9,a9:=Tryz.isAgg9,z9:=Tryz.sizeOf9,v9:=zeroValue9,t46:=underlying185,a46:=Tryz.isAgg185,z46:=Tryz.sizeOf185,v46:=zeroValue185,t51:=underlying188,a51:=Tryz.isAgg188,z51:=Tryz.sizeOf188,v51:=zeroValue188,t146:=underlying261,a146:=Tryz.isAgg261,z146:=Tryz.sizeOf261,v146:=zeroValue261}
open Go.RowKit Go.Lib in
theorem Tryz.bytealg_IndexRabinKarp(s sep:ByteArray)(h1:1<=sep.size)(h2:sep.size<=s.size)(hs:s.size<4294967281)(w:World):
 Calls prog 175 #[.string s,.string sep] w fun e w'=>e=.returned (.int .i64 (Lib.index s.data.toList sep.data.toList))/\w'=w:=Any.bytealg_IndexRabinKarp Tryz.lays267 s sep h1 h2 hs w
def Tryz.lays219_ren:Go.Shelf.Ren:=⟨fun|219=>170|217=>172|225=>173|224=>174|267=>175|266=>177|314=>178|n=>n,fun|9=>9|3=>3|4=>4|5=>5|46=>185|146=>261|51=>188|n=>n,fun|1=>2|n=>n⟩
theorem Tryz.lays219:Go.Proofs.Lays.n219 prog Tryz.lays219_ren:={mixed:=by kernel_rfl,f217:=func172.trans (congrArg some (by kernel_rfl)),f219:=func170.trans (congrArg some (by kernel_rfl)),f224:=func174.trans (congrArg some (by kernel_rfl)),f225:=func173.trans (congrArg some (by kernel_rfl)),f266:=func177.trans (congrArg some (by kernel_rfl)),f267:=func175.trans (congrArg some (by kernel_rfl)),f314:=func178.trans (congrArg some (by kernel_rfl)),t3:=underlying3,a3:=Tryz.isAgg3,z3:=Tryz.sizeOf3,v3:=zeroValue3,t4:=underlying4,a4:=Tryz.isAgg4,z4:=Tryz.sizeOf4,v4:=zeroValue4,t5:=underlying5,a5:=Tryz.isAgg5,z5:=Tryz.sizeOf5,v5:=zeroValue5,t9:=underlying9,a9:=Tryz.isAgg9,z9:=Tryz.sizeOf9,v9:=zeroValue9,t46:=underlying185,a46:=Tryz.isAgg185,z46:=Tryz.sizeOf185,v46:=zeroValue185,t51:=underlying188,a51:=Tryz.isAgg188,z51:=Tryz.sizeOf188,v51:=zeroValue188,t146:=underlying261,a146:=Tryz.isAgg261,z146:=Tryz.sizeOf261,v146:=zeroValue261,g1:=by kernel_rfl}
open Go.RowKit Go.Lib in
theorem Tryz.stringslite_Index_one(s:ByteArray)(c:UInt8)(w:World):
 Calls prog 170 #[.string s,.string ⟨#[c]⟩] w fun e w'=>e=.returned (.int .i64 (Lib.indexByte s.data.toList c))/\w'=w:=Any.stringslite_Index_one Tryz.lays219 s c w
open Go.RowKit Go.Lib in
theorem Tryz.stringslite_Index(s sub:ByteArray)(m:Int)(w:World)(hs:s.size<4294967281)(hm:w.cell? ⟨2,0,none⟩=some (.int .i64 m)):
 Calls prog 170 #[.string s,.string sub] w fun e w'=>e=.returned (.int .i64 (Lib.index s.data.toList sub.data.toList))/\w'=w:=Any.stringslite_Index Tryz.lays219 s sub m w hs hm
def Tryz.lays143_ren:Go.Shelf.Ren:=⟨fun|143=>164|219=>170|217=>172|225=>173|224=>174|267=>175|266=>177|314=>178|n=>n,fun|9=>9|3=>3|4=>4|5=>5|46=>185|146=>261|51=>188|n=>n,fun|1=>2|n=>n⟩
theorem Tryz.lays143:Go.Proofs.Lays.n143 prog Tryz.lays143_ren:={mixed:=by kernel_rfl,f143:=func164.trans (congrArg some (by kernel_rfl)),f217:=func172.trans (congrArg some (by kernel_rfl)),f219:=func170.trans (congrArg some (by kernel_rfl)),f224:=func174.trans (congrArg some (by kernel_rfl)),f225:=func173.trans (congrArg some (by kernel_rfl)),f266:=func177.trans (congrArg some (by kernel_rfl)),f267:=func175.trans (congrArg some (by kernel_rfl)),f314:=func178.trans (congrArg some (by kernel_rfl)),t3:=underlying3,a3:=Tryz.isAgg3,z3:=Tryz.sizeOf3,v3:=zeroValue3,t4:=underlying4,a4:=Tryz.isAgg4,z4:=Tryz.sizeOf4,v4:=zeroValue4,t5:=underlying5,a5:=Tryz.isAgg5,z5:=Tryz.sizeOf5,v5:=zeroValue5,t9:=underlying9,a9:=Tryz.isAgg9,z9:=Tryz.sizeOf9,v9:=zeroValue9,t46:=underlying185,a46:=Tryz.isAgg185,z46:=Tryz.sizeOf185,v46:=zeroValue185,t51:=underlying188,a51:=Tryz.isAgg188,z51:=Tryz.sizeOf188,v51:=zeroValue188,t146:=underlying261,a146:=Tryz.isAgg261,z146:=Tryz.sizeOf261,v146:=zeroValue261,g1:=by kernel_rfl}
open Go.RowKit Go.Lib in
theorem Tryz.strings_Index_one(s:ByteArray)(c:UInt8)(w:World):
 Calls prog 164 #[.string s,.string ⟨#[c]⟩] w fun e w'=>e=.returned (.int .i64 (Lib.indexByte s.data.toList c))/\w'=w:=Any.strings_Index_one Tryz.lays143 s c w
open Go.RowKit Go.Lib in
theorem Tryz.strings_Index(s sub:ByteArray)(m:Int)(w:World)(hs:s.size<4294967281)(hm:w.cell? ⟨2,0,none⟩=some (.int .i64 m)):
 Calls prog 164 #[.string s,.string sub] w fun e w'=>e=.returned (.int .i64 (Lib.index s.data.toList sub.data.toList))/\w'=w:=Any.strings_Index Tryz.lays143 s sub m w hs hm
def Tryz.laysM219_ren:Go.Shelf.Ren:=⟨fun|219=>170|217=>172|225=>173|224=>174|267=>175|266=>177|314=>178|n=>n,fun|9=>9|3=>3|4=>4|5=>5|46=>185|146=>261|51=>188|n=>n,fun|1=>2|n=>n⟩
theorem Tryz.laysM219:Go.Proofs.LaysM.n219 prog Tryz.laysM219_ren:={mixed:=by kernel_rfl,f217:=func172.trans (congrArg some (by kernel_rfl)),f219:=func170.trans (congrArg some (by kernel_rfl)),f224:=func174.trans (congrArg some (by kernel_rfl)),f225:=func173.trans (congrArg some (by kernel_rfl)),f266:=func177.trans (congrArg some (by kernel_rfl)),f267:=func175.trans (congrArg some (by kernel_rfl)),f314:=func178.trans (congrArg some (by kernel_rfl)),t3:=underlying3,a3:=Tryz.isAgg3,z3:=Tryz.sizeOf3,v3:=zeroValue3,t4:=underlying4,a4:=Tryz.isAgg4,z4:=Tryz.sizeOf4,v4:=zeroValue4,t5:=underlying5,a5:=Tryz.isAgg5,z5:=Tryz.sizeOf5,v5:=zeroValue5,t9:=underlying9,a9:=Tryz.isAgg9,z9:=Tryz.sizeOf9,v9:=zeroValue9,t46:=underlying185,a46:=Tryz.isAgg185,z46:=Tryz.sizeOf185,v46:=zeroValue185,t51:=underlying188,a51:=Tryz.isAgg188,z51:=Tryz.sizeOf188,v51:=zeroValue188,t146:=underlying261,a146:=Tryz.isAgg261,z146:=Tryz.sizeOf261,v146:=zeroValue261,g1:=by kernel_rfl,i3:=by kernel_rfl,i4:=by kernel_rfl,i5:=by kernel_rfl,i9:=by kernel_rfl,i46:=by kernel_rfl,i51:=by kernel_rfl,i146:=by kernel_rfl,m1:=by kernel_rfl,s1_3:=fun w h=>Go.Proofs.cell_of_shapedOpen_int (zero:=#[.int .i64 0]) (t:=3) h (of_decide_eq_true (by kernel_rfl)) (by kernel_rfl) rfl (by kernel_rfl) (by kernel_rfl) underlying3}
open Go.RowKit Go.Lib in
theorem Tryz.stringslite_Index_shaped(s sub:ByteArray)(w:World)(h:w.ShapedOpen prog)(hs:s.size<4294967281):
 Calls prog 170 #[.string s,.string sub] w fun e w'=>e=.returned (.int .i64 (Lib.index s.data.toList sub.data.toList))/\w'=w:=Any.stringslite_Index_shaped Tryz.laysM219 s sub w h hs
def Tryz.laysM143_ren:Go.Shelf.Ren:=⟨fun|143=>164|219=>170|217=>172|225=>173|224=>174|267=>175|266=>177|314=>178|n=>n,fun|9=>9|3=>3|4=>4|5=>5|46=>185|146=>261|51=>188|n=>n,fun|1=>2|n=>n⟩
theorem Tryz.laysM143:Go.Proofs.LaysM.n143 prog Tryz.laysM143_ren:={mixed:=by kernel_rfl,f143:=func164.trans (congrArg some (by kernel_rfl)),f217:=func172.trans (congrArg some (by kernel_rfl)),f219:=func170.trans (congrArg some (by kernel_rfl)),f224:=func174.trans (congrArg some (by kernel_rfl)),f225:=func173.trans (congrArg some (by kernel_rfl)),f266:=func177.trans (congrArg some (by kernel_rfl)),f267:=func175.trans (congrArg some (by kernel_rfl)),f314:=func178.trans (congrArg some (by kernel_rfl)),t3:=underlying3,a3:=Tryz.isAgg3,z3:=Tryz.sizeOf3,v3:=zeroValue3,t4:=underlying4,a4:=Tryz.isAgg4,z4:=Tryz.sizeOf4,v4:=zeroValue4,t5:=underlying5,a5:=Tryz.isAgg5,z5:=Tryz.sizeOf5,v5:=zeroValue5,t9:=underlying9,a9:=Tryz.isAgg9,z9:=Tryz.sizeOf9,v9:=zeroValue9,t46:=underlying185,a46:=Tryz.isAgg185,z46:=Tryz.sizeOf185,v46:=zeroValue185,t51:=underlying188,a51:=Tryz.isAgg188,z51:=Tryz.sizeOf188,v51:=zeroValue188,t146:=underlying261,a146:=Tryz.isAgg261,z146:=Tryz.sizeOf261,v146:=zeroValue261,g1:=by kernel_rfl,i3:=by kernel_rfl,i4:=by kernel_rfl,i5:=by kernel_rfl,i9:=by kernel_rfl,i46:=by kernel_rfl,i51:=by kernel_rfl,i146:=by kernel_rfl,m1:=by kernel_rfl,s1_3:=fun w h=>Go.Proofs.cell_of_shapedOpen_int (zero:=#[.int .i64 0]) (t:=3) h (of_decide_eq_true (by kernel_rfl)) (by kernel_rfl) rfl (by kernel_rfl) (by kernel_rfl) underlying3}
open Go.RowKit Go.Lib in
theorem Tryz.strings_Index_shaped(s sub:ByteArray)(w:World)(h:w.ShapedOpen prog)(hs:s.size<4294967281):
 Calls prog 164 #[.string s,.string sub] w fun e w'=>e=.returned (.int .i64 (Lib.index s.data.toList sub.data.toList))/\w'=w:=Any.strings_Index_shaped Tryz.laysM143 s sub w h hs
def Tryz.lays260_ren:Go.Shelf.Ren:=⟨fun|260=>169|n=>n,fun|9=>9|21=>21|3=>3|4=>4|5=>5|119=>256|0=>0|46=>185|139=>259|138=>258|n=>n,fun|3=>0|4=>1|n=>n⟩
theorem Tryz.lays260:Go.Proofs.Lays.n260 prog Tryz.lays260_ren:={mixed:=by kernel_rfl,f260:=func169.trans (congrArg some (by kernel_rfl)),t0:=underlying0,a0:=Tryz.isAgg0,z0:=Tryz.sizeOf0,v0:=zeroValue0,t3:=underlying3,a3:=Tryz.isAgg3,z3:=Tryz.sizeOf3,v3:=zeroValue3,t4:=underlying4,a4:=Tryz.isAgg4,z4:=Tryz.sizeOf4,v4:=zeroValue4,t5:=underlying5,a5:=Tryz.isAgg5,z5:=Tryz.sizeOf5,v5:=zeroValue5,t9:=underlying9,a9:=Tryz.isAgg9,z9:=Tryz.sizeOf9,v9:=zeroValue9,t21:=underlying21,a21:=Tryz.isAgg21,z21:=Tryz.sizeOf21,v21:=zeroValue21,t46:=underlying185,a46:=Tryz.isAgg185,z46:=Tryz.sizeOf185,v46:=zeroValue185,t119:=underlying256,a119:=Tryz.isAgg256,z119:=Tryz.sizeOf256,t138:=underlying258,a138:=Tryz.isAgg258,z138:=Tryz.sizeOf258,v138:=zeroValue258,t139:=underlying259,a139:=Tryz.isAgg259,z139:=Tryz.sizeOf259,v139:=zeroValue259,g3:=by kernel_rfl,g4:=by kernel_rfl}
open Go.RowKit Go.Lib in
theorem Tryz.utf8_decodeRuneInStringSlow(s:ByteArray)(w:World)(hT:Lib.Utf8Tabs 0 1 w):
 Calls prog 169 #[.string s] w fun e w'=>e=.returned (.tuple #[.int .i32 (Lib.decodeGo s).1,.int .i64 (Lib.decodeGo s).2])/\Below w.heap.size w w':=Any.utf8_decodeRuneInStringSlow Tryz.lays260 s w hT
end Go.Proofs
