import Derived.Shelf.Small.Strs
import Derived.Shelf.Strconv.Itoa0
import Derived.Shelf.Strconv.Itoa1
import Derived.Shelf.LaysM
import Derived.Shelf.Strconv.Itoa2
import Derived.Shelf.Strings.Search1
import Derived.Shelf.Strings.Search2
import Derived.Shelf.Strings.Search3
import Derived.Shelf.Strings.Shaped
import Derived.Shelf.Strconv.AppendUint10
import Derived.Shelf.Strconv.AppendInt10
import Derived.Shelf.Strconv.AppendIntPublic10
import Derived.Shelf.Strings.Prefix
import Derived.Shelf.Slices.Turned
import Derived.Test.YtbdfdjdgfanjaaaDoorProg
set_option linter.all false
set_option synthInstance.maxHeartbeats 1000000
set_option synthInstance.maxSize 1000000
namespace Go.Proofs
open Go.Shelf
def Tryd.lays137_ren:Go.Shelf.Ren:=⟨fun|137=>63|217=>75|266=>82|n=>n,fun|9=>9|5=>5|3=>3|n=>n,fun|n=>n⟩
theorem Tryd.lays137:Go.Proofs.Lays.n137 Tryd.prog Tryd.lays137_ren:={
 mixed:=by kernel_rfl
 f137:=Tryd.func63.trans (congrArg some (by kernel_rfl))
 f217:=Tryd.func75.trans (congrArg some (by kernel_rfl))
 f266:=Tryd.func82.trans (congrArg some (by kernel_rfl))
 t3:=Tryd.underlying3
 a3:=Tryd.isAgg3
 z3:=Tryd.sizeOf3
 v3:=Tryd.zeroValue3
 t5:=Tryd.underlying5
 a5:=Tryd.isAgg5
 z5:=Tryd.sizeOf5
 v5:=Tryd.zeroValue5
 t9:=Tryd.underlying9
 a9:=Tryd.isAgg9
 z9:=Tryd.sizeOf9
 v9:=Tryd.zeroValue9}
open Go.RowKit in
theorem Tryd.strings_IndexByte(s:ByteArray)(c:Int)(w:World):
  Calls Tryd.prog 63 #[.string s,.int .u8 c] w fun e w'=>e=.returned (.int .i64 (Lib.indexByte s.data.toList c.toNat.toUInt8))/\w'=w:=Any.strings_IndexByte Tryd.lays137 s c w
def Tryd.lays283_ren:Go.Shelf.Ren:=⟨fun|283=>57|n=>n,fun|3=>3|9=>9|4=>4|n=>n,fun|n=>n⟩
theorem Tryd.lays283:Go.Proofs.Lays.n283 Tryd.prog Tryd.lays283_ren:={
 mixed:=by kernel_rfl
 f283:=Tryd.func57.trans (congrArg some (by kernel_rfl))
 t3:=Tryd.underlying3
 a3:=Tryd.isAgg3
 z3:=Tryd.sizeOf3
 v3:=Tryd.zeroValue3
 t4:=Tryd.underlying4
 a4:=Tryd.isAgg4
 z4:=Tryd.sizeOf4
 v4:=Tryd.zeroValue4
 t9:=Tryd.underlying9
 a9:=Tryd.isAgg9
 z9:=Tryd.sizeOf9
 v9:=Tryd.zeroValue9}
open Go.Lib in
theorem Tryd.internal_strconv_small(i:Nat)(h:i<100)(w:World):
  Calls Tryd.prog 57 #[.int .i64 i] w fun e w'=>e=.returned (.string ⟨(Lib.decDigits i).toArray⟩)/\w'=w:=Any.internal_strconv_small Tryd.lays283 i h w
def Tryd.laysM284_ren:Go.Shelf.Ren:=⟨fun|284=>58|129=>70|317=>69|318=>71|n=>n,fun|53=>73|3=>3|212=>88|0=>0|4=>4|46=>92|5=>5|9=>9|n=>n,fun|17=>1|n=>n⟩
theorem Tryd.laysM284:Go.Proofs.LaysM.n284 Tryd.prog Tryd.laysM284_ren:={
 mixed:=by kernel_rfl
 f129:=Tryd.func70.trans (congrArg some (by kernel_rfl))
 f284:=Tryd.func58.trans (congrArg some (by kernel_rfl))
 f317:=Tryd.func69.trans (congrArg some (by kernel_rfl))
 f318:=Tryd.func71.trans (congrArg some (by kernel_rfl))
 t0:=Tryd.underlying0
 a0:=Tryd.isAgg0
 z0:=Tryd.sizeOf0
 v0:=Tryd.zeroValue0
 t3:=Tryd.underlying3
 a3:=Tryd.isAgg3
 z3:=Tryd.sizeOf3
 v3:=Tryd.zeroValue3
 t4:=Tryd.underlying4
 a4:=Tryd.isAgg4
 z4:=Tryd.sizeOf4
 v4:=Tryd.zeroValue4
 t5:=Tryd.underlying5
 a5:=Tryd.isAgg5
 z5:=Tryd.sizeOf5
 v5:=Tryd.zeroValue5
 t9:=Tryd.underlying9
 a9:=Tryd.isAgg9
 z9:=Tryd.sizeOf9
 v9:=Tryd.zeroValue9
 t46:=Tryd.underlying92
 a46:=Tryd.isAgg92
 z46:=Tryd.sizeOf92
 v46:=Tryd.zeroValue92
 t53:=Tryd.underlying73
 a53:=Tryd.isAgg73
 z53:=Tryd.sizeOf73
 v53:=Tryd.zeroValue73
 t212:=Tryd.underlying88
 a212:=Tryd.isAgg88
 z212:=Tryd.sizeOf88
 v212:=Tryd.zeroValue88
 g17:=by kernel_rfl
 i0:=by kernel_rfl
 i3:=by kernel_rfl
 i4:=by kernel_rfl
 i5:=by kernel_rfl
 i9:=by kernel_rfl
 i46:=by kernel_rfl
 i53:=by kernel_rfl
 i212:=by kernel_rfl
 m17:=by kernel_rfl}
open Go.Lib in
theorem Tryd.internal_strconv_numDigits (u : Nat) (h1 : 1 ≤ u) (h2 : u < 18446744073709551616) (w : World) (htab : Lib.TabIs Tryd.prog w "internal/strconv.uint64pow10" .u64 Lib.pow10Tab) :
  Calls Tryd.prog 58 #[.int .u64 u] w fun e w'=>e=.returned (.int .i64 (Lib.nDigits u))/\w'=w:=Any.internal_strconv_numDigits Tryd.laysM284 u h1 h2 w htab
def Tryd.lays285_ren:Go.Shelf.Ren:=⟨fun|285=>59|n=>n,fun|37=>46|53=>73|3=>3|4=>4|51=>89|9=>9|5=>5|0=>0|n=>n,fun|n=>n⟩
theorem Tryd.lays285:Go.Proofs.Lays.n285 Tryd.prog Tryd.lays285_ren:={
 mixed:=by kernel_rfl
 f285:=Tryd.func59.trans (congrArg some (by kernel_rfl))
 t0:=Tryd.underlying0
 a0:=Tryd.isAgg0
 z0:=Tryd.sizeOf0
 v0:=Tryd.zeroValue0
 t3:=Tryd.underlying3
 a3:=Tryd.isAgg3
 z3:=Tryd.sizeOf3
 v3:=Tryd.zeroValue3
 t4:=Tryd.underlying4
 a4:=Tryd.isAgg4
 z4:=Tryd.sizeOf4
 v4:=Tryd.zeroValue4
 t5:=Tryd.underlying5
 a5:=Tryd.isAgg5
 z5:=Tryd.sizeOf5
 v5:=Tryd.zeroValue5
 t9:=Tryd.underlying9
 a9:=Tryd.isAgg9
 z9:=Tryd.sizeOf9
 v9:=Tryd.zeroValue9
 t37:=Tryd.underlying46
 a37:=Tryd.isAgg46
 z37:=Tryd.sizeOf46
 v37:=Tryd.zeroValue46
 t51:=Tryd.underlying89
 a51:=Tryd.isAgg89
 z51:=Tryd.sizeOf89
 v51:=Tryd.zeroValue89
 t53:=Tryd.underlying73
 a53:=Tryd.isAgg73
 z53:=Tryd.sizeOf73
 v53:=Tryd.zeroValue73}
open Go.RowKit Go.Sort Go.Lib in
theorem Tryd.internal_strconv_formatBase10(blk off cap:Nat)(u:Nat)(d:Array UInt8)(w:World)(hH:Holds (fun (b:UInt8)=>Value.int .u8 (b.toNat:Int)) w blk off d)(hu:u<10 ^ d.size)(hu64:u<18446744073709551616)(hsz:d.size<4611686018427387904):
  Calls Tryd.prog 59 #[.slice (some ⟨blk,off,none⟩) d.size cap,.int .u64 u] w fun e w'=>
   e=.returned (.tuple #[])/\∃(n v':Nat) (dk:Array UInt8),w'=(putRow (fun (b:UInt8)=>Value.int .u8 (b.toNat:Int)) w blk off dk).drewN n/\FmtInv d.size u 0 v' dk:=Any.internal_strconv_formatBase10 Tryd.lays285 blk off cap u d w hH hu hu64 hsz
def Tryd.lays144_ren:Go.Shelf.Ren:=⟨fun|144=>79|143=>84|219=>86|217=>75|225=>87|224=>88|267=>89|266=>82|314=>90|n=>n,fun|9=>9|4=>4|3=>3|5=>5|46=>92|146=>101|51=>89|n=>n,fun|1=>5|n=>n⟩
theorem Tryd.lays144:Go.Proofs.Lays.n144 Tryd.prog Tryd.lays144_ren:={
 mixed:=by kernel_rfl
 f143:=Tryd.func84.trans (congrArg some (by kernel_rfl))
 f144:=Tryd.func79.trans (congrArg some (by kernel_rfl))
 f217:=Tryd.func75.trans (congrArg some (by kernel_rfl))
 f219:=Tryd.func86.trans (congrArg some (by kernel_rfl))
 f224:=Tryd.func88.trans (congrArg some (by kernel_rfl))
 f225:=Tryd.func87.trans (congrArg some (by kernel_rfl))
 f266:=Tryd.func82.trans (congrArg some (by kernel_rfl))
 f267:=Tryd.func89.trans (congrArg some (by kernel_rfl))
 f314:=Tryd.func90.trans (congrArg some (by kernel_rfl))
 t3:=Tryd.underlying3
 a3:=Tryd.isAgg3
 z3:=Tryd.sizeOf3
 v3:=Tryd.zeroValue3
 t4:=Tryd.underlying4
 a4:=Tryd.isAgg4
 z4:=Tryd.sizeOf4
 v4:=Tryd.zeroValue4
 t5:=Tryd.underlying5
 a5:=Tryd.isAgg5
 z5:=Tryd.sizeOf5
 v5:=Tryd.zeroValue5
 t9:=Tryd.underlying9
 a9:=Tryd.isAgg9
 z9:=Tryd.sizeOf9
 v9:=Tryd.zeroValue9
 t46:=Tryd.underlying92
 a46:=Tryd.isAgg92
 z46:=Tryd.sizeOf92
 v46:=Tryd.zeroValue92
 t51:=Tryd.underlying89
 a51:=Tryd.isAgg89
 z51:=Tryd.sizeOf89
 v51:=Tryd.zeroValue89
 t146:=Tryd.underlying101
 a146:=Tryd.isAgg101
 z146:=Tryd.sizeOf101
 v146:=Tryd.zeroValue101
 g1:=by kernel_rfl}
open Go.RowKit Go.Lib in
theorem Tryd.strings_Contains(s sub:ByteArray)(m:Int)(w:World)(hs:s.size<4294967281)(hm:w.cell? ⟨5,0,none⟩=some (.int .i64 m)):
  Calls Tryd.prog 79 #[.string s,.string sub] w fun e w'=>e=.returned (.bool (Lib.contains s.data.toList sub.data.toList))/\w'=w:=Any.strings_Contains Tryd.lays144 s sub m w hs hm
def Tryd.lays99_ren:Go.Shelf.Ren:=⟨fun|99=>62|206=>74|n=>n,fun|9=>9|4=>4|3=>3|n=>n,fun|n=>n⟩
theorem Tryd.lays99:Go.Proofs.Lays.n99 Tryd.prog Tryd.lays99_ren:={
 mixed:=by kernel_rfl
 f99:=Tryd.func62.trans (congrArg some (by kernel_rfl))
 f206:=Tryd.func74.trans (congrArg some (by kernel_rfl))
 t3:=Tryd.underlying3
 a3:=Tryd.isAgg3
 z3:=Tryd.sizeOf3
 v3:=Tryd.zeroValue3
 t4:=Tryd.underlying4
 a4:=Tryd.isAgg4
 z4:=Tryd.sizeOf4
 v4:=Tryd.zeroValue4
 t9:=Tryd.underlying9
 a9:=Tryd.isAgg9
 z9:=Tryd.sizeOf9
 v9:=Tryd.zeroValue9}
open Go.RowKit Go.Lib in
theorem Tryd.strings_HasPrefix(s p:ByteArray)(w:World):
  Calls Tryd.prog 62 #[.string s,.string p] w fun e w'=>e=.returned (.bool (Lib.hasPrefix s.data.toList p.data.toList))/\w'=w:=Any.strings_HasPrefix Tryd.lays99 s p w
def Tryd.lays110_ren:Go.Shelf.Ren:=⟨fun|110=>83|109=>85|n=>n,fun|31=>44|9=>9|4=>4|3=>3|0=>0|n=>n,fun|n=>n⟩
theorem Tryd.lays110:Go.Proofs.Lays.n110 Tryd.prog Tryd.lays110_ren:={
 mixed:=by kernel_rfl
 f109:=Tryd.func85.trans (congrArg some (by kernel_rfl))
 f110:=Tryd.func83.trans (congrArg some (by kernel_rfl))
 t0:=Tryd.underlying0
 a0:=Tryd.isAgg0
 z0:=Tryd.sizeOf0
 v0:=Tryd.zeroValue0
 t3:=Tryd.underlying3
 a3:=Tryd.isAgg3
 z3:=Tryd.sizeOf3
 v3:=Tryd.zeroValue3
 t4:=Tryd.underlying4
 a4:=Tryd.isAgg4
 z4:=Tryd.sizeOf4
 v4:=Tryd.zeroValue4
 t9:=Tryd.underlying9
 a9:=Tryd.isAgg9
 z9:=Tryd.sizeOf9
 v9:=Tryd.zeroValue9
 t31:=Tryd.underlying44
 a31:=Tryd.isAgg44
 z31:=Tryd.sizeOf44
 v31:=Tryd.zeroValue44}
open Go.Lib in
theorem Tryd.slices_Contains_string(b off n c:Nat)(zs:List ByteArray)(x:ByteArray)(w:World)(hz:n<=zs.length)(hbig:n<=9223372036854775807)(hc:∀j,j<zs.length->w.cell? ⟨b,off+j,none⟩=some (.string (zs.getD j ByteArray.empty))):
  Calls Tryd.prog 83 #[.slice (some ⟨b,off,none⟩) n c,.string x] w fun e w'=>e=.returned (.bool (Lib.containsS (zs.take n) x))/\w'=w:=Any.slices_Contains_string Tryd.lays110 b off n c zs x w hz hbig hc
end Go.Proofs
