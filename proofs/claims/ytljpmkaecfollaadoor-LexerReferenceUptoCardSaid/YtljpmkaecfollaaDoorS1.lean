/- S1: joined from LS. -/
import Derived.Shelf.Small.Strs
import Derived.Shelf.Strings.Search1
import Derived.Shelf.Strings.Fields
import Derived.Test.YtljpmkaecfollaaDoorProg
/- Contracts of the library, laid at this program (printed by the shelf). -/
namespace Go.Proofs.YtljpmkaecfollaaDoor
open Go.Shelf
def lays137_ren : Go.Shelf.Ren := ⟨fun | 137 => 25 | 217 => 36 | 266 => 39 | n => n, fun | 9 => 9 | 5 => 5 | 3 => 3 | n => n, fun | n => n⟩
theorem lays137 : Go.Proofs.Lays.n137 Tryd.prog lays137_ren := {
  mixed := by kernel_rfl
  f137 := Tryd.func25.trans (congrArg some (by kernel_rfl))
  f217 := Tryd.func36.trans (congrArg some (by kernel_rfl))
  f266 := Tryd.func39.trans (congrArg some (by kernel_rfl))
  t3 := Tryd.underlying3
  a3 := Tryd.isAgg3
  z3 := Tryd.sizeOf3
  v3 := Tryd.zeroValue3
  t5 := Tryd.underlying5
  a5 := Tryd.isAgg5
  z5 := Tryd.sizeOf5
  v5 := Tryd.zeroValue5
  t9 := Tryd.underlying9
  a9 := Tryd.isAgg9
  z9 := Tryd.sizeOf9
  v9 := Tryd.zeroValue9 }
open Go.RowKit in
theorem sh_strings_IndexByte (s : ByteArray) (c : Int) (w : World) :
    Calls Tryd.prog 25 #[.string s, .int .u8 c] w fun e w' => e = .returned (.int .i64 (Lib.indexByte s.data.toList c.toNat.toUInt8)) ∧ w' = w := Any.strings_IndexByte lays137 s c w
def lays157_ren : Go.Shelf.Ren := ⟨fun | 157 => 14 | 229 => 31 | 199 => 32 | 261 => 38 | 311 => 40 | 312 => 41 | n => n, fun | 9 => 9 | 31 => 33 | 3 => 3 | 5 => 5 | 4 => 4 | 119 => 47 | 0 => 0 | 40 => 49 | 152 => 51 | 21 => 21 | 154 => 53 | 51 => 54 | 141 => 56 | 196 => 60 | 193 => 57 | 198 => 63 | 49 => 61 | 194 => 58 | 201 => 66 | 226 => 68 | 46 => 69 | 227 => 70 | n => n, fun | 0 => 0 | 6 => 1 | n => n⟩
theorem lays157 : Go.Proofs.Lays.n157 Tryd.prog lays157_ren := {
  mixed := by kernel_rfl
  f157 := Tryd.func14.trans (congrArg some (by kernel_rfl))
  f199 := Tryd.func32.trans (congrArg some (by kernel_rfl))
  f229 := Tryd.func31.trans (congrArg some (by kernel_rfl))
  f261 := Tryd.func38.trans (congrArg some (by kernel_rfl))
  f311 := Tryd.func40.trans (congrArg some (by kernel_rfl))
  f312 := Tryd.func41.trans (congrArg some (by kernel_rfl))
  t0 := Tryd.underlying0
  a0 := Tryd.isAgg0
  z0 := Tryd.sizeOf0
  v0 := Tryd.zeroValue0
  t3 := Tryd.underlying3
  a3 := Tryd.isAgg3
  z3 := Tryd.sizeOf3
  v3 := Tryd.zeroValue3
  t4 := Tryd.underlying4
  a4 := Tryd.isAgg4
  z4 := Tryd.sizeOf4
  v4 := Tryd.zeroValue4
  t5 := Tryd.underlying5
  a5 := Tryd.isAgg5
  z5 := Tryd.sizeOf5
  v5 := Tryd.zeroValue5
  t9 := Tryd.underlying9
  a9 := Tryd.isAgg9
  z9 := Tryd.sizeOf9
  v9 := Tryd.zeroValue9
  t21 := Tryd.underlying21
  a21 := Tryd.isAgg21
  z21 := Tryd.sizeOf21
  v21 := Tryd.zeroValue21
  t31 := Tryd.underlying33
  a31 := Tryd.isAgg33
  z31 := Tryd.sizeOf33
  v31 := Tryd.zeroValue33
  t40 := Tryd.underlying49
  a40 := Tryd.isAgg49
  z40 := Tryd.sizeOf49
  v40 := Tryd.zeroValue49
  t46 := Tryd.underlying69
  a46 := Tryd.isAgg69
  z46 := Tryd.sizeOf69
  v46 := Tryd.zeroValue69
  t49 := Tryd.underlying61
  a49 := Tryd.isAgg61
  z49 := Tryd.sizeOf61
  v49 := Tryd.zeroValue61
  t51 := Tryd.underlying54
  a51 := Tryd.isAgg54
  z51 := Tryd.sizeOf54
  v51 := Tryd.zeroValue54
  t119 := Tryd.underlying47
  a119 := Tryd.isAgg47
  z119 := Tryd.sizeOf47
  t141 := Tryd.underlying56
  a141 := Tryd.isAgg56
  z141 := Tryd.sizeOf56
  v141 := Tryd.zeroValue56
  t152 := Tryd.underlying51
  a152 := Tryd.isAgg51
  z152 := Tryd.sizeOf51
  v152 := Tryd.zeroValue51
  t154 := Tryd.underlying53
  a154 := Tryd.isAgg53
  z154 := Tryd.sizeOf53
  v154 := Tryd.zeroValue53
  t193 := Tryd.underlying57
  a193 := Tryd.isAgg57
  z193 := Tryd.sizeOf57
  v193 := Tryd.zeroValue57
  t194 := Tryd.underlying58
  a194 := Tryd.isAgg58
  z194 := Tryd.sizeOf58
  v194 := Tryd.zeroValue58
  t196 := Tryd.underlying60
  a196 := Tryd.isAgg60
  z196 := Tryd.sizeOf60
  v196 := Tryd.zeroValue60
  t198 := Tryd.underlying63
  a198 := Tryd.isAgg63
  z198 := Tryd.sizeOf63
  v198 := Tryd.zeroValue63
  t201 := Tryd.underlying66
  a201 := Tryd.isAgg66
  z201 := Tryd.sizeOf66
  v201 := Tryd.zeroValue66
  t226 := Tryd.underlying68
  a226 := Tryd.isAgg68
  z226 := Tryd.sizeOf68
  v226 := Tryd.zeroValue68
  t227 := Tryd.underlying70
  a227 := Tryd.isAgg70
  z227 := Tryd.sizeOf70
  v227 := Tryd.zeroValue70
  g0 := by kernel_rfl
  g6 := by kernel_rfl }
end Go.Proofs.YtljpmkaecfollaaDoor
