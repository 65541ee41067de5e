/- I1: joined from LSP. -/
import Derived.Shelf.Small.Strs
import Derived.Shelf.Strings.Search1
import Derived.Shelf.Strings.Fields
import Derived.Test.YtckjkdhmljfeeaaGreatDoorProg
/- Contracts of the library, laid at this program (printed by the shelf; seat P). -/
namespace Go.Proofs.YtckjkdhmljfeeaaGreatDoor
open Go.Shelf
def lays137_ren : Go.Shelf.Ren := ⟨fun | 137 => 78 | 217 => 112 | 266 => 139 | n => n, fun | 9 => 9 | 5 => 5 | 3 => 3 | n => n, fun | n => n⟩
theorem lays137 : Go.Proofs.Lays.n137 Tryz.prog lays137_ren := {
  mixed := by kernel_rfl
  f137 := Tryz.func78.trans (congrArg some (by kernel_rfl))
  f217 := Tryz.func112.trans (congrArg some (by kernel_rfl))
  f266 := Tryz.func139.trans (congrArg some (by kernel_rfl))
  t3 := Tryz.underlying3
  a3 := Tryz.isAgg3
  z3 := Tryz.sizeOf3
  v3 := Tryz.zeroValue3
  t5 := Tryz.underlying5
  a5 := Tryz.isAgg5
  z5 := Tryz.sizeOf5
  v5 := Tryz.zeroValue5
  t9 := Tryz.underlying9
  a9 := Tryz.isAgg9
  z9 := Tryz.sizeOf9
  v9 := Tryz.zeroValue9 }
open Go.RowKit in
/-- strings.IndexByte: "IndexByte returns the index of the first instance of c in s, or -1 if c is not present in s.": IT RETURNS 'Lib.indexByte s c'; the world is as it was. (LAID: no walk: one application.) -/
theorem sh_strings_IndexByte (s : ByteArray) (c : Int) (w : World) :
    Calls Tryz.prog 78 #[.string s, .int .u8 c] w fun e w' => e = .returned (.int .i64 (Lib.indexByte s.data.toList c.toNat.toUInt8)) ∧ w' = w := Any.strings_IndexByte lays137 s c w
def lays157_ren : Go.Shelf.Ren := ⟨fun | 157 => 110 | 229 => 137 | 199 => 138 | 261 => 178 | 311 => 201 | 312 => 202 | n => n, fun | 9 => 9 | 31 => 99 | 3 => 3 | 5 => 5 | 4 => 4 | 119 => 160 | 0 => 0 | 40 => 162 | 152 => 184 | 21 => 21 | 154 => 186 | 51 => 176 | 141 => 188 | 196 => 207 | 193 => 204 | 198 => 210 | 49 => 208 | 194 => 205 | 201 => 213 | 226 => 222 | 46 => 138 | 227 => 223 | n => n, fun | 0 => 0 | 6 => 1 | n => n⟩
theorem lays157 : Go.Proofs.Lays.n157 Tryz.prog lays157_ren := {
  mixed := by kernel_rfl
  f157 := Tryz.func110.trans (congrArg some (by kernel_rfl))
  f199 := Tryz.func138.trans (congrArg some (by kernel_rfl))
  f229 := Tryz.func137.trans (congrArg some (by kernel_rfl))
  f261 := Tryz.func178.trans (congrArg some (by kernel_rfl))
  f311 := Tryz.func201.trans (congrArg some (by kernel_rfl))
  f312 := Tryz.func202.trans (congrArg some (by kernel_rfl))
  t0 := Tryz.underlying0
  a0 := Tryz.isAgg0
  z0 := Tryz.sizeOf0
  v0 := Tryz.zeroValue0
  t3 := Tryz.underlying3
  a3 := Tryz.isAgg3
  z3 := Tryz.sizeOf3
  v3 := Tryz.zeroValue3
  t4 := Tryz.underlying4
  a4 := Tryz.isAgg4
  z4 := Tryz.sizeOf4
  v4 := Tryz.zeroValue4
  t5 := Tryz.underlying5
  a5 := Tryz.isAgg5
  z5 := Tryz.sizeOf5
  v5 := Tryz.zeroValue5
  t9 := Tryz.underlying9
  a9 := Tryz.isAgg9
  z9 := Tryz.sizeOf9
  v9 := Tryz.zeroValue9
  t21 := Tryz.underlying21
  a21 := Tryz.isAgg21
  z21 := Tryz.sizeOf21
  v21 := Tryz.zeroValue21
  t31 := Tryz.underlying99
  a31 := Tryz.isAgg99
  z31 := Tryz.sizeOf99
  v31 := Tryz.zeroValue99
  t40 := Tryz.underlying162
  a40 := Tryz.isAgg162
  z40 := Tryz.sizeOf162
  v40 := Tryz.zeroValue162
  t46 := Tryz.underlying138
  a46 := Tryz.isAgg138
  z46 := Tryz.sizeOf138
  v46 := Tryz.zeroValue138
  t49 := Tryz.underlying208
  a49 := Tryz.isAgg208
  z49 := Tryz.sizeOf208
  v49 := Tryz.zeroValue208
  t51 := Tryz.underlying176
  a51 := Tryz.isAgg176
  z51 := Tryz.sizeOf176
  v51 := Tryz.zeroValue176
  t119 := Tryz.underlying160
  a119 := Tryz.isAgg160
  z119 := Tryz.sizeOf160
  t141 := Tryz.underlying188
  a141 := Tryz.isAgg188
  z141 := Tryz.sizeOf188
  v141 := Tryz.zeroValue188
  t152 := Tryz.underlying184
  a152 := Tryz.isAgg184
  z152 := Tryz.sizeOf184
  v152 := Tryz.zeroValue184
  t154 := Tryz.underlying186
  a154 := Tryz.isAgg186
  z154 := Tryz.sizeOf186
  v154 := Tryz.zeroValue186
  t193 := Tryz.underlying204
  a193 := Tryz.isAgg204
  z193 := Tryz.sizeOf204
  v193 := Tryz.zeroValue204
  t194 := Tryz.underlying205
  a194 := Tryz.isAgg205
  z194 := Tryz.sizeOf205
  v194 := Tryz.zeroValue205
  t196 := Tryz.underlying207
  a196 := Tryz.isAgg207
  z196 := Tryz.sizeOf207
  v196 := Tryz.zeroValue207
  t198 := Tryz.underlying210
  a198 := Tryz.isAgg210
  z198 := Tryz.sizeOf210
  v198 := Tryz.zeroValue210
  t201 := Tryz.underlying213
  a201 := Tryz.isAgg213
  z201 := Tryz.sizeOf213
  v201 := Tryz.zeroValue213
  t226 := Tryz.underlying222
  a226 := Tryz.isAgg222
  z226 := Tryz.sizeOf222
  v226 := Tryz.zeroValue222
  t227 := Tryz.underlying223
  a227 := Tryz.isAgg223
  z227 := Tryz.sizeOf223
  v227 := Tryz.zeroValue223
  g0 := by kernel_rfl
  g6 := by kernel_rfl }
end Go.Proofs.YtckjkdhmljfeeaaGreatDoor
