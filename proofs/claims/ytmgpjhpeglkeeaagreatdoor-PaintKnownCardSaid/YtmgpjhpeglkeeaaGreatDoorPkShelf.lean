/- strings.Repeat, at this program's numbers. No condition. -/
import Derived.Shelf.Strings.Repeat
import Derived.Shelf.Strings.BuilderCap
import Derived.Shelf.Strings.Builder2Cap
import Derived.Test.YtmgpjhpeglkeeaaGreatDoorProg
namespace Go.Proofs
open Go.Shelf
def Tryz.lays105_ren : Go.Shelf.Ren := ⟨fun | 105 => 89 | 212 => 145 | 99 => 146 | 165 => 147 | 166 => 148 | 170 => 149 | 169 => 150 | 263 => 195 | 264 => 112 | 206 => 196 | 240 => 197 | 241 => 198 | 276 => 237 | 277 => 238 | n => n, fun | 9 => 9 | 3 => 3 | 4 => 4 | 20 => 20 | 0 => 0 | 46 => 216 | 109 => 249 | 5 => 5 | 72 => 254 | 76 => 258 | 51 => 217 | 146 => 296 | 53 => 202 | 148 => 203 | 70 => 252 | 37 => 24 | 75 => 257 | 127 => 298 | 164 => 335 | 80 => 260 | n => n, fun | n => n⟩
theorem Tryz.lays105 : Go.Proofs.Lays.n105 Tryz.prog Tryz.lays105_ren := {
  mixed := by kernel_rfl
  f99 := Tryz.func146.trans (congrArg some (by kernel_rfl))
  f105 := Tryz.func89.trans (congrArg some (by kernel_rfl))
  f165 := Tryz.func147.trans (congrArg some (by kernel_rfl))
  f166 := Tryz.func148.trans (congrArg some (by kernel_rfl))
  f169 := Tryz.func150.trans (congrArg some (by kernel_rfl))
  f170 := Tryz.func149.trans (congrArg some (by kernel_rfl))
  f206 := Tryz.func196.trans (congrArg some (by kernel_rfl))
  f212 := Tryz.func145.trans (congrArg some (by kernel_rfl))
  f240 := Tryz.func197.trans (congrArg some (by kernel_rfl))
  f241 := Tryz.func198.trans (congrArg some (by kernel_rfl))
  f263 := Tryz.func195.trans (congrArg some (by kernel_rfl))
  f264 := Tryz.func112.trans (congrArg some (by kernel_rfl))
  f276 := Tryz.func237.trans (congrArg some (by kernel_rfl))
  f277 := Tryz.func238.trans (congrArg some (by kernel_rfl))
  t0 := Tryz.underlying0
  a0 := Tryz.isAgg0
  z0 := Tryz.sizeOf0
  v0 := Tryz.zeroValue0
  t3 := Tryz.underlying3
  a3 := Tryz.isAgg3
  z3 := Tryz.sizeOf3
  v3 := Tryz.zeroValue3
  t4 := Tryz.underlying4
  a4 := Tryz.isAgg4
  z4 := Tryz.sizeOf4
  v4 := Tryz.zeroValue4
  t5 := Tryz.underlying5
  a5 := Tryz.isAgg5
  z5 := Tryz.sizeOf5
  v5 := Tryz.zeroValue5
  t9 := Tryz.underlying9
  a9 := Tryz.isAgg9
  z9 := Tryz.sizeOf9
  v9 := Tryz.zeroValue9
  t20 := Tryz.underlying20
  a20 := Tryz.isAgg20
  z20 := Tryz.sizeOf20
  v20 := Tryz.zeroValue20
  t37 := Tryz.underlying24
  a37 := Tryz.isAgg24
  z37 := Tryz.sizeOf24
  v37 := Tryz.zeroValue24
  t46 := Tryz.underlying216
  a46 := Tryz.isAgg216
  z46 := Tryz.sizeOf216
  v46 := Tryz.zeroValue216
  t51 := Tryz.underlying217
  a51 := Tryz.isAgg217
  z51 := Tryz.sizeOf217
  v51 := Tryz.zeroValue217
  t53 := Tryz.underlying202
  a53 := Tryz.isAgg202
  z53 := Tryz.sizeOf202
  v53 := Tryz.zeroValue202
  t70 := Tryz.underlying252
  a70 := Tryz.isAgg252
  z70 := Tryz.sizeOf252
  v70 := Tryz.zeroValue252
  t72 := Tryz.underlying254
  a72 := Tryz.isAgg254
  z72 := Tryz.sizeOf254
  v72 := Tryz.zeroValue254
  t75 := Tryz.underlying257
  a75 := Tryz.isAgg257
  z75 := Tryz.sizeOf257
  v75 := Tryz.zeroValue257
  t76 := Tryz.underlying258
  a76 := Tryz.isAgg258
  z76 := Tryz.sizeOf258
  v76 := Tryz.zeroValue258
  t109 := Tryz.underlying249
  a109 := Tryz.isAgg249
  z109 := Tryz.sizeOf249
  v109 := Tryz.zeroValue249
  t127 := Tryz.underlying298
  a127 := Tryz.isAgg298
  z127 := Tryz.sizeOf298
  v127 := Tryz.zeroValue298
  t146 := Tryz.underlying296
  a146 := Tryz.isAgg296
  z146 := Tryz.sizeOf296
  v146 := Tryz.zeroValue296
  t148 := Tryz.underlying203
  a148 := Tryz.isAgg203
  z148 := Tryz.sizeOf203
  v148 := Tryz.zeroValue203
  t164 := Tryz.underlying335
  a164 := Tryz.isAgg335
  z164 := Tryz.sizeOf335
  v164 := Tryz.zeroValue335 }
theorem Tryz.Builder_Extra_105 : Builder.Extra Tryz.prog Tryz.lays105_ren := {
  sizeBuilder := by kernel_rfl
  liesBuilder := by kernel_rfl
  t5 := Tryz.underlying5
  a5 := Tryz.isAgg5
  z5 := Tryz.sizeOf5
  v5 := Tryz.zeroValue5
  infoByte := by kernel_rfl
  cellsByte := by kernel_rfl
  sizeByte := by kernel_rfl
  neB5 := by decide }
open Go.RowKit Go.Lib in
theorem Tryz.strings_Repeat (s : ByteArray) (c : Nat) (w : World) (hc : c ≤ 9223372036854775807) (hlen : s.size * c ≤ 140737488355328) :
    Calls Tryz.prog 89 #[.string s, .int .i64 c] w fun e w' => e = .returned (.string ⟨(Lib.repeatL s.data.toList c).toArray⟩) ∧ Below w.heap.size w w' := Any.strings_Repeat Tryz.lays105 Tryz.Builder_Extra_105 s c w hc hlen
end Go.Proofs
