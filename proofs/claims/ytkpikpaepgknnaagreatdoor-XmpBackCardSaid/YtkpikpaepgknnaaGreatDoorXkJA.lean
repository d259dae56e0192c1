/- Walks and laws, joined: part A. No condition. -/
import Derived.Shelf.SlLaysV
import Derived.Shelf.Bytes.SlTrim
import Derived.Shelf.Strings.SlTrimAscii
import Derived.Shelf.Strings.Builder1
import Derived.Shelf.Strings.Builder2
import Derived.Shelf.Strings.Trim
import Derived.Shelf.Small.Utf8
import Derived.Shelf.Small.Strs
import Derived.Shelf.Strings.BuilderF
import Derived.Shelf.Strings.BuilderK
import Derived.Shelf.Strings.Search1
import Derived.Shelf.Strings.Prefix
import Derived.Shelf.Unicode.Decode
import Derived.Shelf.Strings.Runes
import Derived.Shelf.Strings.AsciiSet
import Derived.Shelf.Bits.Mul64
import Derived.Shelf.Strings.Repeat
import Derived.Shelf.Unicode.DecodeSlow
import Derived.Shelf.Unicode.DecodeAny
import Derived.Shelf.Unicode.DecodeLast
import Derived.Shelf.Bytes.SlIndexSmall
import Derived.Shelf.Bytes.SlIndexAt
import Derived.Shelf.Bytes.SlSearch0
import Derived.Shelf.Bytes.SlSearch1
import Derived.Shelf.Bytes.SlSearch2
import Derived.Shelf.Bytes.SlIndexWhole
import Derived.Shelf.LaysM
import Derived.Shelf.Bytes.SlClone
import Derived.Shelf.Bytes.SlSmallAll
import Derived.Shelf.Bytes.SlEqualAll
import Derived.Shelf.Bytes.Small
import Derived.Shelf.Bytes.IndexByte
import Derived.Test.YtkpikpaepgknnaaGreatDoorProg
import Derived.Calls
import Derived.ChangeArms
import Derived.Great.BuildSlice
import Derived.Laws.AppendOwn
import Derived.Laws.BytesArg
import Derived.Laws.Externs
import Derived.Laws.IdiomCopy
import Derived.Laws.IdiomStrings
import Derived.Laws.MakeOwn
import Derived.Laws.Runes
import Derived.Laws.Tables
import Derived.Lib.Builder
import Derived.Lib.BytesEntry
import Derived.Lib.IndexEntry
import Derived.Lib.MakeNoZero
import Derived.Lib.ReflectliteSlice
import Derived.Lib.UnsafeStr
import Derived.LoopN
import Derived.LoopNIn
import Derived.Orders
import Derived.OrdersIn
import Derived.RangeFuncIn
import Derived.RangeFuncRecord
import Derived.WalkKit
import Derived.WalkLawsBesides
import Derived.ChangeSame
import Derived.HandedShaped
import Derived.Lay
import Derived.MakeChecks
import Derived.Stop.Joined
import Derived.Carry
import Derived.ChangeCalls
import Derived.OpenShut
import Derived.Below
import Derived.KernelRfl
import Derived.Deep.DeepHandedRow
import Derived.LaidLaws
import Derived.ChangeSlices
import Derived.OwnWalk
import Derived.Laws.OwnMore
import Derived.Deep.Draws
import Derived.Laws.Rows
import Derived.Test.YtkpikpaepgknnaaGreatDoorRows
import Derived.ProofKit
import Derived.Lib.Hide
import Derived.IntWalk
import Derived.Lib.Walk
import Derived.Lib.ItoaMem
import Derived.Lib.ItoaLen
import Derived.BigCall
import Derived.BigGuard
import Derived.Deep.QuietTactic
import Derived.BigQuiet
import Derived.Maps.AppendAt
import Derived.Laws.AppendOwnNone
import Derived.Deep.RegionHeld3
import Derived.Deep.DrawnRows
import Derived.Lib.MapLaws
import Derived.RangeFuncSeq
import Derived.RangeFuncOwn
import Derived.RangeFuncLeaves
import Derived.RangeFuncCalls
import Derived.RangeFuncNested
import Derived.RangeFuncBound
import Derived.Shelf.Abstract
import Derived.Shelf.RegionOpen
import Derived.OwnWalkIn
import Derived.TacticsInMore
import Derived.LoopIn
set_option linter.unusedSimpArgs false
set_option linter.unusedVariables false
/- Library contracts: Trim, TrimLeft, Index, HasPrefix. No condition. -/
namespace Go.Proofs
open Go.Shelf
def Tryz.lays160_ren : Go.Shelf.Ren := ⟨fun | 160 => 103 | 232 => 129 | 231 => 128 | 227 => 130 | 234 => 132 | 233 => 131 | 236 => 134 | 235 => 133 | 228 => 152 | 271 => 154 | 151 => 153 | 197 => 65 | 120 => 168 | 152 => 167 | 260 => 93 | 137 => 80 | 119 => 155 | 224 => 124 | 225 => 178 | 217 => 108 | 266 => 136 | n => n, fun | 9 => 9 | 4 => 4 | 3 => 3 | 5 => 5 | 117 => 171 | 116 => 170 | 0 => 0 | 124 => 174 | 21 => 21 | 105 => 103 | 46 => 49 | 119 => 160 | 139 => 163 | 138 => 162 | n => n, fun | 3 => 0 | 4 => 1 | n => n⟩
theorem Tryz.lays160 : Go.Proofs.Lays.n160 Tryz.prog Tryz.lays160_ren := {
  mixed := by kernel_rfl
  f119 := Tryz.func155.trans (congrArg some (by kernel_rfl))
  f120 := Tryz.func168.trans (congrArg some (by kernel_rfl))
  f137 := Tryz.func80.trans (congrArg some (by kernel_rfl))
  f151 := Tryz.func153.trans (congrArg some (by kernel_rfl))
  f152 := Tryz.func167.trans (congrArg some (by kernel_rfl))
  f160 := Tryz.func103.trans (congrArg some (by kernel_rfl))
  f197 := Tryz.func65.trans (congrArg some (by kernel_rfl))
  f217 := Tryz.func108.trans (congrArg some (by kernel_rfl))
  f224 := Tryz.func124.trans (congrArg some (by kernel_rfl))
  f225 := Tryz.func178.trans (congrArg some (by kernel_rfl))
  f227 := Tryz.func130.trans (congrArg some (by kernel_rfl))
  f228 := Tryz.func152.trans (congrArg some (by kernel_rfl))
  f231 := Tryz.func128.trans (congrArg some (by kernel_rfl))
  f232 := Tryz.func129.trans (congrArg some (by kernel_rfl))
  f233 := Tryz.func131.trans (congrArg some (by kernel_rfl))
  f234 := Tryz.func132.trans (congrArg some (by kernel_rfl))
  f235 := Tryz.func133.trans (congrArg some (by kernel_rfl))
  f236 := Tryz.func134.trans (congrArg some (by kernel_rfl))
  f260 := Tryz.func93.trans (congrArg some (by kernel_rfl))
  f266 := Tryz.func136.trans (congrArg some (by kernel_rfl))
  f271 := Tryz.func154.trans (congrArg some (by kernel_rfl))
  t0 := Tryz.underlying0
  a0 := Tryz.isAgg0
  z0 := Tryz.sizeOf0
  v0 := Tryz.zeroValue0
  t3 := Tryz.underlying3
  a3 := Tryz.isAgg3
  z3 := Tryz.sizeOf3
  v3 := Tryz.zeroValue3
  t4 := Tryz.underlying4
  a4 := Tryz.isAgg4
  z4 := Tryz.sizeOf4
  v4 := Tryz.zeroValue4
  t5 := Tryz.underlying5
  a5 := Tryz.isAgg5
  z5 := Tryz.sizeOf5
  v5 := Tryz.zeroValue5
  t9 := Tryz.underlying9
  a9 := Tryz.isAgg9
  z9 := Tryz.sizeOf9
  v9 := Tryz.zeroValue9
  t21 := Tryz.underlying21
  a21 := Tryz.isAgg21
  z21 := Tryz.sizeOf21
  v21 := Tryz.zeroValue21
  t46 := Tryz.underlying49
  a46 := Tryz.isAgg49
  z46 := Tryz.sizeOf49
  v46 := Tryz.zeroValue49
  t105 := Tryz.underlying103
  a105 := Tryz.isAgg103
  z105 := Tryz.sizeOf103
  v105 := Tryz.zeroValue103
  t116 := Tryz.underlying170
  a116 := Tryz.isAgg170
  z116 := Tryz.sizeOf170
  t117 := Tryz.underlying171
  a117 := Tryz.isAgg171
  z117 := Tryz.sizeOf171
  v117 := Tryz.zeroValue171
  t119 := Tryz.underlying160
  a119 := Tryz.isAgg160
  z119 := Tryz.sizeOf160
  t124 := Tryz.underlying174
  a124 := Tryz.isAgg174
  z124 := Tryz.sizeOf174
  v124 := Tryz.zeroValue174
  t138 := Tryz.underlying162
  a138 := Tryz.isAgg162
  z138 := Tryz.sizeOf162
  v138 := Tryz.zeroValue162
  t139 := Tryz.underlying163
  a139 := Tryz.isAgg163
  z139 := Tryz.sizeOf163
  v139 := Tryz.zeroValue163
  g3 := by kernel_rfl
  g4 := by kernel_rfl }
def Tryz.lays185_ren : Go.Shelf.Ren := ⟨fun | 185 => 101 | 187 => 122 | 115 => 78 | 253 => 123 | 224 => 124 | 254 => 125 | 255 => 149 | 291 => 150 | n => n, fun | 37 => 25 | 3 => 3 | 4 => 4 | 0 => 0 | 5 => 5 | 46 => 49 | 9 => 9 | 146 => 191 | 51 => 190 | n => n, fun | 1 => 2 | n => n⟩
theorem Tryz.lays185 : Go.Proofs.Lays.n185 Tryz.prog Tryz.lays185_ren := {
  mixed := by kernel_rfl
  f115 := Tryz.func78.trans (congrArg some (by kernel_rfl))
  f185 := Tryz.func101.trans (congrArg some (by kernel_rfl))
  f187 := Tryz.func122.trans (congrArg some (by kernel_rfl))
  f224 := Tryz.func124.trans (congrArg some (by kernel_rfl))
  f253 := Tryz.func123.trans (congrArg some (by kernel_rfl))
  f254 := Tryz.func125.trans (congrArg some (by kernel_rfl))
  f255 := Tryz.func149.trans (congrArg some (by kernel_rfl))
  f291 := Tryz.func150.trans (congrArg some (by kernel_rfl))
  t0 := Tryz.underlying0
  a0 := Tryz.isAgg0
  z0 := Tryz.sizeOf0
  v0 := Tryz.zeroValue0
  t3 := Tryz.underlying3
  a3 := Tryz.isAgg3
  z3 := Tryz.sizeOf3
  v3 := Tryz.zeroValue3
  t4 := Tryz.underlying4
  a4 := Tryz.isAgg4
  z4 := Tryz.sizeOf4
  v4 := Tryz.zeroValue4
  t5 := Tryz.underlying5
  a5 := Tryz.isAgg5
  z5 := Tryz.sizeOf5
  v5 := Tryz.zeroValue5
  t9 := Tryz.underlying9
  a9 := Tryz.isAgg9
  z9 := Tryz.sizeOf9
  v9 := Tryz.zeroValue9
  t37 := Tryz.underlying25
  a37 := Tryz.isAgg25
  z37 := Tryz.sizeOf25
  v37 := Tryz.zeroValue25
  t46 := Tryz.underlying49
  a46 := Tryz.isAgg49
  z46 := Tryz.sizeOf49
  v46 := Tryz.zeroValue49
  t51 := Tryz.underlying190
  a51 := Tryz.isAgg190
  z51 := Tryz.sizeOf190
  v51 := Tryz.zeroValue190
  t146 := Tryz.underlying191
  a146 := Tryz.isAgg191
  z146 := Tryz.sizeOf191
  v146 := Tryz.zeroValue191
  g1 := by kernel_rfl }
open Go.Proofs Go.RowKit Go.Lib in
theorem Tryz.bytes_Index_at (a1 a2 : Addr) (n c1 k c2 : Nat) (xs ys : List Int) (m : Int) (w : World) (hx : xs.length = n) (hy : ys.length = k) (hr1 : ∀ x ∈ xs, 0 ≤ x ∧ x < 256) (hr2 : ∀ y ∈ ys, 0 ≤ y ∧ y < 256) (hc1 : ∀ i, i < n → w.cell? (a1.add i) = some (.int .u8 (xs.getD i 0))) (hc2 : ∀ i, i < k → w.cell? (a2.add i) = some (.int .u8 (ys.getD i 0))) (hcap : n ≤ c1) (hs : n < 4294967281) (hk : k ≤ 9223372036854775807) (hm : w.cell? ⟨2, 0, none⟩ = some (.int .i64 m)) :
    Calls Tryz.prog 101 #[.slice (some a1) n c1, .slice (some a2) k c2] w fun e w' => e = .returned (.int .i64 (Lib.index (Lib.bytesOf xs) (Lib.bytesOf ys))) ∧ ∃ q, w' = w.drewN q := Any.bytes_Index_at Tryz.lays185 a1 a2 n c1 k c2 xs ys m w hx hy hr1 hr2 hc1 hc2 hcap hs hk hm
def Tryz.laysM185_ren : Go.Shelf.Ren := ⟨fun | 185 => 101 | 187 => 122 | 115 => 78 | 253 => 123 | 224 => 124 | 254 => 125 | 255 => 149 | 291 => 150 | n => n, fun | 37 => 25 | 3 => 3 | 4 => 4 | 0 => 0 | 5 => 5 | 46 => 49 | 9 => 9 | 146 => 191 | 51 => 190 | n => n, fun | 1 => 2 | n => n⟩
theorem Tryz.laysM185 : Go.Proofs.LaysM.n185 Tryz.prog Tryz.laysM185_ren := {
  mixed := by kernel_rfl
  f115 := Tryz.func78.trans (congrArg some (by kernel_rfl))
  f185 := Tryz.func101.trans (congrArg some (by kernel_rfl))
  f187 := Tryz.func122.trans (congrArg some (by kernel_rfl))
  f224 := Tryz.func124.trans (congrArg some (by kernel_rfl))
  f253 := Tryz.func123.trans (congrArg some (by kernel_rfl))
  f254 := Tryz.func125.trans (congrArg some (by kernel_rfl))
  f255 := Tryz.func149.trans (congrArg some (by kernel_rfl))
  f291 := Tryz.func150.trans (congrArg some (by kernel_rfl))
  t0 := Tryz.underlying0
  a0 := Tryz.isAgg0
  z0 := Tryz.sizeOf0
  v0 := Tryz.zeroValue0
  t3 := Tryz.underlying3
  a3 := Tryz.isAgg3
  z3 := Tryz.sizeOf3
  v3 := Tryz.zeroValue3
  t4 := Tryz.underlying4
  a4 := Tryz.isAgg4
  z4 := Tryz.sizeOf4
  v4 := Tryz.zeroValue4
  t5 := Tryz.underlying5
  a5 := Tryz.isAgg5
  z5 := Tryz.sizeOf5
  v5 := Tryz.zeroValue5
  t9 := Tryz.underlying9
  a9 := Tryz.isAgg9
  z9 := Tryz.sizeOf9
  v9 := Tryz.zeroValue9
  t37 := Tryz.underlying25
  a37 := Tryz.isAgg25
  z37 := Tryz.sizeOf25
  v37 := Tryz.zeroValue25
  t46 := Tryz.underlying49
  a46 := Tryz.isAgg49
  z46 := Tryz.sizeOf49
  v46 := Tryz.zeroValue49
  t51 := Tryz.underlying190
  a51 := Tryz.isAgg190
  z51 := Tryz.sizeOf190
  v51 := Tryz.zeroValue190
  t146 := Tryz.underlying191
  a146 := Tryz.isAgg191
  z146 := Tryz.sizeOf191
  v146 := Tryz.zeroValue191
  g1 := by kernel_rfl
  i0 := by kernel_rfl
  i3 := by kernel_rfl
  i4 := by kernel_rfl
  i5 := by kernel_rfl
  i9 := by kernel_rfl
  i37 := by kernel_rfl
  i46 := by kernel_rfl
  i51 := by kernel_rfl
  i146 := by kernel_rfl
  m1 := by kernel_rfl
  s1_3 := fun w h => Go.Proofs.cell_of_shapedOpen_int (zero := #[.int .i64 0]) (t := 3) h (of_decide_eq_true (by kernel_rfl)) (by kernel_rfl) rfl (by kernel_rfl) (by kernel_rfl) Tryz.underlying3 }
def Tryz.laysV8_ren : Go.Shelf.Ren := ⟨fun | 8 => 68 | 9 => 97 | 11 => 98 | 12 => 99 | 14 => 100 | 16 => 120 | 17 => 92 | 18 => 121 | 20 => 116 | n => n, fun | 22 => 25 | 9 => 9 | 3 => 3 | 4 => 4 | 5 => 5 | 28 => 138 | 27 => 137 | 0 => 0 | 31 => 141 | 33 => 103 | 21 => 21 | 36 => 160 | 37 => 49 | 40 => 163 | 39 => 162 | n => n, fun | 0 => 0 | 1 => 1 | n => n⟩
theorem Tryz.laysV8 : Go.Proofs.SlLaysV.n8 Tryz.prog Tryz.laysV8_ren := {
  mixed := by kernel_rfl
  f8 := Tryz.func68.trans (congrArg some (by kernel_rfl))
  f9 := Tryz.func97.trans (congrArg some (by kernel_rfl))
  f11 := Tryz.func98.trans (congrArg some (by kernel_rfl))
  f12 := Tryz.func99.trans (congrArg some (by kernel_rfl))
  f14 := Tryz.func100.trans (congrArg some (by kernel_rfl))
  f16 := Tryz.func120.trans (congrArg some (by kernel_rfl))
  f17 := Tryz.func92.trans (congrArg some (by kernel_rfl))
  f18 := Tryz.func121.trans (congrArg some (by kernel_rfl))
  f20 := Tryz.func116.trans (congrArg some (by kernel_rfl))
  t0 := Tryz.underlying0
  a0 := Tryz.isAgg0
  z0 := Tryz.sizeOf0
  v0 := Tryz.zeroValue0
  t3 := Tryz.underlying3
  a3 := Tryz.isAgg3
  z3 := Tryz.sizeOf3
  v3 := Tryz.zeroValue3
  t4 := Tryz.underlying4
  a4 := Tryz.isAgg4
  z4 := Tryz.sizeOf4
  v4 := Tryz.zeroValue4
  t5 := Tryz.underlying5
  a5 := Tryz.isAgg5
  z5 := Tryz.sizeOf5
  v5 := Tryz.zeroValue5
  t9 := Tryz.underlying9
  a9 := Tryz.isAgg9
  z9 := Tryz.sizeOf9
  v9 := Tryz.zeroValue9
  t21 := Tryz.underlying21
  a21 := Tryz.isAgg21
  z21 := Tryz.sizeOf21
  v21 := Tryz.zeroValue21
  t22 := Tryz.underlying25
  a22 := Tryz.isAgg25
  z22 := Tryz.sizeOf25
  v22 := Tryz.zeroValue25
  t27 := Tryz.underlying137
  a27 := Tryz.isAgg137
  z27 := Tryz.sizeOf137
  t28 := Tryz.underlying138
  a28 := Tryz.isAgg138
  z28 := Tryz.sizeOf138
  v28 := Tryz.zeroValue138
  t31 := Tryz.underlying141
  a31 := Tryz.isAgg141
  z31 := Tryz.sizeOf141
  v31 := Tryz.zeroValue141
  t33 := Tryz.underlying103
  a33 := Tryz.isAgg103
  z33 := Tryz.sizeOf103
  v33 := Tryz.zeroValue103
  t36 := Tryz.underlying160
  a36 := Tryz.isAgg160
  z36 := Tryz.sizeOf160
  t37 := Tryz.underlying49
  a37 := Tryz.isAgg49
  z37 := Tryz.sizeOf49
  v37 := Tryz.zeroValue49
  t39 := Tryz.underlying162
  a39 := Tryz.isAgg162
  z39 := Tryz.sizeOf162
  v39 := Tryz.zeroValue162
  t40 := Tryz.underlying163
  a40 := Tryz.isAgg163
  z40 := Tryz.sizeOf163
  v40 := Tryz.zeroValue163 }
def Tryz.laysnb116_ren : Go.Shelf.Ren := ⟨fun | 116 => 45 | 115 => 78 | n => n, fun | 37 => 25 | 4 => 4 | 3 => 3 | 9 => 9 | 5 => 5 | n => n, fun | n => n⟩
theorem Tryz.laysnb116 : Go.Proofs.Lays.nb116 Tryz.prog Tryz.laysnb116_ren := {
  mixed := by kernel_rfl
  f115 := Tryz.func78.trans (congrArg some (by kernel_rfl))
  f116 := Tryz.func45.trans (congrArg some (by kernel_rfl))
  t3 := Tryz.underlying3
  a3 := Tryz.isAgg3
  z3 := Tryz.sizeOf3
  v3 := Tryz.zeroValue3
  t4 := Tryz.underlying4
  a4 := Tryz.isAgg4
  z4 := Tryz.sizeOf4
  v4 := Tryz.zeroValue4
  t9 := Tryz.underlying9
  a9 := Tryz.isAgg9
  z9 := Tryz.sizeOf9
  v9 := Tryz.zeroValue9
  t37 := Tryz.underlying25
  a37 := Tryz.isAgg25
  z37 := Tryz.sizeOf25
  v37 := Tryz.zeroValue25
  t5 := Tryz.underlying5
  a5 := Tryz.isAgg5
  z5 := Tryz.sizeOf5
  v5 := Tryz.zeroValue5 }
theorem Tryz.bytes_HasPrefix_all (p1 p2 : Option Addr) (n c m d : Nat) (xs ys : List Int) (w : World) (hx : xs.length = n) (hy : ys.length = m) (hnc : n ≤ c) (h1 : Lib.BytesIn w p1 n xs) (h2 : Lib.BytesIn w p2 m ys) :
    Calls Tryz.prog 45 #[.slice p1 n c, .slice p2 m d] w fun e w' => e = .returned (.bool (Lib.hasPrefix (Lib.bytesOf xs) (Lib.bytesOf ys))) ∧ w' = w := Any.bytes_HasPrefix_all Tryz.laysnb116 p1 p2 n c m d xs ys w hx hy hnc h1 h2
end Go.Proofs

/- The rows of laws: what a law has to show, whatever it calls. No condition. -/
namespace Go.Am
open Go Go.RowKit Go.WideShapes Go.ChangeShapes
theorem less_tri : ∀ (a b : List UInt8), (!(Op.bytesLess a b || a == b)) = Op.bytesLess b a := by
  intro a
  induction a with
  | nil => intro b; cases b <;> rfl
  | cons x a ih =>
    intro b
    cases b with
    | nil => rfl
    | cons y b =>
      simp only [Op.bytesLess, List.cons_beq_cons]
      rw [← ih b]
      have hx : (x < y) ∨ x = y ∨ y < x := by
        rcases Nat.lt_trichotomy x.toNat y.toNat with h | h | h
        · exact .inl (UInt8.lt_iff_toNat_lt.2 h)
        · exact .inr (.inl (UInt8.toNat_inj.1 h))
        · exact .inr (.inr (UInt8.lt_iff_toNat_lt.2 h))
      rcases hx with h | h | h
      · have h1 : ¬ y < x := by rw [UInt8.lt_iff_toNat_lt] at *; omega
        have h2 : ¬ y = x := by intro e; subst e; exact h1 h
        simp [h, h1, h2]
      · subst h
        have h1 : ¬ x < x := by rw [UInt8.lt_iff_toNat_lt]; omega
        simp [h1]
      · have h1 : ¬ x < y := by rw [UInt8.lt_iff_toNat_lt] at *; omega
        have h2 : ¬ x = y := by intro e; subst e; exact h1 h
        simp [h, h1, h2]
theorem laid_none {P : Program} {w : World} : laidMet P [] w := ⟨[], rfl, List.nodup_nil, fun _ _ h => by simp at h⟩
/-- the row of a law: it answers true, and leaves what was there alone -/
theorem law_post {H : Type} {enc : TypeId × Value → H} {P : Program} {f : Func} {s : ChangeSpec} {apart fresh handsOn : Bool} {W W' : World} {args : Array Value} {ds : List (DataW H)} {before : List MemPlace} {t : TypeId}
    (hW : DataW.Whole enc P f.params.toList s.vars apart W args.toList ds [] before) (hv : s.vars = []) (hs : s.fn H (ds ++ []) = { results := [.lit (.bool true)], args := ds }) (ht : f.resultTypes = #[t]) (hb : P.underlying t = some .bool)
    (hargs : DataW.TrodAll enc P W' 0 (fun b => decide (b < W.heap.size)) true f.params.toList args.toList ds before) (hk : Below W.heap.size W W') : s.post enc P f apart fresh handsOn false W args (.bool true) W' := by
  refine ⟨ds, [], before, [], before, [], hW, ?_, ?_, ?_, World.keptBut_mono (fun p hp => ⟨hp, .inr (.inl hp)⟩) (hk.frame (· ∈ before)), fun h => by cases h⟩
  · rw [hs, ht]; exact trodAll_mk1 (shut_bool hb true)
  · rw [hs]; exact hargs
  · rw [hs, hv]; rfl
/-- the package-level variables, and the block behind them, lie in memory -/
theorem globals_lie {P : Program} {w : World} (hsh : w.ShapedOpen P) (hl : Nat.ble (P.globals.size + 1) (begin P (fun _ _ => 0) default).world.heap.size = true) : P.globals.size < w.heap.size := by
  obtain ⟨o, _, h1, _⟩ := hsh.2 P.globals.size (Nat.le_refl _) (Nat.le_of_ble_eq_true hl)
  exact (Array.getElem?_eq_some_iff.1 h1).1
/-- a law without arguments, over variables that are laid -/
theorem law_closed {C : Checked} {os : Os} (started : os.Started) {H : Type} {enc : TypeId × Value → H} {f : FuncId} {fn : Func} {s : ChangeSpec} {laid : List (String × DataW Unit)} {t : TypeId}
    (own : ownKnob C.prog.godebug = none) (noInit : C.prog.inits.idxOf? f = none) (hfn : C.prog.funcs[f]? = some fn) (hp : fn.params = #[]) (hv : s.vars = []) (hs : s.fn H ([] ++ []) = { results := [.lit (.bool true)], args := [] }) (ht : fn.resultTypes = #[t]) (hb : C.prog.underlying t = some .bool)
    (hl : Nat.ble (C.prog.globals.size + 1) (begin C.prog (fun _ _ => 0) default).world.heap.size = true)
    (witness : ∃ (w : World) (tape : Tape) (i : Input), w.os = os ∧ (w.forCall tape i).Shaped C.prog ∧ i.vars = [] ∧ Input.okWide C.prog (w.forCall tape i) .any w.heap.size f i ∧
      ((s.pre enc C.prog fn [] false (w.forCall tape i).memory i.args ∧ laidMetH C.prog laid (w.forCall tape i).memory) ∧ sizedMet enc C.prog fn (OpenSpec.ofChange s) false (w.forCall tape i).memory i.args) ∧ ({} : Assume).holds C.prog (lone (Frame.enter C.prog f i.args .normal) [] (w.forCall tape i)))
    (run : ∀ W : World, C.prog.globals.size < W.heap.size → laidMetH C.prog laid W → Calls C.prog f #[] W fun e W' => e = .returned (.bool true) ∧ Below W.heap.size W W') :
    ReturnsInHanded {} C os f .any (fun w args => (s.pre enc C.prog fn [] false w args ∧ laidMetH C.prog laid w) ∧ sizedMet enc C.prog fn (OpenSpec.ofChange s) false w args) (s.post enc C.prog fn false true false false) := by
  refine returnsInHanded_of_calls own started noInit witness ?_
  intro w tape i _ hsh _ _ hpre _
  obtain ⟨⟨⟨ds, gs, before, hw, _⟩, hL⟩, _⟩ := hpre
  have hw' := DataW.Whole.of_heap (w' := w.forCall tape i) (by rfl) hw
  have hL' : laidMetH C.prog laid (w.forCall tape i) := laidMetH.of_heap (w := (w.forCall tape i).memory) (w' := w.forCall tape i) rfl hL
  have hg := globals_lie hsh hl
  generalize w.forCall tape i = W at *
  have hW := hw'
  obtain ⟨p, q, hA0, hV, rfl, hfz, hnd⟩ := hw'
  rw [hp] at hA0
  obtain ⟨ha, rfl, rfl⟩ := trodAll_none hA0
  rw [hv] at hV
  obtain ⟨rfl, rfl⟩ := trodVars_none hV
  rw [ha] at hW ⊢
  refine (run W hg hL').mono fun e W' ⟨he, hk⟩ => ?_
  subst he
  exact ChangeSpec.post_blind (law_post hW hv hs ht hb (by rw [hp]; exact trodAll_mk0) hk)
/-- what is read stays as it was read -/
theorem trod_all_below {H : Type} {enc : TypeId × Value → H} {P : Program} (lo : laidOutB P = true) {W W' : World} (hb : Below W.heap.size W W') :
    ∀ {ts : List TypeId} {vs : List Value} {ds : List (DataW H)} {ps : List MemPlace}, (ts.all fun t => P.readableRec t && decide (t < P.types.size)) = true → DataW.TrodAll enc P W 0 (fun _ => true) true ts vs ds ps → (∀ x ∈ ps, x.block < W.heap.size) →
      DataW.TrodAll enc P W' 0 (fun b => decide (b < W.heap.size)) true ts vs ds ps := by
  intro ts
  induction ts with
  | nil =>
    intro vs ds ps _ h _
    obtain ⟨rfl, rfl, rfl⟩ := trodAll_nil h
    exact trodAll_mk0
  | cons t ts ih =>
    intro vs ds ps hr h hlt
    rw [List.all_cons, Bool.and_eq_true] at hr
    obtain ⟨v, vs', d, ds', p, q, rfl, rfl, rfl, h1, h2⟩ := trodAll_cons h
    simp only [Bool.and_eq_true, decide_eq_true_eq] at hr
    exact trodAll_cons_mk (Below.trod lo hr.1.1 hr.1.2 h1 hb fun x hx => hlt x (List.mem_append_left _ hx)) (ih (by simpa using hr.2) h2 fun x hx => hlt x (List.mem_append_right _ hx))
/-- the heart of a law's row -/
theorem law_core {C : Checked} {H : Type} {enc : TypeId × Value → H} {f : FuncId} {fn : Func} {s : ChangeSpec} {t : TypeId}
    (hfn : C.prog.funcs[f]? = some fn) (hv : s.vars = []) (hs : ∀ ds : List (DataW H), ds.length = fn.params.size → s.fn H (ds ++ []) = { results := [.lit (.bool true)], args := ds }) (ht : fn.resultTypes = #[t]) (hb : C.prog.underlying t = some .bool)
    (hl : Nat.ble (C.prog.globals.size + 1) (begin C.prog (fun _ _ => 0) default).world.heap.size = true) (lo : laidOutB C.prog = true) (hr : (fn.params.toList.all fun t => C.prog.readableRec t && decide (t < C.prog.types.size)) = true)
    {w : World} {tape : Tape} {i : Input} (hsh : (w.forCall tape i).ShapedOpen C.prog) (hok : Input.okWide C.prog (w.forCall tape i) .any w.heap.size f i) (hpre : s.pre enc C.prog fn [] false (w.forCall tape i).memory i.args)
    (run : ∀ (W : World) (base : Nat) (ds : List (DataW H)) (before : List MemPlace), W = w.forCall tape i → C.prog.globals.size < W.heap.size → (∀ (j : Nat) t v, fn.params[j]? = some t → i.args[j]? = some v → Value.okWide C.prog W .any base t v) →
      DataW.TrodAll enc C.prog W 0 (fun _ => true) true fn.params.toList i.args.toList ds before → Calls C.prog f i.args W fun e W' => e = .returned (.bool true) ∧ Below W.heap.size W W') :
    Calls C.prog f i.args (w.forCall tape i) fun
        | .returned v, w' => s.post enc C.prog fn false true false false (w.forCall tape i).blind i.args v w'.blind
        | _, _ => False := by
  obtain ⟨_, _, _, fn', hfn', _, _, _, _, hval⟩ := hok
  have e : fn' = fn := Option.some.inj (hfn'.symm.trans hfn)
  subst e
  obtain ⟨ds, gs, before, hw, _⟩ := hpre
  have hw' := DataW.Whole.of_heap (w' := w.forCall tape i) (by rfl) hw
  have hg := globals_lie hsh hl
  generalize hWW : w.forCall tape i = W at *
  have hW := hw'
  have hlt : ∀ x ∈ before, x.block < W.heap.size := fun x hx => hW.lt x hx
  obtain ⟨p, q, hA0, hV, rfl, hfz, hnd⟩ := hw'
  rw [hv] at hV
  obtain ⟨rfl, rfl⟩ := trodVars_none hV
  have hlen : ds.length = fn'.params.size := by
    have : ∀ {ts : List TypeId} {vs : List Value} {ds : List (DataW H)} {ps : List MemPlace}, DataW.TrodAll enc C.prog W 0 (fun _ => true) true ts vs ds ps → ds.length = ts.length := by
      intro ts
      induction ts with
      | nil => intro vs ds ps h; obtain ⟨_, rfl, _⟩ := trodAll_nil h; rfl
      | cons t ts ih => intro vs ds ps h; obtain ⟨v, vs', d, ds', p, q, rfl, rfl, rfl, _, h2⟩ := trodAll_cons h; simp [ih h2]
    have := this hA0
    simpa using this
  simp only [List.append_nil] at hlt hW
  refine (run W _ ds p rfl hg hval hA0).mono fun e W' ⟨he, hk⟩ => ?_
  subst he
  exact ChangeSpec.post_blind (law_post hW hv (hs ds hlen) ht hb (trod_all_below lo hk hr hA0 hlt) hk)
/-- a law, over variables that are laid -/
theorem law_any {C : Checked} {os : Os} (started : os.Started) {H : Type} {enc : TypeId × Value → H} {f : FuncId} {fn : Func} {s : ChangeSpec} {laid : List (String × DataW Unit)} {t : TypeId}
    (own : ownKnob C.prog.godebug = none) (noInit : C.prog.inits.idxOf? f = none) (hfn : C.prog.funcs[f]? = some fn) (hv : s.vars = []) (hs : ∀ ds : List (DataW H), ds.length = fn.params.size → s.fn H (ds ++ []) = { results := [.lit (.bool true)], args := ds }) (ht : fn.resultTypes = #[t]) (hb : C.prog.underlying t = some .bool)
    (hl : Nat.ble (C.prog.globals.size + 1) (begin C.prog (fun _ _ => 0) default).world.heap.size = true) (lo : laidOutB C.prog = true) (hr : (fn.params.toList.all fun t => C.prog.readableRec t && decide (t < C.prog.types.size)) = true)
    (witness : ∃ (w : World) (tape : Tape) (i : Input), w.os = os ∧ (w.forCall tape i).Shaped C.prog ∧ i.vars = [] ∧ Input.okWide C.prog (w.forCall tape i) .any w.heap.size f i ∧
      ((s.pre enc C.prog fn [] false (w.forCall tape i).memory i.args ∧ laidMetH C.prog laid (w.forCall tape i).memory) ∧ sizedMet enc C.prog fn (OpenSpec.ofChange s) false (w.forCall tape i).memory i.args) ∧ ({} : Assume).holds C.prog (lone (Frame.enter C.prog f i.args .normal) [] (w.forCall tape i)))
    (run : ∀ (W : World) (base : Nat) (args : Array Value) (ds : List (DataW H)) (before : List MemPlace), C.prog.globals.size < W.heap.size → laidMetH C.prog laid W → (∀ (j : Nat) t v, fn.params[j]? = some t → args[j]? = some v → Value.okWide C.prog W .any base t v) →
      DataW.TrodAll enc C.prog W 0 (fun _ => true) true fn.params.toList args.toList ds before → Calls C.prog f args W fun e W' => e = .returned (.bool true) ∧ Below W.heap.size W W') :
    ReturnsInHanded {} C os f .any (fun w args => (s.pre enc C.prog fn [] false w args ∧ laidMetH C.prog laid w) ∧ sizedMet enc C.prog fn (OpenSpec.ofChange s) false w args) (s.post enc C.prog fn false true false false) := by
  refine returnsInHanded_of_calls own started noInit witness ?_
  intro w tape i _ hsh _ hok hpre _
  have hL' : laidMetH C.prog laid (w.forCall tape i) := laidMetH.of_heap (w := (w.forCall tape i).memory) (w' := w.forCall tape i) rfl hpre.1.2
  exact law_core hfn hv hs ht hb hl lo hr hsh hok hpre.1.1 fun W base ds before hWW hg hval hA => run W base i.args ds before hg (hWW ▸ hL') hval hA
/-- a law, over no variable -/
theorem law_plain {C : Checked} {os : Os} (started : os.Started) {H : Type} {enc : TypeId × Value → H} {f : FuncId} {fn : Func} {s : ChangeSpec} {t : TypeId}
    (own : ownKnob C.prog.godebug = none) (noInit : C.prog.inits.idxOf? f = none) (hfn : C.prog.funcs[f]? = some fn) (hv : s.vars = []) (hs : ∀ ds : List (DataW H), ds.length = fn.params.size → s.fn H (ds ++ []) = { results := [.lit (.bool true)], args := ds }) (ht : fn.resultTypes = #[t]) (hb : C.prog.underlying t = some .bool)
    (hl : Nat.ble (C.prog.globals.size + 1) (begin C.prog (fun _ _ => 0) default).world.heap.size = true) (lo : laidOutB C.prog = true) (hr : (fn.params.toList.all fun t => C.prog.readableRec t && decide (t < C.prog.types.size)) = true)
    (witness : ∃ (w : World) (tape : Tape) (i : Input), w.os = os ∧ (w.forCall tape i).Shaped C.prog ∧ i.vars = [] ∧ Input.okWide C.prog (w.forCall tape i) .any w.heap.size f i ∧
      s.pre6 enc C.prog fn [] false (w.forCall tape i).memory i.args ∧ ({} : Assume).holds C.prog (lone (Frame.enter C.prog f i.args .normal) [] (w.forCall tape i)))
    (run : ∀ (W : World) (base : Nat) (args : Array Value) (ds : List (DataW H)) (before : List MemPlace), C.prog.globals.size < W.heap.size → (∀ (j : Nat) t v, fn.params[j]? = some t → args[j]? = some v → Value.okWide C.prog W .any base t v) →
      DataW.TrodAll enc C.prog W 0 (fun _ => true) true fn.params.toList args.toList ds before → Calls C.prog f args W fun e W' => e = .returned (.bool true) ∧ Below W.heap.size W W') :
    ReturnsInHanded {} C os f .any (s.pre6 enc C.prog fn [] false) (s.post enc C.prog fn false true false false) := by
  refine returnsInHanded_of_calls own started noInit witness ?_
  intro w tape i _ hsh _ hok hpre _
  exact law_core hfn hv hs ht hb hl lo hr hsh hok hpre.1 fun W base ds before _ hg hval hA => run W base i.args ds before hg hval hA
theorem law_upto {C : Checked} {os : Os} (started : os.Started) {H : Type} {enc : TypeId × Value → H} {F : Stop.Interp} {f : FuncId} {fn : Func} {s : OpenSpec} {laid : List (String × DataW Unit)} {t : TypeId}
    (own : ownKnob C.prog.godebug = none) (noInit : C.prog.inits.idxOf? f = none) (hfn : C.prog.funcs[f]? = some fn) (hv : (s.at F).vars = []) (hvs : (s.at F).vars = s.vars) (hs : ∀ ds : List (DataW H), ds.length = fn.params.size → (s.at F).fn H (ds ++ []) = { results := [.lit (.bool true)], args := ds }) (ht : fn.resultTypes = #[t]) (hb : C.prog.underlying t = some .bool)
    (hl : Nat.ble (C.prog.globals.size + 1) (begin C.prog (fun _ _ => 0) default).world.heap.size = true) (lo : laidOutB C.prog = true) (hr : (fn.params.toList.all fun t => C.prog.readableRec t && decide (t < C.prog.types.size)) = true)
    (witness : ∃ (w : World) (tape : Tape) (i : Input), w.os = os ∧ (w.forCall tape i).Shaped C.prog ∧ i.vars = [] ∧ Input.okWide C.prog (w.forCall tape i) .any w.heap.size f i ∧
      s.preRow enc C.prog fn [] false laid (w.forCall tape i).memory i.args ∧ ({} : Assume).holds C.prog (lone (Frame.enter C.prog f i.args .normal) [] (w.forCall tape i)))
    (run : ∀ (W : World) (base : Nat) (args : Array Value) (ds : List (DataW H)) (before : List MemPlace), C.prog.globals.size < W.heap.size → laidMetH C.prog laid W → (∀ k, s.cond = some k → k H ds = true) → (∀ (j : Nat) t v, fn.params[j]? = some t → args[j]? = some v → Value.okWide C.prog W .any base t v) →
      DataW.TrodAll enc C.prog W 0 (fun _ => true) true fn.params.toList args.toList ds before → Calls C.prog f args W fun e W' => e = .returned (.bool true) ∧ Below W.heap.size W W') :
    ReturnsInHanded {} C os f .any (s.preRow enc C.prog fn [] false laid) ((s.at F).post enc C.prog fn false true false false) := by
  refine returnsInHanded_of_row own started noInit hfn witness ?_
  intro W base args ds gs before hval hW _ hk _ hL hsh _
  rw [← hvs] at hW
  have hg := globals_lie hsh hl
  have hW2 := hW
  have hlt : ∀ x ∈ before, x.block < W.heap.size := fun x hx => hW.lt x hx
  obtain ⟨p, q, hA0, hV, rfl, hfz, hnd⟩ := hW
  rw [hv] at hV
  obtain ⟨rfl, rfl⟩ := trodVars_none hV
  have hlen : ds.length = fn.params.size := by
    have : ∀ {ts : List TypeId} {vs : List Value} {ds : List (DataW H)} {ps : List MemPlace}, DataW.TrodAll enc C.prog W 0 (fun _ => true) true ts vs ds ps → ds.length = ts.length := by
      intro ts
      induction ts with
      | nil => intro vs ds ps h; obtain ⟨_, rfl, _⟩ := trodAll_nil h; rfl
      | cons t ts ih => intro vs ds ps h; obtain ⟨v, vs', d, ds', p, q, rfl, rfl, rfl, _, h2⟩ := trodAll_cons h; simp [ih h2]
    have := this hA0
    simpa using this
  simp only [List.append_nil] at hlt hW2
  refine (run W base args ds p hg hL (fun k h => by have := hk k h; rwa [List.append_nil] at this) hval hA0).mono fun e W' ⟨he, hk⟩ => ?_
  exact ⟨_, he, law_post hW2 hv (hs ds hlen) ht hb (trod_all_below lo hk hr hA0 hlt) hk⟩
/-- an input that fits, at a world that is written out -/
theorem witness_upto {H : Type} {enc : TypeId × Value → H} {C : Checked} {os : Os} {f : FuncId} {fn : Func} {s : OpenSpec} {conds : List PathCond} {apart : Bool} {laid : List (String × DataW Unit)} (w0 : World) (args : Array Value) (hos : w0.os = os)
    (hsh : (w0.forCall (fun _ _ => 0) ⟨#[], args, []⟩).Shaped C.prog)
    (hok : Input.okWideB C.prog (w0.forCall (fun _ _ => 0) ⟨#[], args, []⟩) f ⟨#[], args, []⟩ = true)
    (hrow : s.preRow enc C.prog fn conds apart laid (w0.forCall (fun _ _ => 0) ⟨#[], args, []⟩).memory args) :
    ∃ (w : World) (tape : Tape) (i : Input), w.os = os ∧ (w.forCall tape i).Shaped C.prog ∧ i.vars = [] ∧ Input.okWide C.prog (w.forCall tape i) .any w.heap.size f i ∧
      s.preRow enc C.prog fn conds apart laid (w.forCall tape i).memory i.args ∧ ({} : Assume).holds C.prog (lone (Frame.enter C.prog f i.args .normal) [] (w.forCall tape i)) :=
  ⟨w0, fun _ _ => 0, ⟨#[], args, []⟩, hos, hsh, (Input.okWide_of_okWideB (base := 0) hok).1, (Input.okWide_of_okWideB hok).2, hrow, by
    simp only [Assume.holds]
    exact ⟨by simp, by simp, fun _ => Modest.zero, by simp, by simp⟩⟩
end Go.Am

/- A law whose variables are laid but for one of a number's type. No condition. -/
namespace Go.Am
open Go Go.RowKit
/-- a variable of a number's type holds some number -/
theorem int_of_shape {P : Program} {w : World} {g : Nat} {t : TypeId} {zero : Array Value} (h : w.ShapedOpen P) (hg : g < P.globals.size)
    (h0 : ((begin P (fun _ _ => 0) default).world.heap[g]?).bind Obj.row? = some (zero, t)) (hz : zero.size = 1)
    (hb : P.buildable t = true) (hc : P.cellTypes P.depth t = some [t]) (hu : P.underlying t = some (.int .i64)) : ∃ n, w.heap[g]? = some (.cells #[.int .i64 n] t (0, 0)) ∧ -9223372036854775808 ≤ n ∧ n ≤ 9223372036854775807 := by
  obtain ⟨cs, hh, hs, hr⟩ := h.1 g zero t hg h0
  obtain ⟨ts, hts, _, hall⟩ := hr hb
  rw [hc] at hts
  cases hts
  have h1 : 0 < cs.size := by omega
  obtain ⟨u, hu', hok⟩ := hall 0 cs[0] (by simp [h1])
  have : u = t := by simpa using hu'.symm
  subst this
  unfold Cell.ok at hok
  rw [hu] at hok
  have hcs : cs = #[cs[0]] := by
    apply Array.ext
    · simp; omega
    · intro i hi1 hi2
      simp at hi2
      subst hi2; rfl
  cases hv : cs[0] <;> rw [hv] at hok <;> first | (simp at hok; done) | skip
  rename_i k n
  obtain ⟨rfl, hn⟩ := hok
  rw [hcs, hv] at hh
  refine ⟨n, hh, ?_⟩
  simpa [IntKind.has, IntKind.min, IntKind.max, IntKind.signed, IntKind.bits] using hn
/-- a law, over variables that are laid -/
theorem law_anyS {C : Checked} {os : Os} (started : os.Started) {H : Type} {enc : TypeId × Value → H} {f : FuncId} {fn : Func} {s : ChangeSpec} {laid : List (String × DataW Unit)} {t : TypeId}
    (own : ownKnob C.prog.godebug = none) (noInit : C.prog.inits.idxOf? f = none) (hfn : C.prog.funcs[f]? = some fn) (hv : s.vars = []) (hs : ∀ ds : List (DataW H), ds.length = fn.params.size → s.fn H (ds ++ []) = { results := [.lit (.bool true)], args := ds }) (ht : fn.resultTypes = #[t]) (hb : C.prog.underlying t = some .bool)
    (hl : Nat.ble (C.prog.globals.size + 1) (begin C.prog (fun _ _ => 0) default).world.heap.size = true) (lo : laidOutB C.prog = true) (hr : (fn.params.toList.all fun t => C.prog.readableRec t && decide (t < C.prog.types.size)) = true)
    (witness : ∃ (w : World) (tape : Tape) (i : Input), w.os = os ∧ (w.forCall tape i).Shaped C.prog ∧ i.vars = [] ∧ Input.okWide C.prog (w.forCall tape i) .any w.heap.size f i ∧
      ((s.pre enc C.prog fn [] false (w.forCall tape i).memory i.args ∧ laidMetH C.prog laid (w.forCall tape i).memory) ∧ sizedMet enc C.prog fn (OpenSpec.ofChange s) false (w.forCall tape i).memory i.args) ∧ ({} : Assume).holds C.prog (lone (Frame.enter C.prog f i.args .normal) [] (w.forCall tape i)))
    (run : ∀ (W : World) (base : Nat) (args : Array Value) (ds : List (DataW H)) (before : List MemPlace), W.ShapedOpen C.prog → C.prog.globals.size < W.heap.size → laidMetH C.prog laid W → (∀ (j : Nat) t v, fn.params[j]? = some t → args[j]? = some v → Value.okWide C.prog W .any base t v) →
      DataW.TrodAll enc C.prog W 0 (fun _ => true) true fn.params.toList args.toList ds before → Calls C.prog f args W fun e W' => e = .returned (.bool true) ∧ Below W.heap.size W W') :
    ReturnsInHanded {} C os f .any (fun w args => (s.pre enc C.prog fn [] false w args ∧ laidMetH C.prog laid w) ∧ sizedMet enc C.prog fn (OpenSpec.ofChange s) false w args) (s.post enc C.prog fn false true false false) := by
  refine returnsInHanded_of_calls own started noInit witness ?_
  intro w tape i _ hsh _ hok hpre _
  have hL' : laidMetH C.prog laid (w.forCall tape i) := laidMetH.of_heap (w := (w.forCall tape i).memory) (w' := w.forCall tape i) rfl hpre.1.2
  exact law_core hfn hv hs ht hb hl lo hr hsh hok hpre.1.1 fun W base ds before hWW hg hval hA => run W base i.args ds before (hWW ▸ hsh) hg (hWW ▸ hL') hval hA
end Go.Am

/-! Words for memory, of whatever program: bytes, rows of bytes -/
namespace Go.Wk
open Go Go.RowKit Go.ChangeShapes
theorem cell_lt {w : World} {a : Addr} {v : Value} (h : w.cell? a = some v) : a.block < w.heap.size := by
  rcases Nat.lt_or_ge a.block w.heap.size with h' | h'
  · exact h'
  · unfold World.cell? at h; rw [Array.getElem?_eq_none h'] at h; cases h
theorem add_none (b o j : Nat) : (⟨b, o, none⟩ : Addr).add j = ⟨b, o + j, none⟩ := by unfold Addr.add; split <;> simp_all
/-- bytes that lie at an address, if there are any -/
def Byt (w : World) (A : Option Addr) (bs : List UInt8) : Prop :=
  bs.length ≤ maxLen ∧ (0 < bs.length → ∃ b o, A = some ⟨b, o, none⟩ ∧ ∀ i (h : i < bs.length), w.cell? ⟨b, o + i, none⟩ = some (.int .u8 (bs[i].toNat : Int)))
theorem u8_lt (b : UInt8) : (b.toNat : Int) < 256 := by have := b.toNat_lt; omega
theorem Byt.nil {w : World} {A : Option Addr} : Byt w A [] := ⟨Nat.zero_le _, fun h => by simp at h⟩
theorem Byt.below {w w' : World} {A : Option Addr} {bs : List UInt8} (h : Byt w A bs) (hb : Below w.heap.size w w') : Byt w' A bs := by
  refine ⟨h.1, fun h0 => ?_⟩
  obtain ⟨b, o, e, hc⟩ := h.2 h0
  refine ⟨b, o, e, fun i hi => ?_⟩
  rw [hb.cell (p := ⟨b, o + i, none⟩) (cell_lt (hc i hi))]
  exact hc i hi
/-- a row of bytes, as rows hold them: where each lies, its room, its bytes -/
abbrev Part := Option Addr × Nat × List UInt8
def Parts (w : World) (A : Option Addr) (ps : List Part) : Prop :=
  ps.length ≤ maxLen ∧ (0 < ps.length → ∃ b o, A = some ⟨b, o, none⟩ ∧ ∀ i (h : i < ps.length), w.cell? ⟨b, o + i, none⟩ = some (.slice ps[i].1 ps[i].2.2.length ps[i].2.1)) ∧ ∀ p ∈ ps, Byt w p.1 p.2.2 ∧ (p.1 = none → p.2.1 = 0)
theorem Parts.below {w w' : World} {A : Option Addr} {ps : List Part} (h : Parts w A ps) (hb : Below w.heap.size w w') : Parts w' A ps := by
  refine ⟨h.1, fun h0 => ?_, fun p hp => ⟨(h.2.2 p hp).1.below hb, (h.2.2 p hp).2⟩⟩
  obtain ⟨b, o, e, hc⟩ := h.2.1 h0
  refine ⟨b, o, e, fun i hi => ?_⟩
  rw [hb.cell (p := ⟨b, o + i, none⟩) (cell_lt (hc i hi))]
  exact hc i hi
def valsB (bs : List UInt8) : List Value := bs.map fun b => .int .u8 (b.toNat : Int)
theorem valsB_len (bs : List UInt8) : (valsB bs).length = bs.length := by simp [valsB]
theorem valsB_one (bs : List UInt8) : ∀ u ∈ valsB bs, u.oneCell' = true := by
  intro u hu
  obtain ⟨b, _, rfl⟩ := List.mem_map.1 hu
  rfl
theorem valsB_app (a b : List UInt8) : valsB (a ++ b) = valsB a ++ valsB b := by simp [valsB]
theorem Byt.news {w : World} {a : Addr} {bs : List UInt8} (h : Byt w (some a) bs) : ∀ j u, (valsB bs)[j]? = some u → w.cell? (a.add j) = some u := by
  intro j u hu
  have hj : j < bs.length := by have := (List.getElem?_eq_some_iff.1 hu).1; rwa [valsB_len] at this
  obtain ⟨b, o, e, hc⟩ := h.2 (by omega)
  cases e
  rw [add_none, hc j hj, ← hu]
  simp [valsB, hj]
/-- an own row reads as bytes -/
theorem own_byt {w : World} {B e : Nat} {v : Value} {bs : List UInt8} (h : w.ownsRow B e 1 v bs.length (valsB bs)) : ∃ A c, v = .slice A bs.length c ∧ (bs.length ≤ maxLen → Byt w A bs) := by
  rcases h.2 with ⟨rfl, h0⟩ | ⟨g, cap, cur, rfl, _, hh, hnc, hcm, hsz, htk⟩
  · exact ⟨none, 0, by rw [h0], fun hm => ⟨hm, fun h1 => by omega⟩⟩
  · refine ⟨_, _, rfl, fun hm => ⟨hm, fun h1 => ⟨g, 0, rfl, fun i hi => ?_⟩⟩⟩
    have hv : (valsB bs)[i]? = some (.int .u8 (bs[i].toNat : Int)) := by simp [valsB, hi]
    rw [← htk, List.getElem?_take_of_lt (by omega), Array.getElem?_toList] at hv
    rw [Nat.zero_add]
    unfold World.cell?
    rw [hh]
    simpa using hv

/-! ### What is read -/
section
variable {H : Type} {enc : TypeId × Value → H} {P : Program} {w : World} {base : Nat} {sp : Nat → Bool} {held : Bool}
theorem wf_u8 {n : Int} (h : (Lit.int .u8 n).wf = true) : ∃ b : UInt8, n = (b.toNat : Int) := by
  have : 0 ≤ n ∧ n ≤ 255 := by simpa [Lit.wf, IntKind.min, IntKind.max, IntKind.signed, IntKind.bits] using h
  refine ⟨UInt8.ofNat n.toNat, ?_⟩
  have h2 : n.toNat < 256 := by omega
  rw [UInt8.toNat_ofNat_of_lt' h2]; omega
theorem open_byt {t e fuel : Nat} {cs : List Value} {x : DataW H × List MemPlace} (ht : P.underlying t = some (.slice e)) (he : P.underlying e = some (.int .u8)) (hc : P.cellsOf e = 1) (h : DataW.trod enc P w base sp held fuel t cs = some x) :
    ∃ A c bs, cs = [.slice A (bs : List UInt8).length c] ∧ Byt w A bs ∧ (A = none → c = 0) ∧ (bs : List UInt8).length ≤ c := by
  rcases open_ints ht he hc h with ⟨rfl, _⟩ | ⟨a, len, cap, zs, rfl, _, hlc, hcm, hz, _, hcell, hwf⟩
  · exact ⟨none, 0, [], rfl, Byt.nil, fun _ => rfl, Nat.le_refl _⟩
  · have hlz : len ≤ zs.length := by rw [hz]; split <;> omega
    have hbs : ∃ bs : List UInt8, bs.length = len ∧ ∀ i (h : i < bs.length), zs.getD i 0 = (bs[i].toNat : Int) := by
      refine ⟨(zs.take len).map fun n => UInt8.ofNat n.toNat, by simp; omega, fun i hi => ?_⟩
      have hil : i < len := by simp at hi; omega
      have hiz : i < zs.length := by omega
      obtain ⟨b, hb⟩ := wf_u8 (hwf zs[i] (List.getElem_mem hiz))
      rw [List.getElem_map, List.getElem_take, List.getD_eq_getElem?_getD, List.getElem?_eq_getElem hiz, Option.getD_some, hb]
      simp
    obtain ⟨bs, rfl, hb⟩ := hbs
    refine ⟨some a, cap, bs, rfl, ⟨by omega, fun h0 => ?_⟩, (fun h => by cases h), hlc⟩
    obtain ⟨b, o, spot⟩ := a
    have h1 := hcell 0 (by omega)
    have hspot : spot = none := by simpa [Addr.add] using World.cell?_spot h1
    subst hspot
    refine ⟨b, o, rfl, fun i hi => ?_⟩
    have := hcell i (by omega)
    rw [add_none, hb i hi] at this
    exact this
theorem list_of {α : Type} {n : Nat} {P : Nat → α → Prop} (h : ∀ i, i < n → ∃ x, P i x) : ∃ l : List α, l.length = n ∧ ∀ i (hi : i < l.length), P i l[i] := by
  induction n with
  | zero => exact ⟨[], rfl, fun i hi => by simp at hi⟩
  | succ n ih =>
    obtain ⟨l, h1, h2⟩ := ih fun i hi => h i (by omega)
    obtain ⟨x, hx⟩ := h n (by omega)
    refine ⟨l ++ [x], by simp [h1], fun i hi => ?_⟩
    by_cases hil : i < l.length
    · rw [List.getElem_append_left hil]; exact h2 i hil
    · have : i = l.length := by simp at hi; omega
      subst this
      simp; rw [h1]; exact hx
theorem open_parts {t e u fuel : Nat} {cs : List Value} {x : DataW H × List MemPlace} (ht : P.underlying t = some (.slice e)) (he : P.underlying e = some (.slice u)) (hu : P.underlying u = some (.int .u8)) (hce : P.cellsOf e = 1) (hcu : P.cellsOf u = 1)
    (h : DataW.trod enc P w base sp held fuel t cs = some x) : ∃ A c ps, cs = [.slice A (ps : List Part).length c] ∧ Parts w A ps := by
  rcases DataW.trod_slice ht h with ⟨rfl, _⟩ | ⟨a, len, cap, elems, rest, n, _, rfl, rfl, hb, hl, hm, hlen, hel, _⟩
  · exact ⟨none, 0, [], rfl, Nat.zero_le _, fun h => by simp at h, fun p hp => by simp at hp⟩
  · have each : ∀ i, i < len → ∃ p : Part, w.cell? (a.add i) = some (.slice p.1 p.2.2.length p.2.1) ∧ Byt w p.1 p.2.2 ∧ (p.1 = none → p.2.1 = 0) := by
      intro i hi
      have h1 := hel i hi
      rw [List.getElem?_eq_getElem (by omega), hce, Nat.mul_one] at h1
      cases hcs : w.cells? base (a.add i) 1 with
      | none => rw [hcs] at h1; cases h1
      | some cs =>
        rw [hcs] at h1
        obtain ⟨_, h2, h3⟩ := World.cells?_some hcs
        have h4 := h3 0 (by omega)
        obtain ⟨A, c, bs, rfl, h5, h6, _⟩ := open_byt he hu hcu (show DataW.trod enc P w base sp held n e cs = some _ from h1)
        refine ⟨(A, c, bs), ?_, h5, h6⟩
        have h7 : (a.add i).add 0 = a.add i := by simp [Addr.add]
        rw [h7] at h4
        simpa using h4
    obtain ⟨ps, hps, hp⟩ := list_of each
    subst hps
    refine ⟨some a, cap, ps, rfl, by omega, fun h0 => ?_, fun p hp' => ?_⟩
    · obtain ⟨b, o, spot⟩ := a
      have h1 := (hp 0 h0).1
      have hspot : spot = none := by simpa [Addr.add] using World.cell?_spot h1
      subst hspot
      refine ⟨b, o, rfl, fun i hi => ?_⟩
      have := (hp i hi).1
      rw [add_none] at this; exact this
    · obtain ⟨i, hi, rfl⟩ := List.getElem_of_mem hp'
      exact (hp i hi).2
end
end Go.Wk

/- Words for memory: a block that is known whole. No condition. -/
namespace Go.Wk
open Go Go.RowKit
def Blk (w : World) (g : Nat) (t : TypeId) (cs : Array Value) : Prop := w.heap[g]? = some (.cells cs t (0, 0))
section
variable {w w' : World} {g : Nat} {t : TypeId} {cs : Array Value}
theorem Blk.lt (h : Blk w g t cs) : g < w.heap.size := by
  rcases Nat.lt_or_ge g w.heap.size with hlt | hge
  · exact hlt
  · unfold Blk at h; rw [Array.getElem?_eq_none hge] at h; cases h
theorem Blk.cell (h : Blk w g t cs) (i : Nat) : w.cell? ⟨g, i, none⟩ = cs[i]? := cell_of_row w g i cs t (0, 0) h
theorem Blk.frozen (h : Blk w g t cs) (i : Nat) : w.frozen? ⟨g, i, none⟩ = false := by
  unfold Blk at h
  simp [World.frozen?, h]
theorem Blk.new (w : World) (t : TypeId) (cs : Array Value) : Blk (w.alloc (.cells cs t)) w.heap.size t cs := heap_alloc_new w _
theorem Blk.drew (h : Blk w g t cs) : Blk w.drew g t cs := h
theorem Blk.drewN (h : Blk w g t cs) (n : Nat) : Blk (w.drewN n) g t cs := h
theorem Blk.alloc (h : Blk w g t cs) (o : Obj) : Blk (w.alloc o) g t cs := (Below.heap_alloc w o g h.lt).trans h
theorem Blk.set_ (h : Blk w g t cs) (i : Nat) (u : Value) : Blk (w.setCell ⟨g, i, none⟩ u) g t (cs.setIfInBounds i u) := by
  unfold Blk at h ⊢
  simp [World.setCell, Array.getElem?_modify, h]
theorem Blk.far (h : Blk w g t cs) {p : Addr} (hp : g ≠ p.block) (u : Value) : Blk (w.setCell p u) g t cs := (Below.heap_setCell w p u g hp).trans h
theorem Blk.below {B : Nat} (h : Blk w g t cs) (hb : Below B w w') (hg : g < B) : Blk w' g t cs := (hb.block g hg).trans h
theorem Blk.grown {row : Option Nat} (h : Blk w g t cs) (hb : w.grownBy w' row) (hg : some g ≠ row) : Blk w' g t cs := (hb.block g h.lt hg).trans h
theorem Blk.ne_ {g' : Nat} {t' : TypeId} {cs' : Array Value} (h : Blk w g t cs) (h' : Blk w g' t' cs') (hne : t ≠ t') : g ≠ g' := by
  rintro rfl
  unfold Blk at h h'
  rw [h] at h'
  injection h' with h'
  injection h' with _ ht
  exact hne ht
end
end Go.Wk

/- Words of this seat: numbers, texts, worlds. No condition. -/
namespace Go.Proofs.YtkpikpaepgknnaaGreatDoor
open Go Go.RowKit Go.Wk Go.Sort Go.Lib
def i64 (n : Int) : Prop := -9223372036854775808 ≤ n ∧ n ≤ 9223372036854775807
theorem hidE (a : Int) : ∃ A : Int, Hid (A = a) := ⟨a, Lib.hid rfl⟩
theorem bthen {a b c : World} (h : Below a.heap.size a b) (k : Below b.heap.size b c) : Below a.heap.size a c := h.trans (k.mono h.size)
theorem alloc_cell {w : World} {vs : Array Value} {e i : Nat} : (w.alloc (.cells vs e)).cell? ⟨w.heap.size, 0 + i, none⟩ = vs[i]? := by
  have h : (w.alloc (.cells vs e)).heap[w.heap.size]? = some (.cells vs e) := by
    show (w.heap.push _)[w.heap.size]? = _
    simp
  unfold World.cell?
  rw [h, Nat.zero_add]
  rfl
theorem size_alloc (w : World) (o : Obj) : (w.alloc o).heap.size = w.heap.size + 1 := by show (w.heap.push _).size = _; simp
theorem below_drawn (w : World) (n : Nat) : Below w.heap.size w (w.drewN n) := ⟨rfl, rfl, rfl, Nat.le_refl _, fun _ _ => rfl⟩
def str (l : List UInt8) : Value := .string ⟨l.toArray⟩
theorem bytes_ext {a b : ByteArray} (h : a.data.toList = b.data.toList) : a = b := by
  cases a; cases b; simp at h; rw [h]
theorem bytes_app (a b : ByteArray) : (a ++ b).data.toList = a.data.toList ++ b.data.toList := by simp
theorem bytes_cut (a : ByteArray) (i j : Nat) : (a.extract i j).data.toList = (a.data.toList.take j).drop i := by
  simp [ByteArray.data_extract, Array.toList_extract, List.extract]
  rw [List.drop_take]
theorem str_ne {a b : ByteArray} (h : ¬ a.data.toList = b.data.toList) : (a.toList == b.toList) = false := by
  rw [ByteArray.toList_eq, ByteArray.toList_eq]; simpa using h
end Go.Proofs.YtkpikpaepgknnaaGreatDoor

/- The sum of the packet's mark, from its end. No condition. -/
namespace Go.Proofs.YtkpikpaepgknnaaGreatDoor
open Go Go.RowKit Go.Wk
set_option maxHeartbeats 8000000 in
set_option maxRecDepth 100000 in
theorem hash_rev {w : World} (g c : Nat) (h0 : w.cell? ⟨g, 0, none⟩ = some (.int .u8 60)) (h1 : w.cell? ⟨g, 1, none⟩ = some (.int .u8 63)) (h2 : w.cell? ⟨g, 2, none⟩ = some (.int .u8 120)) (h3 : w.cell? ⟨g, 3, none⟩ = some (.int .u8 112)) (h4 : w.cell? ⟨g, 4, none⟩ = some (.int .u8 97)) (h5 : w.cell? ⟨g, 5, none⟩ = some (.int .u8 99)) (h6 : w.cell? ⟨g, 6, none⟩ = some (.int .u8 107)) (h7 : w.cell? ⟨g, 7, none⟩ = some (.int .u8 101)) (h8 : w.cell? ⟨g, 8, none⟩ = some (.int .u8 116)) :
    Calls Tryz.prog 151 #[.slice (some ⟨g, 0, none⟩) 9 c] w fun e w' => e = .returned (.tuple #[.int .u32 3058190937, .int .u32 558416115]) ∧ w = w' := by
  go_enter Tryz.func151, Tryz.ntmps151
  go_wp2
  refine wp_loop_rounds 10 ?_; rw [rounds_succ]
  go_wp2
  iterate 9 (rw [rounds_succ]; go_wp2)
  refine wp_loop_rounds 5 ?_
  iterate 5 (rw [rounds_succ]; go_wp2)
  go_ret2
  exact ⟨rfl, rfl⟩
end Go.Proofs.YtkpikpaepgknnaaGreatDoor

/- Contracts of the cursor. No condition. -/
namespace Go.Proofs.YtkpikpaepgknnaaGreatDoor
open Go Go.RowKit Go.Wk
/-- what was there is there as it was, but for one block -/
structure Save (L : Nat) (w w' : World) : Prop where
  os : w'.os = w.os
  tape : w'.tape = w.tape
  output : w'.output = w.output
  size : w.heap.size ≤ w'.heap.size
  block : ∀ k, k < w.heap.size → k ≠ L → w'.heap[k]? = w.heap[k]?
theorem Save.refl (L : Nat) (w : World) : Save L w w := ⟨rfl, rfl, rfl, Nat.le_refl _, fun _ _ _ => rfl⟩
theorem Save.trans {L : Nat} {a b c : World} (h : Save L a b) (k : Save L b c) : Save L a c :=
  ⟨k.os.trans h.os, k.tape.trans h.tape, k.output.trans h.output, Nat.le_trans h.size k.size, fun j hj hn => (k.block j (Nat.lt_of_lt_of_le hj h.size) hn).trans (h.block j hj hn)⟩
theorem Save.drawn {L : Nat} {a b : World} (h : Save L a b) (n : Nat) : Save L a (b.drewN n) := ⟨h.os, h.tape, h.output, h.size, h.block⟩
theorem Save.store {L : Nat} {a b : World} (h : Save L a b) (o : Nat) (u : Value) : Save L a (b.setCell ⟨L, o, none⟩ u) :=
  h.trans ⟨rfl, rfl, rfl, by simp [World.setCell], fun k _ hn => Below.heap_setCell _ _ _ _ hn⟩
theorem Save.cell {L : Nat} {a b : World} (h : Save L a b) {p : Addr} (hn : p.block ≠ L) (hp : p.block < a.heap.size) : b.cell? p = a.cell? p := World.cell?_of_block (w := a) (h.block p.block hp hn)
theorem Save.of_below {L : Nat} {a b : World} (h : Below a.heap.size a b) : Save L a b := ⟨h.os, h.tape, h.output, h.size, fun k hk _ => h.block k hk⟩
theorem Save.below {L B : Nat} {a b : World} (h : Save L a b) (hL : B ≤ L) (hB : B ≤ a.heap.size) : Below B a b := ⟨h.os, h.tape, h.output, h.size, fun k hk => h.block k (by omega) (by omega)⟩
theorem Save.byt {L : Nat} {a b : World} {A : Option Addr} {bs : List UInt8} (h : Save L a b) (hn : 0 < bs.length → ∀ x, A = some x → x.block ≠ L) (hb : Byt a A bs) : Byt b A bs := by
  refine ⟨hb.1, fun h0 => ?_⟩
  obtain ⟨g, o, e, hc⟩ := hb.2 h0
  refine ⟨g, o, e, fun i hi => ?_⟩
  rw [h.cell (p := ⟨g, o + i, none⟩) (show g ≠ L from hn h0 _ e) (cell_lt (hc i hi))]
  exact hc i hi
structure Cur (w0 w : World) (L : Nat) (A : Option Addr) (c : Nat) (bs : List UInt8) (at' : Nat) : Prop where
  ne : 0 < bs.length → ∀ x, A = some x → x.block ≠ L
  bel : Save L w0 w
  cb : w.cell? ⟨L, 0, none⟩ = some (.slice A bs.length c)
  ca : w.cell? ⟨L, 1, none⟩ = some (.int .i64 (at' : Nat))
  fr : w.frozen? ⟨L, 1, none⟩ = false
  byt : Byt w0 A bs
  le : at' ≤ bs.length
  small : bs.length ≤ 10000000
theorem Cur.drawn {w0 w : World} {L : Nat} {A : Option Addr} {c : Nat} {bs : List UInt8} {p : Nat} (h : Cur w0 w L A c bs p) (n : Nat) : Cur w0 (w.drewN n) L A c bs p :=
  ⟨h.ne, h.bel.drawn n, h.cb, h.ca, h.fr, h.byt, h.le, h.small⟩
theorem Cur.go {w0 w : World} {L : Nat} {A : Option Addr} {c : Nat} {bs : List UInt8} {p : Nat} (h : Cur w0 w L A c bs p) (q : Nat) (hq : q ≤ bs.length) : Cur w0 (w.setCell ⟨L, 1, none⟩ (.int .i64 (q : Nat))) L A c bs q := by
  refine ⟨h.ne, h.bel.store _ _, ?_, World.cell?_setCell_same _ _ _ h.ca, ?_, h.byt, hq, h.small⟩
  · rw [World.cell?_setCell_other _ _ _ _ (by intro e; cases e)]; exact h.cb
  · simp [h.fr]
/-- the base is where it stands -/
theorem Cur.here {w0 w : World} {L : Nat} {A : Option Addr} {c : Nat} {bs : List UInt8} {p : Nat} (h : Cur w0 w L A c bs p) : Cur w w L A c bs p :=
  ⟨h.ne, Save.refl _ _, h.cb, h.ca, h.fr, h.bel.byt h.ne h.byt, h.le, h.small⟩
/-- the byte at the place; -1: none -/
def peekS (bs : List UInt8) (p : Nat) : Int := match bs[p]? with | some b => (b.toNat : Int) | none => -1
set_option maxHeartbeats 1000000 in
set_option maxRecDepth 100000 in
theorem cur_peek {w0 w : World} {L : Nat} {A : Option Addr} {c : Nat} {bs : List UInt8} {p : Nat} (h : Cur w0 w L A c bs p) :
    Calls Tryz.prog 107 #[.pointer (some ⟨L, 0, none⟩), .int .i64 0] w fun e w' => e = .returned (.int .i64 (peekS bs p)) ∧ Cur w0 w' L A c bs p := by
  have H := Lib.hid h
  obtain ⟨h1, h2, h3, h4, h5, h6, h7, h8⟩ := h
  have hS := Lib.hid (show peekS bs p = match bs[p]? with | some b => (b.toNat : Int) | none => -1 from rfl)
  generalize peekS bs p = S at *
  by_cases hlt : p < bs.length
  · obtain ⟨b, o, rfl, hc⟩ := h6.2 (by omega)
    have hck := (h2.cell (p := ⟨b, o + p, none⟩) (show b ≠ L from h1 (by omega) ⟨b, o, none⟩ rfl) (cell_lt (hc p hlt))).trans (hc p hlt)
    have hS2 := Lib.hid (show S = (bs[p].toNat : Int) by rw [hS.out, List.getElem?_eq_getElem hlt])
    generalize bs[p] = x at *
    clear hc h6 h2 h1
    go_enter Tryz.func107, Tryz.ntmps107
    go_wp2
    · go_quiet (fail)
      go_wp2
      go_ret
      have hxw : wrap64 (x.toNat : Int) = (x.toNat : Int) := by have := u8_lt x; unfold wrap64; omega
      exact ⟨by rw [hS2.out]; exact congrArg (fun z => Ending.returned (.int .i64 z)) hxw, H.out.drawn _⟩
  · have hS2 := Lib.hid (show S = -1 by rw [hS.out, List.getElem?_eq_none (by omega)])
    clear h6 h2 h1
    go_enter Tryz.func107, Tryz.ntmps107
    go_wp2
    go_ret
    exact ⟨by rw [hS2.out]; rfl, H.out⟩
theorem peekS_in {bs : List UInt8} {p : Nat} (h : p < bs.length) : 0 ≤ peekS bs p ∧ peekS bs p ≤ 255 ∧ peekS bs p = (bs[p].toNat : Int) := by
  have e : peekS bs p = (bs[p].toNat : Int) := by unfold peekS; rw [List.getElem?_eq_getElem h]
  have := u8_lt bs[p]
  rw [e]; omega
theorem peekS_out {bs : List UInt8} {p : Nat} (h : ¬ p < bs.length) : peekS bs p = -1 := by unfold peekS; rw [List.getElem?_eq_none (by omega)]
set_option maxHeartbeats 1000000 in
set_option maxRecDepth 100000 in
theorem cur_next {w0 w : World} {L : Nat} {A : Option Addr} {c : Nat} {bs : List UInt8} {p : Nat} (h : Cur w0 w L A c bs p) :
    Calls Tryz.prog 77 #[.pointer (some ⟨L, 0, none⟩)] w fun e w' => e = .returned (.int .i64 (peekS bs p)) ∧ Cur w0 w' L A c bs (if p < bs.length then p + 1 else p) := by
  have hk := cur_peek h
  by_cases hlt : p < bs.length
  · have hs := peekS_in hlt
    rw [if_pos hlt]
    have hs0 := hs.1
    generalize peekS bs p = S at *
    have hsm := h.small
    clear h hs
    go_enter Tryz.func77, Tryz.ntmps77
    go_wp2_with (go_at_call 107; (with_reducible refine hk.mono ?_); rintro e w1 ⟨rfl, h1⟩; have hca := h1.ca; have hfr := h1.fr; replace h1 := Lib.hid h1)
    go_ret
    have h2 := h1.out.go (p + 1) hlt
    rw [show ((p + 1 : Nat) : Int) = (p : Int) + 1 by omega] at h2
    exact ⟨rfl, h2⟩
  · have hs := peekS_out hlt
    rw [if_neg hlt]
    rw [hs] at hk ⊢
    clear h
    go_enter Tryz.func77, Tryz.ntmps77
    go_wp2_with (go_at_call 107; (with_reducible refine hk.mono ?_); rintro e w1 ⟨rfl, h1⟩; replace h1 := Lib.hid h1)
    go_ret
    exact ⟨rfl, h1.out⟩
set_option maxHeartbeats 400000 in
theorem cur_left {w0 w : World} {L : Nat} {A : Option Addr} {c : Nat} {bs : List UInt8} {p : Nat} (h : Cur w0 w L A c bs p) :
    Calls Tryz.prog 75 #[.pointer (some ⟨L, 0, none⟩)] w fun e w' => e = .returned (.int .i64 ((bs.length : Int) - p)) ∧ w' = w := by
  obtain ⟨h1, h2, h3, h4, h5, h6, h7, h8⟩ := h
  clear h6 h2 h1
  go_enter Tryz.func75, Tryz.ntmps75
  go_wp2
  go_ret
  exact ⟨rfl, rfl⟩
set_option maxRecDepth 100000 in
theorem conv_at (W : World) (b o cap : Nat) (x : UInt8) (h : W.cell? ⟨b, o, none⟩ = some (.int .u8 (x.toNat : Int))) : (convert 25 9 (.slice (some ⟨b, o, none⟩) 1 cap)).run Tryz.prog W = .ok (.string ⟨#[x]⟩) W := by
  have h := run_convert_bytes_back (P := Tryz.prog) W 25 9 5 ⟨b, o, none⟩ cap [x] Tryz.underlying25 Tryz.underlying5 Tryz.underlying9 (fun j hj => by
    have : j = 0 := by simpa using hj
    subst this
    rw [Lib.add_plain]; exact h)
  exact h
set_option maxHeartbeats 1000000 in
set_option maxRecDepth 100000 in
theorem cur_match_yes {w0 w : World} {L : Nat} {A : Option Addr} {c : Nat} {bs : List UInt8} {p : Nat} {ch : UInt8} (h : Cur w0 w L A c bs p) (hcap : bs.length ≤ c) (hp : bs[p]? = some ch) :
    Calls Tryz.prog 42 #[.pointer (some ⟨L, 0, none⟩), .string ⟨#[ch]⟩] w fun e w' => e = .returned (.bool true) ∧ Cur w0 w' L A c bs (p + 1) := by
  have H := Lib.hid h
  obtain ⟨h1, h2, h3, h4, h5, h6, h7, h8⟩ := h
  obtain ⟨hlt, hpe⟩ := List.getElem?_eq_some_iff.1 hp
  obtain ⟨b, o, rfl, hc⟩ := h6.2 (by omega)
  have hck := (h2.cell (p := ⟨b, o + p, none⟩) (show b ≠ L from h1 (by omega) ⟨b, o, none⟩ rfl) (cell_lt (hc p hlt))).trans (hc p hlt)
  rw [hpe] at hck
  have hcv := fun n => conv_at (w.drewN n) b (o + p) (c - p) ch hck
  clear hc h6 h2 h1 hp hpe
  have hg : decide ((bs.length : Int) - (p : Int) < 1) = false := by simp; omega
  go_enter Tryz.func42, Tryz.ntmps42
  go_wp2
  go_quiet ((go_at_call 75; refine Calls.quiet_of_same (cur_left (H.out.drawn _))))
  go_wp2
  go_ret
  have h9 := (H.out.drawn nq).go (p + 1) hlt
  rw [show ((p + 1 : Nat) : Int) = (p : Int) + 1 by omega] at h9
  exact ⟨rfl, h9⟩
set_option maxHeartbeats 1000000 in
set_option maxRecDepth 100000 in
theorem cur_match_no {w0 w : World} {L : Nat} {A : Option Addr} {c : Nat} {bs : List UInt8} {p : Nat} {ch : UInt8} (h : Cur w0 w L A c bs p) (hcap : bs.length ≤ c) (hp : bs[p]? ≠ some ch) :
    Calls Tryz.prog 42 #[.pointer (some ⟨L, 0, none⟩), .string ⟨#[ch]⟩] w fun e w' => e = .returned (.bool false) ∧ Cur w0 w' L A c bs p := by
  have H := Lib.hid h
  obtain ⟨h1, h2, h3, h4, h5, h6, h7, h8⟩ := h
  by_cases hlt : p < bs.length
  · obtain ⟨b, o, rfl, hc⟩ := h6.2 (by omega)
    have hck := (h2.cell (p := ⟨b, o + p, none⟩) (show b ≠ L from h1 (by omega) ⟨b, o, none⟩ rfl) (cell_lt (hc p hlt))).trans (hc p hlt)
    have hcv := fun n => conv_at (w.drewN n) b (o + p) (c - p) bs[p] hck
    have hne : (bs[p] == ch) = false := by
      rw [beq_eq_false_iff_ne]; intro e; exact hp (by rw [List.getElem?_eq_getElem hlt, e])
    generalize bs[p] = x at *
    clear hc h6 h2 h1 hp
    have hg : decide ((bs.length : Int) - (p : Int) < 1) = false := by simp; omega
    go_enter Tryz.func42, Tryz.ntmps42
    go_wp2
    go_quiet ((go_at_call 75; refine Calls.quiet_of_same (cur_left (H.out.drawn _))))
    go_wp2
    go_ret
    exact ⟨rfl, H.out.drawn _⟩
  · clear h6 h2 h1 hp
    have hg : decide ((bs.length : Int) - (p : Int) < 1) = true := by simp; omega
    go_enter Tryz.func42, Tryz.ntmps42
    go_wp2
    go_quiet ((go_at_call 75; refine Calls.quiet_of_same (cur_left (H.out.drawn _))))
    go_wp2
    go_ret
    exact ⟨rfl, H.out.drawn _⟩
end Go.Proofs.YtkpikpaepgknnaaGreatDoor

/- Match of the cursor, whatever text. No condition. -/
namespace Go.Proofs.YtkpikpaepgknnaaGreatDoor
open Go Go.RowKit Go.Wk
def stands (bs : List UInt8) (p : Nat) (s : List UInt8) : Bool := decide (p + s.length ≤ bs.length) && ((bs.drop p).take s.length == s)
set_option maxRecDepth 100000 in
theorem conv_many (W : World) (b o n cap : Nat) (l : List UInt8) (hl : l.length = n) (h : ∀ i (hi : i < l.length), W.cell? ⟨b, o + i, none⟩ = some (.int .u8 (l[i].toNat : Int))) : (convert 25 9 (.slice (some ⟨b, o, none⟩) n cap)).run Tryz.prog W = .ok (.string ⟨l.toArray⟩) W := by
  subst hl
  exact run_convert_bytes_back W 25 9 5 ⟨b, o, none⟩ cap l Tryz.underlying25 Tryz.underlying5 Tryz.underlying9 (fun j hj => by rw [Lib.add_plain]; exact h j hj)
set_option maxHeartbeats 1000000 in
set_option maxRecDepth 100000 in
theorem cur_match {w0 w : World} {L : Nat} {A : Option Addr} {c : Nat} {bs : List UInt8} {p : Nat} (s : ByteArray) (h : Cur w0 w L A c bs p) (hcap : bs.length ≤ c) (hs : 1 ≤ s.size) (hs2 : s.size ≤ 10000000) :
    Calls Tryz.prog 42 #[.pointer (some ⟨L, 0, none⟩), .string s] w fun e w' => e = .returned (.bool (stands bs p s.data.toList)) ∧ Cur w0 w' L A c bs (if stands bs p s.data.toList then p + s.size else p) := by
  have H := Lib.hid h
  have hsl : s.data.toList.length = s.size := Array.length_toList
  obtain ⟨h1, h2, h3, h4, h5, h6, h7, h8⟩ := h
  by_cases hle : p + s.size ≤ bs.length
  · obtain ⟨b, o, rfl, hc⟩ := h6.2 (by omega)
    have hcv := fun n => conv_many (w.drewN n) b (o + p) s.size (c - p) ((bs.drop p).take s.size) (by simp; omega) (fun i hi => by
      have hi2 : i < s.size := by simp at hi; omega
      have := (h2.cell (p := ⟨b, o + (p + i), none⟩) (show b ≠ L from h1 (by omega) ⟨b, o, none⟩ rfl) (cell_lt (hc (p + i) (by omega)))).trans (hc (p + i) (by omega))
      rw [Nat.add_assoc, List.getElem_take, List.getElem_drop]
      exact this)
    have hpc : ¬ c = p := by omega
    have hg : decide ((bs.length : Int) - (p : Int) < (s.size : Int)) = false := by simp; omega
    by_cases heq : (bs.drop p).take s.size = s.data.toList
    · have hst : stands bs p s.data.toList = true := by simp [stands, hsl, hle, heq]
      rw [hst]
      have hX : ({ data := (List.take s.size (List.drop p bs)).toArray } : ByteArray) = s := by apply bytes_ext; simpa using heq
      rw [hX] at hcv
      clear hc h6 h2 h1 heq hX hst hsl
      go_enter Tryz.func42, Tryz.ntmps42
      go_wp2
      go_quiet ((go_at_call 75; refine Calls.quiet_of_same (cur_left (H.out.drawn _))))
      go_wp2
      go_ret
      have h9 := (H.out.drawn nq).go (p + s.size) hle
      rw [show ((p + s.size : Nat) : Int) = (p : Int) + (s.size : Int) by omega] at h9
      exact ⟨rfl, h9⟩
    · have hst : stands bs p s.data.toList = false := by
        unfold stands
        rw [hsl]
        simp [heq]
      rw [hst]
      generalize hX : ({ data := (List.take s.size (List.drop p bs)).toArray } : ByteArray) = X at hcv
      have hXl : X.data.toList = (bs.drop p).take s.size := by rw [← hX]
      have hne := str_ne (a := X) (b := s) (by rw [hXl]; exact heq)
      clear hXl
      clear hc h6 h2 h1 heq hX hst hsl
      go_enter Tryz.func42, Tryz.ntmps42
      go_wp2
      go_quiet ((go_at_call 75; refine Calls.quiet_of_same (cur_left (H.out.drawn _))))
      go_wp2
      go_ret
      exact ⟨rfl, H.out.drawn _⟩
  · have hst : stands bs p s.data.toList = false := by
      unfold stands
      rw [hsl]
      simp [hle]
    rw [hst]
    have hg : decide ((bs.length : Int) - (p : Int) < (s.size : Int)) = true := by
      rw [decide_eq_true_eq]; omega
    clear h6 h2 h1 hst hsl
    go_enter Tryz.func42, Tryz.ntmps42
    go_wp2
    go_quiet ((go_at_call 75; refine Calls.quiet_of_same (cur_left (H.out.drawn _))))
    go_wp2
    go_ret
    exact ⟨rfl, H.out.drawn _⟩
end Go.Proofs.YtkpikpaepgknnaaGreatDoor

/- Contracts of the library's functions on bytes, at this program's numbers. No condition. -/
namespace Go.Proofs
open Go.Shelf
def Tryz.laysSlK4_ren : Go.Shelf.Ren := ⟨fun | 4 => 69 | n => n, fun | 22 => 25 | 4 => 4 | 5 => 5 | n => n, fun | n => n⟩
theorem Tryz.laysSlK4 : Go.Proofs.SlLaysK.n4 Tryz.prog Tryz.laysSlK4_ren := {
  mixed := by kernel_rfl
  f4 := Tryz.func69.trans (congrArg some (by kernel_rfl))
  t4 := Tryz.underlying4
  a4 := Tryz.isAgg4
  z4 := Tryz.sizeOf4
  v4 := Tryz.zeroValue4
  t22 := Tryz.underlying25
  a22 := Tryz.isAgg25
  z22 := Tryz.sizeOf25
  v22 := Tryz.zeroValue25
  t5 := Tryz.underlying5
  i5 := by kernel_rfl }
open Go.RowKit Go.Lib in
theorem Tryz.bytes_Clone_at (a : Addr) (n c : Nat) (xs : List Int) (w : World) (hx : xs.length = n) (hbig : n ≤ 140737488355328) (hc : ∀ i, i < n → w.cell? (a.add i) = some (.int .u8 (xs.getD i 0))) :
    Calls Tryz.prog 69 #[.slice (some a) n c] w fun e w' => ∃ v', e = .returned v' ∧ w'.ownsRow w.heap.size 5 1 v' n (xs.map (Value.int .u8)) ∧ v' ≠ .slice none 0 0 ∧ Below w.heap.size w w' := Any.bytes_Clone_at Tryz.laysSlK4 a n c xs w hx hbig hc
open Go.RowKit Go.Lib in
theorem Tryz.bytes_Clone_nil (n c : Nat) (w : World) :
    Calls Tryz.prog 69 #[.slice none n c] w fun e w' => e = .returned (.slice none 0 0) ∧ w' = w := Any.bytes_Clone_nil Tryz.laysSlK4 n c w
end Go.Proofs

/- Take of the cursor. No condition. -/
namespace Go.Proofs.YtkpikpaepgknnaaGreatDoor
open Go Go.RowKit Go.Wk
attribute [local go_sem ↓] Go.wp_at_zero Go.wp_at_succ
theorem Cur.below {w0 w w1 : World} {L : Nat} {A : Option Addr} {c : Nat} {bs : List UInt8} {p : Nat} (h : Cur w0 w L A c bs p) (hb : Below w.heap.size w w1) : Cur w0 w1 L A c bs p := by
  have hl := cell_lt h.cb
  exact ⟨h.ne, h.bel.trans (Save.of_below hb), (hb.cell hl).trans h.cb, (hb.cell (p := ⟨L, 1, none⟩) hl).trans h.ca, (hb.frozen (p := ⟨L, 1, none⟩) hl).trans h.fr, h.byt, h.le, h.small⟩
/-- what Take answers -/
def takeS (bs : List UInt8) (p n : Nat) : List UInt8 := if p + n ≤ bs.length then (bs.drop p).take n else []
def takeB (bs : List UInt8) (p n : Nat) : Bool := decide (p + n ≤ bs.length)
def TakeR (w0 w : World) (L : Nat) (A : Option Addr) (c : Nat) (bs : List UInt8) (p n : Nat) (e : Ending) (w' : World) : Prop :=
  ∃ A' c', e = .returned (.tuple #[.slice A' (takeS bs p n).length c', .bool (takeB bs p n)]) ∧ Byt w' A' (takeS bs p n) ∧ Cur w0 w' L A c bs (if takeB bs p n then p + n else p)
theorem own_byt2 {w : World} {B e : Nat} {v : Value} {bs : List UInt8} (h : w.ownsRow B e 1 v bs.length (valsB bs)) (h0 : v ≠ .slice none 0 0) (hm : bs.length ≤ maxLen) :
    ∃ g c, B ≤ g ∧ v = .slice (some ⟨g, 0, none⟩) bs.length c ∧ Byt w (some ⟨g, 0, none⟩) bs := by
  obtain ⟨A, c, hv, hb⟩ := own_byt h
  rcases h.2 with ⟨rfl, _⟩ | ⟨g, cap, cur, rfl, hB, _⟩
  · exact absurd rfl h0
  · injection hv with h1 h2 h3
    subst h1
    exact ⟨g, cap, hB, rfl, hb hm⟩
theorem Byt.store {w : World} {g o : Nat} {bs : List UInt8} (h : Byt w (some ⟨g, o, none⟩) bs) {p : Addr} (hp : g ≠ p.block) (u : Value) : Byt (w.setCell p u) (some ⟨g, o, none⟩) bs := by
  refine ⟨h.1, fun h0 => ?_⟩
  obtain ⟨b, o', e, hc⟩ := h.2 h0
  cases e
  refine ⟨g, o, rfl, fun i hi => ?_⟩
  rw [World.cell?_setCell_other _ _ _ _ (by intro e; apply hp; rw [e])]
  exact hc i hi
theorem valsB_map (l : List UInt8) : (l.map fun x => (x.toNat : Int)).map (Value.int .u8) = valsB l := by simp [valsB]
set_option maxHeartbeats 1000000 in
set_option maxRecDepth 100000 in
theorem cur_take {w0 w : World} {L : Nat} {A : Option Addr} {c : Nat} {bs : List UInt8} {p : Nat} (n : Nat) (h : Cur w0 w L A c bs p) (hcap : bs.length ≤ c) (hn : 1 ≤ n) (hn2 : n ≤ 10000000) :
    Calls Tryz.prog 76 #[.pointer (some ⟨L, 0, none⟩), .int .i64 n] w (TakeR w0 w L A c bs p n) := by
  have H := Lib.hid h
  obtain ⟨h1, h2, h3, h4, h5, h6, h7, h8⟩ := h
  by_cases hle : p + n ≤ bs.length
  · obtain ⟨b, o, rfl, hc⟩ := h6.2 (by omega)
    have hpc : ¬ c = p := by omega
    have cl := Tryz.bytes_Clone_at ⟨b, o + p, none⟩ n (c - p) (((bs.drop p).take n).map fun x => (x.toNat : Int)) w.drew (by simp; omega) (by omega) (fun i hi => by
      have := (h2.cell (p := ⟨b, o + (p + i), none⟩) (show b ≠ L from h1 (by omega) ⟨b, o, none⟩ rfl) (cell_lt (hc (p + i) (by omega)))).trans (hc (p + i) (by omega))
      rw [Wk.add_none, Nat.add_assoc]
      show w.cell? _ = _
      rw [this]
      simp [List.getD, hi, show p + i < bs.length by omega])
    have hts := Lib.hid (show takeS bs p n = (bs.drop p).take n by simp [takeS, hle])
    have htb := Lib.hid (show takeB bs p n = true by simp [takeB, hle])
    have hl : ((bs.drop p).take n).length = n := by simp; omega
    generalize hT : (bs.drop p).take n = T at *
    replace hT := Lib.hid hT
    replace cl := Lib.hid cl
    have kp := Lib.hid fun (w1 : World) (hb : Below w.heap.size w w1) => (⟨(H.out.below hb).cb, (H.out.below hb).ca⟩ : w1.cell? ⟨L, 0, none⟩ = some (.slice (some ⟨b, o, none⟩) bs.length c) ∧ w1.cell? ⟨L, 1, none⟩ = some (.int .i64 (p : Nat)))
    have hp0 : (0 : Int) ≤ (p : Int) := by omega
    have hpn : (p : Int) + (n : Int) ≤ (bs.length : Int) := by omega
    have hbc : (bs.length : Int) ≤ (c : Int) := by omega
    have hw : IntKind.i64.wrap ((p : Int) + (n : Int)) = (p : Int) + (n : Int) := IntWalk.i64_in _ (by omega)
    clear hc h6 h2 h1
    go_enter Tryz.func76, Tryz.ntmps76
    go_wp2_with (go_at_call 75; (with_reducible refine (cur_left H.out).mono ?_); rintro e w1 ⟨rfl, rfl⟩)
    go_region_held (fun w' => w'.cell? ⟨L, 0, none⟩ = some (.slice (some ⟨b, o, none⟩) bs.length c) ∧ w'.cell? ⟨L, 1, none⟩ = some (.int .i64 (p : Nat)))
      (first | go_keep | exact kp.out _ ((Below.refl _ _).drew.trans hw2))
      ((go_at_call 69; (with_reducible refine cl.out.mono ?_); rintro e w2 ⟨v, rfl, hown, hne, hw2⟩))
    have hb2 : Below w1.heap.size w1 w2 := (Below.refl w1.heap.size w1).drew.trans hw2
    have hC2 := Lib.hid (H.out.below hb2)
    have k5 := hC2.out.fr
    obtain ⟨k3, k4⟩ := kp.out _ hb2
    rw [valsB_map] at hown
    have hlm : T.length ≤ maxLen := by unfold maxLen; omega
    subst hl
    obtain ⟨g, c', hg, rfl, hby⟩ := own_byt2 hown hne hlm
    have hgL : g ≠ L := by
      have hlt : L < w1.heap.size := cell_lt H.out.cb
      have hg : w1.heap.size ≤ g := hg
      intro e; omega
    replace hby := Lib.hid (Byt.store hby (p := ⟨L, 1, none⟩) hgL (.int .i64 ((p : Int) + (T.length : Int))))
    clear hown hne hw2 hw
    have hw : IntKind.i64.wrap ((p : Int) + (T.length : Int)) = (p : Int) + (T.length : Int) := IntWalk.i64_in _ (by omega)
    go_wp2
    go_ret2
    refine ⟨some ⟨g, 0, none⟩, c', ?_, ?_, ?_⟩
    · rw [hts.out, htb.out]; rfl
    · rw [hts.out]; exact hby.out
    · rw [htb.out, if_pos rfl]
      have h9 := hC2.out.go (p + T.length) hle
      rw [show ((p + T.length : Nat) : Int) = (p : Int) + (T.length : Int) by omega] at h9
      exact h9
  · have hts := Lib.hid (show takeS bs p n = [] by simp [takeS, hle])
    have htb := Lib.hid (show takeB bs p n = false by simp [takeB, hle])
    have hg : decide ((bs.length : Int) - (p : Int) < (n : Int)) = true := by rw [decide_eq_true_eq]; omega
    clear h6 h2 h1
    go_enter Tryz.func76, Tryz.ntmps76
    go_wp2_with (go_at_call 75; (with_reducible refine (cur_left H.out).mono ?_); rintro e w1 ⟨rfl, rfl⟩)
    go_ret2
    refine ⟨none, 0, ?_, ?_, ?_⟩
    · rw [hts.out, htb.out]; rfl
    · rw [hts.out]; exact Byt.nil
    · rw [htb.out]; exact H.out
end Go.Proofs.YtkpikpaepgknnaaGreatDoor

/- Texts in two bytes a sign, and in one: the plain law. No condition. -/
namespace Go.Xt
open Go
def signB (x : Int) : Bool := decide (x = 9) || decide (x = 10) || decide (x = 13) || (decide (32 ≤ x) && decide (x ≠ 65534) && decide (x ≠ 65535))
def validB (x : Int) : Bool := (decide (0 ≤ x) && decide (x < 55296)) || (decide (57343 < x) && decide (x ≤ 1114111))
def encU (x : Nat) : List UInt8 := (Utf8.encode (x : Int)).data.toList
def two (a b : UInt8) : Nat := a.toNat * 256 + b.toNat
def pairS (half c : Nat) : Nat := 65536 + (half - 55296) * 1024 + c - 56320
theorem pairS_int (half c : Nat) (h : 55296 ≤ half) (hc : 56320 ≤ c) : ((pairS half c : Nat) : Int) = 65536 + ((half : Int) - 55296) * 1024 + (c : Int) - 56320 := by unfold pairS; omega
theorem pairS_bd (half c : Nat) (h : 55296 ≤ half) (h2 : half < 56320) (hc : 56320 ≤ c) (hc2 : c ≤ 57343) : 65536 ≤ pairS half c ∧ pairS half c ≤ 1114111 := by unfold pairS; omega
/-- what stands in two bytes each, half a sign being kept; none: it is no text -/
def wS : Nat → List UInt8 → Option (List UInt8)
  | half, a :: b :: r =>
    if half ≠ 0 then (if two a b < 56320 ∨ 57343 < two a b then none else if signB ((pairS half (two a b) : Nat) : Int) then (wS 0 r).map (encU (pairS half (two a b)) ++ ·) else none)
    else if 55296 ≤ two a b ∧ two a b < 56320 then wS (two a b) r
    else if 56320 ≤ two a b ∧ two a b ≤ 57343 then none
    else if signB ((two a b : Nat) : Int) then (wS 0 r).map (encU (two a b) ++ ·) else none
  | half, [] => if half = 0 then some [] else none
  | _, [_] => none
def okB (c : UInt8) : Bool := decide (32 ≤ c.toNat ∧ c.toNat ≤ 126) || c == 9 || c == 10 || c == 13 || decide (161 ≤ c.toNat)
def lS : List UInt8 → Option (List UInt8)
  | [] => some []
  | c :: r => if okB c then (lS r).map (encU c.toNat ++ ·) else none
def plainS (bs : List UInt8) : Option (List UInt8) := match bs with
  | 254 :: 255 :: r => wS 0 r
  | _ => lS bs
theorem map_app (o : Option (List UInt8)) (a b : List UInt8) : (o.map (b ++ ·)).map (a ++ ·) = o.map ((a ++ b) ++ ·) := by
  cases o with
  | none => rfl
  | some x => simp
theorem two_lt (a b : UInt8) : two a b < 65536 := by have := a.toNat_lt; have := b.toNat_lt; unfold two; omega
set_option maxRecDepth 100000 in
theorem enc_cases (x : Nat) (h : validB (x : Int) = true) : (x < 128 ∧ encU x = [UInt8.ofNat x]) ∨ (128 ≤ x ∧ x < 2048 ∧ encU x = [UInt8.ofNat (192 + x / 64), UInt8.ofNat (128 + x % 64)]) ∨
    (2048 ≤ x ∧ x < 65536 ∧ (x < 55296 ∨ 57344 ≤ x) ∧ encU x = [UInt8.ofNat (224 + x / 4096), UInt8.ofNat (128 + x / 64 % 64), UInt8.ofNat (128 + x % 64)]) ∨
    (65536 ≤ x ∧ x ≤ 1114111 ∧ encU x = [UInt8.ofNat (240 + x / 262144), UInt8.ofNat (128 + x / 4096 % 64), UInt8.ofNat (128 + x / 64 % 64), UInt8.ofNat (128 + x % 64)]) := by
  have hv : Utf8.valid (x : Int) = true := by
    unfold validB at h; unfold Utf8.valid
    simp only [Bool.or_eq_true, Bool.and_eq_true, decide_eq_true_eq] at h ⊢
    omega
  have hb : (x < 55296 ∨ 57344 ≤ x) ∧ x ≤ 1114111 := by
    unfold validB at h
    simp only [Bool.or_eq_true, Bool.and_eq_true, decide_eq_true_eq] at h
    omega
  unfold encU Utf8.encode
  simp only [hv, if_true, Int.toNat_natCast]
  by_cases h1 : x < 128
  · left; exact ⟨h1, by rw [if_pos h1]⟩
  · by_cases h2 : x < 2048
    · right; left; exact ⟨by omega, h2, by rw [if_neg h1, if_pos h2]⟩
    · by_cases h3 : x < 65536
      · right; right; left; exact ⟨by omega, h3, hb.1, by rw [if_neg h1, if_neg h2, if_pos h3]⟩
      · right; right; right; exact ⟨by omega, hb.2, by rw [if_neg h1, if_neg h2, if_neg h3]⟩
theorem un (n : Nat) (h : n < 256) : (UInt8.ofNat n).toNat = n := UInt8.toNat_ofNat_of_lt' (by show n < 256; exact h)
theorem dec1 (x : Nat) (h1 : x < 128) : Lib.decodeN 1 x 0 0 0 = (x, 1) := by
  unfold Lib.decodeN
  rw [if_pos h1]
theorem dec2 (x : Nat) (h1 : 128 ≤ x) (h2 : x < 2048) (b2 b3 : Nat) : Lib.decodeN 2 (192 + x / 64) (128 + x % 64) b2 b3 = (x, 2) := by
  unfold Lib.decodeN
  rw [if_neg (by omega), if_pos ⟨by omega, by omega, by omega⟩, if_pos (by omega)]
  congr 1; omega
theorem dec3 (x : Nat) (h1 : 2048 ≤ x) (h2 : x < 65536) (h3 : x < 55296 ∨ 57344 ≤ x) (b3 : Nat) : Lib.decodeN 3 (224 + x / 4096) (128 + x / 64 % 64) (128 + x % 64) b3 = (x, 3) := by
  unfold Lib.decodeN
  rw [if_neg (by omega), if_neg (by omega), if_pos ⟨by omega, ⟨by omega, by omega⟩, by omega, by omega⟩, if_pos (by omega)]
  congr 1; omega
theorem dec4 (x : Nat) (h1 : 65536 ≤ x) (h2 : x ≤ 1114111) : Lib.decodeN 4 (240 + x / 262144) (128 + x / 4096 % 64) (128 + x / 64 % 64) (128 + x % 64) = (x, 4) := by
  unfold Lib.decodeN
  rw [if_neg (by omega), if_neg (by omega), if_neg (by omega), if_pos ⟨by omega, ⟨by omega, by omega⟩, ⟨by omega, by omega⟩, by omega, by omega⟩, if_pos (by omega)]
  congr 1; omega
theorem lst1 (a : Nat) (h : a < 256) : Lib.decodeL [UInt8.ofNat a] = Lib.decodeN 1 a 0 0 0 := by
  rw [Lib.decodeL_N]; show Lib.decodeN 1 (UInt8.ofNat a).toNat 0 0 0 = _; rw [un a h]
theorem lst2 (a b : Nat) (h : a < 256) (h2 : b < 256) : Lib.decodeL [UInt8.ofNat a, UInt8.ofNat b] = Lib.decodeN 2 a b 0 0 := by
  rw [Lib.decodeL_N]; show Lib.decodeN 2 (UInt8.ofNat a).toNat (UInt8.ofNat b).toNat 0 0 = _; rw [un a h, un b h2]
theorem lst3 (a b c : Nat) (h : a < 256) (h2 : b < 256) (h3 : c < 256) : Lib.decodeL [UInt8.ofNat a, UInt8.ofNat b, UInt8.ofNat c] = Lib.decodeN 3 a b c 0 := by
  rw [Lib.decodeL_N]; show Lib.decodeN 3 (UInt8.ofNat a).toNat (UInt8.ofNat b).toNat (UInt8.ofNat c).toNat 0 = _; rw [un a h, un b h2, un c h3]
theorem lst4 (a b c d : Nat) (h : a < 256) (h2 : b < 256) (h3 : c < 256) (h4 : d < 256) : Lib.decodeL [UInt8.ofNat a, UInt8.ofNat b, UInt8.ofNat c, UInt8.ofNat d] = Lib.decodeN 4 a b c d := by
  rw [Lib.decodeL_N]; show Lib.decodeN 4 (UInt8.ofNat a).toNat (UInt8.ofNat b).toNat (UInt8.ofNat c).toNat (UInt8.ofNat d).toNat = _; rw [un a h, un b h2, un c h3, un d h4]
/-- a sign's bytes are read as the sign -/
theorem dec_enc (x : Nat) (h : validB (x : Int) = true) : Lib.decodeL (encU x) = (x, (encU x).length) := by
  rcases enc_cases x h with ⟨h1, e⟩ | ⟨h1, h2, e⟩ | ⟨h1, h2, h3, e⟩ | ⟨h1, h2, e⟩
  · rw [e]; exact (lst1 x (by omega)).trans (dec1 x h1)
  · rw [e]; exact (lst2 _ _ (by omega) (by omega)).trans (dec2 x h1 h2 0 0)
  · rw [e]; exact (lst3 _ _ _ (by omega) (by omega) (by omega)).trans (dec3 x h1 h2 h3 0)
  · rw [e]; exact (lst4 _ _ _ _ (by omega) (by omega) (by omega) (by omega)).trans (dec4 x h1 h2)
theorem enc_pos (x : Nat) (h : validB (x : Int) = true) : 0 < (encU x).length := by
  rcases enc_cases x h with ⟨h1, e⟩ | ⟨h1, h2, e⟩ | ⟨h1, h2, h3, e⟩ | ⟨h1, h2, e⟩
  all_goals (rw [e]; exact Nat.succ_pos _)
theorem enc_le (x : Nat) (h : validB (x : Int) = true) : (encU x).length ≤ 4 := by
  rcases enc_cases x h with ⟨h1, e⟩ | ⟨h1, h2, e⟩ | ⟨h1, h2, h3, e⟩ | ⟨h1, h2, e⟩
  all_goals (rw [e]; simp)
end Go.Xt

/- A range over a function whose function keeps its state in a block of its own. No condition. -/
namespace Go.Wk
open Go Go.RowKit
/-- what was there is there as it was, but for one block -/
structure Save (L : Nat) (w w' : World) : Prop where
  os : w'.os = w.os
  tape : w'.tape = w.tape
  output : w'.output = w.output
  size : w.heap.size ≤ w'.heap.size
  block : ∀ k, k < w.heap.size → k ≠ L → w'.heap[k]? = w.heap[k]?
theorem Save.refl (L : Nat) (w : World) : Save L w w := ⟨rfl, rfl, rfl, Nat.le_refl _, fun _ _ _ => rfl⟩
theorem Save.trans {L : Nat} {a b c : World} (h : Save L a b) (k : Save L b c) : Save L a c :=
  ⟨k.os.trans h.os, k.tape.trans h.tape, k.output.trans h.output, Nat.le_trans h.size k.size, fun j hj hn => (k.block j (Nat.lt_of_lt_of_le hj h.size) hn).trans (h.block j hj hn)⟩
theorem Save.drawn {L : Nat} {a b : World} (h : Save L a b) (n : Nat) : Save L a (b.drewN n) := ⟨h.os, h.tape, h.output, h.size, h.block⟩
theorem Save.store {L : Nat} {a b : World} (h : Save L a b) (o : Nat) (u : Value) : Save L a (b.setCell ⟨L, o, none⟩ u) :=
  h.trans ⟨rfl, rfl, rfl, by simp [World.setCell], fun k _ hn => Below.heap_setCell _ _ _ _ hn⟩
theorem Save.of_below {L : Nat} {a b : World} (h : Below a.heap.size a b) : Save L a b := ⟨h.os, h.tape, h.output, h.size, fun k hk _ => h.block k hk⟩
theorem Save.bel {L : Nat} {a b c : World} (h : Save L a b) (k : Below b.heap.size b c) : Save L a c := h.trans (Save.of_below k)
theorem Save.below {L B : Nat} {a b : World} (h : Save L a b) (hL : B ≤ L) (hB : B ≤ a.heap.size) : Below B a b := ⟨h.os, h.tape, h.output, h.size, fun k hk => h.block k (by omega) (by omega)⟩
/-- what a round keeps: the function's own block, and the first blocks -/
structure Kept (G b : Nat) (w w' : World) : Prop where
  size : w.heap.size ≤ w'.heap.size
  own : w'.heap[b]? = w.heap[b]?
  low : ∀ k, k < G → w'.heap[k]? = w.heap[k]?
theorem Kept.refl (G b : Nat) (w : World) : Kept G b w w := ⟨Nat.le_refl _, rfl, fun _ _ => rfl⟩
theorem Kept.trans {G b : Nat} {u v w : World} (h : Kept G b u v) (k : Kept G b v w) : Kept G b u w := ⟨Nat.le_trans h.size k.size, k.own.trans h.own, fun j hj => (k.low j hj).trans (h.low j hj)⟩
theorem Kept.put {G b : Nat} (w : World) (l : Nat) (o : Obj) (hb : b ≠ l) (hG : G ≤ l) : Kept G b w (w.putObj l o) := ⟨by simp, World.putObj_heap_other hb, fun k hk => World.putObj_heap_other (by omega)⟩
theorem Kept.alloc {G b : Nat} (w : World) (o : Obj) (hb : b < w.heap.size) (hG : G ≤ w.heap.size) : Kept G b w (w.alloc o) := ⟨by simp, Below.heap_alloc _ _ _ hb, fun k hk => Below.heap_alloc _ _ _ (by omega)⟩
/-- cells lie as they lay but for those of one block; whatever lay below B too -/
structure Soft (b B : Nat) (w w' : World) : Prop where
  os : w'.os = w.os
  tape : w'.tape = w.tape
  output : w'.output = w.output
  size : w.heap.size ≤ w'.heap.size
  block : ∀ k o, w.heap[k]? = some o → k ≠ b → (k < B ∨ o.isCells = true) → w'.heap[k]? = some o
theorem Soft.of_save {b B : Nat} {w w' : World} (h : Save b w w') : Soft b B w w' := ⟨h.os, h.tape, h.output, h.size, fun k o ho hk _ => (h.block k (Array.getElem?_eq_some_iff.1 ho).1 hk).trans ho⟩
theorem Soft.put {b B : Nat} {w : World} {l : Nat} {o : Obj} (o' : Obj) (hl : w.heap[l]? = some o) (ho : o.isCells = false) (hB : B ≤ l) : Soft b B w (w.putObj l o') :=
  ⟨rfl, rfl, rfl, by simp, fun k u hu hk hc => (World.putObj_heap_other (fun e => by subst e; rw [hl] at hu; cases hu; rcases hc with h | h; · omega
                                                                                     · rw [ho] at h; cases h)).trans hu⟩
theorem Soft.alloc {b B : Nat} (w : World) (o : Obj) : Soft b B w (w.alloc o) := ⟨rfl, rfl, rfl, by simp, fun k u hu _ _ => (Below.heap_alloc _ _ _ (Array.getElem?_eq_some_iff.1 hu).1).trans hu⟩
theorem Soft.below {b B n : Nat} {u w w' : World} (h : Soft b B w w') (k : Below n u w) (hb : n ≤ b) (hB : n ≤ B) (hn : n ≤ u.heap.size) : Below n u w' :=
  ⟨h.os.trans k.os, h.tape.trans k.tape, h.output.trans k.output, Nat.le_trans k.size h.size, fun j hj => by
    have e := k.block j hj
    have hl : j < w.heap.size := by have := k.size; omega
    rw [← e, Array.getElem?_eq_getElem hl]
    exact h.block j _ (Array.getElem?_eq_getElem hl) (by omega) (.inl (by omega))⟩
theorem Soft.blk {b B g : Nat} {t : TypeId} {cs : Array Value} {w w' : World} (h : Soft b B w w') (k : Blk w g t cs) (hg : g ≠ b) : Blk w' g t cs := h.block g _ k hg (.inr rfl)
theorem Soft.byt {b B : Nat} {w w' : World} {A : Option Addr} {bs : List UInt8} (h : Soft b B w w') (k : Byt w A bs) (hn : 0 < bs.length → ∀ x, A = some x → x.block ≠ b) : Byt w' A bs := by
  refine ⟨k.1, fun h0 => ?_⟩
  obtain ⟨g, o, e, hc⟩ := k.2 h0
  refine ⟨g, o, e, fun i hi => ?_⟩
  have hci := hc i hi
  rw [← hci]
  apply World.cell?_of_block
  unfold World.cell? at hci
  split at hci
  · rename_i cs t f hh
    rw [show w.heap[(⟨g, o + i, none⟩ : Addr).block]? = w.heap[g]? from rfl] at hh
    show w'.heap[g]? = w.heap[g]?
    rw [hh]; exact h.block g _ hh (hn h0 _ e) (.inr rfl)
  · cases hci
theorem below_put {n : Nat} {u w : World} (h : Below n u w) (l : Nat) (o : Obj) (hl : n ≤ l) : Below n u (w.putObj l o) :=
  ⟨h.os, h.tape, h.output, by simpa using h.size, fun k hk => (World.putObj_heap_other (by omega)).trans (h.block k hk)⟩
theorem blk_put {w : World} {g : Nat} {t : TypeId} {cs : Array Value} (h : Blk w g t cs) (l : Nat) (o : Obj) (hl : g ≠ l) : Blk (w.putObj l o) g t cs := (World.putObj_heap_other hl).trans h
def SeqB {α : Type} (P : Program) (g : Nat) (lb : Array Value) (G b : Nat) (enc : α → Array Value) (xs : List α) (w0 : World) : Prop :=
  ∀ (l : Nat) (J Jx : List α → World → Prop) (W : World), Kept G b w0 W → (∀ pre U V, J pre U → Save b U V → J pre V) → (∀ pre U V, Jx pre U → Save b U V → Jx pre V) →
    (∀ pre x U, J pre U → pre ++ [x] <+: xs → YieldAt Fence.wide 0 P l (enc x) U fun e V => (e = .returned (.bool true) ∧ J (pre ++ [x]) V ∧ Kept G b U V) ∨ (e = .returned (.bool false) ∧ Jx (pre ++ [x]) V)) →
    J [] W → CallsIn Fence.wide 0 P g (#[.func (.yield l) #[] #[]] ++ lb) W fun e V => (∃ v, e = .returned v) ∧ (J xs V ∨ ∃ pre, pre <+: xs ∧ Jx pre V)
def endB {α : Type} (G b : Nat) (I : List α → World → Prop) (Ix : Code → List α → World → Prop) (ys : List α) (W : World) : Exit → Act → World → Prop
  | .normal, _, V => KeepsOthers W V ∧ Kept G b W V ∧ I ys V
  | .ret, _, V => KeepsOthers W V ∧ Ix .ret ys V
  | .exit id, _, V => KeepsOthers W V ∧ Ix (.exit id) ys V
  | .goto t, _, V => KeepsOthers W V ∧ Ix (.goto t) ys V
  | .panic _, _, _ => False
  | .outgrown, _, _ => False
theorem range_B {α : Type} {P : Program} {g : Operand} {ps : Array Tmp} {assign body : Code} {Q : Exit → Act → World → Prop} {a : Act} {w w0 : World} {gf : Nat} {lb : Array Value} {G b : Nat} {enc : α → Array Value} {xs : List α}
    (hg : a.eval g = .func (.func gf) #[] lb) (eg : ∀ args w, (callFunc gf args).run P w = .ok (.enter gf args) w) (hseq : SeqB P gf lb G b enc xs w0) (hk : Kept G b w0 w) (hb : b < w.heap.size) (hG : G ≤ w.heap.size) (hps : ∀ x, (enc x).size = ps.size)
    (I : List α → World → Prop) (Ix : Code → List α → World → Prop) (hI : ∀ pre U V, I pre U → Soft b w.heap.size U V → I pre V) (hIx : ∀ c pre U V, Ix c pre U → Soft b w.heap.size U V → Ix c pre V) (h0 : I [] w) (a₁ : α → Act)
    (hassign : ∀ (l : Nat) (x : α) (W : World) (K : Act → World → Prop), K (a₁ x) W → assign.wpIn (Fence.wide.inRound l) 0 P (Exit.then K (fun _ _ _ => False)) { tmps := (ps.zip (enc x)).foldl (fun t (p, v) => t.setIfInBounds p v) a.tmps, defers := [] } W)
    (hbody : ∀ (l : Nat) (pre : List α) (x : α) (W : World), I pre W → pre ++ [x] <+: xs → body.wpIn (Fence.wide.inRound l) 0 P (endB G b I Ix (pre ++ [x]) W) (a₁ x) W)
    (hdone : ∀ (W : World), I xs W → W.heap[w.heap.size]? = some (.deferred (some [])) → Q .normal { a with defers := { target := .collected w.heap.size, args := #[] } :: a.defers } W)
    (hstop : ∀ (c : Code) (pre : List α) (W : World), pre <+: xs → Ix c pre W → W.heap[w.heap.size]? = some (.deferred (some [])) → c.wpIn Fence.wide 0 P Q { a with defers := { target := .collected w.heap.size, args := #[] } :: a.defers } W) :
    (Code.rangeFunc g ps assign body).wpIn Fence.wide 0 P Q a w := by
  obtain ⟨D, hD⟩ : ∃ D, D = w.heap.size := ⟨_, rfl⟩
  refine wpIn_rangeFunc ?_
  intro fn hfn
  obtain ⟨rec, hrec⟩ : ∃ rec : LoopState → Option Code → Loop, rec = fun st pe => { state := st, pending := pe, fn, tmps := a.tmps, params := ps, assign, body, defers := w.heap.size } := ⟨_, rfl⟩
  obtain ⟨W1, hW1⟩ : ∃ W1, (w.alloc (.deferred (some []))).alloc (.loop (rec .ready none)) = W1 := ⟨_, rfl⟩
  have hz1 : (w.alloc (.deferred (some []))).heap.size = D + 1 := by rw [World.size_alloc, hD]
  have hL1 : W1.heap[D + 1]? = some (.loop (rec .ready none)) := by
    rw [← hW1, ← hz1]; exact World.alloc_heap_new (w.alloc (.deferred (some []))) (.loop (rec .ready none))
  have hK1 : W1.heap[D]? = some (.deferred (some [])) := by
    rw [← hW1, hD]; exact (Below.heap_alloc _ _ _ (by simp)).trans (World.alloc_heap_new w _)
  have hI1 : I [] W1 := by rw [← hW1]; exact hI _ _ _ (hI _ _ _ h0 (Soft.alloc _ _)) (Soft.alloc _ _)
  have hk1 : Kept G b w0 W1 := by rw [← hW1]; exact (hk.trans (Kept.alloc _ _ hb hG)).trans (Kept.alloc _ _ (by simp; omega) (by simp; omega))
  refine ⟨D + 1, [{ target := .collected w.heap.size, args := #[] }], W1, { target := .fn (.func gf) lb, args := #[.func (.yield (D + 1)) #[] #[]] }, W1, gf, #[.func (.yield (D + 1)) #[] #[]] ++ lb, W1, ?_, ?_, fun _ _ => trivial, ?_, (fun h => by cases h), ?_⟩
  · rw [← hW1, hrec, hD]; exact run_enterLoop_outer _ _ _ _ _
  · simp only [resolve, hg]
    simp [go_sem]
  · simp [invoke, go_sem, eg]
  · have lateS : ∀ {U V : World} {k : Nat} {o : Obj}, k ≠ b → U.heap[k]? = some o → Save b U V → V.heap[k]? = some o := fun hkb h s => (s.block _ (Array.getElem?_eq_some_iff.1 h).1 hkb).trans h
    have hDb : D ≠ b := by omega
    have hDb1 : D + 1 ≠ b := by omega
    refine (hseq (D + 1) (fun pre W => I pre W ∧ W.heap[D + 1]? = some (.loop (rec .ready none)) ∧ W.heap[D]? = some (.deferred (some [])))
      (fun pre W => ∃ c, Ix c pre W ∧ W.heap[D + 1]? = some (.loop (rec .done (some c))) ∧ W.heap[D]? = some (.deferred (some []))) W1 hk1
      (fun pre U V h s => ⟨hI _ _ _ h.1 (Soft.of_save s), lateS hDb1 h.2.1 s, lateS hDb h.2.2 s⟩)
      (fun pre U V h s => by
        obtain ⟨c, h1, h2, h3⟩ := h
        exact ⟨c, hIx _ _ _ _ h1 (Soft.of_save s), lateS hDb1 h2 s, lateS hDb h3 s⟩) ?_ ⟨hI1, hL1, hK1⟩).mono ?_
    · rintro pre x W ⟨hi, hl, hkd⟩ hpre
      have hlt : D + 1 < W.heap.size := (Array.getElem?_eq_some_iff.1 hl).1
      have hy := run_yield (P := P) (args := enc x) hl (by rw [hrec]; exact hps x)
      rw [hrec] at hy
      refine ⟨fn, _, assign, body, hy, roundIn_of_wpIn hfn (hassign _ x W _ ⟨_, run_beginRound hl (by rw [hrec]), ?_⟩)⟩
      obtain ⟨W2, hW2⟩ : ∃ W2, W.putObj (D + 1) (.loop { rec .ready none with state := .busy }) = W2 := ⟨_, rfl⟩
      rw [hW2]
      have hl2 : W2.heap[D + 1]? = some (.loop { rec .ready none with state := .busy }) := by rw [← hW2]; exact World.putObj_heap_same hlt
      have hk2 : W2.heap[D]? = some (.deferred (some [])) := by rw [← hW2]; exact (World.putObj_heap_other (by omega)).trans hkd
      have hp2 : Kept G b W W2 := by rw [← hW2]; exact Kept.put _ _ _ (by omega) (by omega)
      have hi2 : I pre W2 := by rw [← hW2]; exact hI _ _ _ hi (Soft.put _ hl rfl (by omega))
      refine wpIn_mono (hbody _ pre x _ hi2 hpre) ?_
      have fin : ∀ (jump : Option Code) (W3 : World), KeepsOthers W2 W3 → ∃ W4, W4 = W3.putObj (D + 1) (.loop (rec (if jump.isNone then .ready else .done) jump)) ∧
          (Instr.endRound (D + 1) jump).run P W3 = .ok (.bool jump.isNone) W4 ∧ W4.heap[D + 1]? = some (.loop (rec (if jump.isNone then .ready else .done) jump)) ∧ W4.heap[D]? = some (.deferred (some [])) ∧ Soft b w.heap.size W3 W4 ∧ Kept G b W3 W4 := fun jump W3 hk3 => by
        have hl3 := hk3.same _ _ hl2 rfl
        have := run_endRound (P := P) jump hl3
        rw [hrec] at this ⊢
        exact ⟨_, rfl, this, World.putObj_heap_same (Array.getElem?_eq_some_iff.1 hl3).1, (World.putObj_heap_other (by omega)).trans (hk3.same _ _ hk2 rfl), Soft.put _ hl3 rfl (by omega), Kept.put _ _ _ (by omega) (by omega)⟩
      rintro e a3 W3 hp
      cases e with
      | normal =>
        obtain ⟨hk3, hkp3, hi3⟩ := hp
        obtain ⟨W4, _, hr, hl4, hk4, s4, p4⟩ := fin none W3 hk3
        exact ⟨_, _, hr, .inl ⟨rfl, ⟨hI _ _ _ hi3 s4, hl4, hk4⟩, (hp2.trans hkp3).trans p4⟩⟩
      | ret =>
        obtain ⟨hk3, hi3⟩ := hp
        obtain ⟨W4, _, hr, hl4, hk4, s4, p4⟩ := fin (some .ret) W3 hk3
        exact ⟨_, _, hr, .inr ⟨rfl, .ret, hIx _ _ _ _ hi3 s4, hl4, hk4⟩⟩
      | exit id =>
        obtain ⟨hk3, hi3⟩ := hp
        obtain ⟨W4, _, hr, hl4, hk4, s4, p4⟩ := fin (some (.exit id)) W3 hk3
        exact ⟨_, _, hr, .inr ⟨rfl, .exit id, hIx _ _ _ _ hi3 s4, hl4, hk4⟩⟩
      | goto t =>
        obtain ⟨hk3, hi3⟩ := hp
        obtain ⟨W4, _, hr, hl4, hk4, s4, p4⟩ := fin (some (.goto t)) W3 hk3
        exact ⟨_, _, hr, .inr ⟨rfl, .goto t, hIx _ _ _ _ hi3 s4, hl4, hk4⟩⟩
      | panic ch => exact hp.elim
      | outgrown => exact hp.elim
    · rintro e W2 ⟨⟨v, rfl⟩, (⟨hi, hl, hkd⟩ | ⟨pre, hpre, c, hi, hl, hkd⟩)⟩
      · have := run_endLoop (P := P) hl (by rw [hrec]; simp)
        rw [hrec] at this
        refine ⟨none, _, this, ?_⟩
        refine hdone _ (hI _ _ _ hi (Soft.put _ hl rfl (by omega))) ?_
        rw [← hD]; exact (World.putObj_heap_other (by omega)).trans hkd
      · have := run_endLoop (P := P) hl (by rw [hrec]; simp)
        rw [hrec] at this
        refine ⟨some c, _, this, ?_⟩
        refine hstop c pre _ hpre (hIx _ _ _ _ hi (Soft.put _ hl rfl (by omega))) ?_
        rw [← hD]; exact (World.putObj_heap_other (by omega)).trans hkd
end Go.Wk

/- Signs: next, and the function that is ranged over. No condition. -/
namespace Go.Proofs.YtkpikpaepgknnaaGreatDoor
open Go Go.RowKit Go.Wk Go.Xt
attribute [local go_sem] Oper.semAt_some
set_option maxHeartbeats 1000000 in
set_option maxRecDepth 100000 in
theorem ref_sign {w : World} (x : Int) : Calls Tryz.prog 47 #[.int .i32 x] w fun e w' => e = .returned (.bool (signB x)) ∧ w = w' := by
  have h : signB x = (decide (x = 9) || decide (x = 10) || decide (x = 13) || (decide (32 ≤ x) && decide (x ≠ 65534) && decide (x ≠ 65535))) := rfl
  replace h := Lib.hid h
  generalize signB x = B at *
  go_enter Tryz.func47, Tryz.ntmps47
  go_wp2
  all_goals go_ret
  all_goals (refine ⟨congrArg (fun b => Ending.returned (.bool b)) ?_, rfl⟩; rw [h.out, Bool.eq_iff_iff]; simp; try omega)
set_option maxHeartbeats 1000000 in
set_option maxRecDepth 100000 in
theorem valid_rune {w : World} (x : Int) : Calls Tryz.prog 155 #[.int .i32 x] w fun e w' => e = .returned (.bool (validB x)) ∧ w = w' := by
  have h : validB x = ((decide (0 ≤ x) && decide (x < 55296)) || (decide (57343 < x) && decide (x ≤ 1114111))) := rfl
  replace h := Lib.hid h
  generalize validB x = B at *
  go_enter Tryz.func155, Tryz.ntmps155
  go_wp2
  all_goals go_ret
  all_goals (refine ⟨congrArg (fun b => Ending.returned (.bool b)) ?_, rfl⟩; rw [h.out, Bool.eq_iff_iff]; simp; try omega)
def signV (x : Int) : Bool := signB x && (decide (x < 32) || validB x)
set_option maxHeartbeats 1000000 in
set_option maxRecDepth 100000 in
theorem xml_sign {w : World} (x : Int) : Calls Tryz.prog 137 #[.int .i32 x] w fun e w' => e = .returned (.bool (signV x)) ∧ w = w' := by
  have h : signV x = ((decide (x = 9) || decide (x = 10) || decide (x = 13) || (decide (32 ≤ x) && decide (x ≠ 65534) && decide (x ≠ 65535))) && (decide (x < 32) || validB x)) := rfl
  have cv := valid_rune (w := w) x
  replace h := Lib.hid h
  generalize signV x = B at *
  generalize validB x = V at *
  go_enter Tryz.func137, Tryz.ntmps137
  go_wp2_with (go_at_call 155; (with_reducible refine cv.mono ?_); rintro e w1 ⟨rfl, rfl⟩)
  all_goals go_ret
  all_goals (refine ⟨congrArg (fun b => Ending.returned (.bool b)) ?_, rfl⟩; rw [h.out]; cases V <;> (rw [Bool.eq_iff_iff]; simp; try omega))
end Go.Proofs.YtkpikpaepgknnaaGreatDoor

/- Contracts of the library's functions on texts, at this program's numbers. No condition. -/
namespace Go.Proofs
open Go.Shelf
def Tryz.lays169_ren : Go.Shelf.Ren := ⟨fun | 169 => 115 | n => n, fun | 70 => 152 | 9 => 9 | 0 => 0 | 72 => 154 | 37 => 25 | 127 => 181 | 3 => 3 | 5 => 5 | n => n, fun | n => n⟩
theorem Tryz.lays169 : Go.Proofs.Lays.n169 Tryz.prog Tryz.lays169_ren := {
  mixed := by kernel_rfl
  f169 := Tryz.func115.trans (congrArg some (by kernel_rfl))
  t0 := Tryz.underlying0
  a0 := Tryz.isAgg0
  z0 := Tryz.sizeOf0
  v0 := Tryz.zeroValue0
  t3 := Tryz.underlying3
  a3 := Tryz.isAgg3
  z3 := Tryz.sizeOf3
  v3 := Tryz.zeroValue3
  t9 := Tryz.underlying9
  a9 := Tryz.isAgg9
  z9 := Tryz.sizeOf9
  v9 := Tryz.zeroValue9
  t37 := Tryz.underlying25
  a37 := Tryz.isAgg25
  z37 := Tryz.sizeOf25
  v37 := Tryz.zeroValue25
  t70 := Tryz.underlying152
  a70 := Tryz.isAgg152
  z70 := Tryz.sizeOf152
  v70 := Tryz.zeroValue152
  t72 := Tryz.underlying154
  a72 := Tryz.isAgg154
  z72 := Tryz.sizeOf154
  v72 := Tryz.zeroValue154
  t127 := Tryz.underlying181
  a127 := Tryz.isAgg181
  z127 := Tryz.sizeOf181
  v127 := Tryz.zeroValue181 }
theorem Tryz.Builder_Extra_169 : Builder.Extra Tryz.prog Tryz.lays169_ren := {
  sizeBuilder := by kernel_rfl
  liesBuilder := by kernel_rfl
  t5 := Tryz.underlying5
  a5 := Tryz.isAgg5
  z5 := Tryz.sizeOf5
  v5 := Tryz.zeroValue5
  infoByte := by kernel_rfl
  cellsByte := by kernel_rfl
  sizeByte := by kernel_rfl
  neB5 := by decide }
open Go.RowKit in
theorem Tryz.Builder_String_any (B b : Nat) (l : List UInt8) (w : World) (h : Lib.IsBuilder 154 5 B b (Lib.byteCells l) w) (hBw : B ≤ w.heap.size) :
    Calls Tryz.prog 115 #[.pointer (some ⟨b, 0, none⟩)] w fun e w' => e = .returned (.string ⟨l.toArray⟩) ∧ Below B w w' := Any.Builder_String_any Tryz.lays169 Tryz.Builder_Extra_169 B b l w h hBw
def Tryz.lays197_ren : Go.Shelf.Ren := ⟨fun | 197 => 65 | 260 => 93 | n => n, fun | 9 => 9 | 21 => 21 | 3 => 3 | 4 => 4 | 5 => 5 | 105 => 103 | 119 => 160 | 0 => 0 | 46 => 49 | 139 => 163 | 138 => 162 | n => n, fun | 3 => 0 | 4 => 1 | n => n⟩
theorem Tryz.lays197 : Go.Proofs.Lays.n197 Tryz.prog Tryz.lays197_ren := {
  mixed := by kernel_rfl
  f197 := Tryz.func65.trans (congrArg some (by kernel_rfl))
  f260 := Tryz.func93.trans (congrArg some (by kernel_rfl))
  t0 := Tryz.underlying0
  a0 := Tryz.isAgg0
  z0 := Tryz.sizeOf0
  v0 := Tryz.zeroValue0
  t3 := Tryz.underlying3
  a3 := Tryz.isAgg3
  z3 := Tryz.sizeOf3
  v3 := Tryz.zeroValue3
  t4 := Tryz.underlying4
  a4 := Tryz.isAgg4
  z4 := Tryz.sizeOf4
  v4 := Tryz.zeroValue4
  t5 := Tryz.underlying5
  a5 := Tryz.isAgg5
  z5 := Tryz.sizeOf5
  v5 := Tryz.zeroValue5
  t9 := Tryz.underlying9
  a9 := Tryz.isAgg9
  z9 := Tryz.sizeOf9
  v9 := Tryz.zeroValue9
  t21 := Tryz.underlying21
  a21 := Tryz.isAgg21
  z21 := Tryz.sizeOf21
  v21 := Tryz.zeroValue21
  t46 := Tryz.underlying49
  a46 := Tryz.isAgg49
  z46 := Tryz.sizeOf49
  v46 := Tryz.zeroValue49
  t105 := Tryz.underlying103
  a105 := Tryz.isAgg103
  z105 := Tryz.sizeOf103
  v105 := Tryz.zeroValue103
  t119 := Tryz.underlying160
  a119 := Tryz.isAgg160
  z119 := Tryz.sizeOf160
  t138 := Tryz.underlying162
  a138 := Tryz.isAgg162
  z138 := Tryz.sizeOf162
  v138 := Tryz.zeroValue162
  t139 := Tryz.underlying163
  a139 := Tryz.isAgg163
  z139 := Tryz.sizeOf163
  v139 := Tryz.zeroValue163
  g3 := by kernel_rfl
  g4 := by kernel_rfl }
open Go.RowKit Go.Lib in
theorem Tryz.utf8_DecodeRuneInString (s : ByteArray) (w : World) (hT : Lib.Utf8Tabs 0 1 w) :
    Calls Tryz.prog 65 #[.string s] w fun e w' => e = .returned (.tuple #[.int .i32 (Lib.decodeGo s).1, .int .i64 (Lib.decodeGo s).2]) ∧ Below w.heap.size w w' := Any.utf8_DecodeRuneInString Tryz.lays197 s w hT
end Go.Proofs

/- The next sign of a text; the function that is ranged over. No condition. -/
namespace Go.Proofs.YtkpikpaepgknnaaGreatDoor
open Go Go.RowKit Go.Wk Go.Xt
attribute [local go_sem] Oper.semAt_some
def nextOk (l : List UInt8) : Bool := signV ((Lib.decodeL l).1 : Int) && (decide ((Lib.decodeL l).1 ≠ 65533) || decide (1 < (Lib.decodeL l).2))
theorem decode_str (l : List UInt8) (h : l ≠ []) : Lib.decodeGo ⟨l.toArray⟩ = Lib.decodeL l := by
  unfold Lib.decodeGo
  rw [if_neg]
  · rfl
  · intro e
    apply h
    have : l.length = 0 := by simpa [ByteArray.size] using e
    exact List.eq_nil_of_length_eq_zero this
set_option maxHeartbeats 1000000 in
set_option maxRecDepth 100000 in
theorem xml_next {w : World} (l : List UInt8) (h : l ≠ []) (hT : Lib.Utf8Tabs 0 1 w) :
    Calls Tryz.prog 110 #[str l] w fun e w' => e = .returned (.tuple #[.int .i32 ((Lib.decodeL l).1 : Int), .int .i64 ((Lib.decodeL l).2 : Int), .bool (nextOk l)]) ∧ Below w.heap.size w w' := by
  have hd : Calls Tryz.prog 65 #[str l] w fun e w' => e = .returned (.tuple #[.int .i32 (Lib.decodeGo ⟨l.toArray⟩).1, .int .i64 (Lib.decodeGo ⟨l.toArray⟩).2]) ∧ Below w.heap.size w w' := Tryz.utf8_DecodeRuneInString ⟨l.toArray⟩ w hT
  rw [decode_str l h] at hd
  have hk : nextOk l = (signV ((Lib.decodeL l).1 : Int) && (decide ((Lib.decodeL l).1 ≠ 65533) || decide (1 < (Lib.decodeL l).2))) := rfl
  generalize nextOk l = K at *
  generalize (Lib.decodeL l).1 = c at *
  generalize (Lib.decodeL l).2 = n at *
  have cs := fun (w : World) => xml_sign (w := w) (c : Int)
  generalize signV (c : Int) = S at *
  replace hk := Lib.hid hk
  clear hT
  go_enter Tryz.func110, Tryz.ntmps110
  go_wp2_with (first
    | (go_at_call 65; (with_reducible refine hd.mono ?_); rintro e w1 ⟨rfl, hb⟩; replace hb := Lib.hid hb)
    | (go_at_call 137; (with_reducible refine (cs _).mono ?_); rintro e w2 ⟨rfl, rfl⟩))
  · have hc : (c : Int) = 65533 := by assumption
    have hS : S = true := by assumption
    go_ret3
    refine ⟨?_, hb.out⟩
    rw [hk.out, hS, hc, show (decide (c ≠ 65533)) = false by simp; omega]
    simp; omega
  · have hc : ¬ (c : Int) = 65533 := by assumption
    have hS : S = true := by assumption
    go_ret3
    refine ⟨?_, hb.out⟩
    rw [hk.out, hS, show (decide (c ≠ 65533)) = true by simp; omega]
    simp
  · have hS : ¬ S = true := by assumption
    go_ret3
    refine ⟨?_, hb.out⟩
    rw [hk.out, show S = false by simpa using hS]
    simp
/-- the signs of a text, and whether each is one -/
def partsS (l : List UInt8) : List (List UInt8 × Bool) := if h : l = [] then [] else (l.take (Lib.decodeL l).2, nextOk l) :: partsS (l.drop (Lib.decodeL l).2)
termination_by l.length
decreasing_by
  have := Lib.decodeL_width l
  have : 0 < l.length := List.length_pos_iff.2 h
  simp; omega
theorem partsS_nil : partsS [] = [] := by rw [partsS]; simp
theorem partsS_cons (l : List UInt8) (h : l ≠ []) : partsS l = (l.take (Lib.decodeL l).2, nextOk l) :: partsS (l.drop (Lib.decodeL l).2) := by rw [partsS]; simp [h]
def encP (x : List UInt8 × Bool) : Array Value := #[str x.1, .bool x.2]
def boxLen (b : Nat) (w : World) : Nat := match w.cell? ⟨b, 0, none⟩ with
  | some (.string s) => s.size
  | _ => 0
theorem boxLen_of {b : Nat} {w : World} {l : List UInt8} (h : Blk w b 9 #[str l]) : boxLen b w = l.length := by
  unfold boxLen
  rw [h.cell 0]
  show ByteArray.size ⟨l.toArray⟩ = _
  simp [ByteArray.size]
theorem tabs_kept {u w : World} (h : Lib.Utf8Tabs 0 1 u) (h0 : w.heap[0]? = u.heap[0]?) (h1 : w.heap[1]? = u.heap[1]?) : Lib.Utf8Tabs 0 1 w := by
  have e0 : ∀ c, w.cell? ⟨0, c, none⟩ = u.cell? ⟨0, c, none⟩ := fun c => World.cell?_of_block h0
  have e1 : ∀ c, w.cell? ⟨1, c, none⟩ = u.cell? ⟨1, c, none⟩ := fun c => World.cell?_of_block h1
  exact ⟨fun c hc => (e0 c).trans (h.1 c hc), fun i hi => ⟨(e1 _).trans (h.2 i hi).1, (e1 _).trans (h.2 i hi).2⟩⟩
set_option maxHeartbeats 2000000 in
set_option maxRecDepth 100000 in
theorem signs_stops {w0 : World} {b : Nat} (l : List UInt8) (hl : l.length ≤ 10000000) (hb2 : 2 ≤ b) (hbox : Blk w0 b 9 #[str l]) (hT : Lib.Utf8Tabs 0 1 w0) :
    SeqB Tryz.prog 109 #[.pointer (some ⟨b, 0, none⟩)] 2 b encP (partsS l) w0 := by
  intro L J Jx W hk hJ hJx hY h0
  have hT0 : Lib.Utf8Tabs 0 1 W := tabs_kept hT (hk.low 0 (by omega)) (hk.low 1 (by omega))
  have hbx : Blk W b 9 #[str l] := hk.own.trans hbox
  refine callsIn_of_wp Tryz.func109 rfl trivial ?_ rfl
  simp only [Tryz.ntmps109, List.size_toArray, List.length_cons, List.length_nil, Nat.reduceAdd, Nat.reduceSub, Array.replicate_succ, Array.replicate_zero, List.push_toArray, List.append_toArray, List.nil_append, List.cons_append]
  gi_wp2
  gi_loopw [3] (fun _ wr => ∃ (pre : List (List UInt8 × Bool)) (r : List UInt8), partsS l = pre ++ partsS r ∧ r.length ≤ 10000000 ∧ Blk wr b 9 #[str r] ∧ Lib.Utf8Tabs 0 1 wr ∧ J pre wr) (fun _ wr => boxLen b wr)
  case atStart => exact ⟨[], l, rfl, hl, hbx, hT0, h0⟩
  case round =>
    obtain ⟨pre, r, hpr, hrl, hbr, hTr, hJr⟩ := hrel
    have hcell0 := hbr.cell 0
    have hfz := hbr.frozen 0
    have hblt := hbr.lt
    have hml := Lib.hid (boxLen_of hbr)
    obtain ⟨S, hS⟩ : ∃ S : ByteArray, S = ⟨r.toArray⟩ := ⟨_, rfl⟩
    have hstr : str r = .string S := by rw [hS]; rfl
    have hsz : S.size = r.length := by rw [hS]; simp [ByteArray.size]
    have hcell : wr.cell? ⟨b, 0, none⟩ = some (.string S) := by rw [← hstr]; exact hcell0
    clear hcell0
    by_cases hne : r = []
    · have hs0 : S.size = 0 := by rw [hsz, hne]; rfl
      have HJ : J (partsS l) wr := by rw [hpr, hne, partsS_nil, List.append_nil]; exact hJr
      replace HJ := Lib.hid HJ
      clear hstr hsz hS hpr hJr hTr hbr hk hJ hJx hY h0 hne
      have hs1 : S.size ≤ 0 := by omega
      clear hs0
      gi_wp2
      go_end0
      exact ⟨⟨_, rfl⟩, .inl HJ.out⟩
    · have hpos : 0 < r.length := List.length_pos_iff.2 hne
      have hw1 := Lib.decodeL_width r
      have hw2 := Lib.decodeL_le r hne
      have cn := xml_next (w := wr) r hne hTr
      rw [hstr] at cn
      have hpc := partsS_cons r hne
      rw [hpc] at hpr
      have hpre : pre ++ [(r.take (Lib.decodeL r).2, nextOk r)] <+: partsS l := ⟨partsS (r.drop (Lib.decodeL r).2), by rw [hpr]; simp⟩
      have hpr2 : partsS l = (pre ++ [(r.take (Lib.decodeL r).2, nextOk r)]) ++ partsS (r.drop (Lib.decodeL r).2) := by rw [hpr]; simp
      have e1 : ∀ n, str (r.take n) = .string (S.extract 0 n) := fun n => by
        show Value.string _ = _
        congr 1
        apply bytes_ext
        rw [bytes_cut, hS]; simp
      have e2 : ∀ n, n ≤ r.length → str (r.drop n) = .string (S.extract n S.size) := fun n hn => by
        show Value.string _ = _
        congr 1
        apply bytes_ext
        rw [bytes_cut, hS]; simp [ByteArray.size]
      have e2 := e2 _ hw2
      have hd : (r.drop (Lib.decodeL r).2).length < r.length := by simp; omega
      have e1 := e1 (Lib.decodeL r).2
      have hy := hY pre (r.take (Lib.decodeL r).2, nextOk r)
      have hyw : encP (r.take (Lib.decodeL r).2, nextOk r) = #[.string (S.extract 0 (Lib.decodeL r).2), .bool (nextOk r)] := by unfold encP; rw [e1]
      rw [hyw] at hy
      clear hyw hY e1 hpc hpr
      generalize (Lib.decodeL r).1 = c at *
      generalize (Lib.decodeL r).2 = n at *
      generalize nextOk r = K at *
      generalize (r.take n, K) = X at *
      generalize r.drop n = r2 at *
      have hzs : 0 < S.size := by omega
      have hns : n ≤ S.size := by omega
      have hss : S.size ≤ 10000000 := by omega
      have hml2 : Hid (boxLen b wr = r.length) := hml
      replace hsz := Lib.hid hsz
      replace e2 := Lib.hid e2
      replace hpr2 := Lib.hid hpr2
      replace hJ := Lib.hid hJ
      replace hJx := Lib.hid hJx
      replace hy := Lib.hid hy
      replace hTr := Lib.hid hTr
      replace hbr := Lib.hid hbr
      clear hS hk h0 hne hml hT hT0 hbx hbox
      have hbS : Blk wr b 9 #[.string S] := by rw [← hstr]; exact hbr.out
      replace hbS := Lib.hid hbS
      clear hstr
      have f110 : Fence.wide.fn 110 := trivial
      gi_wp2_with (refine ⟨rfl, ?_⟩; gi_at_call 110; refine (callsIn_wide.2 cn).mono ?_; rintro e w1 ⟨rfl, hb1⟩; have hc1 := (hb1.cell (p := ⟨b, 0, none⟩) hblt).trans hcell; have hf1 := (hb1.frozen (p := ⟨b, 0, none⟩) hblt).trans hfz; obtain ⟨fn, tmps, assign, body, hyy, hR⟩ := hy.out w1 (hJ.out _ _ _ hJr (Wk.Save.of_below hb1)) hpre; replace hb1 := Lib.hid hb1)
      refine ⟨rfl, ?_⟩
      refine hR.mono ?_
      rintro e W3 (⟨rfl, hJ3, hk3⟩ | ⟨rfl, hJx3⟩)
      · have hbr1 : Blk w1 b 9 #[.string S] := (hb1.out.block b hblt).trans hbS.out
        have hb3 : Blk W3 b 9 #[.string S] := hk3.own.trans hbr1
        have hc3 := hb3.cell 0
        have hf3 := hb3.frozen 0
        have HT3 := Lib.hid (tabs_kept (tabs_kept hTr.out (hb1.out.block 0 (by omega)) (hb1.out.block 1 (by omega))) (hk3.low 0 (by omega)) (hk3.low 1 (by omega)))
        have hc3 : W3.cell? ⟨b, 0, none⟩ = some (.string S) := hc3
        clear hR hyy hc1 hf1
        replace hJ3 := Lib.hid hJ3
        replace hk3 := Lib.hid hk3
        gi_wp2
        have hset : Blk (W3.setCell ⟨b, 0, none⟩ (.string (S.extract n S.size))) b 9 #[str r2] := by
          rw [e2.out]; exact hb3.set_ 0 _
        go_roundw
        case rel =>
          refine ⟨_, r2, hpr2.out, by omega, hset, ?_, hJ.out _ _ _ hJ3.out ((Wk.Save.refl b W3).store 0 _)⟩
          exact tabs_kept HT3.out (Below.heap_setCell _ _ _ _ (by show 0 ≠ b; omega)) (Below.heap_setCell _ _ _ _ (by show 1 ≠ b; omega))
        case measure => rw [boxLen_of hset, hml2.out]; exact hd
      · gi_wp2
        refine bodyPost_ret (results_none rfl _ _ _) rfl ?_
        exact ⟨⟨_, rfl⟩, .inr ⟨_, hpre, hJx3⟩⟩
end Go.Proofs.YtkpikpaepgknnaaGreatDoor

/- Signs: whether bytes are signs. No condition. -/
namespace Go.Proofs.YtkpikpaepgknnaaGreatDoor
open Go Go.RowKit Go.Wk Go.Xt Go.Shelf
attribute [local go_sem] Oper.semAt_some
theorem conv_byt {w : World} {A : Option Addr} {c : Nat} {l : List UInt8} (h : Byt w A l) : (convert 25 9 (.slice A l.length c)).run Tryz.prog w = .ok (str l) w := by
  cases A with
  | none =>
    have h0 : l = [] := by
      rcases Nat.eq_zero_or_pos l.length with h1 | h1
      · exact List.eq_nil_of_length_eq_zero h1
      · obtain ⟨_, _, e, _⟩ := h.2 h1; cases e
    subst h0
    exact run_convert_bytes_nil _ 25 5 Tryz.underlying25 Tryz.underlying5 _ _ 9 Tryz.underlying9
  | some a => exact run_convert_bytes_back w 25 9 5 a c l Tryz.underlying25 Tryz.underlying5 Tryz.underlying9 (fun j hj => by
    obtain ⟨b, o, e, hc⟩ := h.2 (by omega)
    cases e
    rw [Lib.add_plain]; exact hc j hj)
set_option maxHeartbeats 1000000 in
theorem xml_signs {w : World} (S : ByteArray) : Calls Tryz.prog 83 #[.string S] w fun e w' => e = .returned (.func (.func 109) #[] #[.pointer (some ⟨w.heap.size, 0, none⟩)]) ∧ w' = w.alloc (.cells #[.string S] 9) := by
  go_enter Tryz.func83, Tryz.ntmps83
  go_wp2
  go_ret
  exact ⟨rfl, rfl⟩
def signsB (bs : List UInt8) : Bool := (partsS bs).all (·.2)
set_option maxHeartbeats 2000000 in
set_option maxRecDepth 100000 in
theorem xml_Signs {w : World} {A : Option Addr} {bs : List UInt8} (c : Nat) (hb : Byt w A bs) (hl : bs.length ≤ 10000000) (hT : Lib.Utf8Tabs 0 1 w) (h2 : 2 ≤ w.heap.size) :
    Calls Tryz.prog 53 #[.slice A bs.length c] w fun e w' => e = .returned (.bool (signsB bs)) ∧ Below w.heap.size w w' := by
  have hcv := conv_byt (c := c) (hb.below ((Below.refl w.heap.size w).alloc (Nat.le_refl _) (.cells #[.bool false] 4)))
  have cs := fun (w : World) => xml_signs (w := w) ⟨bs.toArray⟩
  have f83 : Fence.wide.fn 83 := trivial
  replace hb := Lib.hid hb
  replace hT := Lib.hid hT
  obtain ⟨m, hm⟩ : ∃ m, m = bs.length := ⟨_, rfl⟩
  rw [← hm] at hcv ⊢
  replace hm := Lib.hid hm
  refine (callsIn_wide (n := 0)).1 ?_
  refine callsIn_of_wp_marks Tryz.func53 rfl trivial ?_ rfl
  simp only [Tryz.ntmps53, List.size_toArray, List.length_cons, List.length_nil, Nat.reduceAdd, Nat.reduceSub, Array.replicate_succ, Array.replicate_zero, List.push_toArray, List.append_toArray, List.nil_append, List.cons_append]
  gi_wp2_with (refine ⟨rfl, ?_⟩; gi_at_call 83; refine (callsIn_wide.2 (cs _)).mono ?_; rintro e w' ⟨rfl, rfl⟩)
  obtain ⟨W0, hW0⟩ : ∃ W0, W0 = (w.alloc (.cells #[.bool false] 4)).alloc (.cells #[.string ⟨bs.toArray⟩] 9) := ⟨_, rfl⟩
  rw [← hW0]
  have hz0 : W0.heap.size = w.heap.size + 2 := by rw [hW0, World.size_alloc, World.size_alloc]
  have hB0 : Below w.heap.size w W0 := by rw [hW0]; exact ((Below.refl _ _).alloc (Nat.le_refl _) _).alloc (by simp) _
  have hr0 : Blk W0 w.heap.size 4 #[.bool false] := by rw [hW0]; exact (Blk.new w 4 _).alloc _
  have hs0 : Blk W0 (w.heap.size + 1) 9 #[str bs] := by
    rw [hW0, ← World.size_alloc w (.cells #[.bool false] 4)]; exact Blk.new _ 9 _
  have hT0 : Lib.Utf8Tabs 0 1 W0 := tabs_kept hT.out (hB0.block 0 (by omega)) (hB0.block 1 (by omega))
  replace hW0 := Lib.hid hW0
  refine range_B (gf := 109) (lb := #[.pointer (some ⟨w.heap.size + 1, 0, none⟩)]) rfl (enters_of Tryz.func109 (by kernel_rfl) rfl) (signs_stops bs hl (by omega) hs0 hT0) (Kept.refl _ _ _) (by omega) (by omega) (fun _ => rfl)
    (fun pre W => Blk W w.heap.size 4 #[.bool false] ∧ Below w.heap.size w W ∧ pre.all (·.2) = true)
    (fun c pre W => c = .ret ∧ Blk W w.heap.size 4 #[.bool false] ∧ Below w.heap.size w W ∧ pre.all (·.2) = false)
    (fun pre U V h s => ⟨s.blk h.1 (by omega), s.below h.2.1 (by omega) (by omega) (Nat.le_refl _), h.2.2⟩)
    (fun c pre U V h s => ⟨h.1, s.blk h.2.1 (by omega), s.below h.2.2.1 (by omega) (by omega) (Nat.le_refl _), h.2.2.2⟩)
    ⟨hr0, hB0, rfl⟩
    (fun x => { tmps := #[.slice A m c, undef, .pointer (some ⟨w.heap.size, 0, none⟩), undef, .bool x.2, .slice A m c, str bs, .func (.func 109) #[] #[.pointer (some ⟨w.heap.size + 1, 0, none⟩)], str x.1, .bool x.2, undef, undef], defers := [] }) ?assign ?body ?done ?stop
  case assign =>
    intro l x W K hK
    unfold encP
    gi_wp2
    exact hK
  case body =>
    rintro l pre ⟨x, ok⟩ W ⟨hr, hB, hp⟩ hpre
    have hc := hr.cell 0
    have hf := hr.frozen 0
    replace hr := Lib.hid hr
    replace hp := Lib.hid hp
    cases ok with
    | true =>
      gi_wp2
      exact ⟨KeepsOthers.refl _, Kept.refl _ _ _, hr.out, hB, by simp [hp.out]⟩
    | false =>
      gi_wp2
      exact ⟨KeepsOthers.setCell _ _ _, rfl, hr.out.set_ 0 _, hB.setCell (p := ⟨w.heap.size, 0, none⟩) (Nat.le_refl _) _, by simp⟩
  case done =>
    rintro W ⟨hr, hB, hp⟩ hK
    have hc := hr.cell 0
    have hf := hr.frozen 0
    replace hr := Lib.hid hr
    replace hp := Lib.hid hp
    gi_wp2
    have hK' := (KeepsOthers.setCell W ⟨w.heap.size, 0, none⟩ (.bool true)).same _ _ hK rfl
    refine ⟨by simp, .inl ⟨_, _, rfl, run_takeDeferred hK', ?_⟩⟩
    have hr5 := (blk_put (hr.out.set_ 0 (.bool true)) W0.heap.size (.deferred none) (by omega)).cell 0
    refine ⟨.bool true, ?_, by unfold signsB; rw [hp.out], below_put (hB.setCell (p := ⟨w.heap.size, 0, none⟩) (Nat.le_refl _) _) _ _ (by omega)⟩
    simp [results, Tryz.f53, go_sem, hr5]
  case stop =>
    rintro c pre W hpre ⟨rfl, hr, hB, hp⟩ hK
    have hc := hr.cell 0
    replace hr := Lib.hid hr
    replace hp := Lib.hid hp
    gi_wp2
    refine ⟨by simp, .inl ⟨_, _, rfl, run_takeDeferred hK, ?_⟩⟩
    have hr5 := (blk_put hr.out W0.heap.size (.deferred none) (by omega)).cell 0
    refine ⟨.bool false, ?_, ?_, below_put hB _ _ (by omega)⟩
    · simp [results, Tryz.f53, go_sem, hr5]
    · obtain ⟨r, hr⟩ := hpre
      unfold signsB; rw [← hr, List.all_append, hp.out, Bool.false_and]
end Go.Proofs.YtkpikpaepgknnaaGreatDoor
