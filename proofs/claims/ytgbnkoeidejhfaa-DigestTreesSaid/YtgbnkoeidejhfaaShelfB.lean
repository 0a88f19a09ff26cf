/- The shelf's contracts of strings.Builder's writers, laid at this translation by hand: the one command passes them over here. -/
import Derived.Test.YtgbnkoeidejhfaaProg
import Derived.Shelf.Lays
import Derived.Shelf.Strings.BuilderF
import Derived.Shelf.Strings.BuilderK
import Derived.Shelf.Spec.BitsCarry
namespace Go.Proofs
open Go.Shelf
def Try.bl_ren : Go.Shelf.Ren := ⟨fun | 240 => 51 | 276 => 62 | 166 => 33 | n => n, fun | 0 => 0 | 3 => 3 | 4 => 4 | 5 => 5 | 9 => 9 | 20 => 20 | 37 => 64 | 70 => 69 | 72 => 71 | 75 => 74 | 80 => 77 | 164 => 96 | n => n, fun | n => n⟩
theorem Try.bl240 : Lays.n240 Try.prog Try.bl_ren := {
  mixed := by kernel_rfl
  f240 := Try.func51.trans (congrArg some (by kernel_rfl))
  f276 := Try.func62.trans (congrArg some (by kernel_rfl))
  t0 := Try.underlying0
  a0 := Try.isAgg0
  z0 := Try.sizeOf0
  v0 := Try.zeroValue0
  t4 := Try.underlying4
  a4 := Try.isAgg4
  z4 := Try.sizeOf4
  v4 := Try.zeroValue4
  t9 := Try.underlying9
  a9 := Try.isAgg9
  z9 := Try.sizeOf9
  v9 := Try.zeroValue9
  t20 := Try.underlying20
  a20 := Try.isAgg20
  z20 := Try.sizeOf20
  v20 := Try.zeroValue20
  t70 := Try.underlying69
  a70 := Try.isAgg69
  z70 := Try.sizeOf69
  v70 := Try.zeroValue69
  t72 := Try.underlying71
  a72 := Try.isAgg71
  z72 := Try.sizeOf71
  v72 := Try.zeroValue71
  t164 := Try.underlying96
  a164 := Try.isAgg96
  z164 := Try.sizeOf96
  v164 := Try.zeroValue96 }
theorem Try.bl166 : Lays.n166 Try.prog Try.bl_ren := {
  mixed := by kernel_rfl
  f166 := Try.func33.trans (congrArg some (by kernel_rfl))
  f240 := Try.func51.trans (congrArg some (by kernel_rfl))
  f276 := Try.func62.trans (congrArg some (by kernel_rfl))
  t0 := Try.underlying0
  a0 := Try.isAgg0
  z0 := Try.sizeOf0
  v0 := Try.zeroValue0
  t3 := Try.underlying3
  a3 := Try.isAgg3
  z3 := Try.sizeOf3
  v3 := Try.zeroValue3
  t4 := Try.underlying4
  a4 := Try.isAgg4
  z4 := Try.sizeOf4
  v4 := Try.zeroValue4
  t9 := Try.underlying9
  a9 := Try.isAgg9
  z9 := Try.sizeOf9
  v9 := Try.zeroValue9
  t20 := Try.underlying20
  a20 := Try.isAgg20
  z20 := Try.sizeOf20
  v20 := Try.zeroValue20
  t37 := Try.underlying64
  a37 := Try.isAgg64
  z37 := Try.sizeOf64
  v37 := Try.zeroValue64
  t70 := Try.underlying69
  a70 := Try.isAgg69
  z70 := Try.sizeOf69
  v70 := Try.zeroValue69
  t72 := Try.underlying71
  a72 := Try.isAgg71
  z72 := Try.sizeOf71
  v72 := Try.zeroValue71
  t75 := Try.underlying74
  a75 := Try.isAgg74
  z75 := Try.sizeOf74
  v75 := Try.zeroValue74
  t164 := Try.underlying96
  a164 := Try.isAgg96
  z164 := Try.sizeOf96
  v164 := Try.zeroValue96 }
theorem Try.bl_X72 : Builder.X72 Try.prog Try.bl_ren := {
  sizeBuilder := by kernel_rfl
  liesBuilder := by kernel_rfl }
theorem Try.bl_Extra : Builder.Extra Try.prog Try.bl_ren := {
  sizeBuilder := by kernel_rfl
  liesBuilder := by kernel_rfl
  t5 := Try.underlying5
  a5 := Try.isAgg5
  z5 := Try.sizeOf5
  v5 := Try.zeroValue5
  infoByte := by kernel_rfl
  cellsByte := by kernel_rfl
  sizeByte := by kernel_rfl
  neB5 := by decide }
open Go.RowKit in
theorem Try.bl_WriteString (B b : Nat) (bs : List Value) (s : ByteArray) (w : World) (h : Lib.IsBuilderF 71 5 B b bs w) (hlen : bs.length + s.size ≤ 140737488355328) (hBw : B ≤ w.heap.size) :
    Calls Try.prog 33 #[.pointer (some ⟨b, 0, none⟩), .string s] w fun e w' => e = .returned (.tuple #[.int .i64 s.size, .nilIface]) ∧ (Lib.BuilderAtF 71 5 B b (.pointer (some ⟨b, 0, none⟩)) (bs ++ Lib.strCells s) w' ∧ Below B w w') := Any.Builder_WriteString_f Try.bl166 Try.bl_Extra B b bs s w h hlen hBw
def Try.bl25_ren : Go.Shelf.Ren := ⟨fun | 25 => 67 | n => n, fun | 22 => 43 | n => n, fun | n => n⟩
theorem Try.bl25 : Lays7.n25 Try.prog Try.bl25_ren := {
  mixed := by kernel_rfl
  f25 := Try.func67.trans (congrArg some (by kernel_rfl))
  t22 := Try.underlying43
  a22 := Try.isAgg43
  z22 := Try.sizeOf43
  v22 := Try.zeroValue43
  i22 := by kernel_rfl }
theorem Try.bl_Add64 (x y : Nat) (w : World) : (callFunc 67 #[.int .u64 x, .int .u64 y, .int .u64 0]).run Try.prog w =
    .ok (.value (.tuple #[.int .u64 (((x + y) % 18446744073709551616 : Nat) : Int), .int .u64 (((x + y) / 18446744073709551616 : Nat) : Int)])) w := Any7.bits_Add64 Try.bl25 x y 0 (by omega) w
end Go.Proofs
