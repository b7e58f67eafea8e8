/-
  strings.IndexByte, off the library's shelf, at this program.
-/
import Derived.Shelf.Small.Strs
import Derived.Shelf.Strings.Search1
import Derived.Test.YtpiamiaigjlafaaRows
namespace Go.Proofs.Ytpiamiaigjlafaa
open Go.Shelf

def lays137_ren : Go.Shelf.Ren := ⟨fun | 137 => 42 | 217 => 76 | 266 => 87 | n => n, fun | 9 => 9 | 5 => 5 | 3 => 3 | n => n, fun | n => n⟩
theorem lays137 : Go.Proofs.Lays.n137 Try.prog lays137_ren := {
  mixed := by kernel_rfl
  f137 := Try.func42.trans (congrArg some (by kernel_rfl))
  f217 := Try.func76.trans (congrArg some (by kernel_rfl))
  f266 := Try.func87.trans (congrArg some (by kernel_rfl))
  t3 := Try.underlying3
  a3 := Try.isAgg3
  z3 := Try.sizeOf3
  v3 := Try.zeroValue3
  t5 := Try.underlying5
  a5 := Try.isAgg5
  z5 := Try.sizeOf5
  v5 := Try.zeroValue5
  t9 := Try.underlying9
  a9 := Try.isAgg9
  z9 := Try.sizeOf9
  v9 := Try.zeroValue9 }
theorem indexByte_any (s : ByteArray) (c : Int) (w : World) :
    Calls Try.prog 42 #[.string s, .int .u8 c] w fun e w' => e = .returned (.int .i64 (Lib.indexByte s.data.toList c.toNat.toUInt8)) ∧ w' = w := Any.strings_IndexByte lays137 s c w
end Go.Proofs.Ytpiamiaigjlafaa
