/-
  EvalLoops: part 32 of its proof: see the last text.
-/
import Derived.Test.YthgcpfkochikfaaGreatRows
import Derived.Test.YthgcpfkochikfaaGreatPq00
set_option maxRecDepth 100000
set_option maxHeartbeats 16000000
namespace Go.Proofs.YthgcpfkochikfaaGreat
section
open Go.RowKit
attribute [local go_sem ↓] Go.wp_at_zero Go.wp_at_succ
theorem ee (n:Int) (w:World):Calls Tryz.prog 14 #[.int .i64 n] w fun e w'=>e=.returned (.agg #[.int .i64 1,.int .i64 n,.slice none 0 0])∧Below w.heap.size w w':=by
 go_enter Tryz.func14,Tryz.ntmps14
 go_wp2_with fail
 exact bodyPost_ret (v:=.agg #[.int .i64 1,.int .i64 n,.slice none 0 0]) (by simp [results,Tryz.results14,go_sem]) rfl ⟨rfl,by repeat (first | exact Below.refl _ _ | refine dk ?_ (by simp) _ | refine ag ?_ _)⟩
end
end Go.Proofs.YthgcpfkochikfaaGreat
