/-
  Contracts of the reference of package meter: what each function returns; old memory stays.
-/
import Derived.Test.YtgjljjepjidniaaMeterW
import Derived.Test.YtgjljjepjidniaaKit
namespace Go.Proofs.Ytgjljjepjidniaa
open Go.RowKit

set_option maxHeartbeats 400000 in
theorem useR_any (L U n : Int) (w : World) (hL : -9223372036854775808 ≤ L ∧ L ≤ 9223372036854775807) (hU : -9223372036854775808 ≤ U ∧ U ≤ 9223372036854775807) (hn : -9223372036854775808 ≤ n ∧ n ≤ 9223372036854775807) :
    Calls Try.prog 9 #[.agg #[.int .i64 L, .int .i64 U], .int .i64 n] w fun e w' => e = .returned (.tuple #[.agg #[.int .i64 L, .int .i64 (useU L U n)], .bool (useB L U n)]) ∧ Below w.heap.size w w' := by
  go_enter Try.func9, Try.ntmps9
  go_wp2
  all_goals
    refine bodyPost_ret (v := .tuple #[.agg #[.int .i64 L, .int .i64 (useU L U n)], .bool (useB L U n)]) ?_ rfl ⟨rfl, ((Below.refl _ _).alloc (Nat.le_refl _) _).alloc (by simp) _⟩
    by_cases hc : 0 ≤ U ∧ U ≤ L ∧ 0 ≤ n ∧ n ≤ L - U
    · obtain ⟨e1, e2⟩ := use_yes hc
      rw [e1, e2]
      first | (exfalso; omega) | simp [results, Try.results9, go_sem]
    · obtain ⟨e1, e2⟩ := use_no hc
      rw [e1, e2]
      first | (exfalso; omega) | simp [results, Try.results9, go_sem]

set_option maxHeartbeats 400000 in
theorem newR_any (L : Int) (w : World) (hL : -9223372036854775808 ≤ L ∧ L ≤ 9223372036854775807) :
    Calls Try.prog 11 #[.int .i64 L] w fun e w' => e = .returned (.agg #[.int .i64 (newL L), .int .i64 0]) ∧ Below w.heap.size w w' := by
  go_enter Try.func11, Try.ntmps11
  go_wp2
  all_goals
    refine bodyPost_ret (v := .agg #[.int .i64 (newL L), .int .i64 0]) ?_ rfl ⟨rfl, (Below.refl _ _).alloc (Nat.le_refl _) _⟩
    simp [results, Try.results11, go_sem, newL]
    try omega

set_option maxHeartbeats 400000 in
theorem textsR_any (n : Int) (w : World) (hn : -9223372036854775808 ≤ n ∧ n ≤ 9223372036854775807) :
    Calls Try.prog 13 #[.int .i64 n] w fun e w' => e = .returned (.int .i64 (textsF n)) ∧ w = w' := by
  go_enter Try.func13, Try.ntmps13
  go_wp2
  all_goals
    go_ret
    exact ⟨ret_int (by unfold textsF; omega), rfl⟩

set_option maxHeartbeats 400000 in
theorem putR_any (k v : Int) (w : World) (hk : -9223372036854775808 ≤ k ∧ k ≤ 9223372036854775807) (hv : -9223372036854775808 ≤ v ∧ v ≤ 9223372036854775807) :
    Calls Try.prog 15 #[.int .i64 k, .int .i64 v] w fun e w' => e = .returned (.int .i64 (putF k v)) ∧ w = w' := by
  go_enter Try.func15, Try.ntmps15
  go_wp2
  all_goals
    go_ret
    exact ⟨ret_int (by unfold putF clampF; omega), rfl⟩

end Go.Proofs.Ytgjljjepjidniaa
