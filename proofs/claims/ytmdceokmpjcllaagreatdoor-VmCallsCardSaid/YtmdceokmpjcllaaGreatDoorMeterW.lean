/-
  Contracts of package meter: what each function returns; old memory stays.
-/
import Derived.Test.YtmdceokmpjcllaaGreatDoorRows
import Derived.Test.YtmdceokmpjcllaaGreatDoorKit
namespace Go.Proofs.YtmdceokmpjcllaaGreatDoor
open Go.RowKit

/-- Is there so much? -/
def useB (L U n : Int) : Bool := decide (0 ≤ U ∧ U ≤ L ∧ 0 ≤ n ∧ n ≤ L - U)
/-- What is used behind it. -/
def useU (L U n : Int) : Int := if 0 ≤ U ∧ U ≤ L ∧ 0 ≤ n ∧ n ≤ L - U then U + n else L
theorem use_yes {L U n : Int} (h : 0 ≤ U ∧ U ≤ L ∧ 0 ≤ n ∧ n ≤ L - U) : useU L U n = U + n ∧ useB L U n = true := ⟨if_pos h, decide_eq_true h⟩
theorem use_no {L U n : Int} (h : ¬ (0 ≤ U ∧ U ≤ L ∧ 0 ≤ n ∧ n ≤ L - U)) : useU L U n = L ∧ useB L U n = false := ⟨if_neg h, decide_eq_false h⟩
/-- A limit as it is taken. -/
def newL (L : Int) : Int := max 0 (min L 100000)
def textsF (n : Int) : Int := max 0 n / 16
def clampF (n : Int) : Int := max 0 (min n 2147483648)
def putF (k v : Int) : Int := 4 + (clampF k + clampF v) / 16

set_option maxHeartbeats 400000 in
theorem use_any (L U n : Int) (w : World) (hL : -9223372036854775808 ≤ L ∧ L ≤ 9223372036854775807) (hU : -9223372036854775808 ≤ U ∧ U ≤ 9223372036854775807) (hn : -9223372036854775808 ≤ n ∧ n ≤ 9223372036854775807) :
    Calls Tryz.prog 93 #[.agg #[.int .i64 L, .int .i64 U], .int .i64 n] w fun e w' => e = .returned (.tuple #[.agg #[.int .i64 L, .int .i64 (useU L U n)], .bool (useB L U n)]) ∧ Below w.heap.size w w' := by
  go_enter Tryz.func93, Tryz.ntmps93
  go_wp2
  all_goals
    refine bodyPost_ret (v := .tuple #[.agg #[.int .i64 L, .int .i64 (useU L U n)], .bool (useB L U n)]) ?_ rfl ⟨rfl, ((Below.refl _ _).alloc (Nat.le_refl _) _).alloc (by simp) _⟩
    by_cases hc : 0 ≤ U ∧ U ≤ L ∧ 0 ≤ n ∧ n ≤ L - U
    · obtain ⟨e1, e2⟩ := use_yes hc
      rw [e1, e2]
      first | (exfalso; omega) | simp [results, Tryz.results93, go_sem]
    · obtain ⟨e1, e2⟩ := use_no hc
      rw [e1, e2]
      first | (exfalso; omega) | simp [results, Tryz.results93, go_sem]

set_option maxHeartbeats 400000 in
theorem new_any (L : Int) (w : World) (hL : -9223372036854775808 ≤ L ∧ L ≤ 9223372036854775807) :
    Calls Tryz.prog 26 #[.int .i64 L] w fun e w' => e = .returned (.agg #[.int .i64 (newL L), .int .i64 0]) ∧ Below w.heap.size w w' := by
  go_enter Tryz.func26, Tryz.ntmps26
  go_wp2
  all_goals
    refine bodyPost_ret (v := .agg #[.int .i64 (newL L), .int .i64 0]) ?_ rfl ⟨rfl, (Below.refl _ _).alloc (Nat.le_refl _) _⟩
    simp [results, Tryz.results26, go_sem, newL]
    try omega

set_option maxHeartbeats 400000 in
theorem texts_any (n : Int) (w : World) (hn : -9223372036854775808 ≤ n ∧ n ≤ 9223372036854775807) :
    Calls Tryz.prog 95 #[.int .i64 n] w fun e w' => e = .returned (.int .i64 (textsF n)) ∧ w = w' := by
  go_enter Tryz.func95, Tryz.ntmps95
  go_wp2
  all_goals
    go_ret
    exact ⟨ret_int (by unfold textsF; omega), rfl⟩

set_option maxHeartbeats 400000 in
theorem put_any (k v : Int) (w : World) (hk : -9223372036854775808 ≤ k ∧ k ≤ 9223372036854775807) (hv : -9223372036854775808 ≤ v ∧ v ≤ 9223372036854775807) :
    Calls Tryz.prog 97 #[.int .i64 k, .int .i64 v] w fun e w' => e = .returned (.int .i64 (putF k v)) ∧ w = w' := by
  go_enter Tryz.func97, Tryz.ntmps97
  go_wp2
  all_goals
    go_ret
    exact ⟨ret_int (by unfold putF clampF; omega), rfl⟩

end Go.Proofs.YtmdceokmpjcllaaGreatDoor
