/-
  Contracts of package quorum, but for Agreed and Best: what each function returns.
-/
import Derived.Test.YtagmhlgkbehecaaRows
import Derived.Test.YtagmhlgkbehecaaKit
namespace Go.Proofs.Ytagmhlgkbehecaa
open Go.RowKit

/-- how many may fail, bounded -/
def fewF (f : Int) : Int := min (max f 0) 3
theorem few_cases (f : Int) : fewF f = 0 ∨ fewF f = 1 ∨ fewF f = 2 ∨ fewF f = 3 := by unfold fewF; omega
/-- how many of a number's lowest seven bits are set -/
def ones (m : Nat) : Nat := m % 2 + m / 2 % 2 + m / 4 % 2 + m / 8 % 2 + m / 16 % 2 + m / 32 % 2 + m / 64 % 2
def onesF (m : Int) : Int := (ones m.toNat : Nat)
/-- more than k of the lowest 2 k + 1 bits -/
def mostN (k M : Nat) : Bool := decide (k < ones (M % 2 ^ (2 * k + 1)))
def mostF (f : Int) (M : Nat) : Bool := mostN (fewF f).toNat M
def addF (f : Int) (M : Nat) (i : Int) : Nat := if 0 ≤ i ∧ i ≤ 2 * fewF f then M ||| 2 ^ i.toNat else M
theorem ones_le (m : Nat) : ones m ≤ 7 := by unfold ones; omega

theorem and1 (M : Nat) (h : M < 18446744073709551616) : bits .and .u64 (M : Int) 1 = ((M % 2 : Nat) : Int) := by
  have := u64_and_nat M 1 h (by omega); rw [← Nat.and_two_pow_sub_one_eq_mod M 1]; exact this
theorem and7 (M : Nat) (h : M < 18446744073709551616) : bits .and .u64 (M : Int) 7 = ((M % 8 : Nat) : Int) := by
  have := u64_and_nat M 7 h (by omega); rw [← Nat.and_two_pow_sub_one_eq_mod M 3]; exact this
theorem and31 (M : Nat) (h : M < 18446744073709551616) : bits .and .u64 (M : Int) 31 = ((M % 32 : Nat) : Int) := by
  have := u64_and_nat M 31 h (by omega); rw [← Nat.and_two_pow_sub_one_eq_mod M 5]; exact this
theorem and127 (M : Nat) (h : M < 18446744073709551616) : bits .and .u64 (M : Int) 127 = ((M % 128 : Nat) : Int) := by
  have := u64_and_nat M 127 h (by omega); rw [← Nat.and_two_pow_sub_one_eq_mod M 7]; exact this

theorem wrap_pow : ∀ j : Nat, j ≤ 6 → IntKind.u64.wrap ((2 : Int) ^ j) = ((2 ^ j : Nat) : Int) := by
  intro j hj
  have : j = 0 ∨ j = 1 ∨ j = 2 ∨ j = 3 ∨ j = 4 ∨ j = 5 ∨ j = 6 := by omega
  rcases this with rfl | rfl | rfl | rfl | rfl | rfl | rfl <;> decide

set_option maxHeartbeats 400000 in
theorem few_any (f : Int) (w : World) (hf : -9223372036854775808 ≤ f ∧ f ≤ 9223372036854775807) :
    Calls Try.prog 21 #[.int .i64 f] w fun e w' => e = .returned (.int .i64 (fewF f)) ∧ w = w' := by
  go_enter Try.func21, Try.ntmps21
  go_wp2
  all_goals
    go_ret
    exact ⟨ret_int (by unfold fewF; omega), rfl⟩

set_option maxHeartbeats 400000 in
theorem primary_any (f v : Int) (w : World) (hf : -9223372036854775808 ≤ f ∧ f ≤ 9223372036854775807) (hv : -9223372036854775808 ≤ v ∧ v ≤ 9223372036854775807) :
    Calls Try.prog 18 #[.int .i64 f, .int .i64 v] w fun e w' => e = .returned (.int .i64 (max 0 v % (2 * fewF f + 1))) ∧ w = w' := by
  have h1 : 0 ≤ fewF f ∧ fewF f ≤ 3 := by unfold fewF; omega
  have h2 : 2 * fewF f + 1 ≠ 0 := by omega
  go_enter Try.func18, Try.ntmps18
  go_wp2_with (go_at_call 21; refine (few_any _ _ hf).mono ?_; rintro e w1 ⟨rfl, rfl⟩)
  · have h : 0 < v ∨ 0 ≤ v := by omega
    go_ret
    exact ⟨ret_int (by rw [Int.max_eq_right (by omega)]), rfl⟩
  · go_ret
    exact ⟨ret_int (by rw [Int.max_eq_left (by omega), Int.zero_emod]), rfl⟩

set_option maxRecDepth 100000 in
set_option maxHeartbeats 400000 in
theorem ones_any (m : Int) (w : World) (hm : 0 ≤ m ∧ m < 128) :
    Calls Try.prog 20 #[.int .u64 m] w fun e w' => e = .returned (.int .i64 (onesF m)) ∧ w = w' := by
  go_enter Try.func20, Try.ntmps20
  go_wp2
  go_ret
  refine ⟨ret_int ?_, rfl⟩
  obtain ⟨k, rfl⟩ := Int.eq_ofNat_of_zero_le hm.1
  have hk : k < 128 := by omega
  clear hm
  revert k
  decide +kernel

set_option maxHeartbeats 400000 in
theorem most_any (f : Int) (M : Nat) (w : World) (hf : -9223372036854775808 ≤ f ∧ f ≤ 9223372036854775807) (hm : M < 18446744073709551616) :
    Calls Try.prog 10 #[.int .i64 f, .int .u64 M] w fun e w' => e = .returned (.bool (mostF f M)) ∧ w = w' := by
  have a1 := and1 M hm
  have a7 := and7 M hm
  have a31 := and31 M hm
  have a127 := and127 M hm
  unfold mostF mostN
  rcases few_cases f with hk | hk | hk | hk
  all_goals
    rw [hk]
    have HK := Lib.hid hk
    clear hk
    go_enter Try.func10, Try.ntmps10
    go_wp2_with fail
    refine (few_any _ _ hf).mono ?_; rintro e w1 ⟨rfl, rfl⟩
    rw [HK.out]
    go_wp2_with fail
    refine (ones_any _ _ (by omega)).mono ?_; rintro e w1 ⟨rfl, rfl⟩
    go_wp2_with fail
    refine (few_any _ _ hf).mono ?_; rintro e w1 ⟨rfl, rfl⟩
    rw [HK.out]
    go_wp2_with fail
    go_ret
    refine ⟨ret_bool ?_, rfl⟩
    rw [decide_eq_decide]
    simp only [onesF]
    first | (rw [show (((M % 2 : Nat) : Int)).toNat = M % 2 from by omega]; show _ ↔ _ < ones (M % 2); omega) | (rw [show ((M : Int) % 2).toNat = M % 2 from by omega]; show _ ↔ _ < ones (M % 2); omega) | (rw [show ((M : Int) % 8).toNat = M % 8 from by omega]; show _ ↔ _ < ones (M % 8); omega) | (rw [show ((M : Int) % 32).toNat = M % 32 from by omega]; show _ ↔ _ < ones (M % 32); omega) | (rw [show ((M : Int) % 128).toNat = M % 128 from by omega]; show _ ↔ _ < ones (M % 128); omega)

set_option maxHeartbeats 400000 in
theorem add_any (f : Int) (M : Nat) (i : Int) (w : World) (hf : -9223372036854775808 ≤ f ∧ f ≤ 9223372036854775807) (hi : -9223372036854775808 ≤ i ∧ i ≤ 9223372036854775807) (hm : M < 18446744073709551616) :
    Calls Try.prog 12 #[.int .i64 f, .int .u64 M, .int .i64 i] w fun e w' => e = .returned (.int .u64 (addF f M i : Nat)) ∧ w = w' := by
  have h1 : 0 ≤ fewF f ∧ fewF f ≤ 3 := by unfold fewF; omega
  by_cases hin : 0 ≤ i ∧ i ≤ 2 * fewF f
  · obtain ⟨j, rfl⟩ := Int.eq_ofNat_of_zero_le hin.1
    have hj : j ≤ 6 := by omega
    have h64 : 2 ^ j < 18446744073709551616 := Nat.lt_of_le_of_lt (Nat.pow_le_pow_right (by omega) hj) (by decide)
    go_enter Try.func12, Try.ntmps12
    go_wp2_with (go_at_call 21; refine (few_any _ _ hf).mono ?_; rintro e w1 ⟨rfl, rfl⟩)
    go_ret
    refine ⟨ret_int ?_, rfl⟩
    rw [wrap_pow j hj, u64_or_nat M (2 ^ j) hm h64]
    unfold addF
    rw [if_pos hin]
    simp
  · go_enter Try.func12, Try.ntmps12
    go_wp2_with (go_at_call 21; refine (few_any _ _ hf).mono ?_; rintro e w1 ⟨rfl, rfl⟩)
    all_goals
      go_ret
      exact ⟨ret_int (by unfold addF; rw [if_neg hin]), rfl⟩
end Go.Proofs.Ytagmhlgkbehecaa
