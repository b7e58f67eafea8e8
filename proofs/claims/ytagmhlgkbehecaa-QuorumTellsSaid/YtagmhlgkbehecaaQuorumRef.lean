/-
  Contracts of the reference of package quorum.
-/
import Derived.Test.YtagmhlgkbehecaaQuorumAgreed
import Derived.Test.YtagmhlgkbehecaaQuorumBestC
namespace Go.Proofs.Ytagmhlgkbehecaa
open Go.RowKit
attribute [local go_sem ↓] Go.wp_at_zero Go.wp_at_succ

set_option maxHeartbeats 400000 in
theorem fewR_any (f : Int) (w : World) (hf : -9223372036854775808 ≤ f ∧ f ≤ 9223372036854775807) :
    Calls Try.prog 22 #[.int .i64 f] w fun e w' => e = .returned (.int .i64 (fewF f)) ∧ w = w' := by
  go_enter Try.func22, Try.ntmps22
  go_wp2
  all_goals
    go_ret
    exact ⟨ret_int (by unfold fewF; omega), rfl⟩

set_option maxHeartbeats 400000 in
theorem primaryR_any (f v : Int) (w : World) (hf : -9223372036854775808 ≤ f ∧ f ≤ 9223372036854775807) (hv : -9223372036854775808 ≤ v ∧ v ≤ 9223372036854775807) :
    Calls Try.prog 19 #[.int .i64 f, .int .i64 v] w fun e w' => e = .returned (.int .i64 (max 0 v % (2 * fewF f + 1))) ∧ w = w' := by
  have h1 : 0 ≤ fewF f ∧ fewF f ≤ 3 := by unfold fewF; omega
  have h2 : 2 * fewF f + 1 ≠ 0 := by omega
  go_enter Try.func19, Try.ntmps19
  go_wp2_with (go_at_call 22; refine (fewR_any _ _ hf).mono ?_; rintro e w1 ⟨rfl, rfl⟩)
  all_goals
    go_ret
    refine ⟨ret_int ?_, rfl⟩
    first | (rw [Int.max_eq_right (by omega)]; done) | (rw [Int.max_eq_left (by omega), Int.zero_emod]; done)

set_option maxHeartbeats 400000 in
theorem addR_any (f : Int) (M : Nat) (i : Int) (w : World) (hf : -9223372036854775808 ≤ f ∧ f ≤ 9223372036854775807) (hi : -9223372036854775808 ≤ i ∧ i ≤ 9223372036854775807) (hm : M < 18446744073709551616) :
    Calls Try.prog 13 #[.int .i64 f, .int .u64 M, .int .i64 i] w fun e w' => e = .returned (.int .u64 (addF f M i : Nat)) ∧ w = w' := by
  have h1 : 0 ≤ fewF f ∧ fewF f ≤ 3 := by unfold fewF; omega
  by_cases hin : 0 ≤ i ∧ i ≤ 2 * fewF f
  · obtain ⟨j, rfl⟩ := Int.eq_ofNat_of_zero_le hin.1
    have hj : j ≤ 6 := by omega
    have h64 : 2 ^ j < 18446744073709551616 := Nat.lt_of_le_of_lt (Nat.pow_le_pow_right (by omega) hj) (by decide)
    go_enter Try.func13, Try.ntmps13
    go_wp2_with (go_at_call 22; refine (fewR_any _ _ hf).mono ?_; rintro e w1 ⟨rfl, rfl⟩)
    go_ret
    refine ⟨ret_int ?_, rfl⟩
    rw [wrap_pow j hj, u64_or_nat M (2 ^ j) hm h64]
    unfold addF
    rw [if_pos hin]
    simp
  · go_enter Try.func13, Try.ntmps13
    go_wp2_with (go_at_call 22; refine (fewR_any _ _ hf).mono ?_; rintro e w1 ⟨rfl, rfl⟩)
    all_goals
      go_ret
      exact ⟨ret_int (by unfold addF; rw [if_neg hin]), rfl⟩

/-- how many of the first i bits are set -/
def cb (M : Nat) : Nat → Nat
  | 0 => 0
  | i + 1 => cb M i + M / 2 ^ i % 2
theorem cb_le (M i : Nat) : cb M i ≤ i := by
  induction i with
  | zero => exact Nat.le_refl _
  | succ i ih => simp only [cb]; omega
theorem cb_ones (k M : Nat) (hk : k ≤ 3) : cb M (2 * k + 1) = ones (M % 2 ^ (2 * k + 1)) := by
  have : k = 0 ∨ k = 1 ∨ k = 2 ∨ k = 3 := by omega
  rcases this with rfl | rfl | rfl | rfl
  all_goals
    simp only [cb, ones]
    omega

set_option maxHeartbeats 1000000 in
theorem mostR_any (f : Int) (M : Nat) (w : World) (hf : -9223372036854775808 ≤ f ∧ f ≤ 9223372036854775807) (hm : M < 18446744073709551616) :
    Calls Try.prog 11 #[.int .i64 f, .int .u64 M] w fun e w' => e = .returned (.bool (mostF f M)) ∧ w = w' := by
  have h1 : 0 ≤ fewF f ∧ fewF f ≤ 3 := by unfold fewF; omega
  obtain ⟨k, hk⟩ := Int.eq_ofNat_of_zero_le h1.1
  have hk3 : k ≤ 3 := by omega
  have hend : mostF f M = decide (k < cb M (2 * k + 1)) := by unfold mostF mostN; rw [hk, Int.toNat_natCast, cb_ones k M hk3]
  rw [hend]
  have HK := Lib.hid hk
  clear hk h1 hend
  go_enter Try.func11, Try.ntmps11
  go_wp2_with fail
  go_loop [5, 6] (fun s5 s6 => ∃ i : Nat, i ≤ 2 * k + 1 ∧ s6 = .int .i64 i ∧ s5 = .int .i64 (cb M i : Nat)) (fun _ s6 => 2 * k + 1 - (intOf s6).toNat)
  case atStart => exact ⟨0, by omega, rfl, rfl⟩
  case round =>
    obtain ⟨i, hi, rfl, rfl⟩ := hrel
    have hcl := cb_le M i
    by_cases hlt : i < 2 * k + 1
    · have hdl : M / 2 ^ i < 18446744073709551616 := Nat.lt_of_le_of_lt (Nat.div_le_self _ _) hm
      have hband := and1 (M / 2 ^ i) hdl
      rw [Int.natCast_ediv, Int.natCast_pow] at hband
      have hcs : cb M (i + 1) = cb M i + M / 2 ^ i % 2 := rfl
      have h2 : M / 2 ^ i % 2 = 0 ∨ M / 2 ^ i % 2 = 1 := by omega
      have HCS := Lib.hid hcs
      clear hcs hdl
      rcases h2 with h2 | h2
      · rw [h2] at hband HCS
        replace hband : bits BinOp.and IntKind.u64 ((M : Int) / 2 ^ i) 1 = 0 := hband
        clear h2
        go_wp2_with fail
        refine (fewR_any _ _ hf).mono ?_
        rintro e w1 ⟨rfl, rfl⟩
        rw [HK.out]
        go_wp2_with fail
        go_round
        case rel => exact ⟨i + 1, by omega, by go_num, by rw [HCS.out]; go_num⟩
        case measure => simp [intOf]; omega
      · rw [h2] at hband HCS
        replace hband : bits BinOp.and IntKind.u64 ((M : Int) / 2 ^ i) 1 = 1 := hband
        clear h2
        go_wp2_with fail
        refine (fewR_any _ _ hf).mono ?_
        rintro e w1 ⟨rfl, rfl⟩
        rw [HK.out]
        go_wp2_with fail
        go_round
        case rel => exact ⟨i + 1, by omega, by go_num, by rw [HCS.out]; go_num⟩
        case measure => simp [intOf]; omega
    · obtain rfl : i = 2 * k + 1 := by omega
      go_wp2_with fail
      refine (fewR_any _ _ hf).mono ?_
      rintro e w1 ⟨rfl, rfl⟩
      rw [HK.out]
      go_wp2_with fail
      refine (fewR_any _ _ hf).mono ?_
      rintro e w1 ⟨rfl, rfl⟩
      rw [HK.out]
      go_wp2_with fail
      go_ret
      refine ⟨ret_bool ?_, rfl⟩
      rw [decide_eq_decide]
      omega
end Go.Proofs.Ytagmhlgkbehecaa
