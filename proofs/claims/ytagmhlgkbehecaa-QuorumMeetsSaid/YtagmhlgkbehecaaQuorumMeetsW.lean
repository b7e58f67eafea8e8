/-
  QuorumMeets returns true for every input.
-/
import Derived.Test.YtagmhlgkbehecaaQuorumHead
namespace Go.Proofs.Ytagmhlgkbehecaa
open Go.RowKit

theorem meet0 : ∀ x, x < 2 → ∀ y, y < 2 → 0 < ones x → 0 < ones y → x &&& y ≠ 0 := by decide +kernel
theorem meet1 : ∀ x, x < 8 → ∀ y, y < 8 → 1 < ones x → 1 < ones y → x &&& y ≠ 0 := by decide +kernel
theorem meet2 : ∀ x, x < 32 → ∀ y, y < 32 → 2 < ones x → 2 < ones y → x &&& y ≠ 0 := by decide +kernel
theorem meet3 : ∀ x, x < 128 → ∀ y, y < 128 → 3 < ones x → 3 < ones y → x &&& y ≠ 0 := by decide +kernel
theorem more7 : ∀ x, x < 128 → ∀ y, y < 128 → ones x ≤ ones (x ||| y) := by decide +kernel
theorem meetN (k A B : Nat) (hk : k ≤ 3) (ha : mostN k A = true) (hb : mostN k B = true) : (A &&& B) % 2 ^ (2 * k + 1) ≠ 0 := by
  unfold mostN at ha hb
  rw [decide_eq_true_eq] at ha hb
  rw [Nat.and_mod_two_pow]
  have : k = 0 ∨ k = 1 ∨ k = 2 ∨ k = 3 := by omega
  rcases this with rfl | rfl | rfl | rfl
  · exact meet0 _ (Nat.mod_lt _ (by decide)) _ (Nat.mod_lt _ (by decide)) ha hb
  · exact meet1 _ (Nat.mod_lt _ (by decide)) _ (Nat.mod_lt _ (by decide)) ha hb
  · exact meet2 _ (Nat.mod_lt _ (by decide)) _ (Nat.mod_lt _ (by decide)) ha hb
  · exact meet3 _ (Nat.mod_lt _ (by decide)) _ (Nat.mod_lt _ (by decide)) ha hb
theorem moreN (k A B : Nat) (hk : k ≤ 3) (ha : mostN k A = true) : mostN k (A ||| B) = true := by
  unfold mostN at ha ⊢
  rw [decide_eq_true_eq] at ha ⊢
  rw [Nat.or_mod_two_pow]
  have h1 : ∀ x, x % 2 ^ (2 * k + 1) < 128 := fun x => Nat.lt_of_lt_of_le (Nat.mod_lt x (Nat.two_pow_pos _)) (by
    have : 2 ^ (2 * k + 1) ≤ 2 ^ 7 := Nat.pow_le_pow_right (by omega) (by omega)
    exact this)
  exact Nat.lt_of_lt_of_le ha (more7 _ (h1 A) _ (h1 B))
theorem fullN (k : Nat) (hk : k ≤ 3) : mostN k (2 ^ (2 * k + 1) - 1) = true := by
  have : k = 0 ∨ k = 1 ∨ k = 2 ∨ k = 3 := by omega
  rcases this with rfl | rfl | rfl | rfl <;> decide
theorem noneN (k : Nat) (hk : k ≤ 3) : mostN k 0 = false := by
  have : k = 0 ∨ k = 1 ∨ k = 2 ∨ k = 3 := by omega
  rcases this with rfl | rfl | rfl | rfl <;> decide
theorem few_nat (f : Int) : (fewF f).toNat ≤ 3 := by unfold fewF; omega

-- the walks
theorem fw_lt0 (f : Int) (hf : -9223372036854775808 ≤ f ∧ f ≤ 9223372036854775807) (h1 : f < 0) : (fewF f).toNat = 0 := by unfold fewF; omega
set_option maxRecDepth 100000 in
set_option maxHeartbeats 1000000 in
theorem meets_lt0 (f : Int) (hf : -9223372036854775808 ≤ f ∧ f ≤ 9223372036854775807) (h1 : f < 0) (A B : Nat) (w : World) (hA : A < 18446744073709551616) (hB : B < 18446744073709551616) :
    Calls Try.prog 4 #[.int .i64 f, .int .u64 A, .int .u64 B] w fun e w' => e = .returned (.bool true) ∧ Below w.heap.size w w' := by
  have hk := fw_lt0 f hf h1
  have most : ∀ (X : Nat) (w : World), X < 18446744073709551616 → Calls Try.prog 10 #[.int .i64 f, .int .u64 X] w fun e w' => e = .returned (.bool (mostN 0 X)) ∧ w = w' := fun X w hX => by
    have h := most_any f X w hf hX
    unfold mostF at h
    rwa [hk] at h
  have hor := u64_or_nat A B hA hB
  have hand := u64_and_nat A B hA hB
  have hO2 : A ||| B < 18446744073709551616 := Nat.or_lt_two_pow (n := 64) hA hB
  have hN2 : A &&& B < 18446744073709551616 := Nat.and_lt_two_pow (n := 64) _ hB
  have hm := and1 (A &&& B) hN2
  have KF := Lib.hid (fun w => most 1 w (by omega))
  have K0 := Lib.hid (fun w => most 0 w (by omega))
  have KA := Lib.hid (fun w => most A w hA)
  have KB := Lib.hid (fun w => most B w hB)
  have KO := Lib.hid (fun w => most (A ||| B) w hO2)
  rw [show mostN 0 1 = true from fullN 0 (by omega)] at KF
  rw [noneN 0 (by omega)] at K0
  clear most
  cases ha : mostN 0 A
  · rw [ha] at KA
    clear ha
    go_enter Try.func4, Try.ntmps4
    go_wp2_with fail
    refine (head_any _).mono ?_
    rintro e w1 ⟨rfl, hb1⟩
    go_wp2_with fail
    refine (KA.out _).mono ?_
    rintro e w2 ⟨rfl, rfl⟩
    go_wp2_with fail
    refine (KA.out _).mono ?_
    rintro e w2 ⟨rfl, rfl⟩
    go_wp2_with fail
    refine (KF.out _).mono ?_
    rintro e w2 ⟨rfl, rfl⟩
    go_wp2_with fail
    refine (K0.out _).mono ?_
    rintro e w2 ⟨rfl, rfl⟩
    go_wp2_with fail
    go_ret
    exact ⟨rfl, hb1⟩
  · rw [ha] at KA
    rw [moreN 0 A B (by omega) ha] at KO
    cases hb : mostN 0 B
    · rw [hb] at KB
      clear ha hb
      go_enter Try.func4, Try.ntmps4
      go_wp2_with fail
      refine (head_any _).mono ?_
      rintro e w1 ⟨rfl, hb1⟩
      go_wp2_with fail
      refine (KA.out _).mono ?_
      rintro e w2 ⟨rfl, rfl⟩
      go_wp2_with fail
      refine (KB.out _).mono ?_
      rintro e w2 ⟨rfl, rfl⟩
      go_wp2_with fail
      refine (KA.out _).mono ?_
      rintro e w2 ⟨rfl, rfl⟩
      go_wp2_with fail
      refine (KO.out _).mono ?_
      rintro e w2 ⟨rfl, rfl⟩
      go_wp2_with fail
      refine (KF.out _).mono ?_
      rintro e w2 ⟨rfl, rfl⟩
      go_wp2_with fail
      refine (K0.out _).mono ?_
      rintro e w2 ⟨rfl, rfl⟩
      go_wp2_with fail
      go_ret
      exact ⟨rfl, hb1⟩
    · rw [hb] at KB
      have hne := meetN 0 A B (by omega) ha hb
      have hne2 : ((((A &&& B) % 2 : Nat) : Int) == 0) = false := by
        generalize (A &&& B) % 2 = c at hne
        rw [beq_eq_false_iff_ne]; omega
      generalize (A &&& B) % 2 = c at hm hne2
      have HN := Lib.hid hne
      clear ha hb hne
      go_enter Try.func4, Try.ntmps4
      go_wp2_with fail
      refine (head_any _).mono ?_
      rintro e w1 ⟨rfl, hb1⟩
      go_wp2_with fail
      refine (KA.out _).mono ?_
      rintro e w2 ⟨rfl, rfl⟩
      go_wp2_with fail
      refine (KB.out _).mono ?_
      rintro e w2 ⟨rfl, rfl⟩
      go_wp2_with fail
      refine (KA.out _).mono ?_
      rintro e w2 ⟨rfl, rfl⟩
      go_wp2_with fail
      refine (KO.out _).mono ?_
      rintro e w2 ⟨rfl, rfl⟩
      go_wp2_with fail
      refine (KF.out _).mono ?_
      rintro e w2 ⟨rfl, rfl⟩
      go_wp2_with fail
      refine (K0.out _).mono ?_
      rintro e w2 ⟨rfl, rfl⟩
      go_wp2_with fail
      go_ret
      exact ⟨rfl, hb1⟩

theorem fw_eq0 : (fewF 0).toNat = 0 := by decide
set_option maxRecDepth 100000 in
set_option maxHeartbeats 1000000 in
theorem meets_eq0 (A B : Nat) (w : World) (hA : A < 18446744073709551616) (hB : B < 18446744073709551616) :
    Calls Try.prog 4 #[.int .i64 0, .int .u64 A, .int .u64 B] w fun e w' => e = .returned (.bool true) ∧ Below w.heap.size w w' := by
  have hk := fw_eq0
  have most : ∀ (X : Nat) (w : World), X < 18446744073709551616 → Calls Try.prog 10 #[.int .i64 0, .int .u64 X] w fun e w' => e = .returned (.bool (mostN 0 X)) ∧ w = w' := fun X w hX => by
    have h := most_any 0 X w (by omega) hX
    unfold mostF at h
    rwa [hk] at h
  have hor := u64_or_nat A B hA hB
  have hand := u64_and_nat A B hA hB
  have hO2 : A ||| B < 18446744073709551616 := Nat.or_lt_two_pow (n := 64) hA hB
  have hN2 : A &&& B < 18446744073709551616 := Nat.and_lt_two_pow (n := 64) _ hB
  have hm := and1 (A &&& B) hN2
  have KF := Lib.hid (fun w => most 1 w (by omega))
  have K0 := Lib.hid (fun w => most 0 w (by omega))
  have KA := Lib.hid (fun w => most A w hA)
  have KB := Lib.hid (fun w => most B w hB)
  have KO := Lib.hid (fun w => most (A ||| B) w hO2)
  rw [show mostN 0 1 = true from fullN 0 (by omega)] at KF
  rw [noneN 0 (by omega)] at K0
  clear most
  cases ha : mostN 0 A
  · rw [ha] at KA
    clear ha
    go_enter Try.func4, Try.ntmps4
    go_wp2_with fail
    refine (head_any _).mono ?_
    rintro e w1 ⟨rfl, hb1⟩
    go_wp2_with fail
    refine (KA.out _).mono ?_
    rintro e w2 ⟨rfl, rfl⟩
    go_wp2_with fail
    refine (KA.out _).mono ?_
    rintro e w2 ⟨rfl, rfl⟩
    go_wp2_with fail
    refine (KF.out _).mono ?_
    rintro e w2 ⟨rfl, rfl⟩
    go_wp2_with fail
    refine (K0.out _).mono ?_
    rintro e w2 ⟨rfl, rfl⟩
    go_wp2_with fail
    go_ret
    exact ⟨rfl, hb1⟩
  · rw [ha] at KA
    rw [moreN 0 A B (by omega) ha] at KO
    cases hb : mostN 0 B
    · rw [hb] at KB
      clear ha hb
      go_enter Try.func4, Try.ntmps4
      go_wp2_with fail
      refine (head_any _).mono ?_
      rintro e w1 ⟨rfl, hb1⟩
      go_wp2_with fail
      refine (KA.out _).mono ?_
      rintro e w2 ⟨rfl, rfl⟩
      go_wp2_with fail
      refine (KB.out _).mono ?_
      rintro e w2 ⟨rfl, rfl⟩
      go_wp2_with fail
      refine (KA.out _).mono ?_
      rintro e w2 ⟨rfl, rfl⟩
      go_wp2_with fail
      refine (KO.out _).mono ?_
      rintro e w2 ⟨rfl, rfl⟩
      go_wp2_with fail
      refine (KF.out _).mono ?_
      rintro e w2 ⟨rfl, rfl⟩
      go_wp2_with fail
      refine (K0.out _).mono ?_
      rintro e w2 ⟨rfl, rfl⟩
      go_wp2_with fail
      go_ret
      exact ⟨rfl, hb1⟩
    · rw [hb] at KB
      have hne := meetN 0 A B (by omega) ha hb
      have hne2 : ((((A &&& B) % 2 : Nat) : Int) == 0) = false := by
        generalize (A &&& B) % 2 = c at hne
        rw [beq_eq_false_iff_ne]; omega
      generalize (A &&& B) % 2 = c at hm hne2
      have HN := Lib.hid hne
      clear ha hb hne
      go_enter Try.func4, Try.ntmps4
      go_wp2_with fail
      refine (head_any _).mono ?_
      rintro e w1 ⟨rfl, hb1⟩
      go_wp2_with fail
      refine (KA.out _).mono ?_
      rintro e w2 ⟨rfl, rfl⟩
      go_wp2_with fail
      refine (KB.out _).mono ?_
      rintro e w2 ⟨rfl, rfl⟩
      go_wp2_with fail
      refine (KA.out _).mono ?_
      rintro e w2 ⟨rfl, rfl⟩
      go_wp2_with fail
      refine (KO.out _).mono ?_
      rintro e w2 ⟨rfl, rfl⟩
      go_wp2_with fail
      refine (KF.out _).mono ?_
      rintro e w2 ⟨rfl, rfl⟩
      go_wp2_with fail
      refine (K0.out _).mono ?_
      rintro e w2 ⟨rfl, rfl⟩
      go_wp2_with fail
      go_ret
      exact ⟨rfl, hb1⟩

theorem fw_eq1 : (fewF 1).toNat = 1 := by decide
set_option maxRecDepth 100000 in
set_option maxHeartbeats 1000000 in
theorem meets_eq1 (A B : Nat) (w : World) (hA : A < 18446744073709551616) (hB : B < 18446744073709551616) :
    Calls Try.prog 4 #[.int .i64 1, .int .u64 A, .int .u64 B] w fun e w' => e = .returned (.bool true) ∧ Below w.heap.size w w' := by
  have hk := fw_eq1
  have most : ∀ (X : Nat) (w : World), X < 18446744073709551616 → Calls Try.prog 10 #[.int .i64 1, .int .u64 X] w fun e w' => e = .returned (.bool (mostN 1 X)) ∧ w = w' := fun X w hX => by
    have h := most_any 1 X w (by omega) hX
    unfold mostF at h
    rwa [hk] at h
  have hor := u64_or_nat A B hA hB
  have hand := u64_and_nat A B hA hB
  have hO2 : A ||| B < 18446744073709551616 := Nat.or_lt_two_pow (n := 64) hA hB
  have hN2 : A &&& B < 18446744073709551616 := Nat.and_lt_two_pow (n := 64) _ hB
  have hm := and7 (A &&& B) hN2
  have KF := Lib.hid (fun w => most 7 w (by omega))
  have K0 := Lib.hid (fun w => most 0 w (by omega))
  have KA := Lib.hid (fun w => most A w hA)
  have KB := Lib.hid (fun w => most B w hB)
  have KO := Lib.hid (fun w => most (A ||| B) w hO2)
  rw [show mostN 1 7 = true from fullN 1 (by omega)] at KF
  rw [noneN 1 (by omega)] at K0
  clear most
  cases ha : mostN 1 A
  · rw [ha] at KA
    clear ha
    go_enter Try.func4, Try.ntmps4
    go_wp2_with fail
    refine (head_any _).mono ?_
    rintro e w1 ⟨rfl, hb1⟩
    go_wp2_with fail
    refine (KA.out _).mono ?_
    rintro e w2 ⟨rfl, rfl⟩
    go_wp2_with fail
    refine (KA.out _).mono ?_
    rintro e w2 ⟨rfl, rfl⟩
    go_wp2_with fail
    refine (KF.out _).mono ?_
    rintro e w2 ⟨rfl, rfl⟩
    go_wp2_with fail
    refine (K0.out _).mono ?_
    rintro e w2 ⟨rfl, rfl⟩
    go_wp2_with fail
    go_ret
    exact ⟨rfl, hb1⟩
  · rw [ha] at KA
    rw [moreN 1 A B (by omega) ha] at KO
    cases hb : mostN 1 B
    · rw [hb] at KB
      clear ha hb
      go_enter Try.func4, Try.ntmps4
      go_wp2_with fail
      refine (head_any _).mono ?_
      rintro e w1 ⟨rfl, hb1⟩
      go_wp2_with fail
      refine (KA.out _).mono ?_
      rintro e w2 ⟨rfl, rfl⟩
      go_wp2_with fail
      refine (KB.out _).mono ?_
      rintro e w2 ⟨rfl, rfl⟩
      go_wp2_with fail
      refine (KA.out _).mono ?_
      rintro e w2 ⟨rfl, rfl⟩
      go_wp2_with fail
      refine (KO.out _).mono ?_
      rintro e w2 ⟨rfl, rfl⟩
      go_wp2_with fail
      refine (KF.out _).mono ?_
      rintro e w2 ⟨rfl, rfl⟩
      go_wp2_with fail
      refine (K0.out _).mono ?_
      rintro e w2 ⟨rfl, rfl⟩
      go_wp2_with fail
      go_ret
      exact ⟨rfl, hb1⟩
    · rw [hb] at KB
      have hne := meetN 1 A B (by omega) ha hb
      have hne2 : ((((A &&& B) % 8 : Nat) : Int) == 0) = false := by
        generalize (A &&& B) % 8 = c at hne
        rw [beq_eq_false_iff_ne]; omega
      generalize (A &&& B) % 8 = c at hm hne2
      have HN := Lib.hid hne
      clear ha hb hne
      go_enter Try.func4, Try.ntmps4
      go_wp2_with fail
      refine (head_any _).mono ?_
      rintro e w1 ⟨rfl, hb1⟩
      go_wp2_with fail
      refine (KA.out _).mono ?_
      rintro e w2 ⟨rfl, rfl⟩
      go_wp2_with fail
      refine (KB.out _).mono ?_
      rintro e w2 ⟨rfl, rfl⟩
      go_wp2_with fail
      refine (KA.out _).mono ?_
      rintro e w2 ⟨rfl, rfl⟩
      go_wp2_with fail
      refine (KO.out _).mono ?_
      rintro e w2 ⟨rfl, rfl⟩
      go_wp2_with fail
      refine (KF.out _).mono ?_
      rintro e w2 ⟨rfl, rfl⟩
      go_wp2_with fail
      refine (K0.out _).mono ?_
      rintro e w2 ⟨rfl, rfl⟩
      go_wp2_with fail
      go_ret
      exact ⟨rfl, hb1⟩

theorem fw_eq2 : (fewF 2).toNat = 2 := by decide
set_option maxRecDepth 100000 in
set_option maxHeartbeats 1000000 in
theorem meets_eq2 (A B : Nat) (w : World) (hA : A < 18446744073709551616) (hB : B < 18446744073709551616) :
    Calls Try.prog 4 #[.int .i64 2, .int .u64 A, .int .u64 B] w fun e w' => e = .returned (.bool true) ∧ Below w.heap.size w w' := by
  have hk := fw_eq2
  have most : ∀ (X : Nat) (w : World), X < 18446744073709551616 → Calls Try.prog 10 #[.int .i64 2, .int .u64 X] w fun e w' => e = .returned (.bool (mostN 2 X)) ∧ w = w' := fun X w hX => by
    have h := most_any 2 X w (by omega) hX
    unfold mostF at h
    rwa [hk] at h
  have hor := u64_or_nat A B hA hB
  have hand := u64_and_nat A B hA hB
  have hO2 : A ||| B < 18446744073709551616 := Nat.or_lt_two_pow (n := 64) hA hB
  have hN2 : A &&& B < 18446744073709551616 := Nat.and_lt_two_pow (n := 64) _ hB
  have hm := and31 (A &&& B) hN2
  have KF := Lib.hid (fun w => most 31 w (by omega))
  have K0 := Lib.hid (fun w => most 0 w (by omega))
  have KA := Lib.hid (fun w => most A w hA)
  have KB := Lib.hid (fun w => most B w hB)
  have KO := Lib.hid (fun w => most (A ||| B) w hO2)
  rw [show mostN 2 31 = true from fullN 2 (by omega)] at KF
  rw [noneN 2 (by omega)] at K0
  clear most
  cases ha : mostN 2 A
  · rw [ha] at KA
    clear ha
    go_enter Try.func4, Try.ntmps4
    go_wp2_with fail
    refine (head_any _).mono ?_
    rintro e w1 ⟨rfl, hb1⟩
    go_wp2_with fail
    refine (KA.out _).mono ?_
    rintro e w2 ⟨rfl, rfl⟩
    go_wp2_with fail
    refine (KA.out _).mono ?_
    rintro e w2 ⟨rfl, rfl⟩
    go_wp2_with fail
    refine (KF.out _).mono ?_
    rintro e w2 ⟨rfl, rfl⟩
    go_wp2_with fail
    refine (K0.out _).mono ?_
    rintro e w2 ⟨rfl, rfl⟩
    go_wp2_with fail
    go_ret
    exact ⟨rfl, hb1⟩
  · rw [ha] at KA
    rw [moreN 2 A B (by omega) ha] at KO
    cases hb : mostN 2 B
    · rw [hb] at KB
      clear ha hb
      go_enter Try.func4, Try.ntmps4
      go_wp2_with fail
      refine (head_any _).mono ?_
      rintro e w1 ⟨rfl, hb1⟩
      go_wp2_with fail
      refine (KA.out _).mono ?_
      rintro e w2 ⟨rfl, rfl⟩
      go_wp2_with fail
      refine (KB.out _).mono ?_
      rintro e w2 ⟨rfl, rfl⟩
      go_wp2_with fail
      refine (KA.out _).mono ?_
      rintro e w2 ⟨rfl, rfl⟩
      go_wp2_with fail
      refine (KO.out _).mono ?_
      rintro e w2 ⟨rfl, rfl⟩
      go_wp2_with fail
      refine (KF.out _).mono ?_
      rintro e w2 ⟨rfl, rfl⟩
      go_wp2_with fail
      refine (K0.out _).mono ?_
      rintro e w2 ⟨rfl, rfl⟩
      go_wp2_with fail
      go_ret
      exact ⟨rfl, hb1⟩
    · rw [hb] at KB
      have hne := meetN 2 A B (by omega) ha hb
      have hne2 : ((((A &&& B) % 32 : Nat) : Int) == 0) = false := by
        generalize (A &&& B) % 32 = c at hne
        rw [beq_eq_false_iff_ne]; omega
      generalize (A &&& B) % 32 = c at hm hne2
      have HN := Lib.hid hne
      clear ha hb hne
      go_enter Try.func4, Try.ntmps4
      go_wp2_with fail
      refine (head_any _).mono ?_
      rintro e w1 ⟨rfl, hb1⟩
      go_wp2_with fail
      refine (KA.out _).mono ?_
      rintro e w2 ⟨rfl, rfl⟩
      go_wp2_with fail
      refine (KB.out _).mono ?_
      rintro e w2 ⟨rfl, rfl⟩
      go_wp2_with fail
      refine (KA.out _).mono ?_
      rintro e w2 ⟨rfl, rfl⟩
      go_wp2_with fail
      refine (KO.out _).mono ?_
      rintro e w2 ⟨rfl, rfl⟩
      go_wp2_with fail
      refine (KF.out _).mono ?_
      rintro e w2 ⟨rfl, rfl⟩
      go_wp2_with fail
      refine (K0.out _).mono ?_
      rintro e w2 ⟨rfl, rfl⟩
      go_wp2_with fail
      go_ret
      exact ⟨rfl, hb1⟩

theorem fw_eq3 : (fewF 3).toNat = 3 := by decide
set_option maxRecDepth 100000 in
set_option maxHeartbeats 1000000 in
theorem meets_eq3 (A B : Nat) (w : World) (hA : A < 18446744073709551616) (hB : B < 18446744073709551616) :
    Calls Try.prog 4 #[.int .i64 3, .int .u64 A, .int .u64 B] w fun e w' => e = .returned (.bool true) ∧ Below w.heap.size w w' := by
  have hk := fw_eq3
  have most : ∀ (X : Nat) (w : World), X < 18446744073709551616 → Calls Try.prog 10 #[.int .i64 3, .int .u64 X] w fun e w' => e = .returned (.bool (mostN 3 X)) ∧ w = w' := fun X w hX => by
    have h := most_any 3 X w (by omega) hX
    unfold mostF at h
    rwa [hk] at h
  have hor := u64_or_nat A B hA hB
  have hand := u64_and_nat A B hA hB
  have hO2 : A ||| B < 18446744073709551616 := Nat.or_lt_two_pow (n := 64) hA hB
  have hN2 : A &&& B < 18446744073709551616 := Nat.and_lt_two_pow (n := 64) _ hB
  have hm := and127 (A &&& B) hN2
  have KF := Lib.hid (fun w => most 127 w (by omega))
  have K0 := Lib.hid (fun w => most 0 w (by omega))
  have KA := Lib.hid (fun w => most A w hA)
  have KB := Lib.hid (fun w => most B w hB)
  have KO := Lib.hid (fun w => most (A ||| B) w hO2)
  rw [show mostN 3 127 = true from fullN 3 (by omega)] at KF
  rw [noneN 3 (by omega)] at K0
  clear most
  cases ha : mostN 3 A
  · rw [ha] at KA
    clear ha
    go_enter Try.func4, Try.ntmps4
    go_wp2_with fail
    refine (head_any _).mono ?_
    rintro e w1 ⟨rfl, hb1⟩
    go_wp2_with fail
    refine (KA.out _).mono ?_
    rintro e w2 ⟨rfl, rfl⟩
    go_wp2_with fail
    refine (KA.out _).mono ?_
    rintro e w2 ⟨rfl, rfl⟩
    go_wp2_with fail
    refine (KF.out _).mono ?_
    rintro e w2 ⟨rfl, rfl⟩
    go_wp2_with fail
    refine (K0.out _).mono ?_
    rintro e w2 ⟨rfl, rfl⟩
    go_wp2_with fail
    go_ret
    exact ⟨rfl, hb1⟩
  · rw [ha] at KA
    rw [moreN 3 A B (by omega) ha] at KO
    cases hb : mostN 3 B
    · rw [hb] at KB
      clear ha hb
      go_enter Try.func4, Try.ntmps4
      go_wp2_with fail
      refine (head_any _).mono ?_
      rintro e w1 ⟨rfl, hb1⟩
      go_wp2_with fail
      refine (KA.out _).mono ?_
      rintro e w2 ⟨rfl, rfl⟩
      go_wp2_with fail
      refine (KB.out _).mono ?_
      rintro e w2 ⟨rfl, rfl⟩
      go_wp2_with fail
      refine (KA.out _).mono ?_
      rintro e w2 ⟨rfl, rfl⟩
      go_wp2_with fail
      refine (KO.out _).mono ?_
      rintro e w2 ⟨rfl, rfl⟩
      go_wp2_with fail
      refine (KF.out _).mono ?_
      rintro e w2 ⟨rfl, rfl⟩
      go_wp2_with fail
      refine (K0.out _).mono ?_
      rintro e w2 ⟨rfl, rfl⟩
      go_wp2_with fail
      go_ret
      exact ⟨rfl, hb1⟩
    · rw [hb] at KB
      have hne := meetN 3 A B (by omega) ha hb
      have hne2 : ((((A &&& B) % 128 : Nat) : Int) == 0) = false := by
        generalize (A &&& B) % 128 = c at hne
        rw [beq_eq_false_iff_ne]; omega
      generalize (A &&& B) % 128 = c at hm hne2
      have HN := Lib.hid hne
      clear ha hb hne
      go_enter Try.func4, Try.ntmps4
      go_wp2_with fail
      refine (head_any _).mono ?_
      rintro e w1 ⟨rfl, hb1⟩
      go_wp2_with fail
      refine (KA.out _).mono ?_
      rintro e w2 ⟨rfl, rfl⟩
      go_wp2_with fail
      refine (KB.out _).mono ?_
      rintro e w2 ⟨rfl, rfl⟩
      go_wp2_with fail
      refine (KA.out _).mono ?_
      rintro e w2 ⟨rfl, rfl⟩
      go_wp2_with fail
      refine (KO.out _).mono ?_
      rintro e w2 ⟨rfl, rfl⟩
      go_wp2_with fail
      refine (KF.out _).mono ?_
      rintro e w2 ⟨rfl, rfl⟩
      go_wp2_with fail
      refine (K0.out _).mono ?_
      rintro e w2 ⟨rfl, rfl⟩
      go_wp2_with fail
      go_ret
      exact ⟨rfl, hb1⟩

theorem fw_gt3 (f : Int) (hf : -9223372036854775808 ≤ f ∧ f ≤ 9223372036854775807) (h1 : 3 < f) : (fewF f).toNat = 3 := by unfold fewF; omega
set_option maxRecDepth 100000 in
set_option maxHeartbeats 1000000 in
theorem meets_gt3 (f : Int) (hf : -9223372036854775808 ≤ f ∧ f ≤ 9223372036854775807) (h1 : 3 < f) (A B : Nat) (w : World) (hA : A < 18446744073709551616) (hB : B < 18446744073709551616) :
    Calls Try.prog 4 #[.int .i64 f, .int .u64 A, .int .u64 B] w fun e w' => e = .returned (.bool true) ∧ Below w.heap.size w w' := by
  have hk := fw_gt3 f hf h1
  have most : ∀ (X : Nat) (w : World), X < 18446744073709551616 → Calls Try.prog 10 #[.int .i64 f, .int .u64 X] w fun e w' => e = .returned (.bool (mostN 3 X)) ∧ w = w' := fun X w hX => by
    have h := most_any f X w hf hX
    unfold mostF at h
    rwa [hk] at h
  have hor := u64_or_nat A B hA hB
  have hand := u64_and_nat A B hA hB
  have hO2 : A ||| B < 18446744073709551616 := Nat.or_lt_two_pow (n := 64) hA hB
  have hN2 : A &&& B < 18446744073709551616 := Nat.and_lt_two_pow (n := 64) _ hB
  have hm := and127 (A &&& B) hN2
  have KF := Lib.hid (fun w => most 127 w (by omega))
  have K0 := Lib.hid (fun w => most 0 w (by omega))
  have KA := Lib.hid (fun w => most A w hA)
  have KB := Lib.hid (fun w => most B w hB)
  have KO := Lib.hid (fun w => most (A ||| B) w hO2)
  rw [show mostN 3 127 = true from fullN 3 (by omega)] at KF
  rw [noneN 3 (by omega)] at K0
  clear most
  cases ha : mostN 3 A
  · rw [ha] at KA
    clear ha
    go_enter Try.func4, Try.ntmps4
    go_wp2_with fail
    refine (head_any _).mono ?_
    rintro e w1 ⟨rfl, hb1⟩
    go_wp2_with fail
    refine (KA.out _).mono ?_
    rintro e w2 ⟨rfl, rfl⟩
    go_wp2_with fail
    refine (KA.out _).mono ?_
    rintro e w2 ⟨rfl, rfl⟩
    go_wp2_with fail
    refine (KF.out _).mono ?_
    rintro e w2 ⟨rfl, rfl⟩
    go_wp2_with fail
    refine (K0.out _).mono ?_
    rintro e w2 ⟨rfl, rfl⟩
    go_wp2_with fail
    go_ret
    exact ⟨rfl, hb1⟩
  · rw [ha] at KA
    rw [moreN 3 A B (by omega) ha] at KO
    cases hb : mostN 3 B
    · rw [hb] at KB
      clear ha hb
      go_enter Try.func4, Try.ntmps4
      go_wp2_with fail
      refine (head_any _).mono ?_
      rintro e w1 ⟨rfl, hb1⟩
      go_wp2_with fail
      refine (KA.out _).mono ?_
      rintro e w2 ⟨rfl, rfl⟩
      go_wp2_with fail
      refine (KB.out _).mono ?_
      rintro e w2 ⟨rfl, rfl⟩
      go_wp2_with fail
      refine (KA.out _).mono ?_
      rintro e w2 ⟨rfl, rfl⟩
      go_wp2_with fail
      refine (KO.out _).mono ?_
      rintro e w2 ⟨rfl, rfl⟩
      go_wp2_with fail
      refine (KF.out _).mono ?_
      rintro e w2 ⟨rfl, rfl⟩
      go_wp2_with fail
      refine (K0.out _).mono ?_
      rintro e w2 ⟨rfl, rfl⟩
      go_wp2_with fail
      go_ret
      exact ⟨rfl, hb1⟩
    · rw [hb] at KB
      have hne := meetN 3 A B (by omega) ha hb
      have hne2 : ((((A &&& B) % 128 : Nat) : Int) == 0) = false := by
        generalize (A &&& B) % 128 = c at hne
        rw [beq_eq_false_iff_ne]; omega
      generalize (A &&& B) % 128 = c at hm hne2
      have HN := Lib.hid hne
      clear ha hb hne
      go_enter Try.func4, Try.ntmps4
      go_wp2_with fail
      refine (head_any _).mono ?_
      rintro e w1 ⟨rfl, hb1⟩
      go_wp2_with fail
      refine (KA.out _).mono ?_
      rintro e w2 ⟨rfl, rfl⟩
      go_wp2_with fail
      refine (KB.out _).mono ?_
      rintro e w2 ⟨rfl, rfl⟩
      go_wp2_with fail
      refine (KA.out _).mono ?_
      rintro e w2 ⟨rfl, rfl⟩
      go_wp2_with fail
      refine (KO.out _).mono ?_
      rintro e w2 ⟨rfl, rfl⟩
      go_wp2_with fail
      refine (KF.out _).mono ?_
      rintro e w2 ⟨rfl, rfl⟩
      go_wp2_with fail
      refine (K0.out _).mono ?_
      rintro e w2 ⟨rfl, rfl⟩
      go_wp2_with fail
      go_ret
      exact ⟨rfl, hb1⟩

theorem meets_any (f : Int) (hf : -9223372036854775808 ≤ f ∧ f ≤ 9223372036854775807) (A B : Nat) (w : World) (hA : A < 18446744073709551616) (hB : B < 18446744073709551616) :
    Calls Try.prog 4 #[.int .i64 f, .int .u64 A, .int .u64 B] w fun e w' => e = .returned (.bool true) ∧ Below w.heap.size w w' := by
  have h : f < 0 ∨ f = 0 ∨ f = 1 ∨ f = 2 ∨ f = 3 ∨ 3 < f := by omega
  rcases h with h | rfl | rfl | rfl | rfl | h
  · exact meets_lt0 f hf h A B w hA hB
  · exact meets_eq0 A B w hA hB
  · exact meets_eq1 A B w hA hB
  · exact meets_eq2 A B w hA hB
  · exact meets_eq3 A B w hA hB
  · exact meets_gt3 f hf h A B w hA hB
end Go.Proofs.Ytagmhlgkbehecaa
