/-
  QuorumTurns returns true for every input.
-/
import Derived.Test.YtagmhlgkbehecaaQuorumHead
namespace Go.Proofs.Ytagmhlgkbehecaa
open Go.RowKit

set_option maxRecDepth 100000 in
set_option maxHeartbeats 1000000 in
theorem turns0 (f v : Int) (w : World) (hf : 0 ≤ f ∧ f ≤ 255) (hv : 0 ≤ v ∧ v ≤ 4294967295) (hm : f % 4 = 0) :
    Calls Try.prog 7 #[.int .u8 f, .int .u32 v] w fun e w' => e = .returned (.bool true) ∧ Below w.heap.size w w' := by
  have p1 : ∀ w, Calls Try.prog 18 #[.int .i64 0, .int .i64 v] w fun e w' => e = .returned (.int .i64 (v % 1)) ∧ w = w' := fun w => by
    have h := primary_any 0 v w (by omega) (by omega)
    rwa [show 2 * fewF 0 + 1 = 1 by decide, Int.max_eq_right (by omega)] at h
  have p2 : ∀ w, Calls Try.prog 18 #[.int .i64 0, .int .i64 (v + 1)] w fun e w' => e = .returned (.int .i64 ((v + 1) % 1)) ∧ w = w' := fun w => by
    have h := primary_any 0 (v + 1) w (by omega) (by omega)
    rwa [show 2 * fewF 0 + 1 = 1 by decide, Int.max_eq_right (by omega)] at h
  have p3 : ∀ w, Calls Try.prog 18 #[.int .i64 0, .int .i64 (v + 1)] w fun e w' => e = .returned (.int .i64 (v % 1)) ∧ w = w' := fun w => by
    have h := primary_any 0 (v + 1) w (by omega) (by omega)
    rw [show 2 * fewF 0 + 1 = 1 by decide, Int.max_eq_right (by omega)] at h
    rwa [show (v + 1) % 1 = v % 1 by omega] at h
  have p4 : ∀ w, Calls Try.prog 18 #[.int .i64 0, .int .i64 0] w fun e w' => e = .returned (.int .i64 0) ∧ w = w' := fun w => by
    have h := primary_any 0 0 w (by omega) (by omega)
    rwa [show max 0 0 % (2 * fewF 0 + 1) = (0 : Int) by decide] at h
  have P1 := Lib.hid p1
  have P2 := Lib.hid p2
  have P3 := Lib.hid p3
  have P4 := Lib.hid p4
  clear p1 p2 p3 p4
  have hp0 : 0 ≤ v % 1 := by omega
  have hp1 : v % 1 < 1 := by omega
  have hq : (v + 1) % 1 = (v % 1 + 1) % 1 := by omega
  rw [hq] at P2
  generalize v % 1 = p at P1 P2 P3 hp0 hp1
  clear hq
  have HM := Lib.hid hm
  go_enter Try.func7, Try.ntmps7
  go_wp2_with fail
  refine (head_any _).mono ?_
  rintro e w1 ⟨rfl, hb1⟩
  go_wp2_with fail
  refine (P1.out _).mono ?_
  rintro e w2 ⟨rfl, rfl⟩
  go_wp2_with fail
  refine (P2.out _).mono ?_
  rintro e w2 ⟨rfl, rfl⟩
  go_wp2_with fail
  refine (P3.out _).mono ?_
  rintro e w2 ⟨rfl, rfl⟩
  go_wp2_with fail
  refine (P4.out _).mono ?_
  rintro e w2 ⟨rfl, rfl⟩
  go_wp2_with fail
  go_ret
  exact ⟨ret_bool (by simp), hb1⟩

set_option maxRecDepth 100000 in
set_option maxHeartbeats 1000000 in
theorem turns1 (f v : Int) (w : World) (hf : 0 ≤ f ∧ f ≤ 255) (hv : 0 ≤ v ∧ v ≤ 4294967295) (hm : f % 4 = 1) :
    Calls Try.prog 7 #[.int .u8 f, .int .u32 v] w fun e w' => e = .returned (.bool true) ∧ Below w.heap.size w w' := by
  have p1 : ∀ w, Calls Try.prog 18 #[.int .i64 1, .int .i64 v] w fun e w' => e = .returned (.int .i64 (v % 3)) ∧ w = w' := fun w => by
    have h := primary_any 1 v w (by omega) (by omega)
    rwa [show 2 * fewF 1 + 1 = 3 by decide, Int.max_eq_right (by omega)] at h
  have p2 : ∀ w, Calls Try.prog 18 #[.int .i64 1, .int .i64 (v + 1)] w fun e w' => e = .returned (.int .i64 ((v + 1) % 3)) ∧ w = w' := fun w => by
    have h := primary_any 1 (v + 1) w (by omega) (by omega)
    rwa [show 2 * fewF 1 + 1 = 3 by decide, Int.max_eq_right (by omega)] at h
  have p3 : ∀ w, Calls Try.prog 18 #[.int .i64 1, .int .i64 (v + 3)] w fun e w' => e = .returned (.int .i64 (v % 3)) ∧ w = w' := fun w => by
    have h := primary_any 1 (v + 3) w (by omega) (by omega)
    rw [show 2 * fewF 1 + 1 = 3 by decide, Int.max_eq_right (by omega)] at h
    rwa [show (v + 3) % 3 = v % 3 by omega] at h
  have p4 : ∀ w, Calls Try.prog 18 #[.int .i64 1, .int .i64 0] w fun e w' => e = .returned (.int .i64 0) ∧ w = w' := fun w => by
    have h := primary_any 1 0 w (by omega) (by omega)
    rwa [show max 0 0 % (2 * fewF 1 + 1) = (0 : Int) by decide] at h
  have P1 := Lib.hid p1
  have P2 := Lib.hid p2
  have P3 := Lib.hid p3
  have P4 := Lib.hid p4
  clear p1 p2 p3 p4
  have hp0 : 0 ≤ v % 3 := by omega
  have hp1 : v % 3 < 3 := by omega
  have hq : (v + 1) % 3 = (v % 3 + 1) % 3 := by omega
  rw [hq] at P2
  generalize v % 3 = p at P1 P2 P3 hp0 hp1
  clear hq
  have HM := Lib.hid hm
  go_enter Try.func7, Try.ntmps7
  go_wp2_with fail
  refine (head_any _).mono ?_
  rintro e w1 ⟨rfl, hb1⟩
  go_wp2_with fail
  refine (P1.out _).mono ?_
  rintro e w2 ⟨rfl, rfl⟩
  go_wp2_with fail
  refine (P2.out _).mono ?_
  rintro e w2 ⟨rfl, rfl⟩
  go_wp2_with fail
  refine (P3.out _).mono ?_
  rintro e w2 ⟨rfl, rfl⟩
  go_wp2_with fail
  refine (P4.out _).mono ?_
  rintro e w2 ⟨rfl, rfl⟩
  go_wp2_with fail
  go_ret
  exact ⟨ret_bool (by simp), hb1⟩

set_option maxRecDepth 100000 in
set_option maxHeartbeats 1000000 in
theorem turns2 (f v : Int) (w : World) (hf : 0 ≤ f ∧ f ≤ 255) (hv : 0 ≤ v ∧ v ≤ 4294967295) (hm : f % 4 = 2) :
    Calls Try.prog 7 #[.int .u8 f, .int .u32 v] w fun e w' => e = .returned (.bool true) ∧ Below w.heap.size w w' := by
  have p1 : ∀ w, Calls Try.prog 18 #[.int .i64 2, .int .i64 v] w fun e w' => e = .returned (.int .i64 (v % 5)) ∧ w = w' := fun w => by
    have h := primary_any 2 v w (by omega) (by omega)
    rwa [show 2 * fewF 2 + 1 = 5 by decide, Int.max_eq_right (by omega)] at h
  have p2 : ∀ w, Calls Try.prog 18 #[.int .i64 2, .int .i64 (v + 1)] w fun e w' => e = .returned (.int .i64 ((v + 1) % 5)) ∧ w = w' := fun w => by
    have h := primary_any 2 (v + 1) w (by omega) (by omega)
    rwa [show 2 * fewF 2 + 1 = 5 by decide, Int.max_eq_right (by omega)] at h
  have p3 : ∀ w, Calls Try.prog 18 #[.int .i64 2, .int .i64 (v + 5)] w fun e w' => e = .returned (.int .i64 (v % 5)) ∧ w = w' := fun w => by
    have h := primary_any 2 (v + 5) w (by omega) (by omega)
    rw [show 2 * fewF 2 + 1 = 5 by decide, Int.max_eq_right (by omega)] at h
    rwa [show (v + 5) % 5 = v % 5 by omega] at h
  have p4 : ∀ w, Calls Try.prog 18 #[.int .i64 2, .int .i64 0] w fun e w' => e = .returned (.int .i64 0) ∧ w = w' := fun w => by
    have h := primary_any 2 0 w (by omega) (by omega)
    rwa [show max 0 0 % (2 * fewF 2 + 1) = (0 : Int) by decide] at h
  have P1 := Lib.hid p1
  have P2 := Lib.hid p2
  have P3 := Lib.hid p3
  have P4 := Lib.hid p4
  clear p1 p2 p3 p4
  have hp0 : 0 ≤ v % 5 := by omega
  have hp1 : v % 5 < 5 := by omega
  have hq : (v + 1) % 5 = (v % 5 + 1) % 5 := by omega
  rw [hq] at P2
  generalize v % 5 = p at P1 P2 P3 hp0 hp1
  clear hq
  have HM := Lib.hid hm
  go_enter Try.func7, Try.ntmps7
  go_wp2_with fail
  refine (head_any _).mono ?_
  rintro e w1 ⟨rfl, hb1⟩
  go_wp2_with fail
  refine (P1.out _).mono ?_
  rintro e w2 ⟨rfl, rfl⟩
  go_wp2_with fail
  refine (P2.out _).mono ?_
  rintro e w2 ⟨rfl, rfl⟩
  go_wp2_with fail
  refine (P3.out _).mono ?_
  rintro e w2 ⟨rfl, rfl⟩
  go_wp2_with fail
  refine (P4.out _).mono ?_
  rintro e w2 ⟨rfl, rfl⟩
  go_wp2_with fail
  go_ret
  exact ⟨ret_bool (by simp), hb1⟩

set_option maxRecDepth 100000 in
set_option maxHeartbeats 1000000 in
theorem turns3 (f v : Int) (w : World) (hf : 0 ≤ f ∧ f ≤ 255) (hv : 0 ≤ v ∧ v ≤ 4294967295) (hm : f % 4 = 3) :
    Calls Try.prog 7 #[.int .u8 f, .int .u32 v] w fun e w' => e = .returned (.bool true) ∧ Below w.heap.size w w' := by
  have p1 : ∀ w, Calls Try.prog 18 #[.int .i64 3, .int .i64 v] w fun e w' => e = .returned (.int .i64 (v % 7)) ∧ w = w' := fun w => by
    have h := primary_any 3 v w (by omega) (by omega)
    rwa [show 2 * fewF 3 + 1 = 7 by decide, Int.max_eq_right (by omega)] at h
  have p2 : ∀ w, Calls Try.prog 18 #[.int .i64 3, .int .i64 (v + 1)] w fun e w' => e = .returned (.int .i64 ((v + 1) % 7)) ∧ w = w' := fun w => by
    have h := primary_any 3 (v + 1) w (by omega) (by omega)
    rwa [show 2 * fewF 3 + 1 = 7 by decide, Int.max_eq_right (by omega)] at h
  have p3 : ∀ w, Calls Try.prog 18 #[.int .i64 3, .int .i64 (v + 7)] w fun e w' => e = .returned (.int .i64 (v % 7)) ∧ w = w' := fun w => by
    have h := primary_any 3 (v + 7) w (by omega) (by omega)
    rw [show 2 * fewF 3 + 1 = 7 by decide, Int.max_eq_right (by omega)] at h
    rwa [show (v + 7) % 7 = v % 7 by omega] at h
  have p4 : ∀ w, Calls Try.prog 18 #[.int .i64 3, .int .i64 0] w fun e w' => e = .returned (.int .i64 0) ∧ w = w' := fun w => by
    have h := primary_any 3 0 w (by omega) (by omega)
    rwa [show max 0 0 % (2 * fewF 3 + 1) = (0 : Int) by decide] at h
  have P1 := Lib.hid p1
  have P2 := Lib.hid p2
  have P3 := Lib.hid p3
  have P4 := Lib.hid p4
  clear p1 p2 p3 p4
  have hp0 : 0 ≤ v % 7 := by omega
  have hp1 : v % 7 < 7 := by omega
  have hq : (v + 1) % 7 = (v % 7 + 1) % 7 := by omega
  rw [hq] at P2
  generalize v % 7 = p at P1 P2 P3 hp0 hp1
  clear hq
  have HM := Lib.hid hm
  go_enter Try.func7, Try.ntmps7
  go_wp2_with fail
  refine (head_any _).mono ?_
  rintro e w1 ⟨rfl, hb1⟩
  go_wp2_with fail
  refine (P1.out _).mono ?_
  rintro e w2 ⟨rfl, rfl⟩
  go_wp2_with fail
  refine (P2.out _).mono ?_
  rintro e w2 ⟨rfl, rfl⟩
  go_wp2_with fail
  refine (P3.out _).mono ?_
  rintro e w2 ⟨rfl, rfl⟩
  go_wp2_with fail
  refine (P4.out _).mono ?_
  rintro e w2 ⟨rfl, rfl⟩
  go_wp2_with fail
  go_ret
  exact ⟨ret_bool (by simp), hb1⟩
theorem turns_any (f v : Int) (w : World) (hf : 0 ≤ f ∧ f ≤ 255) (hv : 0 ≤ v ∧ v ≤ 4294967295) :
    Calls Try.prog 7 #[.int .u8 f, .int .u32 v] w fun e w' => e = .returned (.bool true) ∧ Below w.heap.size w w' := by
  have h : f % 4 = 0 ∨ f % 4 = 1 ∨ f % 4 = 2 ∨ f % 4 = 3 := by omega
  rcases h with h | h | h | h
  · exact turns0 f v w hf hv h
  · exact turns1 f v w hf hv h
  · exact turns2 f v w hf hv h
  · exact turns3 f v w hf hv h
end Go.Proofs.Ytagmhlgkbehecaa
