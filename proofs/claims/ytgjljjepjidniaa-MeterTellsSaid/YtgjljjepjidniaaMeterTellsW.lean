/-
  MeterTells returns true for every input.
-/
import Derived.Test.YtgjljjepjidniaaMeterR
import Derived.Test.YtgjljjepjidniaaMeterHead

namespace Go.Proofs.Ytgjljjepjidniaa
open Go.RowKit

set_option maxHeartbeats 1000000 in
theorem tells_any (l L U n k v : Int) (w : World) (hl : -9223372036854775808 ≤ l ∧ l ≤ 9223372036854775807) (hL : -9223372036854775808 ≤ L ∧ L ≤ 9223372036854775807) (hU : -9223372036854775808 ≤ U ∧ U ≤ 9223372036854775807) (hn : -9223372036854775808 ≤ n ∧ n ≤ 9223372036854775807) (hk : -9223372036854775808 ≤ k ∧ k ≤ 9223372036854775807) (hv : -9223372036854775808 ≤ v ∧ v ≤ 9223372036854775807) :
    Calls Try.prog 3 #[.int .i64 l, .agg #[.int .i64 L, .int .i64 U], .int .i64 n, .int .i64 k, .int .i64 v] w fun e w' => e = .returned (.bool true) ∧ Below w.heap.size w w' := by
  go_enter Try.func3, Try.ntmps3
  go_wp2_with fail
  refine (head_any _).mono ?_
  rintro e w1 ⟨rfl, hb1⟩
  obtain ⟨hc1, hf1, hs1⟩ := bcell hb1
  have z1 : w.heap.size < w1.heap.size := by have := hb1.size; simp at this; omega
  go_wp2_with fail
  refine (use_any _ _ _ _ hL hU hn).mono ?_
  rintro e w2 ⟨rfl, hb2⟩
  obtain ⟨hc2, hf2, hs2⟩ := bcell hb2
  have z2 : w.heap.size < w2.heap.size := by omega
  go_wp2_with fail
  refine (useR_any _ _ _ _ hL hU hn).mono ?_
  rintro e w3 ⟨rfl, hb3⟩
  obtain ⟨hc3, hf3, hs3⟩ := bcell hb3
  have z3 : w2.heap.size < w3.heap.size := by have := hb3.size; simp at this; omega
  go_wp2_with fail
  refine (new_any _ _ hl).mono ?_
  rintro e w4 ⟨rfl, hb4⟩
  obtain ⟨hc4, hf4, hs4⟩ := bcell hb4
  have z4 : w3.heap.size < w4.heap.size := by have := hb4.size; simp at this; omega
  have y4 : w2.heap.size < w4.heap.size := by omega
  go_wp2_with fail
  refine (newR_any _ _ hl).mono ?_
  rintro e w5 ⟨rfl, hb5⟩
  obtain ⟨hc5, hf5, hs5⟩ := bcell hb5
  have z5 : w3.heap.size < w5.heap.size := by omega
  have y5 : w2.heap.size < w5.heap.size := by omega
  go_wp2_with fail
  refine (texts_any _ _ hk).mono ?_
  rintro e w6 ⟨rfl, rfl⟩
  go_wp2_with fail
  refine (textsR_any _ _ hk).mono ?_
  rintro e w6 ⟨rfl, rfl⟩
  go_wp2_with fail
  refine (put_any _ _ _ hk hv).mono ?_
  rintro e w6 ⟨rfl, rfl⟩
  go_wp2_with fail
  refine (putR_any _ _ _ hk hv).mono ?_
  rintro e w6 ⟨rfl, rfl⟩
  go_wp2
  go_ret
  refine ⟨ret_bool (by simp), ?_⟩
  repeat (first | exact Below.refl _ _ | assumption | refine up_alloc ?_ _ | refine up_trans ?_ (by assumption))
end Go.Proofs.Ytgjljjepjidniaa
