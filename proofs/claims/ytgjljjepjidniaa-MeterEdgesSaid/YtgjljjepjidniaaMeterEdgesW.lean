/-
  MeterEdges returns true for every input.
-/
import Derived.Test.YtgjljjepjidniaaMeterW
import Derived.Test.YtgjljjepjidniaaMeterHead
import Derived.Outline
namespace Go.Proofs.Ytgjljjepjidniaa
open Go.RowKit

theorem newL_small (l : Int) (h : 0 ≤ l ∧ l ≤ 65535) : newL l = l := by unfold newL; omega
set_option maxHeartbeats 1000000 in
theorem edges_gt (l f : Int) (w : World) (hl : 0 ≤ l ∧ l ≤ 65535) (hf : 0 ≤ f ∧ f ≤ 65535) (h : l < f) :
    Calls Try.prog 6 #[.int .u16 l, .int .u16 f] w fun e w' => e = .returned (.bool true) ∧ Below w.heap.size w w' := by
  go_enter Try.func6, Try.ntmps6
  go_wp2_with fail
  refine (head_any _).mono ?_
  rintro e w1 ⟨rfl, hb1⟩
  obtain ⟨hc1, hf1, hs1⟩ := bcell hb1
  have zs1 := hb1.size
  try simp at zs1
  go_wp2_with fail
  refine (new_any _ _ (by omega)).mono ?_
  rintro e w2 ⟨rfl, hb2⟩
  obtain ⟨hc2, hf2, hs2⟩ := bcell hb2
  have zs2 := hb2.size
  try simp at zs2
  rw [newL_small l hl]
  go_wp2_with fail
  refine (use_any _ _ _ _ (by omega) (by omega) (by omega)).mono ?_
  rintro e w3 ⟨rfl, hb3⟩
  obtain ⟨hc3, hf3, hs3⟩ := bcell hb3
  have zs3 := hb3.size
  try simp at zs3
  have z3w2 : w2.heap.size < w3.heap.size := by omega
  rw [(use_no (L := l) (U := 0) (n := f) (by omega)).1, (use_no (L := l) (U := 0) (n := f) (by omega)).2]
  go_wp2
  go_ret
  refine ⟨rfl, ?_⟩
  repeat (first | exact Below.refl _ _ | assumption | refine up_alloc ?_ _ | refine up_trans ?_ (by assumption))
set_option maxHeartbeats 1000000 in
theorem edges_le (l f : Int) (w : World) (hl : 0 ≤ l ∧ l ≤ 65535) (hf : 0 ≤ f ∧ f ≤ 65535) (h : f ≤ l) :
    Calls Try.prog 6 #[.int .u16 l, .int .u16 f] w fun e w' => e = .returned (.bool true) ∧ Below w.heap.size w w' := by
  go_enter Try.func6, Try.ntmps6
  go_wp2_with fail
  refine (head_any _).mono ?_
  rintro e w1 ⟨rfl, hb1⟩
  obtain ⟨hc1, hf1, hs1⟩ := bcell hb1
  have zs1 := hb1.size
  try simp at zs1
  go_wp2_with fail
  refine (new_any _ _ (by omega)).mono ?_
  rintro e w2 ⟨rfl, hb2⟩
  obtain ⟨hc2, hf2, hs2⟩ := bcell hb2
  have zs2 := hb2.size
  try simp at zs2
  rw [newL_small l hl]
  go_wp2_with fail
  refine (use_any _ _ _ _ (by omega) (by omega) (by omega)).mono ?_
  rintro e w3 ⟨rfl, hb3⟩
  obtain ⟨hc3, hf3, hs3⟩ := bcell hb3
  have zs3 := hb3.size
  try simp at zs3
  have z3w2 : w2.heap.size < w3.heap.size := by omega
  rw [(use_yes (L := l) (U := 0) (n := f) (by omega)).1.trans (Int.zero_add f), (use_yes (L := l) (U := 0) (n := f) (by omega)).2]
  go_wp2_with fail
  refine (use_any _ _ _ _ (by omega) (by omega) (by omega)).mono ?_
  rintro e w4 ⟨rfl, hb4⟩
  obtain ⟨hc4, hf4, hs4⟩ := bcell hb4
  have zs4 := hb4.size
  try simp at zs4
  have z4w2 : w2.heap.size < w4.heap.size := by omega
  have z4w3 : w3.heap.size < w4.heap.size := by omega
  rw [(use_yes (L := l) (U := f) (n := l - f) (by omega)).1.trans (show f + (l - f) = l by omega), (use_yes (L := l) (U := f) (n := l - f) (by omega)).2]
  go_wp2_with fail
  refine (use_any _ _ _ _ (by omega) (by omega) (by omega)).mono ?_
  rintro e w5 ⟨rfl, hb5⟩
  obtain ⟨hc5, hf5, hs5⟩ := bcell hb5
  have zs5 := hb5.size
  try simp at zs5
  have z5w2 : w2.heap.size < w5.heap.size := by omega
  have z5w3 : w3.heap.size < w5.heap.size := by omega
  have z5w4 : w4.heap.size < w5.heap.size := by omega
  rw [(use_no (L := l) (U := f) (n := l - f + 1) (by omega)).1, (use_no (L := l) (U := f) (n := l - f + 1) (by omega)).2]
  go_wp2_with fail
  refine (use_any _ _ _ _ (by omega) (by omega) (by omega)).mono ?_
  rintro e w6 ⟨rfl, hb6⟩
  obtain ⟨hc6, hf6, hs6⟩ := bcell hb6
  have zs6 := hb6.size
  try simp at zs6
  have z6w2 : w2.heap.size < w6.heap.size := by omega
  have z6w3 : w3.heap.size < w6.heap.size := by omega
  have z6w4 : w4.heap.size < w6.heap.size := by omega
  have z6w5 : w5.heap.size < w6.heap.size := by omega
  rw [(use_no (L := l) (U := f) (n := -1) (by omega)).1, (use_no (L := l) (U := f) (n := -1) (by omega)).2]
  go_wp2_with fail
  refine (use_any _ _ _ _ (by omega) (by omega) (by omega)).mono ?_
  rintro e w7 ⟨rfl, hb7⟩
  obtain ⟨hc7, hf7, hs7⟩ := bcell hb7
  have zs7 := hb7.size
  try simp at zs7
  have z7w2 : w2.heap.size < w7.heap.size := by omega
  have z7w3 : w3.heap.size < w7.heap.size := by omega
  have z7w4 : w4.heap.size < w7.heap.size := by omega
  have z7w5 : w5.heap.size < w7.heap.size := by omega
  have z7w6 : w6.heap.size < w7.heap.size := by omega
  rw [(use_yes (L := l) (U := l) (n := 0) (by omega)).1.trans (Int.add_zero l), (use_yes (L := l) (U := l) (n := 0) (by omega)).2]
  go_wp2
  go_ret
  refine ⟨rfl, ?_⟩
  repeat (first | exact Below.refl _ _ | assumption | refine up_alloc ?_ _ | refine up_trans ?_ (by assumption))
theorem edges_any (l f : Int) (w : World) (hl : 0 ≤ l ∧ l ≤ 65535) (hf : 0 ≤ f ∧ f ≤ 65535) :
    Calls Try.prog 6 #[.int .u16 l, .int .u16 f] w fun e w' => e = .returned (.bool true) ∧ Below w.heap.size w w' := by
  by_cases h : f ≤ l
  · exact edges_le l f w hl hf h
  · exact edges_gt l f w hl hf (by omega)
end Go.Proofs.Ytgjljjepjidniaa
