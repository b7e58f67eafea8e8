/-
  MeterTexts returns true for every input.
-/
import Derived.Test.YtgjljjepjidniaaMeterW
import Derived.Test.YtgjljjepjidniaaMeterHead
import Derived.Outline
namespace Go.Proofs.Ytgjljjepjidniaa
open Go.RowKit

theorem put_ge (a b : Int) : 4 ≤ putF a b := by unfold putF clampF; omega
theorem put_mono (a b m : Int) (h0 : 0 ≤ a) (h : 0 ≤ m) : putF a b ≤ putF (a + m) b := by unfold putF clampF; omega
theorem put_eq (a b : Int) (h0 : 0 ≤ a ∧ a ≤ 65535) (h1 : 0 ≤ b ∧ b ≤ 65535) : putF a b = 4 + (a + b) / 16 := by unfold putF clampF; omega
theorem texts_mono (a m : Int) (h : 0 ≤ m) : textsF a ≤ textsF (a + m) := by unfold textsF; omega
set_option maxHeartbeats 1000000 in
theorem texts_law (a b m : Int) (w : World) (ha : 0 ≤ a ∧ a ≤ 65535) (hb : 0 ≤ b ∧ b ≤ 65535) (hm : 0 ≤ m ∧ m ≤ 65535) :
    Calls Try.prog 5 #[.int .u16 a, .int .u16 b, .int .u16 m] w fun e w' => e = .returned (.bool true) ∧ Below w.heap.size w w' := by
  have H1 := put_ge a b
  have H2 : 4 + (a + b) / 16 ≤ putF (a + m) b := by rw [← put_eq a b ha hb]; exact put_mono a b m ha.1 hm.1
  have H3 := texts_mono a m hm.1
  have H4 := Lib.hid (put_eq a b ha hb)
  go_enter Try.func5, Try.ntmps5
  go_wp2_with fail
  refine (head_any _).mono ?_
  rintro e w1 ⟨rfl, hb1⟩
  obtain ⟨hc1, hf1, hs1⟩ := bcell hb1
  have zs1 := hb1.size
  try simp at zs1
  go_wp2_with fail
  refine (put_any _ _ _ (by omega) (by omega)).mono ?_
  rintro e w2 ⟨rfl, rfl⟩
  go_wp2_with fail
  refine (texts_any _ _ (by omega)).mono ?_
  rintro e w3 ⟨rfl, rfl⟩
  go_wp2_with fail
  refine (texts_any _ _ (by omega)).mono ?_
  rintro e w4 ⟨rfl, rfl⟩
  go_wp2_with fail
  refine (put_any _ _ _ (by omega) (by omega)).mono ?_
  rintro e w5 ⟨rfl, rfl⟩
  go_wp2
  go_ret
  refine ⟨ret_bool (by simp), ?_⟩
  repeat (first | exact Below.refl _ _ | assumption | refine up_alloc ?_ _ | refine up_trans ?_ (by assumption))
end Go.Proofs.Ytgjljjepjidniaa
