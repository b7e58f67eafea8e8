/-
  The head's live question of the meter laws is answered with true.
-/
import Derived.Test.YtgjljjepjidniaaMeterW

namespace Go.Proofs.Ytgjljjepjidniaa
open Go.RowKit

set_option maxHeartbeats 400000 in
theorem head_any (w : World) :
    Calls Try.prog 7 #[] w fun e w' => e = .returned (.bool true) ∧ Below w.heap.size w w' := by
  go_enter Try.func7, Try.ntmps7
  go_wp2_with fail
  refine (new_any _ _ (by omega)).mono ?_
  rintro e w1 ⟨rfl, hb1⟩
  rw [show newL 10 = 10 from by decide]
  go_wp2_with fail
  refine (use_any _ _ _ _ (by omega) (by omega) (by omega)).mono ?_
  rintro e w2 ⟨rfl, hb2⟩
  rw [show useU 10 0 4 = 4 from by decide, show useB 10 0 4 = true from by decide]
  go_wp2_with fail
  refine (use_any _ _ _ _ (by omega) (by omega) (by omega)).mono ?_
  rintro e w3 ⟨rfl, hb3⟩
  rw [show useU 10 4 6 = 10 from by decide, show useB 10 4 6 = true from by decide]
  go_wp2_with fail
  refine (use_any _ _ _ _ (by omega) (by omega) (by omega)).mono ?_
  rintro e w4 ⟨rfl, hb4⟩
  rw [show useU 10 10 1 = 10 from by decide, show useB 10 10 1 = false from by decide]
  go_wp2_with fail
  refine (texts_any _ _ (by omega)).mono ?_
  rintro e w5 ⟨rfl, rfl⟩
  rw [show textsF 31 = 1 from by decide]
  go_wp2_with fail
  refine (put_any _ _ _ (by omega) (by omega)).mono ?_
  rintro e w5 ⟨rfl, rfl⟩
  rw [show putF 8 8 = 5 from by decide]
  go_wp2
  go_ret
  refine ⟨rfl, ?_⟩
  repeat (first | exact Below.refl _ _ | assumption | refine up_alloc ?_ _ | refine up_trans ?_ (by assumption))
end Go.Proofs.Ytgjljjepjidniaa
