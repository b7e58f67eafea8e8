/-
  The head's live question of the quorum laws is answered with true.
-/
import Derived.Test.YtagmhlgkbehecaaQuorumAgreed
import Derived.Test.YtagmhlgkbehecaaQuorumBestC
namespace Go.Proofs.Ytagmhlgkbehecaa
open Go.RowKit

def hf : Nat → Clm
  | 0 => ⟨true, 1, 9⟩
  | 1 => ⟨true, 2, 3⟩
  | _ => ⟨true, 2, 4⟩
def hz : Nat → Int
  | 0 => 5
  | 1 => 7
  | _ => 2
theorem best_hf : bestAt hf 3 = 2 := by decide
theorem agreed_hz {v : Int} (h : IsAgreed 1 (pad hz 3) v) : max 0 v = 5 := by
  obtain ⟨h1, h2⟩ := h
  have e0 : pad hz 3 0 = 5 := by decide
  have e1 : pad hz 3 1 = 7 := by decide
  have e2 : pad hz 3 2 = 2 := by decide
  simp only [cnt, e0, e1, e2, decide_eq_true_eq] at h1 h2
  split at h1 <;> split at h1 <;> split at h1 <;> split at h2 <;> split at h2 <;> split at h2 <;> omega
theorem most_5 (w : World) : Calls Try.prog 10 #[.int .i64 1, .int .u64 5] w fun e w' => e = .returned (.bool true) ∧ w = w' := most_any 1 5 w (by omega) (by decide)
theorem most_4 (w : World) : Calls Try.prog 10 #[.int .i64 1, .int .u64 4] w fun e w' => e = .returned (.bool false) ∧ w = w' := most_any 1 4 w (by omega) (by decide)
theorem add_2 (w : World) : Calls Try.prog 12 #[.int .i64 1, .int .u64 1, .int .i64 2] w fun e w' => e = .returned (.int .u64 5) ∧ w = w' := add_any 1 1 2 w (by omega) (by omega) (by decide)

set_option maxHeartbeats 1000000 in
theorem head_any (w : World) :
    Calls Try.prog 9 #[] w fun e w' => e = .returned (.bool true) ∧ Below w.heap.size w w' := by
  go_enter Try.func9, Try.ntmps9
  go_wp2_with fail
  refine (agreed_any 1 _ 3 _ hz _ (by omega) (by omega) (fun _ => ⟨⟨w.heap.size + 1, 0, none⟩, rfl, ?_⟩) ?_).mono ?_
  · intro i hi
    match i, hi with
    | 0, _ => simp [Addr.add]; rfl
    | 1, _ => simp [Addr.add]; rfl
    | 2, _ => simp [Addr.add]; rfl
  · intro i hi
    match i, hi with
    | 0, _ => decide
    | 1, _ => decide
    | 2, _ => decide
  rintro e w1 ⟨⟨v, rfl, hv⟩, hb1⟩
  rw [agreed_hz hv]
  go_wp2_with fail
  have hz1 := hb1.size
  simp at hz1
  obtain ⟨hc1, hf1, hs1⟩ := bcell hb1
  refine (best_row w.heap.size 0 3 3 hf _ (by omega) (by omega) ?_).mono ?_
  · intro i hi
    match i, hi with
    | 0, _ => refine ⟨?_, ?_, ?_, by unfold Clm.ok; decide⟩ <;> (rw [hc1 _ _ (by simp <;> omega)]; simp; rfl)
    | 1, _ => refine ⟨?_, ?_, ?_, by unfold Clm.ok; decide⟩ <;> (rw [hc1 _ _ (by simp <;> omega)]; simp; rfl)
    | 2, _ => refine ⟨?_, ?_, ?_, by unfold Clm.ok; decide⟩ <;> (rw [hc1 _ _ (by simp <;> omega)]; simp; rfl)
  rintro e w2 ⟨rfl, hb2⟩
  rw [best_hf]
  clear hc1 hf1
  go_wp2_with fail
  refine (most_5 _).mono ?_
  rintro e w3 ⟨rfl, rfl⟩
  go_wp2_with fail
  refine (most_4 _).mono ?_
  rintro e w3 ⟨rfl, rfl⟩
  go_wp2_with fail
  refine (add_2 _).mono ?_
  rintro e w3 ⟨rfl, rfl⟩
  go_wp2_with fail
  refine (primary_any _ _ _ (by omega) (by omega)).mono ?_
  rintro e w3 ⟨rfl, rfl⟩
  rw [show max 0 4 % (2 * fewF 1 + 1) = (1 : Int) by decide]
  go_wp2_with fail
  go_ret
  refine ⟨rfl, ?_⟩
  repeat (first | exact Below.refl _ _ | assumption | refine up_alloc ?_ _ | refine up_trans ?_ (by assumption))
end Go.Proofs.Ytagmhlgkbehecaa
