/-
  The contract of quorum.Best.
-/
import Derived.Test.YtagmhlgkbehecaaQuorumW
namespace Go.Proofs.Ytagmhlgkbehecaa
open Go.RowKit
attribute [local go_sem ↓] Go.wp_at_zero Go.wp_at_succ

structure Clm where
  is : Bool
  nrm : Int
  fin : Int
def Clm.ok (c : Clm) : Prop := (-9223372036854775808 ≤ c.nrm ∧ c.nrm ≤ 9223372036854775807) ∧ (-9223372036854775808 ≤ c.fin ∧ c.fin ≤ 9223372036854775807)
def betterB (n1 e1 n2 e2 : Int) : Bool := decide (n2 < n1 ∨ n1 = n2 ∧ e2 < e1)
/-- where the best claim of the first k lies; below 0: there is none -/
def bestAt (f : Nat → Clm) : Nat → Int
  | 0 => -1
  | k + 1 => if (f k).is = true ∧ (bestAt f k < 0 ∨ betterB (f k).nrm (f k).fin (f (bestAt f k).toNat).nrm (f (bestAt f k).toNat).fin = true) then (k : Int) else bestAt f k
theorem bestAt_lt (f : Nat → Clm) (k : Nat) : -1 ≤ bestAt f k ∧ bestAt f k < k := by
  induction k with
  | zero => simp [bestAt]
  | succ k ih => unfold bestAt; split <;> omega

set_option maxHeartbeats 400000 in
theorem better_any (b1 b2 : Bool) (n1 e1 n2 e2 : Int) (w : World) :
    Calls Try.prog 25 #[.agg #[.bool b1, .int .i64 n1, .int .i64 e1], .agg #[.bool b2, .int .i64 n2, .int .i64 e2]] w fun e w' => e = .returned (.bool (betterB n1 e1 n2 e2)) ∧ Below w.heap.size w w' := by
  go_enter Try.func25, Try.ntmps25
  go_wp2
  all_goals
    go_ret
    refine ⟨ret_bool ?_, up_alloc (up_alloc (Below.refl _ _) _) _⟩
    unfold betterB
    rw [Bool.eq_iff_iff]
    simp
    try omega

/-- what is known of a slice of claims -/
def IsClms (w : World) (b off len : Nat) (f : Nat → Clm) : Prop :=
  ∀ i, i < len → w.cell? ⟨b, off + i * 3, none⟩ = some (.bool (f i).is) ∧ w.cell? ⟨b, off + i * 3 + 1, none⟩ = some (.int .i64 (f i).nrm) ∧ w.cell? ⟨b, off + i * 3 + 2, none⟩ = some (.int .i64 (f i).fin) ∧ (f i).ok

set_option maxRecDepth 100000 in
set_option maxHeartbeats 1000000 in
theorem best_row (b off len cap : Nat) (f : Nat → Clm) (w : World) (hlen : len ≤ 1000000) (hbb : b < w.heap.size) (hc : IsClms w b off len f) :
    Calls Try.prog 16 #[.slice (some ⟨b, off, none⟩) len cap] w fun e w' => e = .returned (.int .i64 (bestAt f len)) ∧ Below w.heap.size w w' := by
  go_enter Try.func16, Try.ntmps16
  go_wp2_with fail
  go_loopw [4, 9] (fun s4 s9 wr => ∃ k : Nat, k ≤ len ∧ s9 = .int .i64 k ∧ s4 = .int .i64 (bestAt f k) ∧ Below w.heap.size w wr) (fun _ i _ => len - (intOf i).toNat)
  case atStart => exact ⟨0, Nat.zero_le _, rfl, rfl, Below.refl _ _⟩
  case round =>
    obtain ⟨k, hk, rfl, rfl, hbw⟩ := hrel
    have hlt2 := bestAt_lt f k
    by_cases hlt : k < len
    · obtain ⟨h0, h1, h2, hok⟩ := hc k hlt
      have hbr : b < wr.heap.size := Nat.lt_of_lt_of_le hbb hbw.size
      have g0 := (hbw.cell (p := ⟨b, off + k * 3, none⟩) hbb).trans h0
      have g1 := (hbw.cell (p := ⟨b, off + k * 3 + 1, none⟩) hbb).trans h1
      have g2 := (hbw.cell (p := ⟨b, off + k * 3 + 2, none⟩) hbb).trans h2
      obtain ⟨hn, hfi⟩ := hok
      by_cases hi : (f k).is = true
      · have hs : bestAt f (k + 1) = if bestAt f k < 0 ∨ betterB (f k).nrm (f k).fin (f (bestAt f k).toNat).nrm (f (bestAt f k).toNat).fin = true then (k : Int) else bestAt f k := by
          rw [bestAt]; simp only [hi, true_and]
        have HS := Lib.hid hs
        clear hs
        rw [hi] at g0
        have HI := Lib.hid hi
        clear hi
        by_cases ha : bestAt f k < 0
        · go_wp2_with fail
          go_quiet (fail)
          go_wp2_with fail
          go_roundw
          case rel => exact ⟨k + 1, by omega, by go_num, by rw [HS.out, if_pos (.inl ha)], up_drewN (up_alloc hbw _) _⟩
          case measure => simp [intOf]; omega
        · obtain ⟨j, hj⟩ : ∃ j : Nat, bestAt f k = j := Int.eq_ofNat_of_zero_le (show 0 ≤ bestAt f k by omega)
          have hjk : j < k := by omega
          obtain ⟨q0, q1, q2, _⟩ := hc j (by omega)
          have g3 := (hbw.cell (p := ⟨b, off + j * 3, none⟩) hbb).trans q0
          have g4 := (hbw.cell (p := ⟨b, off + j * 3 + 1, none⟩) hbb).trans q1
          have g5 := (hbw.cell (p := ⟨b, off + j * 3 + 2, none⟩) hbb).trans q2
          have HS2 : Hid (bestAt f (k + 1) = if betterB (f k).nrm (f k).fin (f j).nrm (f j).fin = true then (k : Int) else j) := by
            have h := HS.out
            rw [hj] at h
            rw [Hid, h]
            simp only [Int.toNat_natCast]
            have : ¬ (j : Int) < 0 := by omega
            simp [this]
          clear HS h0 h1 h2 q0 q1 q2
          rw [hj] at *
          clear hj ha
          have i0 : (0 : Int) ≤ (j : Int) := by omega
          have i1 : (j : Int) < (len : Int) := by omega
          have hbr1 : b < wr.heap.size + 1 := by omega
          have n3 := World.new_ne wr _ g3
          have n4 := World.new_ne wr _ g4
          have n5 := World.new_ne wr _ g5
          go_wp2_with fail
          go_region_held3 (fun w' => w'.cell? ⟨wr.heap.size, 0, none⟩ = some (.bool true) ∧ w'.cell? ⟨wr.heap.size, 1, none⟩ = some (.int .i64 (f k).nrm) ∧ w'.cell? ⟨wr.heap.size, 2, none⟩ = some (.int .i64 (f k).fin) ∧ w'.cell? ⟨b, off + j * 3, none⟩ = some (.bool (f j).is) ∧ w'.cell? ⟨b, off + j * 3 + 1, none⟩ = some (.int .i64 (f j).nrm) ∧ w'.cell? ⟨b, off + j * 3 + 2, none⟩ = some (.int .i64 (f j).fin)) (go_keep) (first | (go_at_call 25; refine (better_any _ _ _ _ _ _ _).mono ?_; rintro e w3 ⟨rfl, hb3⟩; obtain ⟨hc3, hf3, hs3⟩ := bcell hb3))
          all_goals
            go_wp2_with fail
          · have hb : betterB (f k).nrm (f k).fin (f j).nrm (f j).fin = true := by
              have h : (j : Int) < 0 ∨ betterB (f k).nrm (f k).fin (f j).nrm (f j).fin = true := by assumption
              rcases h with h | h
              · omega
              · exact h
            go_roundw
            case rel => exact ⟨k + 1, by omega, by go_num, by rw [HS2.out, if_pos hb], by repeat (first | exact Below.refl _ _ | assumption | refine up_alloc ?_ _ | refine up_drew ?_ | refine up_drewN ?_ _ | refine up_trans ?_ (by assumption))⟩
            case measure => simp [intOf]; omega
          · have hb : betterB (f k).nrm (f k).fin (f j).nrm (f j).fin = false := by
              have h : 0 ≤ (j : Int) ∧ betterB (f k).nrm (f k).fin (f j).nrm (f j).fin = false := by assumption
              exact h.2
            go_roundw
            case rel => exact ⟨k + 1, by omega, by go_num, by rw [HS2.out, if_neg (by rw [hb]; simp)], by repeat (first | exact Below.refl _ _ | assumption | refine up_alloc ?_ _ | refine up_drew ?_ | refine up_drewN ?_ _ | refine up_trans ?_ (by assumption))⟩
            case measure => simp [intOf]; omega
      · have hs : bestAt f (k + 1) = bestAt f k := by rw [bestAt]; simp [hi]
        have HS := Lib.hid hs
        clear hs
        rw [show (f k).is = false by simpa using hi] at g0
        have HI := Lib.hid hi
        clear hi
        go_wp2_with fail
        go_quiet (fail)
        go_wp2_with fail
        go_roundw
        case rel => exact ⟨k + 1, by omega, by go_num, by rw [HS.out], up_drewN (up_alloc hbw _) _⟩
        case measure => simp [intOf]; omega
    · obtain rfl : k = len := by omega
      go_wp2_with fail
      go_ret
      exact ⟨rfl, hbw⟩
end Go.Proofs.Ytagmhlgkbehecaa
