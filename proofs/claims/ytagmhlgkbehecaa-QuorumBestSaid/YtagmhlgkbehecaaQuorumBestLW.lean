/-
  QuorumBest returns true for every input.
-/
import Derived.Test.YtagmhlgkbehecaaQuorumHead
import Derived.Test.YtagmhlgkbehecaaQuorumClm
namespace Go.Proofs.Ytagmhlgkbehecaa
open Go.RowKit
attribute [local go_sem ↓] Go.wp_at_zero Go.wp_at_succ

/-- a claim a is beaten by c -/
def Beats (c a : Clm) : Prop := a.nrm < c.nrm ∨ c.nrm = a.nrm ∧ a.fin < c.fin
theorem better_iff (c a : Clm) : betterB c.nrm c.fin a.nrm a.fin = true ↔ Beats c a := by unfold betterB Beats; rw [decide_eq_true_eq]
theorem best_props (f : Nat → Clm) (k : Nat) :
    (bestAt f k < 0 → ∀ i, i < k → (f i).is = false) ∧ (0 ≤ bestAt f k → (f (bestAt f k).toNat).is = true ∧ ∀ i, i < k → (f i).is = true → ¬ Beats (f i) (f (bestAt f k).toNat)) := by
  induction k with
  | zero => exact ⟨fun _ i hi => by omega, fun h => by simp [bestAt] at h⟩
  | succ k ih =>
    obtain ⟨ih1, ih2⟩ := ih
    have hl := bestAt_lt f k
    rw [bestAt]
    split
    · rename_i h
      obtain ⟨h1, h2⟩ := h
      refine ⟨fun h => by omega, fun _ => ⟨by simpa using h1, fun i hi his => ?_⟩⟩
      simp only [Int.toNat_natCast]
      by_cases hik : i = k
      · subst hik; unfold Beats; omega
      · rcases h2 with h2 | h2
        · have := ih1 h2 i (by omega); rw [this] at his; cases his
        · rw [better_iff] at h2
          by_cases h0 : bestAt f k < 0
          · have := ih1 h0 i (by omega); rw [this] at his; cases his
          · have h3 := (ih2 (by omega)).2 i (by omega) his
            unfold Beats at h2 h3 ⊢
            omega
    · rename_i h
      refine ⟨fun h0 i hi => ?_, fun h0 => ⟨(ih2 h0).1, fun i hi his => ?_⟩⟩
      · by_cases hik : i = k
        · subst hik
          by_cases hh : (f i).is = true
          · exact absurd ⟨hh, .inl h0⟩ h
          · simpa using hh
        · exact ih1 h0 i (by omega)
      · by_cases hik : i = k
        · subst hik
          intro hb
          exact h ⟨his, .inr ((better_iff _ _).2 hb)⟩
        · exact (ih2 h0).2 i (by omega) his

set_option maxRecDepth 100000 in
set_option maxHeartbeats 4000000 in
theorem bestl_row (b off len cap : Nat) (f : Nat → Clm) (w : World) (hlen : len ≤ 1000) (hbb : b < w.heap.size) (hc : IsClms w b off len f) :
    Calls Try.prog 6 #[.slice (some ⟨b, off, none⟩) len cap] w fun e w' => e = .returned (.bool true) ∧ Below w.heap.size w w' := by
  obtain ⟨A, hA⟩ : ∃ A, A = bestAt f len := ⟨_, rfl⟩
  have hp := best_props f len
  have hAl := bestAt_lt f len
  rw [← hA] at hp hAl
  have HA := Lib.hid hA
  clear hA
  have HP := Lib.hid hp
  clear hp
  have hl0 : decide (1000 < (len : Int)) = false := by simp; omega
  go_enter Try.func6, Try.ntmps6
  go_wp2_with fail
  refine (head_any _).mono ?_
  rintro e w1 ⟨rfl, hb1⟩
  go_wp2_with fail
  have hc1 : IsClms w1 b off len f := fun i hi => by
    obtain ⟨h0, h1, h2, h3⟩ := hc i hi
    exact ⟨(hb1.cell (p := ⟨b, _, none⟩) hbb).trans h0, (hb1.cell (p := ⟨b, _, none⟩) hbb).trans h1, (hb1.cell (p := ⟨b, _, none⟩) hbb).trans h2, h3⟩
  have hbb1 : b < w1.heap.size := Nat.lt_of_lt_of_le hbb hb1.size
  refine (best_row b off len cap f _ (by omega) hbb1 hc1).mono ?_
  rintro e w2 ⟨rfl, hb2⟩
  rw [← HA.out]
  have hbw2 := up_trans hb1 hb2
  go_wp2_with fail
  go_loopw [5, 6] (fun s5 s6 wr => ∃ k : Nat, k ≤ len ∧ s6 = .int .i64 k ∧ ∃ any : Bool, s5 = .bool any ∧ (any = true → 0 ≤ A) ∧ (any = false → ∀ i, i < k → (f i).is = false) ∧ Below w.heap.size w wr) (fun _ i _ => len - (intOf i).toNat)
  case atStart => exact ⟨0, Nat.zero_le _, rfl, false, rfl, by simp, fun _ i hi => by omega, hbw2⟩
  case round =>
    obtain ⟨k, hk, rfl, any, rfl, han, hno, hbw⟩ := hrel
    by_cases hlt : k < len
    · obtain ⟨h0, h1, h2, hok⟩ := hc k hlt
      have g0 := (hbw.cell (p := ⟨b, off + k * 3, none⟩) hbb).trans h0
      have g1 := (hbw.cell (p := ⟨b, off + k * 3 + 1, none⟩) hbb).trans h1
      have g2 := (hbw.cell (p := ⟨b, off + k * 3 + 2, none⟩) hbb).trans h2
      clear h0 h1 h2 hc1 hb2 hb1
      have k0 : (0 : Int) ≤ (k : Int) := by omega
      have k1 : (k : Int) < (len : Int) := by omega
      by_cases hi : (f k).is = true
      · have hA0 : 0 ≤ A := by
          by_cases h : A < 0
          · have := HP.out.1 h k hlt; rw [this] at hi; cases hi
          · omega
        obtain ⟨j, rfl⟩ := Int.eq_ofNat_of_zero_le hA0
        have hj : j < len := by omega
        obtain ⟨q0, q1, q2, _⟩ := hc j hj
        have g3 := (hbw.cell (p := ⟨b, off + j * 3, none⟩) hbb).trans q0
        have g4 := (hbw.cell (p := ⟨b, off + j * 3 + 1, none⟩) hbb).trans q1
        have g5 := (hbw.cell (p := ⟨b, off + j * 3 + 2, none⟩) hbb).trans q2
        clear q0 q1 q2
        have hnb : ¬ Beats (f k) (f j) := (HP.out.2 hA0).2 k hlt hi
        unfold Beats at hnb
        rw [hi] at g0
        generalize (f k).nrm = n1 at g1 hnb
        generalize (f k).fin = e1 at g2 hnb
        generalize (f j).nrm = n2 at g4 hnb
        generalize (f j).fin = e2 at g5 hnb
        have d0 : decide ((j : Int) < 0) = false := by simp
        have d1 : ((j : Int) < (len : Int)) := by omega
        have d2 : decide (n2 < n1) = false := by simp; omega
        have d3 : n1 ≤ n2 := by omega
        have d7 : decide (len ≤ j) = false := by simp; omega
        by_cases hnn : n1 = n2
        · have d4 : (n1 == n2) = true := by simpa using hnn
          have d5 : decide (e2 < e1) = false := by simp; omega
          have d6 : e1 ≤ e2 := by omega
          clear hnb
          have HNN := Lib.hid hnn
          clear hnn
          cases any
          · go_wp2_with fail
            go_big_quiet (fail)
            go_wp2_with fail
            go_roundw
            case rel => exact ⟨k + 1, by omega, by go_num, true, rfl, fun _ => by omega, by simp, up_drewN hbw _⟩
            case measure => simp [intOf]; omega
          · go_wp2_with fail
            go_big_quiet (fail)
            go_wp2_with fail
            go_roundw
            case rel => exact ⟨k + 1, by omega, by go_num, true, rfl, fun _ => by omega, by simp, up_drewN hbw _⟩
            case measure => simp [intOf]; omega
        · have d4 : (n1 == n2) = false := by simpa using hnn
          clear hnb
          have HNN := Lib.hid hnn
          clear hnn
          cases any
          · go_wp2_with fail
            go_big_quiet (fail)
            go_wp2_with fail
            go_roundw
            case rel => exact ⟨k + 1, by omega, by go_num, true, rfl, fun _ => by omega, by simp, up_drewN hbw _⟩
            case measure => simp [intOf]; omega
          · go_wp2_with fail
            go_big_quiet (fail)
            go_wp2_with fail
            go_roundw
            case rel => exact ⟨k + 1, by omega, by go_num, true, rfl, fun _ => by omega, by simp, up_drewN hbw _⟩
            case measure => simp [intOf]; omega
      · have hi2 : (f k).is = false := by simpa using hi
        rw [hi2] at g0
        have HI := Lib.hid hi2
        clear hi hi2
        cases any
        · go_wp2_with fail
          go_big_quiet (fail)
          go_wp2_with fail
          go_roundw
          case rel => exact ⟨k + 1, by omega, by go_num, false, rfl, by simp, fun _ i h => by
            by_cases e : i = k
            · subst e; exact HI.out
            · exact hno (by first | rfl | trivial) i (by omega), up_drewN hbw _⟩
          case measure => simp [intOf]; omega
        · go_wp2_with fail
          go_big_quiet (fail)
          go_wp2_with fail
          go_roundw
          case rel => exact ⟨k + 1, by omega, by go_num, true, rfl, fun _ => han (by first | rfl | trivial), by simp, up_drewN hbw _⟩
          case measure => simp [intOf]; omega
    · obtain rfl : k = len := by omega
      by_cases hA0 : 0 ≤ A
      · obtain ⟨j, rfl⟩ := Int.eq_ofNat_of_zero_le hA0
        have hj : j < k := by omega
        have ht : (f j).is = true := (HP.out.2 hA0).1
        obtain rfl : any = true := by
          cases any
          · have := hno (by first | rfl | trivial) j hj; rw [this] at ht; cases ht
          · rfl
        obtain ⟨q0, _, _, _⟩ := hc j hj
        have g3 := (hbw.cell (p := ⟨b, off + j * 3, none⟩) hbb).trans q0
        rw [ht] at g3
        clear ht q0 hno
        go_wp2_with fail
        go_ret
        exact ⟨rfl, hbw⟩
      · obtain rfl : any = false := by
          cases any
          · rfl
          · exact absurd (han (by first | rfl | trivial)) hA0
        go_wp2_with fail
        go_ret
        exact ⟨rfl, hbw⟩

set_option maxRecDepth 100000 in
set_option maxHeartbeats 1000000 in
theorem best_zero (a : Option Addr) (cap : Nat) (w : World) :
    Calls Try.prog 16 #[.slice a 0 cap] w fun e w' => e = .returned (.int .i64 (-1)) ∧ w = w' := by
  go_enter Try.func16, Try.ntmps16
  go_wp2_with fail
  refine wp_loop_rounds 1 ?_
  rw [rounds_succ]
  go_wp2_with fail
  go_ret
  exact ⟨rfl, rfl⟩

set_option maxRecDepth 100000 in
set_option maxHeartbeats 1000000 in
theorem bestl_zero (a : Option Addr) (cap : Nat) (w : World) :
    Calls Try.prog 6 #[.slice a 0 cap] w fun e w' => e = .returned (.bool true) ∧ Below w.heap.size w w' := by
  go_enter Try.func6, Try.ntmps6
  go_wp2_with fail
  refine (head_any _).mono ?_
  rintro e w1 ⟨rfl, hb1⟩
  go_wp2_with fail
  refine (best_zero a cap _).mono ?_
  rintro e w2 ⟨rfl, rfl⟩
  go_wp2_with fail
  refine wp_loop_rounds 1 ?_
  rw [rounds_succ]
  go_wp2_with fail
  go_ret
  exact ⟨rfl, hb1⟩

set_option maxRecDepth 100000 in
set_option maxHeartbeats 1000000 in
theorem bestl_long (a : Option Addr) (len cap : Nat) (w : World) (h : 1000 < len) (hm : len ≤ 9223372036854775807) :
    Calls Try.prog 6 #[.slice a len cap] w fun e w' => e = .returned (.bool true) ∧ Below w.heap.size w w' := by
  go_enter Try.func6, Try.ntmps6
  go_wp2_with fail
  refine (head_any _).mono ?_
  rintro e w1 ⟨rfl, hb1⟩
  go_wp2_with fail
  go_ret
  exact ⟨rfl, hb1⟩

theorem bestl_any {n : Nat} {a : Option Addr} {len cap : Nat} (w : World) (h : TR Try.prog w n 24 [.slice a len cap]) :
    Calls Try.prog 6 #[.slice a len cap] w fun e w' => e = .returned (.bool true) ∧ Below w.heap.size w w' := by
  obtain ⟨hl, hc, h0 | ⟨b, off, f, rfl, hb, hi⟩⟩ := open_clms h
  · subst h0; exact bestl_zero a cap w
  · unfold maxLen at hc
    by_cases h1 : len ≤ 1000
    · exact bestl_row b off len cap f w h1 hb hi
    · exact bestl_long _ len cap w (by omega) (by omega)
end Go.Proofs.Ytagmhlgkbehecaa
