/-
  The contract of slices.SortFunc as quorum.Agreed calls it, for at most twelve numbers: a row that is sorted downwards, and holds as many of each kind.
-/
import Derived.Test.YtagmhlgkbehecaaQuorumW
namespace Go.Proofs.Ytagmhlgkbehecaa
open Go.RowKit
attribute [local go_sem ↓] Go.wp_at_zero Go.wp_at_succ

/-- how many of the first n answer yes -/
def cnt (p : Int → Bool) (f : Nat → Int) : Nat → Nat
  | 0 => 0
  | n + 1 => cnt p f n + (if p (f n) then 1 else 0)
def swp (f : Nat → Int) (j : Nat) : Nat → Int := fun i => if i = j then f (j - 1) else if i = j - 1 then f j else f i
theorem cnt_congr (p : Int → Bool) (f g : Nat → Int) (n : Nat) (h : ∀ i, i < n → f i = g i) : cnt p f n = cnt p g n := by
  induction n with
  | zero => rfl
  | succ n ih => simp only [cnt]; rw [ih (fun i hi => h i (by omega)), h n (by omega)]
theorem cnt_swp (p : Int → Bool) (f : Nat → Int) (j n : Nat) (hj : 1 ≤ j) (hn : j < n) : cnt p (swp f j) n = cnt p f n := by
  obtain ⟨j, rfl⟩ : ∃ k, j = k + 1 := ⟨j - 1, by omega⟩
  induction n with
  | zero => omega
  | succ n ih =>
    by_cases h : n = j + 1
    · subst h
      have h0 : cnt p (swp f (j + 1)) j = cnt p f j := cnt_congr p _ _ j (fun i hi => by unfold swp; rw [if_neg (by omega), if_neg (by omega)])
      have h1 : swp f (j + 1) j = f (j + 1) := by unfold swp; rw [if_neg (by omega), if_pos (by omega)]
      have h2 : swp f (j + 1) (j + 1) = f j := by unfold swp; rw [if_pos rfl]; rfl
      simp only [cnt, h0, h1, h2]
      omega
    · have h1 : swp f (j + 1) n = f n := by unfold swp; rw [if_neg (by omega), if_neg (by omega)]
      simp only [cnt, h1]
      rw [ih (by omega)]
/-- the row as it lies in block B -/
def RowAt (w : World) (B n : Nat) (f : Nat → Int) : Prop := ∀ i, i < n → w.cell? ⟨B, i, none⟩ = some (.int .i64 (f i)) ∧ w.frozen? ⟨B, i, none⟩ = false ∧ (-9223372036854775808 ≤ f i ∧ f i ≤ 9223372036854775807)
theorem RowAt.drewN {w : World} {B n : Nat} {f : Nat → Int} (h : RowAt w B n f) (k : Nat) : RowAt (w.drewN k) B n f := h
theorem RowAt.swap {w : World} {B n j : Nat} {f : Nat → Int} (h : RowAt w B n f) (hj : 1 ≤ j) (hn : j < n) :
    RowAt ((w.setCell ⟨B, j, none⟩ (.int .i64 (f (j - 1)))).setCell ⟨B, j - 1, none⟩ (.int .i64 (f j))) B n (swp f j) := by
  intro i hi
  obtain ⟨c, z, r⟩ := h i hi
  obtain ⟨cj, _, rj⟩ := h j hn
  obtain ⟨ck, _, rk⟩ := h (j - 1) (by omega)
  refine ⟨?_, ?_, ?_⟩
  · unfold swp
    by_cases h1 : i = j
    · subst h1
      rw [if_pos rfl, cell_set_ne _ _ (.inr (by omega)), cell_set_eq _ c]
    · rw [if_neg h1]
      by_cases h2 : i = j - 1
      · subst h2
        rw [if_pos rfl]
        exact cell_set_eq (u := .int .i64 (f (j - 1))) _ (by rw [cell_set_ne _ _ (.inr (by omega))]; exact ck)
      · rw [if_neg h2, cell_set_ne _ _ (.inr (by omega)), cell_set_ne _ _ (.inr (by omega))]
        exact c
  · simpa [go_sem] using z
  · unfold swp; split
    · exact rk
    · split
      · exact rj
      · exact r

/-- sorted downwards so far -/
def Down (f : Nat → Int) (n : Nat) : Prop := ∀ p q, p < q → q < n → f q ≤ f p

theorem swap_down {g : Nat → Int} {i j : Nat} (hj : 0 < j) (hdn : ∀ p q, p < q → q ≤ i → p ≠ j → q ≠ j → g q ≤ g p) (hmx : ∀ q, j < q → q ≤ i → g q ≤ g j) (hc : g (j - 1) < g j) :
    (∀ p q, p < q → q ≤ i → p ≠ j - 1 → q ≠ j - 1 → swp g j q ≤ swp g j p) ∧ (∀ q, j - 1 < q → q ≤ i → swp g j q ≤ swp g j (j - 1)) := by
  have e1 : swp g j j = g (j - 1) := if_pos rfl
  have e2 : swp g j (j - 1) = g j := by unfold swp; rw [if_neg (by omega), if_pos rfl]
  have e3 : ∀ k, k ≠ j → k ≠ j - 1 → swp g j k = g k := fun k h1 h2 => by unfold swp; rw [if_neg h1, if_neg h2]
  constructor
  · intro p q h1 h2 h3 h4
    by_cases hq : q = j
    · subst hq
      rw [e1, e3 p (by omega) h3]
      exact hdn p (q - 1) (by omega) (by omega) (by omega) (by omega)
    · rw [e3 q hq h4]
      by_cases hp : p = j
      · subst hp
        rw [e1]
        exact hdn (p - 1) q (by omega) h2 (by omega) hq
      · rw [e3 p hp h3]
        exact hdn p q h1 h2 hp hq
  · intro q h1 h2
    rw [e2]
    by_cases hq : q = j
    · subst hq; rw [e1]; omega
    · rw [e3 q hq (by omega)]
      exact hmx q (by omega) h2

theorem down_of {g : Nat → Int} {i j : Nat} (hdn : ∀ p q, p < q → q ≤ i → p ≠ j → q ≠ j → g q ≤ g p) (hmx : ∀ q, j < q → q ≤ i → g q ≤ g j) (hc : g j ≤ g (j - 1)) : Down g (i + 1) := by
  intro p q h1 h2
  by_cases hp : p = j
  · subst hp; exact hmx q h1 (by omega)
  · by_cases hq : q = j
    · subst hq
      by_cases h : p = q - 1
      · subst h; exact hc
      · exact Int.le_trans hc (hdn p (q - 1) (by omega) (by omega) hp (by omega))
    · exact hdn p q h1 (by omega) hp hq

set_option maxHeartbeats 400000 in
theorem cmp_any (a b : Int) (w : World) :
    Calls Try.prog 24 #[.int .i64 a, .int .i64 b] w fun e w' => e = .returned (.int .i64 (if b < a then -1 else if a < b then 1 else 0)) ∧ w = w' := by
  by_cases h1 : b < a
  · rw [if_pos h1]
    go_enter Try.func24, Try.ntmps24
    go_wp2
    go_ret
    exact ⟨rfl, rfl⟩
  · rw [if_neg h1]
    by_cases h2 : a < b
    · rw [if_pos h2]
      go_enter Try.func24, Try.ntmps24
      go_wp2
      go_ret
      exact ⟨rfl, rfl⟩
    · rw [if_neg h2]
      go_enter Try.func24, Try.ntmps24
      go_wp2
      go_ret
      exact ⟨rfl, rfl⟩

set_option maxRecDepth 100000 in
set_option maxHeartbeats 400000 in
theorem len64_small (x : Int) (w : World) (h0 : 0 ≤ x) (h1 : x < 256) :
    Calls Try.prog 37 #[.int .u64 x] w fun e w' => (∃ l : Int, e = .returned (.int .i64 l)) ∧ w = w' := by
  go_enter Try.func37, Try.ntmps37
  go_wp2
  all_goals (go_ret; exact ⟨⟨_, rfl⟩, rfl⟩)
set_option maxHeartbeats 400000 in
theorem len_small (x : Int) (w : World) (h0 : 0 ≤ x) (h1 : x < 256) :
    Calls Try.prog 27 #[.int .u64 x] w fun e w' => (∃ l : Int, e = .returned (.int .i64 l)) ∧ w = w' := by
  go_enter Try.func27, Try.ntmps27
  go_wp2_with fail
  refine (len64_small x _ h0 h1).mono ?_
  rintro e w1 ⟨⟨l, rfl⟩, rfl⟩
  go_wp2_with fail
  go_ret
  exact ⟨⟨_, rfl⟩, rfl⟩

set_option maxRecDepth 100000 in
set_option maxHeartbeats 2000000 in
theorem insertion_any (B n cap : Nat) (f0 : Nat → Int) (w : World) (hn : 1 ≤ n) (hn2 : n ≤ 12) (hr : RowAt w B n f0) :
    Calls Try.prog 28 #[.slice (some ⟨B, 0, none⟩) n cap, .int .i64 0, .int .i64 n, .func (.func 24) #[] #[]] w fun e w' =>
      e = .returned (.tuple #[]) ∧ ∃ f, RowAt w' B n f ∧ Down f n ∧ (∀ p, cnt p f n = cnt p f0 n) ∧ Below B w w' := by
  go_enter Try.func28, Try.ntmps28
  go_wp2_with fail
  go_loopw [8, 9] (fun s8 _ wr => ∃ i : Nat, 1 ≤ i ∧ i ≤ n ∧ s8 = .int .i64 i ∧ ∃ f, RowAt wr B n f ∧ Down f i ∧ (∀ p, cnt p f n = cnt p f0 n) ∧ Below B w wr) (fun s8 _ _ => n - (intOf s8).toNat)
  case atStart => exact ⟨1, by omega, hn, rfl, f0, hr, fun p q h1 h2 => by omega, fun _ => rfl, Below.refl _ _⟩
  case round =>
    obtain ⟨i, hi1, hi, rfl, f, hrow, hdn, hct, hbw⟩ := hrel
    by_cases hlt : i < n
    · go_wp2_with fail
      obtain ⟨wo, rfl⟩ : ∃ wo : World, wo = wr := ⟨_, rfl⟩
      clear hr
      go_loopw [9] (fun s9 wr => ∃ j : Nat, j ≤ i ∧ s9 = .int .i64 j ∧ ∃ g, RowAt wr B n g ∧ (∀ p q, p < q → q ≤ i → p ≠ j → q ≠ j → g q ≤ g p) ∧ (∀ q, j < q → q ≤ i → g q ≤ g j) ∧ (∀ p, cnt p g n = cnt p f0 n) ∧ Below B w wr) (fun s9 _ => (intOf s9).toNat)
      case atStart => exact ⟨i, Nat.le_refl _, rfl, f, hrow, fun p q h1 h2 h3 h4 => hdn p q h1 (by omega), fun q h1 h2 => by omega, hct, hbw⟩
      case round =>
        clear hrow hdn hct hbw
        obtain ⟨j, hj, rfl, g, hrow, hdn, hmx, hct, hbw⟩ := hrel
        by_cases hj0 : j = 0
        · subst hj0
          go_wp2_with fail
          go_quiet (fail)
          go_wp2_with fail
          go_roundw
          case rel => exact ⟨i + 1, by omega, by omega, by go_num, g, hrow.drewN _, fun p q h1 h2 => by
            by_cases hp : p = 0
            · subst hp; exact hmx q h1 (by omega)
            · exact hdn p q h1 (by omega) hp (by omega), hct, ⟨hbw.os, hbw.tape, hbw.output, hbw.size, hbw.block⟩⟩
          case measure => simp [intOf]; omega
        · have i0 : (0 : Int) < (j : Int) := by omega
          have n0 : 0 < j := by omega
          have n1 : j < n := by omega
          have i1 : (j : Int) < (n : Int) := by omega
          have i2 : (0 : Int) ≤ (j : Int) - 1 := by omega
          have i3 : (j : Int) - 1 < (n : Int) := by omega
          have i4 : ((j : Int) - 1).toNat = j - 1 := by omega
          have hs : IntKind.i64.wrap ((j : Int) - 1) = (j : Int) - 1 := IntWalk.i64_in _ (by omega)
          obtain ⟨c1, z1, r1⟩ := hrow j (by omega)
          obtain ⟨c2, z2, r2⟩ := hrow (j - 1) (by omega)
          by_cases hc : g (j - 1) < g j
          · have ht : (if g (j - 1) < g j then (-1 : Int) else if g j < g (j - 1) then 1 else 0) = -1 := if_pos hc
            have HT := Lib.hid ht
            clear ht
            go_wp2_with fail
            go_quiet ((go_at_call 24; exact Calls.quiet_of_same ((cmp_any _ _ _).mono fun _ _ h => ⟨h.1, h.2.symm⟩)))
            rw [HT.out]
            go_wp2_with fail
            have hrow2 := hrow.drewN nq
            have hbw2 : Below B w (wr.drewN nq) := ⟨hbw.os, hbw.tape, hbw.output, hbw.size, hbw.block⟩
            generalize wr.drewN nq = wq at hrow2 hbw2 ⊢
            obtain ⟨c1, z1, r1⟩ := hrow2 j (by omega)
            obtain ⟨c2, z2, r2⟩ := hrow2 (j - 1) (by omega)
            go_region
            go_wp2_with fail
            have hsw := swap_down n0 hdn hmx hc
            go_roundw
            case rel =>
              refine ⟨j - 1, by omega, by rw [show ((j - 1 : Nat) : Int) = (j : Int) - 1 by omega], swp g j, ?_, hsw.1, hsw.2, fun p => by rw [cnt_swp p g j n (by omega) n1]; exact hct p, ?_⟩
              · exact (hrow2.swap (by omega) n1).drewN 1
              · exact ((hbw2.setCell (Nat.le_refl _) _).setCell (Nat.le_refl _) _).drew
            case measure => simp [intOf]; omega
          · have ht : ¬ (if g (j - 1) < g j then (-1 : Int) else if g j < g (j - 1) then 1 else 0) < 0 := by rw [if_neg hc]; split <;> omega
            generalize hv : (if g (j - 1) < g j then (-1 : Int) else if g j < g (j - 1) then 1 else 0) = v at ht
            have HV := Lib.hid hv
            clear hv
            go_wp2_with fail
            go_quiet ((go_at_call 24; exact Calls.quiet_of_same ((cmp_any _ _ _).mono fun _ _ h => ⟨h.1, h.2.symm⟩)))
            rw [HV.out]
            go_wp2_with fail
            go_roundw
            case rel => exact ⟨i + 1, by omega, by omega, by go_num, g, hrow.drewN _, down_of hdn hmx (by omega), hct, ⟨hbw.os, hbw.tape, hbw.output, hbw.size, hbw.block⟩⟩
            case measure => simp [intOf]; omega
    · obtain rfl : i = n := by omega
      go_wp2_with fail
      go_end0
      exact ⟨rfl, f, hrow, hdn, hct, hbw⟩

set_option maxRecDepth 100000 in
set_option maxHeartbeats 1000000 in
theorem pdq_any (B n cap : Nat) (l : Int) (f0 : Nat → Int) (w : World) (hn : 1 ≤ n) (hn2 : n ≤ 12) (hr : RowAt w B n f0) :
    Calls Try.prog 26 #[.slice (some ⟨B, 0, none⟩) n cap, .int .i64 0, .int .i64 n, .int .i64 l, .func (.func 24) #[] #[]] w fun e w' =>
      e = .returned (.tuple #[]) ∧ ∃ f, RowAt w' B n f ∧ Down f n ∧ (∀ p, cnt p f n = cnt p f0 n) ∧ Below B w w' := by
  go_enter Try.func26, Try.ntmps26
  go_wp2_with fail
  refine wp_loop_rounds 1 ?_
  rw [rounds_succ]
  go_wp2_with fail
  refine (insertion_any B n cap f0 _ hn hn2 hr).mono ?_
  rintro e w1 ⟨rfl, hq⟩
  go_wp2_with fail
  refine bodyPost_ret (results_none rfl _ _ _) rfl ?_
  exact ⟨rfl, hq⟩

set_option maxHeartbeats 1000000 in
theorem sort_any (B n cap : Nat) (f0 : Nat → Int) (w : World) (hn : 1 ≤ n) (hn2 : n ≤ 12) (hr : RowAt w B n f0) :
    Calls Try.prog 23 #[.slice (some ⟨B, 0, none⟩) n cap, .func (.func 24) #[] #[]] w fun e w' =>
      e = .returned (.tuple #[]) ∧ ∃ f, RowAt w' B n f ∧ Down f n ∧ (∀ p, cnt p f n = cnt p f0 n) ∧ Below B w w' := by
  go_enter Try.func23, Try.ntmps23
  go_wp2_with fail
  refine (len_small _ _ (by omega) (by omega)).mono ?_
  rintro e w1 ⟨⟨l, rfl⟩, rfl⟩
  go_wp2_with fail
  refine (pdq_any B n cap l f0 _ hn hn2 hr).mono ?_
  rintro e w1 ⟨rfl, hq⟩
  go_wp2_with fail
  go_end0
  exact ⟨rfl, hq⟩

end Go.Proofs.Ytagmhlgkbehecaa
