/-
  Contracts of code.every, slices.ContainsFunc and slices.IndexFunc at the element types of modules.
-/
import Derived.Test.YtmdceokmpjcllaaGreatDoorRows
import Derived.Test.YtmdceokmpjcllaaGreatDoorKit
namespace Go.Proofs.YtmdceokmpjcllaaGreatDoor
open Go.RowKit

/-- the first of n that answers yes; below 0: none does -/
def firstAt (q : Nat → Bool) : Nat → Nat → Int
  | 0, _ => -1
  | m + 1, i => if q i then (i : Int) else firstAt q m (i + 1)
def allB (p : Nat → Bool) (n : Nat) : Bool := decide (∀ i, i < n → p i = true)
theorem firstAt_ge (q : Nat → Bool) (m i : Nat) : (0 ≤ firstAt q m i) ↔ ∃ j, j < m ∧ q (i + j) = true := by
  induction m generalizing i with
  | zero => simp [firstAt]
  | succ m ih =>
    unfold firstAt
    by_cases h : q i = true
    · rw [if_pos h]
      exact ⟨fun _ => ⟨0, by omega, h⟩, fun _ => by omega⟩
    · rw [if_neg h, ih]
      constructor
      · rintro ⟨j, h1, h2⟩
        exact ⟨j + 1, by omega, by rw [show i + (j + 1) = i + 1 + j by omega]; exact h2⟩
      · rintro ⟨j, h1, h2⟩
        match j, h1, h2 with
        | 0, _, h2 => exact absurd h2 h
        | j + 1, h1, h2 => exact ⟨j, by omega, by rw [show i + 1 + j = i + (j + 1) by omega]; exact h2⟩
theorem firstAt_all (p : Nat → Bool) (n : Nat) : (!decide (0 ≤ firstAt (fun i => !p i) n 0)) = allB p n := by
  have h := firstAt_ge (fun i => !p i) n 0
  simp only [Nat.zero_add] at h
  unfold allB
  by_cases hq : ∃ j, j < n ∧ (!p j) = true
  · rw [decide_eq_true (h.2 hq)]
    obtain ⟨j, h1, h2⟩ := hq
    rw [decide_eq_false (fun hh => by rw [hh j h1] at h2; cases h2)]
    rfl
  · rw [decide_eq_false (fun hh => hq (h.1 hh))]
    rw [decide_eq_true (fun i hi => by
      cases hp : p i
      · exact absurd ⟨i, hi, by rw [hp]; rfl⟩ hq
      · rfl)]
    rfl
theorem allB_iff (p : Nat → Bool) (n : Nat) : allB p n = true ↔ ∀ i, i < n → p i = true := by unfold allB; exact decide_eq_true_iff
theorem firstAt_lt (q : Nat → Bool) (m i : Nat) : -1 ≤ firstAt q m i ∧ (firstAt q m i < i + m ∨ firstAt q m i = -1) := by
  induction m generalizing i with
  | zero => simp [firstAt]
  | succ m ih =>
    unfold firstAt
    split
    · omega
    · have := ih (i + 1); omega

/-- what is known of the row -/
def RowTy (w : World) (s0 : Option Addr) (n : Nat) (c0 : Nat → Value) : Prop :=
  0 < n → ∃ b off, s0 = some ⟨b, off, none⟩ ∧ b < w.heap.size ∧ ∀ i, i < n → w.cell? ⟨b, off + i, none⟩ = some (c0 i)
theorem RowTy.later {w w' : World} {s0 : Option Addr} {n : Nat} {c0 : Nat → Value} (h : RowTy w s0 n c0) (hb : Below w.heap.size w w') : RowTy w' s0 n c0 := by
  intro h0
  obtain ⟨b, off, h1, h2, h3⟩ := h h0
  refine ⟨b, off, h1, Nat.lt_of_lt_of_le h2 hb.size, fun i hi => ?_⟩
  have h4 := h3 i hi
  simp only [up_cell hb b _ h2]
  exact h4

set_option maxRecDepth 100000 in
set_option maxHeartbeats 1000000 in
theorem idxTy (s0 : Option Addr) (n cap : Nat) (c0 : Nat → Value) (q : Nat → Bool) (bx : Nat) (w : World) (hn : n ≤ 9223372036854775807) (hr : RowTy w s0 n c0)
    (hq : ∀ i, i < n → ∀ W, Below w.heap.size w W → Calls Tryz.prog 85 #[c0 i, .pointer (some ⟨bx, 0, none⟩)] W fun e W' => e = .returned (.bool (q i)) ∧ Below W.heap.size W W') :
    Calls Tryz.prog 121 #[.slice s0 n cap, .func (.func 85) #[] #[.pointer (some ⟨bx, 0, none⟩)]] w fun e w' => e = .returned (.int .i64 (firstAt q n 0)) ∧ Below w.heap.size w w' := by
  have HR := Lib.hid hr
  have HQ := Lib.hid hq
  clear hr hq
  go_enter Tryz.func121, Tryz.ntmps121
  go_wp2_with fail
  go_loopw [8] (fun s8 wr => ∃ i : Nat, i ≤ n ∧ s8 = .int .i64 i ∧ firstAt q n 0 = firstAt q (n - i) i ∧ Below w.heap.size w wr) (fun s8 _ => n - (intOf s8).toNat)
  case atStart => exact ⟨0, Nat.zero_le _, rfl, rfl, Below.refl _ _⟩
  case round =>
    obtain ⟨i, hi, rfl, hfi, hbw⟩ := hrel
    have HF := Lib.hid hfi
    clear hfi
    by_cases hlt : i < n
    · obtain ⟨b, off, rfl, hbb, hcells⟩ := HR.out (by omega)
      have hcell := hcells i hlt
      have g0 := (hbw.cell (p := ⟨b, off + i, none⟩) hbb).trans hcell
      have hnx : firstAt q (n - i) i = if q i then (i : Int) else firstAt q (n - (i + 1)) (i + 1) := by
        rw [show n - i = (n - (i + 1)) + 1 by omega]; rfl
      have HN := Lib.hid hnx
      have HQI := Lib.hid (HQ.out i hlt _ hbw)
      clear hcell hcells hnx
      generalize c0 i = x0 at *
      cases hqi : q i
      · rw [hqi] at HQI HN
        have HH := Lib.hid hqi
        clear hqi
        go_wp2_with fail
        refine (HQI.out).mono ?_
        rintro e w1 ⟨rfl, hb1⟩
        go_wp2_with fail
        go_roundw
        case rel => exact ⟨i + 1, by omega, by go_num, by rw [HF.out, HN.out]; rfl, up_trans hbw hb1⟩
        case measure => simp [intOf]; omega
      · rw [hqi] at HQI HN
        have HH := Lib.hid hqi
        clear hqi
        go_wp2_with fail
        refine (HQI.out).mono ?_
        rintro e w1 ⟨rfl, hb1⟩
        go_wp2_with fail
        go_ret
        exact ⟨ret_int (by rw [HF.out, HN.out]; rfl), up_trans hbw hb1⟩
    · obtain rfl : i = n := by omega
      go_wp2_with fail
      go_ret
      exact ⟨ret_int (by rw [HF.out, Nat.sub_self]; rfl), hbw⟩

set_option maxRecDepth 100000 in
set_option maxHeartbeats 1000000 in
theorem conTy (s0 : Option Addr) (n cap : Nat) (c0 : Nat → Value) (q : Nat → Bool) (bx : Nat) (w : World) (hn : n ≤ 9223372036854775807) (hr : RowTy w s0 n c0)
    (hq : ∀ i, i < n → ∀ W, Below w.heap.size w W → Calls Tryz.prog 85 #[c0 i, .pointer (some ⟨bx, 0, none⟩)] W fun e W' => e = .returned (.bool (q i)) ∧ Below W.heap.size W W') :
    Calls Tryz.prog 84 #[.slice s0 n cap, .func (.func 85) #[] #[.pointer (some ⟨bx, 0, none⟩)]] w fun e w' => e = .returned (.bool (decide (0 ≤ firstAt q n 0))) ∧ Below w.heap.size w w' := by
  have H := Lib.hid (idxTy s0 n cap c0 q bx w hn hr hq)
  clear hr hq
  have hl := firstAt_lt q n 0
  generalize firstAt q n 0 = z at *
  go_enter Tryz.func84, Tryz.ntmps84
  go_wp2_with fail
  refine (H.out).mono ?_
  rintro e w1 ⟨rfl, hb1⟩
  go_wp2_with fail
  go_ret
  exact ⟨rfl, hb1⟩

set_option maxHeartbeats 1000000 in
theorem notTy (x0 : Value) (r : Bool) (bx : Nat) (W : World) (hbx : W.cell? ⟨bx, 0, none⟩ = some (.func (.func 53) #[] #[]))
    (hp : ∀ W1, Below W.heap.size W W1 → Calls Tryz.prog 53 #[x0] W1 fun e W' => e = .returned (.bool r) ∧ Below W1.heap.size W1 W') :
    Calls Tryz.prog 85 #[x0, .pointer (some ⟨bx, 0, none⟩)] W fun e W' => e = .returned (.bool (!r)) ∧ Below W.heap.size W W' := by
  have HP := Lib.hid hp
  have hlt := lt_of_cell hbx
  clear hp
  go_enter Tryz.func85, Tryz.ntmps85
  go_wp2_with fail
  refine (HP.out _ (Below.refl _ _)).mono ?_
  rintro e w1 ⟨rfl, hb1⟩
  go_wp2_with fail
  go_ret
  exact ⟨rfl, hb1⟩

set_option maxRecDepth 100000 in
set_option maxHeartbeats 1000000 in
theorem everyTy (s0 : Option Addr) (n cap : Nat) (c0 : Nat → Value) (p : Nat → Bool) (w : World) (hn : n ≤ 9223372036854775807) (hr : RowTy w s0 n c0)
    (hp : ∀ i, i < n → ∀ W, Below w.heap.size w W → Calls Tryz.prog 53 #[c0 i] W fun e W' => e = .returned (.bool (p i)) ∧ Below W.heap.size W W') :
    Calls Tryz.prog 52 #[.slice s0 n cap, .func (.func 53) #[] #[]] w fun e w' => e = .returned (.bool (allB p n)) ∧ Below w.heap.size w w' := by
  have HR := Lib.hid hr
  have HP := Lib.hid hp
  clear hr hp
  go_enter Tryz.func52, Tryz.ntmps52
  go_wp2_with fail
  have hb0 : Below w.heap.size w (w.alloc (Obj.cells #[.func (.func 53) #[] #[]] 102)) := up_alloc (Below.refl _ _) _
  refine (conTy s0 n cap c0 (fun i => !p i) w.heap.size _ hn (HR.out.later hb0) ?_).mono ?_
  · intro i hi W hW
    exact notTy (c0 i) (p i) w.heap.size W ((hW.cell (p := ⟨w.heap.size, 0, none⟩) (by simp)).trans (by simp)) (fun W1 hW1 => HP.out i hi W1 (up_trans (up_trans hb0 hW) hW1))
  rintro e w1 ⟨rfl, hb1⟩
  have he := firstAt_all p n
  generalize decide (0 ≤ firstAt (fun i => !p i) n 0) = z at he
  have HE := Lib.hid he
  clear he
  go_wp2_with fail
  go_ret
  exact ⟨ret_bool HE.out, up_trans hb0 hb1⟩

/-- what is known of the row -/
def RowBy (w : World) (s0 : Option Addr) (n : Nat) (c0 : Nat → Value) : Prop :=
  0 < n → ∃ b off, s0 = some ⟨b, off, none⟩ ∧ b < w.heap.size ∧ ∀ i, i < n → w.cell? ⟨b, off + i, none⟩ = some (c0 i)
theorem RowBy.later {w w' : World} {s0 : Option Addr} {n : Nat} {c0 : Nat → Value} (h : RowBy w s0 n c0) (hb : Below w.heap.size w w') : RowBy w' s0 n c0 := by
  intro h0
  obtain ⟨b, off, h1, h2, h3⟩ := h h0
  refine ⟨b, off, h1, Nat.lt_of_lt_of_le h2 hb.size, fun i hi => ?_⟩
  have h4 := h3 i hi
  simp only [up_cell hb b _ h2]
  exact h4

set_option maxRecDepth 100000 in
set_option maxHeartbeats 1000000 in
theorem idxBy (s0 : Option Addr) (n cap : Nat) (c0 : Nat → Value) (q : Nat → Bool) (bx : Nat) (w : World) (hn : n ≤ 9223372036854775807) (hr : RowBy w s0 n c0)
    (hq : ∀ i, i < n → ∀ W, Below w.heap.size w W → Calls Tryz.prog 81 #[c0 i, .pointer (some ⟨bx, 0, none⟩)] W fun e W' => e = .returned (.bool (q i)) ∧ Below W.heap.size W W') :
    Calls Tryz.prog 120 #[.slice s0 n cap, .func (.func 81) #[] #[.pointer (some ⟨bx, 0, none⟩)]] w fun e w' => e = .returned (.int .i64 (firstAt q n 0)) ∧ Below w.heap.size w w' := by
  have HR := Lib.hid hr
  have HQ := Lib.hid hq
  clear hr hq
  go_enter Tryz.func120, Tryz.ntmps120
  go_wp2_with fail
  go_loopw [8] (fun s8 wr => ∃ i : Nat, i ≤ n ∧ s8 = .int .i64 i ∧ firstAt q n 0 = firstAt q (n - i) i ∧ Below w.heap.size w wr) (fun s8 _ => n - (intOf s8).toNat)
  case atStart => exact ⟨0, Nat.zero_le _, rfl, rfl, Below.refl _ _⟩
  case round =>
    obtain ⟨i, hi, rfl, hfi, hbw⟩ := hrel
    have HF := Lib.hid hfi
    clear hfi
    by_cases hlt : i < n
    · obtain ⟨b, off, rfl, hbb, hcells⟩ := HR.out (by omega)
      have hcell := hcells i hlt
      have g0 := (hbw.cell (p := ⟨b, off + i, none⟩) hbb).trans hcell
      have hnx : firstAt q (n - i) i = if q i then (i : Int) else firstAt q (n - (i + 1)) (i + 1) := by
        rw [show n - i = (n - (i + 1)) + 1 by omega]; rfl
      have HN := Lib.hid hnx
      have HQI := Lib.hid (HQ.out i hlt _ hbw)
      clear hcell hcells hnx
      generalize c0 i = x0 at *
      cases hqi : q i
      · rw [hqi] at HQI HN
        have HH := Lib.hid hqi
        clear hqi
        go_wp2_with fail
        refine (HQI.out).mono ?_
        rintro e w1 ⟨rfl, hb1⟩
        go_wp2_with fail
        go_roundw
        case rel => exact ⟨i + 1, by omega, by go_num, by rw [HF.out, HN.out]; rfl, up_trans hbw hb1⟩
        case measure => simp [intOf]; omega
      · rw [hqi] at HQI HN
        have HH := Lib.hid hqi
        clear hqi
        go_wp2_with fail
        refine (HQI.out).mono ?_
        rintro e w1 ⟨rfl, hb1⟩
        go_wp2_with fail
        go_ret
        exact ⟨ret_int (by rw [HF.out, HN.out]; rfl), up_trans hbw hb1⟩
    · obtain rfl : i = n := by omega
      go_wp2_with fail
      go_ret
      exact ⟨ret_int (by rw [HF.out, Nat.sub_self]; rfl), hbw⟩

set_option maxRecDepth 100000 in
set_option maxHeartbeats 1000000 in
theorem conBy (s0 : Option Addr) (n cap : Nat) (c0 : Nat → Value) (q : Nat → Bool) (bx : Nat) (w : World) (hn : n ≤ 9223372036854775807) (hr : RowBy w s0 n c0)
    (hq : ∀ i, i < n → ∀ W, Below w.heap.size w W → Calls Tryz.prog 81 #[c0 i, .pointer (some ⟨bx, 0, none⟩)] W fun e W' => e = .returned (.bool (q i)) ∧ Below W.heap.size W W') :
    Calls Tryz.prog 80 #[.slice s0 n cap, .func (.func 81) #[] #[.pointer (some ⟨bx, 0, none⟩)]] w fun e w' => e = .returned (.bool (decide (0 ≤ firstAt q n 0))) ∧ Below w.heap.size w w' := by
  have H := Lib.hid (idxBy s0 n cap c0 q bx w hn hr hq)
  clear hr hq
  have hl := firstAt_lt q n 0
  generalize firstAt q n 0 = z at *
  go_enter Tryz.func80, Tryz.ntmps80
  go_wp2_with fail
  refine (H.out).mono ?_
  rintro e w1 ⟨rfl, hb1⟩
  go_wp2_with fail
  go_ret
  exact ⟨rfl, hb1⟩

set_option maxHeartbeats 1000000 in
theorem notBy (x0 : Value) (r : Bool) (bx : Nat) (W : World) (hbx : W.cell? ⟨bx, 0, none⟩ = some (.func (.func 49) #[] #[]))
    (hp : ∀ W1, Below W.heap.size W W1 → Calls Tryz.prog 49 #[x0] W1 fun e W' => e = .returned (.bool r) ∧ Below W1.heap.size W1 W') :
    Calls Tryz.prog 81 #[x0, .pointer (some ⟨bx, 0, none⟩)] W fun e W' => e = .returned (.bool (!r)) ∧ Below W.heap.size W W' := by
  have HP := Lib.hid hp
  have hlt := lt_of_cell hbx
  clear hp
  go_enter Tryz.func81, Tryz.ntmps81
  go_wp2_with fail
  refine (HP.out _ (Below.refl _ _)).mono ?_
  rintro e w1 ⟨rfl, hb1⟩
  go_wp2_with fail
  go_ret
  exact ⟨rfl, hb1⟩

set_option maxRecDepth 100000 in
set_option maxHeartbeats 1000000 in
theorem everyBy (s0 : Option Addr) (n cap : Nat) (c0 : Nat → Value) (p : Nat → Bool) (w : World) (hn : n ≤ 9223372036854775807) (hr : RowBy w s0 n c0)
    (hp : ∀ i, i < n → ∀ W, Below w.heap.size w W → Calls Tryz.prog 49 #[c0 i] W fun e W' => e = .returned (.bool (p i)) ∧ Below W.heap.size W W') :
    Calls Tryz.prog 48 #[.slice s0 n cap, .func (.func 49) #[] #[]] w fun e w' => e = .returned (.bool (allB p n)) ∧ Below w.heap.size w w' := by
  have HR := Lib.hid hr
  have HP := Lib.hid hp
  clear hr hp
  go_enter Tryz.func48, Tryz.ntmps48
  go_wp2_with fail
  have hb0 : Below w.heap.size w (w.alloc (Obj.cells #[.func (.func 49) #[] #[]] 99)) := up_alloc (Below.refl _ _) _
  refine (conBy s0 n cap c0 (fun i => !p i) w.heap.size _ hn (HR.out.later hb0) ?_).mono ?_
  · intro i hi W hW
    exact notBy (c0 i) (p i) w.heap.size W ((hW.cell (p := ⟨w.heap.size, 0, none⟩) (by simp)).trans (by simp)) (fun W1 hW1 => HP.out i hi W1 (up_trans (up_trans hb0 hW) hW1))
  rintro e w1 ⟨rfl, hb1⟩
  have he := firstAt_all p n
  generalize decide (0 ≤ firstAt (fun i => !p i) n 0) = z at he
  have HE := Lib.hid he
  clear he
  go_wp2_with fail
  go_ret
  exact ⟨ret_bool HE.out, up_trans hb0 hb1⟩

/-- what is known of the row -/
def RowIn (w : World) (s0 : Option Addr) (n : Nat) (c0 c1 : Nat → Value) : Prop :=
  0 < n → ∃ b off, s0 = some ⟨b, off, none⟩ ∧ b < w.heap.size ∧ ∀ i, i < n → w.cell? ⟨b, off + i * 2, none⟩ = some (c0 i) ∧ w.cell? ⟨b, off + i * 2 + 1, none⟩ = some (c1 i)
theorem RowIn.later {w w' : World} {s0 : Option Addr} {n : Nat} {c0 c1 : Nat → Value} (h : RowIn w s0 n c0 c1) (hb : Below w.heap.size w w') : RowIn w' s0 n c0 c1 := by
  intro h0
  obtain ⟨b, off, h1, h2, h3⟩ := h h0
  refine ⟨b, off, h1, Nat.lt_of_lt_of_le h2 hb.size, fun i hi => ?_⟩
  have h4 := h3 i hi
  simp only [up_cell hb b _ h2]
  exact h4

set_option maxRecDepth 100000 in
set_option maxHeartbeats 1000000 in
theorem idxIn (s0 : Option Addr) (n cap : Nat) (c0 c1 : Nat → Value) (q : Nat → Bool) (bx : Nat) (w : World) (hn : n ≤ 9223372036854775807) (hr : RowIn w s0 n c0 c1)
    (hq : ∀ i, i < n → ∀ W, Below w.heap.size w W → Calls Tryz.prog 87 #[.agg #[c0 i, c1 i], .pointer (some ⟨bx, 0, none⟩)] W fun e W' => e = .returned (.bool (q i)) ∧ Below W.heap.size W W') :
    Calls Tryz.prog 122 #[.slice s0 n cap, .func (.func 87) #[] #[.pointer (some ⟨bx, 0, none⟩)]] w fun e w' => e = .returned (.int .i64 (firstAt q n 0)) ∧ Below w.heap.size w w' := by
  have HR := Lib.hid hr
  have HQ := Lib.hid hq
  clear hr hq
  go_enter Tryz.func122, Tryz.ntmps122
  go_wp2_with fail
  go_loopw [8] (fun s8 wr => ∃ i : Nat, i ≤ n ∧ s8 = .int .i64 i ∧ firstAt q n 0 = firstAt q (n - i) i ∧ Below w.heap.size w wr) (fun s8 _ => n - (intOf s8).toNat)
  case atStart => exact ⟨0, Nat.zero_le _, rfl, rfl, Below.refl _ _⟩
  case round =>
    obtain ⟨i, hi, rfl, hfi, hbw⟩ := hrel
    have HF := Lib.hid hfi
    clear hfi
    by_cases hlt : i < n
    · obtain ⟨b, off, rfl, hbb, hcells⟩ := HR.out (by omega)
      have hcell := hcells i hlt
      have g0 := (hbw.cell (p := ⟨b, off + i * 2, none⟩) hbb).trans hcell.1
      have g1 := (hbw.cell (p := ⟨b, off + i * 2 + 1, none⟩) hbb).trans hcell.2
      have hnx : firstAt q (n - i) i = if q i then (i : Int) else firstAt q (n - (i + 1)) (i + 1) := by
        rw [show n - i = (n - (i + 1)) + 1 by omega]; rfl
      have HN := Lib.hid hnx
      have HQI := Lib.hid (HQ.out i hlt _ hbw)
      clear hcell hcells hnx
      generalize c0 i = x0 at *
      generalize c1 i = x1 at *
      cases hqi : q i
      · rw [hqi] at HQI HN
        have HH := Lib.hid hqi
        clear hqi
        go_wp2_with fail
        refine (HQI.out).mono ?_
        rintro e w1 ⟨rfl, hb1⟩
        go_wp2_with fail
        go_roundw
        case rel => exact ⟨i + 1, by omega, by go_num, by rw [HF.out, HN.out]; rfl, up_trans hbw hb1⟩
        case measure => simp [intOf]; omega
      · rw [hqi] at HQI HN
        have HH := Lib.hid hqi
        clear hqi
        go_wp2_with fail
        refine (HQI.out).mono ?_
        rintro e w1 ⟨rfl, hb1⟩
        go_wp2_with fail
        go_ret
        exact ⟨ret_int (by rw [HF.out, HN.out]; rfl), up_trans hbw hb1⟩
    · obtain rfl : i = n := by omega
      go_wp2_with fail
      go_ret
      exact ⟨ret_int (by rw [HF.out, Nat.sub_self]; rfl), hbw⟩

set_option maxRecDepth 100000 in
set_option maxHeartbeats 1000000 in
theorem conIn (s0 : Option Addr) (n cap : Nat) (c0 c1 : Nat → Value) (q : Nat → Bool) (bx : Nat) (w : World) (hn : n ≤ 9223372036854775807) (hr : RowIn w s0 n c0 c1)
    (hq : ∀ i, i < n → ∀ W, Below w.heap.size w W → Calls Tryz.prog 87 #[.agg #[c0 i, c1 i], .pointer (some ⟨bx, 0, none⟩)] W fun e W' => e = .returned (.bool (q i)) ∧ Below W.heap.size W W') :
    Calls Tryz.prog 86 #[.slice s0 n cap, .func (.func 87) #[] #[.pointer (some ⟨bx, 0, none⟩)]] w fun e w' => e = .returned (.bool (decide (0 ≤ firstAt q n 0))) ∧ Below w.heap.size w w' := by
  have H := Lib.hid (idxIn s0 n cap c0 c1 q bx w hn hr hq)
  clear hr hq
  have hl := firstAt_lt q n 0
  generalize firstAt q n 0 = z at *
  go_enter Tryz.func86, Tryz.ntmps86
  go_wp2_with fail
  refine (H.out).mono ?_
  rintro e w1 ⟨rfl, hb1⟩
  go_wp2_with fail
  go_ret
  exact ⟨rfl, hb1⟩

set_option maxHeartbeats 1000000 in
theorem notIn (x0 x1 : Value) (r : Bool) (bx : Nat) (W : World) (hbx : W.cell? ⟨bx, 0, none⟩ = some (.func (.func 55) #[] #[]))
    (hp : ∀ W1, Below W.heap.size W W1 → Calls Tryz.prog 55 #[.agg #[x0, x1]] W1 fun e W' => e = .returned (.bool r) ∧ Below W1.heap.size W1 W') :
    Calls Tryz.prog 87 #[.agg #[x0, x1], .pointer (some ⟨bx, 0, none⟩)] W fun e W' => e = .returned (.bool (!r)) ∧ Below W.heap.size W W' := by
  have HP := Lib.hid hp
  have hlt := lt_of_cell hbx
  clear hp
  go_enter Tryz.func87, Tryz.ntmps87
  go_wp2_with fail
  refine (HP.out _ (up_alloc (Below.refl _ _) _)).mono ?_
  rintro e w1 ⟨rfl, hb1⟩
  go_wp2_with fail
  go_ret
  exact ⟨rfl, up_trans (up_alloc (Below.refl _ _) _) hb1⟩

set_option maxRecDepth 100000 in
set_option maxHeartbeats 1000000 in
theorem everyIn (s0 : Option Addr) (n cap : Nat) (c0 c1 : Nat → Value) (p : Nat → Bool) (w : World) (hn : n ≤ 9223372036854775807) (hr : RowIn w s0 n c0 c1)
    (hp : ∀ i, i < n → ∀ W, Below w.heap.size w W → Calls Tryz.prog 55 #[.agg #[c0 i, c1 i]] W fun e W' => e = .returned (.bool (p i)) ∧ Below W.heap.size W W') :
    Calls Tryz.prog 54 #[.slice s0 n cap, .func (.func 55) #[] #[]] w fun e w' => e = .returned (.bool (allB p n)) ∧ Below w.heap.size w w' := by
  have HR := Lib.hid hr
  have HP := Lib.hid hp
  clear hr hp
  go_enter Tryz.func54, Tryz.ntmps54
  go_wp2_with fail
  have hb0 : Below w.heap.size w (w.alloc (Obj.cells #[.func (.func 55) #[] #[]] 104)) := up_alloc (Below.refl _ _) _
  refine (conIn s0 n cap c0 c1 (fun i => !p i) w.heap.size _ hn (HR.out.later hb0) ?_).mono ?_
  · intro i hi W hW
    exact notIn (c0 i) (c1 i) (p i) w.heap.size W ((hW.cell (p := ⟨w.heap.size, 0, none⟩) (by simp)).trans (by simp)) (fun W1 hW1 => HP.out i hi W1 (up_trans (up_trans hb0 hW) hW1))
  rintro e w1 ⟨rfl, hb1⟩
  have he := firstAt_all p n
  generalize decide (0 ≤ firstAt (fun i => !p i) n 0) = z at he
  have HE := Lib.hid he
  clear he
  go_wp2_with fail
  go_ret
  exact ⟨ret_bool HE.out, up_trans hb0 hb1⟩

/-- what is known of the row -/
def RowCd (w : World) (s0 : Option Addr) (n : Nat) (c0 c1 c2 c3 c4 : Nat → Value) : Prop :=
  0 < n → ∃ b off, s0 = some ⟨b, off, none⟩ ∧ b < w.heap.size ∧ ∀ i, i < n → w.cell? ⟨b, off + i * 5, none⟩ = some (c0 i) ∧ w.cell? ⟨b, off + i * 5 + 1, none⟩ = some (c1 i) ∧ w.cell? ⟨b, off + i * 5 + 2, none⟩ = some (c2 i) ∧ w.cell? ⟨b, off + i * 5 + 3, none⟩ = some (c3 i) ∧ w.cell? ⟨b, off + i * 5 + 4, none⟩ = some (c4 i)
theorem RowCd.later {w w' : World} {s0 : Option Addr} {n : Nat} {c0 c1 c2 c3 c4 : Nat → Value} (h : RowCd w s0 n c0 c1 c2 c3 c4) (hb : Below w.heap.size w w') : RowCd w' s0 n c0 c1 c2 c3 c4 := by
  intro h0
  obtain ⟨b, off, h1, h2, h3⟩ := h h0
  refine ⟨b, off, h1, Nat.lt_of_lt_of_le h2 hb.size, fun i hi => ?_⟩
  have h4 := h3 i hi
  simp only [up_cell hb b _ h2]
  exact h4

set_option maxRecDepth 100000 in
set_option maxHeartbeats 1000000 in
theorem idxCd (s0 : Option Addr) (n cap : Nat) (c0 c1 c2 c3 c4 : Nat → Value) (q : Nat → Bool) (bx : Nat) (w : World) (hn : n ≤ 9223372036854775807) (hr : RowCd w s0 n c0 c1 c2 c3 c4)
    (hq : ∀ i, i < n → ∀ W, Below w.heap.size w W → Calls Tryz.prog 83 #[.agg #[c0 i, c1 i, c2 i, c3 i, c4 i], .pointer (some ⟨bx, 0, none⟩)] W fun e W' => e = .returned (.bool (q i)) ∧ Below W.heap.size W W') :
    Calls Tryz.prog 23 #[.slice s0 n cap, .func (.func 83) #[] #[.pointer (some ⟨bx, 0, none⟩)]] w fun e w' => e = .returned (.int .i64 (firstAt q n 0)) ∧ Below w.heap.size w w' := by
  have HR := Lib.hid hr
  have HQ := Lib.hid hq
  clear hr hq
  go_enter Tryz.func23, Tryz.ntmps23
  go_wp2_with fail
  go_loopw [8] (fun s8 wr => ∃ i : Nat, i ≤ n ∧ s8 = .int .i64 i ∧ firstAt q n 0 = firstAt q (n - i) i ∧ Below w.heap.size w wr) (fun s8 _ => n - (intOf s8).toNat)
  case atStart => exact ⟨0, Nat.zero_le _, rfl, rfl, Below.refl _ _⟩
  case round =>
    obtain ⟨i, hi, rfl, hfi, hbw⟩ := hrel
    have HF := Lib.hid hfi
    clear hfi
    by_cases hlt : i < n
    · obtain ⟨b, off, rfl, hbb, hcells⟩ := HR.out (by omega)
      have hcell := hcells i hlt
      have g0 := (hbw.cell (p := ⟨b, off + i * 5, none⟩) hbb).trans hcell.1
      have g1 := (hbw.cell (p := ⟨b, off + i * 5 + 1, none⟩) hbb).trans hcell.2.1
      have g2 := (hbw.cell (p := ⟨b, off + i * 5 + 2, none⟩) hbb).trans hcell.2.2.1
      have g3 := (hbw.cell (p := ⟨b, off + i * 5 + 3, none⟩) hbb).trans hcell.2.2.2.1
      have g4 := (hbw.cell (p := ⟨b, off + i * 5 + 4, none⟩) hbb).trans hcell.2.2.2.2
      have hnx : firstAt q (n - i) i = if q i then (i : Int) else firstAt q (n - (i + 1)) (i + 1) := by
        rw [show n - i = (n - (i + 1)) + 1 by omega]; rfl
      have HN := Lib.hid hnx
      have HQI := Lib.hid (HQ.out i hlt _ hbw)
      clear hcell hcells hnx
      generalize c0 i = x0 at *
      generalize c1 i = x1 at *
      generalize c2 i = x2 at *
      generalize c3 i = x3 at *
      generalize c4 i = x4 at *
      cases hqi : q i
      · rw [hqi] at HQI HN
        have HH := Lib.hid hqi
        clear hqi
        go_wp2_with fail
        refine (HQI.out).mono ?_
        rintro e w1 ⟨rfl, hb1⟩
        go_wp2_with fail
        go_roundw
        case rel => exact ⟨i + 1, by omega, by go_num, by rw [HF.out, HN.out]; rfl, up_trans hbw hb1⟩
        case measure => simp [intOf]; omega
      · rw [hqi] at HQI HN
        have HH := Lib.hid hqi
        clear hqi
        go_wp2_with fail
        refine (HQI.out).mono ?_
        rintro e w1 ⟨rfl, hb1⟩
        go_wp2_with fail
        go_ret
        exact ⟨ret_int (by rw [HF.out, HN.out]; rfl), up_trans hbw hb1⟩
    · obtain rfl : i = n := by omega
      go_wp2_with fail
      go_ret
      exact ⟨ret_int (by rw [HF.out, Nat.sub_self]; rfl), hbw⟩

set_option maxRecDepth 100000 in
set_option maxHeartbeats 1000000 in
theorem conCd (s0 : Option Addr) (n cap : Nat) (c0 c1 c2 c3 c4 : Nat → Value) (q : Nat → Bool) (bx : Nat) (w : World) (hn : n ≤ 9223372036854775807) (hr : RowCd w s0 n c0 c1 c2 c3 c4)
    (hq : ∀ i, i < n → ∀ W, Below w.heap.size w W → Calls Tryz.prog 83 #[.agg #[c0 i, c1 i, c2 i, c3 i, c4 i], .pointer (some ⟨bx, 0, none⟩)] W fun e W' => e = .returned (.bool (q i)) ∧ Below W.heap.size W W') :
    Calls Tryz.prog 82 #[.slice s0 n cap, .func (.func 83) #[] #[.pointer (some ⟨bx, 0, none⟩)]] w fun e w' => e = .returned (.bool (decide (0 ≤ firstAt q n 0))) ∧ Below w.heap.size w w' := by
  have H := Lib.hid (idxCd s0 n cap c0 c1 c2 c3 c4 q bx w hn hr hq)
  clear hr hq
  have hl := firstAt_lt q n 0
  generalize firstAt q n 0 = z at *
  go_enter Tryz.func82, Tryz.ntmps82
  go_wp2_with fail
  refine (H.out).mono ?_
  rintro e w1 ⟨rfl, hb1⟩
  go_wp2_with fail
  go_ret
  exact ⟨rfl, hb1⟩

set_option maxHeartbeats 1000000 in
theorem notCd (x0 x1 x2 x3 x4 : Value) (r : Bool) (bx : Nat) (W : World) (hbx : W.cell? ⟨bx, 0, none⟩ = some (.func (.func 51) #[] #[]))
    (hp : ∀ W1, Below W.heap.size W W1 → Calls Tryz.prog 51 #[.agg #[x0, x1, x2, x3, x4]] W1 fun e W' => e = .returned (.bool r) ∧ Below W1.heap.size W1 W') :
    Calls Tryz.prog 83 #[.agg #[x0, x1, x2, x3, x4], .pointer (some ⟨bx, 0, none⟩)] W fun e W' => e = .returned (.bool (!r)) ∧ Below W.heap.size W W' := by
  have HP := Lib.hid hp
  have hlt := lt_of_cell hbx
  clear hp
  go_enter Tryz.func83, Tryz.ntmps83
  go_wp2_with fail
  refine (HP.out _ (up_alloc (Below.refl _ _) _)).mono ?_
  rintro e w1 ⟨rfl, hb1⟩
  go_wp2_with fail
  go_ret
  exact ⟨rfl, up_trans (up_alloc (Below.refl _ _) _) hb1⟩

set_option maxRecDepth 100000 in
set_option maxHeartbeats 1000000 in
theorem everyCd (s0 : Option Addr) (n cap : Nat) (c0 c1 c2 c3 c4 : Nat → Value) (p : Nat → Bool) (w : World) (hn : n ≤ 9223372036854775807) (hr : RowCd w s0 n c0 c1 c2 c3 c4)
    (hp : ∀ i, i < n → ∀ W, Below w.heap.size w W → Calls Tryz.prog 51 #[.agg #[c0 i, c1 i, c2 i, c3 i, c4 i]] W fun e W' => e = .returned (.bool (p i)) ∧ Below W.heap.size W W') :
    Calls Tryz.prog 50 #[.slice s0 n cap, .func (.func 51) #[] #[]] w fun e w' => e = .returned (.bool (allB p n)) ∧ Below w.heap.size w w' := by
  have HR := Lib.hid hr
  have HP := Lib.hid hp
  clear hr hp
  go_enter Tryz.func50, Tryz.ntmps50
  go_wp2_with fail
  have hb0 : Below w.heap.size w (w.alloc (Obj.cells #[.func (.func 51) #[] #[]] 68)) := up_alloc (Below.refl _ _) _
  refine (conCd s0 n cap c0 c1 c2 c3 c4 (fun i => !p i) w.heap.size _ hn (HR.out.later hb0) ?_).mono ?_
  · intro i hi W hW
    exact notCd (c0 i) (c1 i) (c2 i) (c3 i) (c4 i) (p i) w.heap.size W ((hW.cell (p := ⟨w.heap.size, 0, none⟩) (by simp)).trans (by simp)) (fun W1 hW1 => HP.out i hi W1 (up_trans (up_trans hb0 hW) hW1))
  rintro e w1 ⟨rfl, hb1⟩
  have he := firstAt_all p n
  generalize decide (0 ≤ firstAt (fun i => !p i) n 0) = z at he
  have HE := Lib.hid he
  clear he
  go_wp2_with fail
  go_ret
  exact ⟨ret_bool HE.out, up_trans hb0 hb1⟩
end Go.Proofs.YtmdceokmpjcllaaGreatDoor
