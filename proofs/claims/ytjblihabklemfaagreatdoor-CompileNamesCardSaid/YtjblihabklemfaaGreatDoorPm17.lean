/-
  Compile: part 17 of its proof: see the last text.
-/
import Derived.Test.YtjblihabklemfaaGreatDoorRows
import Derived.Test.YtjblihabklemfaaGreatDoorPm00
set_option maxRecDepth 100000
set_option maxHeartbeats 16000000
namespace Go.Proofs.YtjblihabklemfaaGreatDoor
section
open Go.RowKit
def aL (q : Nat → Bool) : Nat → Nat → Int
 | 0, _ => -1
 | m + 1, i => if q i then (i : Int) else aL q m (i + 1)
def eR (p : Nat → Bool) (n : Nat) : Bool := decide (∀ i, i < n → p i = true)
theorem mR (q : Nat → Bool) (m i : Nat) : (0 ≤ aL q m i) ↔ ∃ j, j < m ∧ q (i + j) = true := by
 induction m generalizing i with
 | zero => simp [aL]
 | succ m ih =>
  unfold aL
  by_cases h : q i = true
  ·rw [if_pos h]
   exact ⟨fun _ => ⟨0, by omega, h⟩, fun _ => by omega⟩
  ·rw [if_neg h, ih]
   constructor
   ·rintro ⟨j, h1, h2⟩
    exact ⟨j + 1, by omega, by rw [show i + (j + 1) = i + 1 + j by omega]; exact h2⟩
   ·rintro ⟨j, h1, h2⟩
    match j, h1, h2 with
    | 0, _, h2 => exact absurd h2 h
    | j + 1, h1, h2 => exact ⟨j, by omega, by rw [show i + 1 + j = i + (j + 1) by omega]; exact h2⟩
theorem eo (p : Nat → Bool) (n : Nat) : (!decide (0 ≤ aL (fun i => !p i) n 0)) = eR p n := by
 have h := mR (fun i => !p i) n 0
 simp only [Nat.zero_add] at h
 unfold eR
 by_cases hq : ∃ j, j < n ∧ (!p j) = true
 ·rw [decide_eq_true (h.2 hq)]
  obtain ⟨j, h1, h2⟩ := hq
  rw [decide_eq_false (fun hh => by rw [hh j h1] at h2; cases h2)]
  rfl
 ·rw [decide_eq_false (fun hh => hq (h.1 hh))]
  rw [decide_eq_true (fun i hi => by
    cases hp : p i
    · exact absurd ⟨i, hi, by rw [hp]; rfl⟩ hq
    · rfl)]
  rfl
theorem sy (p : Nat → Bool) (n : Nat) : eR p n = true ↔ ∀ i, i < n → p i = true := by unfold eR; exact decide_eq_true_iff
theorem fj (q : Nat → Bool) (m i : Nat) : -1 ≤ aL q m i ∧ (aL q m i < i + m ∨ aL q m i = -1) := by
 induction m generalizing i with
 | zero => simp [aL]
 | succ m ih =>
  unfold aL
  split
  ·omega
  ·have := ih (i + 1); omega
def RowTy (w : World) (s0 : Option Addr) (n : Nat) (c0 : Nat → Value) : Prop :=
 0 < n → ∃ b off, s0 = some ⟨b, off, none⟩ ∧ b < w.heap.size ∧ ∀ i, i < n → w.cell? ⟨b, off + i, none⟩ = some (c0 i)
theorem RowTy.later {w w' : World} {s0 : Option Addr} {n : Nat} {c0 : Nat → Value} (h : RowTy w s0 n c0) (hb : Below w.heap.size w w') : RowTy w' s0 n c0 := by
 intro h0
 obtain ⟨b, off, h1, h2, h3⟩ := h h0
 refine ⟨b, off, h1, Nat.lt_of_lt_of_le h2 hb.size, fun i hi => ?_⟩
 have h4 := h3 i hi
 simp only [aK hb b _ h2]
 exact h4
theorem sa (s0 : Option Addr) (n cap : Nat) (c0 : Nat → Value) (q : Nat → Bool) (bx : Nat) (w : World) (hn : n ≤ 9223372036854775807) (hr : RowTy w s0 n c0)
    (hq : ∀ i, i < n → ∀ W, Below w.heap.size w W → Calls Tryz.prog 67 #[c0 i, .pointer (some ⟨bx, 0, none⟩)] W fun e W' => e = .returned (.bool (q i)) ∧ Below W.heap.size W W') :
    Calls Tryz.prog 93 #[.slice s0 n cap, .func (.func 67) #[] #[.pointer (some ⟨bx, 0, none⟩)]] w fun e w' => e = .returned (.int .i64 (aL q n 0)) ∧ Below w.heap.size w w' := by
 have HR := zh hr
 have HQ := zh hq
 clear hr hq
 go_enter Tryz.func93, Tryz.ntmps93
 go_wp2_with fail
 go_loopw [8] (fun s8 wr => ∃ i : Nat, i ≤ n ∧ s8 = .int .i64 i ∧ aL q n 0 = aL q (n - i) i ∧ Below w.heap.size w wr) (fun s8 _ => n - (intOf s8).toNat)
 case atStart => exact ⟨0, Nat.zero_le _, rfl, rfl, Below.refl _ _⟩
 case round =>
  obtain ⟨i, hi, rfl, hfi, hbw⟩ := hrel
  have HF := zh hfi
  clear hfi
  by_cases hlt : i < n
  ·obtain ⟨b, off, rfl, hbb, hcells⟩ := HR.out (by omega)
   have hcell := hcells i hlt
   have g0 := (hbw.cell (p := ⟨b, off + i, none⟩) hbb).trans hcell
   have hnx : aL q (n - i) i = if q i then (i : Int) else aL q (n - (i + 1)) (i + 1) := by
    rw [show n - i = (n - (i + 1)) + 1 by omega]; rfl
   have HN := zh hnx
   have HQI := zh (HQ.out i hlt _ hbw)
   clear hcell hcells hnx
   generalize c0 i = x0 at *
   cases hqi : q i
   ·rw [hqi] at HQI HN
    have HH := zh hqi
    clear hqi
    go_wp2_with fail
    refine (HQI.out).mono ?_
    rintro e w1 ⟨rfl, hb1⟩
    go_wp2_with fail
    go_roundw
    case rel => exact ⟨i + 1, by omega, by go_num, by rw [HF.out, HN.out]; rfl, ak hbw hb1⟩
    case measure => simp [intOf]; omega
   ·rw [hqi] at HQI HN
    have HH := zh hqi
    clear hqi
    go_wp2_with fail
    refine (HQI.out).mono ?_
    rintro e w1 ⟨rfl, hb1⟩
    go_wp2_with fail
    go_ret
    exact ⟨cr (by rw [HF.out, HN.out]; rfl), ak hbw hb1⟩
  ·obtain rfl : i = n := by omega
   go_wp2_with fail
   go_ret
   exact ⟨cr (by rw [HF.out, Nat.sub_self]; rfl), hbw⟩
theorem r9 (s0 : Option Addr) (n cap : Nat) (c0 : Nat → Value) (q : Nat → Bool) (bx : Nat) (w : World) (hn : n ≤ 9223372036854775807) (hr : RowTy w s0 n c0)
    (hq : ∀ i, i < n → ∀ W, Below w.heap.size w W → Calls Tryz.prog 67 #[c0 i, .pointer (some ⟨bx, 0, none⟩)] W fun e W' => e = .returned (.bool (q i)) ∧ Below W.heap.size W W') :
    Calls Tryz.prog 66 #[.slice s0 n cap, .func (.func 67) #[] #[.pointer (some ⟨bx, 0, none⟩)]] w fun e w' => e = .returned (.bool (decide (0 ≤ aL q n 0))) ∧ Below w.heap.size w w' := by
 have H := zh (sa s0 n cap c0 q bx w hn hr hq)
 clear hr hq
 have hl := fj q n 0
 generalize aL q n 0 = z at *
 go_enter Tryz.func66, Tryz.ntmps66
 go_wp2_with fail
 refine (H.out).mono ?_
 rintro e w1 ⟨rfl, hb1⟩
 go_wp2_with fail
 go_ret
 exact ⟨rfl, hb1⟩
theorem sS (x0 : Value) (r : Bool) (bx : Nat) (W : World) (hbx : W.cell? ⟨bx, 0, none⟩ = some (.func (.func 35) #[] #[]))
    (hp : ∀ W1, Below W.heap.size W W1 → Calls Tryz.prog 35 #[x0] W1 fun e W' => e = .returned (.bool r) ∧ Below W1.heap.size W1 W') :
    Calls Tryz.prog 67 #[x0, .pointer (some ⟨bx, 0, none⟩)] W fun e W' => e = .returned (.bool (!r)) ∧ Below W.heap.size W W' := by
 have HP := zh hp
 have hlt := am hbx
 clear hp
 go_enter Tryz.func67, Tryz.ntmps67
 go_wp2_with fail
 refine (HP.out _ (Below.refl _ _)).mono ?_
 rintro e w1 ⟨rfl, hb1⟩
 go_wp2_with fail
 go_ret
 exact ⟨rfl, hb1⟩
theorem pY (s0 : Option Addr) (n cap : Nat) (c0 : Nat → Value) (p : Nat → Bool) (w : World) (hn : n ≤ 9223372036854775807) (hr : RowTy w s0 n c0)
    (hp : ∀ i, i < n → ∀ W, Below w.heap.size w W → Calls Tryz.prog 35 #[c0 i] W fun e W' => e = .returned (.bool (p i)) ∧ Below W.heap.size W W') :
    Calls Tryz.prog 34 #[.slice s0 n cap, .func (.func 35) #[] #[]] w fun e w' => e = .returned (.bool (eR p n)) ∧ Below w.heap.size w w' := by
 have HR := zh hr
 have HP := zh hp
 clear hr hp
 go_enter Tryz.func34, Tryz.ntmps34
 go_wp2_with fail
 have hb0 : Below w.heap.size w (w.alloc (Obj.cells #[.func (.func 35) #[] #[]] 103)) := ae (Below.refl _ _) _
 refine (r9 s0 n cap c0 (fun i => !p i) w.heap.size _ hn (HR.out.later hb0) ?_).mono ?_
 ·intro i hi W hW
  exact sS (c0 i) (p i) w.heap.size W ((hW.cell (p := ⟨w.heap.size, 0, none⟩) (by simp)).trans (by simp)) (fun W1 hW1 => HP.out i hi W1 (ak (ak hb0 hW) hW1))
 rintro e w1 ⟨rfl, hb1⟩
 have he := eo p n
 generalize decide (0 ≤ aL (fun i => !p i) n 0) = z at he
 have HE := zh he
 clear he
 go_wp2_with fail
 go_ret
 exact ⟨bF HE.out, ak hb0 hb1⟩
def RowBy (w : World) (s0 : Option Addr) (n : Nat) (c0 : Nat → Value) : Prop :=
 0 < n → ∃ b off, s0 = some ⟨b, off, none⟩ ∧ b < w.heap.size ∧ ∀ i, i < n → w.cell? ⟨b, off + i, none⟩ = some (c0 i)
theorem RowBy.later {w w' : World} {s0 : Option Addr} {n : Nat} {c0 : Nat → Value} (h : RowBy w s0 n c0) (hb : Below w.heap.size w w') : RowBy w' s0 n c0 := by
 intro h0
 obtain ⟨b, off, h1, h2, h3⟩ := h h0
 refine ⟨b, off, h1, Nat.lt_of_lt_of_le h2 hb.size, fun i hi => ?_⟩
 have h4 := h3 i hi
 simp only [aK hb b _ h2]
 exact h4
theorem sV (s0 : Option Addr) (n cap : Nat) (c0 : Nat → Value) (q : Nat → Bool) (bx : Nat) (w : World) (hn : n ≤ 9223372036854775807) (hr : RowBy w s0 n c0)
    (hq : ∀ i, i < n → ∀ W, Below w.heap.size w W → Calls Tryz.prog 63 #[c0 i, .pointer (some ⟨bx, 0, none⟩)] W fun e W' => e = .returned (.bool (q i)) ∧ Below W.heap.size W W') :
    Calls Tryz.prog 91 #[.slice s0 n cap, .func (.func 63) #[] #[.pointer (some ⟨bx, 0, none⟩)]] w fun e w' => e = .returned (.int .i64 (aL q n 0)) ∧ Below w.heap.size w w' := by
 have HR := zh hr
 have HQ := zh hq
 clear hr hq
 go_enter Tryz.func91, Tryz.ntmps91
 go_wp2_with fail
 go_loopw [8] (fun s8 wr => ∃ i : Nat, i ≤ n ∧ s8 = .int .i64 i ∧ aL q n 0 = aL q (n - i) i ∧ Below w.heap.size w wr) (fun s8 _ => n - (intOf s8).toNat)
 case atStart => exact ⟨0, Nat.zero_le _, rfl, rfl, Below.refl _ _⟩
 case round =>
  obtain ⟨i, hi, rfl, hfi, hbw⟩ := hrel
  have HF := zh hfi
  clear hfi
  by_cases hlt : i < n
  ·obtain ⟨b, off, rfl, hbb, hcells⟩ := HR.out (by omega)
   have hcell := hcells i hlt
   have g0 := (hbw.cell (p := ⟨b, off + i, none⟩) hbb).trans hcell
   have hnx : aL q (n - i) i = if q i then (i : Int) else aL q (n - (i + 1)) (i + 1) := by
    rw [show n - i = (n - (i + 1)) + 1 by omega]; rfl
   have HN := zh hnx
   have HQI := zh (HQ.out i hlt _ hbw)
   clear hcell hcells hnx
   generalize c0 i = x0 at *
   cases hqi : q i
   ·rw [hqi] at HQI HN
    have HH := zh hqi
    clear hqi
    go_wp2_with fail
    refine (HQI.out).mono ?_
    rintro e w1 ⟨rfl, hb1⟩
    go_wp2_with fail
    go_roundw
    case rel => exact ⟨i + 1, by omega, by go_num, by rw [HF.out, HN.out]; rfl, ak hbw hb1⟩
    case measure => simp [intOf]; omega
   ·rw [hqi] at HQI HN
    have HH := zh hqi
    clear hqi
    go_wp2_with fail
    refine (HQI.out).mono ?_
    rintro e w1 ⟨rfl, hb1⟩
    go_wp2_with fail
    go_ret
    exact ⟨cr (by rw [HF.out, HN.out]; rfl), ak hbw hb1⟩
  ·obtain rfl : i = n := by omega
   go_wp2_with fail
   go_ret
   exact ⟨cr (by rw [HF.out, Nat.sub_self]; rfl), hbw⟩
theorem tf (s0 : Option Addr) (n cap : Nat) (c0 : Nat → Value) (q : Nat → Bool) (bx : Nat) (w : World) (hn : n ≤ 9223372036854775807) (hr : RowBy w s0 n c0)
    (hq : ∀ i, i < n → ∀ W, Below w.heap.size w W → Calls Tryz.prog 63 #[c0 i, .pointer (some ⟨bx, 0, none⟩)] W fun e W' => e = .returned (.bool (q i)) ∧ Below W.heap.size W W') :
    Calls Tryz.prog 62 #[.slice s0 n cap, .func (.func 63) #[] #[.pointer (some ⟨bx, 0, none⟩)]] w fun e w' => e = .returned (.bool (decide (0 ≤ aL q n 0))) ∧ Below w.heap.size w w' := by
 have H := zh (sV s0 n cap c0 q bx w hn hr hq)
 clear hr hq
 have hl := fj q n 0
 generalize aL q n 0 = z at *
 go_enter Tryz.func62, Tryz.ntmps62
 go_wp2_with fail
 refine (H.out).mono ?_
 rintro e w1 ⟨rfl, hb1⟩
 go_wp2_with fail
 go_ret
 exact ⟨rfl, hb1⟩
theorem sd (x0 : Value) (r : Bool) (bx : Nat) (W : World) (hbx : W.cell? ⟨bx, 0, none⟩ = some (.func (.func 31) #[] #[]))
    (hp : ∀ W1, Below W.heap.size W W1 → Calls Tryz.prog 31 #[x0] W1 fun e W' => e = .returned (.bool r) ∧ Below W1.heap.size W1 W') :
    Calls Tryz.prog 63 #[x0, .pointer (some ⟨bx, 0, none⟩)] W fun e W' => e = .returned (.bool (!r)) ∧ Below W.heap.size W W' := by
 have HP := zh hp
 have hlt := am hbx
 clear hp
 go_enter Tryz.func63, Tryz.ntmps63
 go_wp2_with fail
 refine (HP.out _ (Below.refl _ _)).mono ?_
 rintro e w1 ⟨rfl, hb1⟩
 go_wp2_with fail
 go_ret
 exact ⟨rfl, hb1⟩
theorem pV (s0 : Option Addr) (n cap : Nat) (c0 : Nat → Value) (p : Nat → Bool) (w : World) (hn : n ≤ 9223372036854775807) (hr : RowBy w s0 n c0)
    (hp : ∀ i, i < n → ∀ W, Below w.heap.size w W → Calls Tryz.prog 31 #[c0 i] W fun e W' => e = .returned (.bool (p i)) ∧ Below W.heap.size W W') :
    Calls Tryz.prog 30 #[.slice s0 n cap, .func (.func 31) #[] #[]] w fun e w' => e = .returned (.bool (eR p n)) ∧ Below w.heap.size w w' := by
 have HR := zh hr
 have HP := zh hp
 clear hr hp
 go_enter Tryz.func30, Tryz.ntmps30
 go_wp2_with fail
 have hb0 : Below w.heap.size w (w.alloc (Obj.cells #[.func (.func 31) #[] #[]] 39)) := ae (Below.refl _ _) _
 refine (tf s0 n cap c0 (fun i => !p i) w.heap.size _ hn (HR.out.later hb0) ?_).mono ?_
 ·intro i hi W hW
  exact sd (c0 i) (p i) w.heap.size W ((hW.cell (p := ⟨w.heap.size, 0, none⟩) (by simp)).trans (by simp)) (fun W1 hW1 => HP.out i hi W1 (ak (ak hb0 hW) hW1))
 rintro e w1 ⟨rfl, hb1⟩
 have he := eo p n
 generalize decide (0 ≤ aL (fun i => !p i) n 0) = z at he
 have HE := zh he
 clear he
 go_wp2_with fail
 go_ret
 exact ⟨bF HE.out, ak hb0 hb1⟩
def RowIn (w : World) (s0 : Option Addr) (n : Nat) (c0 c1 : Nat → Value) : Prop :=
 0 < n → ∃ b off, s0 = some ⟨b, off, none⟩ ∧ b < w.heap.size ∧ ∀ i, i < n → w.cell? ⟨b, off + i * 2, none⟩ = some (c0 i) ∧ w.cell? ⟨b, off + i * 2 + 1, none⟩ = some (c1 i)
theorem RowIn.later {w w' : World} {s0 : Option Addr} {n : Nat} {c0 c1 : Nat → Value} (h : RowIn w s0 n c0 c1) (hb : Below w.heap.size w w') : RowIn w' s0 n c0 c1 := by
 intro h0
 obtain ⟨b, off, h1, h2, h3⟩ := h h0
 refine ⟨b, off, h1, Nat.lt_of_lt_of_le h2 hb.size, fun i hi => ?_⟩
 have h4 := h3 i hi
 simp only [aK hb b _ h2]
 exact h4
theorem sm (s0 : Option Addr) (n cap : Nat) (c0 c1 : Nat → Value) (q : Nat → Bool) (bx : Nat) (w : World) (hn : n ≤ 9223372036854775807) (hr : RowIn w s0 n c0 c1)
    (hq : ∀ i, i < n → ∀ W, Below w.heap.size w W → Calls Tryz.prog 69 #[.agg #[c0 i, c1 i], .pointer (some ⟨bx, 0, none⟩)] W fun e W' => e = .returned (.bool (q i)) ∧ Below W.heap.size W W') :
    Calls Tryz.prog 94 #[.slice s0 n cap, .func (.func 69) #[] #[.pointer (some ⟨bx, 0, none⟩)]] w fun e w' => e = .returned (.int .i64 (aL q n 0)) ∧ Below w.heap.size w w' := by
 have HR := zh hr
 have HQ := zh hq
 clear hr hq
 go_enter Tryz.func94, Tryz.ntmps94
 go_wp2_with fail
 go_loopw [8] (fun s8 wr => ∃ i : Nat, i ≤ n ∧ s8 = .int .i64 i ∧ aL q n 0 = aL q (n - i) i ∧ Below w.heap.size w wr) (fun s8 _ => n - (intOf s8).toNat)
 case atStart => exact ⟨0, Nat.zero_le _, rfl, rfl, Below.refl _ _⟩
 case round =>
  obtain ⟨i, hi, rfl, hfi, hbw⟩ := hrel
  have HF := zh hfi
  clear hfi
  by_cases hlt : i < n
  ·obtain ⟨b, off, rfl, hbb, hcells⟩ := HR.out (by omega)
   have hcell := hcells i hlt
   have g0 := (hbw.cell (p := ⟨b, off + i * 2, none⟩) hbb).trans hcell.1
   have g1 := (hbw.cell (p := ⟨b, off + i * 2 + 1, none⟩) hbb).trans hcell.2
   have hnx : aL q (n - i) i = if q i then (i : Int) else aL q (n - (i + 1)) (i + 1) := by
    rw [show n - i = (n - (i + 1)) + 1 by omega]; rfl
   have HN := zh hnx
   have HQI := zh (HQ.out i hlt _ hbw)
   clear hcell hcells hnx
   generalize c0 i = x0 at *
   generalize c1 i = x1 at *
   cases hqi : q i
   ·rw [hqi] at HQI HN
    have HH := zh hqi
    clear hqi
    go_wp2_with fail
    refine (HQI.out).mono ?_
    rintro e w1 ⟨rfl, hb1⟩
    go_wp2_with fail
    go_roundw
    case rel => exact ⟨i + 1, by omega, by go_num, by rw [HF.out, HN.out]; rfl, ak hbw hb1⟩
    case measure => simp [intOf]; omega
   ·rw [hqi] at HQI HN
    have HH := zh hqi
    clear hqi
    go_wp2_with fail
    refine (HQI.out).mono ?_
    rintro e w1 ⟨rfl, hb1⟩
    go_wp2_with fail
    go_ret
    exact ⟨cr (by rw [HF.out, HN.out]; rfl), ak hbw hb1⟩
  ·obtain rfl : i = n := by omega
   go_wp2_with fail
   go_ret
   exact ⟨cr (by rw [HF.out, Nat.sub_self]; rfl), hbw⟩
theorem sI (s0 : Option Addr) (n cap : Nat) (c0 c1 : Nat → Value) (q : Nat → Bool) (bx : Nat) (w : World) (hn : n ≤ 9223372036854775807) (hr : RowIn w s0 n c0 c1)
    (hq : ∀ i, i < n → ∀ W, Below w.heap.size w W → Calls Tryz.prog 69 #[.agg #[c0 i, c1 i], .pointer (some ⟨bx, 0, none⟩)] W fun e W' => e = .returned (.bool (q i)) ∧ Below W.heap.size W W') :
    Calls Tryz.prog 68 #[.slice s0 n cap, .func (.func 69) #[] #[.pointer (some ⟨bx, 0, none⟩)]] w fun e w' => e = .returned (.bool (decide (0 ≤ aL q n 0))) ∧ Below w.heap.size w w' := by
 have H := zh (sm s0 n cap c0 c1 q bx w hn hr hq)
 clear hr hq
 have hl := fj q n 0
 generalize aL q n 0 = z at *
 go_enter Tryz.func68, Tryz.ntmps68
 go_wp2_with fail
 refine (H.out).mono ?_
 rintro e w1 ⟨rfl, hb1⟩
 go_wp2_with fail
 go_ret
 exact ⟨rfl, hb1⟩
theorem sx (x0 x1 : Value) (r : Bool) (bx : Nat) (W : World) (hbx : W.cell? ⟨bx, 0, none⟩ = some (.func (.func 37) #[] #[]))
    (hp : ∀ W1, Below W.heap.size W W1 → Calls Tryz.prog 37 #[.agg #[x0, x1]] W1 fun e W' => e = .returned (.bool r) ∧ Below W1.heap.size W1 W') :
    Calls Tryz.prog 69 #[.agg #[x0, x1], .pointer (some ⟨bx, 0, none⟩)] W fun e W' => e = .returned (.bool (!r)) ∧ Below W.heap.size W W' := by
 have HP := zh hp
 have hlt := am hbx
 clear hp
 go_enter Tryz.func69, Tryz.ntmps69
 go_wp2_with fail
 refine (HP.out _ (ae (Below.refl _ _) _)).mono ?_
 rintro e w1 ⟨rfl, hb1⟩
 go_wp2_with fail
 go_ret
 exact ⟨rfl, ak (ae (Below.refl _ _) _) hb1⟩
theorem qE (s0 : Option Addr) (n cap : Nat) (c0 c1 : Nat → Value) (p : Nat → Bool) (w : World) (hn : n ≤ 9223372036854775807) (hr : RowIn w s0 n c0 c1)
    (hp : ∀ i, i < n → ∀ W, Below w.heap.size w W → Calls Tryz.prog 37 #[.agg #[c0 i, c1 i]] W fun e W' => e = .returned (.bool (p i)) ∧ Below W.heap.size W W') :
    Calls Tryz.prog 36 #[.slice s0 n cap, .func (.func 37) #[] #[]] w fun e w' => e = .returned (.bool (eR p n)) ∧ Below w.heap.size w w' := by
 have HR := zh hr
 have HP := zh hp
 clear hr hp
 go_enter Tryz.func36, Tryz.ntmps36
 go_wp2_with fail
 have hb0 : Below w.heap.size w (w.alloc (Obj.cells #[.func (.func 37) #[] #[]] 105)) := ae (Below.refl _ _) _
 refine (sI s0 n cap c0 c1 (fun i => !p i) w.heap.size _ hn (HR.out.later hb0) ?_).mono ?_
 ·intro i hi W hW
  exact sx (c0 i) (c1 i) (p i) w.heap.size W ((hW.cell (p := ⟨w.heap.size, 0, none⟩) (by simp)).trans (by simp)) (fun W1 hW1 => HP.out i hi W1 (ak (ak hb0 hW) hW1))
 rintro e w1 ⟨rfl, hb1⟩
 have he := eo p n
 generalize decide (0 ≤ aL (fun i => !p i) n 0) = z at he
 have HE := zh he
 clear he
 go_wp2_with fail
 go_ret
 exact ⟨bF HE.out, ak hb0 hb1⟩
def RowCd (w : World) (s0 : Option Addr) (n : Nat) (c0 c1 c2 c3 c4 : Nat → Value) : Prop :=
 0 < n → ∃ b off, s0 = some ⟨b, off, none⟩ ∧ b < w.heap.size ∧ ∀ i, i < n → w.cell? ⟨b, off + i * 5, none⟩ = some (c0 i) ∧ w.cell? ⟨b, off + i * 5 + 1, none⟩ = some (c1 i) ∧ w.cell? ⟨b, off + i * 5 + 2, none⟩ = some (c2 i) ∧ w.cell? ⟨b, off + i * 5 + 3, none⟩ = some (c3 i) ∧ w.cell? ⟨b, off + i * 5 + 4, none⟩ = some (c4 i)
theorem RowCd.later {w w' : World} {s0 : Option Addr} {n : Nat} {c0 c1 c2 c3 c4 : Nat → Value} (h : RowCd w s0 n c0 c1 c2 c3 c4) (hb : Below w.heap.size w w') : RowCd w' s0 n c0 c1 c2 c3 c4 := by
 intro h0
 obtain ⟨b, off, h1, h2, h3⟩ := h h0
 refine ⟨b, off, h1, Nat.lt_of_lt_of_le h2 hb.size, fun i hi => ?_⟩
 have h4 := h3 i hi
 simp only [aK hb b _ h2]
 exact h4
theorem sU (s0 : Option Addr) (n cap : Nat) (c0 c1 c2 c3 c4 : Nat → Value) (q : Nat → Bool) (bx : Nat) (w : World) (hn : n ≤ 9223372036854775807) (hr : RowCd w s0 n c0 c1 c2 c3 c4)
    (hq : ∀ i, i < n → ∀ W, Below w.heap.size w W → Calls Tryz.prog 65 #[.agg #[c0 i, c1 i, c2 i, c3 i, c4 i], .pointer (some ⟨bx, 0, none⟩)] W fun e W' => e = .returned (.bool (q i)) ∧ Below W.heap.size W W') :
    Calls Tryz.prog 92 #[.slice s0 n cap, .func (.func 65) #[] #[.pointer (some ⟨bx, 0, none⟩)]] w fun e w' => e = .returned (.int .i64 (aL q n 0)) ∧ Below w.heap.size w w' := by
 have HR := zh hr
 have HQ := zh hq
 clear hr hq
 go_enter Tryz.func92, Tryz.ntmps92
 go_wp2_with fail
 go_loopw [8] (fun s8 wr => ∃ i : Nat, i ≤ n ∧ s8 = .int .i64 i ∧ aL q n 0 = aL q (n - i) i ∧ Below w.heap.size w wr) (fun s8 _ => n - (intOf s8).toNat)
 case atStart => exact ⟨0, Nat.zero_le _, rfl, rfl, Below.refl _ _⟩
 case round =>
  obtain ⟨i, hi, rfl, hfi, hbw⟩ := hrel
  have HF := zh hfi
  clear hfi
  by_cases hlt : i < n
  ·obtain ⟨b, off, rfl, hbb, hcells⟩ := HR.out (by omega)
   have hcell := hcells i hlt
   have g0 := (hbw.cell (p := ⟨b, off + i * 5, none⟩) hbb).trans hcell.1
   have g1 := (hbw.cell (p := ⟨b, off + i * 5 + 1, none⟩) hbb).trans hcell.2.1
   have g2 := (hbw.cell (p := ⟨b, off + i * 5 + 2, none⟩) hbb).trans hcell.2.2.1
   have g3 := (hbw.cell (p := ⟨b, off + i * 5 + 3, none⟩) hbb).trans hcell.2.2.2.1
   have g4 := (hbw.cell (p := ⟨b, off + i * 5 + 4, none⟩) hbb).trans hcell.2.2.2.2
   have hnx : aL q (n - i) i = if q i then (i : Int) else aL q (n - (i + 1)) (i + 1) := by
    rw [show n - i = (n - (i + 1)) + 1 by omega]; rfl
   have HN := zh hnx
   have HQI := zh (HQ.out i hlt _ hbw)
   clear hcell hcells hnx
   generalize c0 i = x0 at *
   generalize c1 i = x1 at *
   generalize c2 i = x2 at *
   generalize c3 i = x3 at *
   generalize c4 i = x4 at *
   cases hqi : q i
   ·rw [hqi] at HQI HN
    have HH := zh hqi
    clear hqi
    go_wp2_with fail
    refine (HQI.out).mono ?_
    rintro e w1 ⟨rfl, hb1⟩
    go_wp2_with fail
    go_roundw
    case rel => exact ⟨i + 1, by omega, by go_num, by rw [HF.out, HN.out]; rfl, ak hbw hb1⟩
    case measure => simp [intOf]; omega
   ·rw [hqi] at HQI HN
    have HH := zh hqi
    clear hqi
    go_wp2_with fail
    refine (HQI.out).mono ?_
    rintro e w1 ⟨rfl, hb1⟩
    go_wp2_with fail
    go_ret
    exact ⟨cr (by rw [HF.out, HN.out]; rfl), ak hbw hb1⟩
  ·obtain rfl : i = n := by omega
   go_wp2_with fail
   go_ret
   exact ⟨cr (by rw [HF.out, Nat.sub_self]; rfl), hbw⟩
theorem sr (s0 : Option Addr) (n cap : Nat) (c0 c1 c2 c3 c4 : Nat → Value) (q : Nat → Bool) (bx : Nat) (w : World) (hn : n ≤ 9223372036854775807) (hr : RowCd w s0 n c0 c1 c2 c3 c4)
    (hq : ∀ i, i < n → ∀ W, Below w.heap.size w W → Calls Tryz.prog 65 #[.agg #[c0 i, c1 i, c2 i, c3 i, c4 i], .pointer (some ⟨bx, 0, none⟩)] W fun e W' => e = .returned (.bool (q i)) ∧ Below W.heap.size W W') :
    Calls Tryz.prog 64 #[.slice s0 n cap, .func (.func 65) #[] #[.pointer (some ⟨bx, 0, none⟩)]] w fun e w' => e = .returned (.bool (decide (0 ≤ aL q n 0))) ∧ Below w.heap.size w w' := by
 have H := zh (sU s0 n cap c0 c1 c2 c3 c4 q bx w hn hr hq)
 clear hr hq
 have hl := fj q n 0
 generalize aL q n 0 = z at *
 go_enter Tryz.func64, Tryz.ntmps64
 go_wp2_with fail
 refine (H.out).mono ?_
 rintro e w1 ⟨rfl, hb1⟩
 go_wp2_with fail
 go_ret
 exact ⟨rfl, hb1⟩
theorem sY (x0 x1 x2 x3 x4 : Value) (r : Bool) (bx : Nat) (W : World) (hbx : W.cell? ⟨bx, 0, none⟩ = some (.func (.func 33) #[] #[]))
    (hp : ∀ W1, Below W.heap.size W W1 → Calls Tryz.prog 33 #[.agg #[x0, x1, x2, x3, x4]] W1 fun e W' => e = .returned (.bool r) ∧ Below W1.heap.size W1 W') :
    Calls Tryz.prog 65 #[.agg #[x0, x1, x2, x3, x4], .pointer (some ⟨bx, 0, none⟩)] W fun e W' => e = .returned (.bool (!r)) ∧ Below W.heap.size W W' := by
 have HP := zh hp
 have hlt := am hbx
 clear hp
 go_enter Tryz.func65, Tryz.ntmps65
 go_wp2_with fail
 refine (HP.out _ (ae (Below.refl _ _) _)).mono ?_
 rintro e w1 ⟨rfl, hb1⟩
 go_wp2_with fail
 go_ret
 exact ⟨rfl, ak (ae (Below.refl _ _) _) hb1⟩
theorem qp (s0 : Option Addr) (n cap : Nat) (c0 c1 c2 c3 c4 : Nat → Value) (p : Nat → Bool) (w : World) (hn : n ≤ 9223372036854775807) (hr : RowCd w s0 n c0 c1 c2 c3 c4)
    (hp : ∀ i, i < n → ∀ W, Below w.heap.size w W → Calls Tryz.prog 33 #[.agg #[c0 i, c1 i, c2 i, c3 i, c4 i]] W fun e W' => e = .returned (.bool (p i)) ∧ Below W.heap.size W W') :
    Calls Tryz.prog 32 #[.slice s0 n cap, .func (.func 33) #[] #[]] w fun e w' => e = .returned (.bool (eR p n)) ∧ Below w.heap.size w w' := by
 have HR := zh hr
 have HP := zh hp
 clear hr hp
 go_enter Tryz.func32, Tryz.ntmps32
 go_wp2_with fail
 have hb0 : Below w.heap.size w (w.alloc (Obj.cells #[.func (.func 33) #[] #[]] 106)) := ae (Below.refl _ _) _
 refine (sr s0 n cap c0 c1 c2 c3 c4 (fun i => !p i) w.heap.size _ hn (HR.out.later hb0) ?_).mono ?_
 ·intro i hi W hW
  exact sY (c0 i) (c1 i) (c2 i) (c3 i) (c4 i) (p i) w.heap.size W ((hW.cell (p := ⟨w.heap.size, 0, none⟩) (by simp)).trans (by simp)) (fun W1 hW1 => HP.out i hi W1 (ak (ak hb0 hW) hW1))
 rintro e w1 ⟨rfl, hb1⟩
 have he := eo p n
 generalize decide (0 ≤ aL (fun i => !p i) n 0) = z at he
 have HE := zh he
 clear he
 go_wp2_with fail
 go_ret
 exact ⟨bF HE.out, ak hb0 hb1⟩
end
end Go.Proofs.YtjblihabklemfaaGreatDoor
