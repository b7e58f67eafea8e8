/-
  Contracts of the reference's Best and Agreed.
-/
import Derived.Test.YtagmhlgkbehecaaQuorumRef
namespace Go.Proofs.Ytagmhlgkbehecaa
open Go.RowKit
attribute [local go_sem ↓] Go.wp_at_zero Go.wp_at_succ

set_option maxRecDepth 100000 in
set_option maxHeartbeats 4000000 in
theorem bestR_row (b off len cap : Nat) (f : Nat → Clm) (w : World) (hlen : len ≤ 1000000) (hbb : b < w.heap.size) (hc : IsClms w b off len f) :
    Calls Try.prog 17 #[.slice (some ⟨b, off, none⟩) len cap] w fun e w' => e = .returned (.int .i64 (bestAt f len)) ∧ Below w.heap.size w w' := by
  go_enter Try.func17, Try.ntmps17
  go_wp2_with fail
  go_loopw [3, 4] (fun s3 s4 wr => ∃ k : Nat, k ≤ len ∧ s4 = .int .i64 k ∧ s3 = .int .i64 (bestAt f k) ∧ Below w.heap.size w wr) (fun _ i _ => len - (intOf i).toNat)
  case atStart => exact ⟨0, Nat.zero_le _, rfl, rfl, Below.refl _ _⟩
  case round =>
    obtain ⟨k, hk, rfl, rfl, hbw⟩ := hrel
    have hlt2 := bestAt_lt f k
    by_cases hlt : k < len
    · obtain ⟨h0, h1, h2, hok⟩ := hc k hlt
      have g0 := (hbw.cell (p := ⟨b, off + k * 3, none⟩) hbb).trans h0
      have g1 := (hbw.cell (p := ⟨b, off + k * 3 + 1, none⟩) hbb).trans h1
      have g2 := (hbw.cell (p := ⟨b, off + k * 3 + 2, none⟩) hbb).trans h2
      have k0 : (0 : Int) ≤ (k : Int) := by omega
      have k1 : (k : Int) < (len : Int) := by omega
      clear h0 h1 h2
      by_cases hi : (f k).is = true
      · have hs : bestAt f (k + 1) = if bestAt f k < 0 ∨ betterB (f k).nrm (f k).fin (f (bestAt f k).toNat).nrm (f (bestAt f k).toNat).fin = true then (k : Int) else bestAt f k := by
          rw [bestAt]; simp only [hi, true_and]
        have HS := Lib.hid hs
        clear hs
        rw [hi] at g0
        have HI := Lib.hid hi
        clear hi
        by_cases ha : bestAt f k < 0
        · go_wp2_with fail
          go_big_quiet (fail)
          go_wp2_with fail
          go_roundw
          case rel => exact ⟨k + 1, by omega, by go_num, by rw [HS.out, if_pos (.inl ha)], up_drewN hbw _⟩
          case measure => simp [intOf]; omega
        · obtain ⟨j, hj⟩ : ∃ j : Nat, bestAt f k = j := Int.eq_ofNat_of_zero_le (show 0 ≤ bestAt f k by omega)
          have hjk : j < k := by omega
          have hjl : j < len := by omega
          obtain ⟨q0, q1, q2, _⟩ := hc j hjl
          have g3 := (hbw.cell (p := ⟨b, off + j * 3, none⟩) hbb).trans q0
          have g4 := (hbw.cell (p := ⟨b, off + j * 3 + 1, none⟩) hbb).trans q1
          have g5 := (hbw.cell (p := ⟨b, off + j * 3 + 2, none⟩) hbb).trans q2
          have HS2 : Hid (bestAt f (k + 1) = if betterB (f k).nrm (f k).fin (f j).nrm (f j).fin = true then (k : Int) else j) := by
            have h := HS.out
            rw [hj] at h
            rw [Hid, h]
            simp only [Int.toNat_natCast]
            have : ¬ (j : Int) < 0 := by omega
            simp [this]
          clear HS q0 q1 q2
          rw [hj] at *
          clear hj ha
          have i1 : (j : Int) < (len : Int) := by omega
          have d0 : decide ((j : Int) < 0) = false := by simp
          generalize (f k).nrm = n1 at g1 HS2 hok
          generalize (f k).fin = e1 at g2 HS2 hok
          generalize (f j).nrm = n2 at g4 HS2
          generalize (f j).fin = e2 at g5 HS2
          by_cases c1 : n2 < n1
          · have HB := Lib.hid (show betterB n1 e1 n2 e2 = true by unfold betterB; simp; omega)
            have d1 : decide (n2 < n1) = true := by simpa using c1
            go_wp2_with fail
            go_big_quiet (fail)
            go_wp2_with fail
            go_roundw
            case rel => exact ⟨k + 1, by omega, by go_num, by rw [HS2.out, if_pos HB.out], up_drewN hbw _⟩
            case measure => simp [intOf]; omega
          · have d1 : decide (n2 < n1) = false := by simp; omega
            by_cases c2 : n1 = n2
            · have d2 : (n1 == n2) = true := by simpa using c2
              have C2 := Lib.hid c2
              clear c2
              by_cases c3 : e2 < e1
              · have HB := Lib.hid (show betterB n1 e1 n2 e2 = true by unfold betterB; have := C2.out; simp; omega)
                have d3 : decide (e2 < e1) = true := by simpa using c3
                go_wp2_with fail
                go_big_quiet (fail)
                go_wp2_with fail
                go_roundw
                case rel => exact ⟨k + 1, by omega, by go_num, by rw [HS2.out, if_pos HB.out], up_drewN hbw _⟩
                case measure => simp [intOf]; omega
              · have HB := Lib.hid (show betterB n1 e1 n2 e2 = false by unfold betterB; have := C2.out; simp; omega)
                have d3 : decide (e2 < e1) = false := by simp; omega
                go_wp2_with fail
                go_big_quiet (fail)
                go_wp2_with fail
                go_roundw
                case rel => exact ⟨k + 1, by omega, by go_num, by rw [HS2.out, if_neg (by rw [HB.out]; simp)], up_drewN hbw _⟩
                case measure => simp [intOf]; omega
            · have d2 : (n1 == n2) = false := by simpa using c2
              have HB := Lib.hid (show betterB n1 e1 n2 e2 = false by unfold betterB; simp; omega)
              have C2 := Lib.hid c2
              clear c2
              go_wp2_with fail
              go_big_quiet (fail)
              go_wp2_with fail
              go_roundw
              case rel => exact ⟨k + 1, by omega, by go_num, by rw [HS2.out, if_neg (by rw [HB.out]; simp)], up_drewN hbw _⟩
              case measure => simp [intOf]; omega
      · have hs : bestAt f (k + 1) = bestAt f k := by rw [bestAt]; simp [hi]
        have HS := Lib.hid hs
        clear hs
        rw [show (f k).is = false by simpa using hi] at g0
        have HI := Lib.hid hi
        clear hi
        go_wp2_with fail
        go_roundw
        case rel => exact ⟨k + 1, by omega, by go_num, by rw [HS.out], hbw⟩
        case measure => simp [intOf]; omega
    · obtain rfl : k = len := by omega
      go_wp2_with fail
      go_ret
      exact ⟨rfl, hbw⟩

/-- what the reference's search for what is agreed has found after i numbers of m -/
def IsFound (k m : Nat) (zs : Nat → Int) (i : Nat) (best : Int) : Prop :=
  0 ≤ best ∧ (best = 0 ∨ ∃ j, j < i ∧ best = zs j ∧ k < cnt (fun x => decide (zs j ≤ x)) zs m) ∧ ∀ j, j < i → k < cnt (fun x => decide (zs j ≤ x)) zs m → zs j ≤ best

theorem found_start (k m : Nat) (zs : Nat → Int) : IsFound k m zs 0 0 := ⟨by omega, .inl rfl, fun j hj => by omega⟩
theorem found_take {k m : Nat} {zs : Nat → Int} {i : Nat} {best : Int} (h : IsFound k m zs i best) (h1 : k < cnt (fun x => decide (zs i ≤ x)) zs m) (h2 : best < zs i) : IsFound k m zs (i + 1) (zs i) := by
  obtain ⟨a, b, c⟩ := h
  refine ⟨by omega, .inr ⟨i, by omega, rfl, h1⟩, fun j hj hk => ?_⟩
  by_cases e : j = i
  · subst e; omega
  · have := c j (by omega) hk; omega
theorem found_pass {k m : Nat} {zs : Nat → Int} {i : Nat} {best : Int} (h : IsFound k m zs i best) (h1 : ¬ (k < cnt (fun x => decide (zs i ≤ x)) zs m ∧ best < zs i)) : IsFound k m zs (i + 1) best := by
  obtain ⟨a, b, c⟩ := h
  refine ⟨a, ?_, fun j hj hk => ?_⟩
  · rcases b with b | ⟨j, h1, h2, h3⟩
    · exact .inl b
    · exact .inr ⟨j, by omega, h2, h3⟩
  · by_cases e : j = i
    · subst e
      by_cases h2 : best < zs j
      · exact absurd ⟨hk, h2⟩ h1
      · omega
    · exact c j (by omega) hk

set_option maxRecDepth 100000 in
set_option maxHeartbeats 4000000 in
theorem agreedR_any (f : Int) (s0 : Option Addr) (len cap : Nat) (zs : Nat → Int) (w : World) (hf : -9223372036854775808 ≤ f ∧ f ≤ 9223372036854775807) (hlc : len ≤ 10000)
   (hc : 0 < len → ∃ b off, s0 = some ⟨b, off, none⟩ ∧ b < w.heap.size ∧ ∀ i, i < len → w.cell? ⟨b, off + i, none⟩ = some (.int .i64 (zs i))) (hz : ∀ i, i < len → -9223372036854775808 ≤ zs i ∧ zs i ≤ 9223372036854775807) :
    Calls Try.prog 15 #[.int .i64 f, .slice s0 len cap] w fun e w' => (∃ v, e = .returned (.int .i64 v) ∧ IsFound (fewF f).toNat (min (2 * (fewF f).toNat + 1) len) zs (min (2 * (fewF f).toNat + 1) len) v) ∧ Below w.heap.size w w' := by
  have h1 : 0 ≤ fewF f ∧ fewF f ≤ 3 := by unfold fewF; omega
  obtain ⟨k, hk⟩ := Int.eq_ofNat_of_zero_le h1.1
  have hk3 : k ≤ 3 := by omega
  rw [hk, Int.toNat_natCast]
  have HK := Lib.hid hk
  have HC := Lib.hid hc
  have HZ := Lib.hid hz
  clear hk h1 hc hz
  obtain ⟨m, hm⟩ : ∃ m, m = min (2 * k + 1) len := ⟨_, rfl⟩
  rw [← hm]
  have hm1 : m ≤ 2 * k + 1 := by omega
  have hm2 : m ≤ len := by omega
  have hm3 : 2 * k + 1 ≤ m ∨ len ≤ m := by omega
  clear hm
  have HM3 := Lib.hid hm3
  clear hm3
  go_enter Try.func15, Try.ntmps15
  go_wp2_with fail
  go_loopw [5, 6] (fun s5 s6 wr => ∃ i : Nat, i ≤ m ∧ s6 = .int .i64 i ∧ ∃ best, s5 = .int .i64 best ∧ IsFound k m zs i best ∧ Below w.heap.size w wr) (fun _ s6 _ => m - (intOf s6).toNat)
  case atStart => exact ⟨0, Nat.zero_le _, rfl, 0, rfl, found_start k m zs, Below.refl _ _⟩
  case round =>
    obtain ⟨i, hi, rfl, best, rfl, hfd, hbw⟩ := hrel
    have HFD := Lib.hid hfd
    clear hfd
    by_cases hlt : i < m
    · obtain ⟨b, off, rfl, hbb, hcell⟩ := HC.out (by omega)
      have HCELL := Lib.hid hcell
      clear hcell
      have i1 : (i : Int) ≤ 2 * (k : Int) := by omega
      have i2 : i < len := by omega
      have i3 : (i : Int) < (len : Int) := by omega
      go_wp2_with fail
      refine (fewR_any _ _ hf).mono ?_
      rintro e w1 ⟨rfl, rfl⟩
      rw [HK.out]
      go_wp2_with fail
      obtain ⟨wo, rfl⟩ : ∃ wo : World, wo = wr := ⟨_, rfl⟩
      go_loopw [7, 8] (fun s7 s8 wr => ∃ j : Nat, j ≤ m ∧ s8 = .int .i64 j ∧ s7 = .int .i64 (cnt (fun x => decide (zs i ≤ x)) zs j : Nat) ∧ Below w.heap.size w wr) (fun _ s8 _ => m - (intOf s8).toNat)
      case atStart => exact ⟨0, Nat.zero_le _, rfl, rfl, hbw⟩
      case round =>
        clear hbw
        obtain ⟨j, hj, rfl, rfl, hbw⟩ := hrel
        have hcl := cnt_le (fun x => decide (zs i ≤ x)) zs j
        by_cases hjl : j < m
        · have j1 : (j : Int) ≤ 2 * (k : Int) := by omega
          have j2 : j < len := by omega
          have j3 : (j : Int) < (len : Int) := by omega
          have j4 : (0 : Int) ≤ (j : Int) := by omega
          have i4 : (0 : Int) ≤ (i : Int) := by omega
          have g1 := (hbw.cell (p := ⟨b, off + j, none⟩) hbb).trans (HCELL.out j j2)
          have g2 := (hbw.cell (p := ⟨b, off + i, none⟩) hbb).trans (HCELL.out i i2)
          have hcs : cnt (fun x => decide (zs i ≤ x)) zs (j + 1) = cnt (fun x => decide (zs i ≤ x)) zs j + (if decide (zs i ≤ zs j) = true then 1 else 0) := rfl
          generalize cnt (fun x => decide (zs i ≤ x)) zs j = cj at *
          by_cases hle : zs i ≤ zs j
          · rw [decide_eq_true hle, if_pos rfl] at hcs
            have HCS := Lib.hid hcs
            clear hcs
            generalize zs i = x at g2 hle HCS ⊢
            generalize zs j = y at g1 hle
            go_wp2_with fail
            refine (fewR_any _ _ hf).mono ?_
            rintro e w1 ⟨rfl, rfl⟩
            rw [HK.out]
            go_wp2_with fail
            go_big_quiet (fail)
            go_wp2_with fail
            go_roundw
            case rel => exact ⟨j + 1, by omega, by go_num, by rw [HCS.out]; go_num, up_drewN hbw _⟩
            case measure => simp [intOf]; omega
          · rw [decide_eq_false hle, if_neg (by simp)] at hcs
            have HCS := Lib.hid hcs
            clear hcs
            generalize zs i = x at g2 hle HCS ⊢
            generalize zs j = y at g1 hle
            go_wp2_with fail
            refine (fewR_any _ _ hf).mono ?_
            rintro e w1 ⟨rfl, rfl⟩
            rw [HK.out]
            go_wp2_with fail
            go_big_quiet (fail)
            go_wp2_with fail
            go_roundw
            case rel => exact ⟨j + 1, by omega, by go_num, by rw [HCS.out]; go_num, up_drewN hbw _⟩
            case measure => simp [intOf]; omega
        · obtain rfl : j = m := by omega
          have i4 : (0 : Int) ≤ (i : Int) := by omega
          have g2 := (hbw.cell (p := ⟨b, off + i, none⟩) hbb).trans (HCELL.out i i2)
          have hzi := HZ.out i i2
          have j5 : (2 * (k : Int) < (j : Int)) ∨ (j : Int) < (len : Int) ∨ len ≤ j := by omega
          have HNX : Hid ((k < cnt (fun x => decide (zs i ≤ x)) zs j → best < zs i → IsFound k j zs (i + 1) (zs i)) ∧ (¬ (k < cnt (fun x => decide (zs i ≤ x)) zs j ∧ best < zs i) → IsFound k j zs (i + 1) best)) :=
            ⟨fun a b => found_take HFD.out a b, fun a => found_pass HFD.out a⟩
          clear HFD j5
          generalize cnt (fun x => decide (zs i ≤ x)) zs j = cj at *
          generalize zs i = x at *
          have hM3 := HM3.out
          have hnext : (2 * (k : Int) < (j : Int)) ∨ ((j : Int) ≤ 2 * (k : Int) ∧ len ≤ j) := by omega
          rcases hnext with hn | ⟨hn, hn2⟩
          · by_cases c1 : k < cj
            · by_cases c2 : best < x
              · have q1 : (k : Int) + 1 ≤ (cj : Int) := by omega
                clear hM3
                go_wp2_with (go_at_call 22; refine (fewR_any _ _ hf).mono ?_; rintro e w1 ⟨rfl, rfl⟩; rw [HK.out])
                go_roundw
                case rel => exact ⟨i + 1, by omega, by go_num, x, rfl, HNX.out.1 c1 c2, hbw⟩
                case measure => simp [intOf]; omega
              · have q1 : (k : Int) + 1 ≤ (cj : Int) := by omega
                clear hM3
                go_wp2_with (go_at_call 22; refine (fewR_any _ _ hf).mono ?_; rintro e w1 ⟨rfl, rfl⟩; rw [HK.out])
                go_roundw
                case rel => exact ⟨i + 1, by omega, by go_num, best, rfl, HNX.out.2 (fun h => by have := h.2; omega), hbw⟩
                case measure => simp [intOf]; omega
            · have q1 : ¬ (k : Int) + 1 ≤ (cj : Int) := by omega
              clear hM3
              go_wp2_with (go_at_call 22; refine (fewR_any _ _ hf).mono ?_; rintro e w1 ⟨rfl, rfl⟩; rw [HK.out])
              go_roundw
              case rel => exact ⟨i + 1, by omega, by go_num, best, rfl, HNX.out.2 (fun h => by have := h.1; omega), hbw⟩
              case measure => simp [intOf]; omega
          · by_cases c1 : k < cj
            · by_cases c2 : best < x
              · have q1 : (k : Int) + 1 ≤ (cj : Int) := by omega
                clear hM3
                go_wp2_with (go_at_call 22; refine (fewR_any _ _ hf).mono ?_; rintro e w1 ⟨rfl, rfl⟩; rw [HK.out])
                go_roundw
                case rel => exact ⟨i + 1, by omega, by go_num, x, rfl, HNX.out.1 c1 c2, hbw⟩
                case measure => simp [intOf]; omega
              · have q1 : (k : Int) + 1 ≤ (cj : Int) := by omega
                clear hM3
                go_wp2_with (go_at_call 22; refine (fewR_any _ _ hf).mono ?_; rintro e w1 ⟨rfl, rfl⟩; rw [HK.out])
                go_roundw
                case rel => exact ⟨i + 1, by omega, by go_num, best, rfl, HNX.out.2 (fun h => by have := h.2; omega), hbw⟩
                case measure => simp [intOf]; omega
            · have q1 : ¬ (k : Int) + 1 ≤ (cj : Int) := by omega
              clear hM3
              go_wp2_with (go_at_call 22; refine (fewR_any _ _ hf).mono ?_; rintro e w1 ⟨rfl, rfl⟩; rw [HK.out])
              go_roundw
              case rel => exact ⟨i + 1, by omega, by go_num, best, rfl, HNX.out.2 (fun h => by have := h.1; omega), hbw⟩
              case measure => simp [intOf]; omega
    · obtain rfl : i = m := by omega
      have hM3 := HM3.out
      have hnext : (2 * (k : Int) < (i : Int)) ∨ ((i : Int) ≤ 2 * (k : Int) ∧ len ≤ i) := by omega
      clear hM3
      rcases hnext with hn | ⟨hn, hn2⟩
      · go_wp2_with (go_at_call 22; refine (fewR_any _ _ hf).mono ?_; rintro e w1 ⟨rfl, rfl⟩; rw [HK.out])
        go_ret
        exact ⟨⟨best, rfl, HFD.out⟩, hbw⟩
      · go_wp2_with (go_at_call 22; refine (fewR_any _ _ hf).mono ?_; rintro e w1 ⟨rfl, rfl⟩; rw [HK.out])
        go_ret
        exact ⟨⟨best, rfl, HFD.out⟩, hbw⟩

theorem cnt_split (v : Int) (f : Nat → Int) (n : Nat) : cnt (fun x => decide (v ≤ x)) f n = cnt (fun x => decide (v < x)) f n + cnt (fun x => decide (x = v)) f n := by
  induction n with
  | zero => rfl
  | succ n ih =>
    simp only [cnt, ih, decide_eq_true_eq]
    split <;> split <;> split <;> omega
theorem cnt_pos (p : Int → Bool) (f : Nat → Int) (n : Nat) (h : 0 < cnt p f n) : ∃ i, i < n ∧ p (f i) = true := by
  induction n with
  | zero => simp [cnt] at h
  | succ n ih =>
    by_cases h2 : p (f n) = true
    · exact ⟨n, by omega, h2⟩
    · simp only [cnt, if_neg h2] at h
      obtain ⟨i, h3, h4⟩ := ih (by omega)
      exact ⟨i, by omega, h4⟩
theorem cnt_imp (p q : Int → Bool) (f : Nat → Int) (n : Nat) (h : ∀ i, i < n → p (f i) = true → q (f i) = true) : cnt p f n ≤ cnt q f n := by
  induction n with
  | zero => exact Nat.le_refl _
  | succ n ih =>
    have := ih (fun i hi => h i (by omega))
    have h1 := h n (by omega)
    simp only [cnt]
    by_cases e : p (f n) = true
    · rw [if_pos e, if_pos (h1 e)]; omega
    · rw [if_neg e]; omega
theorem cnt_pad (x : Int) (hx : 0 < x) (zs : Nat → Int) (len n : Nat) : cnt (fun y => decide (x ≤ y)) (pad zs len) n = cnt (fun y => decide (x ≤ y)) zs (min n len) := by
  induction n with
  | zero => simp [cnt]
  | succ n ih =>
    simp only [cnt, ih]
    by_cases h : n < len
    · rw [show min (n + 1) len = n + 1 by omega, show min n len = n by omega]
      simp only [cnt]
      rw [show pad zs len n = zs n from if_pos h]
    · rw [show min (n + 1) len = min n len by omega, show pad zs len n = 0 from if_neg h, if_neg (by simp; omega)]
      rfl
/-- what most have reached is one number: the program's and the document's are the same -/
theorem agreed_one {k len : Nat} {zs : Nat → Int} {v best : Int} (h : IsAgreed k (pad zs len) v) (hb : IsFound k (min (2 * k + 1) len) zs (min (2 * k + 1) len) best) : max 0 v = best := by
  obtain ⟨h1, h2⟩ := h
  obtain ⟨b0, b1, b2⟩ := hb
  have up : ∀ x, 0 < x → k < cnt (fun y => decide (x ≤ y)) zs (min (2 * k + 1) len) → x ≤ v := fun x hx hc => by
    rw [← cnt_pad x hx] at hc
    by_cases hle : x ≤ v
    · exact hle
    · have := cnt_imp (fun y => decide (x ≤ y)) (fun y => decide (v < y)) (pad zs len) (2 * k + 1) (fun i _ hp => by simp at hp ⊢; omega)
      omega
  by_cases hv : 0 < v
  · have h3 := cnt_split v (pad zs len) (2 * k + 1)
    obtain ⟨i, hi, he⟩ := cnt_pos (fun x => decide (x = v)) (pad zs len) (2 * k + 1) (by omega)
    simp at he
    have hil : i < len := by
      by_cases hil : i < len
      · exact hil
      · rw [show pad zs len i = 0 from if_neg hil] at he; omega
    rw [show pad zs len i = zs i from if_pos hil] at he
    rw [cnt_pad v hv] at h1
    have := b2 i (by omega) (by rw [he]; exact h1)
    rw [he] at this
    rcases b1 with b1 | ⟨j, _, e, hc⟩
    · omega
    · rw [← e] at hc
      have := up best (by omega) hc
      omega
  · rcases b1 with b1 | ⟨j, _, e, hc⟩
    · omega
    · by_cases hz : best = 0
      · omega
      · rw [← e] at hc
        have := up best (by omega) hc
        omega
end Go.Proofs.Ytagmhlgkbehecaa
