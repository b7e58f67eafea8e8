/-
  QuorumAdds returns true for every input.
-/
import Derived.Test.YtagmhlgkbehecaaQuorumHead
namespace Go.Proofs.Ytagmhlgkbehecaa
open Go.RowKit
attribute [local go_sem ↓] Go.wp_at_zero Go.wp_at_succ

theorem set_same : ∀ M, M < 128 → ∀ j, j < 7 → M.testBit j = true → M ||| 2 ^ j = M := by decide +kernel
theorem set_more : ∀ M, M < 128 → ∀ j, j < 7 → M.testBit j = false → ones (M ||| 2 ^ j) = ones M + 1 := by decide +kernel
theorem set_bit : ∀ M, M < 128 → ∀ j, j < 7 → ∀ i, i < 8 → (M ||| 2 ^ j).testBit i = (M.testBit i || decide (i = j)) := by decide +kernel
theorem bit_div : ∀ M, M < 128 → ∀ i, i < 8 → M / 2 ^ i % 2 = (M.testBit i).toNat := by decide +kernel
theorem bit_high {M i n : Nat} (h : M < 2 ^ n) (hi : n ≤ i) : M / 2 ^ i = 0 := Nat.div_eq_of_lt (Nat.lt_of_lt_of_le h (Nat.pow_le_pow_right (by omega) hi))

theorem bool_cases (b : Bool) : b = true ∨ b = false := by cases b <;> simp
theorem cell_drewN {w : World} {a : Addr} {v : Value} (h : w.cell? a = some v) (n : Nat) : (w.drewN n).cell? a = some v := h
/-- the array of who is in, in block B -/
def InAt (w : World) (B M : Nat) : Prop := ∀ j, j < 8 → w.cell? ⟨B, j, none⟩ = some (.bool (M.testBit j)) ∧ w.frozen? ⟨B, j, none⟩ = false
theorem InAt.put {w : World} {B M j : Nat} (h : InAt w B M) (hM : M < 128) (hj : j < 7) : InAt (w.setCell ⟨B, j, none⟩ (.bool true)) B (M ||| 2 ^ j) := by
  intro i hi
  obtain ⟨c, z⟩ := h i hi
  rw [set_bit M hM j hj i hi]
  constructor
  · by_cases e : i = j
    · subst e
      rw [cell_set_eq _ c]
      simp
    · rw [cell_set_ne _ _ (.inr (fun h => e h.symm)), c]
      simp [e]
  · simpa [go_sem] using z

set_option maxRecDepth 100000 in
set_option maxHeartbeats 4000000 in
theorem adds_row (f : Int) (k : Nat) (s0 : Option Addr) (len cap : Nat) (zs : Nat → Int) (w : World) (hf : 0 ≤ f ∧ f ≤ 255) (hm : f % 4 = (k : Int)) (hk3 : k ≤ 3) (hlen : len ≤ 1000)
    (hc : 0 < len → ∃ b off, s0 = some ⟨b, off, none⟩ ∧ b < w.heap.size ∧ ∀ i, i < len → w.cell? ⟨b, off + i, none⟩ = some (.int .i8 (zs i))) (hz : ∀ i, i < len → -128 ≤ zs i ∧ zs i ≤ 127) :
    Calls Try.prog 8 #[.int .u8 f, .slice s0 len cap] w fun e w' => e = .returned (.bool true) ∧ Below w.heap.size w w' := by
  have HC := Lib.hid hc
  clear hc
  have hl0 : decide (1000 < (len : Int)) = false := by simp; omega
  have hfk : fewF (k : Int) = k := by unfold fewF; omega
  have HF := Lib.hid hfk
  clear hfk
  go_enter Try.func8, Try.ntmps8
  go_wp2_with fail
  refine (head_any _).mono ?_
  rintro e w1 ⟨rfl, hb1⟩
  go_wp2_with fail
  have HM := Lib.hid hm
  clear hm
  go_loopw [7, 9, 10] (fun s7 s9 s10 wr => ∃ i : Nat, i ≤ len ∧ s10 = .int .i64 i ∧ ∃ M : Nat, M < 2 ^ (2 * k + 1) ∧ s7 = .int .u64 M ∧ s9 = .int .i64 (ones M : Nat) ∧ InAt wr w1.heap.size M ∧ w1.heap.size < wr.heap.size ∧ Below w.heap.size w wr) (fun _ _ i _ => len - (intOf i).toNat)
  case atStart =>
    refine ⟨0, Nat.zero_le _, rfl, 0, Nat.two_pow_pos _, rfl, rfl, ?_, ?_, ?_⟩
    · intro j hj
      rw [Nat.zero_testBit]
      match j, hj with
      | 0, _ | 1, _ | 2, _ | 3, _ | 4, _ | 5, _ | 6, _ | 7, _ => simp
    · simp
    · exact up_alloc hb1 _
  case round =>
    obtain ⟨i, hi, rfl, M, hM, rfl, rfl, hin, hsz, hbw⟩ := hrel
    have hp7 : 2 ^ (2 * k + 1) ≤ 128 := Nat.le_trans (Nat.pow_le_pow_right (by omega) (show 2 * k + 1 ≤ 7 by omega)) (by decide)
    have hM7 : M < 128 := by omega
    have hHP := Lib.hid hp7
    clear hp7
    by_cases hlt : i < len
    · obtain ⟨b, off, rfl, hbb, hcell⟩ := HC.out (by omega)
      have hcx : wr.cell? ⟨b, off + i, none⟩ = some (.int .i8 (zs i)) := (hbw.cell (p := ⟨b, off + i, none⟩) hbb).trans (hcell i hlt)
      have hzi := hz i hlt
      generalize zs i = x at hcx hzi
      have hos := ones_le M
      by_cases hx : 0 ≤ x ∧ x ≤ 2 * (k : Int)
      · obtain ⟨j, rfl⟩ := Int.eq_ofNat_of_zero_le hx.1
        have hj : j ≤ 2 * k := by omega
        have hN : M ||| 2 ^ j < 2 ^ (2 * k + 1) := Nat.or_lt_two_pow hM (Nat.pow_lt_pow_right (by omega) (by omega))
        have hadd : addF (k : Int) M (j : Int) = M ||| 2 ^ j := by unfold addF; rw [HF.out, if_pos (by omega)]; simp
        have hmost : mostF (k : Int) (M ||| 2 ^ j) = decide (k < ones (M ||| 2 ^ j)) := by
          unfold mostF mostN
          rw [HF.out, Int.toNat_natCast, Nat.mod_eq_of_lt hN]
        have KA := Lib.hid (fun w => add_any (k : Int) M (j : Int) w (by omega) (by omega) (by omega))
        rw [hadd] at KA
        obtain ⟨c1, z1⟩ := hin j (by omega)
        have HPUT := Lib.hid (hin.put hM7 (show j < 7 by omega))
        have HIN := Lib.hid hin
        have HN := Lib.hid hN
        have KM := Lib.hid (fun w => most_any (k : Int) (M ||| 2 ^ j) w (by omega) (by have := hHP.out; omega))
        rw [hmost] at KM
        clear hadd hmost hin hN
        have HBT := Lib.hid (bool_cases (M.testBit j))
        have HE : Hid (ones (M ||| 2 ^ j) = if M.testBit j = true then ones M else ones M + 1) := by
          rcases HBT.out with hb | hb
          · rw [Hid, hb, if_pos rfl, set_same M hM7 j (by omega) hb]
          · rw [Hid, hb, if_neg (by simp), set_more M hM7 j (by omega) hb]
        generalize M ||| 2 ^ j = N at *
        generalize M.testBit j = tb at *
        have hon := ones_le N
        rcases HBT.out with rfl | rfl
        · rw [Hid, if_pos rfl] at HE
          rw [HE] at KM
          have HE2 := Lib.hid HE
          clear HE
          by_cases hq : k < ones M
          · rw [decide_eq_true hq] at KM
            go_wp2_with fail
            refine (KA.out _).mono ?_
            rintro e w2 ⟨rfl, rfl⟩
            go_wp2_with fail
            refine (KM.out _).mono ?_
            rintro e w2 ⟨rfl, rfl⟩
            go_wp2_with fail
            go_roundw
            case rel => exact ⟨i + 1, by omega, by go_num, N, HN.out, rfl, by rw [HE2.out], HPUT.out, by simpa [World.setCell] using hsz, hbw.setCell (by have := hb1.size; simp; omega) _⟩
            case measure => simp [intOf]; omega
          · rw [decide_eq_false hq] at KM
            go_wp2_with fail
            refine (KA.out _).mono ?_
            rintro e w2 ⟨rfl, rfl⟩
            go_wp2_with fail
            refine (KM.out _).mono ?_
            rintro e w2 ⟨rfl, rfl⟩
            go_wp2_with fail
            go_roundw
            case rel => exact ⟨i + 1, by omega, by go_num, N, HN.out, rfl, by rw [HE2.out], HPUT.out, by simpa [World.setCell] using hsz, hbw.setCell (by have := hb1.size; simp; omega) _⟩
            case measure => simp [intOf]; omega
        · rw [Hid, if_neg (by simp)] at HE
          rw [HE] at KM
          have HE2 := Lib.hid HE
          clear HE
          by_cases hq : k < ones M + 1
          · rw [decide_eq_true hq] at KM
            have hqi : (k : Int) < ((ones M : Nat) : Int) + 1 := by omega
            have hqn : k ≤ ones M := by omega
            go_wp2_with fail
            refine (KA.out _).mono ?_
            rintro e w2 ⟨rfl, rfl⟩
            go_wp2_with fail
            refine (KM.out _).mono ?_
            rintro e w2 ⟨rfl, rfl⟩
            go_wp2_with fail
            go_roundw
            case rel => exact ⟨i + 1, by omega, by go_num, N, HN.out, rfl, by rw [HE2.out]; go_num, HPUT.out, by simpa [World.setCell] using hsz, hbw.setCell (by have := hb1.size; simp; omega) _⟩
            case measure => simp [intOf]; omega
          · rw [decide_eq_false hq] at KM
            go_wp2_with fail
            refine (KA.out _).mono ?_
            rintro e w2 ⟨rfl, rfl⟩
            go_wp2_with fail
            refine (KM.out _).mono ?_
            rintro e w2 ⟨rfl, rfl⟩
            go_wp2_with fail
            go_roundw
            case rel => exact ⟨i + 1, by omega, by go_num, N, HN.out, rfl, by rw [HE2.out]; go_num, HPUT.out, by simpa [World.setCell] using hsz, hbw.setCell (by have := hb1.size; simp; omega) _⟩
            case measure => simp [intOf]; omega
      · have hadd : addF (k : Int) M x = M := by unfold addF; rw [HF.out, if_neg hx]
        have hmost : mostF (k : Int) M = decide (k < ones M) := by
          unfold mostF mostN
          rw [HF.out, Int.toNat_natCast, Nat.mod_eq_of_lt hM]
        have KA := Lib.hid (fun w => add_any (k : Int) M x w (by omega) (by omega) (by omega))
        rw [hadd] at KA
        have KM := Lib.hid (fun w => most_any (k : Int) M w (by omega) (by omega))
        rw [hmost] at KM
        have HIN := Lib.hid hin
        clear hadd hmost hin
        by_cases hx0 : 0 ≤ x
        · have hx1 : 2 * (k : Int) < x := by omega
          by_cases hq : k < ones M
          · rw [decide_eq_true hq] at KM
            go_wp2_with fail
            refine (KA.out _).mono ?_
            rintro e w2 ⟨rfl, rfl⟩
            go_wp2_with fail
            refine (KM.out _).mono ?_
            rintro e w2 ⟨rfl, rfl⟩
            go_wp2_with fail
            go_roundw
            case rel => exact ⟨i + 1, by omega, by go_num, M, hM, rfl, rfl, HIN.out, hsz, hbw⟩
            case measure => simp [intOf]; omega
          · rw [decide_eq_false hq] at KM
            go_wp2_with fail
            refine (KA.out _).mono ?_
            rintro e w2 ⟨rfl, rfl⟩
            go_wp2_with fail
            refine (KM.out _).mono ?_
            rintro e w2 ⟨rfl, rfl⟩
            go_wp2_with fail
            go_roundw
            case rel => exact ⟨i + 1, by omega, by go_num, M, hM, rfl, rfl, HIN.out, hsz, hbw⟩
            case measure => simp [intOf]; omega
        · have hx1 : x < 0 := by omega
          by_cases hq : k < ones M
          · rw [decide_eq_true hq] at KM
            go_wp2_with fail
            refine (KA.out _).mono ?_
            rintro e w2 ⟨rfl, rfl⟩
            go_wp2_with fail
            refine (KM.out _).mono ?_
            rintro e w2 ⟨rfl, rfl⟩
            go_wp2_with fail
            go_roundw
            case rel => exact ⟨i + 1, by omega, by go_num, M, hM, rfl, rfl, HIN.out, hsz, hbw⟩
            case measure => simp [intOf]; omega
          · rw [decide_eq_false hq] at KM
            go_wp2_with fail
            refine (KA.out _).mono ?_
            rintro e w2 ⟨rfl, rfl⟩
            go_wp2_with fail
            refine (KM.out _).mono ?_
            rintro e w2 ⟨rfl, rfl⟩
            go_wp2_with fail
            go_roundw
            case rel => exact ⟨i + 1, by omega, by go_num, M, hM, rfl, rfl, HIN.out, hsz, hbw⟩
            case measure => simp [intOf]; omega
    · obtain rfl : i = len := by omega
      go_wp2_with fail
      go_loopw [11] (fun s11 wx => ∃ i : Nat, i ≤ 64 ∧ s11 = .int .i64 i ∧ ∃ n, wx = wr.drewN n) (fun s11 _ => 64 - (intOf s11).toNat)
      case atStart => exact ⟨0, by omega, rfl, 0, rfl⟩
      case round =>
        obtain ⟨j, hj, rfl, n, rfl⟩ := hrel
        by_cases hj64 : j < 64
        · have j0 : (0 : Int) ≤ (j : Int) := by omega
          by_cases hj8 : j < 8
          · obtain ⟨c1, _⟩ := hin j hj8
            have j8 : (j : Int) < 8 := by omega
            have hbd := bit_div M hM7 j hj8
            have hmod : (j : Int) % 8 = j := by omega
            have hdl : M / 2 ^ j < 18446744073709551616 := Nat.lt_of_le_of_lt (Nat.div_le_self _ _) (by omega)
            have hband := and1 (M / 2 ^ j) hdl
            rw [hbd, Int.natCast_ediv, Int.natCast_pow] at hband
            have hlow : M.testBit j = true → j ≤ 2 * k := fun h => by
              by_cases hle : j ≤ 2 * k
              · exact hle
              · rw [bit_high hM (by omega), h] at hbd
                cases hbd
            generalize M.testBit j = tb at c1 hband hlow hbd
            clear hbd hdl
            have c1 := cell_drewN c1 n
            cases tb
            · replace hband : bits BinOp.and IntKind.u64 ((M : Int) / 2 ^ j) 1 = 0 := hband
              clear hlow
              by_cases hjk : (j : Int) ≤ 2 * (k : Int)
              · go_wp2_with fail
                go_big_quiet (fail)
                go_wp2_with fail
                go_roundw
                case rel => exact ⟨j + 1, by omega, by go_num, _, rfl⟩
                case measure => simp [intOf]; omega
              · go_wp2_with fail
                go_big_quiet (fail)
                go_wp2_with fail
                go_roundw
                case rel => exact ⟨j + 1, by omega, by go_num, _, rfl⟩
                case measure => simp [intOf]; omega
            · replace hband : bits BinOp.and IntKind.u64 ((M : Int) / 2 ^ j) 1 = 1 := hband
              have hjk : (j : Int) ≤ 2 * (k : Int) := by have := hlow rfl; omega
              clear hlow
              go_wp2_with fail
              go_big_quiet (fail)
              go_wp2_with fail
              go_roundw
              case rel => exact ⟨j + 1, by omega, by go_num, _, rfl⟩
              case measure => simp [intOf]; omega
          · have j8 : decide ((j : Int) < 8) = false := by simp; omega
            have hdl : M / 2 ^ j < 18446744073709551616 := Nat.lt_of_le_of_lt (Nat.div_le_self _ _) (by omega)
            have hband := and1 (M / 2 ^ j) hdl
            rw [Int.natCast_ediv, Int.natCast_pow, bit_high (n := 2 * k + 1) hM (by omega)] at hband
            replace hband : bits BinOp.and IntKind.u64 ((M : Int) / 2 ^ j) 1 = 0 := hband
            clear hdl
            go_wp2_with fail
            go_big_quiet (fail)
            go_wp2_with fail
            go_roundw
            case rel => exact ⟨j + 1, by omega, by go_num, _, rfl⟩
            case measure => simp [intOf]; omega
        · go_wp2_with fail
          go_ret
          exact ⟨rfl, up_drewN hbw _⟩

set_option maxRecDepth 100000 in
set_option maxHeartbeats 1000000 in
theorem adds_long (f : Int) (a : Option Addr) (len cap : Nat) (w : World) (hf : 0 ≤ f ∧ f ≤ 255) (h : 1000 < len) (hm : len ≤ 9223372036854775807) :
    Calls Try.prog 8 #[.int .u8 f, .slice a len cap] w fun e w' => e = .returned (.bool true) ∧ Below w.heap.size w w' := by
  go_enter Try.func8, Try.ntmps8
  go_wp2_with fail
  refine (head_any _).mono ?_
  rintro e w1 ⟨rfl, hb1⟩
  go_wp2_with fail
  go_ret
  exact ⟨rfl, hb1⟩

theorem adds_any (f : Int) (a : Option Addr) (len cap : Nat) (zs : List Int) (w : World) (hf : 0 ≤ f ∧ f ≤ 255) (h : IsRow .i8 w a len cap zs) :
    Calls Try.prog 8 #[.int .u8 f, .slice a len cap] w fun e w' => e = .returned (.bool true) ∧ Below w.heap.size w w' := by
  have hcap := h.len
  by_cases hlen : len ≤ 1000
  · obtain ⟨k, hk⟩ := Int.eq_ofNat_of_zero_le (show 0 ≤ f % 4 by omega)
    rcases h.parts with rfl | ⟨b, off, rfl, hb, hlc, hcm, hcell, hwf⟩
    · exact adds_row f k a 0 cap (fun _ => 0) w hf hk (by omega) (by omega) (fun h => absurd h (by omega)) (fun i h => absurd h (by omega))
    · exact adds_row f k _ len cap (fun i => zs.getD i 0) w hf hk (by omega) hlen (fun _ => ⟨b, off, rfl, hb, hcell⟩) (fun i hi => by simpa [Lit.wf, IntKind.min, IntKind.max, IntKind.signed, IntKind.bits] using hwf i hi)
  · unfold maxLen at hcap
    exact adds_long f a len cap w hf (by omega) (by omega)
end Go.Proofs.Ytagmhlgkbehecaa
