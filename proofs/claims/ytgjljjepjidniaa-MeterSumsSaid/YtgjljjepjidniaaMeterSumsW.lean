/-
  MeterSums returns true for every input.
-/
import Derived.Test.YtgjljjepjidniaaMeterW
import Derived.Test.YtgjljjepjidniaaMeterHead
namespace Go.Proofs.Ytgjljjepjidniaa
open Go.RowKit

set_option maxRecDepth 100000 in
set_option maxHeartbeats 4000000 in
theorem sums_loop (l : Int) (b off len cap : Nat) (zs : List Int) (w : World) (hl : -9223372036854775808 ≤ l ∧ l ≤ 9223372036854775807)
    (hlen : len ≤ 10000) (hbb : b < w.heap.size) (hcell : ∀ i, i < len → w.cell? ⟨b, off + i, none⟩ = some (.int .u16 (zs.getD i 0))) (hz : ∀ i, i < len → 0 ≤ zs.getD i 0 ∧ zs.getD i 0 ≤ 65535) :
    Calls Try.prog 4 #[.int .i64 l, .slice (some ⟨b, off, none⟩) len cap] w fun e w' => e = .returned (.bool true) ∧ Below w.heap.size w w' := by
  obtain ⟨L, hL⟩ : ∃ L, L = newL l := ⟨_, rfl⟩
  have hL0 : 0 ≤ L ∧ L ≤ 100000 := by rw [hL]; unfold newL; omega
  have HL := Lib.hid hL
  clear hL
  go_enter Try.func4, Try.ntmps4
  go_wp2_with fail
  refine (head_any _).mono ?_
  rintro e w1 ⟨rfl, hb1⟩
  go_wp2_with fail
  refine (new_any _ _ hl).mono ?_
  rintro e w2 ⟨rfl, hb2⟩
  rw [← HL.out]
  have hs1 := hb1.size
  have hs2 := hb2.size
  go_wp2_with fail
  go_loopw [7, 8, 9] (fun sum over i wr => ∃ k : Nat, k ≤ len ∧ i = .int .i64 k ∧ ∃ U : Int, 0 ≤ U ∧ U ≤ L ∧ (over = .bool false ∧ sum = .int .i64 U ∨ over = .bool true ∧ sum = .int .i64 L ∧ U = L) ∧
      wr.cell? ⟨w2.heap.size, 0, none⟩ = some (.int .i64 L) ∧ wr.cell? ⟨w2.heap.size, 1, none⟩ = some (.int .i64 U) ∧ wr.frozen? ⟨w2.heap.size, 0, none⟩ = false ∧ wr.frozen? ⟨w2.heap.size, 1, none⟩ = false ∧ Below w.heap.size w wr ∧ w2.heap.size < wr.heap.size)
    (fun _ _ i _ => len - (intOf i).toNat)
  case atStart => 
    refine ⟨0, Nat.zero_le _, rfl, 0, by omega, by omega, .inl ⟨rfl, rfl⟩, by simp, by simp, by simp, by simp, up_alloc (up_trans hb1 hb2) _, by simp⟩
  case round =>
    obtain ⟨k, hk, rfl, U, hU0, hUL, hso, hc0, hc1, hf0, hf1, hbw, hsz⟩ := hrel
    by_cases hlt : k < len
    · have hx := hz k hlt
      have hcx : wr.cell? ⟨b, off + k, none⟩ = some (.int .u16 (zs.getD k 0)) := (hbw.cell (p := ⟨b, off + k, none⟩) hbb).trans (hcell k hlt)
      have hbr : b < wr.heap.size := Nat.lt_of_lt_of_le hbb hbw.size
      generalize zs.getD k 0 = x at hx hcx
      have hx64 : -9223372036854775808 ≤ x ∧ x ≤ 9223372036854775807 := by omega
      have hwx : IntKind.i64.wrap x = x := IntWalk.i64_in _ (by omega)
      go_wp2_with fail
      go_upto_region 10 with fail
      go_cut [10, 11] (fun s10 s11 wx => ∃ g : Nat, s10 = .pointer (some ⟨g, 0, none⟩) ∧ s11 = .bool (useB L U x) ∧ wx.cell? ⟨g, 0, none⟩ = some (.int .i64 L) ∧ wx.cell? ⟨g, 1, none⟩ = some (.int .i64 (useU L U x)) ∧ Below wr.heap.size wr wx)
      case first =>
        go_region_with (go_at_call 8; refine (use_any _ _ _ _ (by omega) (by omega) hx64).mono ?_; rintro e w3 ⟨rfl, hb3⟩; obtain ⟨hc3, hf3, hs3⟩ := bcell hb3)
        all_goals
          go_wp2_with fail
          go_meet
          refine ⟨_, rfl, rfl, ?_, ?_, ?_⟩
          · go_simp
          · go_simp
          · repeat (first | exact Below.refl _ _ | assumption | refine up_alloc ?_ _ | refine up_set ?_ (by simp) _ | refine up_drew ?_ | refine up_trans ?_ (by assumption))
      case rest =>
        clear hwx
        obtain ⟨g, rfl, rfl, hg0, hg1, hbx⟩ := hcut
        have kc0 : wc.cell? ⟨w2.heap.size, 0, none⟩ = some (.int .i64 L) := (hbx.cell (p := ⟨w2.heap.size, 0, none⟩) hsz).trans hc0
        have kc1 : wc.cell? ⟨w2.heap.size, 1, none⟩ = some (.int .i64 U) := (hbx.cell (p := ⟨w2.heap.size, 1, none⟩) hsz).trans hc1
        have kf0 : wc.frozen? ⟨w2.heap.size, 0, none⟩ = false := (hbx.frozen (p := ⟨w2.heap.size, 0, none⟩) hsz).trans hf0
        have kf1 : wc.frozen? ⟨w2.heap.size, 1, none⟩ = false := (hbx.frozen (p := ⟨w2.heap.size, 1, none⟩) hsz).trans hf1
        have kcx : wc.cell? ⟨b, off + k, none⟩ = some (.int .u16 x) := (hbx.cell (p := ⟨b, off + k, none⟩) hbr).trans hcx
        have kbw : Below w.heap.size w wc := up_trans hbw hbx
        have ksz : w2.heap.size < wc.heap.size := Nat.lt_of_lt_of_le hsz hbx.size
        clear hc0 hc1 hf0 hf1 hcx hbx
        rcases hso with ⟨rfl, rfl⟩ | ⟨rfl, rfl, rfl⟩
        · by_cases hle : U + x ≤ L
          · rw [(use_yes (L := L) (U := U) (n := x) (by omega)).1] at hg1
            rw [(use_yes (L := L) (U := U) (n := x) (by omega)).2]
            go_wp2_with fail
            go_roundw
            case rel =>
              refine ⟨k + 1, by omega, by go_num, U + x, by omega, by omega, .inl ⟨rfl, rfl⟩, ?_, ?_, ?_, ?_, ?_, ?_⟩
              · go_simp
              · go_simp
              · go_simp
              · go_simp
              · exact (kbw.setCell (by simp; omega) _).setCell (by simp; omega) _
              · go_simp
            case measure => simp [intOf]; omega
          · rw [(use_no (L := L) (U := U) (n := x) (by omega)).1] at hg1
            rw [(use_no (L := L) (U := U) (n := x) (by omega)).2]
            go_wp2_with fail
            go_roundw
            case rel =>
              refine ⟨k + 1, by omega, by go_num, L, by omega, by omega, .inr ⟨rfl, rfl, rfl⟩, ?_, ?_, ?_, ?_, ?_, ?_⟩
              · go_simp
              · go_simp
              · go_simp
              · go_simp
              · exact (kbw.setCell (by simp; omega) _).setCell (by simp; omega) _
              · go_simp
            case measure => simp [intOf]; omega
        · by_cases hle : x = 0
          · subst hle
            rw [(use_yes (L := U) (U := U) (n := 0) (by omega)).1] at hg1
            rw [(use_yes (L := U) (U := U) (n := 0) (by omega)).2]
            rw [Int.add_zero] at hg1
            go_wp2_with fail
            go_roundw
            case rel =>
              refine ⟨k + 1, by omega, by go_num, U, by omega, by omega, .inr ⟨rfl, rfl, rfl⟩, ?_, ?_, ?_, ?_, ?_, ?_⟩
              · go_simp
              · go_simp
              · go_simp
              · go_simp
              · exact (kbw.setCell (by simp; omega) _).setCell (by simp; omega) _
              · go_simp
            case measure => simp [intOf]; omega
          · rw [(use_no (L := U) (U := U) (n := x) (by omega)).1] at hg1
            rw [(use_no (L := U) (U := U) (n := x) (by omega)).2]
            have hx1 : 0 < x := by omega
            go_wp2_with fail
            go_roundw
            case rel =>
              refine ⟨k + 1, by omega, by go_num, U, by omega, by omega, .inr ⟨rfl, rfl, rfl⟩, ?_, ?_, ?_, ?_, ?_, ?_⟩
              · go_simp
              · go_simp
              · go_simp
              · go_simp
              · exact (kbw.setCell (by simp; omega) _).setCell (by simp; omega) _
              · go_simp
            case measure => simp [intOf]; omega
    · go_wp2_with fail
      go_ret
      exact ⟨rfl, hbw⟩
set_option maxRecDepth 100000 in
set_option maxHeartbeats 1000000 in
theorem sums_none (l : Int) (a0 : Option Addr) (cap : Nat) (w : World) (hl : -9223372036854775808 ≤ l ∧ l ≤ 9223372036854775807) :
    Calls Try.prog 4 #[.int .i64 l, .slice a0 0 cap] w fun e w' => e = .returned (.bool true) ∧ Below w.heap.size w w' := by
  have hL0 : 0 ≤ newL l ∧ newL l ≤ 100000 := by unfold newL; omega
  go_enter Try.func4, Try.ntmps4
  go_wp2_with fail
  refine (head_any _).mono ?_
  rintro e w1 ⟨rfl, hb1⟩
  go_wp2_with fail
  refine (new_any _ _ hl).mono ?_
  rintro e w2 ⟨rfl, hb2⟩
  go_wp2_with fail
  refine wp_loop_rounds 1 ?_
  rw [rounds_succ]
  go_wp2_with fail
  go_ret
  exact ⟨rfl, up_alloc (up_trans hb1 hb2) _⟩

set_option maxRecDepth 100000 in
set_option maxHeartbeats 1000000 in
theorem sums_long (l : Int) (a0 : Option Addr) (len cap : Nat) (w : World) (hlen : 10000 < len) (hm : len ≤ 9223372036854775807) :
    Calls Try.prog 4 #[.int .i64 l, .slice a0 len cap] w fun e w' => e = .returned (.bool true) ∧ Below w.heap.size w w' := by
  go_enter Try.func4, Try.ntmps4
  go_wp2_with fail
  refine (head_any _).mono ?_
  rintro e w1 ⟨rfl, hb1⟩
  go_wp2_with fail
  go_ret
  exact ⟨rfl, hb1⟩

theorem sums_any (l : Int) (a : Option Addr) (len cap : Nat) (zs : List Int) (w : World) (hl : -9223372036854775808 ≤ l ∧ l ≤ 9223372036854775807) (h : IsRow .u16 w a len cap zs) :
    Calls Try.prog 4 #[.int .i64 l, .slice a len cap] w fun e w' => e = .returned (.bool true) ∧ Below w.heap.size w w' := by
  rcases h.parts with rfl | ⟨b, off, rfl, hb, hlc, hcm, hcell, hwf⟩
  · exact sums_none l a cap w hl
  · by_cases hlen : len ≤ 10000
    · exact sums_loop l b off len cap zs w hl hlen hb hcell (fun i hi => by simpa [Lit.wf, IntKind.min, IntKind.max, IntKind.signed, IntKind.bits] using hwf i hi)
    · unfold maxLen at hcm
      exact sums_long l _ len cap w (by omega) (by omega)
end Go.Proofs.Ytgjljjepjidniaa
