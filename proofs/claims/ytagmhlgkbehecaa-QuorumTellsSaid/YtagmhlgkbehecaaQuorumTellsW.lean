/-
  QuorumTells returns true for every input.
-/
import Derived.Test.YtagmhlgkbehecaaQuorumHead
import Derived.Test.YtagmhlgkbehecaaQuorumClm
import Derived.Test.YtagmhlgkbehecaaQuorumRefB
namespace Go.Proofs.Ytagmhlgkbehecaa
open Go.RowKit

set_option maxRecDepth 100000 in
set_option maxHeartbeats 1000000 in
theorem best_none (a : Option Addr) (cap : Nat) (w : World) :
    Calls Try.prog 16 #[.slice a 0 cap] w fun e w' => e = .returned (.int .i64 (-1)) ∧ Below w.heap.size w w' := by
  go_enter Try.func16, Try.ntmps16
  go_wp2_with fail
  refine wp_loop_rounds 1 ?_
  rw [rounds_succ]
  go_wp2_with fail
  go_ret
  exact ⟨rfl, Below.refl _ _⟩
set_option maxRecDepth 100000 in
set_option maxHeartbeats 1000000 in
theorem bestR_none (a : Option Addr) (cap : Nat) (w : World) :
    Calls Try.prog 17 #[.slice a 0 cap] w fun e w' => e = .returned (.int .i64 (-1)) ∧ Below w.heap.size w w' := by
  go_enter Try.func17, Try.ntmps17
  go_wp2_with fail
  refine wp_loop_rounds 1 ?_
  rw [rounds_succ]
  go_wp2_with fail
  go_ret
  exact ⟨rfl, Below.refl _ _⟩

/-- what is known of the claims that came in -/
def ClmRow (w : World) (a : Option Addr) (len : Nat) : Prop := len = 0 ∨ ∃ b off f, a = some ⟨b, off, none⟩ ∧ b < w.heap.size ∧ IsClms w b off len f
theorem ClmRow.later {w w' : World} {a : Option Addr} {len : Nat} (h : ClmRow w a len) (hb : Below w.heap.size w w') : ClmRow w' a len := by
  rcases h with h | ⟨b, off, f, h1, h2, h3⟩
  · exact .inl h
  · refine .inr ⟨b, off, f, h1, Nat.lt_of_lt_of_le h2 hb.size, fun i hi => ?_⟩
    obtain ⟨q0, q1, q2, q3⟩ := h3 i hi
    exact ⟨(hb.cell (p := ⟨b, _, none⟩) h2).trans q0, (hb.cell (p := ⟨b, _, none⟩) h2).trans q1, (hb.cell (p := ⟨b, _, none⟩) h2).trans q2, q3⟩
/-- both say one number -/
theorem best_both {w : World} {a : Option Addr} {len cap : Nat} (hlen : len ≤ 10000) (h : ClmRow w a len) : ∃ v : Int, ∀ w', Below w.heap.size w w' →
    (Calls Try.prog 16 #[.slice a len cap] w' fun e w'' => e = .returned (.int .i64 v) ∧ Below w'.heap.size w' w'') ∧
    (Calls Try.prog 17 #[.slice a len cap] w' fun e w'' => e = .returned (.int .i64 v) ∧ Below w'.heap.size w' w'') := by
  rcases h with rfl | ⟨b, off, f, rfl, hb, hc⟩
  · exact ⟨-1, fun w' _ => ⟨best_none a cap w', bestR_none a cap w'⟩⟩
  · refine ⟨bestAt f len, fun w' hbw => ?_⟩
    have hc' : IsClms w' b off len f := fun i hi => by
      obtain ⟨q0, q1, q2, q3⟩ := hc i hi
      exact ⟨(hbw.cell (p := ⟨b, _, none⟩) hb).trans q0, (hbw.cell (p := ⟨b, _, none⟩) hb).trans q1, (hbw.cell (p := ⟨b, _, none⟩) hb).trans q2, q3⟩
    have hb' : b < w'.heap.size := Nat.lt_of_lt_of_le hb hbw.size
    exact ⟨best_row b off len cap f w' (by omega) hb' hc', bestR_row b off len cap f w' (by omega) hb' hc'⟩
/-- both say one number -/
theorem agreed_both (f : Int) (s0 : Option Addr) (len cap : Nat) (zs : Nat → Int) (w : World) (hf : -9223372036854775808 ≤ f ∧ f ≤ 9223372036854775807) (hlc : len ≤ 10000)
   (hc : 0 < len → ∃ b off, s0 = some ⟨b, off, none⟩ ∧ b < w.heap.size ∧ ∀ i, i < len → w.cell? ⟨b, off + i, none⟩ = some (.int .i64 (zs i))) (hz : ∀ i, i < len → -9223372036854775808 ≤ zs i ∧ zs i ≤ 9223372036854775807) :
    ∀ w', Below w.heap.size w w' →
    (Calls Try.prog 14 #[.int .i64 f, .slice s0 len cap] w' fun e w'' => (∃ v, e = .returned (.int .i64 (max 0 v)) ∧ IsAgreed (fewF f).toNat (pad zs len) v) ∧ Below w'.heap.size w' w'') ∧
    (Calls Try.prog 15 #[.int .i64 f, .slice s0 len cap] w' fun e w'' => (∃ v, e = .returned (.int .i64 v) ∧ IsFound (fewF f).toNat (min (2 * (fewF f).toNat + 1) len) zs (min (2 * (fewF f).toNat + 1) len) v) ∧ Below w'.heap.size w' w'') := by
  intro w' hbw
  have hc' : 0 < len → ∃ b off, s0 = some ⟨b, off, none⟩ ∧ b < w'.heap.size ∧ ∀ i, i < len → w'.cell? ⟨b, off + i, none⟩ = some (.int .i64 (zs i)) := fun h0 => by
    obtain ⟨b, off, h1, h2, h3⟩ := hc h0
    exact ⟨b, off, h1, Nat.lt_of_lt_of_le h2 hbw.size, fun i hi => (hbw.cell (p := ⟨b, _, none⟩) h2).trans (h3 i hi)⟩
  constructor
  · refine agreed_any f s0 len cap zs w' hf (by omega) (fun h0 => ?_) hz
    obtain ⟨b, off, h1, h2, h3⟩ := hc' h0
    exact ⟨_, h1, fun i hi => by rw [Go.WideShapes.add_plain]; exact h3 i hi⟩
  · exact agreedR_any f s0 len cap zs w' hf hlc hc' hz

set_option maxRecDepth 100000 in
set_option maxHeartbeats 1000000 in
theorem qtells_long (f : Int) (M : Nat) (i : Int) (s0 a : Option Addr) (len cap len2 cap2 : Nat) (v : Int) (w : World) (h : 10000 < len ∨ 10000 < len2) (h1 : len ≤ 9223372036854775807) (h2 : len2 ≤ 9223372036854775807) :
    Calls Try.prog 3 #[.int .i64 f, .int .u64 M, .int .i64 i, .slice s0 len cap, .slice a len2 cap2, .int .i64 v] w fun e w' => e = .returned (.bool true) ∧ Below w.heap.size w w' := by
  by_cases hl : 10000 < len
  · go_enter Try.func3, Try.ntmps3
    go_wp2_with fail
    refine (head_any _).mono ?_
    rintro e w1 ⟨rfl, hb1⟩
    go_wp2_with fail
    go_ret
    exact ⟨rfl, hb1⟩
  · have hl2 : 10000 < len2 := by omega
    clear h
    go_enter Try.func3, Try.ntmps3
    go_wp2_with fail
    refine (head_any _).mono ?_
    rintro e w1 ⟨rfl, hb1⟩
    go_wp2_with fail
    go_ret
    exact ⟨rfl, hb1⟩

set_option maxRecDepth 100000 in
set_option maxHeartbeats 1000000 in
theorem qtells_row (f : Int) (M : Nat) (i : Int) (s0 a : Option Addr) (len cap len2 cap2 : Nat) (v : Int) (zs : Nat → Int) (w : World) (hl : len ≤ 10000) (hl2 : len2 ≤ 10000)
    (hf : -9223372036854775808 ≤ f ∧ f ≤ 9223372036854775807) (hM : M < 18446744073709551616) (hi : -9223372036854775808 ≤ i ∧ i ≤ 9223372036854775807) (hv : -9223372036854775808 ≤ v ∧ v ≤ 9223372036854775807)
    (hc : 0 < len → ∃ b off, s0 = some ⟨b, off, none⟩ ∧ b < w.heap.size ∧ ∀ i, i < len → w.cell? ⟨b, off + i, none⟩ = some (.int .i64 (zs i))) (hz : ∀ i, i < len → -9223372036854775808 ≤ zs i ∧ zs i ≤ 9223372036854775807)
    (hrow : ClmRow w a len2) :
    Calls Try.prog 3 #[.int .i64 f, .int .u64 M, .int .i64 i, .slice s0 len cap, .slice a len2 cap2, .int .i64 v] w fun e w' => e = .returned (.bool true) ∧ Below w.heap.size w w' := by
  have HA := Lib.hid (agreed_both f s0 len cap zs w hf hl hc hz)
  obtain ⟨bv, hbest⟩ := best_both (cap := cap2) hl2 hrow
  have HB := Lib.hid hbest
  have K1 := Lib.hid (fun w => most_any f M w hf hM)
  have K2 := Lib.hid (fun w => mostR_any f M w hf hM)
  have K3 := Lib.hid (fun w => add_any f M i w hf hi hM)
  have K4 := Lib.hid (fun w => addR_any f M i w hf hi hM)
  have K5 := Lib.hid (fun w => primary_any f v w hf hv)
  have K6 := Lib.hid (fun w => primaryR_any f v w hf hv)
  clear hc hz hrow hbest hM hi hv
  generalize mostF f M = m at K1 K2
  generalize addF f M i = ad at K3 K4
  generalize max 0 v % (2 * fewF f + 1) = pr at K5 K6
  go_enter Try.func3, Try.ntmps3
  go_wp2_with fail
  refine (head_any _).mono ?_
  rintro e w1 ⟨rfl, hb1⟩
  go_wp2_with fail
  refine (K1.out _).mono ?_
  rintro e w2 ⟨rfl, rfl⟩
  go_wp2_with fail
  refine (K2.out _).mono ?_
  rintro e w2 ⟨rfl, rfl⟩
  go_wp2_with fail
  refine (K3.out _).mono ?_
  rintro e w2 ⟨rfl, rfl⟩
  go_wp2_with fail
  refine (K4.out _).mono ?_
  rintro e w2 ⟨rfl, rfl⟩
  go_wp2_with fail
  refine ((HA.out _ hb1).1).mono ?_
  rintro e w2 ⟨⟨v1, rfl, hv1⟩, hb2⟩
  have hbw2 := up_trans hb1 hb2
  go_wp2_with fail
  refine ((HA.out _ hbw2).2).mono ?_
  rintro e w3 ⟨⟨v2, rfl, hv2⟩, hb3⟩
  rw [← agreed_one hv1 hv2]
  have hbw3 := up_trans hbw2 hb3
  go_wp2_with fail
  refine ((HB.out _ hbw3).1).mono ?_
  rintro e w4 ⟨rfl, hb4⟩
  have hbw4 := up_trans hbw3 hb4
  go_wp2_with fail
  refine ((HB.out _ hbw4).2).mono ?_
  rintro e w5 ⟨rfl, hb5⟩
  have hbw5 := up_trans hbw4 hb5
  go_wp2_with fail
  refine (K5.out _).mono ?_
  rintro e w6 ⟨rfl, rfl⟩
  go_wp2_with fail
  refine (K6.out _).mono ?_
  rintro e w6 ⟨rfl, rfl⟩
  go_wp2_with fail
  go_ret
  exact ⟨ret_bool (by simp), hbw5⟩

theorem qtells_any {n : Nat} (f : Int) (M : Nat) (i : Int) (s0 a : Option Addr) (len cap len2 cap2 : Nat) (v : Int) (zs : List Int) (w : World)
    (hf : -9223372036854775808 ≤ f ∧ f ≤ 9223372036854775807) (hM : M < 18446744073709551616) (hi : -9223372036854775808 ≤ i ∧ i ≤ 9223372036854775807) (hv : -9223372036854775808 ≤ v ∧ v ≤ 9223372036854775807)
    (hrow : IsRow .i64 w s0 len cap zs) (hclm : TR Try.prog w n 24 [.slice a len2 cap2]) :
    Calls Try.prog 3 #[.int .i64 f, .int .u64 M, .int .i64 i, .slice s0 len cap, .slice a len2 cap2, .int .i64 v] w fun e w' => e = .returned (.bool true) ∧ Below w.heap.size w w' := by
  obtain ⟨c1, c2, c3⟩ := open_clms hclm
  have hm := hrow.len
  by_cases hl : len ≤ 10000 ∧ len2 ≤ 10000
  · refine qtells_row f M i s0 a len cap len2 cap2 v (fun i => zs.getD i 0) w hl.1 hl.2 hf hM hi hv ?_ ?_ c3
    · intro h0
      rcases hrow.parts with h | ⟨b, off, h1, h2, _, _, h3, _⟩
      · omega
      · exact ⟨b, off, h1, h2, h3⟩
    · intro j hj
      rcases hrow.parts with h | ⟨b, off, h1, h2, _, _, h3, h4⟩
      · omega
      · exact wf64 (h4 j hj)
  · unfold maxLen at hm c2
    exact qtells_long f M i s0 a len cap len2 cap2 v w (by omega) (by omega) (by omega)
end Go.Proofs.Ytagmhlgkbehecaa
