/-
  The walk through TypesScope.
-/
import Derived.Test.YtpiamiaigjlafaaTyScopeP
namespace Go.Proofs.Ytpiamiaigjlafaa
open Go.RowKit

set_option maxRecDepth 100000 in
set_option maxHeartbeats 8000000 in
theorem scope_any (name : ByteArray) (within : Bool) (w : World) : Calls Try.prog 6 #[.string name, .bool within] w fun e w' => e = .returned (.bool true) ∧ Below w.heap.size w w' := by
  go_enter Try.func6, Try.ntmps6
  go_wp2_with fail
  refine (head_any _).mono ?_
  rintro e w1 ⟨rfl, hb1⟩
  have HB1 := Lib.hid hb1
  clear hb1
  go_upto_region 5 with fail
  have H0 : Hid (((((((w1.alloc (.cells #[.int .i64 1, .int .i64 1, .string ⟨#[]⟩, .slice none 0 0, .int .i64 0] 44)).alloc (.cells #[.int .i64 1, .int .i64 1, .string ⟨#[]⟩, .slice none 0 0, .int .i64 0] 44)).alloc (.cells #[.int .i64 1, .string name, .slice (some ⟨w1.heap.size + 1, 0, none⟩) 1 1, .slice none 0 0, .slice none 0 0, .int .i64 0] 46)).alloc (.cells #[.int .i64 2, .int .i64 0, .string ⟨#[]⟩, .slice none 0 0, .int .i64 0] 44)).alloc (.cells #[.int .i64 1, .string name, .slice (some ⟨w1.heap.size + 1, 0, none⟩) 1 1, .slice none 0 0, .slice none 0 0, .int .i64 0] 46)).alloc (.cells #[.int .i64 3, .string ⟨#[]⟩, .slice (some ⟨w1.heap.size + 3, 0, none⟩) 1 1, .slice (some ⟨w1.heap.size + 4, 0, none⟩) 1 1, .slice none 0 0, .int .i64 0] 46)).heap[w1.heap.size]? = some (.cells #[.int .i64 1, .int .i64 1, .string ⟨#[]⟩, .slice none 0 0, .int .i64 0] 44 (0, 0))) := Lib.hid (old_heap _ _ _ _ (old_heap _ _ _ _ (old_heap _ _ _ _ (old_heap _ _ _ _ (old_heap _ _ _ _ (new_heap _ _ _ rfl))))))
  have H1 : Hid (((((((w1.alloc (.cells #[.int .i64 1, .int .i64 1, .string ⟨#[]⟩, .slice none 0 0, .int .i64 0] 44)).alloc (.cells #[.int .i64 1, .int .i64 1, .string ⟨#[]⟩, .slice none 0 0, .int .i64 0] 44)).alloc (.cells #[.int .i64 1, .string name, .slice (some ⟨w1.heap.size + 1, 0, none⟩) 1 1, .slice none 0 0, .slice none 0 0, .int .i64 0] 46)).alloc (.cells #[.int .i64 2, .int .i64 0, .string ⟨#[]⟩, .slice none 0 0, .int .i64 0] 44)).alloc (.cells #[.int .i64 1, .string name, .slice (some ⟨w1.heap.size + 1, 0, none⟩) 1 1, .slice none 0 0, .slice none 0 0, .int .i64 0] 46)).alloc (.cells #[.int .i64 3, .string ⟨#[]⟩, .slice (some ⟨w1.heap.size + 3, 0, none⟩) 1 1, .slice (some ⟨w1.heap.size + 4, 0, none⟩) 1 1, .slice none 0 0, .int .i64 0] 46)).heap[w1.heap.size + 1]? = some (.cells #[.int .i64 1, .int .i64 1, .string ⟨#[]⟩, .slice none 0 0, .int .i64 0] 44 (0, 0))) := Lib.hid (old_heap _ _ _ _ (old_heap _ _ _ _ (old_heap _ _ _ _ (old_heap _ _ _ _ (new_heap _ _ _ (by simp only [size_alloc]))))))
  have H2 : Hid (((((((w1.alloc (.cells #[.int .i64 1, .int .i64 1, .string ⟨#[]⟩, .slice none 0 0, .int .i64 0] 44)).alloc (.cells #[.int .i64 1, .int .i64 1, .string ⟨#[]⟩, .slice none 0 0, .int .i64 0] 44)).alloc (.cells #[.int .i64 1, .string name, .slice (some ⟨w1.heap.size + 1, 0, none⟩) 1 1, .slice none 0 0, .slice none 0 0, .int .i64 0] 46)).alloc (.cells #[.int .i64 2, .int .i64 0, .string ⟨#[]⟩, .slice none 0 0, .int .i64 0] 44)).alloc (.cells #[.int .i64 1, .string name, .slice (some ⟨w1.heap.size + 1, 0, none⟩) 1 1, .slice none 0 0, .slice none 0 0, .int .i64 0] 46)).alloc (.cells #[.int .i64 3, .string ⟨#[]⟩, .slice (some ⟨w1.heap.size + 3, 0, none⟩) 1 1, .slice (some ⟨w1.heap.size + 4, 0, none⟩) 1 1, .slice none 0 0, .int .i64 0] 46)).heap[w1.heap.size + 2]? = some (.cells #[.int .i64 1, .string name, .slice (some ⟨w1.heap.size + 1, 0, none⟩) 1 1, .slice none 0 0, .slice none 0 0, .int .i64 0] 46 (0, 0))) := Lib.hid (old_heap _ _ _ _ (old_heap _ _ _ _ (old_heap _ _ _ _ (new_heap _ _ _ (by simp only [size_alloc])))))
  have H3 : Hid (((((((w1.alloc (.cells #[.int .i64 1, .int .i64 1, .string ⟨#[]⟩, .slice none 0 0, .int .i64 0] 44)).alloc (.cells #[.int .i64 1, .int .i64 1, .string ⟨#[]⟩, .slice none 0 0, .int .i64 0] 44)).alloc (.cells #[.int .i64 1, .string name, .slice (some ⟨w1.heap.size + 1, 0, none⟩) 1 1, .slice none 0 0, .slice none 0 0, .int .i64 0] 46)).alloc (.cells #[.int .i64 2, .int .i64 0, .string ⟨#[]⟩, .slice none 0 0, .int .i64 0] 44)).alloc (.cells #[.int .i64 1, .string name, .slice (some ⟨w1.heap.size + 1, 0, none⟩) 1 1, .slice none 0 0, .slice none 0 0, .int .i64 0] 46)).alloc (.cells #[.int .i64 3, .string ⟨#[]⟩, .slice (some ⟨w1.heap.size + 3, 0, none⟩) 1 1, .slice (some ⟨w1.heap.size + 4, 0, none⟩) 1 1, .slice none 0 0, .int .i64 0] 46)).heap[w1.heap.size + 3]? = some (.cells #[.int .i64 2, .int .i64 0, .string ⟨#[]⟩, .slice none 0 0, .int .i64 0] 44 (0, 0))) := Lib.hid (old_heap _ _ _ _ (old_heap _ _ _ _ (new_heap _ _ _ (by simp only [size_alloc]))))
  have H4 : Hid (((((((w1.alloc (.cells #[.int .i64 1, .int .i64 1, .string ⟨#[]⟩, .slice none 0 0, .int .i64 0] 44)).alloc (.cells #[.int .i64 1, .int .i64 1, .string ⟨#[]⟩, .slice none 0 0, .int .i64 0] 44)).alloc (.cells #[.int .i64 1, .string name, .slice (some ⟨w1.heap.size + 1, 0, none⟩) 1 1, .slice none 0 0, .slice none 0 0, .int .i64 0] 46)).alloc (.cells #[.int .i64 2, .int .i64 0, .string ⟨#[]⟩, .slice none 0 0, .int .i64 0] 44)).alloc (.cells #[.int .i64 1, .string name, .slice (some ⟨w1.heap.size + 1, 0, none⟩) 1 1, .slice none 0 0, .slice none 0 0, .int .i64 0] 46)).alloc (.cells #[.int .i64 3, .string ⟨#[]⟩, .slice (some ⟨w1.heap.size + 3, 0, none⟩) 1 1, .slice (some ⟨w1.heap.size + 4, 0, none⟩) 1 1, .slice none 0 0, .int .i64 0] 46)).heap[w1.heap.size + 4]? = some (.cells #[.int .i64 1, .string name, .slice (some ⟨w1.heap.size + 1, 0, none⟩) 1 1, .slice none 0 0, .slice none 0 0, .int .i64 0] 46 (0, 0))) := Lib.hid (old_heap _ _ _ _ (new_heap _ _ _ (by simp only [size_alloc])))
  have H5 : Hid (((((((w1.alloc (.cells #[.int .i64 1, .int .i64 1, .string ⟨#[]⟩, .slice none 0 0, .int .i64 0] 44)).alloc (.cells #[.int .i64 1, .int .i64 1, .string ⟨#[]⟩, .slice none 0 0, .int .i64 0] 44)).alloc (.cells #[.int .i64 1, .string name, .slice (some ⟨w1.heap.size + 1, 0, none⟩) 1 1, .slice none 0 0, .slice none 0 0, .int .i64 0] 46)).alloc (.cells #[.int .i64 2, .int .i64 0, .string ⟨#[]⟩, .slice none 0 0, .int .i64 0] 44)).alloc (.cells #[.int .i64 1, .string name, .slice (some ⟨w1.heap.size + 1, 0, none⟩) 1 1, .slice none 0 0, .slice none 0 0, .int .i64 0] 46)).alloc (.cells #[.int .i64 3, .string ⟨#[]⟩, .slice (some ⟨w1.heap.size + 3, 0, none⟩) 1 1, .slice (some ⟨w1.heap.size + 4, 0, none⟩) 1 1, .slice none 0 0, .int .i64 0] 46)).heap[w1.heap.size + 5]? = some (.cells #[.int .i64 3, .string ⟨#[]⟩, .slice (some ⟨w1.heap.size + 3, 0, none⟩) 1 1, .slice (some ⟨w1.heap.size + 4, 0, none⟩) 1 1, .slice none 0 0, .int .i64 0] 46 (0, 0))) := Lib.hid (new_heap _ _ _ (by simp only [size_alloc]))
  have hb5 : Below w1.heap.size w1 ((((((w1.alloc (.cells #[.int .i64 1, .int .i64 1, .string ⟨#[]⟩, .slice none 0 0, .int .i64 0] 44)).alloc (.cells #[.int .i64 1, .int .i64 1, .string ⟨#[]⟩, .slice none 0 0, .int .i64 0] 44)).alloc (.cells #[.int .i64 1, .string name, .slice (some ⟨w1.heap.size + 1, 0, none⟩) 1 1, .slice none 0 0, .slice none 0 0, .int .i64 0] 46)).alloc (.cells #[.int .i64 2, .int .i64 0, .string ⟨#[]⟩, .slice none 0 0, .int .i64 0] 44)).alloc (.cells #[.int .i64 1, .string name, .slice (some ⟨w1.heap.size + 1, 0, none⟩) 1 1, .slice none 0 0, .slice none 0 0, .int .i64 0] 46)).alloc (.cells #[.int .i64 3, .string ⟨#[]⟩, .slice (some ⟨w1.heap.size + 3, 0, none⟩) 1 1, .slice (some ⟨w1.heap.size + 4, 0, none⟩) 1 1, .slice none 0 0, .int .i64 0] 46)) := up_alloc (up_alloc (up_alloc (up_alloc (up_alloc (up_alloc (Below.refl _ _) _) _) _) _) _) _
  have HB5 := Lib.hid (HB1.out.trans (hb5.mono HB1.out.size))
  clear hb5
  have HNE : Hid (w1.heap.size ≠ w1.heap.size + 5 ∧ w1.heap.size + 2 ≠ w1.heap.size + 5 ∧ w.heap.size ≤ w1.heap.size + 5) := Lib.hid ⟨by omega, by omega, by have := HB1.out.size; omega⟩
  have HN1 : Hid (w1.heap.size + 1 ≠ w1.heap.size + 5 ∧ w1.heap.size + 3 ≠ w1.heap.size + 5 ∧ w1.heap.size + 4 ≠ w1.heap.size + 5 ∧ w1.heap.size + 1 < ((((((w1.alloc (.cells #[.int .i64 1, .int .i64 1, .string ⟨#[]⟩, .slice none 0 0, .int .i64 0] 44)).alloc (.cells #[.int .i64 1, .int .i64 1, .string ⟨#[]⟩, .slice none 0 0, .int .i64 0] 44)).alloc (.cells #[.int .i64 1, .string name, .slice (some ⟨w1.heap.size + 1, 0, none⟩) 1 1, .slice none 0 0, .slice none 0 0, .int .i64 0] 46)).alloc (.cells #[.int .i64 2, .int .i64 0, .string ⟨#[]⟩, .slice none 0 0, .int .i64 0] 44)).alloc (.cells #[.int .i64 1, .string name, .slice (some ⟨w1.heap.size + 1, 0, none⟩) 1 1, .slice none 0 0, .slice none 0 0, .int .i64 0] 46)).alloc (.cells #[.int .i64 3, .string ⟨#[]⟩, .slice (some ⟨w1.heap.size + 3, 0, none⟩) 1 1, .slice (some ⟨w1.heap.size + 4, 0, none⟩) 1 1, .slice none 0 0, .int .i64 0] 46)).heap.size ∧ w1.heap.size + 3 < ((((((w1.alloc (.cells #[.int .i64 1, .int .i64 1, .string ⟨#[]⟩, .slice none 0 0, .int .i64 0] 44)).alloc (.cells #[.int .i64 1, .int .i64 1, .string ⟨#[]⟩, .slice none 0 0, .int .i64 0] 44)).alloc (.cells #[.int .i64 1, .string name, .slice (some ⟨w1.heap.size + 1, 0, none⟩) 1 1, .slice none 0 0, .slice none 0 0, .int .i64 0] 46)).alloc (.cells #[.int .i64 2, .int .i64 0, .string ⟨#[]⟩, .slice none 0 0, .int .i64 0] 44)).alloc (.cells #[.int .i64 1, .string name, .slice (some ⟨w1.heap.size + 1, 0, none⟩) 1 1, .slice none 0 0, .slice none 0 0, .int .i64 0] 46)).alloc (.cells #[.int .i64 3, .string ⟨#[]⟩, .slice (some ⟨w1.heap.size + 3, 0, none⟩) 1 1, .slice (some ⟨w1.heap.size + 4, 0, none⟩) 1 1, .slice none 0 0, .int .i64 0] 46)).heap.size ∧ w1.heap.size + 4 < ((((((w1.alloc (.cells #[.int .i64 1, .int .i64 1, .string ⟨#[]⟩, .slice none 0 0, .int .i64 0] 44)).alloc (.cells #[.int .i64 1, .int .i64 1, .string ⟨#[]⟩, .slice none 0 0, .int .i64 0] 44)).alloc (.cells #[.int .i64 1, .string name, .slice (some ⟨w1.heap.size + 1, 0, none⟩) 1 1, .slice none 0 0, .slice none 0 0, .int .i64 0] 46)).alloc (.cells #[.int .i64 2, .int .i64 0, .string ⟨#[]⟩, .slice none 0 0, .int .i64 0] 44)).alloc (.cells #[.int .i64 1, .string name, .slice (some ⟨w1.heap.size + 1, 0, none⟩) 1 1, .slice none 0 0, .slice none 0 0, .int .i64 0] 46)).alloc (.cells #[.int .i64 3, .string ⟨#[]⟩, .slice (some ⟨w1.heap.size + 3, 0, none⟩) 1 1, .slice (some ⟨w1.heap.size + 4, 0, none⟩) 1 1, .slice none 0 0, .int .i64 0] 46)).heap.size) := Lib.hid ⟨by omega, by omega, by omega, lt_block H1.out, lt_block H3.out, lt_block H4.out⟩
  generalize ((((((w1.alloc (.cells #[.int .i64 1, .int .i64 1, .string ⟨#[]⟩, .slice none 0 0, .int .i64 0] 44)).alloc (.cells #[.int .i64 1, .int .i64 1, .string ⟨#[]⟩, .slice none 0 0, .int .i64 0] 44)).alloc (.cells #[.int .i64 1, .string name, .slice (some ⟨w1.heap.size + 1, 0, none⟩) 1 1, .slice none 0 0, .slice none 0 0, .int .i64 0] 46)).alloc (.cells #[.int .i64 2, .int .i64 0, .string ⟨#[]⟩, .slice none 0 0, .int .i64 0] 44)).alloc (.cells #[.int .i64 1, .string name, .slice (some ⟨w1.heap.size + 1, 0, none⟩) 1 1, .slice none 0 0, .slice none 0 0, .int .i64 0] 46)).alloc (.cells #[.int .i64 3, .string ⟨#[]⟩, .slice (some ⟨w1.heap.size + 3, 0, none⟩) 1 1, .slice (some ⟨w1.heap.size + 4, 0, none⟩) 1 1, .slice none 0 0, .int .i64 0] 46)) = w5 at *
  generalize w1.heap.size + 5 = B5 at *
  generalize w1.heap.size + 4 = B4 at *
  generalize w1.heap.size + 3 = B3 at *
  generalize w1.heap.size + 2 = B2 at *
  generalize w1.heap.size + 1 = B1 at *
  generalize w1.heap.size = B0 at *
  have RE := Lib.hid (exs_lit1 H1.out (RepExs.nil Any _))
  have RL := Lib.hid (st_mk (op := 1) (pos := 0) (text := name) RE.out (RepSts.nil Any _) (RepSts.nil Any _))
  have RC := Lib.hid (exs_lit1 H3.out (RepExs.nil Any _))
  have RD := Lib.hid (sts_lit1 H4.out RL.out)
  have RB := Lib.hid (st_mk (op := 3) (pos := 0) (text := ⟨#[]⟩) RC.out RD.out (RepSts.nil Any _))
  cases within
  · go_upto_region 8 with fail
    have cb00 : w5.cell? ⟨B0, 0, none⟩ = some (.int .i64 1) := cell_of H0.out (j := 0) rfl
    have cb01 : w5.cell? ⟨B0, 1, none⟩ = some (.int .i64 1) := cell_of H0.out (j := 1) rfl
    have cb02 : w5.cell? ⟨B0, 2, none⟩ = some (.string ⟨#[]⟩) := cell_of H0.out (j := 2) rfl
    have cb03 : w5.cell? ⟨B0, 3, none⟩ = some (.slice none 0 0) := cell_of H0.out (j := 3) rfl
    have cb04 : w5.cell? ⟨B0, 4, none⟩ = some (.int .i64 0) := cell_of H0.out (j := 4) rfl
    go_upto_region 9 with fail
    have H8 : Hid (((w5.alloc (.cells #[.int .i64 1, .int .i64 1, .string ⟨#[]⟩, .slice none 0 0, .int .i64 0] 44)).alloc (.cells #[.int .i64 2, .string name, .slice (some ⟨w5.heap.size, 0, none⟩) 1 1, .slice none 0 0, .slice none 0 0, .int .i64 9] 46)).heap[w5.heap.size]? = some (.cells #[.int .i64 1, .int .i64 1, .string ⟨#[]⟩, .slice none 0 0, .int .i64 0] 44 (0, 0))) := Lib.hid (old_heap _ _ _ _ (new_heap _ _ _ rfl))
    have H9 : Hid (((w5.alloc (.cells #[.int .i64 1, .int .i64 1, .string ⟨#[]⟩, .slice none 0 0, .int .i64 0] 44)).alloc (.cells #[.int .i64 2, .string name, .slice (some ⟨w5.heap.size, 0, none⟩) 1 1, .slice none 0 0, .slice none 0 0, .int .i64 9] 46)).heap[w5.heap.size + 1]? = some (.cells #[.int .i64 2, .string name, .slice (some ⟨w5.heap.size, 0, none⟩) 1 1, .slice none 0 0, .slice none 0 0, .int .i64 9] 46 (0, 0))) := Lib.hid (new_heap _ _ _ (by simp only [size_alloc]))
    have hb8 : Below w5.heap.size w5 ((w5.alloc (.cells #[.int .i64 1, .int .i64 1, .string ⟨#[]⟩, .slice none 0 0, .int .i64 0] 44)).alloc (.cells #[.int .i64 2, .string name, .slice (some ⟨w5.heap.size, 0, none⟩) 1 1, .slice none 0 0, .slice none 0 0, .int .i64 9] 46)) := up_alloc (up_alloc (Below.refl _ _) _) _
    replace HB5 := Lib.hid (HB5.out.trans (hb8.mono HB5.out.size))
    replace H2 := Lib.hid ((hb8.block _ (lt_block H2.out)).trans H2.out)
    replace H5 := Lib.hid ((hb8.block _ (lt_block H5.out)).trans H5.out)
    replace RB := Lib.hid (RB.out.keep (Stays.of_below hb8))
    replace RL := Lib.hid (RL.out.keep (Stays.of_below hb8))
    clear hb8 cb00 cb01 cb02 cb03 cb04
    generalize ((w5.alloc (.cells #[.int .i64 1, .int .i64 1, .string ⟨#[]⟩, .slice none 0 0, .int .i64 0] 44)).alloc (.cells #[.int .i64 2, .string name, .slice (some ⟨w5.heap.size, 0, none⟩) 1 1, .slice none 0 0, .slice none 0 0, .int .i64 9] 46)) = w8 at *
    generalize w5.heap.size + 1 = B9 at *
    generalize w5.heap.size = B8 at *
    have RX := Lib.hid (exs_lit1 H8.out (RepExs.nil Any _))
    have RS := Lib.hid (st_mk (op := 2) (pos := 9) (text := name) RX.out (RepSts.nil Any _) (RepSts.nil Any _))
    have cb50 : w8.cell? ⟨B5, 0, none⟩ = some (.int .i64 3) := cell_of H5.out (j := 0) rfl
    have cb51 : w8.cell? ⟨B5, 1, none⟩ = some (.string ⟨#[]⟩) := cell_of H5.out (j := 1) rfl
    have cb52 : w8.cell? ⟨B5, 2, none⟩ = some (.slice (some ⟨B3, 0, none⟩) 1 1) := cell_of H5.out (j := 2) rfl
    have cb53 : w8.cell? ⟨B5, 3, none⟩ = some (.slice (some ⟨B4, 0, none⟩) 1 1) := cell_of H5.out (j := 3) rfl
    have cb54 : w8.cell? ⟨B5, 4, none⟩ = some (.slice none 0 0) := cell_of H5.out (j := 4) rfl
    have cb55 : w8.cell? ⟨B5, 5, none⟩ = some (.int .i64 0) := cell_of H5.out (j := 5) rfl
    have HR : Hid (((w8.alloc (.cells #[.int .i64 3, .string ⟨#[]⟩, .slice (some ⟨B3, 0, none⟩) 1 1, .slice (some ⟨B4, 0, none⟩) 1 1, .slice none 0 0, .int .i64 0, .int .i64 3, .string ⟨#[]⟩, .slice (some ⟨B3, 0, none⟩) 1 1, .slice (some ⟨B4, 0, none⟩) 1 1, .slice none 0 0, .int .i64 0] 46)).alloc (.cells #[.string ⟨#[]⟩, .slice none 0 0, .int .i64 0, .slice (some ⟨w8.heap.size, 0, none⟩) 2 2, .int .i64 0] 34)).heap[w8.heap.size]? = some (.cells #[.int .i64 3, .string ⟨#[]⟩, .slice (some ⟨B3, 0, none⟩) 1 1, .slice (some ⟨B4, 0, none⟩) 1 1, .slice none 0 0, .int .i64 0, .int .i64 3, .string ⟨#[]⟩, .slice (some ⟨B3, 0, none⟩) 1 1, .slice (some ⟨B4, 0, none⟩) 1 1, .slice none 0 0, .int .i64 0] 46 (0, 0))) := Lib.hid (old_heap _ _ _ _ (new_heap _ _ _ rfl))
    have HF : Hid (((w8.alloc (.cells #[.int .i64 3, .string ⟨#[]⟩, .slice (some ⟨B3, 0, none⟩) 1 1, .slice (some ⟨B4, 0, none⟩) 1 1, .slice none 0 0, .int .i64 0, .int .i64 3, .string ⟨#[]⟩, .slice (some ⟨B3, 0, none⟩) 1 1, .slice (some ⟨B4, 0, none⟩) 1 1, .slice none 0 0, .int .i64 0] 46)).alloc (.cells #[.string ⟨#[]⟩, .slice none 0 0, .int .i64 0, .slice (some ⟨w8.heap.size, 0, none⟩) 2 2, .int .i64 0] 34)).heap[w8.heap.size + 1]? = some (.cells #[.string ⟨#[]⟩, .slice none 0 0, .int .i64 0, .slice (some ⟨w8.heap.size, 0, none⟩) 2 2, .int .i64 0] 34 (0, 0))) := Lib.hid (new_heap _ _ _ (by simp only [size_alloc]))
    have hbc : Below w8.heap.size w8 ((w8.alloc (.cells #[.int .i64 3, .string ⟨#[]⟩, .slice (some ⟨B3, 0, none⟩) 1 1, .slice (some ⟨B4, 0, none⟩) 1 1, .slice none 0 0, .int .i64 0, .int .i64 3, .string ⟨#[]⟩, .slice (some ⟨B3, 0, none⟩) 1 1, .slice (some ⟨B4, 0, none⟩) 1 1, .slice none 0 0, .int .i64 0] 46)).alloc (.cells #[.string ⟨#[]⟩, .slice none 0 0, .int .i64 0, .slice (some ⟨w8.heap.size, 0, none⟩) 2 2, .int .i64 0] 34)) := up_alloc (up_alloc (Below.refl _ _) _) _
    have RBD := sts_lit2 HR.out (RB.out.keep (Stays.of_below hbc)) (RB.out.keep (Stays.of_below hbc))
    have HCK := Lib.hid (check_ck [fnX [blkA name, blkA name]] (fun f hf => by rw [List.mem_singleton] at hf; subst hf; exact Nat.zero_le _) _ _ (fns_lit1 HF.out (fn_mk (rs := 0) (pos := 0) (nm := ⟨#[]⟩) (pas_nil Any _) RBD)))
    clear RBD HR HF
    go_wp2_with fail
    refine HCK.out.mono ?_
    rintro e w9 ⟨rfl, hbd⟩
    rw [scope1]
    have hbe := up_trans hbc hbd
    replace HB5 := Lib.hid (HB5.out.trans (hbe.mono HB5.out.size))
    replace H2 := Lib.hid ((hbe.block _ (lt_block H2.out)).trans H2.out)
    replace H5 := Lib.hid ((hbe.block _ (lt_block H5.out)).trans H5.out)
    replace H9 := Lib.hid ((hbe.block _ (lt_block H9.out)).trans H9.out)
    replace RB := Lib.hid (RB.out.keep (Stays.of_below hbe))
    replace RL := Lib.hid (RL.out.keep (Stays.of_below hbe))
    replace RS := Lib.hid (RS.out.keep (Stays.of_below hbe))
    clear hbc hbd hbe HCK cb50 cb51 cb52 cb53 cb54 cb55
    dsimp only
    go_upto_region 10 with fail
    have cb50 : w9.cell? ⟨B5, 0, none⟩ = some (.int .i64 3) := cell_of H5.out (j := 0) rfl
    have cb51 : w9.cell? ⟨B5, 1, none⟩ = some (.string ⟨#[]⟩) := cell_of H5.out (j := 1) rfl
    have cb52 : w9.cell? ⟨B5, 2, none⟩ = some (.slice (some ⟨B3, 0, none⟩) 1 1) := cell_of H5.out (j := 2) rfl
    have cb53 : w9.cell? ⟨B5, 3, none⟩ = some (.slice (some ⟨B4, 0, none⟩) 1 1) := cell_of H5.out (j := 3) rfl
    have cb54 : w9.cell? ⟨B5, 4, none⟩ = some (.slice none 0 0) := cell_of H5.out (j := 4) rfl
    have cb55 : w9.cell? ⟨B5, 5, none⟩ = some (.int .i64 0) := cell_of H5.out (j := 5) rfl
    have cb90 : w9.cell? ⟨B9, 0, none⟩ = some (.int .i64 2) := cell_of H9.out (j := 0) rfl
    have cb91 : w9.cell? ⟨B9, 1, none⟩ = some (.string name) := cell_of H9.out (j := 1) rfl
    have cb92 : w9.cell? ⟨B9, 2, none⟩ = some (.slice (some ⟨B8, 0, none⟩) 1 1) := cell_of H9.out (j := 2) rfl
    have cb93 : w9.cell? ⟨B9, 3, none⟩ = some (.slice none 0 0) := cell_of H9.out (j := 3) rfl
    have cb94 : w9.cell? ⟨B9, 4, none⟩ = some (.slice none 0 0) := cell_of H9.out (j := 4) rfl
    have cb95 : w9.cell? ⟨B9, 5, none⟩ = some (.int .i64 9) := cell_of H9.out (j := 5) rfl
    have HR : Hid (((w9.alloc (.cells #[.int .i64 3, .string ⟨#[]⟩, .slice (some ⟨B3, 0, none⟩) 1 1, .slice (some ⟨B4, 0, none⟩) 1 1, .slice none 0 0, .int .i64 0, .int .i64 2, .string name, .slice (some ⟨B8, 0, none⟩) 1 1, .slice none 0 0, .slice none 0 0, .int .i64 9] 46)).alloc (.cells #[.string ⟨#[]⟩, .slice none 0 0, .int .i64 0, .slice (some ⟨w9.heap.size, 0, none⟩) 2 2, .int .i64 0] 34)).heap[w9.heap.size]? = some (.cells #[.int .i64 3, .string ⟨#[]⟩, .slice (some ⟨B3, 0, none⟩) 1 1, .slice (some ⟨B4, 0, none⟩) 1 1, .slice none 0 0, .int .i64 0, .int .i64 2, .string name, .slice (some ⟨B8, 0, none⟩) 1 1, .slice none 0 0, .slice none 0 0, .int .i64 9] 46 (0, 0))) := Lib.hid (old_heap _ _ _ _ (new_heap _ _ _ rfl))
    have HF : Hid (((w9.alloc (.cells #[.int .i64 3, .string ⟨#[]⟩, .slice (some ⟨B3, 0, none⟩) 1 1, .slice (some ⟨B4, 0, none⟩) 1 1, .slice none 0 0, .int .i64 0, .int .i64 2, .string name, .slice (some ⟨B8, 0, none⟩) 1 1, .slice none 0 0, .slice none 0 0, .int .i64 9] 46)).alloc (.cells #[.string ⟨#[]⟩, .slice none 0 0, .int .i64 0, .slice (some ⟨w9.heap.size, 0, none⟩) 2 2, .int .i64 0] 34)).heap[w9.heap.size + 1]? = some (.cells #[.string ⟨#[]⟩, .slice none 0 0, .int .i64 0, .slice (some ⟨w9.heap.size, 0, none⟩) 2 2, .int .i64 0] 34 (0, 0))) := Lib.hid (new_heap _ _ _ (by simp only [size_alloc]))
    have hbc : Below w9.heap.size w9 ((w9.alloc (.cells #[.int .i64 3, .string ⟨#[]⟩, .slice (some ⟨B3, 0, none⟩) 1 1, .slice (some ⟨B4, 0, none⟩) 1 1, .slice none 0 0, .int .i64 0, .int .i64 2, .string name, .slice (some ⟨B8, 0, none⟩) 1 1, .slice none 0 0, .slice none 0 0, .int .i64 9] 46)).alloc (.cells #[.string ⟨#[]⟩, .slice none 0 0, .int .i64 0, .slice (some ⟨w9.heap.size, 0, none⟩) 2 2, .int .i64 0] 34)) := up_alloc (up_alloc (Below.refl _ _) _) _
    have RBD := sts_lit2 HR.out (RB.out.keep (Stays.of_below hbc)) (RS.out.keep (Stays.of_below hbc))
    have HCK := Lib.hid (check_ck [fnX [blkA name, setX name]] (fun f hf => by rw [List.mem_singleton] at hf; subst hf; exact Nat.zero_le _) _ _ (fns_lit1 HF.out (fn_mk (rs := 0) (pos := 0) (nm := ⟨#[]⟩) (pas_nil Any _) RBD)))
    clear RBD HR HF
    go_wp2_with fail
    refine HCK.out.mono ?_
    rintro e w10 ⟨rfl, hbd⟩
    rw [scope2]
    have hbe := up_trans hbc hbd
    replace HB5 := Lib.hid (HB5.out.trans (hbe.mono HB5.out.size))
    replace H2 := Lib.hid ((hbe.block _ (lt_block H2.out)).trans H2.out)
    replace H5 := Lib.hid ((hbe.block _ (lt_block H5.out)).trans H5.out)
    replace H9 := Lib.hid ((hbe.block _ (lt_block H9.out)).trans H9.out)
    replace RB := Lib.hid (RB.out.keep (Stays.of_below hbe))
    replace RL := Lib.hid (RL.out.keep (Stays.of_below hbe))
    replace RS := Lib.hid (RS.out.keep (Stays.of_below hbe))
    clear hbc hbd hbe HCK cb50 cb51 cb52 cb53 cb54 cb55 cb90 cb91 cb92 cb93 cb94 cb95
    dsimp only
    go_upto_region 11 with fail
    have cb20 : w10.cell? ⟨B2, 0, none⟩ = some (.int .i64 1) := cell_of H2.out (j := 0) rfl
    have cb21 : w10.cell? ⟨B2, 1, none⟩ = some (.string name) := cell_of H2.out (j := 1) rfl
    have cb22 : w10.cell? ⟨B2, 2, none⟩ = some (.slice (some ⟨B1, 0, none⟩) 1 1) := cell_of H2.out (j := 2) rfl
    have cb23 : w10.cell? ⟨B2, 3, none⟩ = some (.slice none 0 0) := cell_of H2.out (j := 3) rfl
    have cb24 : w10.cell? ⟨B2, 4, none⟩ = some (.slice none 0 0) := cell_of H2.out (j := 4) rfl
    have cb25 : w10.cell? ⟨B2, 5, none⟩ = some (.int .i64 0) := cell_of H2.out (j := 5) rfl
    have cb90 : w10.cell? ⟨B9, 0, none⟩ = some (.int .i64 2) := cell_of H9.out (j := 0) rfl
    have cb91 : w10.cell? ⟨B9, 1, none⟩ = some (.string name) := cell_of H9.out (j := 1) rfl
    have cb92 : w10.cell? ⟨B9, 2, none⟩ = some (.slice (some ⟨B8, 0, none⟩) 1 1) := cell_of H9.out (j := 2) rfl
    have cb93 : w10.cell? ⟨B9, 3, none⟩ = some (.slice none 0 0) := cell_of H9.out (j := 3) rfl
    have cb94 : w10.cell? ⟨B9, 4, none⟩ = some (.slice none 0 0) := cell_of H9.out (j := 4) rfl
    have cb95 : w10.cell? ⟨B9, 5, none⟩ = some (.int .i64 9) := cell_of H9.out (j := 5) rfl
    have cb50 : w10.cell? ⟨B5, 0, none⟩ = some (.int .i64 3) := cell_of H5.out (j := 0) rfl
    have cb51 : w10.cell? ⟨B5, 1, none⟩ = some (.string ⟨#[]⟩) := cell_of H5.out (j := 1) rfl
    have cb52 : w10.cell? ⟨B5, 2, none⟩ = some (.slice (some ⟨B3, 0, none⟩) 1 1) := cell_of H5.out (j := 2) rfl
    have cb53 : w10.cell? ⟨B5, 3, none⟩ = some (.slice (some ⟨B4, 0, none⟩) 1 1) := cell_of H5.out (j := 3) rfl
    have cb54 : w10.cell? ⟨B5, 4, none⟩ = some (.slice none 0 0) := cell_of H5.out (j := 4) rfl
    have cb55 : w10.cell? ⟨B5, 5, none⟩ = some (.int .i64 0) := cell_of H5.out (j := 5) rfl
    have HR : Hid (((w10.alloc (.cells #[.int .i64 1, .string name, .slice (some ⟨B1, 0, none⟩) 1 1, .slice none 0 0, .slice none 0 0, .int .i64 0, .int .i64 2, .string name, .slice (some ⟨B8, 0, none⟩) 1 1, .slice none 0 0, .slice none 0 0, .int .i64 9, .int .i64 3, .string ⟨#[]⟩, .slice (some ⟨B3, 0, none⟩) 1 1, .slice (some ⟨B4, 0, none⟩) 1 1, .slice none 0 0, .int .i64 0] 46)).alloc (.cells #[.string ⟨#[]⟩, .slice none 0 0, .int .i64 0, .slice (some ⟨w10.heap.size, 0, none⟩) 3 3, .int .i64 0] 34)).heap[w10.heap.size]? = some (.cells #[.int .i64 1, .string name, .slice (some ⟨B1, 0, none⟩) 1 1, .slice none 0 0, .slice none 0 0, .int .i64 0, .int .i64 2, .string name, .slice (some ⟨B8, 0, none⟩) 1 1, .slice none 0 0, .slice none 0 0, .int .i64 9, .int .i64 3, .string ⟨#[]⟩, .slice (some ⟨B3, 0, none⟩) 1 1, .slice (some ⟨B4, 0, none⟩) 1 1, .slice none 0 0, .int .i64 0] 46 (0, 0))) := Lib.hid (old_heap _ _ _ _ (new_heap _ _ _ rfl))
    have HF : Hid (((w10.alloc (.cells #[.int .i64 1, .string name, .slice (some ⟨B1, 0, none⟩) 1 1, .slice none 0 0, .slice none 0 0, .int .i64 0, .int .i64 2, .string name, .slice (some ⟨B8, 0, none⟩) 1 1, .slice none 0 0, .slice none 0 0, .int .i64 9, .int .i64 3, .string ⟨#[]⟩, .slice (some ⟨B3, 0, none⟩) 1 1, .slice (some ⟨B4, 0, none⟩) 1 1, .slice none 0 0, .int .i64 0] 46)).alloc (.cells #[.string ⟨#[]⟩, .slice none 0 0, .int .i64 0, .slice (some ⟨w10.heap.size, 0, none⟩) 3 3, .int .i64 0] 34)).heap[w10.heap.size + 1]? = some (.cells #[.string ⟨#[]⟩, .slice none 0 0, .int .i64 0, .slice (some ⟨w10.heap.size, 0, none⟩) 3 3, .int .i64 0] 34 (0, 0))) := Lib.hid (new_heap _ _ _ (by simp only [size_alloc]))
    have hbc : Below w10.heap.size w10 ((w10.alloc (.cells #[.int .i64 1, .string name, .slice (some ⟨B1, 0, none⟩) 1 1, .slice none 0 0, .slice none 0 0, .int .i64 0, .int .i64 2, .string name, .slice (some ⟨B8, 0, none⟩) 1 1, .slice none 0 0, .slice none 0 0, .int .i64 9, .int .i64 3, .string ⟨#[]⟩, .slice (some ⟨B3, 0, none⟩) 1 1, .slice (some ⟨B4, 0, none⟩) 1 1, .slice none 0 0, .int .i64 0] 46)).alloc (.cells #[.string ⟨#[]⟩, .slice none 0 0, .int .i64 0, .slice (some ⟨w10.heap.size, 0, none⟩) 3 3, .int .i64 0] 34)) := up_alloc (up_alloc (Below.refl _ _) _) _
    have RBD := sts_lit3 HR.out (RL.out.keep (Stays.of_below hbc)) (RS.out.keep (Stays.of_below hbc)) (RB.out.keep (Stays.of_below hbc))
    have HCK := Lib.hid (check_ck [fnX [letX name, setX name, blkA name]] (fun f hf => by rw [List.mem_singleton] at hf; subst hf; exact Nat.zero_le _) _ _ (fns_lit1 HF.out (fn_mk (rs := 0) (pos := 0) (nm := ⟨#[]⟩) (pas_nil Any _) RBD)))
    clear RBD HR HF
    go_wp2_with fail
    refine HCK.out.mono ?_
    rintro e w11 ⟨rfl, hbd⟩
    rw [scope3A]
    have hbe := up_trans hbc hbd
    replace HB5 := Lib.hid (HB5.out.trans (hbe.mono HB5.out.size))
    replace H2 := Lib.hid ((hbe.block _ (lt_block H2.out)).trans H2.out)
    replace H5 := Lib.hid ((hbe.block _ (lt_block H5.out)).trans H5.out)
    replace H9 := Lib.hid ((hbe.block _ (lt_block H9.out)).trans H9.out)
    replace RB := Lib.hid (RB.out.keep (Stays.of_below hbe))
    replace RL := Lib.hid (RL.out.keep (Stays.of_below hbe))
    replace RS := Lib.hid (RS.out.keep (Stays.of_below hbe))
    clear hbc hbd hbe HCK cb20 cb21 cb22 cb23 cb24 cb25 cb90 cb91 cb92 cb93 cb94 cb95 cb50 cb51 cb52 cb53 cb54 cb55
    dsimp only
    go_wp2_with fail
    exact bodyPost_ret (v := .bool true) (by simp [results, Try.results6, go_sem]) rfl ⟨rfl, HB5.out⟩
  have cb50 : w5.cell? ⟨B5, 0, none⟩ = some (.int .i64 3) := cell_of H5.out (j := 0) rfl
  have cb51 : w5.cell? ⟨B5, 1, none⟩ = some (.string ⟨#[]⟩) := cell_of H5.out (j := 1) rfl
  have cb52 : w5.cell? ⟨B5, 2, none⟩ = some (.slice (some ⟨B3, 0, none⟩) 1 1) := cell_of H5.out (j := 2) rfl
  have cb53 : w5.cell? ⟨B5, 3, none⟩ = some (.slice (some ⟨B4, 0, none⟩) 1 1) := cell_of H5.out (j := 3) rfl
  have cb54 : w5.cell? ⟨B5, 4, none⟩ = some (.slice none 0 0) := cell_of H5.out (j := 4) rfl
  have cb55 : w5.cell? ⟨B5, 5, none⟩ = some (.int .i64 0) := cell_of H5.out (j := 5) rfl
  have cb20 : w5.cell? ⟨B2, 0, none⟩ = some (.int .i64 1) := cell_of H2.out (j := 0) rfl
  have cb21 : w5.cell? ⟨B2, 1, none⟩ = some (.string name) := cell_of H2.out (j := 1) rfl
  have cb22 : w5.cell? ⟨B2, 2, none⟩ = some (.slice (some ⟨B1, 0, none⟩) 1 1) := cell_of H2.out (j := 2) rfl
  have cb23 : w5.cell? ⟨B2, 3, none⟩ = some (.slice none 0 0) := cell_of H2.out (j := 3) rfl
  have cb24 : w5.cell? ⟨B2, 4, none⟩ = some (.slice none 0 0) := cell_of H2.out (j := 4) rfl
  have cb25 : w5.cell? ⟨B2, 5, none⟩ = some (.int .i64 0) := cell_of H2.out (j := 5) rfl
  have k0 : w5.frozen? ⟨B5, 3, none⟩ = false := frozen_of H5.out 3
  have g2 : B2 < w5.heap.size := lt_block H2.out
  have g5 : B5 < w5.heap.size := lt_block H5.out
  go_upto_region 8 with fail
  have HLT : Hid (B5 < w5.heap.size ∧ B0 < w5.heap.size ∧ B2 < w5.heap.size) := Lib.hid ⟨lt_block H5.out, lt_block H0.out, lt_block H2.out⟩
  have HN0 : Hid (B0 ≠ B5 ∧ B2 ≠ B5 ∧ w.heap.size ≤ B5) := Lib.hid HNE.out
  have H7 : Hid ((((w5.setCell ⟨B5, 3, none⟩ (.slice (some ⟨w5.heap.size + 1, 0, none⟩) 2 2)).alloc (.cells #[.int .i64 3, .string ⟨#[]⟩, .slice (some ⟨B3, 0, none⟩) 1 1, .slice (some ⟨B4, 0, none⟩) 1 1, .slice none 0 0, .int .i64 0] 46)).alloc (.cells #[.int .i64 1, .string name, .slice (some ⟨B1, 0, none⟩) 1 1, .slice none 0 0, .slice none 0 0, .int .i64 0, .int .i64 3, .string ⟨#[]⟩, .slice (some ⟨B3, 0, none⟩) 1 1, .slice (some ⟨B4, 0, none⟩) 1 1, .slice none 0 0, .int .i64 0] 46)).heap[w5.heap.size + 1]? = some (.cells #[.int .i64 1, .string name, .slice (some ⟨B1, 0, none⟩) 1 1, .slice none 0 0, .slice none 0 0, .int .i64 0, .int .i64 3, .string ⟨#[]⟩, .slice (some ⟨B3, 0, none⟩) 1 1, .slice (some ⟨B4, 0, none⟩) 1 1, .slice none 0 0, .int .i64 0] 46 (0, 0))) := Lib.hid (new_heap _ _ _ (by simp only [size_alloc, setCell_size]))
  have hb6 : Below (w5.setCell ⟨B5, 3, none⟩ (.slice (some ⟨w5.heap.size + 1, 0, none⟩) 2 2)).heap.size (w5.setCell ⟨B5, 3, none⟩ (.slice (some ⟨w5.heap.size + 1, 0, none⟩) 2 2)) (((w5.setCell ⟨B5, 3, none⟩ (.slice (some ⟨w5.heap.size + 1, 0, none⟩) 2 2)).alloc (.cells #[.int .i64 3, .string ⟨#[]⟩, .slice (some ⟨B3, 0, none⟩) 1 1, .slice (some ⟨B4, 0, none⟩) 1 1, .slice none 0 0, .int .i64 0] 46)).alloc (.cells #[.int .i64 1, .string name, .slice (some ⟨B1, 0, none⟩) 1 1, .slice none 0 0, .slice none 0 0, .int .i64 0, .int .i64 3, .string ⟨#[]⟩, .slice (some ⟨B3, 0, none⟩) 1 1, .slice (some ⟨B4, 0, none⟩) 1 1, .slice none 0 0, .int .i64 0] 46)) := up_alloc (up_alloc (Below.refl _ _) _) _
  have ho : On B5 w5 (((w5.setCell ⟨B5, 3, none⟩ (.slice (some ⟨w5.heap.size + 1, 0, none⟩) 2 2)).alloc (.cells #[.int .i64 3, .string ⟨#[]⟩, .slice (some ⟨B3, 0, none⟩) 1 1, .slice (some ⟨B4, 0, none⟩) 1 1, .slice none 0 0, .int .i64 0] 46)).alloc (.cells #[.int .i64 1, .string name, .slice (some ⟨B1, 0, none⟩) 1 1, .slice none 0 0, .slice none 0 0, .int .i64 0, .int .i64 3, .string ⟨#[]⟩, .slice (some ⟨B3, 0, none⟩) 1 1, .slice (some ⟨B4, 0, none⟩) 1 1, .slice none 0 0, .int .i64 0] 46)) := ((On.refl _ _).set 3 _).trans (On.of_below hb6)
  have H5S := setCell_obj H5.out 3 (.slice (some ⟨w5.heap.size + 1, 0, none⟩) 2 2)
  replace H5 : Hid ((((w5.setCell ⟨B5, 3, none⟩ (.slice (some ⟨w5.heap.size + 1, 0, none⟩) 2 2)).alloc (.cells #[.int .i64 3, .string ⟨#[]⟩, .slice (some ⟨B3, 0, none⟩) 1 1, .slice (some ⟨B4, 0, none⟩) 1 1, .slice none 0 0, .int .i64 0] 46)).alloc (.cells #[.int .i64 1, .string name, .slice (some ⟨B1, 0, none⟩) 1 1, .slice none 0 0, .slice none 0 0, .int .i64 0, .int .i64 3, .string ⟨#[]⟩, .slice (some ⟨B3, 0, none⟩) 1 1, .slice (some ⟨B4, 0, none⟩) 1 1, .slice none 0 0, .int .i64 0] 46)).heap[B5]? = some (.cells #[.int .i64 3, .string ⟨#[]⟩, .slice (some ⟨B3, 0, none⟩) 1 1, .slice (some ⟨w5.heap.size + 1, 0, none⟩) 2 2, .slice none 0 0, .int .i64 0] 46 (0, 0))) := Lib.hid ((hb6.block _ (lt_block H5S)).trans H5S)
  replace H0 := Lib.hid (ho.obj HN0.out.1 H0.out)
  replace H2 := Lib.hid (ho.obj HN0.out.2.1 H2.out)
  replace H1 := Lib.hid (ho.obj HN1.out.1 H1.out)
  replace H3 := Lib.hid (ho.obj HN1.out.2.1 H3.out)
  replace H4 := Lib.hid (ho.obj HN1.out.2.2.1 H4.out)
  replace HB5 : Hid (Below w.heap.size w (((w5.setCell ⟨B5, 3, none⟩ (.slice (some ⟨w5.heap.size + 1, 0, none⟩) 2 2)).alloc (.cells #[.int .i64 3, .string ⟨#[]⟩, .slice (some ⟨B3, 0, none⟩) 1 1, .slice (some ⟨B4, 0, none⟩) 1 1, .slice none 0 0, .int .i64 0] 46)).alloc (.cells #[.int .i64 1, .string name, .slice (some ⟨B1, 0, none⟩) 1 1, .slice none 0 0, .slice none 0 0, .int .i64 0, .int .i64 3, .string ⟨#[]⟩, .slice (some ⟨B3, 0, none⟩) 1 1, .slice (some ⟨B4, 0, none⟩) 1 1, .slice none 0 0, .int .i64 0] 46))) := Lib.hid ((HB5.out.setCell (p := ⟨B5, 3, none⟩) HN0.out.2.2 (.slice (some ⟨w5.heap.size + 1, 0, none⟩) 2 2)).trans (hb6.mono (by rw [setCell_size]; exact HB5.out.size)))
  clear hb6 ho H5S HLT RE RL RC RD RB cb50 cb20 cb51 cb21 cb52 cb22 cb53 cb23 cb54 cb24 cb55 cb25 k0 g2 g5
  generalize (((w5.setCell ⟨B5, 3, none⟩ (.slice (some ⟨w5.heap.size + 1, 0, none⟩) 2 2)).alloc (.cells #[.int .i64 3, .string ⟨#[]⟩, .slice (some ⟨B3, 0, none⟩) 1 1, .slice (some ⟨B4, 0, none⟩) 1 1, .slice none 0 0, .int .i64 0] 46)).alloc (.cells #[.int .i64 1, .string name, .slice (some ⟨B1, 0, none⟩) 1 1, .slice none 0 0, .slice none 0 0, .int .i64 0, .int .i64 3, .string ⟨#[]⟩, .slice (some ⟨B3, 0, none⟩) 1 1, .slice (some ⟨B4, 0, none⟩) 1 1, .slice none 0 0, .int .i64 0] 46)) = w7 at *
  generalize w5.heap.size + 1 = B7 at *
  have RE := Lib.hid (exs_lit1 H1.out (RepExs.nil Any _))
  have RL := Lib.hid (st_mk (op := 1) (pos := 0) (text := name) RE.out (RepSts.nil Any _) (RepSts.nil Any _))
  have RC := Lib.hid (exs_lit1 H3.out (RepExs.nil Any _))
  have RD := Lib.hid (sts_lit1 H4.out RL.out)
  have RI := Lib.hid (st_mk (op := 3) (pos := 0) (text := ⟨#[]⟩) RC.out RD.out (RepSts.nil Any _))
  have RB := Lib.hid (st_mk (op := 3) (pos := 0) (text := ⟨#[]⟩) RC.out (sts_lit2 H7.out RL.out RI.out) (RepSts.nil Any _))
  have cb00 : w7.cell? ⟨B0, 0, none⟩ = some (.int .i64 1) := cell_of H0.out (j := 0) rfl
  have cb01 : w7.cell? ⟨B0, 1, none⟩ = some (.int .i64 1) := cell_of H0.out (j := 1) rfl
  have cb02 : w7.cell? ⟨B0, 2, none⟩ = some (.string ⟨#[]⟩) := cell_of H0.out (j := 2) rfl
  have cb03 : w7.cell? ⟨B0, 3, none⟩ = some (.slice none 0 0) := cell_of H0.out (j := 3) rfl
  have cb04 : w7.cell? ⟨B0, 4, none⟩ = some (.int .i64 0) := cell_of H0.out (j := 4) rfl
  go_upto_region 9 with fail
  have H8 : Hid (((w7.alloc (.cells #[.int .i64 1, .int .i64 1, .string ⟨#[]⟩, .slice none 0 0, .int .i64 0] 44)).alloc (.cells #[.int .i64 2, .string name, .slice (some ⟨w7.heap.size, 0, none⟩) 1 1, .slice none 0 0, .slice none 0 0, .int .i64 9] 46)).heap[w7.heap.size]? = some (.cells #[.int .i64 1, .int .i64 1, .string ⟨#[]⟩, .slice none 0 0, .int .i64 0] 44 (0, 0))) := Lib.hid (old_heap _ _ _ _ (new_heap _ _ _ rfl))
  have H9 : Hid (((w7.alloc (.cells #[.int .i64 1, .int .i64 1, .string ⟨#[]⟩, .slice none 0 0, .int .i64 0] 44)).alloc (.cells #[.int .i64 2, .string name, .slice (some ⟨w7.heap.size, 0, none⟩) 1 1, .slice none 0 0, .slice none 0 0, .int .i64 9] 46)).heap[w7.heap.size + 1]? = some (.cells #[.int .i64 2, .string name, .slice (some ⟨w7.heap.size, 0, none⟩) 1 1, .slice none 0 0, .slice none 0 0, .int .i64 9] 46 (0, 0))) := Lib.hid (new_heap _ _ _ (by simp only [size_alloc]))
  have hb8 : Below w7.heap.size w7 ((w7.alloc (.cells #[.int .i64 1, .int .i64 1, .string ⟨#[]⟩, .slice none 0 0, .int .i64 0] 44)).alloc (.cells #[.int .i64 2, .string name, .slice (some ⟨w7.heap.size, 0, none⟩) 1 1, .slice none 0 0, .slice none 0 0, .int .i64 9] 46)) := up_alloc (up_alloc (Below.refl _ _) _) _
  replace HB5 := Lib.hid (HB5.out.trans (hb8.mono HB5.out.size))
  replace H2 := Lib.hid ((hb8.block _ (lt_block H2.out)).trans H2.out)
  replace H5 := Lib.hid ((hb8.block _ (lt_block H5.out)).trans H5.out)
  replace RB := Lib.hid (RB.out.keep (Stays.of_below hb8))
  replace RL := Lib.hid (RL.out.keep (Stays.of_below hb8))
  clear hb8 cb00 cb01 cb02 cb03 cb04
  generalize ((w7.alloc (.cells #[.int .i64 1, .int .i64 1, .string ⟨#[]⟩, .slice none 0 0, .int .i64 0] 44)).alloc (.cells #[.int .i64 2, .string name, .slice (some ⟨w7.heap.size, 0, none⟩) 1 1, .slice none 0 0, .slice none 0 0, .int .i64 9] 46)) = w8 at *
  generalize w7.heap.size + 1 = B9 at *
  generalize w7.heap.size = B8 at *
  have RX := Lib.hid (exs_lit1 H8.out (RepExs.nil Any _))
  have RS := Lib.hid (st_mk (op := 2) (pos := 9) (text := name) RX.out (RepSts.nil Any _) (RepSts.nil Any _))
  have cb50 : w8.cell? ⟨B5, 0, none⟩ = some (.int .i64 3) := cell_of H5.out (j := 0) rfl
  have cb51 : w8.cell? ⟨B5, 1, none⟩ = some (.string ⟨#[]⟩) := cell_of H5.out (j := 1) rfl
  have cb52 : w8.cell? ⟨B5, 2, none⟩ = some (.slice (some ⟨B3, 0, none⟩) 1 1) := cell_of H5.out (j := 2) rfl
  have cb53 : w8.cell? ⟨B5, 3, none⟩ = some (.slice (some ⟨B7, 0, none⟩) 2 2) := cell_of H5.out (j := 3) rfl
  have cb54 : w8.cell? ⟨B5, 4, none⟩ = some (.slice none 0 0) := cell_of H5.out (j := 4) rfl
  have cb55 : w8.cell? ⟨B5, 5, none⟩ = some (.int .i64 0) := cell_of H5.out (j := 5) rfl
  have HR : Hid (((w8.alloc (.cells #[.int .i64 3, .string ⟨#[]⟩, .slice (some ⟨B3, 0, none⟩) 1 1, .slice (some ⟨B7, 0, none⟩) 2 2, .slice none 0 0, .int .i64 0, .int .i64 3, .string ⟨#[]⟩, .slice (some ⟨B3, 0, none⟩) 1 1, .slice (some ⟨B7, 0, none⟩) 2 2, .slice none 0 0, .int .i64 0] 46)).alloc (.cells #[.string ⟨#[]⟩, .slice none 0 0, .int .i64 0, .slice (some ⟨w8.heap.size, 0, none⟩) 2 2, .int .i64 0] 34)).heap[w8.heap.size]? = some (.cells #[.int .i64 3, .string ⟨#[]⟩, .slice (some ⟨B3, 0, none⟩) 1 1, .slice (some ⟨B7, 0, none⟩) 2 2, .slice none 0 0, .int .i64 0, .int .i64 3, .string ⟨#[]⟩, .slice (some ⟨B3, 0, none⟩) 1 1, .slice (some ⟨B7, 0, none⟩) 2 2, .slice none 0 0, .int .i64 0] 46 (0, 0))) := Lib.hid (old_heap _ _ _ _ (new_heap _ _ _ rfl))
  have HF : Hid (((w8.alloc (.cells #[.int .i64 3, .string ⟨#[]⟩, .slice (some ⟨B3, 0, none⟩) 1 1, .slice (some ⟨B7, 0, none⟩) 2 2, .slice none 0 0, .int .i64 0, .int .i64 3, .string ⟨#[]⟩, .slice (some ⟨B3, 0, none⟩) 1 1, .slice (some ⟨B7, 0, none⟩) 2 2, .slice none 0 0, .int .i64 0] 46)).alloc (.cells #[.string ⟨#[]⟩, .slice none 0 0, .int .i64 0, .slice (some ⟨w8.heap.size, 0, none⟩) 2 2, .int .i64 0] 34)).heap[w8.heap.size + 1]? = some (.cells #[.string ⟨#[]⟩, .slice none 0 0, .int .i64 0, .slice (some ⟨w8.heap.size, 0, none⟩) 2 2, .int .i64 0] 34 (0, 0))) := Lib.hid (new_heap _ _ _ (by simp only [size_alloc]))
  have hbc : Below w8.heap.size w8 ((w8.alloc (.cells #[.int .i64 3, .string ⟨#[]⟩, .slice (some ⟨B3, 0, none⟩) 1 1, .slice (some ⟨B7, 0, none⟩) 2 2, .slice none 0 0, .int .i64 0, .int .i64 3, .string ⟨#[]⟩, .slice (some ⟨B3, 0, none⟩) 1 1, .slice (some ⟨B7, 0, none⟩) 2 2, .slice none 0 0, .int .i64 0] 46)).alloc (.cells #[.string ⟨#[]⟩, .slice none 0 0, .int .i64 0, .slice (some ⟨w8.heap.size, 0, none⟩) 2 2, .int .i64 0] 34)) := up_alloc (up_alloc (Below.refl _ _) _) _
  have RBD := sts_lit2 HR.out (RB.out.keep (Stays.of_below hbc)) (RB.out.keep (Stays.of_below hbc))
  have HCK := Lib.hid (check_ck [fnX [blkB name, blkB name]] (fun f hf => by rw [List.mem_singleton] at hf; subst hf; exact Nat.zero_le _) _ _ (fns_lit1 HF.out (fn_mk (rs := 0) (pos := 0) (nm := ⟨#[]⟩) (pas_nil Any _) RBD)))
  clear RBD HR HF
  go_wp2_with fail
  refine HCK.out.mono ?_
  rintro e w9 ⟨rfl, hbd⟩
  rw [scope1B]
  have hbe := up_trans hbc hbd
  replace HB5 := Lib.hid (HB5.out.trans (hbe.mono HB5.out.size))
  replace H2 := Lib.hid ((hbe.block _ (lt_block H2.out)).trans H2.out)
  replace H5 := Lib.hid ((hbe.block _ (lt_block H5.out)).trans H5.out)
  replace H9 := Lib.hid ((hbe.block _ (lt_block H9.out)).trans H9.out)
  replace RB := Lib.hid (RB.out.keep (Stays.of_below hbe))
  replace RL := Lib.hid (RL.out.keep (Stays.of_below hbe))
  replace RS := Lib.hid (RS.out.keep (Stays.of_below hbe))
  clear hbc hbd hbe HCK cb50 cb51 cb52 cb53 cb54 cb55
  dsimp only
  go_upto_region 10 with fail
  have cb50 : w9.cell? ⟨B5, 0, none⟩ = some (.int .i64 3) := cell_of H5.out (j := 0) rfl
  have cb51 : w9.cell? ⟨B5, 1, none⟩ = some (.string ⟨#[]⟩) := cell_of H5.out (j := 1) rfl
  have cb52 : w9.cell? ⟨B5, 2, none⟩ = some (.slice (some ⟨B3, 0, none⟩) 1 1) := cell_of H5.out (j := 2) rfl
  have cb53 : w9.cell? ⟨B5, 3, none⟩ = some (.slice (some ⟨B7, 0, none⟩) 2 2) := cell_of H5.out (j := 3) rfl
  have cb54 : w9.cell? ⟨B5, 4, none⟩ = some (.slice none 0 0) := cell_of H5.out (j := 4) rfl
  have cb55 : w9.cell? ⟨B5, 5, none⟩ = some (.int .i64 0) := cell_of H5.out (j := 5) rfl
  have cb90 : w9.cell? ⟨B9, 0, none⟩ = some (.int .i64 2) := cell_of H9.out (j := 0) rfl
  have cb91 : w9.cell? ⟨B9, 1, none⟩ = some (.string name) := cell_of H9.out (j := 1) rfl
  have cb92 : w9.cell? ⟨B9, 2, none⟩ = some (.slice (some ⟨B8, 0, none⟩) 1 1) := cell_of H9.out (j := 2) rfl
  have cb93 : w9.cell? ⟨B9, 3, none⟩ = some (.slice none 0 0) := cell_of H9.out (j := 3) rfl
  have cb94 : w9.cell? ⟨B9, 4, none⟩ = some (.slice none 0 0) := cell_of H9.out (j := 4) rfl
  have cb95 : w9.cell? ⟨B9, 5, none⟩ = some (.int .i64 9) := cell_of H9.out (j := 5) rfl
  have HR : Hid (((w9.alloc (.cells #[.int .i64 3, .string ⟨#[]⟩, .slice (some ⟨B3, 0, none⟩) 1 1, .slice (some ⟨B7, 0, none⟩) 2 2, .slice none 0 0, .int .i64 0, .int .i64 2, .string name, .slice (some ⟨B8, 0, none⟩) 1 1, .slice none 0 0, .slice none 0 0, .int .i64 9] 46)).alloc (.cells #[.string ⟨#[]⟩, .slice none 0 0, .int .i64 0, .slice (some ⟨w9.heap.size, 0, none⟩) 2 2, .int .i64 0] 34)).heap[w9.heap.size]? = some (.cells #[.int .i64 3, .string ⟨#[]⟩, .slice (some ⟨B3, 0, none⟩) 1 1, .slice (some ⟨B7, 0, none⟩) 2 2, .slice none 0 0, .int .i64 0, .int .i64 2, .string name, .slice (some ⟨B8, 0, none⟩) 1 1, .slice none 0 0, .slice none 0 0, .int .i64 9] 46 (0, 0))) := Lib.hid (old_heap _ _ _ _ (new_heap _ _ _ rfl))
  have HF : Hid (((w9.alloc (.cells #[.int .i64 3, .string ⟨#[]⟩, .slice (some ⟨B3, 0, none⟩) 1 1, .slice (some ⟨B7, 0, none⟩) 2 2, .slice none 0 0, .int .i64 0, .int .i64 2, .string name, .slice (some ⟨B8, 0, none⟩) 1 1, .slice none 0 0, .slice none 0 0, .int .i64 9] 46)).alloc (.cells #[.string ⟨#[]⟩, .slice none 0 0, .int .i64 0, .slice (some ⟨w9.heap.size, 0, none⟩) 2 2, .int .i64 0] 34)).heap[w9.heap.size + 1]? = some (.cells #[.string ⟨#[]⟩, .slice none 0 0, .int .i64 0, .slice (some ⟨w9.heap.size, 0, none⟩) 2 2, .int .i64 0] 34 (0, 0))) := Lib.hid (new_heap _ _ _ (by simp only [size_alloc]))
  have hbc : Below w9.heap.size w9 ((w9.alloc (.cells #[.int .i64 3, .string ⟨#[]⟩, .slice (some ⟨B3, 0, none⟩) 1 1, .slice (some ⟨B7, 0, none⟩) 2 2, .slice none 0 0, .int .i64 0, .int .i64 2, .string name, .slice (some ⟨B8, 0, none⟩) 1 1, .slice none 0 0, .slice none 0 0, .int .i64 9] 46)).alloc (.cells #[.string ⟨#[]⟩, .slice none 0 0, .int .i64 0, .slice (some ⟨w9.heap.size, 0, none⟩) 2 2, .int .i64 0] 34)) := up_alloc (up_alloc (Below.refl _ _) _) _
  have RBD := sts_lit2 HR.out (RB.out.keep (Stays.of_below hbc)) (RS.out.keep (Stays.of_below hbc))
  have HCK := Lib.hid (check_ck [fnX [blkB name, setX name]] (fun f hf => by rw [List.mem_singleton] at hf; subst hf; exact Nat.zero_le _) _ _ (fns_lit1 HF.out (fn_mk (rs := 0) (pos := 0) (nm := ⟨#[]⟩) (pas_nil Any _) RBD)))
  clear RBD HR HF
  go_wp2_with fail
  refine HCK.out.mono ?_
  rintro e w10 ⟨rfl, hbd⟩
  rw [scope2B]
  have hbe := up_trans hbc hbd
  replace HB5 := Lib.hid (HB5.out.trans (hbe.mono HB5.out.size))
  replace H2 := Lib.hid ((hbe.block _ (lt_block H2.out)).trans H2.out)
  replace H5 := Lib.hid ((hbe.block _ (lt_block H5.out)).trans H5.out)
  replace H9 := Lib.hid ((hbe.block _ (lt_block H9.out)).trans H9.out)
  replace RB := Lib.hid (RB.out.keep (Stays.of_below hbe))
  replace RL := Lib.hid (RL.out.keep (Stays.of_below hbe))
  replace RS := Lib.hid (RS.out.keep (Stays.of_below hbe))
  clear hbc hbd hbe HCK cb50 cb51 cb52 cb53 cb54 cb55 cb90 cb91 cb92 cb93 cb94 cb95
  dsimp only
  go_upto_region 11 with fail
  have cb20 : w10.cell? ⟨B2, 0, none⟩ = some (.int .i64 1) := cell_of H2.out (j := 0) rfl
  have cb21 : w10.cell? ⟨B2, 1, none⟩ = some (.string name) := cell_of H2.out (j := 1) rfl
  have cb22 : w10.cell? ⟨B2, 2, none⟩ = some (.slice (some ⟨B1, 0, none⟩) 1 1) := cell_of H2.out (j := 2) rfl
  have cb23 : w10.cell? ⟨B2, 3, none⟩ = some (.slice none 0 0) := cell_of H2.out (j := 3) rfl
  have cb24 : w10.cell? ⟨B2, 4, none⟩ = some (.slice none 0 0) := cell_of H2.out (j := 4) rfl
  have cb25 : w10.cell? ⟨B2, 5, none⟩ = some (.int .i64 0) := cell_of H2.out (j := 5) rfl
  have cb90 : w10.cell? ⟨B9, 0, none⟩ = some (.int .i64 2) := cell_of H9.out (j := 0) rfl
  have cb91 : w10.cell? ⟨B9, 1, none⟩ = some (.string name) := cell_of H9.out (j := 1) rfl
  have cb92 : w10.cell? ⟨B9, 2, none⟩ = some (.slice (some ⟨B8, 0, none⟩) 1 1) := cell_of H9.out (j := 2) rfl
  have cb93 : w10.cell? ⟨B9, 3, none⟩ = some (.slice none 0 0) := cell_of H9.out (j := 3) rfl
  have cb94 : w10.cell? ⟨B9, 4, none⟩ = some (.slice none 0 0) := cell_of H9.out (j := 4) rfl
  have cb95 : w10.cell? ⟨B9, 5, none⟩ = some (.int .i64 9) := cell_of H9.out (j := 5) rfl
  have cb50 : w10.cell? ⟨B5, 0, none⟩ = some (.int .i64 3) := cell_of H5.out (j := 0) rfl
  have cb51 : w10.cell? ⟨B5, 1, none⟩ = some (.string ⟨#[]⟩) := cell_of H5.out (j := 1) rfl
  have cb52 : w10.cell? ⟨B5, 2, none⟩ = some (.slice (some ⟨B3, 0, none⟩) 1 1) := cell_of H5.out (j := 2) rfl
  have cb53 : w10.cell? ⟨B5, 3, none⟩ = some (.slice (some ⟨B7, 0, none⟩) 2 2) := cell_of H5.out (j := 3) rfl
  have cb54 : w10.cell? ⟨B5, 4, none⟩ = some (.slice none 0 0) := cell_of H5.out (j := 4) rfl
  have cb55 : w10.cell? ⟨B5, 5, none⟩ = some (.int .i64 0) := cell_of H5.out (j := 5) rfl
  have HR : Hid (((w10.alloc (.cells #[.int .i64 1, .string name, .slice (some ⟨B1, 0, none⟩) 1 1, .slice none 0 0, .slice none 0 0, .int .i64 0, .int .i64 2, .string name, .slice (some ⟨B8, 0, none⟩) 1 1, .slice none 0 0, .slice none 0 0, .int .i64 9, .int .i64 3, .string ⟨#[]⟩, .slice (some ⟨B3, 0, none⟩) 1 1, .slice (some ⟨B7, 0, none⟩) 2 2, .slice none 0 0, .int .i64 0] 46)).alloc (.cells #[.string ⟨#[]⟩, .slice none 0 0, .int .i64 0, .slice (some ⟨w10.heap.size, 0, none⟩) 3 3, .int .i64 0] 34)).heap[w10.heap.size]? = some (.cells #[.int .i64 1, .string name, .slice (some ⟨B1, 0, none⟩) 1 1, .slice none 0 0, .slice none 0 0, .int .i64 0, .int .i64 2, .string name, .slice (some ⟨B8, 0, none⟩) 1 1, .slice none 0 0, .slice none 0 0, .int .i64 9, .int .i64 3, .string ⟨#[]⟩, .slice (some ⟨B3, 0, none⟩) 1 1, .slice (some ⟨B7, 0, none⟩) 2 2, .slice none 0 0, .int .i64 0] 46 (0, 0))) := Lib.hid (old_heap _ _ _ _ (new_heap _ _ _ rfl))
  have HF : Hid (((w10.alloc (.cells #[.int .i64 1, .string name, .slice (some ⟨B1, 0, none⟩) 1 1, .slice none 0 0, .slice none 0 0, .int .i64 0, .int .i64 2, .string name, .slice (some ⟨B8, 0, none⟩) 1 1, .slice none 0 0, .slice none 0 0, .int .i64 9, .int .i64 3, .string ⟨#[]⟩, .slice (some ⟨B3, 0, none⟩) 1 1, .slice (some ⟨B7, 0, none⟩) 2 2, .slice none 0 0, .int .i64 0] 46)).alloc (.cells #[.string ⟨#[]⟩, .slice none 0 0, .int .i64 0, .slice (some ⟨w10.heap.size, 0, none⟩) 3 3, .int .i64 0] 34)).heap[w10.heap.size + 1]? = some (.cells #[.string ⟨#[]⟩, .slice none 0 0, .int .i64 0, .slice (some ⟨w10.heap.size, 0, none⟩) 3 3, .int .i64 0] 34 (0, 0))) := Lib.hid (new_heap _ _ _ (by simp only [size_alloc]))
  have hbc : Below w10.heap.size w10 ((w10.alloc (.cells #[.int .i64 1, .string name, .slice (some ⟨B1, 0, none⟩) 1 1, .slice none 0 0, .slice none 0 0, .int .i64 0, .int .i64 2, .string name, .slice (some ⟨B8, 0, none⟩) 1 1, .slice none 0 0, .slice none 0 0, .int .i64 9, .int .i64 3, .string ⟨#[]⟩, .slice (some ⟨B3, 0, none⟩) 1 1, .slice (some ⟨B7, 0, none⟩) 2 2, .slice none 0 0, .int .i64 0] 46)).alloc (.cells #[.string ⟨#[]⟩, .slice none 0 0, .int .i64 0, .slice (some ⟨w10.heap.size, 0, none⟩) 3 3, .int .i64 0] 34)) := up_alloc (up_alloc (Below.refl _ _) _) _
  have RBD := sts_lit3 HR.out (RL.out.keep (Stays.of_below hbc)) (RS.out.keep (Stays.of_below hbc)) (RB.out.keep (Stays.of_below hbc))
  have HCK := Lib.hid (check_ck [fnX [letX name, setX name, blkB name]] (fun f hf => by rw [List.mem_singleton] at hf; subst hf; exact Nat.zero_le _) _ _ (fns_lit1 HF.out (fn_mk (rs := 0) (pos := 0) (nm := ⟨#[]⟩) (pas_nil Any _) RBD)))
  clear RBD HR HF
  go_wp2_with fail
  refine HCK.out.mono ?_
  rintro e w11 ⟨rfl, hbd⟩
  rw [scope3B]
  have hbe := up_trans hbc hbd
  replace HB5 := Lib.hid (HB5.out.trans (hbe.mono HB5.out.size))
  replace H2 := Lib.hid ((hbe.block _ (lt_block H2.out)).trans H2.out)
  replace H5 := Lib.hid ((hbe.block _ (lt_block H5.out)).trans H5.out)
  replace H9 := Lib.hid ((hbe.block _ (lt_block H9.out)).trans H9.out)
  replace RB := Lib.hid (RB.out.keep (Stays.of_below hbe))
  replace RL := Lib.hid (RL.out.keep (Stays.of_below hbe))
  replace RS := Lib.hid (RS.out.keep (Stays.of_below hbe))
  clear hbc hbd hbe HCK cb20 cb21 cb22 cb23 cb24 cb25 cb90 cb91 cb92 cb93 cb94 cb95 cb50 cb51 cb52 cb53 cb54 cb55
  dsimp only
  go_wp2_with fail
  exact bodyPost_ret (v := .bool true) (by simp [results, Try.results6, go_sem]) rfl ⟨rfl, HB5.out⟩
end Go.Proofs.Ytpiamiaigjlafaa
