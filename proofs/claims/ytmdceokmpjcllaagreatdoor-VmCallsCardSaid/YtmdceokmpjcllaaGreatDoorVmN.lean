/-
  Run, where there is no such function.
-/
import Derived.Test.YtmdceokmpjcllaaGreatDoorVmK
namespace Go.Proofs.YtmdceokmpjcllaaGreatDoor
open Go.RowKit
attribute [local go_sem ↓] Go.wp_at_zero Go.wp_at_succ

set_option maxRecDepth 100000 in
set_option maxHeartbeats 8000000 in
theorem run_none (gb go cap : Nat) (pt : Option Addr) (nt kt : Nat) (nm nm2 : ByteArray) (hne : (nm.toList == nm2.toList) = false) (p1 : Option Addr) (n1 k1 : Nat) (r : Int) (p4 : Option Addr) (n4 k4 : Nat) (jb : Nat) (limit : Int) (w : World)
    (hc : CdAt w gb go nm p1 n1 k1 r p4 n4 k4) :
    Calls Tryz.prog 10 #[.agg #[.slice (some ⟨gb, go, none⟩) 1 cap, .slice pt nt kt], .string nm2, .slice none 0 0, .pointer (some ⟨jb, 0, none⟩), .int .i64 limit] w fun e w' => e = .returned (.agg #[.int .i64 0, .int .i64 0, .slice none 0 0, .int .i64 7, .int .i64 0]) ∧ Below w.heap.size w w' := by
  have HPL := Lib.hid (fun nb W (hW : Below w.heap.size w W) (h : W.cell? ⟨nb, 0, none⟩ = some (.string nm2)) => place_none nm nm2 hne gb go cap nb p1 n1 k1 r p4 n4 k4 W (hc.up hW (lt_of_cell hc.c0)) h)
  clear hc hne
  go_enter Tryz.func10, Tryz.ntmps10
  go_upto_region 2 with fail
  have hbA : Below w.heap.size w ((((w.alloc (.cells #[.slice (some ⟨gb, go, none⟩) 1 cap, .slice pt nt kt] 43)).alloc (.cells #[.string nm2] 9)).alloc (.cells #[.int .i64 0, .int .i64 0, .slice none 0 0, .int .i64 0, .int .i64 0] 38)).alloc (.cells #[.int .i64 0, .int .i64 0, .slice none 0 0, .int .i64 7, .int .i64 0] 38)) := up_alloc (up_alloc (up_alloc (up_alloc (Below.refl w.heap.size w) _) _) _) _
  have a0 : ((((w.alloc (.cells #[.slice (some ⟨gb, go, none⟩) 1 cap, .slice pt nt kt] 43)).alloc (.cells #[.string nm2] 9)).alloc (.cells #[.int .i64 0, .int .i64 0, .slice none 0 0, .int .i64 0, .int .i64 0] 38)).alloc (.cells #[.int .i64 0, .int .i64 0, .slice none 0 0, .int .i64 7, .int .i64 0] 38)).cell? ⟨w.heap.size, 0, none⟩ = some (.slice (some ⟨gb, go, none⟩) 1 cap) := old_cell _ (old_cell _ (old_cell _ (new_cell _ _ _ _ _ _ rfl rfl)))
  have a2 : ((((w.alloc (.cells #[.slice (some ⟨gb, go, none⟩) 1 cap, .slice pt nt kt] 43)).alloc (.cells #[.string nm2] 9)).alloc (.cells #[.int .i64 0, .int .i64 0, .slice none 0 0, .int .i64 0, .int .i64 0] 38)).alloc (.cells #[.int .i64 0, .int .i64 0, .slice none 0 0, .int .i64 7, .int .i64 0] 38)).cell? ⟨w.heap.size + 1, 0, none⟩ = some (.string nm2) := old_cell _ (old_cell _ (new_cell _ _ _ _ _ _ (size_alloc _ _) rfl))
  have HRB : Hid (((((w.alloc (.cells #[.slice (some ⟨gb, go, none⟩) 1 cap, .slice pt nt kt] 43)).alloc (.cells #[.string nm2] 9)).alloc (.cells #[.int .i64 0, .int .i64 0, .slice none 0 0, .int .i64 0, .int .i64 0] 38)).alloc (.cells #[.int .i64 0, .int .i64 0, .slice none 0 0, .int .i64 7, .int .i64 0] 38)).heap[w.heap.size + 1 + 1]? = some (.cells #[.int .i64 0, .int .i64 0, .slice none 0 0, .int .i64 0, .int .i64 0] 38 (0, 0))) := Lib.hid (old_heap _ _ _ _ (new_heap _ _ _ (by simp only [size_alloc])))
  have HRC : Hid (((((w.alloc (.cells #[.slice (some ⟨gb, go, none⟩) 1 cap, .slice pt nt kt] 43)).alloc (.cells #[.string nm2] 9)).alloc (.cells #[.int .i64 0, .int .i64 0, .slice none 0 0, .int .i64 0, .int .i64 0] 38)).alloc (.cells #[.int .i64 0, .int .i64 0, .slice none 0 0, .int .i64 7, .int .i64 0] 38)).heap[w.heap.size + 1 + 1 + 1]? = some (.cells #[.int .i64 0, .int .i64 0, .slice none 0 0, .int .i64 7, .int .i64 0] 38 (0, 0))) := Lib.hid (new_heap _ _ _ (by simp only [size_alloc]))
  have hsz : ((((w.alloc (.cells #[.slice (some ⟨gb, go, none⟩) 1 cap, .slice pt nt kt] 43)).alloc (.cells #[.string nm2] 9)).alloc (.cells #[.int .i64 0, .int .i64 0, .slice none 0 0, .int .i64 0, .int .i64 0] 38)).alloc (.cells #[.int .i64 0, .int .i64 0, .slice none 0 0, .int .i64 7, .int .i64 0] 38)).heap.size = w.heap.size + 1 + 1 + 1 + 1 := by simp only [size_alloc]
  generalize ((((w.alloc (.cells #[.slice (some ⟨gb, go, none⟩) 1 cap, .slice pt nt kt] 43)).alloc (.cells #[.string nm2] 9)).alloc (.cells #[.int .i64 0, .int .i64 0, .slice none 0 0, .int .i64 0, .int .i64 0] 38)).alloc (.cells #[.int .i64 0, .int .i64 0, .slice none 0 0, .int .i64 7, .int .i64 0] 38)) = wA at *
  generalize hmb : w.heap.size = mb at *
  have HMB := Lib.hid hmb
  have HBA := Lib.hid hbA
  clear hbA
  go_wp2_with fail
  refine (HPL.out _ _ HBA.out a2).mono ?_
  rintro e w1 ⟨rfl, hb1⟩
  have hz1 := (hb1.block (mb + 1 + 1) (by rw [hsz]; omega)).trans HRB.out
  have hy1 := (hb1.block (mb + 1 + 1 + 1) (by rw [hsz]; omega)).trans HRC.out
  have HB1 := Lib.hid (HBA.out.trans (hb1.mono (by rw [hsz]; omega)))
  have n0 := cell_of' hz1 0 (u := .int .i64 0) rfl
  have n1 := cell_of' hz1 1 (u := .int .i64 0) rfl
  have n2 := cell_of' hz1 2 (u := .slice none 0 0) rfl
  have n3 := cell_of' hz1 3 (u := .int .i64 0) rfl
  have n4' := cell_of' hz1 4 (u := .int .i64 0) rfl
  have m0 := cell_of' hy1 0 (u := .int .i64 0) rfl
  have m1 := cell_of' hy1 1 (u := .int .i64 0) rfl
  have m2 := cell_of' hy1 2 (u := .slice none 0 0) rfl
  have m3 := cell_of' hy1 3 (u := .int .i64 7) rfl
  have m4' := cell_of' hy1 4 (u := .int .i64 0) rfl
  have f0 := frozen_of hz1 0
  have f1 := frozen_of hz1 1
  have f2 := frozen_of hz1 2
  have f3 := frozen_of hz1 3
  have f4 := frozen_of hz1 4
  have HZ1 := Lib.hid hz1
  have h8 := five_heap HZ1.out (.int .i64 0) (.int .i64 0) (.slice none 0 0) (.int .i64 7) (.int .i64 0)
  have HB8 := Lib.hid (five_below HB1.out (k := mb + 1 + 1) (by have := HMB.out; omega) (.int .i64 0) (.int .i64 0) (.slice none 0 0) (.int .i64 7) (.int .i64 0))
  unfold five at h8 HB8
  have HH8 := Lib.hid h8
  clear hb1 a0 a2 hsz hz1 hy1 h8
  go_wp2_with fail
  have y0 := cell_of' HH8.out 0 (u := .int .i64 0) rfl
  have y1 := cell_of' HH8.out 1 (u := .int .i64 0) rfl
  have y2 := cell_of' HH8.out 2 (u := .slice none 0 0) rfl
  have y3 := cell_of' HH8.out 3 (u := .int .i64 7) rfl
  have y4 := cell_of' HH8.out 4 (u := .int .i64 0) rfl
  refine bodyPost_ret (v := .agg #[.int .i64 0, .int .i64 0, .slice none 0 0, .int .i64 7, .int .i64 0]) (by simp [results, Tryz.results10, go_sem, y0, y1, y2, y3, y4]) rfl ?_
  rw [HMB.out]
  exact ⟨rfl, HB8.out⟩
end Go.Proofs.YtmdceokmpjcllaaGreatDoor
