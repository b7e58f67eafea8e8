/-
  The walk of VmIdle.
-/
import Derived.Test.YtmdceokmpjcllaaGreatDoorVmH
namespace Go.Proofs.YtmdceokmpjcllaaGreatDoor
open Go.RowKit
attribute [local go_sem ↓] Go.wp_at_zero Go.wp_at_succ

set_option maxRecDepth 100000 in
set_option maxHeartbeats 8000000 in
theorem idle_any (L c : Nat) (hL : L ≤ 255) (hc : c ≤ 255) (w : World) (hsg : Signs w) : Calls Tryz.prog 3 #[.int .u8 (L : Int), .int .u8 (c : Int)] w fun e w' => e = .returned (.bool true) ∧ Below w.heap.size w w' := by
  have HH := Lib.hid (head14 w hsg)
  have HSG := Lib.hid hsg
  have HC := Lib.hid hc
  have HL := Lib.hid hL
  have k1 : IntKind.i64.wrap (c : Int) = c := IntWalk.i64_in _ (by omega)
  have k2 : IntKind.i64.wrap (L : Int) = L := IntWalk.i64_in _ (by omega)
  clear hsg hc hL
  go_enter Tryz.func3, Tryz.ntmps3
  go_wp2_with fail
  refine HH.out.mono ?_
  rintro e w1 ⟨rfl, hb1⟩
  have HB1 := Lib.hid hb1
  have HS1 := Lib.hid (HSG.out.below hb1)
  clear hb1
  go_wp2_with fail
  have hA : Below w1.heap.size w1 ((w1.alloc (.cells #[.int .i64 1, .int .i64 (c : Int), .int .i64 15, .int .i64 0] 25)).alloc (.cells #[.string ⟨#[102]⟩, .slice none 0 0, .int .i64 0, .int .i64 0, .slice (some ⟨w1.heap.size, 0, none⟩) 2 2] 30)) := up_alloc (up_alloc (Below.refl _ _) _) _
  have h0 : ((w1.alloc (.cells #[.int .i64 1, .int .i64 (c : Int), .int .i64 15, .int .i64 0] 25)).alloc (.cells #[.string ⟨#[102]⟩, .slice none 0 0, .int .i64 0, .int .i64 0, .slice (some ⟨w1.heap.size, 0, none⟩) 2 2] 30)).heap[w1.heap.size]? = _ := old_heap _ _ _ _ (new_heap _ _ _ rfl)
  have h1 : ((w1.alloc (.cells #[.int .i64 1, .int .i64 (c : Int), .int .i64 15, .int .i64 0] 25)).alloc (.cells #[.string ⟨#[102]⟩, .slice none 0 0, .int .i64 0, .int .i64 0, .slice (some ⟨w1.heap.size, 0, none⟩) 2 2] 30)).heap[w1.heap.size + 1]? = _ := new_heap _ _ _ (size_alloc _ _)
  have hsz : ((w1.alloc (.cells #[.int .i64 1, .int .i64 (c : Int), .int .i64 15, .int .i64 0] 25)).alloc (.cells #[.string ⟨#[102]⟩, .slice none 0 0, .int .i64 0, .int .i64 0, .slice (some ⟨w1.heap.size, 0, none⟩) 2 2] 30)).heap.size = w1.heap.size + 1 + 1 := by simp only [size_alloc]
  generalize ((w1.alloc (.cells #[.int .i64 1, .int .i64 (c : Int), .int .i64 15, .int .i64 0] 25)).alloc (.cells #[.string ⟨#[102]⟩, .slice none 0 0, .int .i64 0, .int .i64 0, .slice (some ⟨w1.heap.size, 0, none⟩) 2 2] 30)) = wA at *
  refine (new_nil _).mono ?_
  rintro e w2 ⟨rfl, hw2⟩
  have hb2 : Below wA.heap.size wA w2 := by rw [hw2]; exact up_alloc (Below.refl _ _) _
  have j2 : w2.cell? ⟨wA.heap.size, 1, none⟩ = some (.slice none 0 0) := by rw [hw2]; exact new_cell _ _ _ _ 1 _ rfl rfl
  have z0 := (hb2.block _ (lt_of_block h0)).trans h0
  have z1 := (hb2.block _ (lt_of_block h1)).trans h1
  generalize wA.heap.size = jb at *
  generalize hSS : w1.heap.size = S at *
  have a0 := cell_of' z1 0 (u := .string ⟨#[102]⟩) rfl
  have a1 := cell_of' z1 1 (u := .slice none 0 0) rfl
  have a2 := cell_of' z1 2 (u := .int .i64 0) rfl
  have a3 := cell_of' z1 3 (u := .int .i64 0) rfl
  have a4 := cell_of' z1 4 (u := .slice (some ⟨S, 0, none⟩) 2 2) rfl
  have HB2 : Hid (Below w.heap.size w w2) := Lib.hid (HB1.out.trans (Below.trans (hA.mono (by rw [← hSS]; exact HB1.out.size)) (hb2.mono (by have := HB1.out.size; omega))))
  have hc3 : Below w2.heap.size w2 (w2.alloc (.cells #[.string ⟨#[102]⟩, .slice none 0 0, .int .i64 0, .int .i64 0, .slice (some ⟨S, 0, none⟩) 2 2] 30)) := up_alloc (Below.refl _ _) _
  have hO : OneAt S w2.heap.size (cI c) (w2.alloc (.cells #[.string ⟨#[102]⟩, .slice none 0 0, .int .i64 0, .int .i64 0, .slice (some ⟨S, 0, none⟩) 2 2] 30)) := one_at (old_heap _ _ _ _ z0) rfl (by show (0 : Nat) < 2; decide) (by show (2 : Nat) ≤ 100000; decide) (fun x hx => by simp [idIns] at hx; have := HC.out; rcases hx with rfl | rfl <;> exact ⟨by constructor <;> (dsimp only; decide), by constructor <;> (dsimp only; omega)⟩) (by constructor <;> decide) (new_heap _ _ _ rfl) rfl (HSG.out.below (up_alloc HB2.out _))
  have hj3 := old_cell (.cells #[.string ⟨#[102]⟩, .slice none 0 0, .int .i64 0, .int .i64 0, .slice (some ⟨S, 0, none⟩) 2 2] 30) j2
  have HR := Lib.hid (run_idle S w2.heap.size jb c L HC.out HL.out _ hO hj3)
  have HB3 := Lib.hid (up_alloc HB2.out (.cells #[.string ⟨#[102]⟩, .slice none 0 0, .int .i64 0, .int .i64 0, .slice (some ⟨S, 0, none⟩) 2 2] 30))
  clear hw2 hb2 z0 z1 hsz h0 h1 hA hO hj3 hc3 j2 hSS
  go_wp2_with fail
  refine HR.out.mono ?_
  rintro e w3 ⟨rfl, hb3⟩
  have HB4 := Lib.hid (up_trans HB3.out hb3)
  have n0 := new_cell w3 #[.int .i64 0, .int .i64 0, .slice none 0 0, .int .i64 1, .int .i64 (L : Int)] 38 _ 3 (.int .i64 1) rfl rfl
  have n1 := new_cell w3 #[.int .i64 0, .int .i64 0, .slice none 0 0, .int .i64 1, .int .i64 (L : Int)] 38 _ 4 (.int .i64 (L : Int)) rfl rfl
  clear hb3 a0 a1 a2 a3 a4
  go_wp2_with fail
  go_ret
  exact ⟨rfl, up_alloc HB4.out _⟩
end Go.Proofs.YtmdceokmpjcllaaGreatDoor
