/-
  Numbers that are added.
-/
import Derived.Test.YtmdceokmpjcllaaGreatDoorVerifyG
import Derived.Laws.EntriesVeiled
namespace Go.Proofs.YtmdceokmpjcllaaGreatDoor
open Go.RowKit
attribute [local go_sem ↓] Go.wp_at_zero Go.wp_at_succ

/-- a number as a value -/
def numV (n : Int) : Value := .agg #[.int .i64 1, .int .i64 n, .slice none 0 0]
set_option maxHeartbeats 4000000 in
theorem num_any (n : Int) (w : World) : Calls Tryz.prog 63 #[.int .i64 n] w fun e w' => e = .returned (numV n) ∧ Below w.heap.size w w' := by
  unfold numV
  go_enter Tryz.func63, Tryz.ntmps63
  go_wp2_with fail
  exact bodyPost_ret (v := .agg #[.int .i64 1, .int .i64 n, .slice none 0 0]) (by simp [results, Tryz.results63, go_sem]) rfl ⟨rfl, (Below.refl _ _).alloc (Nat.le_refl _) _⟩
set_option maxHeartbeats 4000000 in
theorem in_yes (n : Int) (w : World) : Calls Tryz.prog 139 #[.int .i64 n, .bool true] w fun e w' => e = .returned (.tuple #[.int .i64 n, .int .i64 0]) ∧ w = w' := by
  go_enter Tryz.func139, Tryz.ntmps139
  go_wp2_with fail
  exact bodyPost_ret (v := .tuple #[.int .i64 n, .int .i64 0]) (by simp [results, Tryz.results139, go_sem]) rfl ⟨rfl, rfl⟩
set_option maxRecDepth 100000 in
set_option maxHeartbeats 4000000 in
theorem sum_any (a b : Int) (w : World) (ha : 0 ≤ a) (hb : 0 ≤ b) (h : a + b ≤ 9223372036854775807) : Calls Tryz.prog 138 #[.int .i64 a, .int .i64 b] w fun e w' => e = .returned (.tuple #[.int .i64 (a + b), .int .i64 0]) ∧ w = w' := by
  have g1 : IntKind.i64.wrap (a + b) = a + b := IntWalk.i64_in _ (by omega)
  have g2 : a ≤ a + b := by omega
  have HIN := Lib.hid (in_yes (a + b) w)
  go_enter Tryz.func138, Tryz.ntmps138
  go_wp2_with fail
  refine HIN.out.mono ?_
  rintro e w' ⟨rfl, rfl⟩
  go_wp2_with fail
  exact bodyPost_ret (v := .tuple #[.int .i64 (a + b), .int .i64 0]) (by simp [results, Tryz.results138, go_sem]) rfl ⟨rfl, rfl⟩
/-- the row of plus -/
def plusV : Value := .agg #[.func (.func 138) #[] #[], .nilFunc, .nilFunc, .nilFunc]
theorem cell_of' {w : World} {k : Nat} {arr : Array Value} {t : TypeId} {fz : Nat × Nat} (h : w.heap[k]? = some (.cells arr t fz)) (j : Nat) {u : Value} (hu : arr[j]? = some u) : w.cell? ⟨k, j, none⟩ = some u := by
  unfold World.cell?
  simp only [h]
  exact hu
set_option maxRecDepth 100000 in
set_option maxHeartbeats 4000000 in
theorem of_plus (w : World) : Calls Tryz.prog 123 #[.string ⟨#[43]⟩] w fun e w' => e = .returned plusV ∧ Below w.heap.size w w' := by
  have n0 := new_cell w #[.nilFunc, .nilFunc, .nilFunc, .nilFunc] 169 _ 0 .nilFunc rfl rfl
  have n1 := new_cell w #[.nilFunc, .nilFunc, .nilFunc, .nilFunc] 169 _ 1 .nilFunc rfl rfl
  have n2 := new_cell w #[.nilFunc, .nilFunc, .nilFunc, .nilFunc] 169 _ 2 .nilFunc rfl rfl
  have n3 := new_cell w #[.nilFunc, .nilFunc, .nilFunc, .nilFunc] 169 _ 3 .nilFunc rfl rfl
  have hz := new_heap w (.cells #[.nilFunc, .nilFunc, .nilFunc, .nilFunc] 169) w.heap.size rfl
  have z0 := frozen_of hz 0
  have z1 := frozen_of hz 1
  have z2 := frozen_of hz 2
  have z3 := frozen_of hz 3
  clear hz
  go_enter Tryz.func123, Tryz.ntmps123
  go_wp2_with fail
  refine bodyPost_ret (v := plusV) (by unfold plusV; simp [results, Tryz.results123, go_sem]) rfl ⟨rfl, ?_⟩
  repeat (first | exact Below.refl _ _ | refine Below.setCell ?_ (Nat.le_refl _) _ | refine Below.alloc ?_ (Nat.le_refl _) _)
set_option maxRecDepth 100000 in
set_option maxHeartbeats 4000000 in
theorem two_plus (a b : Int) (ta tb : Value) (w : World) (ha : 0 ≤ a) (hb : 0 ≤ b) (h : a + b ≤ 9223372036854775807) :
    Calls Tryz.prog 96 #[.string ⟨#[43]⟩, .agg #[.int .i64 1, .int .i64 a, ta], .agg #[.int .i64 1, .int .i64 b, tb]] w fun e w' => e = .returned (.tuple #[numV (a + b), .int .i64 0]) ∧ Below w.heap.size w w' := by
  have HOF := Lib.hid of_plus
  have hnn : ∀ W : World, (binOp .neq 164 (.func (.func 138) #[] #[]) .nilFunc).run Tryz.prog W = .ok (.bool true) W := fun _ => by kernel_rfl
  have HSUM := Lib.hid (fun w => sum_any a b w ha hb h)
  have HNUM := Lib.hid (num_any (a + b))
  have hcf : ∀ args W, Sem.run Tryz.prog (callFunc 138 args) W = .ok (.enter 138 args) W := fun _ _ => Tryz.call138 _ _
  clear ha hb h
  generalize a + b = c at *
  unfold plusV at HOF
  unfold numV at *
  go_enter Tryz.func96, Tryz.ntmps96
  go_wp2_with fail
  refine (HOF.out _).mono ?_
  rintro e w1 ⟨rfl, hb1⟩
  have HA : ∀ j u, #[Value.int .i64 1, .int .i64 a, ta][j]? = some u → w1.cell? ⟨w.heap.size, j, none⟩ = some u := fun j u h => (hb1.cell (p := ⟨w.heap.size, j, none⟩) (by simp only [size_alloc] <;> omega)).trans (old_cell _ (old_cell _ (new_cell _ _ _ _ j u rfl h)))
  have HB : ∀ j u, #[Value.int .i64 1, .int .i64 b, tb][j]? = some u → w1.cell? ⟨w.heap.size + 1, j, none⟩ = some u := fun j u h => (hb1.cell (p := ⟨w.heap.size + 1, j, none⟩) (by simp only [size_alloc] <;> omega)).trans (old_cell _ (new_cell _ _ _ _ j u (size_alloc _ _) h))
  have hz := (hb1.block (w.heap.size + 1 + 1) (by simp only [size_alloc] <;> omega)).trans (new_heap _ _ _ (by simp only [size_alloc]))
  have HZ := Lib.hid hz
  have p0 := HA 0 (.int .i64 1) rfl
  have p1 := HA 1 (.int .i64 a) rfl
  have r0 := HB 0 (.int .i64 1) rfl
  have r1 := HB 1 (.int .i64 b) rfl
  have q0 := cell_of' hz 0 (u := .int .i64 0) rfl
  have q1 := cell_of' hz 1 (u := .int .i64 0) rfl
  have q2 := cell_of' hz 2 (u := .slice none 0 0) rfl
  have l1 := lt_of_cell p0
  have l2 := lt_of_cell r0
  have l3 := lt_of_cell q0
  have f0 := frozen_of hz 0
  have f1 := frozen_of hz 1
  have f2 := frozen_of hz 2
  have HB1 := Lib.hid hb1
  have k0 := new_cell w1 #[.nilFunc, .nilFunc, .nilFunc, .nilFunc] 169 _ 0 .nilFunc rfl rfl
  have k1 := new_cell w1 #[.nilFunc, .nilFunc, .nilFunc, .nilFunc] 169 _ 1 .nilFunc rfl rfl
  have k2 := new_cell w1 #[.nilFunc, .nilFunc, .nilFunc, .nilFunc] 169 _ 2 .nilFunc rfl rfl
  have k3 := new_cell w1 #[.nilFunc, .nilFunc, .nilFunc, .nilFunc] 169 _ 3 .nilFunc rfl rfl
  clear hb1 HA HB hz
  go_wp2_with fail
  refine (HSUM.out _).mono ?_
  rintro e w2 ⟨rfl, rfl⟩
  go_wp2_with fail
  refine (HNUM.out _).mono ?_
  rintro e w3 ⟨rfl, hb3⟩
  have hz3 := (hb3.block (w.heap.size + 1 + 1) (by rw [size_alloc]; omega)).trans (old_heap _ _ _ _ HZ.out)
  have u0 := cell_of' hz3 0 (u := .int .i64 0) rfl
  have u1 := cell_of' hz3 1 (u := .int .i64 0) rfl
  have u2 := cell_of' hz3 2 (u := .slice none 0 0) rfl
  have v0 := frozen_of hz3 0
  have v1 := frozen_of hz3 1
  have v2 := frozen_of hz3 2
  have HB3 := Lib.hid hb3
  clear hb3 hz3 p0 p1 r0 r1 q0 q1 q2 f0 f1 f2
  go_wp2_with fail
  have t0 := cell_set_eq (.int .i64 1) u0
  have t1 := cell_set_eq (w := w3.setCell ⟨w.heap.size + 1 + 1, 0, none⟩ (.int .i64 1)) (.int .i64 c) ((cell_set_ne w3 _ (.inr (by omega))).trans u1)
  have t2 := cell_set_eq (w := (w3.setCell ⟨w.heap.size + 1 + 1, 0, none⟩ (.int .i64 1)).setCell ⟨w.heap.size + 1 + 1, 1, none⟩ (.int .i64 c)) (.slice none 0 0) ((cell_set_ne _ _ (.inr (by omega))).trans ((cell_set_ne w3 _ (.inr (by omega))).trans u2))
  refine bodyPost_ret (v := .tuple #[.agg #[.int .i64 1, .int .i64 c, .slice none 0 0], .int .i64 0]) (by simp [results, Tryz.results96, go_sem, t0, t1, t2]) rfl ⟨rfl, ?_⟩
  have q1 := (up_alloc (up_alloc (up_alloc (Below.refl w.heap.size w) _) _) _).trans (HB1.out.mono (by simp only [size_alloc] <;> omega))
  have q2 := (up_alloc q1 _).trans (HB3.out.mono (by simp only [size_alloc] <;> omega))
  exact up_set (up_set (up_set q2 (p := ⟨w.heap.size + 1 + 1, 0, none⟩) (by show _ ≤ w.heap.size + 1 + 1; omega) _) (p := ⟨w.heap.size + 1 + 1, 1, none⟩) (by show _ ≤ w.heap.size + 1 + 1; omega) _) (p := ⟨w.heap.size + 1 + 1, 2, none⟩) (by show _ ≤ w.heap.size + 1 + 1; omega) _
end Go.Proofs.YtmdceokmpjcllaaGreatDoor
