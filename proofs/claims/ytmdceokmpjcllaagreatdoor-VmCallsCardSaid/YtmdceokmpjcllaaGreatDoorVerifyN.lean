/-
  What comes behind an instruction.
-/
import Derived.Test.YtmdceokmpjcllaaGreatDoorVerifyM
namespace Go.Proofs.YtmdceokmpjcllaaGreatDoor
open Go.RowKit
attribute [local go_sem ↓] Go.wp_at_zero Go.wp_at_succ

/-- what comes behind an instruction -/
def behindL (at_ : Int) (i : Ins) : List Int := if i.op = 18 then [] else if i.op = 15 then [i.a] else if i.op = 16 then [i.a, at_ + 1] else [at_ + 1]
/-- a list of numbers lies there -/
def NumsAt (w : World) (v : Value) (l : List Int) : Prop :=
  ∃ s0, v = .slice s0 l.length l.length ∧ (0 < l.length → ∃ b, s0 = some ⟨b, 0, none⟩ ∧ (∃ arr fz, w.heap[b]? = some (.cells arr 2 fz)) ∧ ∀ i, i < l.length → w.cell? ⟨b, i, none⟩ = some (.int .i64 (l.getD i 0)))

theorem size_alloc (W : World) (o : Obj) : (W.alloc o).heap.size = W.heap.size + 1 := by
  show (W.heap.push o).size = _
  simp
theorem new_cell (W : World) (arr : Array Value) (t : TypeId) (n i : Nat) (u : Value) (hn : W.heap.size = n) (hu : arr[i]? = some u) : (W.alloc (.cells arr t)).cell? ⟨n, i, none⟩ = some u := by
  subst hn
  have h : (W.alloc (.cells arr t)).heap[W.heap.size]? = some (.cells arr t (0, 0)) := by
    show (W.heap.push _)[W.heap.size]? = _
    simp
  unfold World.cell?
  simp only [h]
  exact hu
theorem new_obj (W : World) (arr : Array Value) (t : TypeId) {n : Nat} (hn : W.heap.size = n) : ∃ a fz, (W.alloc (.cells arr t)).heap[n]? = some (.cells a t fz) := by
  subst hn
  refine ⟨arr, (0, 0), ?_⟩
  show (W.heap.push _)[W.heap.size]? = _
  simp
theorem nums_one (W : World) (x : Int) (n : Nat) (hn : W.heap.size = n) : NumsAt (W.alloc (.cells #[.int .i64 x] 2)) (.slice (some ⟨n, 0, none⟩) 1 1) [x] :=
  ⟨_, rfl, fun _ => ⟨_, rfl, new_obj _ _ _ hn, fun i hi => by
    obtain rfl : i = 0 := by simpa using hi
    exact new_cell _ _ _ _ _ _ hn rfl⟩⟩
theorem nums_two (W : World) (x y : Int) (n : Nat) (hn : W.heap.size = n) : NumsAt (W.alloc (.cells #[.int .i64 x, .int .i64 y] 2)) (.slice (some ⟨n, 0, none⟩) 2 2) [x, y] :=
  ⟨_, rfl, fun _ => ⟨_, rfl, new_obj _ _ _ hn, fun i hi => by
    have hi2 : i < 2 := by simpa using hi
    rcases (show i = 0 ∨ i = 1 by omega) with rfl | rfl
    · exact new_cell _ _ _ _ _ _ hn rfl
    · exact new_cell _ _ _ _ _ _ hn rfl⟩⟩

theorem behind_any (p o a : Int) (w : World) (hp : 0 ≤ p ∧ p ≤ 1000000000) :
    Calls Tryz.prog 57 #[.int .i64 p, .agg #[.int .i64 o, .int .i64 a]] w fun e w' => ∃ v, e = .returned v ∧ NumsAt w' v (behindL p ⟨o, a⟩) ∧ Below w.heap.size w w' := by
  have g1 : IntKind.i64.wrap (p + 1) = p + 1 := IntWalk.i64_in _ (by omega)
  clear hp
  by_cases h1 : o = 18
  · subst h1
    rw [show behindL p ⟨18, a⟩ = [] from rfl]
    go_enter Tryz.func57, Tryz.ntmps57
    go_wp2_with fail
    go_ret
    exact ⟨_, rfl, ⟨none, rfl, fun h => by simp at h⟩, up_alloc (Below.refl _ _) _⟩
  by_cases h2 : o = 15
  · subst h2
    rw [show behindL p ⟨15, a⟩ = [a] from rfl]
    clear h1
    go_enter Tryz.func57, Tryz.ntmps57
    go_wp2_with fail
    go_ret
    refine ⟨_, rfl, ?_, ?_⟩
    · exact nums_one _ _ _ (size_alloc _ _)
    · exact up_alloc (up_alloc (Below.refl _ _) _) _
  by_cases h3 : o = 16
  · subst h3
    rw [show behindL p ⟨16, a⟩ = [a, p + 1] from rfl]
    clear h1 h2
    go_enter Tryz.func57, Tryz.ntmps57
    go_wp2_with fail
    go_ret
    refine ⟨_, rfl, ?_, ?_⟩
    · exact nums_two _ _ _ _ (size_alloc _ _)
    · exact up_alloc (up_alloc (Below.refl _ _) _) _
  · rw [show behindL p ⟨o, a⟩ = [p + 1] by simp [behindL, h1, h2, h3]]
    go_enter Tryz.func57, Tryz.ntmps57
    go_wp2_with fail
    go_ret
    refine ⟨_, rfl, ?_, ?_⟩
    · exact nums_one _ _ _ (size_alloc _ _)
    · exact up_alloc (up_alloc (Below.refl _ _) _) _
end Go.Proofs.YtmdceokmpjcllaaGreatDoor
