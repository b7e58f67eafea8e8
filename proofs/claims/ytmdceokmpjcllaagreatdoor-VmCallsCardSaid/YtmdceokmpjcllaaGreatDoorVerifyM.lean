/-
  What a sign makes of two types, and small things of the verifier.
-/
import Derived.Test.YtmdceokmpjcllaaGreatDoorVerifyT
namespace Go.Proofs.YtmdceokmpjcllaaGreatDoor
open Go.RowKit
attribute [local go_sem ↓] Go.wp_at_zero Go.wp_at_succ

def inB (a many : Int) : Bool := decide (0 ≤ a) && decide (a < many)
theorem in_any (a many : Int) (w : World) : Calls Tryz.prog 58 #[.int .i64 a, .int .i64 many] w fun e w' => e = .returned (.bool (inB a many)) ∧ w' = w := by
  by_cases h0 : 0 ≤ a
  · by_cases h1 : a < many
    · have e : inB a many = true := by simp [inB, h0, h1]
      rw [e]
      go_enter Tryz.func58, Tryz.ntmps58
      go_wp2_with fail
      go_ret
      exact ⟨rfl, rfl⟩
    · have e : inB a many = false := by simp [inB, h1]
      rw [e]
      go_enter Tryz.func58, Tryz.ntmps58
      go_wp2_with fail
      go_ret
      exact ⟨rfl, rfl⟩
  · have e : inB a many = false := by simp [inB, h0]
    rw [e]
    go_enter Tryz.func58, Tryz.ntmps58
    go_wp2_with fail
    go_ret
    exact ⟨rfl, rfl⟩

/-- what a sign makes of two types -/
def madeB (l : List UInt8) (a b : Int) : Int :=
  if a = b then
    if l = [43] then (if a = 1 ∨ a = 3 then a else 0)
    else if l = [45] ∨ l = [42] ∨ l = [47] ∨ l = [37] then (if a = 1 then a else 0)
    else if l = [60] ∨ l = [60, 61] ∨ l = [62] ∨ l = [62, 61] then (if a = 1 then 2 else 0)
    else if l = [61, 61] ∨ l = [33, 61] then (if 1 ≤ a ∧ a ≤ 3 then 2 else 0)
    else 0
  else 0

set_option maxHeartbeats 2000000 in
theorem made_any (s : ByteArray) (a b : Int) (w : World) : Calls Tryz.prog 90 #[.string s, .int .i64 a, .int .i64 b] w fun e w' => e = .returned (.int .i64 (madeB s.toList a b)) ∧ w' = w := by
  go_enter Tryz.func90, Tryz.ntmps90
  go_wp2_with fail
  all_goals (go_ret; refine ⟨ret_int ?_, rfl⟩; simp_all [madeB] <;> omega)

/-- the signs, by their numbers -/
def signRow : List ByteArray := [⟨#[]⟩, ⟨#[43]⟩, ⟨#[45]⟩, ⟨#[42]⟩, ⟨#[47]⟩, ⟨#[37]⟩, ⟨#[60]⟩, ⟨#[60, 61]⟩, ⟨#[62]⟩, ⟨#[62, 61]⟩, ⟨#[61, 61]⟩, ⟨#[33, 61]⟩, ⟨#[33]⟩]
def signS (n : Int) : ByteArray := if 0 ≤ n ∧ n < 13 then signRow.getD n.toNat ⟨#[]⟩ else ⟨#[]⟩
def Signs (w : World) : Prop := ∀ i, i < 13 → w.cell? ⟨1, i, none⟩ = some (.string (signRow.getD i ⟨#[]⟩))
theorem Signs.of {w w' : World} (h : Signs w) (hk : w'.heap[1]? = w.heap[1]?) : Signs w' := fun i hi => (World.cell?_of_block (w := w) hk).trans (h i hi)
theorem Signs.below {w w' : World} (h : Signs w) (hb : Below w.heap.size w w') : Signs w' := h.of (hb.block 1 (lt_of_cell (h 0 (by omega))))
theorem Signs.on {w w' : World} {k : Nat} (h : Signs w) (hb : On k w w') (hk : 1 ≠ k) : Signs w' := h.of (hb.block 1 (lt_of_cell (h 0 (by omega))) (fun e => hk (by injection e)))

theorem sign_any (n : Int) (w : World) (hs : Signs w) : Calls Tryz.prog 68 #[.int .i64 n] w fun e w' => e = .returned (.string (signS n)) ∧ w' = w := by
  by_cases h0 : 0 ≤ n
  · by_cases h1 : n < 13
    · obtain ⟨k, rfl⟩ := Int.eq_ofNat_of_zero_le h0
      have hc := hs k (by omega)
      have e : signS (k : Int) = signRow.getD k ⟨#[]⟩ := by simp [signS, h1]
      rw [e]
      clear e hs
      generalize signRow.getD k ⟨#[]⟩ = s at *
      go_enter Tryz.func68, Tryz.ntmps68
      go_wp2_with fail
      go_ret
      exact ⟨rfl, rfl⟩
    · have e : signS n = ⟨#[]⟩ := by simp [signS, h1]
      rw [e]
      clear e
      go_enter Tryz.func68, Tryz.ntmps68
      go_wp2_with fail
      go_ret
      exact ⟨rfl, rfl⟩
  · have e : signS n = ⟨#[]⟩ := by simp [signS, h0]
    rw [e]
    clear e
    go_enter Tryz.func68, Tryz.ntmps68
    go_wp2_with fail
    go_ret
    exact ⟨rfl, rfl⟩
end Go.Proofs.YtmdceokmpjcllaaGreatDoor
