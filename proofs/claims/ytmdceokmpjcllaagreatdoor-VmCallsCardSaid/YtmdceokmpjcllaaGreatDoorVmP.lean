/-
  Functions without jumps: what safe answers.
-/
import Derived.Test.YtmdceokmpjcllaaGreatDoorVmL
namespace Go.Proofs.YtmdceokmpjcllaaGreatDoor
open Go.RowKit

/-- the table behind the first k instructions of a function without jumps -/
def rowTab (S : Nat → Sta) (k : Nat) : Tab := fun i => if i ≤ k then some (S i) else none
theorem rowTab_zero (c : Cd) (S : Nat → Sta) (h : S 0 = ⟨[], fun j => c.params.getD j 0⟩) : rowTab S 0 = tab0 c := by
  funext i
  unfold rowTab tab0 upd
  by_cases e : i = 0
  · subst e; simp [h]
  · rw [if_neg (by omega), if_neg e]
theorem rowTab_succ (S : Nat → Sta) (k : Nat) : upd (rowTab S k) (k + 1) (S (k + 1)) = rowTab S (k + 1) := by
  funext i
  unfold upd rowTab
  by_cases e : i = k + 1
  · subst e; rw [if_pos rfl, if_pos (Nat.le_refl _)]
  · rw [if_neg e]
    by_cases h : i ≤ k
    · rw [if_pos h, if_pos (by omega)]
    · rw [if_neg h, if_neg (by omega)]
theorem row_step (c : Cd) (m : Mdl) (S : Nat → Sta) (k : Nat) (hk : k + 1 < c.ins.length) (hop : (c.ins.getD k default).op ≠ 18 ∧ (c.ins.getD k default).op ≠ 15 ∧ (c.ins.getD k default).op ≠ 16)
    (hd : doesS c m (c.ins.getD k default) (S k) = some (S (k + 1))) (hl : (S (k + 1)).st.length ≤ 2100) : stepW c m (rowTab S k, [k]) = .inl (rowTab S (k + 1), [k + 1]) := by
  have hb : behindL (k : Int) (c.ins.getD k default) = [(k : Int) + 1] := by unfold behindL; rw [if_neg hop.1, if_neg hop.2.1, if_neg hop.2.2]
  have h1 : rowTab S k k = some (S k) := by simp [rowTab]
  have h2 : rowTab S k (k + 1) = none := by simp [rowTab]
  have hin : inB ((k : Int) + 1) c.ins.length = true := by simp [inB]; omega
  have hnat : ((k : Int) + 1).toNat = k + 1 := by omega
  have hf : foldTo c.ins.length (S (k + 1)) [(k : Int) + 1] (rowTab S k, []) = some (rowTab S (k + 1), [k + 1]) := by
    simp only [foldTo, stepTo, hin, if_true, hnat, h2, rowTab_succ]
    rfl
  rw [show ([k] : List Nat) = [] ++ [k] from rfl, stepW_at c m _ [] k (S k) h1, hd]
  simp only [if_neg (Nat.not_lt.2 hl), hb, hf]
  rfl
theorem row_run (c : Cd) (m : Mdl) (S : Nat → Sta) (h0 : S 0 = ⟨[], fun j => c.params.getD j 0⟩) (b : Bool) (k : Nat) (hk : k < c.ins.length)
    (hop : ∀ j, j < k → (c.ins.getD j default).op ≠ 18 ∧ (c.ins.getD j default).op ≠ 15 ∧ (c.ins.getD j default).op ≠ 16)
    (hd : ∀ j, j < k → doesS c m (c.ins.getD j default) (S j) = some (S (j + 1))) (hl : ∀ j, j < k → (S (j + 1)).st.length ≤ 2100)
    (h : Done (stepW c m) (rowTab S k, [k]) b) : SafeIs c m b := by
  unfold SafeIs
  rw [if_neg (by omega), ← rowTab_zero c S h0]
  induction k with
  | zero => exact h
  | succ k ih =>
    exact ih (by omega) (fun j hj => hop j (by omega)) (fun j hj => hd j (by omega)) (fun j hj => hl j (by omega))
      (.step (row_step c m S k hk (hop k (by omega)) (hd k (by omega)) (hl k (by omega))) h)
theorem retS_len {c : Cd} {s u : Sta} (h : retS c s = some u) : u.st.length = 0 := by
  unfold retS at h
  obtain ⟨v, _, h⟩ := Option.bind_eq_some_iff.1 h
  split at h
  · rename_i h0
    injection h with h
    rw [← h]; exact h0
  · cases h
theorem row_end (c : Cd) (m : Mdl) (S : Nat → Sta) (k : Nat) (hop : (c.ins.getD k default).op = 18) : Done (stepW c m) (rowTab S k, [k]) (retS c (S k)).isSome := by
  have h1 : rowTab S k k = some (S k) := by simp [rowTab]
  have hb : behindL (k : Int) (c.ins.getD k default) = [] := by unfold behindL; rw [if_pos hop]
  have hd : doesS c m (c.ins.getD k default) (S k) = retS c (S k) := by
    generalize c.ins.getD k default = i at *
    simp [doesS, hop]
  refine .stop ?_
  rw [show ([k] : List Nat) = [] ++ [k] from rfl, stepW_at c m _ [] k (S k) h1, hd]
  cases hr : retS c (S k) with
  | none => rfl
  | some s =>
    have := retS_len hr
    simp only [if_neg (show ¬ 2100 < s.st.length by omega), hb, foldTo, if_true]
    rfl

/-! ### Rows of numbers -/
end Go.Proofs.YtmdceokmpjcllaaGreatDoor
