/-
  Functions without jumps: what 'safe' answers; rows of numbers.
-/
import Derived.Test.YtgogjdpjegfecaaDoorVerifyL
namespace Go.Proofs.YtgogjdpjegfecaaDoor
open Go.RowKit

/-- the table behind the first k instructions of a function without jumps -/
def rowTab (S : Nat → Sta) (k : Nat) : Tab := fun i => if i ≤ k then some (S i) else none
theorem rowTab_zero (c : Cd) (S : Nat → Sta) (h : S 0 = ⟨[], fun j => c.params.getD j 0⟩) : rowTab S 0 = tab0 c := by
  funext i
  unfold rowTab tab0 upd
  by_cases e : i = 0
  · subst e; simp [h]
  · rw [if_neg (by omega), if_neg e]
theorem rowTab_succ (S : Nat → Sta) (k : Nat) : upd (rowTab S k) (k + 1) (S (k + 1)) = rowTab S (k + 1) := by
  funext i
  unfold upd rowTab
  by_cases e : i = k + 1
  · subst e; rw [if_pos rfl, if_pos (Nat.le_refl _)]
  · rw [if_neg e]
    by_cases h : i ≤ k
    · rw [if_pos h, if_pos (by omega)]
    · rw [if_neg h, if_neg (by omega)]
theorem row_step (c : Cd) (m : Mdl) (S : Nat → Sta) (k : Nat) (hk : k + 1 < c.ins.length) (hop : (c.ins.getD k default).op ≠ 18 ∧ (c.ins.getD k default).op ≠ 15 ∧ (c.ins.getD k default).op ≠ 16)
    (hd : doesS c m (c.ins.getD k default) (S k) = some (S (k + 1))) (hl : (S (k + 1)).st.length ≤ 2100) : stepW c m (rowTab S k, [k]) = .inl (rowTab S (k + 1), [k + 1]) := by
  have hb : behindL (k : Int) (c.ins.getD k default) = [(k : Int) + 1] := by unfold behindL; rw [if_neg hop.1, if_neg hop.2.1, if_neg hop.2.2]
  have h1 : rowTab S k k = some (S k) := by simp [rowTab]
  have h2 : rowTab S k (k + 1) = none := by simp [rowTab]
  have hin : inB ((k : Int) + 1) c.ins.length = true := by simp [inB]; omega
  have hnat : ((k : Int) + 1).toNat = k + 1 := by omega
  have hf : foldTo c.ins.length (S (k + 1)) [(k : Int) + 1] (rowTab S k, []) = some (rowTab S (k + 1), [k + 1]) := by
    simp only [foldTo, stepTo, hin, if_true, hnat, h2, rowTab_succ]
    rfl
  rw [show ([k] : List Nat) = [] ++ [k] from rfl, stepW_at c m _ [] k (S k) h1, hd]
  simp only [if_neg (Nat.not_lt.2 hl), hb, hf]
  rfl
theorem row_run (c : Cd) (m : Mdl) (S : Nat → Sta) (h0 : S 0 = ⟨[], fun j => c.params.getD j 0⟩) (b : Bool) (k : Nat) (hk : k < c.ins.length)
    (hop : ∀ j, j < k → (c.ins.getD j default).op ≠ 18 ∧ (c.ins.getD j default).op ≠ 15 ∧ (c.ins.getD j default).op ≠ 16)
    (hd : ∀ j, j < k → doesS c m (c.ins.getD j default) (S j) = some (S (j + 1))) (hl : ∀ j, j < k → (S (j + 1)).st.length ≤ 2100)
    (h : Done (stepW c m) (rowTab S k, [k]) b) : SafeIs c m b := by
  unfold SafeIs
  rw [if_neg (by omega), ← rowTab_zero c S h0]
  induction k with
  | zero => exact h
  | succ k ih =>
    exact ih (by omega) (fun j hj => hop j (by omega)) (fun j hj => hd j (by omega)) (fun j hj => hl j (by omega))
      (.step (row_step c m S k hk (hop k (by omega)) (hd k (by omega)) (hl k (by omega))) h)
theorem retS_len {c : Cd} {s u : Sta} (h : retS c s = some u) : u.st.length = 0 := by
  unfold retS at h
  obtain ⟨v, _, h⟩ := Option.bind_eq_some_iff.1 h
  split at h
  · rename_i h0
    injection h with h
    rw [← h]; exact h0
  · cases h
theorem row_end (c : Cd) (m : Mdl) (S : Nat → Sta) (k : Nat) (hop : (c.ins.getD k default).op = 18) : Done (stepW c m) (rowTab S k, [k]) (retS c (S k)).isSome := by
  have h1 : rowTab S k k = some (S k) := by simp [rowTab]
  have hb : behindL (k : Int) (c.ins.getD k default) = [] := by unfold behindL; rw [if_pos hop]
  have hd : doesS c m (c.ins.getD k default) (S k) = retS c (S k) := by
    generalize c.ins.getD k default = i at *
    simp [doesS, hop]
  refine .stop ?_
  rw [show ([k] : List Nat) = [] ++ [k] from rfl, stepW_at c m _ [] k (S k) h1, hd]
  cases hr : retS c (S k) with
  | none => rfl
  | some s =>
    have := retS_len hr
    simp only [if_neg (show ¬ 2100 < s.st.length by omega), hb, foldTo, if_true]
    rfl

/-! ### Rows of numbers -/
def rowIns (n : Nat) (e : Bool) : List Ins := (List.range n).map (fun (i : Nat) => (⟨2, i⟩ : Ins)) ++ List.replicate n ⟨17, 0⟩ ++ (if e then [⟨2, 0⟩] else []) ++ [⟨18, 0⟩]
def rowCd (n : Nat) (e r : Bool) : Cd := ⟨⟨#[102]⟩, [], if r then 1 else 0, 0, rowIns n e⟩
def rowS (n : Nat) (j : Nat) : Sta := ⟨List.replicate (if j ≤ n then j else if j ≤ 2 * n then 2 * n - j else 1) 1, fun j => ([] : List Int).getD j 0⟩
theorem rowIns_len (n : Nat) (e : Bool) : (rowIns n e).length = 2 * n + (if e then 2 else 1) := by
  unfold rowIns
  cases e <;> simp <;> omega
theorem rowIns_num {n i : Nat} (e : Bool) (h : i < n) : (rowIns n e).getD i default = ⟨2, i⟩ := by
  unfold rowIns
  rw [List.getD_eq_getElem?_getD, List.getElem?_append_left (by cases e <;> simp <;> omega), List.getElem?_append_left (by simp; omega), List.getElem?_append_left (by simpa using h)]
  simp [h]
theorem rowIns_drop {n i : Nat} (e : Bool) (h : n ≤ i) (h2 : i < 2 * n) : (rowIns n e).getD i default = ⟨17, 0⟩ := by
  unfold rowIns
  rw [List.getD_eq_getElem?_getD, List.getElem?_append_left (by cases e <;> simp <;> omega), List.getElem?_append_left (by simp; omega), List.getElem?_append_right (by simpa using h)]
  simp
  rw [List.getElem?_replicate, if_pos (by omega)]
  rfl
theorem rowIns_extra (n : Nat) : (rowIns n true).getD (2 * n) default = ⟨2, 0⟩ := by
  unfold rowIns
  rw [List.getD_eq_getElem?_getD, List.getElem?_append_left (by simp; omega), List.getElem?_append_right (by simp; omega)]
  simp
  rw [show 2 * n - (n + n) = 0 by omega]
  rfl
theorem rowIns_last (n : Nat) (e : Bool) : (rowIns n e).getD (2 * n + (if e then 1 else 0)) default = ⟨18, 0⟩ := by
  unfold rowIns
  rw [List.getD_eq_getElem?_getD, List.getElem?_append_right (by cases e <;> simp <;> omega)]
  have : (2 * n + if e = true then 1 else 0) - ((List.range n).map (fun (i : Nat) => (⟨2, i⟩ : Ins)) ++ List.replicate n (⟨17, 0⟩ : Ins) ++ (if e then [(⟨2, 0⟩ : Ins)] else [])).length = 0 := by cases e <;> simp <;> omega
  rw [this]
  rfl
theorem rowS_mid {n j : Nat} (h1 : n ≤ j) (h2 : j ≤ 2 * n) : (rowS n j).st = List.replicate (2 * n - j) 1 := by
  unfold rowS
  dsimp only
  congr 1
  split
  · omega
  · first | rfl | rw [if_pos h2]
theorem rowS_last (n : Nat) : (rowS n (2 * n + 1)).st = [1] := by
  unfold rowS
  simp only [if_neg (show ¬ 2 * n + 1 ≤ n by omega), if_neg (show ¬ 2 * n + 1 ≤ 2 * n by omega)]
  rfl
theorem rowS_sl (n j : Nat) : (rowS n j).sl = fun j => ([] : List Int).getD j 0 := rfl
theorem rowS_eq {n j : Nat} {st : List Int} (h : (rowS n j).st = st) : rowS n j = ⟨st, fun j => ([] : List Int).getD j 0⟩ := by subst h; rfl
theorem row_safe (n : Nat) (hn : n ≤ 255) (e r : Bool) (m : Mdl) : SafeIs (rowCd n e r) m (e == r) := by
  have hlen : (rowCd n e r).ins.length = 2 * n + (if e then 2 else 1) := rowIns_len n e
  have hS : ∀ j, (rowS n j).st.length ≤ 2100 := fun j => by
    unfold rowS
    simp only [List.length_replicate]
    split
    · omega
    · split <;> omega
  have hends : (retS (rowCd n e r) (rowS n (2 * n + (if e then 1 else 0)))).isSome = (e == r) := by
    have h0 : (rowS n (2 * n)).st = [] := by rw [rowS_mid (by omega) (Nat.le_refl _), Nat.sub_self]; rfl
    cases e <;> cases r
    · show (retS _ (rowS n (2 * n))).isSome = _
      rw [rowS_eq h0]; rfl
    · show (retS _ (rowS n (2 * n))).isSome = _
      rw [rowS_eq h0]; rfl
    · show (retS _ (rowS n (2 * n + 1))).isSome = _
      rw [rowS_eq (rowS_last n)]; rfl
    · show (retS _ (rowS n (2 * n + 1))).isSome = _
      rw [rowS_eq (rowS_last n)]; rfl
  rw [← hends]
  have hcase : ∀ j, j < 2 * n + (if e then 1 else 0) → ((rowCd n e r).ins.getD j default).op = 2 ∧ doesS (rowCd n e r) m ((rowCd n e r).ins.getD j default) (rowS n j) = some (rowS n (j + 1)) ∨ ((rowCd n e r).ins.getD j default).op = 17 ∧ doesS (rowCd n e r) m ((rowCd n e r).ins.getD j default) (rowS n j) = some (rowS n (j + 1)) := fun j hj => by
    show ((rowIns n e).getD j default).op = 2 ∧ doesS _ m ((rowIns n e).getD j default) _ = _ ∨ ((rowIns n e).getD j default).op = 17 ∧ doesS _ m ((rowIns n e).getD j default) _ = _
    by_cases h1 : j < n
    · left
      rw [rowIns_num e h1]
      refine ⟨rfl, ?_⟩
      show some (⟨(rowS n j).st ++ [1], (rowS n j).sl⟩ : Sta) = _
      unfold rowS
      simp only [if_pos (show j ≤ n by omega), if_pos (show j + 1 ≤ n by omega), List.replicate_succ']
    · by_cases h2 : j < 2 * n
      · right
        rw [rowIns_drop e (by omega) h2]
        refine ⟨rfl, ?_⟩
        have hm := rowS_mid (n := n) (j := j) (by omega) (by omega)
        have hm2 := rowS_mid (n := n) (j := j + 1) (by omega) (by omega)
        show (if 1 ≤ (rowS n j).st.length then some (⟨(rowS n j).st.take ((rowS n j).st.length - 1), (rowS n j).sl⟩ : Sta) else none) = _
        rw [rowS_eq hm2, rowS_sl, hm, List.length_replicate, if_pos (by omega), List.take_replicate, Nat.min_eq_left (by omega)]
        rfl
      · left
        cases e
        · simp at hj; omega
        · simp at hj
          obtain rfl : j = 2 * n := by omega
          rw [rowIns_extra]
          refine ⟨rfl, ?_⟩
          show some (⟨(rowS n (2 * n)).st ++ [1], (rowS n (2 * n)).sl⟩ : Sta) = _
          rw [rowS_eq (rowS_last n), rowS_mid (by omega) (Nat.le_refl _), Nat.sub_self]
          rfl
  refine row_run (rowCd n e r) m (rowS n) ?_ _ (2 * n + (if e then 1 else 0)) (by rw [hlen]; cases e <;> simp) (fun j hj => ?_) (fun j hj => ?_) (fun j _ => hS _) (row_end _ _ _ _ ?_)
  · unfold rowS; simp [rowCd]
  · rcases hcase j hj with ⟨h, _⟩ | ⟨h, _⟩ <;> rw [h] <;> decide
  · rcases hcase j hj with ⟨_, h⟩ | ⟨_, h⟩ <;> exact h
  · show ((rowIns n e).getD _ default).op = 18
    rw [rowIns_last]
theorem row_right (n : Nat) (hn : n ≤ 255) (e r : Bool) : rightM ⟨[rowCd n e r], []⟩ = true := by
  have hlen := rowIns_len n e
  have hops : allB (fun i => opB ((rowCd n e r).ins.getD i default)) (rowCd n e r).ins.length = true := by
    rw [allB_iff]
    intro i hi
    show opB ((rowIns n e).getD i default) = true
    have hi2 : i < 2 * n + (if e then 2 else 1) := by rw [← hlen]; exact hi
    by_cases h1 : i < n
    · rw [rowIns_num e h1]; rfl
    · by_cases h2 : i < 2 * n
      · rw [rowIns_drop e (by omega) h2]; rfl
      · cases e
        · simp at hi2
          obtain rfl : i = 2 * n + 0 := by omega
          exact (congrArg opB (rowIns_last n false)).trans rfl
        · simp at hi2
          rcases (show i = 2 * n ∨ i = 2 * n + 1 by omega) with rfl | rfl
          · rw [rowIns_extra]; rfl
          · exact (congrArg opB (rowIns_last n true)).trans rfl
  have hcd : rightCd (rowCd n e r) = true := by
    simp only [rightCd, hops, Bool.and_true]
    have h1 : (rowCd n e r).ins.length ≤ 16384 := by
      show (rowIns n e).length ≤ 16384
      rw [hlen]; split <;> omega
    simp only [h1, decide_true, Bool.and_true]
    have h2 : allB (fun i => typedB (([] : List Int).getD i 0)) 0 = true := by rw [allB_iff]; intro i hi; omega
    cases r
    · show (decide _ && decide _ && allB (fun i => typedB (([] : List Int).getD i 0)) 0 && _ && decide _ && decide _) = true
      rw [h2]; rfl
    · show (decide _ && decide _ && allB (fun i => typedB (([] : List Int).getD i 0)) 0 && _ && decide _ && decide _) = true
      rw [h2]; rfl
  simp only [rightM, Bool.and_eq_true]
  refine ⟨⟨⟨rfl, rfl⟩, by rw [allB_iff]; intro i hi; simp at hi⟩, ?_⟩
  rw [allB_iff]
  intro i hi
  obtain rfl : i = 0 := by simpa using hi
  exact hcd
theorem row_check (n : Nat) (hn : n ≤ 255) (e r : Bool) {x : Int} (h : CheckIs ⟨[rowCd n e r], []⟩ x) : (x == 0) = (e == r) := by
  have hr := row_right n hn e r
  have hs := row_safe n hn e r ⟨[rowCd n e r], []⟩
  rcases h with ⟨h, _⟩ | ⟨_, ⟨hg, rfl⟩ | ⟨hg, rfl⟩⟩
  · rw [hr] at h; cases h
  · have := hs.same (hg.1 0 (by simp))
    rw [this]; rfl
  · cases hb : (e == r)
    · rfl
    · rw [hb] at hs
      refine absurd ⟨fun j hj => ?_, by simp⟩ hg
      obtain rfl : j = 0 := by simpa using hj
      exact hs
end Go.Proofs.YtgogjdpjegfecaaDoor
