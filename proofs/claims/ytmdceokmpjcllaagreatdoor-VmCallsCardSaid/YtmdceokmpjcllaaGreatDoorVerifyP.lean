/-
  What 'safe' works out, in plain words: its table, its pile, and that it comes to an end.
-/
import Derived.Test.YtmdceokmpjcllaaGreatDoorVerifyF
namespace Go.Proofs.YtmdceokmpjcllaaGreatDoor
open Go.RowKit

/-- what is known ahead of each instruction; none: nothing yet -/
abbrev Tab := Nat → Option Sta
def upd (t : Tab) (i : Nat) (s : Sta) : Tab := fun j => if j = i then some s else t j
def mergeS (a b : Nat → Int) : Nat → Int := fun j => if a j = b j then a j else 0
def changed (a b : Nat → Int) : Bool := (List.range 256).any fun j => a j != b j && a j != 0
/-- one of those that come behind -/
def stepTo (n : Nat) (s : Sta) (tg : Int) (x : Tab × List Nat) : Option (Tab × List Nat) :=
  if inB tg n then
    match x.1 tg.toNat with
    | none => some (upd x.1 tg.toNat s, x.2 ++ [tg.toNat])
    | some old => if old.st = s.st then some (upd x.1 tg.toNat ⟨old.st, mergeS old.sl s.sl⟩, if changed old.sl s.sl then x.2 ++ [tg.toNat] else x.2) else none
  else none
def foldTo (n : Nat) (s : Sta) : List Int → Tab × List Nat → Option (Tab × List Nat)
  | [], x => some x
  | t :: r, x => (stepTo n s t x).bind (foldTo n s r)
/-- one round of 'safe' -/
def stepW (c : Cd) (m : Mdl) (x : Tab × List Nat) : (Tab × List Nat) ⊕ Bool :=
  match x.2.getLast? with
  | none => .inr false
  | some p =>
    match x.1 p with
    | none => .inr false
    | some s =>
      match doesS c m (c.ins.getD p default) s with
      | none => .inr false
      | some s' =>
        if 2100 < s'.st.length then .inr false
        else
          match foldTo c.ins.length s' (behindL p (c.ins.getD p default)) (x.1, x.2.dropLast) with
          | none => .inr false
          | some y => if y.2 = [] then .inr true else .inl y
/-- round by round, to an answer -/
inductive Done (f : Tab × List Nat → (Tab × List Nat) ⊕ Bool) : Tab × List Nat → Bool → Prop
  | stop {x b} : f x = .inr b → Done f x b
  | step {x y b} : f x = .inl y → Done f y b → Done f x b
theorem Done.same {f : Tab × List Nat → (Tab × List Nat) ⊕ Bool} {x : Tab × List Nat} {a b : Bool} (h : Done f x a) (g : Done f x b) : a = b := by
  induction h with
  | stop h =>
    cases g with
    | stop g => rw [h] at g; injection g
    | step g _ => rw [h] at g; cases g
  | step h _ ih =>
    cases g with
    | stop g => rw [h] at g; cases g
    | step g k => rw [h] at g; injection g with g; subst g; exact ih k
def tab0 (c : Cd) : Tab := upd (fun _ => none) 0 ⟨[], fun j => c.params.getD j 0⟩
/-- 'safe' answers b -/
def SafeIs (c : Cd) (m : Mdl) (b : Bool) : Prop := if c.ins.length = 0 then b = false else Done (stepW c m) (tab0 c, [0]) b
theorem SafeIs.same {c : Cd} {m : Mdl} {a b : Bool} (h : SafeIs c m a) (g : SafeIs c m b) : a = b := by
  unfold SafeIs at h g
  split at h
  · rename_i e; rw [if_pos e] at g; rw [h, g]
  · rename_i e; rw [if_neg e] at g; exact h.same g

/-! ### It comes to an end -/
def cnt (f : Nat → Int) : Nat → Nat
  | 0 => 0
  | m + 1 => cnt f m + (if f m = 0 then 0 else 1)
theorem cnt_le (f : Nat → Int) (m : Nat) : cnt f m ≤ m := by
  induction m with
  | zero => exact Nat.le_refl _
  | succ m ih => unfold cnt; split <;> omega
theorem cnt_mono {f g : Nat → Int} (m : Nat) (h : ∀ j, j < m → f j ≠ 0 → g j ≠ 0) : cnt f m ≤ cnt g m := by
  induction m with
  | zero => exact Nat.le_refl _
  | succ m ih =>
    have h1 := ih (fun j hj => h j (by omega))
    have h2 := h m (by omega)
    unfold cnt
    by_cases e : f m = 0
    · rw [if_pos e]; split <;> omega
    · rw [if_neg e, if_neg (h2 e)]; omega
theorem cnt_lt {f g : Nat → Int} (m k : Nat) (hk : k < m) (h : ∀ j, j < m → f j ≠ 0 → g j ≠ 0) (h1 : f k = 0) (h2 : g k ≠ 0) : cnt f m < cnt g m := by
  induction m with
  | zero => omega
  | succ m ih =>
    have h3 := h m (by omega)
    unfold cnt
    by_cases e : k = m
    · subst e
      have := cnt_mono k (fun j hj => h j (by omega))
      rw [if_pos h1, if_neg h2]; omega
    · have := ih (by omega) (fun j hj => h j (by omega))
      by_cases e2 : f m = 0
      · rw [if_pos e2]; split <;> omega
      · rw [if_neg e2, if_neg (h3 e2)]; omega
def one (o : Option Sta) : Nat := match o with
  | none => 257
  | some s => cnt s.sl 256
def pot (t : Tab) : Nat → Nat
  | 0 => 0
  | m + 1 => pot t m + one (t m)
theorem pot_upd_out (t : Tab) (i : Nat) (s : Sta) (m : Nat) (h : m ≤ i) : pot (upd t i s) m = pot t m := by
  induction m with
  | zero => rfl
  | succ m ih =>
    unfold pot
    rw [ih (by omega)]
    unfold upd
    rw [if_neg (by omega)]
theorem pot_upd (t : Tab) (i : Nat) (s : Sta) (m : Nat) (h : i < m) : pot (upd t i s) m + one (t i) = pot t m + one (some s) := by
  induction m with
  | zero => omega
  | succ m ih =>
    unfold pot
    by_cases e : i = m
    · subst e
      rw [pot_upd_out t i s i (Nat.le_refl _)]
      have : upd t i s i = some s := by unfold upd; rw [if_pos rfl]
      rw [this]; omega
    · have h1 := ih (by omega)
      have h2 : upd t i s m = t m := by unfold upd; rw [if_neg (by omega)]
      rw [h2]; omega
def mu (n : Nat) (x : Tab × List Nat) : Nat := pot x.1 n + x.2.length
theorem merge_le (a b : Nat → Int) : cnt (mergeS a b) 256 ≤ cnt a 256 := cnt_mono 256 fun j _ h => by
  unfold mergeS at h
  split at h
  · exact h
  · exact absurd rfl h
theorem merge_lt {a b : Nat → Int} (h : changed a b = true) : cnt (mergeS a b) 256 < cnt a 256 := by
  unfold changed at h
  obtain ⟨j, hj, h2⟩ := List.any_eq_true.1 h
  simp at hj h2
  refine cnt_lt 256 j hj (fun j _ h => ?_) ?_ h2.2
  · unfold mergeS at h
    split at h
    · exact h
    · exact absurd rfl h
  · unfold mergeS; rw [if_neg h2.1]
theorem mu_stepTo {n : Nat} {s : Sta} {tg : Int} {x y : Tab × List Nat} (h : stepTo n s tg x = some y) : mu n y ≤ mu n x := by
  unfold stepTo at h
  split at h
  · rename_i hin
    have hb : 0 ≤ tg ∧ tg < n := by simpa [inB] using hin
    have hlt : tg.toNat < n := by omega
    split at h
    · rename_i hx
      injection h with h
      subst h
      have := pot_upd x.1 tg.toNat s n hlt
      rw [hx] at this
      have h2 := cnt_le s.sl 256
      unfold mu
      simp only [one, List.length_append, List.length_cons, List.length_nil] at *
      omega
    · rename_i old hx
      split at h
      · injection h with h
        subst h
        have := pot_upd x.1 tg.toNat ⟨old.st, mergeS old.sl s.sl⟩ n hlt
        rw [hx] at this
        have h2 := merge_le old.sl s.sl
        unfold mu
        simp only [one] at *
        split
        · rename_i hc
          have := merge_lt hc
          simp only [List.length_append, List.length_cons, List.length_nil]
          omega
        · omega
      · cases h
  · cases h
theorem mu_foldTo {n : Nat} {s : Sta} (l : List Int) : ∀ {x y : Tab × List Nat}, foldTo n s l x = some y → mu n y ≤ mu n x := by
  induction l with
  | nil => intro x y h; injection h with h; subst h; exact Nat.le_refl _
  | cons t r ih =>
    intro x y h
    unfold foldTo at h
    cases hq : stepTo n s t x with
    | none => rw [hq] at h; cases h
    | some z =>
      rw [hq] at h
      exact Nat.le_trans (ih h) (mu_stepTo hq)
end Go.Proofs.YtmdceokmpjcllaaGreatDoor
