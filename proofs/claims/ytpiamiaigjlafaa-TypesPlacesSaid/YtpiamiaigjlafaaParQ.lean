/-
  The parser goes on: what it leaves is shorter than what it was given.
-/
import Derived.Test.YtpiamiaigjlafaaParM
namespace Go.Proofs.Ytpiamiaigjlafaa
open Go.RowKit
def Strict {α : Type} (p : Par α) : Prop := ∀ l x r, p l = .ok (x, r) → r.length < l.length
def Weak {α : Type} (p : Par α) : Prop := ∀ l x r, p l = .ok (x, r) → r.length ≤ l.length
theorem Strict.weak {α : Type} {p : Par α} (h : Strict p) : Weak p := fun l x r e => Nat.le_of_lt (h l x r e)
theorem bind_inv {α β : Type} {p : Par α} {f : α → Par β} {l r : List Tk} {y : β} (h : p.bind f l = .ok (y, r)) : ∃ x q, p l = .ok (x, q) ∧ f x q = .ok (y, r) := by
  unfold Par.bind at h
  cases hp : p l with
  | error e => rw [hp] at h; cases h
  | ok z =>
    obtain ⟨x, q⟩ := z
    rw [hp] at h
    exact ⟨x, q, rfl, h⟩
theorem Strict.bind {α β : Type} {p : Par α} {f : α → Par β} (h : Strict p) (hf : ∀ x, Weak (f x)) : Strict (p.bind f) := fun l y r e => by
  obtain ⟨x, q, h1, h2⟩ := bind_inv e
  exact Nat.lt_of_le_of_lt (hf x q y r h2) (h l x q h1)
theorem Weak.bind {α β : Type} {p : Par α} {f : α → Par β} (h : Weak p) (hf : ∀ x, Weak (f x)) : Weak (p.bind f) := fun l y r e => by
  obtain ⟨x, q, h1, h2⟩ := bind_inv e
  exact Nat.le_trans (hf x q y r h2) (h l x q h1)
theorem weak_ok {α : Type} (x : α) : Weak (okP x) := fun l y r e => by cases e; exact Nat.le_refl _
theorem strict_must (en : Int) (s : ByteArray) : Strict (mustP en s) := fun l x r e => by have := must_no e; omega
theorem strict_kind (en k : Int) : Strict (kindP en k) := fun l x r e => by
  unfold kindP at e
  cases l with
  | nil => cases e
  | cons t q =>
    dsimp only at e
    split at e
    · cases e; exact Nat.lt_succ_self _
    · cases e
theorem strict_name (en : Int) : Strict (nameP en) := (strict_kind en 1).bind fun _ => weak_ok _
theorem tail_lt {l : List Tk} {s : ByteArray} (h : atS l 0 s = true) : l.tail.length < l.length := by have := atS_len h; omega
theorem strict_typ (en : Int) : Strict (typP en) := fun l x r e => by
  unfold typP at e
  split at e
  · rename_i h; cases e; exact tail_lt h
  · split at e
    · rename_i h; cases e; exact tail_lt h
    · exact (Strict.bind (strict_must en sBytes) fun _ => weak_ok (3 : Int)) l x r e
theorem strict_list {α : Type} (en : Int) (one : Par α) (h : Strict one) : ∀ (f : Nat) (first : Bool) (acc : List α), Strict (listP en one f first acc)
  | 0, _, _ => fun l x r e => by cases e
  | f + 1, first, acc => fun l x r e => by
    rw [listP_succ] at e
    split at e
    · rename_i hq; cases e; exact tail_lt hq
    · obtain ⟨_, q, h1, h2⟩ := bind_inv e
      obtain ⟨y, q2, h3, h4⟩ := bind_inv h2
      have g2 := h q y q2 h3
      have g3 := strict_list en one h f false (acc ++ [y]) q2 x r h4
      have g1 : q.length ≤ l.length := by
        cases first
        · have := must_no h1; omega
        · cases h1; exact Nat.le_refl _
      omega
theorem weak_loop (en : Int) (n : Nat) (N : Par Ex) (h : Weak N) : ∀ (f : Nat) (x : Ex), Weak (loopP en n N f x)
  | 0, x => weak_ok x
  | f + 1, x => fun l y r e => by
    rw [loopP_succ] at e
    split at e
    · cases e; exact Nat.le_refl _
    · rename_i s hs
      have hl := tail_lt (signIx_some (levelSigns n) 0 hs).choose_spec.2.2
      obtain ⟨z, q, h1, h2⟩ := bind_inv e
      have g1 := h _ _ _ h1
      split at h2
      · cases h2; omega
      · have := weak_loop en n N h f _ q y r h2; omega
theorem strict_level (en : Int) (one : Par Ex) (h : Strict one) : ∀ j, Strict (levelP en one j)
  | 0 => h
  | j + 1 => fun l y r e => by
    have hj := strict_level en one h j
    obtain ⟨x, q, h1, h2⟩ := bind_inv (show ((levelP en one j).bind fun x r => loopP en (4 - j) (levelP en one j) (r.length + 1) x r) l = _ from e)
    have := hj _ _ _ h1
    have := weak_loop en (4 - j) _ hj.weak _ _ _ _ _ h2
    omega
theorem strict_inner (en : Int) (E : Par Ex) (h : Strict E) : Strict (innerP en E) :=
  (strict_must en sOpen).bind fun _ => h.weak.bind fun _ => (strict_must en sClose).weak.bind fun _ => weak_ok _
theorem strict_words (en : Int) (E : Par Ex) (h : Strict E) : Strict (wordsP en E) := fun l x r e => by
  unfold wordsP at e
  split at e
  · rename_i hq; cases e; exact tail_lt hq
  · split at e
    · rename_i hq; cases e; exact tail_lt hq
    · split at e
      · exact strict_inner en E h l x r e
      · split at e
        · rename_i hq; exact Nat.lt_trans (((strict_inner en E h).bind fun _ => weak_ok _) _ _ _ e) (tail_lt hq)
        · split at e
          · rename_i hq; exact Nat.lt_trans (((strict_inner en E h).bind fun _ => weak_ok _) _ _ _ e) (tail_lt hq)
          · exact ((strict_must en sLen).bind fun _ => ((strict_inner en E h).weak.bind fun _ => weak_ok _)) l x r e
theorem strict_primary (en : Int) (E : Par Ex) (h : Strict E) : Strict (primaryP en E) := fun l x r e => by
  unfold primaryP at e
  cases l with
  | nil => exact strict_words en E h _ _ _ e
  | cons t q =>
    dsimp only at e
    split at e
    · cases e; exact Nat.lt_succ_self _
    · split at e
      · cases e; exact Nat.lt_succ_self _
      · split at e
        · split at e
          · rename_i hq
            have h1 := ((strict_list en E h (q.length + 1) true []).bind fun k => weak_ok (Ex.mk 5 0 t.text k t.pos)) _ _ _ e
            have := tail_lt hq
            simp only [List.length_cons]
            omega
          · cases e; exact Nat.lt_succ_self _
        · exact strict_words en E h _ _ _ e
theorem strict_one (en : Int) : ∀ k, Strict (oneP en k)
  | 0 => fun l x r e => by cases e
  | k + 1 => fun l x r e => by
    have ih := strict_one en k
    unfold oneP at e
    split at e
    · rename_i hq; exact Nat.lt_trans ((ih.bind fun _ => weak_ok _) _ _ _ e) (tail_lt hq)
    · split at e
      · rename_i hq; exact Nat.lt_trans ((ih.bind fun _ => weak_ok _) _ _ _ e) (tail_lt hq)
      · exact strict_primary en _ (strict_level en _ ih 5) l x r e
theorem strict_expr (en : Int) (k : Nat) : Strict (exprP en k) := strict_level en _ (strict_one en k) 5
/-- an expression, however deep it may still go -/
theorem expr_any (rb : Nat) (en : Int) : ∀ (k : Nat) (d : Int), d + k = 33 → 0 ≤ d → (1 ≤ k → ReadsEx rb en 92 #[.pointer (some ⟨rb, 0, none⟩), .int .i64 d] (oneP en k)) ∧ ReadsEx rb en 82 #[.pointer (some ⟨rb, 0, none⟩), .int .i64 d] (exprP en k)
  | 0, d, hd, h0 => ⟨fun h => absurd h (by omega), expr_no rb d (by omega) en _ (levelP_fail en (oneP en 0) _ (fun _ => rfl) 5)⟩
  | k + 1, d, hd, h0 => by
    have ih := expr_any rb en k (d + 1) (by omega) (by omega)
    have h1 : ReadsEx rb en 92 #[.pointer (some ⟨rb, 0, none⟩), .int .i64 d] (oneP en (k + 1)) := by
      have h := one_any rb d h0 (by omega) en (oneP en k) (primaryP en (exprP en k)) (fun hd1 => ih.1 (by omega)) (fun hd1 l => by
        obtain rfl : k = 0 := by omega
        rfl) (primary_any rb d h0 (by omega) en (exprP en k) ih.2 (strict_expr en k))
      have e : (fun l => oneOf en (oneP en k) (primaryP en (exprP en k)) l [sMinus, sNot]) = oneP en (k + 1) := by
        funext l
        rw [oneOf_two]
        rfl
      rw [← e]
      exact h
    have h5 := level_five rb d en _ h1
    have s0 : Strict (levelP en (oneP en (k + 1)) 0) := strict_level en _ (strict_one en (k + 1)) 0
    have l4 := level_any rb 4 (by omega) d en (levelP en (oneP en (k + 1)) 0) h5 s0.weak
    have l3 := level_any rb 3 (by omega) d en (levelP en (oneP en (k + 1)) 1) l4 (strict_level en _ (strict_one en (k + 1)) 1).weak
    have l2 := level_any rb 2 (by omega) d en (levelP en (oneP en (k + 1)) 2) l3 (strict_level en _ (strict_one en (k + 1)) 2).weak
    have l1 := level_any rb 1 (by omega) d en (levelP en (oneP en (k + 1)) 3) l2 (strict_level en _ (strict_one en (k + 1)) 3).weak
    have l0 := level_any rb 0 (by omega) d en (levelP en (oneP en (k + 1)) 4) l1 (strict_level en _ (strict_one en (k + 1)) 4).weak
    exact ⟨fun _ => h1, expr_ok rb d (by omega) en (exprP en (k + 1)) l0⟩
end Go.Proofs.Ytpiamiaigjlafaa
