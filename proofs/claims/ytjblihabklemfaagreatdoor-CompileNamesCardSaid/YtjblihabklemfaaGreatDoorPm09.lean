/-
  Compile: part 9 of its proof: see the last text.
-/
import Derived.Test.YtjblihabklemfaaGreatDoorPm07
set_option maxRecDepth 100000
set_option maxHeartbeats 16000000
namespace Go.Proofs.YtjblihabklemfaaGreatDoor
section
open Go
section
variable {P : Program} {ops : Array Oper} {md : Region.Mode} {Q : Exit → Act → World → Prop}
def o5 (md : Region.Mode) (ops : Array Oper) (n : Nat) : Bool := (List.range ops.size).all fun t => decide (t < n) || (List.range n).all fun i => Region.waitsFor md ops t i
theorem mI {n : Nat} {listed : Array Bool} (h : o5 md ops n = true) {i : Nat} (hi : i < n) (hun : listed.getD i true = false) : ∀ t, n ≤ t → t ∉ Region.ready md ops listed := by
 intro t ht hr
 obtain ⟨_, ot, hot, hall⟩ := mem_ready.1 hr
 have htlt : t < ops.size := (Array.getElem?_eq_some_iff.1 hot).1
 have h1 := List.all_eq_true.1 h t (List.mem_range.2 htlt)
 simp only [Bool.or_eq_true, decide_eq_true_eq] at h1
 have h2 := List.all_eq_true.1 (h1.resolve_left (by omega)) i (List.mem_range.2 hi)
 obtain ⟨oj, hoj, e, he, hb, hon⟩ := Region.waitsFor_spec h2
 obtain rfl : oj = ot := Option.some.inj (hoj.symm.trans hot)
 have h3 := hall e he hb
 rw [hon, getD_both hun] at h3
 cases h3
theorem jN (y : Nat) : ∀ (f : Nat) (listed : Array Bool) (a : Act) (w : World), wpAny P md ops Q f listed a w → wpAny P md ops Q (f + y) listed a w
 | 0, listed, a, w, h => by
  cases y with
  | zero => exact h
  | succ y =>
   rw [Nat.zero_add]
   exact ⟨fun _ => h.2, fun i hi => by rw [h.1] at hi; cases hi⟩
 | f + 1, listed, a, w, h => by
  rw [show f + 1 + y = (f + y) + 1 by omega]
  exact ⟨h.1, fun i hi => wpOp_mono (fun a' w' h' => jN y f _ a' w' h') (h.2 i hi)⟩
def m6 (P : Program) (md : Region.Mode) (ops : Array Oper) (Q : Exit → Act → World → Prop) (m : Nat) (ln : Array Bool) : Exit → Act → World → Prop
 | .normal, a, w => wpAny P md ops Q m ln a w
 | e, a, w => Q e a w
variable {n m : Nat} {hd : Array Oper} {ln : Array Bool}
theorem mN {o : Oper} {a : Act} {w : World} {K : Act → World → Prop} (h : o.wp P a w K (m6 P md ops Q m ln)) : o.wp P a w K Q := by
 unfold Oper.wp at *
 generalize (execOp a.eval o).run P w = r at *
 cases r with
 | ok n w' =>
  cases n <;> simp only [Oper.upon] at h ⊢ <;>
   first
    | exact h
    | exact Calls.mono h (fun e w'' he => by cases e <;> exact he)
 | halt x w' => cases x <;> simp only [Oper.upon] at h ⊢ <;> exact h
theorem o8 (hh : ∀ j, j < n → hd[j]? = ops[j]?) (hB : hY md ops n = true) {i : Nat} (hi : i < n) {K : Act → World → Prop} {a : Act} {w : World}
    (h : wpOp P hd (m6 P md ops Q m ln) i K a w) : wpOp P ops Q i K a w := by
 obtain ⟨o, ho, _, hg⟩ := fy hB hi
 unfold wpOp at *
 rw [hh i hi, ho] at h
 rw [ho]
 simp only [iQ hh _ hg] at h ⊢
 split
 ·rename_i hw
  rw [if_pos hw] at h
  exact h.imp mN (fun q => q)
 ·rename_i hw
  rw [if_neg hw] at h
  exact h
theorem oB (hh : ∀ j, j < n → hd[j]? = ops[j]?) (hsz : hd.size = n) (hn : n ≤ ops.size) (hw : o5 md ops n = true) (hB : hY md ops n = true)
    (hq : ∀ listed : Array Bool, HeadInv md ops n listed → (∀ i, i < n → listed.getD i true = true) → listed = ln) :
    ∀ (f : Nat) (lh listed : Array Bool) (a : Act) (w : World), Alike n lh listed → HeadInv md ops n listed → wpAny P md hd (m6 P md ops Q m ln) f lh a w → wpAny P md ops Q (f + m) listed a w := by
 have hdone : ∀ (lh listed : Array Bool) (a : Act) (w : World), Alike n lh listed → HeadInv md ops n listed → Region.ready md hd lh = [] → wpAny P md ops Q m ln a w → ∀ y, wpAny P md ops Q (m + y) listed a w := by
  intro lh listed a w al inv hr h y
  have hall := jv hh hB al.size hr
  rw [hq listed inv (fun i hi => by rw [← al.getD hi]; exact hall i hi)]
  exact jN y m ln a w h
 intro f
 induction f with
 | zero =>
  intro lh listed a w al inv h
  rw [Nat.zero_add]
  exact hdone lh listed a w al inv h.1 h.2 0
 | succ f ih =>
  intro lh listed a w al inv h
  by_cases hr : Region.ready md hd lh = []
  ·rw [show f + 1 + m = m + (f + 1) by omega]
   exact hdone lh listed a w al inv hr (h.1 hr) _
  ·have hex : ∃ i, i ∈ Region.ready md hd lh := by
     cases hq : Region.ready md hd lh with
     | nil => exact absurd hq hr
     | cons i _ => exact ⟨i, by simp⟩
   obtain ⟨i0, hi0⟩ := hex
   have hi0n := l6 hsz hi0
   have hi0' := (fk hh hB al hi0n).1 hi0
   have hun : listed.getD i0 true = false := (mem_ready.1 hi0').1
   rw [show f + 1 + m = (f + m) + 1 by omega]
   refine ⟨fun h0 => absurd hi0' (by rw [h0]; simp), fun i hi => ?_⟩
   have hin : i < n := by
    rcases Nat.lt_or_ge i n with q | q
    ·exact q
    ·exact absurd hi (mI hw hi0n hun i q)
   have hi' := (fk hh hB al hin).2 hi
   exact wpOp_mono (fun a' w' h' => ih _ _ a' w' (al.set i (by rw [inv.size]; omega)) (inv.set hi hin) h') (o8 hh hB hin (h.2 i hi'))
end
def pD (ops : Array Oper) (n : Nat) : Bool := decide (n < ops.size) && o5 .any ops n && hY .any ops n
theorem fI {P : Program} {Q : Exit → Act → World → Prop} {S : World → Prop} {id : Nat} {a : Act} {w : World} {l : List Oper} (n : Nat) (hm : P.follows .mixedOrders = true) (hB : pD l.toArray n = true) (hS : S w.drew)
    (h : S w.drew → wpAnyH P .any (l.take n).toArray (m6 P .any l.toArray Q (l.length - n) (Array.replicate n true ++ Array.replicate (l.length - n) false)) S n (Array.replicate n false) a w.drew) : (Code.region id l.toArray true).wp P Q a w := by
 simp only [pD, Bool.and_eq_true, decide_eq_true_eq] at hB
 obtain ⟨⟨hn, hw⟩, hb⟩ := hB
 have hn' : n < l.length := by simpa using hn
 refine wp_region_any hm ?_
 have inv0 : HeadInv .any l.toArray n (Array.replicate l.toArray.size false) :=
  ⟨by simp, fun j oj _ hl => (by rw [getD_replicate_false] at hl; cases hl), fun t _ ht => getD_in (by simpa using ht) (getD_replicate_false _ _)⟩
 have al0 : Alike n (Array.replicate n false) (Array.replicate l.toArray.size false) := ⟨by simp, fun j hj => by
   rw [Array.getElem?_replicate, Array.getElem?_replicate, if_pos hj, if_pos (by simp; omega)]⟩
 have := oB (P := P) (Q := Q) (md := .any) (hd := (l.take n).toArray) (ops := l.toArray) (m := l.length - n) (n := n) (ln := Array.replicate n true ++ Array.replicate (l.length - n) false) (fun j hj => by simp [hj]) (by simp; omega) (by simp; omega) hw hb
  (fun listed inv hall => by
    refine Array.ext (by simp [inv.size]; omega) fun i h1 h2 => ?_
    have hi : i < l.length := by have := inv.size; simp at this; omega
    by_cases e : i < n
    · have := hall i e
      simp [h1] at this
      rw [Array.getElem_append_left (by simpa using e)]
      simpa using this
    · have := inv.tail i (by omega) (by simpa using hi)
      simp [h1] at this
      rw [Array.getElem_append_right (by simp; omega)]
      simpa using this) n _ _ a w.drew al0 inv0 (wpAny_of_held _ _ _ _ (h hS))
 rw [show n + (l.length - n) = l.toArray.size by simp; omega] at this
 exact this
end
end Go.Proofs.YtjblihabklemfaaGreatDoor
