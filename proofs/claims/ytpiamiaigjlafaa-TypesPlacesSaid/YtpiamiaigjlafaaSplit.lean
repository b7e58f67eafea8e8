/-
  A region that draws its order, and ends in operations that all others come ahead of: the head may be walked by itself, and then the tail in its order.
-/
import Derived.Test.YtpiamiaigjlafaaKit
import Derived.StillTail
namespace Go.Proofs.Ytpiamiaigjlafaa
open Go
section
variable {P : Program} {ops : Array Oper} {md : Region.Mode} {Q : Exit → Act → World → Prop}

/-- behind the head the tail -/
def TailQ (P : Program) (ops : Array Oper) (Q : Exit → Act → World → Prop) (tl : List Oper) : Exit → Act → World → Prop
  | .normal, a, w => wpList P ops Q tl a w
  | e, a, w => Q e a w

def backB (md : Region.Mode) (ops : Array Oper) (n : Nat) : Bool :=
  (List.range n).all fun i => match ops[i]? with
    | some o => (o.after.all fun e => !Region.binds md e || decide (e.on < i)) && (match o.guard with | some (g, _) => decide (g < n) | none => true)
    | none => false

theorem backB_spec {n i : Nat} (h : backB md ops n = true) (hi : i < n) : ∃ o, ops[i]? = some o ∧ (∀ e ∈ o.after, Region.binds md e = true → e.on < i) ∧ (∀ g b, o.guard = some (g, b) → g < n) := by
  have h1 := List.all_eq_true.1 h i (List.mem_range.2 hi)
  cases ho : ops[i]? with
  | none => simp [ho] at h1
  | some o =>
    simp only [ho, Bool.and_eq_true, Array.all_eq_true_iff_forall_mem, Bool.or_eq_true, Bool.not_eq_true', decide_eq_true_eq] at h1
    refine ⟨o, rfl, fun e he hb => ((h1.1 e he).resolve_left (by simp [hb])), fun g b hg => ?_⟩
    have h2 := h1.2
    rw [hg] at h2
    simpa using h2

theorem seq_more {Q' : Exit → Act → World → Prop} (x : Nat) : ∀ (l : List Oper) (k : Nat) (listed : Array Bool) (a : Act) (w : World), (∀ j, l[j]? = ops[k + j]?) →
    Region.seqB md ops l.length k listed = true → wpList P ops Q' l a w → wpAny P md ops Q' (l.length + x) listed a w
  | [], _, listed, a, w, _, hB, h => by
    have hr : Region.ready md ops listed = [] := by simpa [Region.seqB] using hB
    cases x with
    | zero => exact ⟨hr, h⟩
    | succ x =>
      show wpAny P md ops Q' (0 + (x + 1)) listed a w
      rw [Nat.zero_add]
      exact ⟨fun _ => h, fun i hi => by rw [hr] at hi; cases hi⟩
  | o :: l, k, listed, a, w, hl, hB, h => by
    have h0 : ops[k]? = some o := by simpa using (hl 0).symm
    simp only [List.length_cons, Region.seqB, Bool.and_eq_true, decide_eq_true_eq] at hB
    rw [show (o :: l).length + x = (l.length + x) + 1 by simp; omega]
    refine ⟨fun h1 => (by rw [hB.1] at h1; cases h1), fun i hi => ?_⟩
    rw [hB.1] at hi
    obtain rfl : i = k := by simpa using hi
    have hw : wpOp P ops Q' i (wpList P ops Q' l) a w := by unfold wpOp; simp only [h0]; exact h
    exact wpOp_mono (fun a' w' h' => seq_more x l (i + 1) _ a' w' (fun j => by have := hl (j + 1); simpa [Nat.add_assoc, Nat.add_comm 1 j] using this) hB.2 h') hw

/-- the head's own list of what has come up -/
structure Alike (n : Nat) (lh listed : Array Bool) : Prop where
  size : lh.size = n
  same : ∀ j, j < n → lh[j]? = listed[j]?
theorem Alike.getD {n : Nat} {lh listed : Array Bool} (h : Alike n lh listed) {j : Nat} (hj : j < n) (d : Bool) : lh.getD j d = listed.getD j d := by
  rw [Array.getD_eq_getD_getElem?, Array.getD_eq_getD_getElem?, h.same j hj]
theorem Alike.set {n : Nat} {lh listed : Array Bool} (h : Alike n lh listed) (i : Nat) (hs : n ≤ listed.size) : Alike n (lh.setIfInBounds i true) (listed.setIfInBounds i true) := by
  refine ⟨by simp [h.size], fun j hj => ?_⟩
  rw [Array.getElem?_setIfInBounds, Array.getElem?_setIfInBounds, h.same j hj, h.size]
  by_cases e : i = j
  · subst e
    simp [hj, show i < listed.size by omega]
  · simp [e]

variable {n : Nat} {hd : Array Oper}
theorem ready_head (hh : ∀ j, j < n → hd[j]? = ops[j]?) (hB : backB md ops n = true) {lh listed : Array Bool} (al : Alike n lh listed) {i : Nat} (hi : i < n) :
    i ∈ Region.ready md hd lh ↔ i ∈ Region.ready md ops listed := by
  rw [mem_ready, mem_ready, hh i hi, al.getD hi]
  refine and_congr_right fun _ => ?_
  obtain ⟨o, ho, hb, _⟩ := backB_spec hB hi
  rw [ho]
  constructor
  · rintro ⟨o', h1, h2⟩
    obtain rfl := Option.some.inj h1
    exact ⟨o, rfl, fun e he hbe => by rw [← al.getD (by have := hb e he hbe; omega)]; exact h2 e he hbe⟩
  · rintro ⟨o', h1, h2⟩
    obtain rfl := Option.some.inj h1
    exact ⟨o, rfl, fun e he hbe => by rw [al.getD (by have := hb e he hbe; omega)]; exact h2 e he hbe⟩
theorem ready_lt (hsz : hd.size = n) {lh : Array Bool} {i : Nat} (h : i ∈ Region.ready md hd lh) : i < n := by
  obtain ⟨_, o, ho, _⟩ := mem_ready.1 h
  have := (Array.getElem?_eq_some_iff.1 ho).1
  omega
/-- where nothing of the head may come up, all of it has -/
theorem all_listed (hh : ∀ j, j < n → hd[j]? = ops[j]?) (hB : backB md ops n = true) {lh : Array Bool} (hs : lh.size = n) (hr : Region.ready md hd lh = []) : ∀ i, i < n → lh.getD i true = true := by
  intro i
  induction i using Nat.strongRecOn with
  | _ i ih =>
    intro hi
    cases hl : lh.getD i true with
    | true => rfl
    | false =>
      exfalso
      obtain ⟨o, ho, hb, _⟩ := backB_spec hB hi
      have : i ∈ Region.ready md hd lh := mem_ready.2 ⟨hl, o, by rw [hh i hi, ho], fun e he hbe => by
        have h1 := hb e he hbe
        have h2 := ih e.on h1 (by omega)
        have h3 : e.on < lh.size := by omega
        simp [h3] at h2 ⊢
        exact h2⟩
      rw [hr] at this
      cases this
theorem yielded_head (hh : ∀ j, j < n → hd[j]? = ops[j]?) (tm : Array Value) {j : Nat} (hj : j < n) : yielded hd tm j = yielded ops tm j := by
  unfold yielded
  rw [hh j hj]
theorem wanted_head (hh : ∀ j, j < n → hd[j]? = ops[j]?) (tm : Array Value) {o : Oper} (hg : ∀ g b, o.guard = some (g, b) → g < n) : Region.wanted o (yielded hd tm) = Region.wanted o (yielded ops tm) := by
  unfold Region.wanted
  cases hq : o.guard with
  | none => rfl
  | some p =>
    obtain ⟨g, b⟩ := p
    simp only [yielded_head hh tm (hg g b hq)]
theorem letsOut_tail {tl : List Oper} (h : LetsOut (TailQ P ops Q tl)) : LetsOut Q := h
theorem oper_tail {tl : List Oper} {o : Oper} {a : Act} {w : World} {K : Act → World → Prop} (h : o.wp P a w K (TailQ P ops Q tl)) : o.wp P a w K Q := by
  unfold Oper.wp at *
  generalize (execOp a.eval o).run P w = r at *
  cases r with
  | ok n w' =>
    cases n <;> simp only [Oper.upon] at h ⊢ <;>
      first
        | exact h
        | exact Calls.mono h (fun e w'' he => by cases e <;> exact he)
  | halt x w' => cases x <;> simp only [Oper.upon] at h ⊢ <;> exact h
theorem op_head (hh : ∀ j, j < n → hd[j]? = ops[j]?) (hB : backB md ops n = true) {tl : List Oper} {i : Nat} (hi : i < n) {K : Act → World → Prop} {a : Act} {w : World}
    (h : wpOp P hd (TailQ P ops Q tl) i K a w) : wpOp P ops Q i K a w := by
  obtain ⟨o, ho, _, hg⟩ := backB_spec hB hi
  unfold wpOp at *
  rw [hh i hi, ho] at h
  rw [ho]
  simp only [wanted_head hh _ hg] at h ⊢
  split
  · rename_i hw
    rw [if_pos hw] at h
    exact h.imp oper_tail (fun q => q)
  · rename_i hw
    rw [if_neg hw] at h
    exact h

/-- the head, then the tail -/
theorem any_split {tl : List Oper} (hh : ∀ j, j < n → hd[j]? = ops[j]?) (hsz : hd.size = n) (htl : ∀ j, tl[j]? = ops[n + j]?) (hn : n < ops.size) (hs : Region.sinkB md ops n = true) (hc : Region.chainB md ops n = true)
    (hB : backB md ops n = true) (hq : ∀ listed : Array Bool, HeadInv md ops n listed → (∀ i, i < n → listed.getD i true = true) → Region.seqB md ops tl.length n listed = true) (x : Nat) :
    ∀ (f : Nat) (lh listed : Array Bool) (a : Act) (w : World), Alike n lh listed → HeadInv md ops n listed → wpAny P md hd (TailQ P ops Q tl) f lh a w → wpAny P md ops Q (f + (tl.length + x)) listed a w := by
  have hdone : ∀ (lh listed : Array Bool) (a : Act) (w : World), Alike n lh listed → HeadInv md ops n listed → Region.ready md hd lh = [] → wpList P ops Q tl a w → ∀ y, wpAny P md ops Q (tl.length + y) listed a w := by
    intro lh listed a w al inv hr h y
    have hall := all_listed hh hB al.size hr
    exact seq_more y tl n listed a w htl (hq listed inv (fun i hi => by rw [← al.getD hi]; exact hall i hi)) h
  intro f
  induction f with
  | zero =>
    intro lh listed a w al inv h
    rw [Nat.zero_add]
    exact hdone lh listed a w al inv h.1 h.2 x
  | succ f ih =>
    intro lh listed a w al inv h
    by_cases hr : Region.ready md hd lh = []
    · rw [show f + 1 + (tl.length + x) = tl.length + (f + 1 + x) by omega]
      exact hdone lh listed a w al inv hr (h.1 hr) _
    · have hex : ∃ i, i ∈ Region.ready md hd lh := by
        cases hq : Region.ready md hd lh with
        | nil => exact absurd hq hr
        | cons i _ => exact ⟨i, by simp⟩
      obtain ⟨i0, hi0⟩ := hex
      have hi0n := ready_lt hsz hi0
      have hi0' := (ready_head hh hB al hi0n).1 hi0
      have hun : listed.getD i0 true = false := (mem_ready.1 hi0').1
      rw [show f + 1 + (tl.length + x) = (f + (tl.length + x)) + 1 by omega]
      refine ⟨fun h0 => absurd hi0' (by rw [h0]; simp), fun i hi => ?_⟩
      have hin : i < n := by
        rcases Nat.lt_or_ge i n with q | q
        · exact q
        · exact absurd hi (tail_waits hs hc hn inv _ i0 rfl hi0n hun i q)
      have hi' := (ready_head hh hB al hin).2 hi
      exact wpOp_mono (fun a' w' h' => ih _ _ a' w' (al.set i (by rw [inv.size]; omega)) (inv.set hi hin) h') (op_head hh hB hin (h.2 i hi'))
end

/-- what a region must be for that -/
def splitB (ops : Array Oper) (n : Nat) : Bool :=
  decide (n < ops.size) && Region.sinkB .any ops n && Region.chainB .any ops n && backB .any ops n &&
    Region.seqB .any ops (ops.size - n) n ((Array.replicate n true) ++ (Array.replicate (ops.size - n) false))

theorem wp_region_split {P : Program} {Q : Exit → Act → World → Prop} {S : World → Prop} {id : Nat} {a : Act} {w : World} {l : List Oper} (n : Nat) (hm : P.follows .mixedOrders = true) (hB : splitB l.toArray n = true) (hS : S w.drew)
    (h : S w.drew → wpAnyH P .any (l.take n).toArray (TailQ P l.toArray Q (l.drop n)) S n (Array.replicate n false) a w.drew) : (Code.region id l.toArray true).wp P Q a w := by
  simp only [splitB, Bool.and_eq_true, decide_eq_true_eq] at hB
  obtain ⟨⟨⟨⟨hn, hs⟩, hc⟩, hb⟩, hq⟩ := hB
  have hn' : n < l.length := by simpa using hn
  refine wp_region_any hm ?_
  have hdl : (l.drop n).length = l.toArray.size - n := by simp
  have inv0 : HeadInv .any l.toArray n (Array.replicate l.toArray.size false) :=
    ⟨by simp, fun j oj _ hl => (by rw [getD_replicate_false] at hl; cases hl), fun t _ ht => getD_in (by simpa using ht) (getD_replicate_false _ _)⟩
  have al0 : Alike n (Array.replicate n false) (Array.replicate l.toArray.size false) := ⟨by simp, fun j hj => by
    rw [Array.getElem?_replicate, Array.getElem?_replicate, if_pos hj, if_pos (by simp; omega)]⟩
  have := any_split (P := P) (Q := Q) (md := .any) (hd := (l.take n).toArray) (ops := l.toArray) (tl := l.drop n) (n := n) (fun j hj => by simp [hj]) (by simp; omega) (fun j => by simp [List.getElem?_drop]) hn hs hc hb
    (fun listed inv hall => by
      have he : listed = (Array.replicate n true) ++ (Array.replicate (l.toArray.size - n) false) := by
        refine Array.ext (by simp [inv.size]; omega) fun i h1 h2 => ?_
        have hi : i < l.length := by have := inv.size; simp at this; omega
        by_cases e : i < n
        · have := hall i e
          simp [h1] at this
          rw [Array.getElem_append_left (by simpa using e)]
          simpa using this
        · have := inv.tail i (by omega) (by simpa using hi)
          simp [h1] at this
          rw [Array.getElem_append_right (by simp; omega)]
          simpa using this
      rw [he, hdl]
      exact hq) 0 n _ _ a w.drew al0 inv0 (wpAny_of_held _ _ _ _ (h hS))
  rw [hdl, Nat.add_zero, show n + (l.toArray.size - n) = l.toArray.size by simp; omega] at this
  exact this
end Go.Proofs.Ytpiamiaigjlafaa
