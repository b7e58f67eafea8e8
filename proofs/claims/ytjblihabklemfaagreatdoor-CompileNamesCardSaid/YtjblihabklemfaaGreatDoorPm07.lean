/-
  Compile: part 7 of its proof: see the last text.
-/
import Derived.Test.YtjblihabklemfaaGreatDoorPm06
import Derived.Test.YtjblihabklemfaaGreatDoorPm00
import Derived.StillTail
set_option maxRecDepth 100000
set_option maxHeartbeats 16000000
namespace Go.Proofs.YtjblihabklemfaaGreatDoor
section
open Go.RowKit
structure OnS (T : Nat → Prop) (w w' : World) : Prop where
 os : w'.os = w.os
 tape : w'.tape = w.tape
 output : w'.output = w.output
 size : w.heap.size ≤ w'.heap.size
 block : ∀ i, i < w.heap.size → ¬ T i → w'.heap[i]? = w.heap[i]?
theorem OnS.refl (T : Nat → Prop) (w : World) : OnS T w w := ⟨rfl, rfl, rfl, Nat.le_refl _, fun _ _ _ => rfl⟩
theorem OnS.of_on {T : Nat → Prop} {k : Nat} {w w' : World} (h : On k w w') (hk : T k) : OnS T w w' := ⟨h.os, h.tape, h.output, h.size, fun i hi ht => h.block i hi (fun e => by injection e with e; subst e; exact ht hk)⟩
theorem OnS.of_below {T : Nat → Prop} {w w' : World} (h : Below w.heap.size w w') : OnS T w w' := ⟨h.os, h.tape, h.output, h.size, fun i hi _ => h.block i hi⟩
theorem OnS.of_grown {T : Nat → Prop} {w w' : World} {r : Option Nat} (h : w.grownBy w' r) (hr : ∀ k, r = some k → T k) : OnS T w w' := ⟨h.os, h.tape, h.output, h.size, fun i hi ht => h.block i hi (fun e => ht (hr _ e.symm))⟩
theorem OnS.mono {T T' : Nat → Prop} {w w' : World} (h : OnS T w w') (ht : ∀ i, T i → T' i) : OnS T' w w' := ⟨h.os, h.tape, h.output, h.size, fun i hi hn => h.block i hi (fun e => hn (ht i e))⟩
theorem OnS.trans {T : Nat → Prop} {a b c : World} (h : OnS T a b) (g : OnS T b c) : OnS T a c :=
 ⟨g.os.trans h.os, g.tape.trans h.tape, g.output.trans h.output, Nat.le_trans h.size g.size, fun i hi ht => (g.block i (Nat.lt_of_lt_of_le hi h.size) ht).trans (h.block i hi ht)⟩
theorem OnS.new {T T' : Nat → Prop} {a b c : World} (h : OnS T a b) (g : OnS T' b c) (ht : ∀ i, T' i → T i ∨ a.heap.size ≤ i) : OnS T a c :=
 ⟨g.os.trans h.os, g.tape.trans h.tape, g.output.trans h.output, Nat.le_trans h.size g.size, fun i hi hn => (g.block i (Nat.lt_of_lt_of_le hi h.size) (fun e => (ht i e).elim hn (fun q => by omega))).trans (h.block i hi hn)⟩
theorem OnS.obj {T : Nat → Prop} {k : Nat} {w w' : World} {o : Obj} (h : OnS T w w') (hn : ¬ T k) (ho : w.heap[k]? = some o) : w'.heap[k]? = some o := (h.block k (ad ho) hn).trans ho
theorem OnS.cell {T : Nat → Prop} {w w' : World} {c o : Nat} {u : Value} (h : OnS T w w') (hn : ¬ T c) (hc : w.cell? ⟨c, o, none⟩ = some u) : w'.cell? ⟨c, o, none⟩ = some u :=
 (World.cell?_of_block (w := w) (h.block c (am hc) hn)).trans hc
theorem OnS.stays {T S : Nat → Prop} {w w' : World} (h : OnS T w w') (hs : ∀ b, S b → ¬ T b) : Stays S w w' := ⟨h.size, fun b hb hl => h.block b hl (hs b hb)⟩
theorem OnS.set {T : Nat → Prop} {a b : World} (h : OnS T a b) {k : Nat} (hk : T k) (j : Nat) (u : Value) : OnS T a (b.setCell ⟨k, j, none⟩ u) := h.trans (OnS.of_on ((On.refl k b).set j u) hk)
theorem On.of_onS {T : Nat → Prop} {rb : Nat} {a b c : World} (h : On rb a b) (g : OnS T b c) (ht : ∀ i, T i → i = rb ∨ a.heap.size ≤ i) : On rb a c :=
 ⟨g.os.trans h.os, g.tape.trans h.tape, g.output.trans h.output, Nat.le_trans h.size g.size, fun i hi hne => (g.block i (Nat.lt_of_lt_of_le hi h.size) (fun e => (ht i e).elim (fun q => hne (by rw [q])) (fun q => by omega))).trans (h.block i hi hne)⟩
def PSaysT {α : Type} (rb : Nat) (en : Int) (T : Nat → Prop) (w : World) (R : World → α → Value → Prop) (r : Except (Int × Int) (α × List Tk)) (e : Ending) (w' : World) : Prop :=
 (match r with
  | .error (er, p) => e = Pan er p
  | .ok (x, l) => ∃ v, e = .returned v ∧ R w' x v ∧ RdAt w' rb l en) ∧ OnS T w w'
theorem PSaysT.cases {α : Type} {rb : Nat} {en : Int} {T : Nat → Prop} {w w' : World} {R : World → α → Value → Prop} {r : Except (Int × Int) (α × List Tk)} {e : Ending} (h : PSaysT rb en T w R r e w') :
    (∃ er p, r = .error (er, p) ∧ e = Pan er p ∧ OnS T w w') ∨ (∃ x l v, r = .ok (x, l) ∧ e = .returned v ∧ R w' x v ∧ RdAt w' rb l en ∧ OnS T w w') := by
 obtain ⟨h, ho⟩ := h
 cases r with
 | error q =>
  obtain ⟨er, p⟩ := q
  exact .inl ⟨er, p, rfl, h, ho⟩
 | ok q =>
  obtain ⟨x, l⟩ := q
  obtain ⟨v, h1, h2, h3⟩ := h
  exact .inr ⟨x, l, v, rfl, h1, h2, h3, ho⟩
theorem PSaysT.err {α : Type} {rb : Nat} {en : Int} {T : Nat → Prop} {w w' : World} {R : World → α → Value → Prop} {r : Except (Int × Int) (α × List Tk)} {er p : Int} (hr : r = .error (er, p)) (ho : OnS T w w') : PSaysT rb en T w R r (Pan er p) w' := by
 subst hr
 exact ⟨rfl, ho⟩
theorem PSaysT.ok {α : Type} {rb : Nat} {en : Int} {T : Nat → Prop} {w w' : World} {R : World → α → Value → Prop} {r : Except (Int × Int) (α × List Tk)} {x : α} {l : List Tk} {v : Value} (hr : r = .ok (x, l)) (hR : R w' x v) (hrd : RdAt w' rb l en) (ho : OnS T w w') : PSaysT rb en T w R r (.returned v) w' := by
 subst hr
 exact ⟨⟨v, rfl, hR, hrd⟩, ho⟩
def cV (cs : Nat → List Value) (n : Nat) : List Value := (List.range n).flatMap cs
theorem fc (cs : Nat → List Value) (n : Nat) : cV cs (n + 1) = cV cs n ++ cs n := by
 unfold cV
 rw [List.range_succ, List.flatMap_append]
 simp
theorem mo {cs cs' : Nat → List Value} {n : Nat} (h : ∀ i, i < n → cs i = cs' i) : cV cs n = cV cs' n := by
 induction n with
 | zero => rfl
 | succ n ih => rw [fc, fc, ih (fun i hi => h i (by omega)), h n (Nat.lt_succ_self n)]
theorem fN {cs : Nat → List Value} {n sz : Nat} (h : ∀ i, i < n → (cs i).length = sz) : (cV cs n).length = n * sz := by
 induction n with
 | zero => simp [cV]
 | succ n ih => rw [fc, List.length_append, ih (fun i hi => h i (by omega)), h n (Nat.lt_succ_self n), Nat.succ_mul]
theorem lA {cs : Nat → List Value} {n sz : Nat} (h : ∀ i, i < n → (cs i).length = sz) {i j : Nat} (hi : i < n) (hj : j < sz) : (cV cs n)[i * sz + j]? = (cs i)[j]? := by
 induction n with
 | zero => omega
 | succ n ih =>
  have hl := fN (n := n) (fun i hi => h i (by omega))
  rw [fc]
  by_cases e : i = n
  ·subst e
   rw [List.getElem?_append_right (by omega), hl]
   congr 1
   omega
  ·have hin : i < n := by omega
   have : i * sz + j < n * sz := Nat.lt_of_lt_of_le (by rw [Nat.succ_mul]; omega : i * sz + j < (i + 1) * sz) (Nat.mul_le_mul_right sz (by omega))
   rw [List.getElem?_append_left (by omega)]
   exact ih (fun i hi => h i (by omega)) hin
theorem fq {α : Type} (l : List α) (y d : α) {i : Nat} (h : i < l.length) : (l ++ [y]).getD i d = l.getD i d := by
 rw [List.getD_eq_getElem?_getD, List.getD_eq_getElem?_getD, List.getElem?_append_left h]
theorem ff {α : Type} (l : List α) (y d : α) : (l ++ [y]).getD l.length d = y := by
 rw [List.getD_eq_getElem?_getD, List.getElem?_append_right (Nat.le_refl _), Nat.sub_self]
 rfl
structure Kind (α : Type) where
 rel : (Nat → Prop) → World → List Value → α → Prop
 keep : ∀ {S : Nat → Prop} {w w' : World} {cs : List Value} {x : α}, rel S w cs x → Stays S w w' → rel S w' cs x
 mono : ∀ {S S' : Nat → Prop} {w : World} {cs : List Value} {x : α}, rel S w cs x → (∀ b, S b → S' b) → rel S' w cs x
 lies : ∀ {S : Nat → Prop} {w : World} {cs : List Value} {x : α}, rel S w cs x → rel (fun b => S b ∧ b < w.heap.size) w cs x
def Items {α : Type} [Inhabited α] (K : Kind α) (base sz : Nat) (w : World) (v : Value) (xs : List α) (cs : Nat → List Value) : Prop :=
 ∀ i, i < xs.length → (cs i).length = sz ∧ K.rel (fun b => base ≤ b ∧ v.ownBlock ≠ some b) w (cs i) (xs.getD i default)
def GrowOf {α : Type} [Inhabited α] (K : Kind α) (base e sz : Nat) (w : World) (v : Value) (xs : List α) : Prop :=
 ∃ cs, w.ownsRow base e sz v xs.length (cV cs xs.length) ∧ Items K base sz w v xs cs
section
variable {α : Type} [Inhabited α] {K : Kind α} {base e sz : Nat} {w w' : World} {v : Value} {xs : List α}
theorem GrowOf.nil : GrowOf K base e sz w (.slice none 0 0) [] := ⟨fun _ => [], fC, fun i hi => absurd hi (by simp)⟩
theorem bO {n : Nat} {l : List Value} (h : w.ownsRow base e sz v n l) (hs : Stays (bA base) w w') : w'.ownsRow base e sz v n l := by
 refine ⟨h.1, ?_⟩
 rcases h.2 with q | ⟨g, cap, cur, q1, q2, q3, q4⟩
 ·exact .inl q
 ·exact .inr ⟨g, cap, cur, q1, q2, (hs.block g q2 (ad q3)).trans q3, q4⟩
theorem aH {n : Nat} {l : List Value} (h : w.ownsRow base e sz v n l) {b : Nat} (hb : v.ownBlock = some b) : base ≤ b ∧ b < w.heap.size := by
 rcases h.2 with ⟨rfl, _⟩ | ⟨g, cap, cur, rfl, q2, q3, q4⟩
 ·cases hb
 ·injection hb with hb
  subst hb
  exact ⟨q2, ad q3⟩
theorem Items.keep {cs : Nat → List Value} (h : Items K base sz w v xs cs) (hs : Stays (bA base) w w') : Items K base sz w' v xs cs := fun i hi =>
 ⟨(h i hi).1, K.keep (h i hi).2 ⟨hs.size, fun b hb hl => hs.block b hb.1 hl⟩⟩
theorem GrowOf.keep (h : GrowOf K base e sz w v xs) (hs : Stays (bA base) w w') : GrowOf K base e sz w' v xs := by
 obtain ⟨cs, h1, h2⟩ := h
 exact ⟨cs, bO h1 hs, h2.keep hs⟩
theorem GrowOf.row (h : GrowOf K base e sz w v xs) : ∃ cs, RowOf (bA base) w v sz xs.length cs ∧ ∀ i, i < xs.length → K.rel (bA base) w (cs i) (xs.getD i default) := by
 obtain ⟨cs, h1, h2⟩ := h
 obtain ⟨s0, cap, rfl, hle, hm, hn, hc⟩ := aY h1
 refine ⟨cs, ⟨s0, cap, rfl, hle, hm, hn, fun h0 => ?_, fun i hi => (h2 i hi).1⟩, fun i hi => K.mono (h2 i hi).2 (fun b hb => hb.1)⟩
 obtain ⟨g, e, hg, hl, hcell⟩ := hc h0
 refine ⟨g, 0, e, hg, hl, fun i hi j hj => ?_⟩
 have hget := lA (fun i hi => (h2 i hi).1) hi hj
 have hlen := (h2 i hi).1
 rw [Nat.zero_add, hcell (i * sz + j) ((cs i)[j]'(by omega)) (by rw [hget]; exact List.getElem?_eq_getElem _), List.getElem?_eq_getElem (by omega)]
theorem Items.push {cs : Nat → List Value} {new : List Value} {y : α} {g cap : Nat} (h : Items K base sz w v xs cs) (hn : new.length = sz) (hy : K.rel (fun b => base ≤ b ∧ v.ownBlock ≠ some b) w new y) (hg : w.grownBy w' v.ownBlock) (hgl : v.ownBlock = some g ∨ g = w.heap.size) :
    Items K base sz w' (.slice (some ⟨g, 0, none⟩) (xs.length + 1) cap) (xs ++ [y]) (fun i => if i < xs.length then cs i else new) := by
 have hk : ∀ (c : List Value) (x : α), K.rel (fun b => base ≤ b ∧ v.ownBlock ≠ some b) w c x → K.rel (fun b => base ≤ b ∧ (Value.slice (some ⟨g, 0, none⟩) (xs.length + 1) cap).ownBlock ≠ some b) w' c x := fun c x hx =>
  K.mono (K.keep (K.lies hx) ⟨hg.size, fun b hb hl => hg.block b hl (fun e => hb.1.2 e.symm)⟩) (fun b hb => ⟨hb.1.1, fun e => by
    injection e with e
    have e' : g = b := e
    subst e'
    rcases hgl with q | q
    · exact hb.1.2 q
    · have := hb.2; omega⟩)
 intro i hi
 by_cases e : i < xs.length
 ·dsimp only
  rw [if_pos e]
  refine ⟨(h i e).1, ?_⟩
  rw [fq _ _ _ e]
  exact hk _ _ (h i e).2
 ·have hi2 : i < xs.length + 1 := by simpa using hi
  obtain rfl : i = xs.length := by omega
  dsimp only
  rw [if_neg e]
  refine ⟨hn, ?_⟩
  rw [ff]
  exact hk _ _ hy
theorem ki {cs : Nat → List Value} {new : List Value} (n : Nat) : cV (fun i => if i < n then cs i else new) (n + 1) = cV cs n ++ new := by
 rw [fc, if_neg (Nat.lt_irrefl _), mo (cs' := cs) (fun i hi => if_pos hi)]
theorem GrowOf.push {cs : Nat → List Value} {new : List Value} {y : α} {g cap : Nat} (h : Items K base sz w v xs cs) (hn : new.length = sz) (hy : K.rel (fun b => base ≤ b ∧ v.ownBlock ≠ some b) w new y) (hg : w.grownBy w' v.ownBlock) (hgl : v.ownBlock = some g ∨ g = w.heap.size)
    (hown : w'.ownsRow base e sz (.slice (some ⟨g, 0, none⟩) (xs.length + 1) cap) (xs.length + 1) (cV cs xs.length ++ new)) : GrowOf K base e sz w' (.slice (some ⟨g, 0, none⟩) (xs.length + 1) cap) (xs ++ [y]) := by
 refine ⟨_, ?_, h.push hn hy hg hgl⟩
 rw [List.length_append, show [y].length = 1 from rfl, ki]
 exact hown
theorem gq {g n cap : Nat} {l : List Value} (h : w.ownsRow base e sz (.slice (some ⟨g, 0, none⟩) n cap) n l) (j : Nat) (u : Value) : (w.setCell ⟨g, j, none⟩ u).ownsRow base e sz (.slice (some ⟨g, 0, none⟩) n cap) n (l.set j u) := by
 refine ⟨by rw [List.length_set]; exact h.1, ?_⟩
 rcases h.2 with ⟨q, _⟩ | ⟨g', cap', cur, q1, q2, q3, q4, q5, q6, q7⟩
 ·cases q
 ·injection q1 with a1 a2 a3
  injection a1 with a1
  injection a1 with a1
  subst a1 a3
  refine .inr ⟨g, cap, cur.setIfInBounds j u, rfl, q2, ai q3 j u, q4, q5, by simpa using q6, ?_⟩
  rw [← q7]
  simp [List.take_set]
theorem eQ {g n cap : Nat} {l : List Value} (h : w.ownsRow base e sz (.slice (some ⟨g, 0, none⟩) n cap) n l) : (∀ j u, l[j]? = some u → w.cell? ⟨g, j, none⟩ = some u) ∧ (∀ j, w.frozen? ⟨g, j, none⟩ = false) := by
 rcases h.2 with ⟨q, _⟩ | ⟨g', cap', cur, q1, q2, q3, q4, q5, q6, q7⟩
 ·cases q
 ·injection q1 with a1 a2 a3
  injection a1 with a1
  injection a1 with a1
  subst a1
  refine ⟨fun j u hj => ?_, fun j => ab q3 j⟩
  rw [← q7, List.getElem?_take] at hj
  split at hj
  ·exact aa q3 (by simpa using hj)
  ·cases hj
end
end
section
open Go
section
variable {P : Program} {ops : Array Oper} {md : Region.Mode} {Q : Exit → Act → World → Prop}
def bT (P : Program) (ops : Array Oper) (Q : Exit → Act → World → Prop) (tl : List Oper) : Exit → Act → World → Prop
 | .normal, a, w => wpList P ops Q tl a w
 | e, a, w => Q e a w
def hY (md : Region.Mode) (ops : Array Oper) (n : Nat) : Bool :=
 (List.range n).all fun i => match ops[i]? with
  | some o => (o.after.all fun e => !Region.binds md e || decide (e.on < i)) && (match o.guard with | some (g, _) => decide (g < n) | none => true)
  | none => false
theorem fy {n i : Nat} (h : hY md ops n = true) (hi : i < n) : ∃ o, ops[i]? = some o ∧ (∀ e ∈ o.after, Region.binds md e = true → e.on < i) ∧ (∀ g b, o.guard = some (g, b) → g < n) := by
 have h1 := List.all_eq_true.1 h i (List.mem_range.2 hi)
 cases ho : ops[i]? with
 | none => simp [ho] at h1
 | some o =>
  simp only [ho, Bool.and_eq_true, Array.all_eq_true_iff_forall_mem, Bool.or_eq_true, Bool.not_eq_true', decide_eq_true_eq] at h1
  refine ⟨o, rfl, fun e he hb => ((h1.1 e he).resolve_left (by simp [hb])), fun g b hg => ?_⟩
  have h2 := h1.2
  rw [hg] at h2
  simpa using h2
theorem lU {Q' : Exit → Act → World → Prop} (x : Nat) : ∀ (l : List Oper) (k : Nat) (listed : Array Bool) (a : Act) (w : World), (∀ j, l[j]? = ops[k + j]?) →
    Region.seqB md ops l.length k listed = true → wpList P ops Q' l a w → wpAny P md ops Q' (l.length + x) listed a w
 | [], _, listed, a, w, _, hB, h => by
  have hr : Region.ready md ops listed = [] := by simpa [Region.seqB] using hB
  cases x with
  | zero => exact ⟨hr, h⟩
  | succ x =>
   show wpAny P md ops Q' (0 + (x + 1)) listed a w
   rw [Nat.zero_add]
   exact ⟨fun _ => h, fun i hi => by rw [hr] at hi; cases hi⟩
 | o :: l, k, listed, a, w, hl, hB, h => by
  have h0 : ops[k]? = some o := by simpa using (hl 0).symm
  simp only [List.length_cons, Region.seqB, Bool.and_eq_true, decide_eq_true_eq] at hB
  rw [show (o :: l).length + x = (l.length + x) + 1 by simp; omega]
  refine ⟨fun h1 => (by rw [hB.1] at h1; cases h1), fun i hi => ?_⟩
  rw [hB.1] at hi
  obtain rfl : i = k := by simpa using hi
  have hw : wpOp P ops Q' i (wpList P ops Q' l) a w := by unfold wpOp; simp only [h0]; exact h
  exact wpOp_mono (fun a' w' h' => lU x l (i + 1) _ a' w' (fun j => by have := hl (j + 1); simpa [Nat.add_assoc, Nat.add_comm 1 j] using this) hB.2 h') hw
structure Alike (n : Nat) (lh listed : Array Bool) : Prop where
 size : lh.size = n
 same : ∀ j, j < n → lh[j]? = listed[j]?
theorem Alike.getD {n : Nat} {lh listed : Array Bool} (h : Alike n lh listed) {j : Nat} (hj : j < n) (d : Bool) : lh.getD j d = listed.getD j d := by
 rw [Array.getD_eq_getD_getElem?, Array.getD_eq_getD_getElem?, h.same j hj]
theorem Alike.set {n : Nat} {lh listed : Array Bool} (h : Alike n lh listed) (i : Nat) (hs : n ≤ listed.size) : Alike n (lh.setIfInBounds i true) (listed.setIfInBounds i true) := by
 refine ⟨by simp [h.size], fun j hj => ?_⟩
 rw [Array.getElem?_setIfInBounds, Array.getElem?_setIfInBounds, h.same j hj, h.size]
 by_cases e : i = j
 ·subst e
  simp [hj, show i < listed.size by omega]
 ·simp [e]
variable {n : Nat} {hd : Array Oper}
theorem fk (hh : ∀ j, j < n → hd[j]? = ops[j]?) (hB : hY md ops n = true) {lh listed : Array Bool} (al : Alike n lh listed) {i : Nat} (hi : i < n) :
    i ∈ Region.ready md hd lh ↔ i ∈ Region.ready md ops listed := by
 rw [mem_ready, mem_ready, hh i hi, al.getD hi]
 refine and_congr_right fun _ => ?_
 obtain ⟨o, ho, hb, _⟩ := fy hB hi
 rw [ho]
 constructor
 ·rintro ⟨o', h1, h2⟩
  obtain rfl := Option.some.inj h1
  exact ⟨o, rfl, fun e he hbe => by rw [← al.getD (by have := hb e he hbe; omega)]; exact h2 e he hbe⟩
 ·rintro ⟨o', h1, h2⟩
  obtain rfl := Option.some.inj h1
  exact ⟨o, rfl, fun e he hbe => by rw [al.getD (by have := hb e he hbe; omega)]; exact h2 e he hbe⟩
theorem l6 (hsz : hd.size = n) {lh : Array Bool} {i : Nat} (h : i ∈ Region.ready md hd lh) : i < n := by
 obtain ⟨_, o, ho, _⟩ := mem_ready.1 h
 have := (Array.getElem?_eq_some_iff.1 ho).1
 omega
theorem jv (hh : ∀ j, j < n → hd[j]? = ops[j]?) (hB : hY md ops n = true) {lh : Array Bool} (hs : lh.size = n) (hr : Region.ready md hd lh = []) : ∀ i, i < n → lh.getD i true = true := by
 intro i
 induction i using Nat.strongRecOn with
 | _ i ih =>
  intro hi
  cases hl : lh.getD i true with
  | true => rfl
  | false =>
   exfalso
   obtain ⟨o, ho, hb, _⟩ := fy hB hi
   have : i ∈ Region.ready md hd lh := mem_ready.2 ⟨hl, o, by rw [hh i hi, ho], fun e he hbe => by
     have h1 := hb e he hbe
     have h2 := ih e.on h1 (by omega)
     have h3 : e.on < lh.size := by omega
     simp [h3] at h2 ⊢
     exact h2⟩
   rw [hr] at this
   cases this
theorem kw (hh : ∀ j, j < n → hd[j]? = ops[j]?) (tm : Array Value) {j : Nat} (hj : j < n) : yielded hd tm j = yielded ops tm j := by
 unfold yielded
 rw [hh j hj]
theorem iQ (hh : ∀ j, j < n → hd[j]? = ops[j]?) (tm : Array Value) {o : Oper} (hg : ∀ g b, o.guard = some (g, b) → g < n) : Region.wanted o (yielded hd tm) = Region.wanted o (yielded ops tm) := by
 unfold Region.wanted
 cases hq : o.guard with
 | none => rfl
 | some p =>
  obtain ⟨g, b⟩ := p
  simp only [kw hh tm (hg g b hq)]
theorem p8 {tl : List Oper} (h : LetsOut (bT P ops Q tl)) : LetsOut Q := h
theorem oc {tl : List Oper} {o : Oper} {a : Act} {w : World} {K : Act → World → Prop} (h : o.wp P a w K (bT P ops Q tl)) : o.wp P a w K Q := by
 unfold Oper.wp at *
 generalize (execOp a.eval o).run P w = r at *
 cases r with
 | ok n w' =>
  cases n <;> simp only [Oper.upon] at h ⊢ <;>
   first
    | exact h
    | exact Calls.mono h (fun e w'' he => by cases e <;> exact he)
 | halt x w' => cases x <;> simp only [Oper.upon] at h ⊢ <;> exact h
theorem qP (hh : ∀ j, j < n → hd[j]? = ops[j]?) (hB : hY md ops n = true) {tl : List Oper} {i : Nat} (hi : i < n) {K : Act → World → Prop} {a : Act} {w : World}
    (h : wpOp P hd (bT P ops Q tl) i K a w) : wpOp P ops Q i K a w := by
 obtain ⟨o, ho, _, hg⟩ := fy hB hi
 unfold wpOp at *
 rw [hh i hi, ho] at h
 rw [ho]
 simp only [iQ hh _ hg] at h ⊢
 split
 ·rename_i hw
  rw [if_pos hw] at h
  exact h.imp oc (fun q => q)
 ·rename_i hw
  rw [if_neg hw] at h
  exact h
theorem nH {tl : List Oper} (hh : ∀ j, j < n → hd[j]? = ops[j]?) (hsz : hd.size = n) (htl : ∀ j, tl[j]? = ops[n + j]?) (hn : n < ops.size) (hs : Region.sinkB md ops n = true) (hc : Region.chainB md ops n = true)
    (hB : hY md ops n = true) (hq : ∀ listed : Array Bool, HeadInv md ops n listed → (∀ i, i < n → listed.getD i true = true) → Region.seqB md ops tl.length n listed = true) (x : Nat) :
    ∀ (f : Nat) (lh listed : Array Bool) (a : Act) (w : World), Alike n lh listed → HeadInv md ops n listed → wpAny P md hd (bT P ops Q tl) f lh a w → wpAny P md ops Q (f + (tl.length + x)) listed a w := by
 have hdone : ∀ (lh listed : Array Bool) (a : Act) (w : World), Alike n lh listed → HeadInv md ops n listed → Region.ready md hd lh = [] → wpList P ops Q tl a w → ∀ y, wpAny P md ops Q (tl.length + y) listed a w := by
  intro lh listed a w al inv hr h y
  have hall := jv hh hB al.size hr
  exact lU y tl n listed a w htl (hq listed inv (fun i hi => by rw [← al.getD hi]; exact hall i hi)) h
 intro f
 induction f with
 | zero =>
  intro lh listed a w al inv h
  rw [Nat.zero_add]
  exact hdone lh listed a w al inv h.1 h.2 x
 | succ f ih =>
  intro lh listed a w al inv h
  by_cases hr : Region.ready md hd lh = []
  ·rw [show f + 1 + (tl.length + x) = tl.length + (f + 1 + x) by omega]
   exact hdone lh listed a w al inv hr (h.1 hr) _
  ·have hex : ∃ i, i ∈ Region.ready md hd lh := by
     cases hq : Region.ready md hd lh with
     | nil => exact absurd hq hr
     | cons i _ => exact ⟨i, by simp⟩
   obtain ⟨i0, hi0⟩ := hex
   have hi0n := l6 hsz hi0
   have hi0' := (fk hh hB al hi0n).1 hi0
   have hun : listed.getD i0 true = false := (mem_ready.1 hi0').1
   rw [show f + 1 + (tl.length + x) = (f + (tl.length + x)) + 1 by omega]
   refine ⟨fun h0 => absurd hi0' (by rw [h0]; simp), fun i hi => ?_⟩
   have hin : i < n := by
    rcases Nat.lt_or_ge i n with q | q
    ·exact q
    ·exact absurd hi (tail_waits hs hc hn inv _ i0 rfl hi0n hun i q)
   have hi' := (fk hh hB al hin).2 hi
   exact wpOp_mono (fun a' w' h' => ih _ _ a' w' (al.set i (by rw [inv.size]; omega)) (inv.set hi hin) h') (qP hh hB hin (h.2 i hi'))
end
def pM (ops : Array Oper) (n : Nat) : Bool :=
 decide (n < ops.size) && Region.sinkB .any ops n && Region.chainB .any ops n && hY .any ops n &&
  Region.seqB .any ops (ops.size - n) n ((Array.replicate n true) ++ (Array.replicate (ops.size - n) false))
theorem az {P : Program} {Q : Exit → Act → World → Prop} {S : World → Prop} {id : Nat} {a : Act} {w : World} {l : List Oper} (n : Nat) (hm : P.follows .mixedOrders = true) (hB : pM l.toArray n = true) (hS : S w.drew)
    (h : S w.drew → wpAnyH P .any (l.take n).toArray (bT P l.toArray Q (l.drop n)) S n (Array.replicate n false) a w.drew) : (Code.region id l.toArray true).wp P Q a w := by
 simp only [pM, Bool.and_eq_true, decide_eq_true_eq] at hB
 obtain ⟨⟨⟨⟨hn, hs⟩, hc⟩, hb⟩, hq⟩ := hB
 have hn' : n < l.length := by simpa using hn
 refine wp_region_any hm ?_
 have hdl : (l.drop n).length = l.toArray.size - n := by simp
 have inv0 : HeadInv .any l.toArray n (Array.replicate l.toArray.size false) :=
  ⟨by simp, fun j oj _ hl => (by rw [getD_replicate_false] at hl; cases hl), fun t _ ht => getD_in (by simpa using ht) (getD_replicate_false _ _)⟩
 have al0 : Alike n (Array.replicate n false) (Array.replicate l.toArray.size false) := ⟨by simp, fun j hj => by
   rw [Array.getElem?_replicate, Array.getElem?_replicate, if_pos hj, if_pos (by simp; omega)]⟩
 have := nH (P := P) (Q := Q) (md := .any) (hd := (l.take n).toArray) (ops := l.toArray) (tl := l.drop n) (n := n) (fun j hj => by simp [hj]) (by simp; omega) (fun j => by simp [List.getElem?_drop]) hn hs hc hb
  (fun listed inv hall => by
    have he : listed = (Array.replicate n true) ++ (Array.replicate (l.toArray.size - n) false) := by
      refine Array.ext (by simp [inv.size]; omega) fun i h1 h2 => ?_
      have hi : i < l.length := by have := inv.size; simp at this; omega
      by_cases e : i < n
      · have := hall i e
        simp [h1] at this
        rw [Array.getElem_append_left (by simpa using e)]
        simpa using this
      · have := inv.tail i (by omega) (by simpa using hi)
        simp [h1] at this
        rw [Array.getElem_append_right (by simp; omega)]
        simpa using this
    rw [he, hdl]
    exact hq) 0 n _ _ a w.drew al0 inv0 (wpAny_of_held _ _ _ _ (h hS))
 rw [hdl, Nat.add_zero, show n + (l.toArray.size - n) = l.toArray.size by simp; omega] at this
 exact this
section
variable {P : Program} {ops : Array Oper} {Q : Exit → Act → World → Prop} {md : Region.Mode} {S : World → Prop}
theorem tk (i : Nat) {oi : Oper} {v : Value} {fuel : Nat} {listed : Array Bool} {a : Act} {w : World} (hy : ∀ w, S w → (execOp a.eval oi).run P w = .ok (.value v) w)
    (h : wpAnyH P md ops Q S fuel (listed.setIfInBounds i true) (a.put oi.dst v) w) (hi : ops[i]? = some oi := by rfl)
    (hs : Region.noSelect ops = true := by kernel_rfl) (hf : Region.free md ops listed i = true := by kernel_rfl) (hr : (Region.ready md ops listed).contains i = true := by kernel_rfl)
    (hg : Region.wanted oi (yielded ops a.tmps) = true := by rfl) (hQ : ∀ c a w, Q (.panic c) (a.put oi.dst v) w → Q (.panic c) a w := by exact fun _ _ _ h => h) (hS : S w := by assumption) : wpAnyH P md ops Q S (fuel + 1) listed a w :=
 wpAnyH_take hi hs hf hr hQ (.inl ⟨hg, hy⟩) hS h
theorem tkA (i : Nat) {oi : Oper} {v : Value} {fuel : Nat} {listed : Array Bool} {a : Act} {w : World}
    (h : wpAnyH P md ops Q S fuel (listed.setIfInBounds i true) (a.put oi.dst v) w)
    (hi : ops[i]? = some oi := by rfl)
    (hs : Region.noSelect ops = true := by kernel_rfl) (hf : Region.free md ops listed i = true := by kernel_rfl) (hr : (Region.ready md ops listed).contains i = true := by kernel_rfl)
    (hg : Region.wanted oi (yielded ops a.tmps) = true := by rfl) (hQ : ∀ c a w, Q (.panic c) (a.put oi.dst v) w → Q (.panic c) a w := by exact fun _ _ _ h => h) (hS : S w := by assumption)
    (hy : ∀ w, S w → (execOp a.eval oi).run P w = .ok (.value v) w := by intro w hSw; (try dsimp only at hSw); go_simp; try with_reducible rfl) : wpAnyH P md ops Q S (fuel + 1) listed a w :=
 tk i hy h hi hs hf hr hg hQ hS
theorem rd1 (i : Nat) {o : Oper} {fuel : Nat} {listed : Array Bool} {a : Act} {w : World}
    (h : ∀ K' : Act → World → Prop, Shut (∀ a w, S w → (S w → wpAnyH P md ops Q S fuel (listed.setIfInBounds i true) a w) → K' a w) → if Region.wanted o (yielded ops a.tmps) = true then Oper.wp P o a w K' Q else K' (a.put o.dst undef) w)
    (ho : ops[i]? = some o := by rfl) (hr : Region.ready md ops listed = [i] := by kernel_rfl) : wpAnyH P md ops Q S (fuel + 1) listed a w :=
 wpAnyH_ready hr (by simp) (AllReadyH.cons ho h AllReadyH.nil)
end
end
end Go.Proofs.YtjblihabklemfaaGreatDoor
