/-
  Slices that grow, and worlds in which some blocks turn.
-/
import Derived.Test.YtpiamiaigjlafaaParW
namespace Go.Proofs.Ytpiamiaigjlafaa
open Go.RowKit

/-- only blocks of T may have turned, and new ones -/
structure OnS (T : Nat → Prop) (w w' : World) : Prop where
  os : w'.os = w.os
  tape : w'.tape = w.tape
  output : w'.output = w.output
  size : w.heap.size ≤ w'.heap.size
  block : ∀ i, i < w.heap.size → ¬ T i → w'.heap[i]? = w.heap[i]?
theorem OnS.refl (T : Nat → Prop) (w : World) : OnS T w w := ⟨rfl, rfl, rfl, Nat.le_refl _, fun _ _ _ => rfl⟩
theorem OnS.of_on {T : Nat → Prop} {k : Nat} {w w' : World} (h : On k w w') (hk : T k) : OnS T w w' := ⟨h.os, h.tape, h.output, h.size, fun i hi ht => h.block i hi (fun e => by injection e with e; subst e; exact ht hk)⟩
theorem OnS.of_below {T : Nat → Prop} {w w' : World} (h : Below w.heap.size w w') : OnS T w w' := ⟨h.os, h.tape, h.output, h.size, fun i hi _ => h.block i hi⟩
theorem OnS.of_grown {T : Nat → Prop} {w w' : World} {r : Option Nat} (h : w.grownBy w' r) (hr : ∀ k, r = some k → T k) : OnS T w w' := ⟨h.os, h.tape, h.output, h.size, fun i hi ht => h.block i hi (fun e => ht (hr _ e.symm))⟩
theorem OnS.mono {T T' : Nat → Prop} {w w' : World} (h : OnS T w w') (ht : ∀ i, T i → T' i) : OnS T' w w' := ⟨h.os, h.tape, h.output, h.size, fun i hi hn => h.block i hi (fun e => hn (ht i e))⟩
theorem OnS.trans {T : Nat → Prop} {a b c : World} (h : OnS T a b) (g : OnS T b c) : OnS T a c :=
  ⟨g.os.trans h.os, g.tape.trans h.tape, g.output.trans h.output, Nat.le_trans h.size g.size, fun i hi ht => (g.block i (Nat.lt_of_lt_of_le hi h.size) ht).trans (h.block i hi ht)⟩
/-- what turns of the second kind is of the first, or new -/
theorem OnS.new {T T' : Nat → Prop} {a b c : World} (h : OnS T a b) (g : OnS T' b c) (ht : ∀ i, T' i → T i ∨ a.heap.size ≤ i) : OnS T a c :=
  ⟨g.os.trans h.os, g.tape.trans h.tape, g.output.trans h.output, Nat.le_trans h.size g.size, fun i hi hn => (g.block i (Nat.lt_of_lt_of_le hi h.size) (fun e => (ht i e).elim hn (fun q => by omega))).trans (h.block i hi hn)⟩
theorem OnS.obj {T : Nat → Prop} {k : Nat} {w w' : World} {o : Obj} (h : OnS T w w') (hn : ¬ T k) (ho : w.heap[k]? = some o) : w'.heap[k]? = some o := (h.block k (lt_block ho) hn).trans ho
theorem OnS.cell {T : Nat → Prop} {w w' : World} {c o : Nat} {u : Value} (h : OnS T w w') (hn : ¬ T c) (hc : w.cell? ⟨c, o, none⟩ = some u) : w'.cell? ⟨c, o, none⟩ = some u :=
  (World.cell?_of_block (w := w) (h.block c (lt_of_cell hc) hn)).trans hc
theorem OnS.stays {T S : Nat → Prop} {w w' : World} (h : OnS T w w') (hs : ∀ b, S b → ¬ T b) : Stays S w w' := ⟨h.size, fun b hb hl => h.block b hl (hs b hb)⟩
theorem OnS.set {T : Nat → Prop} {a b : World} (h : OnS T a b) {k : Nat} (hk : T k) (j : Nat) (u : Value) : OnS T a (b.setCell ⟨k, j, none⟩ u) := h.trans (OnS.of_on ((On.refl k b).set j u) hk)
theorem On.of_onS {T : Nat → Prop} {rb : Nat} {a b c : World} (h : On rb a b) (g : OnS T b c) (ht : ∀ i, T i → i = rb ∨ a.heap.size ≤ i) : On rb a c :=
  ⟨g.os.trans h.os, g.tape.trans h.tape, g.output.trans h.output, Nat.le_trans h.size g.size, fun i hi hne => (g.block i (Nat.lt_of_lt_of_le hi h.size) (fun e => (ht i e).elim (fun q => hne (by rw [q])) (fun q => by omega))).trans (h.block i hi hne)⟩

/-- what a method of the reader comes to, that may turn more than the reader -/
def PSaysT {α : Type} (rb : Nat) (en : Int) (T : Nat → Prop) (w : World) (R : World → α → Value → Prop) (r : Except (Int × Int) (α × List Tk)) (e : Ending) (w' : World) : Prop :=
  (match r with
  | .error (er, p) => e = Pan er p
  | .ok (x, l) => ∃ v, e = .returned v ∧ R w' x v ∧ RdAt w' rb l en) ∧ OnS T w w'
theorem PSaysT.cases {α : Type} {rb : Nat} {en : Int} {T : Nat → Prop} {w w' : World} {R : World → α → Value → Prop} {r : Except (Int × Int) (α × List Tk)} {e : Ending} (h : PSaysT rb en T w R r e w') :
    (∃ er p, r = .error (er, p) ∧ e = Pan er p ∧ OnS T w w') ∨ (∃ x l v, r = .ok (x, l) ∧ e = .returned v ∧ R w' x v ∧ RdAt w' rb l en ∧ OnS T w w') := by
  obtain ⟨h, ho⟩ := h
  cases r with
  | error q =>
    obtain ⟨er, p⟩ := q
    exact .inl ⟨er, p, rfl, h, ho⟩
  | ok q =>
    obtain ⟨x, l⟩ := q
    obtain ⟨v, h1, h2, h3⟩ := h
    exact .inr ⟨x, l, v, rfl, h1, h2, h3, ho⟩
theorem PSaysT.err {α : Type} {rb : Nat} {en : Int} {T : Nat → Prop} {w w' : World} {R : World → α → Value → Prop} {r : Except (Int × Int) (α × List Tk)} {er p : Int} (hr : r = .error (er, p)) (ho : OnS T w w') : PSaysT rb en T w R r (Pan er p) w' := by
  subst hr
  exact ⟨rfl, ho⟩
theorem PSaysT.ok {α : Type} {rb : Nat} {en : Int} {T : Nat → Prop} {w w' : World} {R : World → α → Value → Prop} {r : Except (Int × Int) (α × List Tk)} {x : α} {l : List Tk} {v : Value} (hr : r = .ok (x, l)) (hR : R w' x v) (hrd : RdAt w' rb l en) (ho : OnS T w w') : PSaysT rb en T w R r (.returned v) w' := by
  subst hr
  exact ⟨⟨v, rfl, hR, hrd⟩, ho⟩

/-! ### Rows that grow -/
def flat (cs : Nat → List Value) (n : Nat) : List Value := (List.range n).flatMap cs
theorem flat_succ (cs : Nat → List Value) (n : Nat) : flat cs (n + 1) = flat cs n ++ cs n := by
  unfold flat
  rw [List.range_succ, List.flatMap_append]
  simp
theorem flat_congr {cs cs' : Nat → List Value} {n : Nat} (h : ∀ i, i < n → cs i = cs' i) : flat cs n = flat cs' n := by
  induction n with
  | zero => rfl
  | succ n ih => rw [flat_succ, flat_succ, ih (fun i hi => h i (by omega)), h n (Nat.lt_succ_self n)]
theorem flat_len {cs : Nat → List Value} {n sz : Nat} (h : ∀ i, i < n → (cs i).length = sz) : (flat cs n).length = n * sz := by
  induction n with
  | zero => simp [flat]
  | succ n ih => rw [flat_succ, List.length_append, ih (fun i hi => h i (by omega)), h n (Nat.lt_succ_self n), Nat.succ_mul]
theorem flat_get {cs : Nat → List Value} {n sz : Nat} (h : ∀ i, i < n → (cs i).length = sz) {i j : Nat} (hi : i < n) (hj : j < sz) : (flat cs n)[i * sz + j]? = (cs i)[j]? := by
  induction n with
  | zero => omega
  | succ n ih =>
    have hl := flat_len (n := n) (fun i hi => h i (by omega))
    rw [flat_succ]
    by_cases e : i = n
    · subst e
      rw [List.getElem?_append_right (by omega), hl]
      congr 1
      omega
    · have hin : i < n := by omega
      have : i * sz + j < n * sz := Nat.lt_of_lt_of_le (by rw [Nat.succ_mul]; omega : i * sz + j < (i + 1) * sz) (Nat.mul_le_mul_right sz (by omega))
      rw [List.getElem?_append_left (by omega)]
      exact ih (fun i hi => h i (by omega)) hin

theorem getD_app_l {α : Type} (l : List α) (y d : α) {i : Nat} (h : i < l.length) : (l ++ [y]).getD i d = l.getD i d := by
  rw [List.getD_eq_getElem?_getD, List.getD_eq_getElem?_getD, List.getElem?_append_left h]
theorem getD_app_r {α : Type} (l : List α) (y d : α) : (l ++ [y]).getD l.length d = y := by
  rw [List.getD_eq_getElem?_getD, List.getElem?_append_right (Nat.le_refl _), Nat.sub_self]
  rfl
/-- how a thing lies in some cells -/
structure Kind (α : Type) where
  rel : (Nat → Prop) → World → List Value → α → Prop
  keep : ∀ {S : Nat → Prop} {w w' : World} {cs : List Value} {x : α}, rel S w cs x → Stays S w w' → rel S w' cs x
  mono : ∀ {S S' : Nat → Prop} {w : World} {cs : List Value} {x : α}, rel S w cs x → (∀ b, S b → S' b) → rel S' w cs x
  lies : ∀ {S : Nat → Prop} {w : World} {cs : List Value} {x : α}, rel S w cs x → rel (fun b => S b ∧ b < w.heap.size) w cs x
/-- what a row of one's own holds beside itself -/
def Items {α : Type} [Inhabited α] (K : Kind α) (base sz : Nat) (w : World) (v : Value) (xs : List α) (cs : Nat → List Value) : Prop :=
  ∀ i, i < xs.length → (cs i).length = sz ∧ K.rel (fun b => base ≤ b ∧ v.ownBlock ≠ some b) w (cs i) (xs.getD i default)
/-- a row of one's own that grows -/
def GrowOf {α : Type} [Inhabited α] (K : Kind α) (base e sz : Nat) (w : World) (v : Value) (xs : List α) : Prop :=
  ∃ cs, w.ownsRow base e sz v xs.length (flat cs xs.length) ∧ Items K base sz w v xs cs
section
variable {α : Type} [Inhabited α] {K : Kind α} {base e sz : Nat} {w w' : World} {v : Value} {xs : List α}
theorem GrowOf.nil : GrowOf K base e sz w (.slice none 0 0) [] := ⟨fun _ => [], own_nil, fun i hi => absurd hi (by simp)⟩
theorem own_keep {n : Nat} {l : List Value} (h : w.ownsRow base e sz v n l) (hs : Stays (From base) w w') : w'.ownsRow base e sz v n l := by
  refine ⟨h.1, ?_⟩
  rcases h.2 with q | ⟨g, cap, cur, q1, q2, q3, q4⟩
  · exact .inl q
  · exact .inr ⟨g, cap, cur, q1, q2, (hs.block g q2 (lt_block q3)).trans q3, q4⟩
theorem own_block {n : Nat} {l : List Value} (h : w.ownsRow base e sz v n l) {b : Nat} (hb : v.ownBlock = some b) : base ≤ b ∧ b < w.heap.size := by
  rcases h.2 with ⟨rfl, _⟩ | ⟨g, cap, cur, rfl, q2, q3, q4⟩
  · cases hb
  · injection hb with hb
    subst hb
    exact ⟨q2, lt_block q3⟩
theorem Items.keep {cs : Nat → List Value} (h : Items K base sz w v xs cs) (hs : Stays (From base) w w') : Items K base sz w' v xs cs := fun i hi =>
  ⟨(h i hi).1, K.keep (h i hi).2 ⟨hs.size, fun b hb hl => hs.block b hb.1 hl⟩⟩
theorem GrowOf.keep (h : GrowOf K base e sz w v xs) (hs : Stays (From base) w w') : GrowOf K base e sz w' v xs := by
  obtain ⟨cs, h1, h2⟩ := h
  exact ⟨cs, own_keep h1 hs, h2.keep hs⟩
theorem GrowOf.row (h : GrowOf K base e sz w v xs) : ∃ cs, RowOf (From base) w v sz xs.length cs ∧ ∀ i, i < xs.length → K.rel (From base) w (cs i) (xs.getD i default) := by
  obtain ⟨cs, h1, h2⟩ := h
  obtain ⟨s0, cap, rfl, hle, hm, hn, hc⟩ := own_form h1
  refine ⟨cs, ⟨s0, cap, rfl, hle, hm, hn, fun h0 => ?_, fun i hi => (h2 i hi).1⟩, fun i hi => K.mono (h2 i hi).2 (fun b hb => hb.1)⟩
  obtain ⟨g, e, hg, hl, hcell⟩ := hc h0
  refine ⟨g, 0, e, hg, hl, fun i hi j hj => ?_⟩
  have hget := flat_get (fun i hi => (h2 i hi).1) hi hj
  have hlen := (h2 i hi).1
  rw [Nat.zero_add, hcell (i * sz + j) ((cs i)[j]'(by omega)) (by rw [hget]; exact List.getElem?_eq_getElem _), List.getElem?_eq_getElem (by omega)]
theorem Items.push {cs : Nat → List Value} {new : List Value} {y : α} {g cap : Nat} (h : Items K base sz w v xs cs) (hn : new.length = sz) (hy : K.rel (fun b => base ≤ b ∧ v.ownBlock ≠ some b) w new y) (hg : w.grownBy w' v.ownBlock) (hgl : v.ownBlock = some g ∨ g = w.heap.size) :
    Items K base sz w' (.slice (some ⟨g, 0, none⟩) (xs.length + 1) cap) (xs ++ [y]) (fun i => if i < xs.length then cs i else new) := by
  have hk : ∀ (c : List Value) (x : α), K.rel (fun b => base ≤ b ∧ v.ownBlock ≠ some b) w c x → K.rel (fun b => base ≤ b ∧ (Value.slice (some ⟨g, 0, none⟩) (xs.length + 1) cap).ownBlock ≠ some b) w' c x := fun c x hx =>
    K.mono (K.keep (K.lies hx) ⟨hg.size, fun b hb hl => hg.block b hl (fun e => hb.1.2 e.symm)⟩) (fun b hb => ⟨hb.1.1, fun e => by
      injection e with e
      have e' : g = b := e
      subst e'
      rcases hgl with q | q
      · exact hb.1.2 q
      · have := hb.2; omega⟩)
  intro i hi
  by_cases e : i < xs.length
  · dsimp only
    rw [if_pos e]
    refine ⟨(h i e).1, ?_⟩
    rw [getD_app_l _ _ _ e]
    exact hk _ _ (h i e).2
  · have hi2 : i < xs.length + 1 := by simpa using hi
    obtain rfl : i = xs.length := by omega
    dsimp only
    rw [if_neg e]
    refine ⟨hn, ?_⟩
    rw [getD_app_r]
    exact hk _ _ hy
theorem flat_push {cs : Nat → List Value} {new : List Value} (n : Nat) : flat (fun i => if i < n then cs i else new) (n + 1) = flat cs n ++ new := by
  rw [flat_succ, if_neg (Nat.lt_irrefl _), flat_congr (cs' := cs) (fun i hi => if_pos hi)]
theorem GrowOf.push {cs : Nat → List Value} {new : List Value} {y : α} {g cap : Nat} (h : Items K base sz w v xs cs) (hn : new.length = sz) (hy : K.rel (fun b => base ≤ b ∧ v.ownBlock ≠ some b) w new y) (hg : w.grownBy w' v.ownBlock) (hgl : v.ownBlock = some g ∨ g = w.heap.size)
    (hown : w'.ownsRow base e sz (.slice (some ⟨g, 0, none⟩) (xs.length + 1) cap) (xs.length + 1) (flat cs xs.length ++ new)) : GrowOf K base e sz w' (.slice (some ⟨g, 0, none⟩) (xs.length + 1) cap) (xs ++ [y]) := by
  refine ⟨_, ?_, h.push hn hy hg hgl⟩
  rw [List.length_append, show [y].length = 1 from rfl, flat_push]
  exact hown
/-- a cell of the row is set -/
theorem own_put {g n cap : Nat} {l : List Value} (h : w.ownsRow base e sz (.slice (some ⟨g, 0, none⟩) n cap) n l) (j : Nat) (u : Value) : (w.setCell ⟨g, j, none⟩ u).ownsRow base e sz (.slice (some ⟨g, 0, none⟩) n cap) n (l.set j u) := by
  refine ⟨by rw [List.length_set]; exact h.1, ?_⟩
  rcases h.2 with ⟨q, _⟩ | ⟨g', cap', cur, q1, q2, q3, q4, q5, q6, q7⟩
  · cases q
  · injection q1 with a1 a2 a3
    injection a1 with a1
    injection a1 with a1
    subst a1 a3
    refine .inr ⟨g, cap, cur.setIfInBounds j u, rfl, q2, setCell_obj q3 j u, q4, q5, by simpa using q6, ?_⟩
    rw [← q7]
    simp [List.take_set]
theorem own_facts {g n cap : Nat} {l : List Value} (h : w.ownsRow base e sz (.slice (some ⟨g, 0, none⟩) n cap) n l) : (∀ j u, l[j]? = some u → w.cell? ⟨g, j, none⟩ = some u) ∧ (∀ j, w.frozen? ⟨g, j, none⟩ = false) := by
  rcases h.2 with ⟨q, _⟩ | ⟨g', cap', cur, q1, q2, q3, q4, q5, q6, q7⟩
  · cases q
  · injection q1 with a1 a2 a3
    injection a1 with a1
    injection a1 with a1
    subst a1
    refine ⟨fun j u hj => ?_, fun j => frozen_of q3 j⟩
    rw [← q7, List.getElem?_take] at hj
    split at hj
    · exact cell_of q3 (by simpa using hj)
    · cases hj
end
end Go.Proofs.Ytpiamiaigjlafaa
