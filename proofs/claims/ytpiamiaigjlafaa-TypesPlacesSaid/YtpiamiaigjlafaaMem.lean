/-
  Memory: small lemmas that no program is in: new blocks, blocks that stay, rows of one's own.
-/
import Derived.Test.YtpiamiaigjlafaaKit
import Derived.Deep.AppendLies
namespace Go.Proofs.Ytpiamiaigjlafaa
open Go.RowKit

theorem lt_block {w : World} {b : Nat} {o : Obj} (h : w.heap[b]? = some o) : b < w.heap.size := (Array.getElem?_eq_some_iff.1 h).1
theorem size_alloc (W : World) (o : Obj) : (W.alloc o).heap.size = W.heap.size + 1 := by
  show (W.heap.push o).size = _
  simp
theorem new_heap (W : World) (o : Obj) (h : Nat) (hh : W.heap.size = h) : (W.alloc o).heap[h]? = some o := by
  subst hh
  show (W.heap.push _)[W.heap.size]? = _
  simp
theorem old_heap (W : World) (o o' : Obj) (h : Nat) (hh : W.heap[h]? = some o) : (W.alloc o').heap[h]? = some o := by
  rw [Below.heap_alloc _ _ _ (lt_block hh)]
  exact hh
theorem new_cell (W : World) (arr : Array Value) (t : TypeId) (n i : Nat) (u : Value) (hn : W.heap.size = n) (hu : arr[i]? = some u) : (W.alloc (.cells arr t)).cell? ⟨n, i, none⟩ = some u := by
  have h := new_heap W (.cells arr t) n hn
  unfold World.cell?
  simp only [h]
  exact hu
theorem old_cell {w : World} {c o : Nat} {u : Value} (b : Obj) (h : w.cell? ⟨c, o, none⟩ = some u) : (w.alloc b).cell? ⟨c, o, none⟩ = some u := by
  rw [World.cell?_alloc_old _ _ _ (fun e => World.new_ne w _ h e.symm)]
  exact h
theorem frozen_of {w : World} {k : Nat} {arr : Array Value} {t : TypeId} (h : w.heap[k]? = some (.cells arr t (0, 0))) (j : Nat) : w.frozen? ⟨k, j, none⟩ = false := by simp [World.frozen?, h]
theorem cell_of {w : World} {k : Nat} {arr : Array Value} {t : TypeId} {fz : Nat × Nat} (h : w.heap[k]? = some (.cells arr t fz)) {j : Nat} {u : Value} (hu : arr[j]? = some u) : w.cell? ⟨k, j, none⟩ = some u := by
  unfold World.cell?
  simp only [h]
  exact hu
theorem setCell_heap (w : World) (p : Addr) (u : Value) (b : Nat) (h : b ≠ p.block) : (w.setCell p u).heap[b]? = w.heap[b]? := Below.heap_setCell w p u b h
theorem setCell_size (w : World) (p : Addr) (u : Value) : (w.setCell p u).heap.size = w.heap.size := by simp [World.setCell]
theorem obj_setCell {W : World} {b j : Nat} {t : TypeId} {v : Value} (h : ∃ arr, W.heap[b]? = some (.cells arr t (0, 0))) : ∃ arr, (W.setCell ⟨b, j, none⟩ v).heap[b]? = some (.cells arr t (0, 0)) := by
  obtain ⟨a, h⟩ := h
  refine ⟨a.setIfInBounds j v, ?_⟩
  show (W.heap.modify b _)[b]? = _
  rw [Array.getElem?_modify, if_pos rfl, h]
  rfl

/-! ### One block turned -/
/-- only block k may have turned, and new ones -/
def On (k : Nat) (w w' : World) : Prop := w.grownBy w' (some k)
theorem On.refl (k : Nat) (w : World) : On k w w := ⟨rfl, rfl, rfl, Nat.le_refl _, fun _ _ _ => rfl⟩
theorem On.trans {k : Nat} {a b c : World} (h : On k a b) (g : On k b c) : On k a c :=
  ⟨g.os.trans h.os, g.tape.trans h.tape, g.output.trans h.output, Nat.le_trans h.size g.size, fun i hi hne => (g.block i (Nat.lt_of_lt_of_le hi h.size) hne).trans (h.block i hi hne)⟩
theorem On.of_below {k : Nat} {a b : World} (h : Below a.heap.size a b) : On k a b := ⟨h.os, h.tape, h.output, h.size, fun i hi _ => h.block i hi⟩
theorem On.of_none {k : Nat} {a b : World} (h : a.grownBy b none) : On k a b := ⟨h.os, h.tape, h.output, h.size, fun i hi _ => h.block i hi (by simp)⟩
theorem On.drewN {k : Nat} {a b : World} (h : On k a b) (n : Nat) : On k a (b.drewN n) := ⟨h.os, h.tape, h.output, h.size, h.block⟩
theorem On.drew {k : Nat} {a b : World} (h : On k a b) : On k a b.drew := ⟨h.os, h.tape, h.output, h.size, h.block⟩
theorem On.set {k : Nat} {a b : World} (h : On k a b) (j : Nat) (u : Value) : On k a (b.setCell ⟨k, j, none⟩ u) :=
  ⟨h.os, h.tape, h.output, by simpa [World.setCell] using h.size, fun i hi hne => (Below.heap_setCell b ⟨k, j, none⟩ u i (fun e => hne (by rw [e]))).trans (h.block i hi hne)⟩
theorem On.alloc {k : Nat} {a b : World} (h : On k a b) (o : Obj) : On k a (b.alloc o) := h.trans (On.of_below (up_alloc (Below.refl _ _) o))
theorem On.cell {k : Nat} {a b : World} (h : On k a b) {c o : Nat} {u : Value} (hne : c ≠ k) (hc : a.cell? ⟨c, o, none⟩ = some u) : b.cell? ⟨c, o, none⟩ = some u :=
  (World.cell?_of_block (w := a) (h.block c (lt_of_cell hc) (fun e => hne (by injection e)))).trans hc
theorem On.obj {k k' : Nat} {w w' : World} {o : Obj} (h : On k w w') (hne : k' ≠ k) (ho : w.heap[k']? = some o) : w'.heap[k']? = some o :=
  (h.block k' (lt_block ho) (fun e => hne (by injection e))).trans ho
/-- where all that turned is new -/
theorem On.base {k : Nat} {B w w' : World} (h : On k w w') (hB : Below B.heap.size B w) (hk : B.heap.size ≤ k) : Below B.heap.size B w' :=
  ⟨h.os.trans hB.os, h.tape.trans hB.tape, h.output.trans hB.output, Nat.le_trans hB.size h.size, fun i hi => (h.block i (Nat.lt_of_lt_of_le hi hB.size) (fun e => by injection e with e; omega)).trans (hB.block i hi)⟩

/-! ### Rows of one's own -/
theorem grown_keep {w3 A B : World} {g : Nat} (h : A.grownBy B (some g)) (hb : Below w3.heap.size w3 A) (hg : w3.heap.size ≤ g) : Below w3.heap.size w3 B :=
  hb.grown h hb.size (fun k e => by injection e with e; omega)
theorem grown_heap {A B : World} {g b : Nat} {u : Obj} (h : A.grownBy B (some g)) (hne : b ≠ g) (hc : A.heap[b]? = some u) : B.heap[b]? = some u :=
  (h.block b (lt_block hc) (fun e => hne (by injection e))).trans hc
theorem ad_cell {w : World} {b o : Nat} {u : Value} (ob : Obj) (hc : w.cell? ⟨b, o, none⟩ = some u) : (w.alloc ob).drew.cell? ⟨b, o, none⟩ = some u := old_cell ob hc
theorem ad_heap {w : World} {b : Nat} {q : Obj} (o : Obj) (hc : w.heap[b]? = some q) : (w.alloc o).drew.heap[b]? = some q := old_heap _ _ _ _ hc
theorem own_empty {W : World} {g e s base : Nat} (h : W.heap[g]? = some (.cells #[] e (0, 0))) (hb : base ≤ g) : W.ownsRow base e s (.slice (some ⟨g, 0, none⟩) 0 0) 0 [] :=
  ⟨by simp, .inr ⟨g, 0, #[], rfl, hb, h, Nat.le_refl _, by unfold maxLen; omega, by simp, by simp⟩⟩
theorem own_nil {W : World} {e s base : Nat} : W.ownsRow base e s (.slice none 0 0) 0 [] := ⟨by simp, .inl ⟨rfl, rfl⟩⟩
theorem own_lit {W : World} {arr : Array Value} {g e s n base : Nat} (h : W.heap[g]? = some (.cells arr e (0, 0))) (hb : base ≤ g) (hs : arr.size = n * s) (hn : n ≤ maxLen) : W.ownsRow base e s (.slice (some ⟨g, 0, none⟩) n n) n arr.toList :=
  ⟨by simpa using hs, .inr ⟨g, n, arr, rfl, hb, h, Nat.le_refl _, hn, by omega, List.take_of_length_le (by simp; omega)⟩⟩
theorem own_set2 {W : World} {base e s n b j : Nat} {v u : Value} {xs : List Value} (h : W.ownsRow base e s v n xs) (hb : b < base) : (W.setCell ⟨b, j, none⟩ u).ownsRow base e s v n xs := by
  refine ⟨h.1, ?_⟩
  rcases h.2 with q | ⟨g, cap, cur, q1, q2, q3, q4⟩
  · exact .inl q
  · exact .inr ⟨g, cap, cur, q1, q2, (setCell_heap _ _ _ _ (by show g ≠ b; omega)).trans q3, q4⟩
/-- a row of one's own is a slice -/
theorem own_form {W : World} {base e s : Nat} {v : Value} {n : Nat} {xs : List Value} (h : W.ownsRow base e s v n xs) : ∃ s0 cap, v = .slice s0 n cap ∧ n ≤ cap ∧ cap ≤ maxLen ∧ (s0 = none → cap = 0) ∧ (0 < n → ∃ g, s0 = some ⟨g, 0, none⟩ ∧ base ≤ g ∧ g < W.heap.size ∧ ∀ j u, xs[j]? = some u → W.cell? ⟨g, j, none⟩ = some u) := by
  rcases h.2 with ⟨q, q2⟩ | ⟨g, cap, cur, rfl, hg, hh, hle, hm, _⟩
  · subst q2
    exact ⟨none, 0, q, Nat.le_refl _, Nat.zero_le _, fun _ => rfl, fun h0 => absurd h0 (by omega)⟩
  · refine ⟨_, cap, rfl, hle, hm, fun e => (by cases e), fun _ => ⟨g, rfl, hg, lt_block hh, fun j u hj => ?_⟩⟩
    have := World.ownsRow.cells h (g := g) rfl j u hj
    rwa [Go.WideShapes.add_plain, Nat.zero_add] at this
end Go.Proofs.Ytpiamiaigjlafaa
