/-
  Compile: part 0 of its proof: see the last text.
-/
import Derived.WalkKit
import Derived.WalkSpells
import Derived.WalkLawsBesides
import Derived.BigQuiet
import Derived.Lib.Hide
import Derived.OpenShut
import Derived.Outline
import Derived.Deep.RegionWith
import Derived.Deep.DeepCutAuto
import Derived.Deep.RegionHeld3
import Derived.Deep.QuietTactic
import Derived.Deep.DrawnRows
import Derived.BigRegion
import Derived.Deep.AppendLies
set_option maxRecDepth 100000
set_option maxHeartbeats 16000000
namespace Go.Proofs.YtjblihabklemfaaGreatDoor
section
open Go.RowKit
theorem zh {p : Prop} (h : p) : Hid p := Lib.hid h
theorem ak {a b c : World} (h : Below a.heap.size a b) (k : Below b.heap.size b c) : Below a.heap.size a c := h.trans (k.mono h.size)
theorem ae {a b : World} (h : Below a.heap.size a b) (o : Obj) : Below a.heap.size a (b.alloc o) := h.alloc h.size o
theorem av {a b : World} (h : Below a.heap.size a b) : Below a.heap.size a b.drew := h.drew
theorem cG {a b : World} (h : Below a.heap.size a b) (n : Nat) : Below a.heap.size a (b.drewN n) := ⟨h.os, h.tape, h.output, h.size, h.block⟩
theorem rG {a b : World} (h : Below a.heap.size a b) {p : Addr} (hp : a.heap.size ≤ p.block) (u : Value) : Below a.heap.size a (b.setCell p u) := h.setCell hp u
theorem aK {a b : World} (h : Below a.heap.size a b) (k o : Nat) (hk : k < a.heap.size) : b.cell? ⟨k, o, none⟩ = a.cell? ⟨k, o, none⟩ := h.cell (p := ⟨k, o, none⟩) hk
theorem rV {a b : World} (h : Below a.heap.size a b) (k o : Nat) (hk : k < a.heap.size) : b.frozen? ⟨k, o, none⟩ = a.frozen? ⟨k, o, none⟩ := h.frozen (p := ⟨k, o, none⟩) hk
theorem qX {W w1 : World} (hb : Below W.heap.size W w1) : (∀ b o, b < W.heap.size → w1.cell? ⟨b, o, none⟩ = W.cell? ⟨b, o, none⟩) ∧ (∀ b o, b < W.heap.size → w1.frozen? ⟨b, o, none⟩ = W.frozen? ⟨b, o, none⟩) ∧ W.heap.size ≤ w1.heap.size :=
 ⟨fun b o h => hb.cell (p := ⟨b, o, none⟩) h, fun b o h => hb.frozen (p := ⟨b, o, none⟩) h, hb.size⟩
theorem cr {k : IntKind} {a b : Int} (h : a = b) : Ending.returned (.int k a) = .returned (.int k b) := by rw [h]
theorem bF {a b : Bool} (h : a = b) : Ending.returned (.bool a) = .returned (.bool b) := by rw [h]
theorem aR (w : World) {b c i j : Nat} (v : Value) (h : b ≠ c ∨ i ≠ j) : (w.setCell ⟨b, i, none⟩ v).cell? ⟨c, j, none⟩ = w.cell? ⟨c, j, none⟩ :=
 World.cell?_setCell_other _ _ _ _ (fun e => by injection e with e1 e2; rcases h with h | h <;> contradiction)
theorem dh {w : World} {b i : Nat} {u : Value} (v : Value) (h : w.cell? ⟨b, i, none⟩ = some u) : (w.setCell ⟨b, i, none⟩ v).cell? ⟨b, i, none⟩ = some v :=
 World.cell?_setCell_same _ _ _ h
theorem am {w : World} {b o : Nat} {v : Value} (h : w.cell? ⟨b, o, none⟩ = some v) : b < w.heap.size := by
 by_cases hb : b < w.heap.size
 ·exact hb
 ·have e : w.heap[b]? = none := by simp; omega
  simp [World.cell?, e] at h
def IsRow (k : IntKind) (w : World) (a : Option Addr) (len cap : Nat) (zs : List Int) : Prop :=
 (a = none ∧ len = 0 ∧ cap = 0 ∧ zs = []) ∨
 ∃ x, a = some x ∧ len ≤ cap ∧ cap ≤ maxLen ∧ zs.length = cap ∧ (∀ i, i < zs.length → w.cell? (x.add i) = some (.int k (zs.getD i 0))) ∧ ∀ n ∈ zs, (Lit.int k n).wf = true
theorem IsRow.parts {k : IntKind} {w : World} {a : Option Addr} {len cap : Nat} {zs : List Int} (h : IsRow k w a len cap zs) :
    len = 0 ∨ ∃ b off, a = some ⟨b, off, none⟩ ∧ b < w.heap.size ∧ len ≤ cap ∧ cap ≤ maxLen ∧ (∀ i, i < len → w.cell? ⟨b, off + i, none⟩ = some (.int k (zs.getD i 0))) ∧ ∀ i, i < len → (Lit.int k (zs.getD i 0)).wf = true := by
 by_cases hl : len = 0
 ·exact .inl hl
 rcases h with ⟨_, h, _⟩ | ⟨x, rfl, hl1, hc, hz, hcell, hwf⟩
 ·exact absurd h hl
 ·obtain ⟨b, off, rfl, hj⟩ := ints_at hcell (by omega)
  refine .inr ⟨b, off, rfl, am (hj 0 (by omega)), hl1, hc, fun i hi => hj i (by omega), fun i hi => ?_⟩
  rw [List.getD_eq_getElem?_getD, List.getElem?_eq_getElem (by omega)]
  exact hwf _ (List.getElem_mem _)
theorem IsRow.len {k : IntKind} {w : World} {a : Option Addr} {len cap : Nat} {zs : List Int} (h : IsRow k w a len cap zs) : len ≤ maxLen := by
 rcases h with ⟨_, rfl, _⟩ | ⟨x, _, h1, h2, _⟩
 ·exact Nat.zero_le _
 ·omega
end
section
open Go.RowKit
theorem ad {w : World} {b : Nat} {o : Obj} (h : w.heap[b]? = some o) : b < w.heap.size := (Array.getElem?_eq_some_iff.1 h).1
theorem ag (W : World) (o : Obj) : (W.alloc o).heap.size = W.heap.size + 1 := by
 show (W.heap.push o).size = _
 simp
theorem ah (W : World) (o : Obj) (h : Nat) (hh : W.heap.size = h) : (W.alloc o).heap[h]? = some o := by
 subst hh
 show (W.heap.push _)[W.heap.size]? = _
 simp
theorem au (W : World) (o o' : Obj) (h : Nat) (hh : W.heap[h]? = some o) : (W.alloc o').heap[h]? = some o := by
 rw [Below.heap_alloc _ _ _ (ad hh)]
 exact hh
theorem aw (W : World) (arr : Array Value) (t : TypeId) (n i : Nat) (u : Value) (hn : W.heap.size = n) (hu : arr[i]? = some u) : (W.alloc (.cells arr t)).cell? ⟨n, i, none⟩ = some u := by
 have h := ah W (.cells arr t) n hn
 unfold World.cell?
 simp only [h]
 exact hu
theorem aj {w : World} {c o : Nat} {u : Value} (b : Obj) (h : w.cell? ⟨c, o, none⟩ = some u) : (w.alloc b).cell? ⟨c, o, none⟩ = some u := by
 rw [World.cell?_alloc_old _ _ _ (fun e => World.new_ne w _ h e.symm)]
 exact h
theorem ab {w : World} {k : Nat} {arr : Array Value} {t : TypeId} (h : w.heap[k]? = some (.cells arr t (0, 0))) (j : Nat) : w.frozen? ⟨k, j, none⟩ = false := by simp [World.frozen?, h]
theorem aa {w : World} {k : Nat} {arr : Array Value} {t : TypeId} {fz : Nat × Nat} (h : w.heap[k]? = some (.cells arr t fz)) {j : Nat} {u : Value} (hu : arr[j]? = some u) : w.cell? ⟨k, j, none⟩ = some u := by
 unfold World.cell?
 simp only [h]
 exact hu
def Cs (w : World) (b : Nat) : List Value → Prop
 | [x0] => w.cell? ⟨b, 0, none⟩ = some x0 ∧ True
 | [x0, x1] => w.cell? ⟨b, 0, none⟩ = some x0 ∧ w.cell? ⟨b, 1, none⟩ = some x1 ∧ True
 | [x0, x1, x2] => w.cell? ⟨b, 0, none⟩ = some x0 ∧ w.cell? ⟨b, 1, none⟩ = some x1 ∧ w.cell? ⟨b, 2, none⟩ = some x2 ∧ True
 | [x0, x1, x2, x3] => w.cell? ⟨b, 0, none⟩ = some x0 ∧ w.cell? ⟨b, 1, none⟩ = some x1 ∧ w.cell? ⟨b, 2, none⟩ = some x2 ∧ w.cell? ⟨b, 3, none⟩ = some x3 ∧ True
 | [x0, x1, x2, x3, x4] => w.cell? ⟨b, 0, none⟩ = some x0 ∧ w.cell? ⟨b, 1, none⟩ = some x1 ∧ w.cell? ⟨b, 2, none⟩ = some x2 ∧ w.cell? ⟨b, 3, none⟩ = some x3 ∧ w.cell? ⟨b, 4, none⟩ = some x4 ∧ True
 | [x0, x1, x2, x3, x4, x5] => w.cell? ⟨b, 0, none⟩ = some x0 ∧ w.cell? ⟨b, 1, none⟩ = some x1 ∧ w.cell? ⟨b, 2, none⟩ = some x2 ∧ w.cell? ⟨b, 3, none⟩ = some x3 ∧ w.cell? ⟨b, 4, none⟩ = some x4 ∧ w.cell? ⟨b, 5, none⟩ = some x5 ∧ True
 | [x0, x1, x2, x3, x4, x5, x6] => w.cell? ⟨b, 0, none⟩ = some x0 ∧ w.cell? ⟨b, 1, none⟩ = some x1 ∧ w.cell? ⟨b, 2, none⟩ = some x2 ∧ w.cell? ⟨b, 3, none⟩ = some x3 ∧ w.cell? ⟨b, 4, none⟩ = some x4 ∧ w.cell? ⟨b, 5, none⟩ = some x5 ∧ w.cell? ⟨b, 6, none⟩ = some x6 ∧ True
 | [x0, x1, x2, x3, x4, x5, x6, x7] => w.cell? ⟨b, 0, none⟩ = some x0 ∧ w.cell? ⟨b, 1, none⟩ = some x1 ∧ w.cell? ⟨b, 2, none⟩ = some x2 ∧ w.cell? ⟨b, 3, none⟩ = some x3 ∧ w.cell? ⟨b, 4, none⟩ = some x4 ∧ w.cell? ⟨b, 5, none⟩ = some x5 ∧ w.cell? ⟨b, 6, none⟩ = some x6 ∧ w.cell? ⟨b, 7, none⟩ = some x7 ∧ True
 | [x0, x1, x2, x3, x4, x5, x6, x7, x8] => w.cell? ⟨b, 0, none⟩ = some x0 ∧ w.cell? ⟨b, 1, none⟩ = some x1 ∧ w.cell? ⟨b, 2, none⟩ = some x2 ∧ w.cell? ⟨b, 3, none⟩ = some x3 ∧ w.cell? ⟨b, 4, none⟩ = some x4 ∧ w.cell? ⟨b, 5, none⟩ = some x5 ∧ w.cell? ⟨b, 6, none⟩ = some x6 ∧ w.cell? ⟨b, 7, none⟩ = some x7 ∧ w.cell? ⟨b, 8, none⟩ = some x8 ∧ True
 | [x0, x1, x2, x3, x4, x5, x6, x7, x8, x9] => w.cell? ⟨b, 0, none⟩ = some x0 ∧ w.cell? ⟨b, 1, none⟩ = some x1 ∧ w.cell? ⟨b, 2, none⟩ = some x2 ∧ w.cell? ⟨b, 3, none⟩ = some x3 ∧ w.cell? ⟨b, 4, none⟩ = some x4 ∧ w.cell? ⟨b, 5, none⟩ = some x5 ∧ w.cell? ⟨b, 6, none⟩ = some x6 ∧ w.cell? ⟨b, 7, none⟩ = some x7 ∧ w.cell? ⟨b, 8, none⟩ = some x8 ∧ w.cell? ⟨b, 9, none⟩ = some x9 ∧ True
 | [x0, x1, x2, x3, x4, x5, x6, x7, x8, x9, x10] => w.cell? ⟨b, 0, none⟩ = some x0 ∧ w.cell? ⟨b, 1, none⟩ = some x1 ∧ w.cell? ⟨b, 2, none⟩ = some x2 ∧ w.cell? ⟨b, 3, none⟩ = some x3 ∧ w.cell? ⟨b, 4, none⟩ = some x4 ∧ w.cell? ⟨b, 5, none⟩ = some x5 ∧ w.cell? ⟨b, 6, none⟩ = some x6 ∧ w.cell? ⟨b, 7, none⟩ = some x7 ∧ w.cell? ⟨b, 8, none⟩ = some x8 ∧ w.cell? ⟨b, 9, none⟩ = some x9 ∧ w.cell? ⟨b, 10, none⟩ = some x10 ∧ True
 | [x0, x1, x2, x3, x4, x5, x6, x7, x8, x9, x10, x11] => w.cell? ⟨b, 0, none⟩ = some x0 ∧ w.cell? ⟨b, 1, none⟩ = some x1 ∧ w.cell? ⟨b, 2, none⟩ = some x2 ∧ w.cell? ⟨b, 3, none⟩ = some x3 ∧ w.cell? ⟨b, 4, none⟩ = some x4 ∧ w.cell? ⟨b, 5, none⟩ = some x5 ∧ w.cell? ⟨b, 6, none⟩ = some x6 ∧ w.cell? ⟨b, 7, none⟩ = some x7 ∧ w.cell? ⟨b, 8, none⟩ = some x8 ∧ w.cell? ⟨b, 9, none⟩ = some x9 ∧ w.cell? ⟨b, 10, none⟩ = some x10 ∧ w.cell? ⟨b, 11, none⟩ = some x11 ∧ True
 | _ => True
theorem css {w : World} {b : Nat} {arr : Array Value} {t : TypeId} {fz : Nat × Nat} (h : w.heap[b]? = some (.cells arr t fz)) : Cs w b arr.toList := by
 obtain ⟨l⟩ := arr
 match l, h with
 | [_], h => exact ⟨aa h rfl, trivial⟩
 | [_, _], h => exact ⟨aa h rfl, aa h rfl, trivial⟩
 | [_, _, _], h => exact ⟨aa h rfl, aa h rfl, aa h rfl, trivial⟩
 | [_, _, _, _], h => exact ⟨aa h rfl, aa h rfl, aa h rfl, aa h rfl, trivial⟩
 | [_, _, _, _, _], h => exact ⟨aa h rfl, aa h rfl, aa h rfl, aa h rfl, aa h rfl, trivial⟩
 | [_, _, _, _, _, _], h => exact ⟨aa h rfl, aa h rfl, aa h rfl, aa h rfl, aa h rfl, aa h rfl, trivial⟩
 | [_, _, _, _, _, _, _], h => exact ⟨aa h rfl, aa h rfl, aa h rfl, aa h rfl, aa h rfl, aa h rfl, aa h rfl, trivial⟩
 | [_, _, _, _, _, _, _, _], h => exact ⟨aa h rfl, aa h rfl, aa h rfl, aa h rfl, aa h rfl, aa h rfl, aa h rfl, aa h rfl, trivial⟩
 | [_, _, _, _, _, _, _, _, _], h => exact ⟨aa h rfl, aa h rfl, aa h rfl, aa h rfl, aa h rfl, aa h rfl, aa h rfl, aa h rfl, aa h rfl, trivial⟩
 | [_, _, _, _, _, _, _, _, _, _], h => exact ⟨aa h rfl, aa h rfl, aa h rfl, aa h rfl, aa h rfl, aa h rfl, aa h rfl, aa h rfl, aa h rfl, aa h rfl, trivial⟩
 | [_, _, _, _, _, _, _, _, _, _, _], h => exact ⟨aa h rfl, aa h rfl, aa h rfl, aa h rfl, aa h rfl, aa h rfl, aa h rfl, aa h rfl, aa h rfl, aa h rfl, aa h rfl, trivial⟩
 | [_, _, _, _, _, _, _, _, _, _, _, _], h => exact ⟨aa h rfl, aa h rfl, aa h rfl, aa h rfl, aa h rfl, aa h rfl, aa h rfl, aa h rfl, aa h rfl, aa h rfl, aa h rfl, aa h rfl, trivial⟩
 | [], _ => exact trivial
 | _ :: _ :: _ :: _ :: _ :: _ :: _ :: _ :: _ :: _ :: _ :: _ :: _ :: _, _ => exact trivial
theorem fzs {w : World} {b : Nat} {arr : Array Value} {t : TypeId} (h : w.heap[b]? = some (.cells arr t (0, 0))) : w.frozen? ⟨b, 0, none⟩ = false ∧ w.frozen? ⟨b, 1, none⟩ = false ∧ w.frozen? ⟨b, 2, none⟩ = false ∧ w.frozen? ⟨b, 3, none⟩ = false ∧ w.frozen? ⟨b, 4, none⟩ = false ∧ w.frozen? ⟨b, 5, none⟩ = false ∧ w.frozen? ⟨b, 6, none⟩ = false ∧ w.frozen? ⟨b, 7, none⟩ = false ∧ w.frozen? ⟨b, 8, none⟩ = false ∧ w.frozen? ⟨b, 9, none⟩ = false ∧ w.frozen? ⟨b, 10, none⟩ = false ∧ w.frozen? ⟨b, 11, none⟩ = false ∧ True := ⟨ab h 0, ab h 1, ab h 2, ab h 3, ab h 4, ab h 5, ab h 6, ab h 7, ab h 8, ab h 9, ab h 10, ab h 11, trivial⟩
theorem af (w : World) (p : Addr) (u : Value) (b : Nat) (h : b ≠ p.block) : (w.setCell p u).heap[b]? = w.heap[b]? := Below.heap_setCell w p u b h
theorem ax (w : World) (p : Addr) (u : Value) : (w.setCell p u).heap.size = w.heap.size := by simp [World.setCell]
theorem l9 {W : World} {b j : Nat} {t : TypeId} {v : Value} (h : ∃ arr, W.heap[b]? = some (.cells arr t (0, 0))) : ∃ arr, (W.setCell ⟨b, j, none⟩ v).heap[b]? = some (.cells arr t (0, 0)) := by
 obtain ⟨a, h⟩ := h
 refine ⟨a.setIfInBounds j v, ?_⟩
 show (W.heap.modify b _)[b]? = _
 rw [Array.getElem?_modify, if_pos rfl, h]
 rfl
def On (k : Nat) (w w' : World) : Prop := w.grownBy w' (some k)
theorem On.refl (k : Nat) (w : World) : On k w w := ⟨rfl, rfl, rfl, Nat.le_refl _, fun _ _ _ => rfl⟩
theorem On.trans {k : Nat} {a b c : World} (h : On k a b) (g : On k b c) : On k a c :=
 ⟨g.os.trans h.os, g.tape.trans h.tape, g.output.trans h.output, Nat.le_trans h.size g.size, fun i hi hne => (g.block i (Nat.lt_of_lt_of_le hi h.size) hne).trans (h.block i hi hne)⟩
theorem On.of_below {k : Nat} {a b : World} (h : Below a.heap.size a b) : On k a b := ⟨h.os, h.tape, h.output, h.size, fun i hi _ => h.block i hi⟩
theorem On.of_none {k : Nat} {a b : World} (h : a.grownBy b none) : On k a b := ⟨h.os, h.tape, h.output, h.size, fun i hi _ => h.block i hi (by simp)⟩
theorem On.drewN {k : Nat} {a b : World} (h : On k a b) (n : Nat) : On k a (b.drewN n) := ⟨h.os, h.tape, h.output, h.size, h.block⟩
theorem On.drew {k : Nat} {a b : World} (h : On k a b) : On k a b.drew := ⟨h.os, h.tape, h.output, h.size, h.block⟩
theorem On.set {k : Nat} {a b : World} (h : On k a b) (j : Nat) (u : Value) : On k a (b.setCell ⟨k, j, none⟩ u) :=
 ⟨h.os, h.tape, h.output, by simpa [World.setCell] using h.size, fun i hi hne => (Below.heap_setCell b ⟨k, j, none⟩ u i (fun e => hne (by rw [e]))).trans (h.block i hi hne)⟩
theorem On.alloc {k : Nat} {a b : World} (h : On k a b) (o : Obj) : On k a (b.alloc o) := h.trans (On.of_below (ae (Below.refl _ _) o))
theorem On.cell {k : Nat} {a b : World} (h : On k a b) {c o : Nat} {u : Value} (hne : c ≠ k) (hc : a.cell? ⟨c, o, none⟩ = some u) : b.cell? ⟨c, o, none⟩ = some u :=
 (World.cell?_of_block (w := a) (h.block c (am hc) (fun e => hne (by injection e)))).trans hc
theorem On.obj {k k' : Nat} {w w' : World} {o : Obj} (h : On k w w') (hne : k' ≠ k) (ho : w.heap[k']? = some o) : w'.heap[k']? = some o :=
 (h.block k' (ad ho) (fun e => hne (by injection e))).trans ho
theorem On.base {k : Nat} {B w w' : World} (h : On k w w') (hB : Below B.heap.size B w) (hk : B.heap.size ≤ k) : Below B.heap.size B w' :=
 ⟨h.os.trans hB.os, h.tape.trans hB.tape, h.output.trans hB.output, Nat.le_trans hB.size h.size, fun i hi => (h.block i (Nat.lt_of_lt_of_le hi hB.size) (fun e => by injection e with e; omega)).trans (hB.block i hi)⟩
theorem rM {w3 A B : World} {g : Nat} (h : A.grownBy B (some g)) (hb : Below w3.heap.size w3 A) (hg : w3.heap.size ≤ g) : Below w3.heap.size w3 B :=
 hb.grown h hb.size (fun k e => by injection e with e; omega)
theorem rN {A B : World} {g b : Nat} {u : Obj} (h : A.grownBy B (some g)) (hne : b ≠ g) (hc : A.heap[b]? = some u) : B.heap[b]? = some u :=
 (h.block b (ad hc) (fun e => hne (by injection e))).trans hc
theorem ti {w : World} {b o : Nat} {u : Value} (ob : Obj) (hc : w.cell? ⟨b, o, none⟩ = some u) : (w.alloc ob).drew.cell? ⟨b, o, none⟩ = some u := aj ob hc
theorem tg {w : World} {b : Nat} {q : Obj} (o : Obj) (hc : w.heap[b]? = some q) : (w.alloc o).drew.heap[b]? = some q := au _ _ _ _ hc
theorem rT {W : World} {g e s base : Nat} (h : W.heap[g]? = some (.cells #[] e (0, 0))) (hb : base ≤ g) : W.ownsRow base e s (.slice (some ⟨g, 0, none⟩) 0 0) 0 [] :=
 ⟨by simp, .inr ⟨g, 0, #[], rfl, hb, h, Nat.le_refl _, by unfold maxLen; omega, by simp, by simp⟩⟩
theorem fC {W : World} {e s base : Nat} : W.ownsRow base e s (.slice none 0 0) 0 [] := ⟨by simp, .inl ⟨rfl, rfl⟩⟩
theorem th {W : World} {arr : Array Value} {g e s n base : Nat} (h : W.heap[g]? = some (.cells arr e (0, 0))) (hb : base ≤ g) (hs : arr.size = n * s) (hn : n ≤ maxLen) : W.ownsRow base e s (.slice (some ⟨g, 0, none⟩) n n) n arr.toList :=
 ⟨by simpa using hs, .inr ⟨g, n, arr, rfl, hb, h, Nat.le_refl _, hn, by omega, List.take_of_length_le (by simp; omega)⟩⟩
theorem sw {W : World} {base e s n b j : Nat} {v u : Value} {xs : List Value} (h : W.ownsRow base e s v n xs) (hb : b < base) : (W.setCell ⟨b, j, none⟩ u).ownsRow base e s v n xs := by
 refine ⟨h.1, ?_⟩
 rcases h.2 with q | ⟨g, cap, cur, q1, q2, q3, q4⟩
 ·exact .inl q
 ·exact .inr ⟨g, cap, cur, q1, q2, (af _ _ _ _ (by show g ≠ b; omega)).trans q3, q4⟩
theorem aY {W : World} {base e s : Nat} {v : Value} {n : Nat} {xs : List Value} (h : W.ownsRow base e s v n xs) : ∃ s0 cap, v = .slice s0 n cap ∧ n ≤ cap ∧ cap ≤ maxLen ∧ (s0 = none → cap = 0) ∧ (0 < n → ∃ g, s0 = some ⟨g, 0, none⟩ ∧ base ≤ g ∧ g < W.heap.size ∧ ∀ j u, xs[j]? = some u → W.cell? ⟨g, j, none⟩ = some u) := by
 rcases h.2 with ⟨q, q2⟩ | ⟨g, cap, cur, rfl, hg, hh, hle, hm, _⟩
 ·subst q2
  exact ⟨none, 0, q, Nat.le_refl _, Nat.zero_le _, fun _ => rfl, fun h0 => absurd h0 (by omega)⟩
 ·refine ⟨_, cap, rfl, hle, hm, fun e => (by cases e), fun _ => ⟨g, rfl, hg, ad hh, fun j u hj => ?_⟩⟩
  have := World.ownsRow.cells h (g := g) rfl j u hj
  rwa [Go.WideShapes.add_plain, Nat.zero_add] at this
end
end Go.Proofs.YtjblihabklemfaaGreatDoor
