/-
  How an argument that reads as data lies in memory, said without the data: the cells of a type, part by part.
-/
import Derived.Test.YtagmhlgkbehecaaKit
import Derived.ProofKit
import Derived.ChangeOld
import Derived.ChangeArms
import Derived.Deep.Slices
namespace Go.Proofs.Ytagmhlgkbehecaa
open Go.ChangeShapes Go.WideShapes Go.ChangeAt Go.RowKit

/-- The cells cs of type t read as some datum, by so much fuel. -/
def TR (P : Program) (w : World) (n : Nat) (t : TypeId) (cs : List Value) : Prop :=
  ∃ (H : Type) (enc : TypeId × Value → H) (x : DataW H × List MemPlace), DataW.trod enc P w 0 (fun _ => true) true n t cs = some x

variable {P : Program} {w : World} {n : Nat} {t : TypeId} {cs : List Value}

theorem TR.of {H : Type} {enc : TypeId × Value → H} {v : Value} {d : DataW H} {p : List MemPlace} (h : DataW.Trod enc P w 0 (fun _ => true) true t v d p) : ∃ n, TR P w n t v.cells.toList := by
  obtain ⟨m, hm⟩ := h
  exact ⟨m, H, enc, _, hm⟩
theorem TR.int {k : IntKind} (ht : P.underlying t = some (.int k)) (h : TR P w n t cs) : ∃ i, cs = [.int k i] ∧ (Lit.int k i).wf = true := by
  obtain ⟨H, enc, x, hx⟩ := h
  obtain ⟨i, h1, _, h2⟩ := DataW.trod_int ht hx
  exact ⟨i, h1, h2⟩
theorem TR.bool (ht : P.underlying t = some .bool) (h : TR P w n t cs) : ∃ b, cs = [.bool b] := by
  obtain ⟨H, enc, x, hx⟩ := h
  obtain ⟨b, h1, _⟩ := DataW.trod_bool ht hx
  exact ⟨b, h1⟩
theorem TR.string (ht : P.underlying t = some .string) (h : TR P w n t cs) : ∃ s : ByteArray, cs = [.string s] ∧ s.size ≤ maxLen := by
  obtain ⟨H, enc, x, hx⟩ := h
  obtain ⟨s, h1, _, h2⟩ := DataW.trod_string ht hx
  exact ⟨s, h1, h2⟩
theorem TR.struct {fs : Array Field} (ht : P.underlying t = some (.struct fs)) (h : TR P w n t cs) :
    ∃ m, n = m + 1 ∧ cs.length = P.cellsOf t ∧ ∀ (i : Nat) (f : Field), fs[i]? = some f → TR P w m f.type ((cs.drop f.offset).take (P.cellsOf f.type)) := by
  obtain ⟨H, enc, x, hx⟩ := h
  obtain ⟨xs, m, h1, _, h2, h3, h4⟩ := DataW.trod_struct ht hx
  refine ⟨m, h1, h2, fun i f hf => ?_⟩
  have hi : i < fs.size := (Array.getElem?_eq_some_iff.1 hf).1
  have h5 := h4 i f hf
  rw [List.getElem?_eq_getElem (by omega)] at h5
  exact ⟨H, enc, _, h5⟩
theorem TR.slice {e : TypeId} (ht : P.underlying t = some (.slice e)) (hc : 0 < P.cellsOf e) (h : TR P w n t cs) :
    ∃ a len cap, cs = [.slice a len cap] ∧ len ≤ cap ∧ cap ≤ maxLen ∧ (a = none → len = 0 ∧ cap = 0) ∧ (0 < cap → ∃ b off, a = some ⟨b, off, none⟩ ∧ b < w.heap.size) ∧
      ∀ b off, a = some ⟨b, off, none⟩ → ∀ i, i < len → ∃ m cs', n = m + 1 ∧ cs'.length = P.cellsOf e ∧ (∀ j, j < P.cellsOf e → w.cell? ⟨b, off + i * P.cellsOf e + j, none⟩ = cs'[j]?) ∧ TR P w m e cs' := by
  obtain ⟨H, enc, x, hx⟩ := h
  rcases DataW.trod_slice ht hx with ⟨rfl, _⟩ | ⟨a, len, cap, elems, rest, m, hm, rfl, hxe, _, hl, hcm, hel, hat, hsp, _⟩
  · exact ⟨none, 0, 0, rfl, Nat.le_refl _, Nat.zero_le _, fun _ => ⟨rfl, rfl⟩, fun h => absurd h (by omega), fun b off h => by cases h⟩
  · obtain ⟨hrl, hra⟩ := hsp rfl
    have hcell : ∀ k, k < cap → ∃ cs' y, w.cells? 0 (a.add (k * P.cellsOf e)) (P.cellsOf e) = some cs' ∧ DataW.trod enc P w 0 (fun _ => true) true m e cs' = some y := fun k hk => by
      by_cases hkl : k < len
      · have h1 := hat k hkl
        rw [List.getElem?_eq_getElem (by omega), Option.bind_eq_some_iff] at h1
        obtain ⟨cs', h2, h3⟩ := h1
        exact ⟨cs', _, h2, h3⟩
      · have h1 := hra (k - len) (by omega)
        rw [List.getElem?_eq_getElem (by omega), Option.bind_eq_some_iff] at h1
        obtain ⟨cs', h2, h3⟩ := h1
        rw [show len + (k - len) = k by omega] at h2
        exact ⟨cs', _, h2, h3⟩
    refine ⟨some a, len, cap, rfl, hl, hcm, (fun h => by cases h), fun h0 => ?_, fun b off hab i hi => ?_⟩
    · obtain ⟨cs', y, h1, _⟩ := hcell 0 h0
      obtain ⟨_, h2, h3⟩ := World.cells?_some h1
      have h4 := h3 0 hc
      rw [List.getElem?_eq_getElem (by omega)] at h4
      obtain ⟨b, off, spot⟩ := a
      have hs : spot = none := by simpa [Addr.add] using World.cell?_spot h4
      subst hs
      refine ⟨b, off, rfl, ?_⟩
      rw [add_plain, add_plain] at h4
      exact lt_of_cell h4
    · injection hab with hab
      subst hab
      obtain ⟨cs', y, h1, h2⟩ := hcell i (by omega)
      obtain ⟨_, h3, h4⟩ := World.cells?_some h1
      refine ⟨m, cs', hm, h3, fun j hj => ?_, H, enc, y, h2⟩
      have h5 := h4 j hj
      rw [add_plain, add_plain] at h5
      exact h5
end Go.Proofs.Ytagmhlgkbehecaa
