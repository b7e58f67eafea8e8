/-
  How an argument that reads as data lies in memory, said without the data: the cells of a type, part by part, with the form's own bound on each size.
-/
import Derived.Test.YtpiamiaigjlafaaKit
import Derived.ProofKit
import Derived.ChangeOld
import Derived.ChangeArms
import Derived.SizedLaws
import Derived.Deep.Slices
namespace Go.Proofs.Ytpiamiaigjlafaa
open Go.ChangeShapes Go.WideShapes Go.ChangeAt Go.RowKit

/-- The cells cs of type t read as some datum, by so much fuel; no part is greater than the form lets it be. -/
def TZ (P : Program) (w : World) (n : Nat) (t : TypeId) (cs : List Value) : Prop :=
  ∃ (H : Type) (enc : TypeId × Value → H) (x : DataW H × List MemPlace), DataW.trod enc P w 0 (fun _ => true) true n t cs = some x ∧ ∀ k ∈ x.1.weights P t, k ≤ reachBytes

variable {P : Program} {w : World} {n : Nat} {t : TypeId} {cs : List Value}

theorem TZ.of {H : Type} {enc : TypeId × Value → H} {v : Value} {d : DataW H} {p : List MemPlace} {ts : List TypeId} {ds : List (DataW H)} (h : DataW.Trod enc P w 0 (fun _ => true) true t v d p)
    (hs : (DataW.weightsEach P ts ds).all (· ≤ reachBytes) = true) {j : Nat} (ht : ts[j]? = some t) (hd : ds[j]? = some d) : ∃ n, TZ P w n t v.cells.toList := by
  obtain ⟨m, hm⟩ := h
  refine ⟨m, H, enc, _, hm, fun k hk => ?_⟩
  have := List.all_eq_true.1 hs k (DataW.weights_mem_each ht hd k hk)
  simpa using this
theorem TZ.int {k : IntKind} (ht : P.underlying t = some (.int k)) (h : TZ P w n t cs) : ∃ i, cs = [.int k i] ∧ (Lit.int k i).wf = true := by
  obtain ⟨H, enc, x, hx, _⟩ := h
  obtain ⟨i, h1, _, h2⟩ := DataW.trod_int ht hx
  exact ⟨i, h1, h2⟩
theorem TZ.bool (ht : P.underlying t = some .bool) (h : TZ P w n t cs) : ∃ b, cs = [.bool b] := by
  obtain ⟨H, enc, x, hx, _⟩ := h
  obtain ⟨b, h1, _⟩ := DataW.trod_bool ht hx
  exact ⟨b, h1⟩
theorem TZ.string (ht : P.underlying t = some .string) (h : TZ P w n t cs) : ∃ s : ByteArray, cs = [.string s] ∧ s.size ≤ reachBytes := by
  obtain ⟨H, enc, x, hx, hs⟩ := h
  obtain ⟨s, h1, h2, _⟩ := DataW.trod_string ht hx
  refine ⟨s, h1, ?_⟩
  rw [h2] at hs
  have := hs s.data.toList.length (by simp [DataW.weights])
  simpa using this
theorem weights_each_at {H : Type} {fs : Array Field} {xs : List (DataW H × List MemPlace)} {i : Nat} {f : Field} {y : DataW H × List MemPlace} (hf : fs[i]? = some f) (hy : xs[i]? = some y) :
    ∀ k ∈ y.1.weights P f.type, k ∈ DataW.weightsEach P (fs.toList.map (·.type)) (xs.map (·.1)) := fun k hk =>
  DataW.weights_mem_each (j := i) (by simp [hf]) (by simp [hy]) k hk
theorem TZ.struct {fs : Array Field} (ht : P.underlying t = some (.struct fs)) (h : TZ P w n t cs) :
    ∃ m, n = m + 1 ∧ cs.length = P.cellsOf t ∧ ∀ (i : Nat) (f : Field), fs[i]? = some f → TZ P w m f.type ((cs.drop f.offset).take (P.cellsOf f.type)) := by
  obtain ⟨H, enc, x, hx, hs⟩ := h
  obtain ⟨xs, m, h1, hxe, h2, h3, h4⟩ := DataW.trod_struct ht hx
  refine ⟨m, h1, h2, fun i f hf => ?_⟩
  have hi : i < fs.size := (Array.getElem?_eq_some_iff.1 hf).1
  have h5 := h4 i f hf
  have h6 : xs[i]? = some xs[i] := List.getElem?_eq_getElem (by omega)
  rw [h6] at h5
  refine ⟨H, enc, _, h5, fun k hk => hs k ?_⟩
  rw [hxe]
  simp only [DataW.weights, ht]
  exact weights_each_at hf h6 k hk
theorem weights_all_at {H : Type} {e : TypeId} {ds : List (DataW H)} {i : Nat} {d : DataW H} (hd : ds[i]? = some d) : ∀ k ∈ d.weights P e, k ∈ DataW.weightsAll P e ds := by
  intro k hk
  induction ds generalizing i with
  | nil => simp at hd
  | cons x r ih =>
    simp only [DataW.weightsAll, List.mem_append]
    cases i with
    | zero => simp at hd; subst hd; exact .inl hk
    | succ i => exact .inr (ih (by simpa using hd))
theorem TZ.slice {e : TypeId} (ht : P.underlying t = some (.slice e)) (hc : 0 < P.cellsOf e) (h : TZ P w n t cs) :
    ∃ a len cap, cs = [.slice a len cap] ∧ len ≤ cap ∧ cap ≤ maxLen ∧ cap * P.bytesOf e ≤ reachBytes ∧ (a = none → len = 0 ∧ cap = 0) ∧ (0 < cap → ∃ b off, a = some ⟨b, off, none⟩ ∧ b < w.heap.size) ∧
      ∀ b off, a = some ⟨b, off, none⟩ → ∀ i, i < len → ∃ m cs', n = m + 1 ∧ cs'.length = P.cellsOf e ∧ (∀ j, j < P.cellsOf e → w.cell? ⟨b, off + i * P.cellsOf e + j, none⟩ = cs'[j]?) ∧ TZ P w m e cs' := by
  obtain ⟨H, enc, x, hx, hs⟩ := h
  rcases DataW.trod_slice ht hx with ⟨rfl, _⟩ | ⟨a, len, cap, elems, rest, m, hm, rfl, hxe, _, hl, hcm, hel, hat, hsp, _⟩
  · exact ⟨none, 0, 0, rfl, Nat.le_refl _, Nat.zero_le _, by simp, fun _ => ⟨rfl, rfl⟩, fun h => absurd h (by omega), fun b off h => by cases h⟩
  · obtain ⟨hrl, hra⟩ := hsp rfl
    have hcell : ∀ k, k < cap → ∃ cs' y, w.cells? 0 (a.add (k * P.cellsOf e)) (P.cellsOf e) = some cs' ∧ DataW.trod enc P w 0 (fun _ => true) true m e cs' = some y ∧ (k < len → elems[k]? = some y) := fun k hk => by
      by_cases hkl : k < len
      · have h1 := hat k hkl
        rw [List.getElem?_eq_getElem (by omega), Option.bind_eq_some_iff] at h1
        obtain ⟨cs', h2, h3⟩ := h1
        exact ⟨cs', _, h2, h3, fun _ => List.getElem?_eq_getElem (by omega)⟩
      · have h1 := hra (k - len) (by omega)
        rw [List.getElem?_eq_getElem (by omega), Option.bind_eq_some_iff] at h1
        obtain ⟨cs', h2, h3⟩ := h1
        rw [show len + (k - len) = k by omega] at h2
        exact ⟨cs', _, h2, h3, fun h => absurd h hkl⟩
    have hw : x.1.weights P t = (elems.length + rest.length) * P.bytesOf e :: (DataW.weightsAll P e (elems.map (·.1)) ++ DataW.weightsAll P e (rest.map (·.1))) := by
      rw [hxe]
      simp only [DataW.weights, ht, List.length_map]
    have hcap : cap * P.bytesOf e ≤ reachBytes := by
      have := hs ((elems.length + rest.length) * P.bytesOf e) (by rw [hw]; exact List.mem_cons_self ..)
      rwa [show elems.length + rest.length = cap by omega] at this
    refine ⟨some a, len, cap, rfl, hl, hcm, hcap, (fun h => by cases h), fun h0 => ?_, fun b off hab i hi => ?_⟩
    · obtain ⟨cs', y, h1, _⟩ := hcell 0 h0
      obtain ⟨_, h2, h3⟩ := World.cells?_some h1
      have h4 := h3 0 hc
      rw [List.getElem?_eq_getElem (by omega)] at h4
      obtain ⟨b, off, spot⟩ := a
      have hs : spot = none := by simpa [Addr.add] using World.cell?_spot h4
      subst hs
      refine ⟨b, off, rfl, ?_⟩
      rw [add_plain, add_plain] at h4
      exact lt_of_cell h4
    · injection hab with hab
      subst hab
      obtain ⟨cs', y, h1, h2, hy⟩ := hcell i (by omega)
      obtain ⟨_, h3, h4⟩ := World.cells?_some h1
      refine ⟨m, cs', hm, h3, fun j hj => ?_, H, enc, y, h2, fun k hk => hs k ?_⟩
      · have h5 := h4 j hj
        rw [add_plain, add_plain] at h5
        exact h5
      · rw [hw]
        refine List.mem_cons_of_mem _ (List.mem_append_left _ ?_)
        exact weights_all_at (i := i) (by simp [hy hi]) k hk
end Go.Proofs.Ytpiamiaigjlafaa
