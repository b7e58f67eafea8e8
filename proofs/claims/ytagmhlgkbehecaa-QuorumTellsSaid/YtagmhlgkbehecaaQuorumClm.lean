/-
  A slice of claims that came in, as the walks want it.
-/
import Derived.Test.YtagmhlgkbehecaaOpen
import Derived.Test.YtagmhlgkbehecaaQuorumBestC
namespace Go.Proofs.Ytagmhlgkbehecaa
open Go.RowKit

theorem cellsClm : Try.prog.cellsOf 37 = 3 := by kernel_rfl
theorem cellsBool : Try.prog.cellsOf 4 = 1 := by kernel_rfl
theorem cellsI64 : Try.prog.cellsOf 2 = 1 := by kernel_rfl

theorem wf64 {i : Int} (h : (Lit.int .i64 i).wf = true) : -9223372036854775808 ≤ i ∧ i ≤ 9223372036854775807 := by simpa [Lit.wf, IntKind.min, IntKind.max, IntKind.signed, IntKind.bits] using h

theorem open_clm {w : World} {n : Nat} {cs : List Value} (h : TR Try.prog w n 37 cs) : ∃ c : Clm, cs = [.bool c.is, .int .i64 c.nrm, .int .i64 c.fin] ∧ c.ok := by
  obtain ⟨m, rfl, hl, hf⟩ := h.struct Try.underlying37
  rw [cellsClm] at hl
  match cs, hl with
  | [c0, c1, c2], _ =>
    have h0 : TR Try.prog w m 4 (List.take (Try.prog.cellsOf 4) (List.drop 0 [c0, c1, c2])) := hf 0 _ rfl
    have h1 : TR Try.prog w m 2 (List.take (Try.prog.cellsOf 2) (List.drop 1 [c0, c1, c2])) := hf 1 _ rfl
    have h2 : TR Try.prog w m 2 (List.take (Try.prog.cellsOf 2) (List.drop 2 [c0, c1, c2])) := hf 2 _ rfl
    rw [cellsBool] at h0
    rw [cellsI64] at h1 h2
    obtain ⟨b, e0⟩ := h0.bool Try.underlying4
    obtain ⟨i, e1, w1⟩ := h1.int Try.underlying2
    obtain ⟨j, e2, w2⟩ := h2.int Try.underlying2
    simp at e0 e1 e2
    exact ⟨⟨b, i, j⟩, by simp [e0, e1, e2], wf64 w1, wf64 w2⟩

theorem open_clms {w : World} {n : Nat} {a : Option Addr} {len cap : Nat} (h : TR Try.prog w n 24 [.slice a len cap]) :
    len ≤ cap ∧ cap ≤ maxLen ∧ (len = 0 ∨ ∃ b off f, a = some ⟨b, off, none⟩ ∧ b < w.heap.size ∧ IsClms w b off len f) := by
  obtain ⟨a', len', cap', he, hl, hc, _, hb, hi⟩ := h.slice Try.underlying24 (by rw [cellsClm]; omega)
  simp at he
  obtain ⟨rfl, rfl, rfl⟩ := he
  refine ⟨hl, hc, ?_⟩
  by_cases h0 : len = 0
  · exact .inl h0
  · obtain ⟨b, off, rfl, hbb⟩ := hb (by omega)
    have hi := hi b off rfl
    rw [cellsClm] at hi
    have hall : ∀ i, ∃ c : Clm, i < len → w.cell? ⟨b, off + i * 3, none⟩ = some (.bool c.is) ∧ w.cell? ⟨b, off + i * 3 + 1, none⟩ = some (.int .i64 c.nrm) ∧ w.cell? ⟨b, off + i * 3 + 2, none⟩ = some (.int .i64 c.fin) ∧ c.ok := fun i => by
      by_cases hil : i < len
      · obtain ⟨m, cs', _, hlen, hcell, htr⟩ := hi i hil
        obtain ⟨c, rfl, hok⟩ := open_clm htr
        exact ⟨c, fun _ => ⟨hcell 0 (by omega), hcell 1 (by omega), hcell 2 (by omega), hok⟩⟩
      · exact ⟨⟨false, 0, 0⟩, fun h => absurd h hil⟩
    exact .inr ⟨b, off, fun i => Classical.choose (hall i), rfl, hbb, fun i hil => Classical.choose_spec (hall i) hil⟩
end Go.Proofs.Ytagmhlgkbehecaa
