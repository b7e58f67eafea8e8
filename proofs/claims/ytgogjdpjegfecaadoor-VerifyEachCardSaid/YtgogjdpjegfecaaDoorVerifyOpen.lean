/-
  A module that came in, as the walks want it.
-/
import Derived.Test.YtgogjdpjegfecaaDoorOpenZ
import Derived.Test.YtgogjdpjegfecaaDoorModule
namespace Go.Proofs.YtgogjdpjegfecaaDoor
open Go.RowKit

theorem wf64 {i : Int} (h : (Lit.int .i64 i).wf = true) : i64 i := by simpa [i64, Lit.wf, IntKind.min, IntKind.max, IntKind.signed, IntKind.bits] using h
theorem wf8 {i : Int} (h : (Lit.int .u8 i).wf = true) : 0 ≤ i ∧ i ≤ 255 := by simpa [Lit.wf, IntKind.min, IntKind.max, IntKind.signed, IntKind.bits] using h
theorem list_of {α : Type} (d : α) (len : Nat) (f : Nat → α) : ∃ l : List α, l.length = len ∧ (∀ i, i < len → l.getD i d = f i) ∧ ∀ i, len ≤ i → l.getD i d = d := by
  refine ⟨(List.range len).map f, by simp, fun i hi => ?_, fun i hi => ?_⟩
  · simp [List.getD_eq_getElem?_getD, hi]
  · rw [List.getD_eq_getElem?_getD, List.getElem?_eq_none (by simpa using hi)]; rfl
theorem cellsI : Tryd.prog.cellsOf 35 = 2 := by kernel_rfl
theorem cellsC : Tryd.prog.cellsOf 30 = 5 := by kernel_rfl
theorem cellsT : Tryd.prog.cellsOf 27 = 1 := by kernel_rfl
theorem cellsO : Tryd.prog.cellsOf 33 = 1 := by kernel_rfl
theorem cellsN : Tryd.prog.cellsOf 3 = 1 := by kernel_rfl
theorem cellsN64 : Tryd.prog.cellsOf 2 = 1 := by kernel_rfl
theorem cellsStr : Tryd.prog.cellsOf 9 = 1 := by kernel_rfl
theorem cellsU8 : Tryd.prog.cellsOf 5 = 1 := by kernel_rfl
theorem cellsBy : Tryd.prog.cellsOf 44 = 1 := by kernel_rfl
theorem cellsTys : Tryd.prog.cellsOf 26 = 1 := by kernel_rfl
theorem cellsIns : Tryd.prog.cellsOf 28 = 1 := by kernel_rfl
theorem cellsCds : Tryd.prog.cellsOf 22 = 1 := by kernel_rfl
theorem cellsTxs : Tryd.prog.cellsOf 23 = 1 := by kernel_rfl
theorem cellsM : Tryd.prog.cellsOf 25 = 2 := by kernel_rfl
theorem bytesT : Tryd.prog.bytesOf 27 = 8 := by kernel_rfl
theorem bytesI : Tryd.prog.bytesOf 35 = 16 := by kernel_rfl
theorem bytesC : Tryd.prog.bytesOf 30 = 80 := by kernel_rfl
theorem bytesU8 : Tryd.prog.bytesOf 5 = 1 := by kernel_rfl
theorem bytesBy : Tryd.prog.bytesOf 44 = 24 := by kernel_rfl

theorem open_tys {w : World} {n : Nat} {cs : List Value} (h : TZ Tryd.prog w n 26 cs) : ∃ v l, cs = [v] ∧ RepTys w v l := by
  obtain ⟨a, len, cap, rfl, hl, hc, hz, hn, hb, hi⟩ := h.slice Tryd.underlying26 (by rw [cellsT]; omega)
  rw [bytesT] at hz
  unfold reachBytes at hz
  unfold maxLen at hc
  have hall : ∀ i, ∃ x : Int, i64 x ∧ (i < len → ∃ b off, a = some ⟨b, off, none⟩ ∧ w.cell? ⟨b, off + i, none⟩ = some (.int .i64 x)) := fun i => by
    by_cases hil : i < len
    · obtain ⟨b, off, rfl, hbb⟩ := hb (by omega)
      obtain ⟨m, cs', _, hlen, hcell, htr⟩ := hi b off rfl i hil
      obtain ⟨x, rfl, hwf⟩ := htr.int Tryd.underlying27
      rw [cellsT] at hcell
      exact ⟨x, wf64 hwf, fun _ => ⟨b, off, rfl, by simpa using hcell 0 (by omega)⟩⟩
    · exact ⟨0, by constructor <;> decide, fun h => absurd h hil⟩
  obtain ⟨l, hll, hlf, hlo⟩ := list_of 0 len (fun i => Classical.choose (hall i))
  refine ⟨_, l, rfl, a, cap, by rw [hll], by unfold big; omega, by omega, by unfold capOk; omega, fun h => (hn h).2, fun h0 => ?_, fun i => ?_⟩
  · rw [hll] at h0
    obtain ⟨b, off, rfl, hbb⟩ := hb (by omega)
    refine ⟨b, off, rfl, hbb, fun i hi => ?_⟩
    rw [hll] at hi
    obtain ⟨b', off', e, hcell⟩ := (Classical.choose_spec (hall i)).2 hi
    injection e with e
    injection e with e1 e2
    subst e1 e2
    try dsimp only
    rw [hlf i hi]
    exact hcell
  · by_cases hi : i < len
    · rw [hlf i hi]; exact (Classical.choose_spec (hall i)).1
    · rw [hlo i (by omega)]; constructor <;> decide

theorem open_instr {w : World} {n : Nat} {cs : List Value} (h : TZ Tryd.prog w n 35 cs) : ∃ o a, cs = [.int .i64 o, .int .i64 a] ∧ i64 o ∧ i64 a := by
  obtain ⟨m, rfl, hl, hf⟩ := h.struct Tryd.underlying35
  rw [cellsI] at hl
  match cs, hl with
  | [c0, c1], _ =>
    have h0 : TZ Tryd.prog w m 33 (List.take (Tryd.prog.cellsOf 33) (List.drop 0 [c0, c1])) := hf 0 _ rfl
    have h1 : TZ Tryd.prog w m 2 (List.take (Tryd.prog.cellsOf 2) (List.drop 1 [c0, c1])) := hf 1 _ rfl
    rw [cellsO] at h0
    rw [cellsN64] at h1
    obtain ⟨i, e0, w0⟩ := h0.int Tryd.underlying33
    obtain ⟨j, e1, w1⟩ := h1.int Tryd.underlying2
    simp at e0 e1
    exact ⟨i, j, by simp [e0, e1], wf64 w0, wf64 w1⟩
theorem open_ins {w : World} {n : Nat} {cs : List Value} (h : TZ Tryd.prog w n 28 cs) : ∃ v l, cs = [v] ∧ RepIns w v l := by
  obtain ⟨a, len, cap, rfl, hl, hc, hz, hn, hb, hi⟩ := h.slice Tryd.underlying28 (by rw [cellsI]; omega)
  rw [bytesI] at hz
  unfold reachBytes at hz
  unfold maxLen at hc
  have hall : ∀ i, ∃ x : Ins, (i64 x.op ∧ i64 x.a) ∧ (i < len → ∃ b off, a = some ⟨b, off, none⟩ ∧ w.cell? ⟨b, off + i * 2, none⟩ = some (.int .i64 x.op) ∧ w.cell? ⟨b, off + i * 2 + 1, none⟩ = some (.int .i64 x.a)) := fun i => by
    by_cases hil : i < len
    · obtain ⟨b, off, rfl, hbb⟩ := hb (by omega)
      obtain ⟨m, cs', _, hlen, hcell, htr⟩ := hi b off rfl i hil
      obtain ⟨x, y, rfl, hx, hy⟩ := open_instr htr
      rw [cellsI] at hcell
      exact ⟨⟨x, y⟩, ⟨hx, hy⟩, fun _ => ⟨b, off, rfl, by simpa using hcell 0 (by omega), by simpa using hcell 1 (by omega)⟩⟩
    · exact ⟨default, ⟨by constructor <;> decide, by constructor <;> decide⟩, fun h => absurd h hil⟩
  obtain ⟨l, hll, hlf, hlo⟩ := list_of default len (fun i => Classical.choose (hall i))
  refine ⟨_, l, rfl, a, cap, by rw [hll], by unfold big; omega, by omega, by unfold capOk; omega, fun h => (hn h).2, fun h0 => ?_, fun i => ?_⟩
  · rw [hll] at h0
    obtain ⟨b, off, rfl, hbb⟩ := hb (by omega)
    refine ⟨b, off, rfl, hbb, fun i hi => ?_⟩
    rw [hll] at hi
    obtain ⟨b', off', e, hcell⟩ := (Classical.choose_spec (hall i)).2 hi
    injection e with e
    injection e with e1 e2
    subst e1 e2
    try dsimp only
    rw [hlf i hi]
    exact hcell
  · by_cases hi : i < len
    · rw [hlf i hi]; exact (Classical.choose_spec (hall i)).1
    · rw [hlo i (by omega)]; exact ⟨by constructor <;> decide, by constructor <;> decide⟩

theorem open_cd {w : World} {n : Nat} {cs : List Value} (h : TZ Tryd.prog w n 30 cs) : ∃ v0 v1 v2 v3 v4 c, cs = [v0, v1, v2, v3, v4] ∧ RepCd w v0 v1 v2 v3 v4 c := by
  obtain ⟨m, rfl, hl, hf⟩ := h.struct Tryd.underlying30
  rw [cellsC] at hl
  match cs, hl with
  | [c0, c1, c2, c3, c4], _ =>
    have h0 : TZ Tryd.prog w m 9 (List.take (Tryd.prog.cellsOf 9) (List.drop 0 [c0, c1, c2, c3, c4])) := hf 0 _ rfl
    have h1 : TZ Tryd.prog w m 26 (List.take (Tryd.prog.cellsOf 26) (List.drop 1 [c0, c1, c2, c3, c4])) := hf 1 _ rfl
    have h2 : TZ Tryd.prog w m 27 (List.take (Tryd.prog.cellsOf 27) (List.drop 2 [c0, c1, c2, c3, c4])) := hf 2 _ rfl
    have h3 : TZ Tryd.prog w m 3 (List.take (Tryd.prog.cellsOf 3) (List.drop 3 [c0, c1, c2, c3, c4])) := hf 3 _ rfl
    have h4 : TZ Tryd.prog w m 28 (List.take (Tryd.prog.cellsOf 28) (List.drop 4 [c0, c1, c2, c3, c4])) := hf 4 _ rfl
    rw [cellsStr] at h0
    rw [cellsTys] at h1
    rw [cellsT] at h2
    rw [cellsN] at h3
    rw [cellsIns] at h4
    obtain ⟨s, e0, w0⟩ := h0.string Tryd.underlying9
    obtain ⟨v1, l1, e1, r1⟩ := open_tys h1
    obtain ⟨i2, e2, w2⟩ := h2.int Tryd.underlying27
    obtain ⟨i3, e3, w3⟩ := h3.int Tryd.underlying3
    obtain ⟨v4, l4, e4, r4⟩ := open_ins h4
    simp at e0 e1 e2 e3 e4
    subst e0 e1 e2 e3 e4
    refine ⟨_, _, _, _, _, ⟨s, l1, i2, i3, l4⟩, rfl, rfl, ?_, r1, rfl, rfl, r4, wf64 w2, wf64 w3⟩
    unfold big
    unfold reachBytes at w0
    show s.size ≤ _
    omega
theorem open_bytes {w : World} {n : Nat} {cs : List Value} (h : TZ Tryd.prog w n 44 cs) : ∃ v l, cs = [v] ∧ RepBytes w v l := by
  obtain ⟨a, len, cap, rfl, hl, hc, hz, hn, hb, hi⟩ := h.slice Tryd.underlying44 (by rw [cellsU8]; omega)
  rw [bytesU8] at hz
  unfold reachBytes at hz
  unfold maxLen at hc
  have hall : ∀ i, ∃ x : Int, (0 ≤ x ∧ x ≤ 255) ∧ (i < len → ∃ b off, a = some ⟨b, off, none⟩ ∧ w.cell? ⟨b, off + i, none⟩ = some (.int .u8 x)) := fun i => by
    by_cases hil : i < len
    · obtain ⟨b, off, rfl, hbb⟩ := hb (by omega)
      obtain ⟨m, cs', _, hlen, hcell, htr⟩ := hi b off rfl i hil
      obtain ⟨x, rfl, hwf⟩ := htr.int Tryd.underlying5
      rw [cellsU8] at hcell
      exact ⟨x, wf8 hwf, fun _ => ⟨b, off, rfl, by simpa using hcell 0 (by omega)⟩⟩
    · exact ⟨0, by constructor <;> decide, fun h => absurd h hil⟩
  obtain ⟨l, hll, hlf, hlo⟩ := list_of 0 len (fun i => Classical.choose (hall i))
  refine ⟨_, l, rfl, a, cap, by rw [hll], by unfold big; omega, by omega, by unfold capOk; omega, fun h => (hn h).2, fun h0 => ?_, fun i => ?_⟩
  · rw [hll] at h0
    obtain ⟨b, off, rfl, hbb⟩ := hb (by omega)
    refine ⟨b, off, rfl, hbb, fun i hi => ?_⟩
    rw [hll] at hi
    obtain ⟨b', off', e, hcell⟩ := (Classical.choose_spec (hall i)).2 hi
    injection e with e
    injection e with e1 e2
    subst e1 e2
    try dsimp only
    rw [hlf i hi]
    exact hcell
  · by_cases hi : i < len
    · rw [hlf i hi]; exact (Classical.choose_spec (hall i)).1
    · rw [hlo i (by omega)]; constructor <;> decide
theorem open_texts {w : World} {n : Nat} {cs : List Value} (h : TZ Tryd.prog w n 23 cs) : ∃ v l, cs = [v] ∧ RepTexts w v l := by
  obtain ⟨a, len, cap, rfl, hl, hc, hz, hn, hb, hi⟩ := h.slice Tryd.underlying23 (by rw [cellsBy]; omega)
  rw [bytesBy] at hz
  unfold reachBytes at hz
  unfold maxLen at hc
  have hall : ∀ i, ∃ x : Value × List Int, i < len → RepBytes w x.1 x.2 ∧ ∃ b off, a = some ⟨b, off, none⟩ ∧ w.cell? ⟨b, off + i, none⟩ = some x.1 := fun i => by
    by_cases hil : i < len
    · obtain ⟨b, off, rfl, hbb⟩ := hb (by omega)
      obtain ⟨m, cs', _, hlen, hcell, htr⟩ := hi b off rfl i hil
      obtain ⟨v, l, rfl, hr⟩ := open_bytes htr
      rw [cellsBy] at hcell
      exact ⟨(v, l), fun _ => ⟨hr, b, off, rfl, by simpa using hcell 0 (by omega)⟩⟩
    · exact ⟨(.bool false, []), fun h => absurd h hil⟩
  obtain ⟨l, hll, hlf, hlo⟩ := list_of [] len (fun i => (Classical.choose (hall i)).2)
  refine ⟨_, l, rfl, a, cap, fun i => (Classical.choose (hall i)).1, by rw [hll], by unfold big; omega, by omega, by unfold capOk; omega, fun h => (hn h).2, fun h0 => ?_, fun i hi => ?_⟩
  · rw [hll] at h0
    obtain ⟨b, off, rfl, hbb⟩ := hb (by omega)
    refine ⟨b, off, rfl, hbb, fun i hi => ?_⟩
    rw [hll] at hi
    obtain ⟨_, b', off', e, hcell⟩ := Classical.choose_spec (hall i) hi
    injection e with e
    injection e with e1 e2
    subst e1 e2
    exact hcell
  · rw [hll] at hi
    rw [hlf i hi]
    exact (Classical.choose_spec (hall i) hi).1
theorem open_cds {w : World} {n : Nat} {cs : List Value} (h : TZ Tryd.prog w n 22 cs) : ∃ v l, cs = [v] ∧ RepCds w v l := by
  obtain ⟨a, len, cap, rfl, hl, hc, hz, hn, hb, hi⟩ := h.slice Tryd.underlying22 (by rw [cellsC]; omega)
  rw [bytesC] at hz
  unfold reachBytes at hz
  unfold maxLen at hc
  have hall : ∀ i, ∃ x : (Value × Value × Value × Value × Value) × Cd, i < len → RepCd w x.1.1 x.1.2.1 x.1.2.2.1 x.1.2.2.2.1 x.1.2.2.2.2 x.2 ∧ ∃ b off, a = some ⟨b, off, none⟩ ∧ w.cell? ⟨b, off + i * 5, none⟩ = some x.1.1 ∧ w.cell? ⟨b, off + i * 5 + 1, none⟩ = some x.1.2.1 ∧ w.cell? ⟨b, off + i * 5 + 2, none⟩ = some x.1.2.2.1 ∧ w.cell? ⟨b, off + i * 5 + 3, none⟩ = some x.1.2.2.2.1 ∧ w.cell? ⟨b, off + i * 5 + 4, none⟩ = some x.1.2.2.2.2 := fun i => by
    by_cases hil : i < len
    · obtain ⟨b, off, rfl, hbb⟩ := hb (by omega)
      obtain ⟨m, cs', _, hlen, hcell, htr⟩ := hi b off rfl i hil
      obtain ⟨v0, v1, v2, v3, v4, c, rfl, hr⟩ := open_cd htr
      rw [cellsC] at hcell
      exact ⟨((v0, v1, v2, v3, v4), c), fun _ => ⟨hr, b, off, rfl, by simpa using hcell 0 (by omega), by simpa using hcell 1 (by omega), by simpa using hcell 2 (by omega), by simpa using hcell 3 (by omega), by simpa using hcell 4 (by omega)⟩⟩
    · exact ⟨((.bool false, .bool false, .bool false, .bool false, .bool false), default), fun h => absurd h hil⟩
  obtain ⟨l, hll, hlf, hlo⟩ := list_of default len (fun i => (Classical.choose (hall i)).2)
  refine ⟨_, l, rfl, a, cap, fun i => (Classical.choose (hall i)).1.1, fun i => (Classical.choose (hall i)).1.2.1, fun i => (Classical.choose (hall i)).1.2.2.1, fun i => (Classical.choose (hall i)).1.2.2.2.1, fun i => (Classical.choose (hall i)).1.2.2.2.2, by rw [hll], by unfold big; omega, by omega, by unfold capOk; omega, fun h => (hn h).2, fun h0 => ?_, fun i hi => ?_⟩
  · rw [hll] at h0
    obtain ⟨b, off, rfl, hbb⟩ := hb (by omega)
    refine ⟨b, off, rfl, hbb, fun i hi => ?_⟩
    rw [hll] at hi
    obtain ⟨_, b', off', e, hcell⟩ := Classical.choose_spec (hall i) hi
    injection e with e
    injection e with e1 e2
    subst e1 e2
    exact hcell
  · rw [hll] at hi
    rw [hlf i hi]
    exact (Classical.choose_spec (hall i) hi).1
theorem open_mdl {w : World} {n : Nat} {cs : List Value} (h : TZ Tryd.prog w n 25 cs) : ∃ v0 v1 m, cs = [v0, v1] ∧ RepMdl w (.agg #[v0, v1]) m := by
  obtain ⟨m, rfl, hl, hf⟩ := h.struct Tryd.underlying25
  rw [cellsM] at hl
  match cs, hl with
  | [c0, c1], _ =>
    have h0 : TZ Tryd.prog w m 22 (List.take (Tryd.prog.cellsOf 22) (List.drop 0 [c0, c1])) := hf 0 _ rfl
    have h1 : TZ Tryd.prog w m 23 (List.take (Tryd.prog.cellsOf 23) (List.drop 1 [c0, c1])) := hf 1 _ rfl
    rw [cellsCds] at h0
    rw [cellsTxs] at h1
    obtain ⟨v0, l0, e0, r0⟩ := open_cds h0
    obtain ⟨v1, l1, e1, r1⟩ := open_texts h1
    simp at e0 e1
    subst e0 e1
    exact ⟨_, _, ⟨l0, l1⟩, rfl, _, _, rfl, r0, r1⟩
end Go.Proofs.YtgogjdpjegfecaaDoor
