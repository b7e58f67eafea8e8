/-
  One function more: what 'Check' says of it, in plain words.
-/
import Derived.Test.YtgogjdpjegfecaaDoorVerifyL
import Derived.Test.YtgogjdpjegfecaaDoorVerifyRefR
namespace Go.Proofs.YtgogjdpjegfecaaDoor
open Go.RowKit

/-- what an instruction does there does not hang on the module -/
def AlikeIn (c : Cd) (m m' : Mdl) : Prop := ∀ p s, doesS c m (c.ins.getD p default) s = doesS c m' (c.ins.getD p default) s
theorem stepW_alike {c : Cd} {m m' : Mdl} (h : AlikeIn c m m') : stepW c m = stepW c m' := by
  funext x
  unfold stepW
  cases x.2.getLast? with
  | none => rfl
  | some p =>
    dsimp only
    cases x.1 p with
    | none => rfl
    | some s => dsimp only; rw [h p s]
theorem safe_alike {c : Cd} {m m' : Mdl} (h : AlikeIn c m m') {b : Bool} (hs : SafeIs c m b) : SafeIs c m' b := by
  unfold SafeIs at hs ⊢
  rw [← stepW_alike h]
  exact hs
theorem AlikeIn.symm {c : Cd} {m m' : Mdl} (h : AlikeIn c m m') : AlikeIn c m' m := fun p s => (h p s).symm
/-- a function that calls nobody and has no texts -/
theorem alike_none {c : Cd} (m m' : Mdl) (h : ∀ i, i < c.ins.length → (c.ins.getD i default).op ≠ 14 ∧ (c.ins.getD i default).op ≠ 4) : AlikeIn c m m' := by
  intro p s
  have hp : (c.ins.getD p default).op ≠ 14 ∧ (c.ins.getD p default).op ≠ 4 := by
    by_cases hi : p < c.ins.length
    · exact h p hi
    · rw [List.getD_eq_getElem?_getD, List.getElem?_eq_none (by omega)]
      constructor <;> decide
  obtain ⟨h1, h2⟩ := hp
  generalize c.ins.getD p default = i at *
  have hm : movesS c.slots m.texts.length i s = movesS c.slots m'.texts.length i s := by
    unfold movesS
    rw [if_neg h2, if_neg h2]
  unfold doesS
  rw [hm, if_neg h1, if_neg h1]
/-- one more function behind: nobody calls it -/
def Mdl.more (m : Mdl) (c : Cd) : Mdl := ⟨m.codes ++ [c], m.texts⟩
theorem alike_more {d c : Cd} {m : Mdl} (h : ∀ i, i < d.ins.length → ¬ ((d.ins.getD i default).op = 14 ∧ (d.ins.getD i default).a = m.codes.length)) : AlikeIn d m (m.more c) := by
  intro p s
  have hp : ¬ ((d.ins.getD p default).op = 14 ∧ (d.ins.getD p default).a = m.codes.length) := by
    by_cases hi : p < d.ins.length
    · exact h p hi
    · rw [List.getD_eq_getElem?_getD, List.getElem?_eq_none (by omega)]
      rintro ⟨q, _⟩
      cases q
  generalize d.ins.getD p default = i at *
  have ht : (m.more c).texts = m.texts := rfl
  by_cases h14 : i.op = 14
  · have ha : i.a ≠ m.codes.length := fun e => hp ⟨h14, e⟩
    have hc : callS m i.a s = callS (m.more c) i.a s := by
      have hl : (m.more c).codes.length = m.codes.length + 1 := by simp [Mdl.more]
      have hb : inB i.a (m.more c).codes.length = inB i.a m.codes.length := by
        rw [hl]
        unfold inB
        rw [Bool.eq_iff_iff]
        simp
        omega
      unfold callS
      rw [hb]
      by_cases hin : inB i.a m.codes.length = true
      · have hlt : i.a.toNat < m.codes.length := by
          have : 0 ≤ i.a ∧ i.a < m.codes.length := by simpa [inB] using hin
          omega
        have hg : (m.more c).codes.getD i.a.toNat default = m.codes.getD i.a.toNat default := by
          simp [Mdl.more, List.getD_eq_getElem?_getD, List.getElem?_append_left hlt]
        rw [hg]
      · rw [if_neg hin, if_neg hin]
    unfold doesS
    rw [hc, ht]
  · unfold doesS
    rw [ht, if_neg h14, if_neg h14]
theorem more_right {m : Mdl} {c : Cd} (h1 : rightM ⟨[c], []⟩ = true) (h2 : rightM m = true) (hl : m.codes.length < 64) : rightM (m.more c) = true := by
  obtain ⟨_, _, _, p4⟩ := rightM_parts h1
  obtain ⟨_, q2, q3, q4⟩ := rightM_parts h2
  have pc : rightCd c = true := p4 0 (by simp)
  have hlen : (m.more c).codes.length = m.codes.length + 1 := by simp [Mdl.more]
  simp only [rightM, Bool.and_eq_true, decide_eq_true_eq, allB_iff]
  refine ⟨⟨⟨by omega, q2⟩, fun i hi => q3 i hi⟩, fun i hi => ?_⟩
  by_cases e : i < m.codes.length
  · have := q4 i e
    simpa [Mdl.more, List.getD_eq_getElem?_getD, List.getElem?_append_left e] using this
  · obtain rfl : i = m.codes.length := by omega
    simpa [Mdl.more, List.getD_eq_getElem?_getD] using pc
theorem CheckIs.zero {m : Mdl} {x : Int} (h : CheckIs m x) : ((x == 0) = true ↔ rightM m = true ∧ GoodM m) := by
  rcases h with ⟨h, rfl⟩ | ⟨h, ⟨g, rfl⟩ | ⟨g, rfl⟩⟩
  · simp [h]
  · simp [h, g]
  · simp [g]
theorem CheckIs.right {m : Mdl} {x : Int} (h : CheckIs m x) (hx : x ≠ 111) : rightM m = true := by
  rcases h with ⟨_, h⟩ | ⟨h, _⟩
  · exact absurd h hx
  · exact h
theorem each_law {m : Mdl} {c : Cd} {x y z : Int} (hx : CheckIs ⟨[c], []⟩ x) (hy : CheckIs m y) (hz : CheckIs (m.more c) z) (hx1 : x ≠ 111) (hy1 : y ≠ 111) (hl : m.codes.length < 64)
    (hc : ∀ i, i < c.ins.length → (c.ins.getD i default).op ≠ 14 ∧ (c.ins.getD i default).op ≠ 4)
    (hn : ∀ i, i < m.codes.length → (m.codes.getD i default).name ≠ c.name)
    (hm : ∀ i, i < m.codes.length → ∀ k, k < (m.codes.getD i default).ins.length → ¬ (((m.codes.getD i default).ins.getD k default).op = 14 ∧ ((m.codes.getD i default).ins.getD k default).a = m.codes.length)) :
    (z == 0) = ((x == 0) && (y == 0)) := by
  have r1 := hx.right hx1
  have r2 := hy.right hy1
  have r3 := more_right r1 r2 hl
  have hlen : (m.more c).codes.length = m.codes.length + 1 := by simp [Mdl.more]
  have hat : ∀ i, i < m.codes.length → (m.more c).codes.getD i default = m.codes.getD i default := fun i hi => by
    simp [Mdl.more, List.getD_eq_getElem?_getD, List.getElem?_append_left hi]
  have hlast : (m.more c).codes.getD m.codes.length default = c := by simp [Mdl.more, List.getD_eq_getElem?_getD]
  rw [Bool.eq_iff_iff, Bool.and_eq_true, hz.zero, hx.zero, hy.zero]
  constructor
  · rintro ⟨_, g1, g2⟩
    refine ⟨⟨r1, fun j hj => ?_, by simp⟩, r2, fun j hj => ?_, ?_⟩
    · obtain rfl : j = 0 := by simpa using hj
      have := g1 m.codes.length (by omega)
      rw [hlast] at this
      exact safe_alike (alike_none _ _ hc) this
    · have := g1 j (by omega)
      rw [hat j hj] at this
      exact safe_alike (alike_more (hm j hj)).symm this
    · have : (m.codes.map (·.name) ++ [c.name]).Nodup := by simpa [Mdl.more] using g2
      exact (List.nodup_append.1 this).1
  · rintro ⟨⟨_, g1, _⟩, _, g3, g4⟩
    refine ⟨r3, fun j hj => ?_, ?_⟩
    · by_cases e : j < m.codes.length
      · rw [hat j e]
        exact safe_alike (alike_more (hm j e)) (g3 j e)
      · obtain rfl : j = m.codes.length := by omega
        rw [hlast]
        exact safe_alike (alike_none _ _ hc) (g1 0 (by simp))
    · show ((m.codes ++ [c]).map (·.name)).Nodup
      rw [List.map_append]
      refine nodup_snoc g4 fun h => ?_
      obtain ⟨d, hd, he⟩ := List.mem_map.1 h
      obtain ⟨i, hi, rfl⟩ := List.mem_iff_getElem.1 hd
      exact hn i hi (by rw [List.getD_eq_getElem?_getD, List.getElem?_eq_getElem hi]; exact he)
end Go.Proofs.YtgogjdpjegfecaaDoor
