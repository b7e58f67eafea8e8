/-
  What the row's list gives: the signs lie in their variable.
-/
import Derived.Test.YtmdceokmpjcllaaGreatDoorVerifyM
import Derived.Test.YtmdceokmpjcllaaGreatDoorCards
import Derived.Lib.LaidTab
import Derived.ChangeArms
namespace Go.Proofs.YtmdceokmpjcllaaGreatDoor
open Go.RowKit Go.Lib

theorem cells_of_strs {H : Type} {enc : TypeId × Value → H} {P : Program} {w : World} {base : Nat} {sp : Nat → Bool} {held : Bool} {fuel : Nat} {t e : TypeId} {n : Nat} {cs : List Value} {ss : List ByteArray} {p : List MemPlace}
    (ht : P.underlying t = some (.array n e)) (he : P.underlying e = some .string) (hce : P.cellsOf e = 1) (hct : P.cellsOf t = n)
    (h : DataW.trod enc P w base sp held fuel t cs = some (.agg (ss.map fun s => .lit (.string s.data.toList)), p)) : cs = ss.map Value.string := by
  cases fuel with
  | zero => simp [DataW.trod] at h
  | succ fuel =>
    simp only [DataW.trod, ht, hce, hct, Nat.mul_one] at h
    split at h
    · rename_i hl
      obtain ⟨xs, hm, hx⟩ := Option.map_eq_some_iff.1 h
      have hxs : xs.map (·.1) = ss.map fun s => (DataW.lit (.string s.data.toList) : DataW H) := by
        have := congrArg Prod.fst hx
        simpa using this
      have hxl : xs.length = n := by simpa using mapM_length hm
      have hzl : ss.length = n := by
        have := congrArg List.length hxs
        simp at this
        omega
      apply List.ext_getElem?
      intro i
      by_cases hi : i < n
      · obtain ⟨b, hb, hf⟩ := mapM_at hm i i (by simp [hi])
        obtain ⟨s, hc, rfl, _⟩ := DataW.trod_string he hf
        have h1 : cs[i]? = some (.string s) := by
          have := congrArg (·[0]?) hc
          simpa [List.getElem?_take, List.getElem?_drop] using this
        have h2 : (xs.map (·.1))[i]? = some (DataW.lit (.string s.data.toList) : DataW H) := by simp [hb]
        rw [hxs] at h2
        simp only [List.getElem?_map, Option.map_eq_some_iff, DataW.lit.injEq, Lit.string.injEq] at h2
        obtain ⟨s', hs', e⟩ := h2
        have : s' = s := WideShapes.bytes_inj e
        subst this
        simp [h1, hs']
      · rw [List.getElem?_eq_none (by omega), List.getElem?_eq_none (by simp; omega)]
    · cases h
theorem gSigns : Tryz.prog.globalNamed "covenant/code.signs" = some 1 := by kernel_rfl
theorem gSignsType : (Tryz.prog.globals[1]?).map (·.type) = some 146 := by kernel_rfl
theorem cellsA : Tryz.prog.cellsOf 146 = 13 := by kernel_rfl
theorem cellsS : Tryz.prog.cellsOf 9 = 1 := by kernel_rfl
theorem signs_of {W : World} {rest : List (String × DataW Unit)} (h : laidMet Tryz.prog (("covenant/code.signs", Rows.laid_covenant_code_signs) :: rest) W) : Signs W := by
  obtain ⟨ps, ⟨g', t', cs, fuel, p, q, hg', ht', hvar, hd, _, _⟩, _⟩ := h
  obtain rfl := Option.some.inj (gSigns.symm.trans hg')
  obtain rfl := Option.some.inj (gSignsType.symm.trans ht')
  have hcs := cells_of_strs (ss := signRow) Tryz.underlying146 Tryz.underlying9 cellsS cellsA hd
  intro i hi
  have := World.var?_cell gSigns hvar i
  rw [← Array.getElem?_toList, hcs, List.getElem?_map] at this
  rw [this]
  match i, hi with
  | 0, _ | 1, _ | 2, _ | 3, _ | 4, _ | 5, _ | 6, _ | 7, _ | 8, _ | 9, _ | 10, _ | 11, _ | 12, _ => rfl
end Go.Proofs.YtmdceokmpjcllaaGreatDoor
