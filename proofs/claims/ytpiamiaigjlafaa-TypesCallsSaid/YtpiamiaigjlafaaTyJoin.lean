/-
  Two rows of functions, one behind the other.
-/
import Derived.Test.YtpiamiaigjlafaaTyHead
import Derived.Test.YtpiamiaigjlafaaAppendAny
namespace Go.Proofs.Ytpiamiaigjlafaa
open Go.RowKit

theorem row_news {S : Nat → Prop} {w : World} {s0 : Option Addr} {cap sz n : Nat} {cs : Nat → List Value} (hz : 0 < sz) (h : RowOf S w (.slice s0 n cap) sz n cs) : ∀ ad, s0 = some ad → ∀ j u, (flat cs n)[j]? = some u → w.cell? (ad.add j) = some u := by
  obtain ⟨s1, c1, e, h2, h3, h4, h5, h6⟩ := h
  injection e with e1 e2 e3
  subst e1
  intro ad had j u hj
  have hlt : j < n * sz := by
    have := (List.getElem?_eq_some_iff.1 hj).1
    rw [flat_len h6] at this
    exact this
  have hi : j / sz < n := Nat.div_lt_of_lt_mul (by rw [Nat.mul_comm]; exact hlt)
  obtain ⟨b, off, e, _, _, hc⟩ := h5 (Nat.lt_of_le_of_lt (Nat.zero_le _) hi)
  rw [e] at had
  injection had with had
  subst had
  have hm : j % sz < sz := Nat.mod_lt _ hz
  have hj2 : j / sz * sz + j % sz = j := by rw [Nat.mul_comm]; exact Nat.div_add_mod j sz
  rw [← hj2, flat_get h6 hi hm] at hj
  have q := hc _ hi _ hm
  rw [hj] at q
  rw [← q, Nat.add_assoc, hj2]
  rw [Go.WideShapes.add_plain]
theorem own_ne {W : World} {base e sz n cap g b : Nat} {xs : List Value} {arr : Array Value} {t : TypeId} {fz : Nat × Nat} (h : W.ownsRow base e sz (.slice (some ⟨g, 0, none⟩) n cap) n xs) (hb : W.heap[b]? = some (.cells arr t fz)) (ht : t ≠ e) : b ≠ g := by
  rintro rfl
  rcases h.2 with ⟨q, _⟩ | ⟨g', cap', cur, q1, q2, q3, q4⟩
  · cases q
  · injection q1 with q1
    injection q1 with q1
    injection q1 with q1
    subst q1
    rw [hb] at q3
    injection q3 with q3
    injection q3 with _ q3
    exact ht q3
theorem flat_join (cs1 cs2 : Nat → List Value) (n : Nat) : ∀ m, flat cs1 n ++ flat cs2 m = flat (fun i => if i < n then cs1 i else cs2 (i - n)) (n + m)
  | 0 => by
    rw [Nat.add_zero, flat_congr (cs := fun i => if i < n then cs1 i else cs2 (i - n)) (cs' := cs1) (fun i hi => if_pos hi)]
    simp [flat]
  | m + 1 => by
    rw [flat_succ, ← List.append_assoc, flat_join cs1 cs2 n m, show n + (m + 1) = n + m + 1 from rfl, flat_succ]
    rw [if_neg (by omega), show n + m - n = m by omega]
theorem fns_own {W : World} {base e g cap : Nat} {p q : List Fn} {cs1 cs2 : Nat → List Value} (h : W.ownsRow base e 5 (.slice (some ⟨g, 0, none⟩) (p.length + q.length) cap) (p.length + q.length) (flat cs1 p.length ++ flat cs2 q.length))
    (l1 : ∀ i, i < p.length → (cs1 i).length = 5) (l2 : ∀ i, i < q.length → (cs2 i).length = 5) (r1 : ∀ i, i < p.length → RepFn Any W (cs1 i) (p.getD i default)) (r2 : ∀ i, i < q.length → RepFn Any W (cs2 i) (q.getD i default)) : RepFns Any W (.slice (some ⟨g, 0, none⟩) (p.length + q.length) cap) (p ++ q) := by
  rw [flat_join] at h
  have hl : ∀ i, i < p.length + q.length → ((fun i => if i < p.length then cs1 i else cs2 (i - p.length)) i).length = 5 := fun i hi => by
    by_cases hp : i < p.length
    · simp only [if_pos hp]; exact l1 i hp
    · simp only [if_neg hp]; exact l2 _ (by omega)
  obtain ⟨s0, c0, e, hle, hm, hn, hc⟩ := own_form h
  injection e with e1 e2 e3
  subst e1 e3
  refine ⟨fun i => if i < p.length then cs1 i else cs2 (i - p.length), ?_, fun i hi => ?_⟩
  · rw [List.length_append]
    refine ⟨_, cap, rfl, hle, hm, hn, fun h0 => ?_, hl⟩
    obtain ⟨g', e, hg, hlt, hcell⟩ := hc h0
    refine ⟨g', 0, e, trivial, hlt, fun i hi j hj => ?_⟩
    have hget := flat_get hl hi hj
    have hlen := hl i hi
    rw [Nat.zero_add, hcell (i * 5 + j) (((fun i => if i < p.length then cs1 i else cs2 (i - p.length)) i)[j]'(by omega)) (by rw [hget]; exact List.getElem?_eq_getElem _), List.getElem?_eq_getElem (by omega)]
  · by_cases hp : i < p.length
    · simp only [if_pos hp]
      rw [List.getD_eq_getElem?_getD, List.getElem?_append_left hp, ← List.getD_eq_getElem?_getD]
      exact r1 i hp
    · simp only [if_neg hp]
      rw [List.length_append] at hi
      rw [List.getD_eq_getElem?_getD, List.getElem?_append_right (by omega), ← List.getD_eq_getElem?_getD]
      exact r2 _ (by omega)
theorem fn_one {S : Nat → Prop} {w : World} {cs : Nat → List Value} {l : List Fn} (h : ∀ i, i < l.length → RepFn S w (cs i) (l.getD i default)) : ∀ u, u ∈ flat cs l.length → u.oneCell' = true := by
  intro u hu
  unfold flat at hu
  obtain ⟨i, hi, hu⟩ := List.mem_flatMap.1 hu
  obtain ⟨nm, s1, n1, c1, rs, s2, n2, c2, pos, e⟩ := fn_form (h i (List.mem_range.1 hi))
  rw [e] at hu
  simp at hu
  rcases hu with rfl | rfl | rfl | rfl | rfl <;> rfl
end Go.Proofs.Ytpiamiaigjlafaa
