/-
  A row of functions whose one body is changed; bodies of parsed programs are short.
-/
import Derived.Test.YtpiamiaigjlafaaTyJoin
import Derived.Test.YtpiamiaigjlafaaTyNameP
namespace Go.Proofs.Ytpiamiaigjlafaa
open Go.RowKit

theorem row_set {S : Nat → Prop} {w : World} {b off n cap sz : Nat} {cs : Nat → List Value} (h : RowOf S w (.slice (some ⟨b, off, none⟩) n cap) sz n cs) {k j0 : Nat} (hk : k < n) (hj : j0 < sz) (u : Value) :
    RowOf S (w.setCell ⟨b, off + k * sz + j0, none⟩ u) (.slice (some ⟨b, off, none⟩) n cap) sz n (fun i => if i = k then (cs k).set j0 u else cs i) := by
  obtain ⟨s0, c0, e, h2, h3, h4, h5, h6⟩ := h
  injection e with e1 e2 e3
  subst e1 e3
  refine ⟨_, cap, rfl, h2, h3, h4, fun h0 => ?_, fun i hi => ?_⟩
  · obtain ⟨b', off', e, hS, hl, hc⟩ := h5 h0
    injection e with e
    injection e with e4 e5
    subst e4 e5
    refine ⟨b, off, rfl, hS, by rw [setCell_size]; exact hl, fun i hi j hjs => ?_⟩
    by_cases hik : i = k
    · subst hik
      simp only [if_true]
      by_cases hjj : j = j0
      · subst hjj
        have q := hc i hi j hj
        rw [List.getElem?_eq_getElem (by rw [h6 i hi]; exact hj)] at q
        rw [cell_set_eq u q, List.getElem?_set_self (by rw [h6 i hi]; exact hj)]
      · rw [cell_set_ne _ _ (Or.inr (by omega)), hc i hi j hjs, List.getElem?_set_ne (fun e => hjj e.symm)]
    · simp only [if_neg hik]
      rw [cell_set_ne _ _ (Or.inr ?_), hc i hi j hjs]
      intro e
      rcases Nat.lt_or_gt_of_ne hik with hlt | hgt
      · have : (i + 1) * sz ≤ k * sz := Nat.mul_le_mul_right _ hlt
        rw [Nat.add_mul, Nat.one_mul] at this
        omega
      · have : (k + 1) * sz ≤ i * sz := Nat.mul_le_mul_right _ hgt
        rw [Nat.add_mul, Nat.one_mul] at this
        omega
  · by_cases hik : i = k
    · subst hik
      simp only [if_true, List.length_set]
      exact h6 i hi
    · simp only [if_neg hik]
      exact h6 i hi
theorem fns_upd {W : World} {v u : Value} {a b : List Fn} {f : Fn} {s : St} {cs : Nat → List Value} (h : RowOf Any W v 5 (a ++ f :: b).length (fun i => if i = a.length then (cs a.length).set 3 u else cs i))
    (hit : ∀ i, i < (a ++ f :: b).length → RepFn Any W (cs i) ((a ++ f :: b).getD i default)) (hb : RepSts Any W u (s :: f.body)) : RepFns Any W v (a ++ withB f s :: b) := by
  have hlen : (a ++ withB f s :: b).length = (a ++ f :: b).length := by simp
  refine ⟨_, by rw [hlen]; exact h, fun i hi => ?_⟩
  rw [hlen] at hi
  have q := hit i hi
  by_cases hia : i = a.length
  · subst hia
    simp only [if_true]
    have e1 : (a ++ f :: b).getD a.length default = f := by
      rw [List.getD_eq_getElem?_getD, List.getElem?_append_right (Nat.le_refl _), Nat.sub_self]
      rfl
    have e2 : (a ++ withB f s :: b).getD a.length default = withB f s := by
      rw [List.getD_eq_getElem?_getD, List.getElem?_append_right (Nat.le_refl _), Nat.sub_self]
      rfl
    rw [e1] at q
    rw [e2]
    obtain ⟨vp, vb, e, hp, _⟩ := q
    rw [e]
    exact ⟨vp, u, rfl, hp, hb⟩
  · simp only [if_neg hia]
    have e1 : (a ++ withB f s :: b).getD i default = (a ++ f :: b).getD i default := by
      rw [List.getD_eq_getElem?_getD, List.getD_eq_getElem?_getD]
      rcases Nat.lt_or_gt_of_ne hia with hlt | hgt
      · rw [List.getElem?_append_left hlt, List.getElem?_append_left hlt]
      · rw [List.getElem?_append_right (by omega), List.getElem?_append_right (by omega)]
        obtain ⟨m, hm⟩ : ∃ m, i - a.length = m + 1 := ⟨i - a.length - 1, by omega⟩
        rw [hm]
        rfl
    rw [e1]
    exact q
/-- a statement laid ahead of others -/
theorem sts_own {S : Nat → Prop} {W : World} {base e g cap n : Nat} {x0 x1 x2 x3 x4 x5 : Value} {s : St} {l : List St} {cs : Nat → List Value} (h : W.ownsRow base e 6 (.slice (some ⟨g, 0, none⟩) n cap) n ([x0, x1, x2, x3, x4, x5] ++ flat cs l.length)) (hn : n = 1 + l.length)
    (hl : ∀ i, i < l.length → (cs i).length = 6) (hs : RepSt Any W [x0, x1, x2, x3, x4, x5] s) (hit : ∀ i, i < l.length → RepSt S W (cs i) (l.getD i default)) : RepSts Any W (.slice (some ⟨g, 0, none⟩) n cap) (s :: l) := by
  subst hn
  have e0 : ([x0, x1, x2, x3, x4, x5] : List Value) ++ flat cs l.length = flat (fun i => if i < 1 then [x0, x1, x2, x3, x4, x5] else cs (i - 1)) (1 + l.length) := by
    rw [← flat_join (fun _ => [x0, x1, x2, x3, x4, x5]) cs 1 l.length]
    rfl
  rw [e0] at h
  have hl2 : ∀ i, i < 1 + l.length → ((fun i => if i < 1 then [x0, x1, x2, x3, x4, x5] else cs (i - 1)) i).length = 6 := fun i hi => by
    by_cases hp : i < 1
    · simp only [if_pos hp]; rfl
    · simp only [if_neg hp]; exact hl _ (by omega)
  obtain ⟨s0, c0, e, hle, hm, hn, hc⟩ := own_form h
  injection e with e1 e2 e3
  subst e1 e3
  refine ⟨fun i => if i < 1 then [x0, x1, x2, x3, x4, x5] else cs (i - 1), ?_, fun i hi => ?_⟩
  · rw [List.length_cons, Nat.add_comm l.length 1]
    refine ⟨_, cap, rfl, hle, hm, hn, fun h0 => ?_, hl2⟩
    obtain ⟨g', e, hg, hlt, hcell⟩ := hc h0
    refine ⟨g', 0, e, trivial, hlt, fun i hi j hj => ?_⟩
    have hget := flat_get hl2 hi hj
    have hlen := hl2 i hi
    rw [Nat.zero_add, hcell (i * 6 + j) (((fun i => if i < 1 then [x0, x1, x2, x3, x4, x5] else cs (i - 1)) i)[j]'(by omega)) (by rw [hget]; exact List.getElem?_eq_getElem _), List.getElem?_eq_getElem (by omega)]
  · rw [List.length_cons] at hi
    cases i with
    | zero => exact hs
    | succ i =>
      have h1 : (if i + 1 < 1 then [x0, x1, x2, x3, x4, x5] else cs (i + 1 - 1)) = cs i := if_neg (Nat.not_lt_of_le (Nat.succ_le_succ (Nat.zero_le i)))
      show RepSt Any W (if i + 1 < 1 then [x0, x1, x2, x3, x4, x5] else cs (i + 1 - 1)) _
      rw [h1]
      exact (hit i (by omega)).mono (fun _ _ => trivial)
theorem st_one {S : Nat → Prop} {w : World} {cs : Nat → List Value} {l : List St} (h : ∀ i, i < l.length → RepSt S w (cs i) (l.getD i default)) : ∀ u, u ∈ flat cs l.length → u.oneCell' = true := by
  intro u hu
  unfold flat at hu
  obtain ⟨i, hi, hu⟩ := List.mem_flatMap.1 hu
  obtain ⟨op, text, s1, n1, c1, s2, n2, c2, s3, n3, c3, pos, e⟩ := st_form (h i (List.mem_range.1 hi))
  rw [e] at hu
  simp at hu
  rcases hu with rfl | rfl | rfl | rfl | rfl | rfl <;> rfl
theorem below_none {a b : World} (h : a.grownBy b none) : Below a.heap.size a b := ⟨h.os, h.tape, h.output, h.size, fun i hi => h.block i hi (by simp)⟩
/-- a row that is in one block -/
theorem row_at {S : Nat → Prop} {w : World} {g off n cap sz : Nat} {cs : Nat → List Value} (h : RowOf S w (.slice (some ⟨g, off, none⟩) n cap) sz n cs) : RowOf (fun b => b = g) w (.slice (some ⟨g, off, none⟩) n cap) sz n cs := by
  obtain ⟨s0, c0, e, h2, h3, h4, h5, h6⟩ := h
  injection e with e1 e2 e3
  subst e1 e3
  refine ⟨_, cap, rfl, h2, h3, h4, fun h0 => ?_, h6⟩
  obtain ⟨b, off', e, _, hl, hc⟩ := h5 h0
  injection e with e
  injection e with e4 e5
  subst e4 e5
  exact ⟨g, off, rfl, rfl, hl, hc⟩
theorem row_own {W : World} {base e sz g n cap : Nat} {cs : Nat → List Value} (h : W.ownsRow base e sz (.slice (some ⟨g, 0, none⟩) n cap) n (flat cs n)) (hl : ∀ i, i < n → (cs i).length = sz) : RowOf (fun b => b = g) W (.slice (some ⟨g, 0, none⟩) n cap) sz n cs := by
  obtain ⟨s0, c0, e, hle, hm, hn, hc⟩ := own_form h
  injection e with e1 e2 e3
  subst e1 e3
  refine ⟨_, cap, rfl, hle, hm, hn, fun h0 => ?_, hl⟩
  obtain ⟨g', e, hg, hlt, hcell⟩ := hc h0
  injection e with e
  injection e with e4 e5
  refine ⟨g, 0, rfl, rfl, by rw [e4]; exact hlt, fun i hi j hj => ?_⟩
  have hget := flat_get hl hi hj
  have hlen := hl i hi
  rw [Nat.zero_add, e4, hcell (i * sz + j) ((cs i)[j]'(by omega)) (by rw [hget]; exact List.getElem?_eq_getElem _), List.getElem?_eq_getElem (by omega)]
theorem own_obj {W : World} {base e sz g n cap : Nat} {xs : List Value} (h : W.ownsRow base e sz (.slice (some ⟨g, 0, none⟩) n cap) n xs) : base ≤ g ∧ ∃ arr, W.heap[g]? = some (.cells arr e (0, 0)) := by
  rcases h.2 with ⟨q, _⟩ | ⟨g', cap', cur, q1, q2, q3, q4⟩
  · cases q
  · injection q1 with q1
    injection q1 with q1
    injection q1 with q1
    subst q1
    exact ⟨q2, cur, q3⟩
/-- the row of functions that is changed: its block, its cells -/
structure QAt (W : World) (g n cap : Nat) (cs : Nat → List Value) : Prop where
  obj : ∃ arr, W.heap[g]? = some (.cells arr 34 (0, 0))
  row : RowOf (fun b => b = g) W (.slice (some ⟨g, 0, none⟩) n cap) 5 n cs
theorem QAt.keep {W W' : World} {g n cap : Nat} {cs : Nat → List Value} (h : QAt W g n cap cs) (hs : W.heap.size ≤ W'.heap.size) (hg : W'.heap[g]? = W.heap[g]?) : QAt W' g n cap cs :=
  ⟨by rw [hg]; exact h.obj, h.row.keep ⟨hs, fun b hb _ => by rw [hb]; exact hg⟩⟩
theorem QAt.below {W W' : World} {g n cap : Nat} {cs : Nat → List Value} (h : QAt W g n cap cs) (hb : Below W.heap.size W W') : QAt W' g n cap cs := by
  obtain ⟨arr, ha⟩ := h.obj
  exact h.keep hb.size (hb.block _ (lt_block ha))
theorem QAt.set {W : World} {g n cap : Nat} {cs : Nat → List Value} (h : QAt W g n cap cs) {k j0 : Nat} (hk : k < n) (hj : j0 < 5) (u : Value) : QAt (W.setCell ⟨g, k * 5 + j0, none⟩ u) g n cap (fun i => if i = k then (cs k).set j0 u else cs i) := by
  refine ⟨obj_setCell h.obj, ?_⟩
  have q := row_set h.row hk hj u
  rw [Nat.zero_add] at q
  exact q
theorem QAt.cell {W : World} {g n cap : Nat} {cs : Nat → List Value} (h : QAt W g n cap cs) {i j : Nat} (hi : i < n) (hj : j < 5) : W.cell? ⟨g, i * 5 + j, none⟩ = (cs i)[j]? := by
  obtain ⟨s0, c0, e, _, _, _, h5, _⟩ := h.row
  injection e with e1 e2 e3
  subst e1
  obtain ⟨b, off, e, _, _, hc⟩ := h5 (by omega)
  injection e with e
  injection e with e4 e5
  subst e4 e5
  have := hc i hi j hj
  rw [Nat.zero_add] at this
  exact this
theorem stmts_len (en : Int) (one : Par St) : ∀ (f : Nat) (acc : List St) (l : List Tk) (xs : List St) (r : List Tk), stmtsP en one f acc l = .ok (xs, r) → xs.length ≤ acc.length + f
  | 0, _, _, _, _, e => by cases e
  | f + 1, acc, l, xs, r, e => by
    rw [stmtsP_succ] at e
    split at e
    · cases e; omega
    · obtain ⟨x, q2, _, e⟩ := bind_inv e
      have := stmts_len en one f _ _ _ _ e
      simp at this
      omega
theorem block_len (en : Int) (k : Nat) (l : List Tk) (xs : List St) (r : List Tk) (e : blockP en k l = .ok (xs, r)) : xs.length ≤ l.length + 1 := by
  cases k with
  | zero =>
    unfold blockP at e
    split at e <;> cases e
  | succ k =>
    unfold blockP at e
    obtain ⟨_, q, h1, h2⟩ := bind_inv e
    have a1 := strict_must _ _ _ _ _ h1
    have a2 := stmts_len _ _ _ _ _ _ _ h2
    simp at a2
    omega
theorem func_body (en : Int) (l : List Tk) (x : Fn) (r : List Tk) (e : funcP en l = .ok (x, r)) : x.body.length ≤ l.length + 1 := by
  unfold funcP at e
  obtain ⟨_, q1, h1, e⟩ := bind_inv e
  obtain ⟨n, q2, h2, e⟩ := bind_inv e
  obtain ⟨_, q3, h3, e⟩ := bind_inv e
  obtain ⟨ps, q4, h4, e⟩ := bind_inv e
  have a1 := strict_must _ _ _ _ _ h1
  have a2 := strict_name _ _ _ _ h2
  have a3 := strict_must _ _ _ _ _ h3
  have a4 := strict_list _ _ (strict_param en) _ _ _ _ _ _ h4
  split at e
  · rename_i hq
    have a5 := tail_lt hq
    obtain ⟨t, q5, h5, e⟩ := bind_inv e
    have a6 := strict_typ _ _ _ _ h5
    obtain ⟨b, q6, h6, e⟩ := bind_inv e
    have a7 := block_len _ _ _ _ _ h6
    cases e
    dsimp only
    omega
  · obtain ⟨b, q6, h6, e⟩ := bind_inv e
    have a7 := block_len _ _ _ _ _ h6
    cases e
    dsimp only
    omega
theorem prog_body (en : Int) (B : Nat) : ∀ (f : Nat) (acc : List Fn) (l : List Tk) (xs : List Fn) (r : List Tk), (∀ x, x ∈ acc → x.body.length ≤ B) → l.length + 1 ≤ B → progP en f acc l = .ok (xs, r) → ∀ x, x ∈ xs → x.body.length ≤ B
  | 0, acc, l, xs, r, ha, hl, e => by cases e; exact ha
  | f + 1, acc, l, xs, r, ha, hl, e => by
    unfold progP at e
    split at e
    · cases e; exact ha
    · rename_i tk tr
      obtain ⟨x, q, h1, e⟩ := bind_inv e
      have a1 := strict_func _ _ _ _ h1
      have a2 := func_body _ _ _ _ h1
      refine prog_body en B f _ _ _ _ (fun y hy => ?_) (by omega) e
      rcases List.mem_append.1 hy with hy | hy
      · exact ha y hy
      · rw [List.mem_singleton] at hy
        subst hy
        omega
theorem front_body {s : List UInt8} {l : List Fn} (h : frontT s = .ok l) : ∀ f, f ∈ l → f.body.length ≤ 2049 := by
  unfold frontT at h
  split at h
  · cases h
  · rename_i hp
    split at h
    · cases h
    · injection h with h
      subst h
      unfold parseT at hp
      split at hp
      · cases hp
      · rename_i tk ht
        have hlen := lexT_len ht
        split at hp
        · cases hp
        · rename_i x r hq
          cases hp
          exact prog_body _ 2049 _ _ _ _ _ (fun x hx => by cases hx) (by omega) hq
end Go.Proofs.Ytpiamiaigjlafaa
