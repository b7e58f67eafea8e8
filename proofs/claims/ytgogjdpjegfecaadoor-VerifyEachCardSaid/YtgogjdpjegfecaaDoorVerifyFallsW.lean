/-
  The walk of VerifyFalls.
-/
import Derived.Test.YtgogjdpjegfecaaDoorVerifyL
import Derived.Test.YtgogjdpjegfecaaDoorVerifyGreat
import Derived.Test.YtgogjdpjegfecaaDoorVerifyRefR
import Derived.Deep.AppendLies
import Derived.Deep.DeepCutAuto
namespace Go.Proofs.YtgogjdpjegfecaaDoor
open Go.RowKit
attribute [local go_sem ↓] Go.wp_at_zero Go.wp_at_succ

theorem infoCd : ∃ i, Tryd.prog.info? 30 = some i ∧ i.zero = some (.agg #[.string ⟨#[]⟩, .slice none 0 0, .int .i64 0, .int .i64 0, .slice none 0 0]) ∧ i.size = 5 ∧ i.bytes = 80 := by
  have h : (Tryd.prog.info? 30).map (fun i => (i.zero, i.size, i.bytes)) = some (some (.agg #[.string ⟨#[]⟩, .slice none 0 0, .int .i64 0, .int .i64 0, .slice none 0 0]), 5, 80) := by kernel_rfl
  obtain ⟨i, h1, h2⟩ := Option.map_eq_some_iff.1 h
  simp only [Prod.mk.injEq] at h2
  exact ⟨i, h1, h2.1, h2.2.1, h2.2.2⟩
theorem own_empty {W : World} {g e s base : Nat} (h : W.heap[g]? = some (.cells #[] e (0, 0))) (hb : base ≤ g) : W.ownsRow base e s (.slice (some ⟨g, 0, none⟩) 0 0) 0 [] :=
  ⟨by simp, .inr ⟨g, 0, #[], rfl, hb, h, Nat.le_refl _, by unfold maxLen; omega, by simp, by simp⟩⟩
/-- the cells of the functions, one behind the other -/
def cdsV (c0 c1 c2 c3 c4 : Nat → Value) (n : Nat) : List Value := (List.range n).flatMap fun i => [c0 i, c1 i, c2 i, c3 i, c4 i]
theorem cdsV_succ (c0 c1 c2 c3 c4 : Nat → Value) (n : Nat) : cdsV c0 c1 c2 c3 c4 (n + 1) = cdsV c0 c1 c2 c3 c4 n ++ [c0 n, c1 n, c2 n, c3 n, c4 n] := by
  simp [cdsV, List.range_succ, List.flatMap_append]
theorem cdsV_len (c0 c1 c2 c3 c4 : Nat → Value) (n : Nat) : (cdsV c0 c1 c2 c3 c4 n).length = n * 5 := by
  induction n with
  | zero => rfl
  | succ n ih => rw [cdsV_succ, List.length_append, ih]; simp; omega
theorem cdsV_at (c0 c1 c2 c3 c4 : Nat → Value) (n i : Nat) (hi : i < n) : (cdsV c0 c1 c2 c3 c4 n)[i * 5]? = some (c0 i) ∧ (cdsV c0 c1 c2 c3 c4 n)[i * 5 + 1]? = some (c1 i) ∧ (cdsV c0 c1 c2 c3 c4 n)[i * 5 + 2]? = some (c2 i) ∧ (cdsV c0 c1 c2 c3 c4 n)[i * 5 + 3]? = some (c3 i) ∧ (cdsV c0 c1 c2 c3 c4 n)[i * 5 + 4]? = some (c4 i) := by
  induction n with
  | zero => omega
  | succ n ih =>
    rw [cdsV_succ]
    have hl := cdsV_len c0 c1 c2 c3 c4 n
    by_cases e : i < n
    · obtain ⟨h0, h1, h2, h3, h4⟩ := ih e
      refine ⟨?_, ?_, ?_, ?_, ?_⟩ <;> rw [List.getElem?_append_left (by omega)] <;> assumption
    · obtain rfl : i = n := by omega
      refine ⟨?_, ?_, ?_, ?_, ?_⟩ <;> rw [List.getElem?_append_right (by omega), hl]
      · simp
      · rw [show i * 5 + 1 - i * 5 = 1 by omega]; rfl
      · rw [show i * 5 + 2 - i * 5 = 2 by omega]; rfl
      · rw [show i * 5 + 3 - i * 5 = 3 by omega]; rfl
      · rw [show i * 5 + 4 - i * 5 = 4 by omega]; rfl
theorem cdsV_some {c0 c1 c2 c3 c4 : Nat → Value} {n j : Nat} {u : Value} (h : (cdsV c0 c1 c2 c3 c4 n)[j]? = some u) : ∃ i, i < n ∧ ((j = i * 5 ∧ u = c0 i) ∨ (j = i * 5 + 1 ∧ u = c1 i) ∨ (j = i * 5 + 2 ∧ u = c2 i) ∨ (j = i * 5 + 3 ∧ u = c3 i) ∨ (j = i * 5 + 4 ∧ u = c4 i)) := by
  have hj := (List.getElem?_eq_some_iff.1 h).1
  rw [cdsV_len] at hj
  have hi : j / 5 < n := by omega
  obtain ⟨h0, h1, h2, h3, h4⟩ := cdsV_at c0 c1 c2 c3 c4 n (j / 5) hi
  refine ⟨j / 5, hi, ?_⟩
  have hc : j % 5 = 0 ∨ j % 5 = 1 ∨ j % 5 = 2 ∨ j % 5 = 3 ∨ j % 5 = 4 := by omega
  rcases hc with hc | hc | hc | hc | hc
  · rw [show j / 5 * 5 = j by omega, h] at h0; injection h0 with h0; exact .inl ⟨by omega, h0⟩
  · rw [show j / 5 * 5 + 1 = j by omega, h] at h1; injection h1 with h1; exact .inr (.inl ⟨by omega, h1⟩)
  · rw [show j / 5 * 5 + 2 = j by omega, h] at h2; injection h2 with h2; exact .inr (.inr (.inl ⟨by omega, h2⟩))
  · rw [show j / 5 * 5 + 3 = j by omega, h] at h3; injection h3 with h3; exact .inr (.inr (.inr (.inl ⟨by omega, h3⟩)))
  · rw [show j / 5 * 5 + 4 = j by omega, h] at h4; injection h4 with h4; exact .inr (.inr (.inr (.inr ⟨by omega, h4⟩)))
/-- the functions' cells, read out of a row -/
theorem cds_news {w W : World} {b off n : Nat} {c0 c1 c2 c3 c4 : Nat → Value} (hr : RowCd w (some ⟨b, off, none⟩) n c0 c1 c2 c3 c4) (hW : Below w.heap.size w W) : ∀ j u, (cdsV c0 c1 c2 c3 c4 n)[j]? = some u → W.cell? ((⟨b, off, none⟩ : Addr).add j) = some u := by
  intro j u h
  obtain ⟨i, hi, hd⟩ := cdsV_some h
  obtain ⟨b', off', e, hbl, hrow⟩ := hr (by omega)
  injection e with e
  injection e with e1 e2
  subst e1 e2
  obtain ⟨x0, x1, x2, x3, x4⟩ := hrow i hi
  rw [Go.WideShapes.add_plain]
  rcases hd with ⟨rfl, rfl⟩ | ⟨rfl, rfl⟩ | ⟨rfl, rfl⟩ | ⟨rfl, rfl⟩ | ⟨rfl, rfl⟩
  · exact (up_cell hW _ _ hbl).trans x0
  · exact (up_cell hW _ _ hbl).trans x1
  · exact (up_cell hW _ _ hbl).trans x2
  · exact (up_cell hW _ _ hbl).trans x3
  · exact (up_cell hW _ _ hbl).trans x4
theorem RepCd.one {w : World} {v0 v1 v2 v3 v4 : Value} {c : Cd} (h : RepCd w v0 v1 v2 v3 v4 c) : v0.oneCell' = true ∧ v1.oneCell' = true ∧ v2.oneCell' = true ∧ v3.oneCell' = true ∧ v4.oneCell' = true := by
  obtain ⟨rfl, _, ⟨_, _, rfl, _⟩, rfl, rfl, ⟨_, _, rfl, _⟩, _, _⟩ := h
  exact ⟨rfl, rfl, rfl, rfl, rfl⟩
theorem cds_one {w : World} {n : Nat} {c0 c1 c2 c3 c4 : Nat → Value} {f : Nat → Cd} (h : ∀ i, i < n → RepCd w (c0 i) (c1 i) (c2 i) (c3 i) (c4 i) (f i)) : ∀ u ∈ cdsV c0 c1 c2 c3 c4 n, u.oneCell' = true := by
  intro u hu
  obtain ⟨j, hj⟩ := List.mem_iff_getElem?.1 hu
  obtain ⟨i, hi, hd⟩ := cdsV_some hj
  obtain ⟨q0, q1, q2, q3, q4⟩ := (h i hi).one
  rcases hd with ⟨_, rfl⟩ | ⟨_, rfl⟩ | ⟨_, rfl⟩ | ⟨_, rfl⟩ | ⟨_, rfl⟩ <;> assumption

theorem grown_keep {w3 A B : World} {g : Nat} (h : A.grownBy B (some g)) (hb : Below w3.heap.size w3 A) (hg : w3.heap.size ≤ g) : Below w3.heap.size w3 B :=
  hb.grown h hb.size (fun k e => by injection e with e; omega)
theorem grown_heap {A B : World} {g b : Nat} {u : Obj} (h : A.grownBy B (some g)) (hne : b ≠ g) (hc : A.heap[b]? = some u) : B.heap[b]? = some u :=
  (h.block b (lt_of_block hc) (fun e => hne (by injection e))).trans hc
theorem cells_two {B : World} {b : Nat} {x y : Value} {t : TypeId} (h : B.heap[b]? = some (.cells #[x, y] t (0, 0))) : B.cell? ⟨b, 0, none⟩ = some x ∧ B.cell? ⟨b, 1, none⟩ = some y ∧ B.frozen? ⟨b, 0, none⟩ = false ∧ B.frozen? ⟨b, 1, none⟩ = false := by
  refine ⟨?_, ?_, frozen_of h 0, frozen_of h 1⟩ <;> simp [World.cell?, h]
theorem own_old {W : World} {g e s base : Nat} (hb : base ≤ g) (h : W.heap[g]? = some (.cells #[] e (0, 0))) (o : Obj) : (W.alloc o).drew.ownsRow base e s (.slice (some ⟨g, 0, none⟩) 0 0) 0 [] :=
  own_empty (ad_heap o h) hb

/-- the copy of the module, as it grows -/
structure NSt (w3 W : World) (nb gg cap n : Nat) (u1 : Value) (c0 c1 c2 c3 c4 : Nat → Value) : Prop where
  below : Below w3.heap.size w3 W
  lnb : w3.heap.size ≤ nb
  lgg : w3.heap.size ≤ gg
  ne : nb ≠ gg
  nobj : ∃ arr, W.heap[nb]? = some (.cells arr 25 (0, 0))
  nc0 : W.cell? ⟨nb, 0, none⟩ = some (.slice (some ⟨gg, 0, none⟩) n cap)
  nc1 : W.cell? ⟨nb, 1, none⟩ = some u1
  gobj : ∃ arr, W.heap[gg]? = some (.cells arr 30 (0, 0))
  row : ∀ i, i < n → W.cell? ⟨gg, i * 5, none⟩ = some (c0 i) ∧ W.cell? ⟨gg, i * 5 + 1, none⟩ = some (c1 i) ∧ W.cell? ⟨gg, i * 5 + 2, none⟩ = some (c2 i) ∧ W.cell? ⟨gg, i * 5 + 3, none⟩ = some (c3 i) ∧ W.cell? ⟨gg, i * 5 + 4, none⟩ = some (c4 i)
  hcap : n ≤ cap
  hmax : cap ≤ maxLen
theorem NSt.later {w3 W W' : World} {nb gg cap n : Nat} {u1 : Value} {c0 c1 c2 c3 c4 : Nat → Value} (h : NSt w3 W nb gg cap n u1 c0 c1 c2 c3 c4) (hb : Below W.heap.size W W') : NSt w3 W' nb gg cap n u1 c0 c1 c2 c3 c4 := by
  obtain ⟨a1, h1⟩ := h.nobj
  obtain ⟨a2, h2⟩ := h.gobj
  have l1 := lt_of_block h1
  have l2 := lt_of_block h2
  refine ⟨h.below.trans (hb.mono h.below.size), h.lnb, h.lgg, h.ne, ⟨a1, (hb.block _ l1).trans h1⟩, (up_cell hb _ _ l1).trans h.nc0, (up_cell hb _ _ l1).trans h.nc1, ⟨a2, (hb.block _ l2).trans h2⟩, fun i hi => ?_, h.hcap, h.hmax⟩
  obtain ⟨x0, x1, x2, x3, x4⟩ := h.row i hi
  exact ⟨(up_cell hb _ _ l2).trans x0, (up_cell hb _ _ l2).trans x1, (up_cell hb _ _ l2).trans x2, (up_cell hb _ _ l2).trans x3, (up_cell hb _ _ l2).trans x4⟩
theorem obj_setCell {W : World} {b j : Nat} {t : TypeId} {v : Value} (h : ∃ arr, W.heap[b]? = some (.cells arr t (0, 0))) : ∃ arr, (W.setCell ⟨b, j, none⟩ v).heap[b]? = some (.cells arr t (0, 0)) := by
  obtain ⟨a, h⟩ := h
  refine ⟨a.setIfInBounds j v, ?_⟩
  show (W.heap.modify b _)[b]? = _
  rw [Array.getElem?_modify, if_pos rfl, h]
  rfl
theorem NSt.set {w3 W : World} {nb gg cap n : Nat} {u1 : Value} {c0 c1 c2 c3 c4 : Nat → Value} (h : NSt w3 W nb gg cap n u1 c0 c1 c2 c3 c4) {k : Nat} (hk : k < n) (v : Value) : NSt w3 (W.setCell ⟨gg, k * 5 + 4, none⟩ v) nb gg cap n u1 c0 c1 c2 c3 (fun i => if i = k then v else c4 i) := by
  obtain ⟨a1, h1⟩ := h.nobj
  refine ⟨h.below.setCell h.lgg _, h.lnb, h.lgg, h.ne, ⟨a1, (setCell_heap _ _ _ _ h.ne).trans h1⟩, (cell_set_ne _ _ (.inl (Ne.symm h.ne))).trans h.nc0, (cell_set_ne _ _ (.inl (Ne.symm h.ne))).trans h.nc1, obj_setCell h.gobj, fun i hi => ?_, h.hcap, h.hmax⟩
  obtain ⟨x0, x1, x2, x3, x4⟩ := h.row i hi
  refine ⟨(cell_set_ne _ _ (.inr (by omega))).trans x0, (cell_set_ne _ _ (.inr (by omega))).trans x1, (cell_set_ne _ _ (.inr (by omega))).trans x2, (cell_set_ne _ _ (.inr (by omega))).trans x3, ?_⟩
  by_cases e : i = k
  · subst e
    rw [if_pos rfl]
    exact cell_set_eq _ x4
  · rw [if_neg e]
    exact (cell_set_ne _ _ (.inr (by omega))).trans x4
theorem NSt.rep {w3 W : World} {nb gg cap n : Nat} {u1 : Value} {c0 c1 c2 c3 c4 : Nat → Value} (h : NSt w3 W nb gg cap n u1 c0 c1 c2 c3 c4) {l : List Cd} {t : List (List Int)} (hn : n = l.length) (hb : n ≤ 64) (hc : ∀ i, i < n → RepCd W (c0 i) (c1 i) (c2 i) (c3 i) (c4 i) (l.getD i default)) (ht : RepTexts W u1 t) :
    RepMdl W (.agg #[.slice (some ⟨gg, 0, none⟩) n cap, u1]) ⟨l, t⟩ := by
  subst hn
  obtain ⟨a2, h2⟩ := h.gobj
  have hm := h.hmax
  unfold maxLen at hm
  have hl := h.hcap
  refine ⟨_, _, rfl, ⟨_, cap, c0, c1, c2, c3, c4, rfl, (by unfold big; show l.length ≤ _; omega), hl, by unfold capOk; omega, fun e => (by cases e), fun _ => ⟨gg, 0, rfl, lt_of_block h2, fun i hi => ?_⟩, hc⟩, ht⟩
  simpa using h.row i hi
theorem own_row {W : World} {base gg cap n : Nat} {c0 c1 c2 c3 c4 : Nat → Value} (h : W.ownsRow base 30 5 (.slice (some ⟨gg, 0, none⟩) n cap) n (cdsV c0 c1 c2 c3 c4 n)) :
    base ≤ gg ∧ (∃ arr, W.heap[gg]? = some (.cells arr 30 (0, 0))) ∧ (∀ i, i < n → W.cell? ⟨gg, i * 5, none⟩ = some (c0 i) ∧ W.cell? ⟨gg, i * 5 + 1, none⟩ = some (c1 i) ∧ W.cell? ⟨gg, i * 5 + 2, none⟩ = some (c2 i) ∧ W.cell? ⟨gg, i * 5 + 3, none⟩ = some (c3 i) ∧ W.cell? ⟨gg, i * 5 + 4, none⟩ = some (c4 i)) ∧ n ≤ cap ∧ cap ≤ maxLen := by
  rcases h.2 with ⟨q, _⟩ | ⟨g', cap', cur, q, hg, hh, hle, hm, _⟩
  · cases q
  · injection q with q1 q2 q3
    injection q1 with q1
    injection q1 with q1
    subst q1
    subst q3
    refine ⟨hg, ⟨cur, hh⟩, fun i hi => ?_, hle, hm⟩
    obtain ⟨x0, x1, x2, x3, x4⟩ := cdsV_at c0 c1 c2 c3 c4 n i hi
    have f := fun j u (hj : (cdsV c0 c1 c2 c3 c4 n)[j]? = some u) => World.ownsRow.cells h (g := gg) rfl j u hj
    have z : ∀ j, ((⟨gg, 0, none⟩ : Addr).add j) = ⟨gg, j, none⟩ := fun j => by rw [Go.WideShapes.add_plain, Nat.zero_add]
    refine ⟨?_, ?_, ?_, ?_, ?_⟩
    · rw [← z]; exact f _ _ x0
    · rw [← z]; exact f _ _ x1
    · rw [← z]; exact f _ _ x2
    · rw [← z]; exact f _ _ x3
    · rw [← z]; exact f _ _ x4
theorem nst_alloc {w3 w4 : World} {gg cap n : Nat} {u1 : Value} {c0 c1 c2 c3 c4 : Nat → Value} (hb : Below w3.heap.size w3 w4) (h : w4.ownsRow w3.heap.size 30 5 (.slice (some ⟨gg, 0, none⟩) n cap) n (cdsV c0 c1 c2 c3 c4 n)) :
    NSt w3 (w4.alloc (.cells #[.slice (some ⟨gg, 0, none⟩) n cap, u1] 25)) w4.heap.size gg cap n u1 c0 c1 c2 c3 c4 := by
  obtain ⟨h1, ⟨arr, h2⟩, h3, h4, h5⟩ := own_row h
  have lg := lt_of_block h2
  refine ⟨up_alloc hb _, hb.size, h1, by omega, ⟨_, new_heap _ _ _ rfl⟩, new_cell _ _ _ _ _ _ rfl rfl, new_cell _ _ _ _ _ _ rfl rfl, ⟨arr, (Below.heap_alloc _ _ _ lg).trans h2⟩, fun i hi => ?_, h4, h5⟩
  obtain ⟨x0, x1, x2, x3, x4⟩ := h3 i hi
  exact ⟨old_cell _ x0, old_cell _ x1, old_cell _ x2, old_cell _ x3, old_cell _ x4⟩
theorem nst_set {w3 w4 : World} {nb gg cap n : Nat} {u1 x y : Value} {c0 c1 c2 c3 c4 : Nat → Value} (hb : Below w3.heap.size w3 w4) (h : w4.ownsRow w3.heap.size 30 5 (.slice (some ⟨gg, 0, none⟩) n cap) n (cdsV c0 c1 c2 c3 c4 n))
    (hn : w4.heap[nb]? = some (.cells #[x, y] 25 (0, 0))) (hl : w3.heap.size ≤ nb) (hne : gg ≠ nb) :
    NSt w3 ((w4.setCell ⟨nb, 0, none⟩ (.slice (some ⟨gg, 0, none⟩) n cap)).setCell ⟨nb, 1, none⟩ u1) nb gg cap n u1 c0 c1 c2 c3 c4 := by
  obtain ⟨h1, ⟨arr, h2⟩, h3, h4, h5⟩ := own_row h
  obtain ⟨e0, e1, _, _⟩ := cells_two hn
  refine ⟨(hb.setCell hl _).setCell hl _, hl, h1, Ne.symm hne, obj_setCell (obj_setCell ⟨_, hn⟩), (cell_set_ne _ _ (.inr (by omega))).trans (cell_set_eq _ e0), cell_set_eq _ ((cell_set_ne _ _ (.inr (by omega))).trans e1), ⟨arr, (setCell_heap _ _ _ _ hne).trans ((setCell_heap _ _ _ _ hne).trans h2)⟩, fun i hi => ?_, h4, h5⟩
  have z : ∀ j u, w4.cell? ⟨gg, j, none⟩ = some u → ((w4.setCell ⟨nb, 0, none⟩ (.slice (some ⟨gg, 0, none⟩) n cap)).setCell ⟨nb, 1, none⟩ u1).cell? ⟨gg, j, none⟩ = some u := fun j u hj => (cell_set_ne _ _ (.inl (Ne.symm hne))).trans ((cell_set_ne _ _ (.inl (Ne.symm hne))).trans hj)
  obtain ⟨x0, x1, x2, x3, x4⟩ := h3 i hi
  exact ⟨z _ _ x0, z _ _ x1, z _ _ x2, z _ _ x3, z _ _ x4⟩
theorem infoIn : ∃ i, Tryd.prog.info? 35 = some i ∧ i.zero = some (.agg #[.int .i64 0, .int .i64 0]) ∧ i.size = 2 ∧ i.bytes = 16 := by
  have h : (Tryd.prog.info? 35).map (fun i => (i.zero, i.size, i.bytes)) = some (some (.agg #[.int .i64 0, .int .i64 0]), 2, 16) := by kernel_rfl
  obtain ⟨i, h1, h2⟩ := Option.map_eq_some_iff.1 h
  simp only [Prod.mk.injEq] at h2
  exact ⟨i, h1, h2.1, h2.2.1, h2.2.2⟩
def insC (l : List Ins) : List Value := l.flatMap fun i => [.int .i64 i.op, .int .i64 i.a]
theorem insC_len (l : List Ins) : (insC l).length = l.length * 2 := by
  induction l with
  | nil => rfl
  | cons x l ih =>
    have e : insC (x :: l) = .int .i64 x.op :: .int .i64 x.a :: insC l := rfl
    rw [e]; simp [ih]; omega
theorem insC_at : ∀ (l : List Ins) (i : Nat), i < l.length → (insC l)[i * 2]? = some (.int .i64 (l.getD i default).op) ∧ (insC l)[i * 2 + 1]? = some (.int .i64 (l.getD i default).a)
  | [], i, h => by simp at h
  | x :: l, i, h => by
    have e : insC (x :: l) = .int .i64 x.op :: .int .i64 x.a :: insC l := rfl
    rw [e]
    cases i with
    | zero => exact ⟨rfl, rfl⟩
    | succ i =>
      have := insC_at l i (by simpa using h)
      rw [show (i + 1) * 2 = i * 2 + 1 + 1 by omega]
      simpa using this
theorem insC_some {l : List Ins} {j : Nat} {u : Value} (h : (insC l)[j]? = some u) : ∃ i, i < l.length ∧ ((j = i * 2 ∧ u = .int .i64 (l.getD i default).op) ∨ (j = i * 2 + 1 ∧ u = .int .i64 (l.getD i default).a)) := by
  have hj := (List.getElem?_eq_some_iff.1 h).1
  rw [insC_len] at hj
  have hi : j / 2 < l.length := by omega
  obtain ⟨h0, h1⟩ := insC_at l (j / 2) hi
  refine ⟨j / 2, hi, ?_⟩
  have hc : j % 2 = 0 ∨ j % 2 = 1 := by omega
  rcases hc with hc | hc
  · rw [show j / 2 * 2 = j by omega, h] at h0; injection h0 with h0; exact .inl ⟨by omega, h0⟩
  · rw [show j / 2 * 2 + 1 = j by omega, h] at h1; injection h1 with h1; exact .inr ⟨by omega, h1⟩
theorem insC_one (l : List Ins) : ∀ u ∈ insC l, u.oneCell' = true := by
  intro u hu
  obtain ⟨j, hj⟩ := List.mem_iff_getElem?.1 hu
  obtain ⟨i, hi, hd⟩ := insC_some hj
  rcases hd with ⟨_, rfl⟩ | ⟨_, rfl⟩ <;> rfl
theorem ins_news {w W : World} {b off : Nat} {l : List Ins} (hr : RowIn w (some ⟨b, off, none⟩) l.length (fun i => .int .i64 (l.getD i default).op) (fun i => .int .i64 (l.getD i default).a)) (hW : Below w.heap.size w W) : ∀ j u, (insC l)[j]? = some u → W.cell? ((⟨b, off, none⟩ : Addr).add j) = some u := by
  intro j u h
  obtain ⟨i, hi, hd⟩ := insC_some h
  obtain ⟨b', off', e, hbl, hrow⟩ := hr (by omega)
  injection e with e
  injection e with e1 e2
  subst e1 e2
  obtain ⟨x0, x1⟩ := hrow i hi
  rw [Go.WideShapes.add_plain]
  rcases hd with ⟨rfl, rfl⟩ | ⟨rfl, rfl⟩
  · exact (up_cell hW _ _ hbl).trans x0
  · exact (up_cell hW _ _ hbl).trans x1
/-- a row of its own that is instructions -/
theorem own_ins {W : World} {base g cap n : Nat} {l : List Ins} (h : W.ownsRow base 35 2 (.slice (some ⟨g, 0, none⟩) n cap) n (insC l)) (hn : n = l.length) (hl : n ≤ 100000) (h64 : ∀ i, i64 (l.getD i default).op ∧ i64 (l.getD i default).a) : RepIns W (.slice (some ⟨g, 0, none⟩) n cap) l := by
  subst hn
  rcases h.2 with ⟨q, _⟩ | ⟨g', cap', cur, q, _, hh, hle, hm, _⟩
  · cases q
  · injection q with q1 q2 q3
    subst q3
    refine ⟨_, cap, rfl, by unfold big; omega, hle, by unfold capOk; unfold maxLen at hm; omega, fun e => (by cases e), fun _ => ⟨g, 0, rfl, ?_, fun i hi => ?_⟩, h64⟩
    · injection q1 with q1
      injection q1 with q1
      subst q1
      exact lt_of_block hh
    · obtain ⟨q1, q2⟩ := insC_at l i hi
      have r1 := World.ownsRow.cells h (g := g) rfl _ _ q1
      have r2 := World.ownsRow.cells h (g := g) rfl _ _ q2
      rw [Go.WideShapes.add_plain] at r1 r2
      exact ⟨r1, r2⟩

theorem own_lit {W : World} {arr : Array Value} {g e s n base : Nat} (h : W.heap[g]? = some (.cells arr e (0, 0))) (hb : base ≤ g) (hs : arr.size = n * s) (hn : n ≤ maxLen) : W.ownsRow base e s (.slice (some ⟨g, 0, none⟩) n n) n arr.toList :=
  ⟨by simpa using hs, .inr ⟨g, n, arr, rfl, hb, h, Nat.le_refl _, hn, by omega, List.take_of_length_le (by simp; omega)⟩⟩
theorem own_set2 {W : World} {base e s n b j : Nat} {v u : Value} {xs : List Value} (h : W.ownsRow base e s v n xs) (hb : b < base) : (W.setCell ⟨b, j, none⟩ u).ownsRow base e s v n xs := by
  refine ⟨h.1, ?_⟩
  rcases h.2 with q | ⟨g, cap, cur, q1, q2, q3, q4⟩
  · exact .inl q
  · exact .inr ⟨g, cap, cur, q1, q2, (setCell_heap _ _ _ _ (by show g ≠ b; omega)).trans q3, q4⟩
theorem NSt.lts {w3 W : World} {nb gg cap n : Nat} {u1 : Value} {c0 c1 c2 c3 c4 : Nat → Value} (h : NSt w3 W nb gg cap n u1 c0 c1 c2 c3 c4) : nb < W.heap.size ∧ gg < W.heap.size := by
  obtain ⟨a1, h1⟩ := h.nobj
  obtain ⟨a2, h2⟩ := h.gobj
  exact ⟨lt_of_block h1, lt_of_block h2⟩
def dropI : Ins := ⟨17, 0⟩
theorem h64_cons {x : Ins} {L : List Ins} (hx : i64 x.op ∧ i64 x.a) (h : ∀ i, i64 (L.getD i default).op ∧ i64 (L.getD i default).a) (i : Nat) : i64 ((x :: L).getD i default).op ∧ i64 ((x :: L).getD i default).a := by
  cases i with
  | zero => exact hx
  | succ i => exact h i
theorem NSt.reset {w3 W : World} {nb gg cap n : Nat} {u1 v : Value} {c0 c1 c2 c3 c4 : Nat → Value} {k : Nat} (h : NSt w3 W nb gg cap n u1 c0 c1 c2 c3 (fun i => if i = k then v else c4 i)) (hk : k < n) (u : Value) : NSt w3 (W.setCell ⟨gg, k * 5 + 4, none⟩ u) nb gg cap n u1 c0 c1 c2 c3 (fun i => if i = k then u else c4 i) := by
  have := h.set hk u
  have e : (fun i => if i = k then u else (fun i => if i = k then v else c4 i) i) = (fun i => if i = k then u else c4 i) := by
    funext i
    by_cases hi : i = k
    · rw [if_pos hi, if_pos hi]
    · rw [if_neg hi, if_neg hi]; exact if_neg hi
  rwa [e] at this
/-- with other instructions -/
def Cd.withIns (c : Cd) (l : List Ins) : Cd := ⟨c.name, c.params, c.result, c.slots, l⟩
def Mdl.at (m : Mdl) (k : Nat) (l : List Ins) : Mdl := ⟨m.codes.set k ((m.codes.getD k default).withIns l), m.texts⟩
theorem at_len (m : Mdl) (k : Nat) (l : List Ins) : (m.at k l).codes.length = m.codes.length := by simp [Mdl.at]
theorem at_same (m : Mdl) {k : Nat} (l : List Ins) (hk : k < m.codes.length) : (m.at k l).codes.getD k default = (m.codes.getD k default).withIns l := by
  simp [Mdl.at, List.getD_eq_getElem?_getD, hk]
theorem at_other (m : Mdl) {k i : Nat} (l : List Ins) (h : i ≠ k) : (m.at k l).codes.getD i default = m.codes.getD i default := by
  simp [Mdl.at, List.getD_eq_getElem?_getD, Ne.symm h]
theorem at_right {m : Mdl} {k : Nat} {l : List Ins} (hr : rightM m = true) (hk : k < m.codes.length) (hl : l.length ≤ 16384) (ho : ∀ i, i < l.length → opB (l.getD i default) = true) : rightM (m.at k l) = true := by
  obtain ⟨h1, h2, h3, h4⟩ := rightM_parts hr
  simp only [rightM, Bool.and_eq_true, decide_eq_true_eq, allB_iff]
  refine ⟨⟨⟨by rw [at_len]; exact h1, h2⟩, fun i hi => h3 i hi⟩, fun i hi => ?_⟩
  rw [at_len] at hi
  by_cases e : i = k
  · subst e
    rw [at_same m l hi]
    obtain ⟨p1, p2, p3, p4, p5, p6, p7, p8⟩ := rightCd_parts (h4 i hi)
    simp only [rightCd, Bool.and_eq_true, Bool.or_eq_true, decide_eq_true_eq, allB_iff]
    exact ⟨⟨⟨⟨⟨⟨⟨p1, p2⟩, p3⟩, p4⟩, p5⟩, p6⟩, hl⟩, ho⟩
  · rw [at_other m l e]
    exact h4 i hi
theorem at_falls {m : Mdl} {k : Nat} {l : List Ins} (hr : rightM m = true) (hk : k < m.codes.length) (hl : l.length ≤ 16384) (ho : ∀ i, i < l.length → opB (l.getD i default) = true) (hs : SafeIs ((m.codes.getD k default).withIns l) (m.at k l) false) {x : Int} (hx : CheckIs (m.at k l) x) : x = 131 := by
  rcases hx with ⟨h, _⟩ | ⟨_, ⟨h, _⟩ | ⟨_, h⟩⟩
  · rw [at_right hr hk hl ho] at h; cases h
  · have := h.1 k (by rw [at_len]; exact hk)
    rw [at_same m l hk] at this
    cases this.same hs
  · exact h
theorem drop_unsafe (c : Cd) (m : Mdl) (L : List Ins) : SafeIs (c.withIns (dropI :: L)) m false := by
  unfold SafeIs
  rw [if_neg (by simp [Cd.withIns])]
  exact .stop rfl
theorem nil_unsafe (c : Cd) (m : Mdl) : SafeIs (c.withIns []) m false := by
  have h : (c.withIns []).ins.length = 0 := rfl
  unfold SafeIs
  rw [if_pos h]
theorem op_cons {x : Ins} {L : List Ins} (hx : opB x = true) (h : ∀ i, i < L.length → opB (L.getD i default) = true) : ∀ i, i < (x :: L).length → opB ((x :: L).getD i default) = true := fun i hi => by
  cases i with
  | zero => exact hx
  | succ i => exact h i (by simpa using hi)

theorem NSt.rep_at {w3 W : World} {nb gg cap n k : Nat} {u1 v : Value} {c0 c1 c2 c3 c4 : Nat → Value} {m : Mdl} {l : List Ins} (h : NSt w3 W nb gg cap n u1 c0 c1 c2 c3 (fun i => if i = k then v else c4 i)) (hk : k < n) (hn : n = m.codes.length) (hb : n ≤ 64)
    (hc : ∀ i, i < n → RepCd W (c0 i) (c1 i) (c2 i) (c3 i) (c4 i) (m.codes.getD i default)) (hv : RepIns W v l) (ht : RepTexts W u1 m.texts) : RepMdl W (.agg #[.slice (some ⟨gg, 0, none⟩) n cap, u1]) (m.at k l) := by
  refine h.rep (l := (m.at k l).codes) (t := (m.at k l).texts) (by rw [at_len]; exact hn) hb (fun i hi => ?_) ht
  by_cases e : i = k
  · subst e
    rw [at_same m l (by omega), if_pos rfl]
    have := hc i hi
    exact ⟨this.name, this.nameLen, this.params, this.result, this.slots, hv, this.r1, this.r2⟩
  · rw [at_other m l e, if_neg e]
    exact hc i hi

set_option maxRecDepth 100000 in
set_option maxHeartbeats 8000000 in
theorem falls_any {v0 v1 : Value} {m : Mdl} (k8 : Nat) (hk8 : k8 ≤ 255) (w : World) (hm : RepMdl w (.agg #[v0, v1]) m) (hsg : Signs w) : Calls Tryd.prog 4 #[.agg #[v0, v1], .int .u8 k8] w fun x w' => x = .returned (.bool true) ∧ Below w.heap.size w w' := by
  have HG := Lib.hid hsg
  have HM := Lib.hid hm
  obtain ⟨u0, u1, hag, h0, h1⟩ := hm
  simp only [Value.agg.injEq, Array.mk.injEq, List.cons.injEq, and_true] at hag
  obtain ⟨rfl, rfl⟩ := hag
  obtain ⟨s0, cap0, c0, c1, c2, c3, c4, rfl, n0, l0, k0, nn0, r0, rc⟩ := h0
  have HTX := Lib.hid h1
  obtain ⟨s1, cap1, d0, rfl, n1, l1, k1, nn1, r1, rt⟩ := h1
  unfold big at n0 n1
  have HR0 := Lib.hid r0
  have HR1 := Lib.hid r1
  have HC := Lib.hid rc
  have HT := Lib.hid rt
  clear r0 r1 rc rt nn0 nn1
  go_enter Tryd.func4, Tryd.ntmps4
  go_wp2_with fail
  have hb0 : Below w.heap.size w (w.alloc (Obj.cells #[Value.slice s0 m.codes.length cap0, Value.slice s1 m.texts.length cap1] 25)) := up_alloc (Below.refl _ _) _
  refine (head_any _ (hsg.below hb0)).mono ?_
  rintro x w1 ⟨rfl, hb1⟩
  have HB1 := Lib.hid (up_trans hb0 hb1)
  have q0 := (up_cell hb1 w.heap.size 0 (by rw [size_alloc]; omega)).trans (new_cell _ _ _ _ _ _ rfl rfl)
  have q1 := (up_cell hb1 w.heap.size 1 (by rw [size_alloc]; omega)).trans (new_cell _ _ _ _ _ _ rfl rfl)
  have z1 := hb1.size
  rw [size_alloc] at z1
  clear hsg hb0 hb1
  go_wp2_with fail
  refine (great_any (HM.out.later HB1.out)).mono ?_
  rintro x w2 ⟨gr, rfl, hb2⟩
  have HB2 := Lib.hid (up_trans HB1.out hb2)
  have p0 := (up_cell hb2 _ _ (by omega)).trans q0
  have p1 := (up_cell hb2 _ _ (by omega)).trans q1
  have z2 := hb2.size
  clear q0 q1 hb2
  cases gr
  rotate_left 1
  · go_wp2_with fail
    go_ret
    exact ⟨rfl, HB2.out⟩
  by_cases hz : m.codes.length = 0
  · rw [hz] at p0 ⊢
    go_wp2_with fail
    go_ret
    exact ⟨rfl, HB2.out⟩
  have hzp : (0 : Int) < (m.codes.length : Int) := by omega
  have hzb : ((m.codes.length : Int) == 0) = false := beq_eq_false_iff_ne.2 (by omega)
  have HZ := Lib.hid hz
  have hnp : 0 < m.codes.length := by omega
  clear hz
  go_wp2_with fail
  refine (check_any _ _ _ (HM.out.later HB2.out) (HG.out.below HB2.out)).mono ?_
  rintro x w3 ⟨y, rfl, hy, hb3⟩
  have HB3 := Lib.hid (up_trans HB2.out hb3)
  have HY := Lib.hid hy
  have q0 := (up_cell hb3 _ _ (by omega)).trans p0
  have q1 := (up_cell hb3 _ _ (by omega)).trans p1
  have z3 := hb3.size
  clear p0 p1 hb3 hy
  by_cases hy0 : y = 0
  rotate_left 1
  · have hd : (y != 0) = true := by simp [hy0]
    go_wp2_with fail
    go_ret
    exact ⟨rfl, HB3.out⟩
  subst hy0
  go_upto_region 5 with fail
  have HK : Hid (k8 % m.codes.length < m.codes.length) := Lib.hid (Nat.mod_lt _ (by omega))
  have ek : ((k8 : Int) % (m.codes.length : Int)) = ((k8 % m.codes.length : Nat) : Int) := by omega
  rw [ek]
  clear ek
  generalize k8 % m.codes.length = k at *
  obtain ⟨i0, hi0, hz0, hz1, hz2⟩ := infoCd
  obtain ⟨b, off, hs0, hbl, _⟩ := HR0.out (by omega)
  subst hs0
  have hone := cds_one HC.out
  have hmc : rightM m = true := by
    rcases HY.out with ⟨_, h⟩ | ⟨h, _⟩
    · omega
    · exact h
  have h64 := (rightM_parts hmc).1
  have HMC := Lib.hid hmc
  have HONE := Lib.hid hone
  have HI0 := Lib.hid hi0
  clear hmc hone hi0
  go_cut [7] (fun s7 wx => ∃ nb gg cap : Nat, s7 = .pointer (some ⟨nb, 0, none⟩) ∧ NSt w3 wx nb gg cap m.codes.length (.slice s1 m.texts.length cap1) c0 c1 c2 c3 c4)
  case first =>
    go_region_held3 (fun w' => w'.cell? ⟨w.heap.size, 0, none⟩ = some (.slice (some ⟨b, off, none⟩) m.codes.length cap0) ∧ w'.cell? ⟨w.heap.size, 1, none⟩ = some (.slice s1 m.texts.length cap1))
      (first
        | exact ⟨t0, t1⟩
        | exact ⟨(cell_set_ne _ _ (.inl (by omega))).trans ((cell_set_ne _ _ (.inl (by omega))).trans t0), (cell_set_ne _ _ (.inl (by omega))).trans ((cell_set_ne _ _ (.inl (by omega))).trans t1)⟩
        | go_keep)
      ((first | (refine step_append_lies _ (by rfl) _ _ _ (by rfl) w3.heap.size 30 i0 _ 5 80 Tryd.underlying22 HI0.out hz0 hz1 hz2 rfl (by omega) (.slice (some ⟨w3.heap.size, 0, none⟩) 0 0) 0 [] (by rfl) (own_empty (new_heap _ _ _ rfl) (Nat.le_refl _)) ⟨b, off, none⟩ m.codes.length cap0 (cdsV c0 c1 c2 c3 c4 m.codes.length) (by rfl) (cdsV_len _ _ _ _ _ _) (cds_news HR0.out (by (repeat (first | exact HB3.out | refine up_drew ?_ | refine up_alloc ?_ _)))) HONE.out hnp (by unfold maxLen; omega) (by omega) (by simp <;> omega) (w3.heap.size + 1) (by simp) ?_; intro gg cap w4 hown4 hgrow hat hlt; have hB4 := grown_keep (w3 := w3) (g := w3.heap.size) hgrow (by (repeat (first | exact Below.refl _ _ | refine up_drew ?_ | refine up_alloc ?_ _))) (by omega); have t0 := (up_cell hB4 _ _ (by omega)).trans q0; have t1 := (up_cell hB4 _ _ (by omega)).trans q1) | (refine step_append_lies _ (by rfl) _ _ _ (by rfl) w3.heap.size 30 i0 _ 5 80 Tryd.underlying22 HI0.out hz0 hz1 hz2 rfl (by omega) (.slice (some ⟨w3.heap.size, 0, none⟩) 0 0) 0 [] (by rfl) (own_old (Nat.le_refl _) (new_heap _ _ _ rfl) _) ⟨b, off, none⟩ m.codes.length cap0 (cdsV c0 c1 c2 c3 c4 m.codes.length) (by rfl) (cdsV_len _ _ _ _ _ _) (cds_news HR0.out (by (repeat (first | exact HB3.out | refine up_drew ?_ | refine up_alloc ?_ _)))) HONE.out hnp (by unfold maxLen; omega) (by omega) (by simp <;> omega) (w3.heap.size + 1 + 1) (by simp) ?_; intro gg cap w4 hown4 hgrow hat hlt; have hB4 := grown_keep (w3 := w3) (g := w3.heap.size) hgrow (by (repeat (first | exact Below.refl _ _ | refine up_drew ?_ | refine up_alloc ?_ _))) (by omega); have t0 := (up_cell hB4 _ _ (by omega)).trans q0; have t1 := (up_cell hB4 _ _ (by omega)).trans q1; have HNB := Lib.hid (grown_heap (g := w3.heap.size) (b := w3.heap.size + 1) hgrow (by omega) (new_heap _ _ _ (by simp))); obtain ⟨e0, e1, e2, e3⟩ := cells_two HNB.out; have HGN : Hid (gg ≠ w3.heap.size + 1) := Lib.hid (by rcases hat with hat | hat; (have := (Option.some.inj hat : w3.heap.size = gg); omega); omega); have HOWN := Lib.hid hown4) | (refine step_append_lies _ (by rfl) _ _ _ (by rfl) w3.heap.size 30 i0 _ 5 80 Tryd.underlying22 HI0.out hz0 hz1 hz2 rfl (by omega) (.slice (some ⟨w3.heap.size + 1, 0, none⟩) 0 0) 0 [] (by rfl) (own_empty (new_heap _ _ _ (by simp)) (by omega)) ⟨b, off, none⟩ m.codes.length cap0 (cdsV c0 c1 c2 c3 c4 m.codes.length) (by rfl) (cdsV_len _ _ _ _ _ _) (cds_news HR0.out (by (repeat (first | exact HB3.out | refine up_drew ?_ | refine up_alloc ?_ _)))) HONE.out hnp (by unfold maxLen; omega) (by omega) (by simp <;> omega) (w3.heap.size + 1 + 1) (by simp) ?_; intro gg cap w4 hown4 hgrow hat hlt; have hB4 := grown_keep (w3 := w3) (g := w3.heap.size + 1) hgrow (by (repeat (first | exact Below.refl _ _ | refine up_drew ?_ | refine up_alloc ?_ _))) (by omega); have t0 := (up_cell hB4 _ _ (by omega)).trans q0; have t1 := (up_cell hB4 _ _ (by omega)).trans q1; have HNB := Lib.hid (grown_heap (g := w3.heap.size + 1) (b := w3.heap.size) hgrow (by omega) (ad_heap _ (new_heap _ _ _ rfl))); obtain ⟨e0, e1, e2, e3⟩ := cells_two HNB.out; have HGN : Hid (gg ≠ w3.heap.size) := Lib.hid (by rcases hat with hat | hat; (have := (Option.some.inj hat : w3.heap.size + 1 = gg); omega); omega); have HOWN := Lib.hid hown4)))
    all_goals go_wp2_with fail
    all_goals go_meet
    · exact ⟨_, gg, cap, rfl, nst_alloc hB4 (by simpa using hown4)⟩
    · exact ⟨_, gg, cap, rfl, nst_set hB4 (by simpa using HOWN.out) HNB.out (by omega) HGN.out⟩
    · exact ⟨_, gg, cap, rfl, nst_set hB4 (by simpa using HOWN.out) HNB.out (by omega) HGN.out⟩
  case rest =>
    obtain ⟨nb, gg, cap, rfl, hn⟩ := hcut
    have HN := Lib.hid hn
    clear hn
    have HBN := Lib.hid (HB3.out.trans (HN.out.below.mono HB3.out.size))
    have r0 := (up_cell HN.out.below _ _ (by omega)).trans q0
    have r1 := (up_cell HN.out.below _ _ (by omega)).trans q1
    have zn := HN.out.below.size
    have znb := HN.out.lts
    obtain ⟨znb, zgg⟩ := znb
    have zl3 := HN.out.lnb
    have zg3 := HN.out.lgg
    have zne := HN.out.ne
    have HQ0 := Lib.hid q0
    have HQ1 := Lib.hid q1
    clear q0 q1
    have hkk := HK.out
    have hk0 : (0 : Int) ≤ (k : Int) := by omega
    have hk1 : (k : Int) < (m.codes.length : Int) := by omega
    have hgood : SafeIs (m.codes.getD k default) m true := by
      rcases HY.out with ⟨_, h⟩ | ⟨_, ⟨h, _⟩ | ⟨_, h⟩⟩
      · omega
      · exact h.1 k hkk
      · omega
    have hins0 : 0 < (m.codes.getD k default).ins.length := by
      rcases Nat.eq_zero_or_pos (m.codes.getD k default).ins.length with h | h
      · unfold SafeIs at hgood
        rw [if_pos h] at hgood
        cases hgood
      · exact h
    have hlen16 := (rightCd_parts ((rightM_parts HMC.out).2.2.2 k hkk)).2.2.2.2.2.2.1
    clear hgood
    obtain ⟨si, ci, e4, bi, li, ki, ni, hri, hi64⟩ := (HC.out k hkk).ins
    obtain ⟨bb, oo, hsi, hbbl, _⟩ := hri hins0
    subst hsi
    have HRI := Lib.hid hri
    have HI64 := Lib.hid hi64
    obtain ⟨b', off', hbo, _, hrow⟩ := HR0.out hnp
    injection hbo with hbo
    injection hbo with hbo1 hbo2
    subst hbo1 hbo2
    obtain ⟨_, _, _, _, x4⟩ := hrow k hkk
    rw [e4] at x4
    have y4 := (up_cell HBN.out _ _ hbl).trans x4
    obtain ⟨_, _, _, _, g4⟩ := HN.out.row k hkk
    have nc0 := HN.out.nc0
    have fz4 : wc.frozen? ⟨gg, k * 5 + 4, none⟩ = false := by
      obtain ⟨_, h⟩ := HN.out.gobj
      exact frozen_of h _
    obtain ⟨i1, hi1, hy0', hy1, hy2⟩ := infoIn
    have HI1 := Lib.hid hi1
    clear hi1 hri hi64 ni ki hrow x4
    generalize hL : (m.codes.getD k default).ins = L at *
    have HL := Lib.hid hL
    clear hL
    go_upto_region 6 with fail
    go_cut [] (fun wx => ∃ g5 cap5 : Nat, NSt w3 wx nb gg cap m.codes.length (.slice s1 m.texts.length cap1) c0 c1 c2 c3 (fun i => if i = k then .slice (some ⟨g5, 0, none⟩) (1 + L.length) cap5 else c4 i) ∧ RepIns wx (.slice (some ⟨g5, 0, none⟩) (1 + L.length) cap5) (dropI :: L))
    case first =>
      go_region_held3 (fun w' => w'.cell? ⟨w.heap.size, 0, none⟩ = some (.slice (some ⟨b, off, none⟩) m.codes.length cap0) ∧ w'.cell? ⟨nb, 0, none⟩ = some (.slice (some ⟨gg, 0, none⟩) m.codes.length cap) ∧ w'.cell? ⟨b, off + k * 5 + 4, none⟩ = some (.slice (some ⟨bb, oo, none⟩) L.length ci))
        (first
          | exact ⟨t0, t1, t2⟩
          | exact ⟨(cell_set_ne _ _ (.inl (by omega))).trans t0, (cell_set_ne _ _ (.inl (by omega))).trans t1, (cell_set_ne _ _ (.inl (by omega))).trans t2⟩
          | go_keep)
        ((first | (refine step_append_lies _ (by rfl) _ _ _ (by rfl) wc.heap.size 35 i1 _ 2 16 Tryd.underlying28 HI1.out hy0' hy1 hy2 rfl (by omega) (.slice (some ⟨wc.heap.size, 0, none⟩) 1 1) 1 [.int .i64 17, .int .i64 0] (by rfl) (own_lit (arr := #[.int .i64 17, .int .i64 0]) (new_heap _ _ _ rfl) (Nat.le_refl _) rfl (by unfold maxLen; omega)) ⟨bb, oo, none⟩ L.length ci (insC L) (by rfl) (insC_len L) (ins_news HRI.out (by repeat (first | exact HBN.out | refine up_drew ?_ | refine up_alloc ?_ _))) (insC_one L) hins0 (by unfold maxLen; omega) (by omega) (by simp <;> omega) (wc.heap.size + 1) (by simp) ?_; intro g5 cap5 w5 hown5 hgrow5 hat5 hlt5; have hB5 := grown_keep (w3 := wc) (g := wc.heap.size) hgrow5 (by repeat (first | exact Below.refl _ _ | refine up_drew ?_ | refine up_alloc ?_ _)) (by omega); have t0 := (up_cell hB5 _ _ (by omega)).trans r0; have t1 := (up_cell hB5 _ _ (by omega)).trans nc0; have t2 := (up_cell hB5 _ _ (by omega)).trans y4; have t3 := (up_cell hB5 _ _ (by omega)).trans g4; have t4 := (up_frozen hB5 gg (k * 5 + 4) (by omega)).trans fz4)))
      go_wp2_with fail
      go_meet
      exact ⟨g5, cap5, (HN.out.later hB5).set hkk _, own_ins (own_set2 hown5 zgg) (by simp; omega) (by omega) (h64_cons ⟨by constructor <;> decide, by constructor <;> decide⟩ HI64.out)⟩
    case rest =>
      obtain ⟨g5, cap5, hn5, hri5⟩ := hcut
      have HN5 := Lib.hid hn5
      have HR5 := Lib.hid hri5
      have zn5 := HN5.out.below.size
      obtain ⟨z5b, z5g⟩ := HN5.out.lts
      have HB5 := Lib.hid (HB3.out.trans (HN5.out.below.mono HB3.out.size))
      have v0 := HN5.out.nc0
      obtain ⟨_, _, _, _, v4⟩ := HN5.out.row k hkk
      rw [if_pos rfl] at v4
      have f4 : wc.frozen? ⟨gg, k * 5 + 4, none⟩ = false := by
        obtain ⟨_, h⟩ := HN5.out.gobj
        exact frozen_of h _
      clear hn5 hri5 r0 r1 g4 nc0 fz4 y4
      by_cases hbig : 16384 < 1 + L.length
      · have hbi : (16384 : Int) < ((1 + L.length : Nat) : Int) := by omega
        go_wp2_with fail
        go_ret
        exact ⟨rfl, HB5.out⟩
      have hbi : ¬ ((16384 : Int) < ((1 + L.length : Nat) : Int)) := by omega
      have hbl2 : 1 + L.length ≤ 16384 := by omega
      obtain ⟨sx, cx, hsx, _, lx, _, _, hrx, hi64x⟩ := HR5.out
      injection hsx with hsx1 hsx2 hsx3
      subst hsx1 hsx3
      have HRX := Lib.hid hrx
      have HI64X := Lib.hid hi64x
      clear hrx hi64x hsx2 hbig
      have hlx : (dropI :: L).length = 1 + L.length := by simp; omega
      have HLX := Lib.hid hlx
      clear hlx lx
      go_upto_region 9 with fail
      go_cut [] (fun wx => ∃ g6 cap6 : Nat, NSt w3 wx nb gg cap m.codes.length (.slice s1 m.texts.length cap1) c0 c1 c2 c3 (fun i => if i = k then .slice (some ⟨g6, 0, none⟩) (1 + L.length) cap6 else c4 i) ∧ RepIns wx (.slice (some ⟨g6, 0, none⟩) (1 + L.length) cap6) (dropI :: L))
      case first =>
        refine wp_region_split (S := (fun w' => w'.cell? ⟨nb, 0, none⟩ = some (.slice (some ⟨gg, 0, none⟩) m.codes.length cap) ∧ w'.cell? ⟨gg, k * 5 + 4, none⟩ = some (.slice (some ⟨g5, 0, none⟩) (1 + L.length) cap5))) 13 (by kernel_rfl) (by kernel_rfl) (by (first | exact ⟨v0, v4⟩ | exact ⟨ad_cell _ v0, ad_cell _ v4⟩ | exact ⟨t0, t1⟩)) (fun hHeld => ?_)
        simp only [List.take_succ_cons, List.take_zero, List.drop_succ_cons, List.drop_zero]
        refine wpAnyH_take (i := 0) (v := ?_) rfl (by kernel_rfl) (by kernel_rfl) (by kernel_rfl) (fun _ _ _ h => h) (Or.inl ⟨by rfl, ?_⟩) (by assumption) ?_
        rotate_left 1
        · (intro w hSw; (try dsimp only at hSw); go_simp; try with_reducible rfl)
        try simp only [Act.put, List.setIfInBounds_toArray, List.set_cons_zero, List.set_cons_succ, List.getElem_toArray, List.getElem_cons_zero]
        refine wpAnyH_take (i := 1) (v := ?_) rfl (by kernel_rfl) (by kernel_rfl) (by kernel_rfl) (fun _ _ _ h => h) (Or.inl ⟨by rfl, ?_⟩) (by assumption) ?_
        rotate_left 1
        · (intro w hSw; (try dsimp only at hSw); go_simp; try with_reducible rfl)
        try simp only [Act.put, List.setIfInBounds_toArray, List.set_cons_zero, List.set_cons_succ, List.getElem_toArray, List.getElem_cons_zero, List.getElem_cons_succ]
        refine wpAnyH_take (i := 2) (v := ?_) rfl (by kernel_rfl) (by kernel_rfl) (by kernel_rfl) (fun _ _ _ h => h) (Or.inl ⟨by rfl, ?_⟩) (by assumption) ?_
        rotate_left 1
        · (intro w hSw; (try dsimp only at hSw); go_simp; try with_reducible rfl)
        try simp only [Act.put, List.setIfInBounds_toArray, List.set_cons_zero, List.set_cons_succ, List.getElem_toArray, List.getElem_cons_zero, List.getElem_cons_succ]
        refine wpAnyH_take (i := 4) (v := ?_) rfl (by kernel_rfl) (by kernel_rfl) (by kernel_rfl) (fun _ _ _ h => h) (Or.inl ⟨by rfl, ?_⟩) (by assumption) ?_
        rotate_left 1
        · (intro w hSw; (try dsimp only at hSw); go_simp; try with_reducible rfl)
        try simp only [Act.put, List.setIfInBounds_toArray, List.set_cons_zero, List.set_cons_succ, List.getElem_toArray, List.getElem_cons_zero, List.getElem_cons_succ]
        refine wpAnyH_take (i := 5) (v := ?_) rfl (by kernel_rfl) (by kernel_rfl) (by kernel_rfl) (fun _ _ _ h => h) (Or.inl ⟨by rfl, ?_⟩) (by assumption) ?_
        rotate_left 1
        · (intro w hSw; (try dsimp only at hSw); go_simp; try with_reducible rfl)
        try simp only [Act.put, List.setIfInBounds_toArray, List.set_cons_zero, List.set_cons_succ, List.getElem_toArray, List.getElem_cons_zero, List.getElem_cons_succ]
        refine wpAnyH_take (i := 6) (v := ?_) rfl (by kernel_rfl) (by kernel_rfl) (by kernel_rfl) (fun _ _ _ h => h) (Or.inl ⟨by rfl, ?_⟩) (by assumption) ?_
        rotate_left 1
        · (intro w hSw; (try dsimp only at hSw); go_simp; try with_reducible rfl)
        try simp only [Act.put, List.setIfInBounds_toArray, List.set_cons_zero, List.set_cons_succ, List.getElem_toArray, List.getElem_cons_zero, List.getElem_cons_succ]
        refine wpAnyH_take (i := 7) (v := ?_) rfl (by kernel_rfl) (by kernel_rfl) (by kernel_rfl) (fun _ _ _ h => h) (Or.inl ⟨by rfl, ?_⟩) (by assumption) ?_
        rotate_left 1
        · (intro w hSw; (try dsimp only at hSw); go_simp; try with_reducible rfl)
        try simp only [Act.put, List.setIfInBounds_toArray, List.set_cons_zero, List.set_cons_succ, List.getElem_toArray, List.getElem_cons_zero, List.getElem_cons_succ]
        refine wpAnyH_take (i := 8) (v := ?_) rfl (by kernel_rfl) (by kernel_rfl) (by kernel_rfl) (fun _ _ _ h => h) (Or.inl ⟨by rfl, ?_⟩) (by assumption) ?_
        rotate_left 1
        · (intro w hSw; (try dsimp only at hSw); go_simp; try with_reducible rfl)
        try simp only [Act.put, List.setIfInBounds_toArray, List.set_cons_zero, List.set_cons_succ, List.getElem_toArray, List.getElem_cons_zero, List.getElem_cons_succ]
        refine wpAnyH_take (i := 9) (v := ?_) rfl (by kernel_rfl) (by kernel_rfl) (by kernel_rfl) (fun _ _ _ h => h) (Or.inl ⟨by rfl, ?_⟩) (by assumption) ?_
        rotate_left 1
        · (intro w hSw; (try dsimp only at hSw); go_simp; try with_reducible rfl)
        try simp only [Act.put, List.setIfInBounds_toArray, List.set_cons_zero, List.set_cons_succ, List.getElem_toArray, List.getElem_cons_zero, List.getElem_cons_succ]
        refine wpAnyH_ready (rs := [3]) (by kernel_rfl) (by simp) ?_
        refine AllReadyH.cons rfl (fun K hK => ?_) AllReadyH.nil
        go_simp
        refine hK.out _ _ ?_ (fun hHeld => ?_)
        · (try dsimp only); (first | exact ⟨v0, v4⟩ | exact ⟨ad_cell _ v0, ad_cell _ v4⟩ | exact ⟨t0, t1⟩)
        clear hK K
        try simp only [Act.put, List.setIfInBounds_toArray, List.set_cons_zero, List.set_cons_succ, List.getElem_toArray, List.getElem_cons_zero, List.getElem_cons_succ]
        refine wpAnyH_ready (rs := [10]) (by kernel_rfl) (by simp) ?_
        refine AllReadyH.cons rfl (fun K hK => ?_) AllReadyH.nil
        refine step_append_lies _ (by rfl) _ _ _ (by rfl) wc.heap.size 35 i1 _ 2 16 Tryd.underlying28 HI1.out hy0' hy1 hy2 rfl (by omega) (.slice (some ⟨wc.heap.size, 0, none⟩) 0 0) 0 [] (by rfl) (own_empty (new_heap _ _ _ rfl) (Nat.le_refl _)) ⟨g5, 0, none⟩ (1 + L.length) cap5 (insC (dropI :: L)) (by rfl) (by rw [insC_len, HLX.out]) (ins_news HRX.out (by repeat (first | exact Below.refl _ _ | refine up_drew ?_ | refine up_alloc ?_ _))) (insC_one _) (by omega) (by unfold maxLen; omega) (by omega) (by simp <;> omega) (wc.heap.size + 1) (by simp) ?_; intro g6 cap6 w5 hown5 hgrow5 hat5 hlt5; have hB6 := grown_keep (w3 := wc) (g := wc.heap.size) hgrow5 (by repeat (first | exact Below.refl _ _ | refine up_drew ?_ | refine up_alloc ?_ _)) (by omega); have t0 := (up_cell hB6 _ _ (by omega)).trans v0; have t1 := (up_cell hB6 _ _ (by omega)).trans v4; have t3 := (up_frozen hB6 gg (k * 5 + 4) (by omega)).trans f4
        refine hK.out _ _ ?_ (fun hHeld => ?_)
        · (try dsimp only); (first | exact ⟨v0, v4⟩ | exact ⟨ad_cell _ v0, ad_cell _ v4⟩ | exact ⟨t0, t1⟩)
        clear hK K
        try simp only [Act.put, List.setIfInBounds_toArray, List.set_cons_zero, List.set_cons_succ, List.getElem_toArray, List.getElem_cons_zero, List.getElem_cons_succ]
        refine wpAnyH_take (i := 11) (v := ?_) rfl (by kernel_rfl) (by kernel_rfl) (by kernel_rfl) (fun _ _ _ h => h) (Or.inl ⟨by rfl, ?_⟩) (by assumption) ?_
        rotate_left 1
        · (intro w hSw; (try dsimp only at hSw); go_simp; try with_reducible rfl)
        try simp only [Act.put, List.setIfInBounds_toArray, List.set_cons_zero, List.set_cons_succ, List.getElem_toArray, List.getElem_cons_zero, List.getElem_cons_succ]
        refine wpAnyH_take (i := 12) (v := ?_) rfl (by kernel_rfl) (by kernel_rfl) (by kernel_rfl) (fun _ _ _ h => h) (Or.inl ⟨by rfl, ?_⟩) (by assumption) ?_
        rotate_left 1
        · (intro w hSw; (try dsimp only at hSw); go_simp; try with_reducible rfl)
        try simp only [Act.put, List.setIfInBounds_toArray, List.set_cons_zero, List.set_cons_succ, List.getElem_toArray, List.getElem_cons_zero, List.getElem_cons_succ]
        refine wpAnyH_done (by kernel_rfl) ?_ _
        change wpList _ _ _ _ _ _
        go_wp2_with fail
        go_meet
        exact ⟨g6, cap6, (HN5.out.later hB6).reset hkk _, own_ins (own_set2 (by simpa using hown5) z5g) (by simp; omega) (by omega) (h64_cons ⟨by constructor <;> decide, by constructor <;> decide⟩ HI64.out)⟩
      case rest =>
        obtain ⟨g6, cap6, hn6, hri6⟩ := hcut
        have HN6 := Lib.hid hn6
        have HR6 := Lib.hid hri6
        have zn6 := HN6.out.below.size
        obtain ⟨z6b, z6g⟩ := HN6.out.lts
        have HB6 := Lib.hid (HB3.out.trans (HN6.out.below.mono HB3.out.size))
        have a0 := HN6.out.nc0
        have a1 := HN6.out.nc1
        clear hn6 hri6 v0 v4 f4
        go_wp2_with fail
        have hrep : RepMdl wc (.agg #[.slice (some ⟨gg, 0, none⟩) m.codes.length cap, .slice s1 m.texts.length cap1]) (m.at k (dropI :: L)) :=
          HN6.out.rep_at hkk rfl h64 (fun i hi => (HC.out i hi).later HB6.out) HR6.out (HTX.out.later HB6.out)
        have HOP := Lib.hid (op_cons (x := dropI) (L := L) rfl (by rw [← HL.out]; exact (rightCd_parts ((rightM_parts HMC.out).2.2.2 k hkk)).2.2.2.2.2.2.2))
        refine (check_any _ _ _ hrep (HG.out.below HB6.out)).mono ?_
        rintro x w7 ⟨y1, rfl, hy1', hb7⟩
        have e1 := at_falls HMC.out hkk (by rw [HLX.out]; exact hbl2) HOP.out (drop_unsafe _ _ _) hy1'
        subst e1
        have HB7 := Lib.hid (up_trans HB6.out hb7)
        have HN7 := Lib.hid (HN6.out.later hb7)
        have zn7 := HN7.out.below.size
        obtain ⟨z7b, z7g⟩ := HN7.out.lts
        have b0 := HN7.out.nc0
        have b1 := HN7.out.nc1
        obtain ⟨_, _, _, _, b4⟩ := HN7.out.row k hkk
        rw [if_pos rfl] at b4
        have f4 : w7.frozen? ⟨gg, k * 5 + 4, none⟩ = false := by
          obtain ⟨_, h⟩ := HN7.out.gobj
          exact frozen_of h _
        clear hy1' hb7 a0 a1 hrep
        go_wp2_with fail
        have HN8 := Lib.hid (HN7.out.reset hkk (.slice none 0 0))
        have HB8 := Lib.hid (HB3.out.trans (HN8.out.below.mono HB3.out.size))
        have hrep : RepMdl (w7.setCell ⟨gg, k * 5 + 4, none⟩ (.slice none 0 0)) (.agg #[.slice (some ⟨gg, 0, none⟩) m.codes.length cap, .slice s1 m.texts.length cap1]) (m.at k []) :=
          HN8.out.rep_at hkk rfl h64 (fun i hi => (HC.out i hi).later HB8.out) (ins_nil _) (HTX.out.later HB8.out)
        refine (check_any _ _ _ hrep (HG.out.below HB8.out)).mono ?_
        rintro x w9 ⟨y2, rfl, hy2', hb9⟩
        have e2 := at_falls HMC.out hkk (Nat.zero_le _) (fun i hi => by simp at hi) (nil_unsafe _ _) hy2'
        subst e2
        have HB9 := Lib.hid (up_trans HB8.out hb9)
        have HN9 := Lib.hid (HN8.out.later hb9)
        have g0 := (up_cell HN9.out.below _ _ (by omega)).trans HQ0.out
        have g1 := (up_cell HN9.out.below _ _ (by omega)).trans HQ1.out
        clear hy2' hb9 b0 b1 b4 f4 hrep
        go_wp2_with fail
        refine (rright_right (HM.out.later HB9.out) HMC.out).mono ?_
        rintro x w10 ⟨rfl, hb10⟩
        have HB10 := Lib.hid (up_trans HB9.out hb10)
        clear hb10
        go_wp2_with fail
        go_ret
        exact ⟨rfl, HB10.out⟩
end Go.Proofs.YtgogjdpjegfecaaDoor
