/-
  The verifier's state: how it lies in memory, and what its methods do to it.
-/
import Derived.Test.YtmdceokmpjcllaaGreatDoorModule
import Derived.Test.YtmdceokmpjcllaaGreatDoorSplit
import Derived.Deep.RegionLawGrows
namespace Go.Proofs.YtmdceokmpjcllaaGreatDoor
open Go.RowKit
attribute [local go_sem ↓] Go.wp_at_zero Go.wp_at_succ

/-- a list of types that nobody writes any more: its array is one of types alone -/
def StkAt (w : World) (v : Value) (l : List Int) : Prop :=
  ∃ s0 cap, v = .slice s0 l.length cap ∧ l.length ≤ cap ∧ cap ≤ maxLen ∧ (s0 = none → cap = 0) ∧
    (0 < l.length → ∃ b off arr fz, s0 = some ⟨b, off, none⟩ ∧ w.heap[b]? = some (.cells arr 28 fz) ∧ ∀ i, i < l.length → w.cell? ⟨b, off + i, none⟩ = some (.int .i64 (l.getD i 0))) ∧ ∀ i, i64 (l.getD i 0)
/-- a state, in block k -/
structure StAt (w : World) (k : Nat) (st : List Int) (sl : Nat → Int) : Prop where
  obj : ∃ arr, w.heap[k]? = some (.cells arr 110 (0, 0))
  top : ∃ sv, w.cell? ⟨k, 0, none⟩ = some sv ∧ StkAt w sv st
  slot : ∀ j, j < 256 → w.cell? ⟨k, 1 + j, none⟩ = some (.int .i64 (sl j)) ∧ i64 (sl j)
theorem frozen_of {w : World} {k : Nat} {arr : Array Value} {t : TypeId} (h : w.heap[k]? = some (.cells arr t (0, 0))) (j : Nat) : w.frozen? ⟨k, j, none⟩ = false := by simp [World.frozen?, h]

/-- only block k may have turned, and new ones -/
def On (k : Nat) (w w' : World) : Prop := w.grownBy w' (some k)

theorem On.refl (k : Nat) (w : World) : On k w w := ⟨rfl, rfl, rfl, Nat.le_refl _, fun _ _ _ => rfl⟩
theorem On.trans {k : Nat} {a b c : World} (h : On k a b) (g : On k b c) : On k a c :=
  ⟨g.os.trans h.os, g.tape.trans h.tape, g.output.trans h.output, Nat.le_trans h.size g.size, fun i hi hne => (g.block i (Nat.lt_of_lt_of_le hi h.size) hne).trans (h.block i hi hne)⟩
theorem On.of_below {k : Nat} {a b : World} (h : Below a.heap.size a b) : On k a b := ⟨h.os, h.tape, h.output, h.size, fun i hi _ => h.block i hi⟩
theorem On.of_none {k : Nat} {a b : World} (h : a.grownBy b none) : On k a b := ⟨h.os, h.tape, h.output, h.size, fun i hi _ => h.block i hi (by simp)⟩
theorem On.drewN {k : Nat} {a b : World} (h : On k a b) (n : Nat) : On k a (b.drewN n) := ⟨h.os, h.tape, h.output, h.size, h.block⟩
theorem On.set {k : Nat} {a b : World} (h : On k a b) (j : Nat) (u : Value) : On k a (b.setCell ⟨k, j, none⟩ u) :=
  ⟨h.os, h.tape, h.output, by simpa [World.setCell] using h.size, fun i hi hne => (Below.heap_setCell b ⟨k, j, none⟩ u i (fun e => hne (by rw [e]))).trans (h.block i hi hne)⟩

theorem StkAt.keep {w w' : World} {v : Value} {l : List Int} (h : StkAt w v l) (hh : ∀ (b : Nat) (arr : Array Value) (fz : Nat × Nat), w.heap[b]? = some (Obj.cells arr 28 fz) → w'.heap[b]? = w.heap[b]?) : StkAt w' v l := by
  obtain ⟨s0, cap, h1, h2, h3, h4, h5, h6⟩ := h
  refine ⟨s0, cap, h1, h2, h3, h4, fun h0 => ?_, h6⟩
  obtain ⟨b, off, arr, fz, q1, q2, q3⟩ := h5 h0
  have hb := hh b arr fz q2
  exact ⟨b, off, arr, fz, q1, hb.trans q2, fun i hi => (World.cell?_of_block (w := w) hb).trans (q3 i hi)⟩
theorem On.stk {k : Nat} {w w' : World} {v : Value} {l : List Int} (h : On k w w') (hk : ∃ arr, w.heap[k]? = some (.cells arr 110 (0, 0))) (s : StkAt w v l) : StkAt w' v l :=
  s.keep fun b arr fz hb => h.block b (lt_of_block hb) (fun e => by
    obtain ⟨arr', hk⟩ := hk
    injection e with e
    subst e
    rw [hk] at hb
    injection hb with hb
    injection hb with _ hb
    exact absurd hb (by decide))
theorem On.obj {k k' : Nat} {w w' : World} {o : Obj} (h : On k w w') (hne : k' ≠ k) (ho : w.heap[k']? = some o) : w'.heap[k']? = some o :=
  (h.block k' (lt_of_block ho) (fun e => hne (by injection e))).trans ho
/-- one more type on the top of the stack, and such -/
theorem StAt.setTop {w : World} {k : Nat} {st l : List Int} {sl : Nat → Int} {v : Value} (h : StAt w k st sl) (hv : StkAt w v l) : StAt (w.setCell ⟨k, 0, none⟩ v) k l sl := by
  obtain ⟨⟨arr, ho⟩, ⟨sv, hc, hs⟩, hsl⟩ := h
  have hlt := lt_of_block ho
  have hon : On k w (w.setCell ⟨k, 0, none⟩ v) := (On.refl k w).set 0 v
  refine ⟨?_, ⟨v, cell_set_eq _ hc, hon.stk ⟨arr, ho⟩ hv⟩, fun j hj => ?_⟩
  · have h' : w.heap[k] = .cells arr 110 (0, 0) := by simpa [Array.getElem?_eq_getElem hlt] using ho
    refine ⟨arr.setIfInBounds 0 v, ?_⟩
    show (w.heap.modify k _)[k]? = _
    rw [Array.getElem?_modify, if_pos rfl, ho]
    rfl
  · rw [cell_set_ne _ _ (.inr (by omega))]
    exact hsl j hj
theorem StAt.later {w w' : World} {k : Nat} {st : List Int} {sl : Nat → Int} (h : StAt w k st sl) (hk : ∀ b, b < w.heap.size → w'.heap[b]? = w.heap[b]?) : StAt w' k st sl := by
  obtain ⟨⟨arr, ho⟩, ⟨sv, hc, hs⟩, hsl⟩ := h
  have hlt := lt_of_block ho
  have hb := hk k hlt
  exact ⟨⟨arr, hb.trans ho⟩, ⟨sv, (World.cell?_of_block (w := w) hb).trans hc, hs.keep fun b _ _ q => hk b (lt_of_block q)⟩, fun j hj => ⟨(World.cell?_of_block (w := w) hb).trans (hsl j hj).1, (hsl j hj).2⟩⟩
theorem StAt.below {w w' : World} {k : Nat} {st : List Int} {sl : Nat → Int} (h : StAt w k st sl) (hb : Below w.heap.size w w') : StAt w' k st sl := h.later hb.block
theorem StAt.drewN {w : World} {k : Nat} {st : List Int} {sl : Nat → Int} (h : StAt w k st sl) (n : Nat) : StAt (w.drewN n) k st sl := h.later fun _ _ => rfl

theorem stk_get {w : World} {s0 : Option Addr} {st : List Int} (h : 0 < st.length → ∃ b off arr fz, s0 = some ⟨b, off, none⟩ ∧ w.heap[b]? = some (.cells arr 28 fz) ∧ ∀ i, i < st.length → w.cell? ⟨b, off + i, none⟩ = some (.int .i64 (st.getD i 0)))
    (o : Obj) : ∀ a, s0 = some a → ∀ j u, (st.map (Value.int .i64))[j]? = some u → (w.alloc o).drew.cell? (a.add j) = some u := by
  intro a ha j u hj
  rw [List.getElem?_map, Option.map_eq_some_iff] at hj
  obtain ⟨x, hx, rfl⟩ := hj
  have hjl : j < st.length := (List.getElem?_eq_some_iff.1 hx).1
  obtain ⟨b, off, arr, fz, q1, q2, q3⟩ := h (by omega)
  rw [ha] at q1
  injection q1 with q1
  subst q1
  rw [Go.WideShapes.add_plain]
  have q4 := q3 j hjl
  rw [List.getD_eq_getElem?_getD, hx] at q4
  have hb := lt_of_block q2
  show (w.alloc o).cell? _ = _
  rw [World.cell?_alloc_old _ _ _ (by simp; omega)]
  exact q4
/-- what append leaves -/
theorem stk_new {w' : World} {base : Nat} {v' : Value} {st : List Int} {t : Int} (h : w'.ownsRow base 28 1 v' (st.length + 1) (st.map (Value.int .i64) ++ [.int .i64 t])) (hcap : st.length ≤ 900000) (h6 : ∀ i, i64 (st.getD i 0)) (ht : i64 t) :
    ∃ g cp, v' = .slice (some ⟨g, 0, none⟩) (st.length + 1) cp ∧ StkAt w' v' (st ++ [t]) := by
  have h' := h
  rcases h.2 with ⟨_, h0⟩ | ⟨g, cap, cur, rfl, hg, hh, hc1, hc2, _⟩
  · exact absurd h0 (by omega)
  · refine ⟨g, cap, rfl, ⟨_, cap, by simp, by simp; omega, hc2, (fun e => by cases e), fun _ => ⟨g, 0, cur, (0, 0), rfl, hh, fun i hi => ?_⟩, fun i => ?_⟩⟩
    · have hi' : i < st.length + 1 := by simpa using hi
      rw [Nat.zero_add, World.ownsRow.cellAt h' i (by omega), List.getD_eq_getElem?_getD]
      by_cases e : i < st.length
      · rw [List.getElem?_append_left (by simpa using e), List.getElem?_append_left e, List.getElem?_map, List.getElem?_eq_getElem e]
        rfl
      · obtain rfl : i = st.length := by omega
        simp
    · rw [List.getD_eq_getElem?_getD]
      by_cases e : i < st.length
      · rw [List.getElem?_append_left e, ← List.getD_eq_getElem?_getD]; exact h6 i
      · by_cases e2 : i = st.length
        · subst e2; simpa using ht
        · rw [List.getElem?_append_right (by omega)]
          have : ([t] : List Int)[i - st.length]? = none := by simp; omega
          rw [this]; exact h6 st.length |> fun _ => by constructor <;> decide

theorem gn_cell {w w' : World} (h : w.grownBy w' none) {a : Addr} {u : Value} (hc : w.cell? a = some u) : w'.cell? a = some u := by
  obtain ⟨b, o, s⟩ := a
  have hs : s = none := World.cell?_spot hc
  subst hs
  exact (World.cell?_of_block (w := w) (h.block b (lt_of_cell hc) (by simp))).trans hc
theorem gn_heap {w w' : World} (h : w.grownBy w' none) {b : Nat} {o : Obj} (hc : w.heap[b]? = some o) : w'.heap[b]? = some o := (h.block b (lt_of_block hc) (by simp)).trans hc
theorem ad_cell {w : World} {a : Addr} {u : Value} (o : Obj) (hc : w.cell? a = some u) : (w.alloc o).drew.cell? a = some u := by
  show (w.alloc o).cell? a = _
  rw [World.cell?_alloc_old _ _ _ (fun e => World.new_ne w _ hc e.symm)]
  exact hc
theorem ad_heap {w : World} {b : Nat} {q : Obj} (o : Obj) (hc : w.heap[b]? = some q) : (w.alloc o).drew.heap[b]? = some q := by
  show (w.alloc o).heap[b]? = _
  rw [Below.heap_alloc _ _ _ (lt_of_block hc)]
  exact hc

theorem grown_new {w w1 : World} {o : Obj} (h : (w.alloc o).drew.grownBy w1 none) : Below w.heap.size w w1 :=
  have b := ((Below.refl w.heap.size w).alloc (Nat.le_refl _) o).drew
  b.grown h b.size (fun _ e => by cases e)

theorem infoTy : (Tryz.prog.info? 28).map (fun i => (i.zero, i.size, i.bytes)) = some (some (.int .i64 0), 1, 8) := by kernel_rfl

set_option maxRecDepth 100000 in
set_option maxHeartbeats 1000000 in
theorem push_any (k : Nat) (st : List Int) (sl : Nat → Int) (t : Int) (w : World) (h : StAt w k st sl) (hlen : st.length ≤ 900000) (ht : i64 t) :
    Calls Tryz.prog 91 #[.pointer (some ⟨k, 0, none⟩), .int .i64 t] w fun e w' => e = .returned (.bool true) ∧ StAt w' k (st ++ [t]) sl ∧ On k w w' := by
  have HW := Lib.hid h
  obtain ⟨⟨arr, hobj⟩, ⟨sv, hc0, s0, cap, rfl, hlc, hcap, hnil, hrow, h64⟩, hslot⟩ := h
  have hfz : w.frozen? ⟨k, 0, none⟩ = false := frozen_of hobj 0
  have hne := World.new_ne w _ hc0
  have hkl := lt_of_block hobj
  obtain ⟨i0, hi, hz0, hz1, hz2⟩ := info_parts infoTy
  have HI := Lib.hid hi
  have HZ := Lib.hid (And.intro hz0 (And.intro hz1 hz2))
  have HR := Lib.hid hrow
  have HS := Lib.hid hslot
  have HO := Lib.hid hobj
  have H6 := Lib.hid h64
  have HN := Lib.hid hnil
  clear hi hz0 hz1 hz2 hrow hslot hobj h64 hnil
  have hn0 : (0 : Int) ≤ (st.length : Int) := by omega
  have hn1 : (st.length : Int) ≤ (cap : Int) := by omega
  go_enter Tryz.func91, Tryz.ntmps91
  go_wp2_with fail
  refine wp_region_split (S := (fun w' => w'.cell? ⟨k, 0, none⟩ = some (.slice s0 st.length cap) ∧ w'.frozen? ⟨k, 0, none⟩ = false)) 19 (by kernel_rfl) (by kernel_rfl) (by (first | exact ⟨hc0, hfz⟩ | exact ⟨ad_cell _ hc0, frozen_of (ad_heap _ HO.out) 0⟩ | exact ⟨e1, e2⟩)) (fun hHeld => ?_)
  simp only [List.take_succ_cons, List.take_zero, List.drop_succ_cons, List.drop_zero]
  refine wpAnyH_take (i := 0) (v := ?_) rfl (by kernel_rfl) (by kernel_rfl) (by kernel_rfl) (fun _ _ _ h => h) (Or.inl ⟨by rfl, ?_⟩) (by assumption) ?_
  rotate_left 1
  · (intro w hSw; (try dsimp only at hSw); go_simp; try with_reducible rfl)
  try simp only [Act.put, List.setIfInBounds_toArray, List.set_cons_zero, List.set_cons_succ, List.getElem_toArray, List.getElem_cons_zero]
  refine wpAnyH_take (i := 1) (v := ?_) rfl (by kernel_rfl) (by kernel_rfl) (by kernel_rfl) (fun _ _ _ h => h) (Or.inl ⟨by rfl, ?_⟩) (by assumption) ?_
  rotate_left 1
  · (intro w hSw; (try dsimp only at hSw); go_simp; try with_reducible rfl)
  try simp only [Act.put, List.setIfInBounds_toArray, List.set_cons_zero, List.set_cons_succ, List.getElem_toArray, List.getElem_cons_zero, List.getElem_cons_succ]
  refine wpAnyH_take (i := 2) (v := ?_) rfl (by kernel_rfl) (by kernel_rfl) (by kernel_rfl) (fun _ _ _ h => h) (Or.inl ⟨by rfl, ?_⟩) (by assumption) ?_
  rotate_left 1
  · (intro w hSw; (try dsimp only at hSw); go_simp; try with_reducible rfl)
  try simp only [Act.put, List.setIfInBounds_toArray, List.set_cons_zero, List.set_cons_succ, List.getElem_toArray, List.getElem_cons_zero, List.getElem_cons_succ]
  refine wpAnyH_take (i := 3) (v := ?_) rfl (by kernel_rfl) (by kernel_rfl) (by kernel_rfl) (fun _ _ _ h => h) (Or.inl ⟨by rfl, ?_⟩) (by assumption) ?_
  rotate_left 1
  · (intro w hSw; (try dsimp only at hSw); go_simp; try with_reducible rfl)
  try simp only [Act.put, List.setIfInBounds_toArray, List.set_cons_zero, List.set_cons_succ, List.getElem_toArray, List.getElem_cons_zero, List.getElem_cons_succ]
  refine wpAnyH_take (i := 4) (v := ?_) rfl (by kernel_rfl) (by kernel_rfl) (by kernel_rfl) (fun _ _ _ h => h) (Or.inl ⟨by rfl, ?_⟩) (by assumption) ?_
  rotate_left 1
  · (intro w hSw; (try dsimp only at hSw); go_simp; try with_reducible rfl)
  try simp only [Act.put, List.setIfInBounds_toArray, List.set_cons_zero, List.set_cons_succ, List.getElem_toArray, List.getElem_cons_zero, List.getElem_cons_succ]
  refine wpAnyH_take (i := 5) (v := ?_) rfl (by kernel_rfl) (by kernel_rfl) (by kernel_rfl) (fun _ _ _ h => h) (Or.inl ⟨by rfl, ?_⟩) (by assumption) ?_
  rotate_left 1
  · (intro w hSw; (try dsimp only at hSw); go_simp; try with_reducible rfl)
  try simp only [Act.put, List.setIfInBounds_toArray, List.set_cons_zero, List.set_cons_succ, List.getElem_toArray, List.getElem_cons_zero, List.getElem_cons_succ]
  refine wpAnyH_take (i := 6) (v := ?_) rfl (by kernel_rfl) (by kernel_rfl) (by kernel_rfl) (fun _ _ _ h => h) (Or.inl ⟨by rfl, ?_⟩) (by assumption) ?_
  rotate_left 1
  · (intro w hSw; (try dsimp only at hSw); go_simp; try with_reducible rfl)
  try simp only [Act.put, List.setIfInBounds_toArray, List.set_cons_zero, List.set_cons_succ, List.getElem_toArray, List.getElem_cons_zero, List.getElem_cons_succ]
  refine wpAnyH_take (i := 7) (v := ?_) rfl (by kernel_rfl) (by kernel_rfl) (by kernel_rfl) (fun _ _ _ h => h) (Or.inl ⟨by rfl, ?_⟩) (by assumption) ?_
  rotate_left 1
  · (intro w hSw; (try dsimp only at hSw); go_simp; try with_reducible rfl)
  try simp only [Act.put, List.setIfInBounds_toArray, List.set_cons_zero, List.set_cons_succ, List.getElem_toArray, List.getElem_cons_zero, List.getElem_cons_succ]
  refine wpAnyH_take (i := 8) (v := ?_) rfl (by kernel_rfl) (by kernel_rfl) (by kernel_rfl) (fun _ _ _ h => h) (Or.inl ⟨by rfl, ?_⟩) (by assumption) ?_
  rotate_left 1
  · (intro w hSw; (try dsimp only at hSw); go_simp; try with_reducible rfl)
  try simp only [Act.put, List.setIfInBounds_toArray, List.set_cons_zero, List.set_cons_succ, List.getElem_toArray, List.getElem_cons_zero, List.getElem_cons_succ]
  refine wpAnyH_take (i := 9) (v := ?_) rfl (by kernel_rfl) (by kernel_rfl) (by kernel_rfl) (fun _ _ _ h => h) (Or.inl ⟨by rfl, ?_⟩) (by assumption) ?_
  rotate_left 1
  · (intro w hSw; (try dsimp only at hSw); go_simp; try with_reducible rfl)
  try simp only [Act.put, List.setIfInBounds_toArray, List.set_cons_zero, List.set_cons_succ, List.getElem_toArray, List.getElem_cons_zero, List.getElem_cons_succ]
  refine wpAnyH_take (i := 10) (v := ?_) rfl (by kernel_rfl) (by kernel_rfl) (by kernel_rfl) (fun _ _ _ h => h) (Or.inl ⟨by rfl, ?_⟩) (by assumption) ?_
  rotate_left 1
  · (intro w hSw; (try dsimp only at hSw); go_simp; try with_reducible rfl)
  try simp only [Act.put, List.setIfInBounds_toArray, List.set_cons_zero, List.set_cons_succ, List.getElem_toArray, List.getElem_cons_zero, List.getElem_cons_succ]
  refine wpAnyH_take (i := 11) (v := ?_) rfl (by kernel_rfl) (by kernel_rfl) (by kernel_rfl) (fun _ _ _ h => h) (Or.inl ⟨by rfl, ?_⟩) (by assumption) ?_
  rotate_left 1
  · (intro w hSw; (try dsimp only at hSw); go_simp; try with_reducible rfl)
  try simp only [Act.put, List.setIfInBounds_toArray, List.set_cons_zero, List.set_cons_succ, List.getElem_toArray, List.getElem_cons_zero, List.getElem_cons_succ]
  refine wpAnyH_take (i := 12) (v := ?_) rfl (by kernel_rfl) (by kernel_rfl) (by kernel_rfl) (fun _ _ _ h => h) (Or.inl ⟨by rfl, ?_⟩) (by assumption) ?_
  rotate_left 1
  · (intro w hSw; (try dsimp only at hSw); go_simp; try with_reducible rfl)
  try simp only [Act.put, List.setIfInBounds_toArray, List.set_cons_zero, List.set_cons_succ, List.getElem_toArray, List.getElem_cons_zero, List.getElem_cons_succ]
  refine wpAnyH_take (i := 13) (v := ?_) rfl (by kernel_rfl) (by kernel_rfl) (by kernel_rfl) (fun _ _ _ h => h) (Or.inl ⟨by rfl, ?_⟩) (by assumption) ?_
  rotate_left 1
  · (intro w hSw; (try dsimp only at hSw); go_simp; try with_reducible rfl)
  try simp only [Act.put, List.setIfInBounds_toArray, List.set_cons_zero, List.set_cons_succ, List.getElem_toArray, List.getElem_cons_zero, List.getElem_cons_succ]
  refine wpAnyH_take (i := 14) (v := ?_) rfl (by kernel_rfl) (by kernel_rfl) (by kernel_rfl) (fun _ _ _ h => h) (Or.inl ⟨by rfl, ?_⟩) (by assumption) ?_
  rotate_left 1
  · (intro w hSw; (try dsimp only at hSw); go_simp; try with_reducible rfl)
  try simp only [Act.put, List.setIfInBounds_toArray, List.set_cons_zero, List.set_cons_succ, List.getElem_toArray, List.getElem_cons_zero, List.getElem_cons_succ]
  refine wpAnyH_take (i := 15) (v := ?_) rfl (by kernel_rfl) (by kernel_rfl) (by kernel_rfl) (fun _ _ _ h => h) (Or.inl ⟨by rfl, ?_⟩) (by assumption) ?_
  rotate_left 1
  · (intro w hSw; (try dsimp only at hSw); go_simp; try with_reducible rfl)
  try simp only [Act.put, List.setIfInBounds_toArray, List.set_cons_zero, List.set_cons_succ, List.getElem_toArray, List.getElem_cons_zero, List.getElem_cons_succ]
  refine wpAnyH_take (i := 16) (v := ?_) rfl (by kernel_rfl) (by kernel_rfl) (by kernel_rfl) (fun _ _ _ h => h) (Or.inl ⟨by rfl, ?_⟩) (by assumption) ?_
  rotate_left 1
  · (intro w hSw; (try dsimp only at hSw); go_simp; try with_reducible rfl)
  try simp only [Act.put, List.setIfInBounds_toArray, List.set_cons_zero, List.set_cons_succ, List.getElem_toArray, List.getElem_cons_zero, List.getElem_cons_succ]
  refine wpAnyH_ready (rs := [17]) (by kernel_rfl) (by simp) ?_
  refine AllReadyH.cons rfl (fun K hK => ?_) AllReadyH.nil
  go_simp
  refine hK.out _ _ ?_ (fun hHeld => ?_)
  · (try dsimp only); (first | exact ⟨hc0, hfz⟩ | exact ⟨ad_cell _ hc0, frozen_of (ad_heap _ HO.out) 0⟩ | exact ⟨e1, e2⟩)
  clear hK K
  try simp only [Act.put, List.setIfInBounds_toArray, List.set_cons_zero, List.set_cons_succ, List.getElem_toArray, List.getElem_cons_zero, List.getElem_cons_succ]
  refine wpAnyH_ready (rs := [18]) (by kernel_rfl) (by simp) ?_
  refine AllReadyH.cons rfl (fun K hK => ?_) AllReadyH.nil
  (refine step_append_grows ?_ (.tmp 20) (.tmp 22) 27 ?_ 28 i0 (.int .i64 0) 1 8 Tryz.underlying27 HI.out HZ.out.1 HZ.out.2.1 HZ.out.2.2 rfl (Nat.zero_lt_succ 0) s0 st.length st.length (st.map (Value.int .i64)) ?_ ?_ ?_ ?_ ⟨w.heap.size, 0, none⟩ 1 1 [.int .i64 t] ?_ rfl ?_ ?_ ?_ ?_ ?_ ?_); (· rfl); (· rfl); (· first | rfl | simp [Act.eval]); (· intro e; have := HN.out e; omega); (· simp); (· exact stk_get HR.out _); (· first | rfl | simp [Act.eval]); (· exact cell_one_new _ _ _); (· intro u hu; simp at hu; subst hu; rfl); (· omega); (· unfold maxLen; omega); (· omega); (intro v' w1 hown hgrow; obtain ⟨g, cp, hv', hstk⟩ := stk_new hown hlen H6.out ht; subst hv'; have HSTK := Lib.hid hstk; have e1 := gn_cell hgrow (ad_cell _ hc0); have e2 := frozen_of (gn_heap hgrow (ad_heap _ HO.out)) 0; have HG := Lib.hid hgrow; clear hstk hown hgrow)
  refine hK.out _ _ ?_ (fun hHeld => ?_)
  · (try dsimp only); (first | exact ⟨hc0, hfz⟩ | exact ⟨ad_cell _ hc0, frozen_of (ad_heap _ HO.out) 0⟩ | exact ⟨e1, e2⟩)
  clear hK K
  try simp only [Act.put, List.setIfInBounds_toArray, List.set_cons_zero, List.set_cons_succ, List.getElem_toArray, List.getElem_cons_zero, List.getElem_cons_succ]
  refine wpAnyH_done (by kernel_rfl) ?_ _
  change wpList _ _ _ _ _ _
  go_wp2_with fail
  go_ret
  have hb := grown_new HG.out
  exact ⟨rfl, (HW.out.below hb).setTop HSTK.out, (On.of_below hb).set 0 _⟩
end Go.Proofs.YtmdceokmpjcllaaGreatDoor
