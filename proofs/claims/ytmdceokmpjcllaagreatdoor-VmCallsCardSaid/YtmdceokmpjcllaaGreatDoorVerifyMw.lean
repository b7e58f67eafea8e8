/-
  What an instruction that moves things does to a state: the model, and the one that stores.
-/
import Derived.Test.YtmdceokmpjcllaaGreatDoorVerifyN
namespace Go.Proofs.YtmdceokmpjcllaaGreatDoor
open Go.RowKit
attribute [local go_sem ↓] Go.wp_at_zero Go.wp_at_succ

/-- what is known ahead of an instruction -/
structure Sta where
  st : List Int
  sl : Nat → Int
def setSl (sl : Nat → Int) (j : Nat) (t : Int) : Nat → Int := fun i => if i = j then t else sl i
/-- what an instruction that moves things does; none: it fails -/
def movesS (nslots ntexts : Int) (i : Ins) (s : Sta) : Option Sta :=
  if i.op = 2 then some ⟨s.st ++ [1], s.sl⟩
  else if i.op = 3 then (if inB i.a 2 then some ⟨s.st ++ [2], s.sl⟩ else none)
  else if i.op = 4 then (if inB i.a ntexts then some ⟨s.st ++ [3], s.sl⟩ else none)
  else if i.op = 5 then (if inB i.a nslots && s.sl i.a.toNat != 0 then some ⟨s.st ++ [s.sl i.a.toNat], s.sl⟩ else none)
  else if i.op = 6 then (if decide (1 ≤ s.st.length) && inB i.a nslots then some ⟨s.st.take (s.st.length - 1), setSl s.sl i.a.toNat (s.st.getD (s.st.length - 1) 0)⟩ else none)
  else if 1 ≤ s.st.length then some ⟨s.st.take (s.st.length - 1), s.sl⟩ else none

def Says (k : Nat) (w : World) (r : Option Sta) : Ending → World → Prop := fun e w' =>
  e = .returned (.bool r.isSome) ∧ On k w w' ∧ ∀ s, r = some s → StAt w' k s.st s.sl

theorem On.cells {k : Nat} {a b : World} (h : On k a b) : (∀ c o, c ≠ k → c < a.heap.size → b.cell? ⟨c, o, none⟩ = a.cell? ⟨c, o, none⟩) ∧ a.heap.size ≤ b.heap.size :=
  ⟨fun c _ hc hl => World.cell?_of_block (w := a) (h.block c hl (fun e => hc (by injection e))), h.size⟩

theorem box3 {k : Nat} {w w1 : World} {b1 b2 : Obj} {arr : Array Value} {t : TypeId} (h : On k (((w.alloc b1).alloc b2).alloc (.cells arr t)) w1) (hk : w.heap.size + 1 + 1 ≠ k) (i : Nat) (u : Value) (hu : arr[i]? = some u) :
    w1.cell? ⟨w.heap.size + 1 + 1, i, none⟩ = some u :=
  (h.cells.1 _ _ hk (by rw [size_alloc, size_alloc, size_alloc]; omega)).trans (new_cell _ _ _ _ _ _ (by rw [size_alloc, size_alloc]) hu)
theorem old_cell {w : World} {c o : Nat} {u : Value} (b : Obj) (h : w.cell? ⟨c, o, none⟩ = some u) : (w.alloc b).cell? ⟨c, o, none⟩ = some u := by
  rw [World.cell?_alloc_old _ _ _ (fun e => World.new_ne w _ h e.symm)]
  exact h
theorem box2 {k : Nat} {w w1 : World} {b1 b3 : Obj} {arr : Array Value} {t : TypeId} (h : On k (((w.alloc b1).alloc (.cells arr t)).alloc b3) w1) (hk : w.heap.size + 1 ≠ k) (i : Nat) (u : Value) (hu : arr[i]? = some u) :
    w1.cell? ⟨w.heap.size + 1, i, none⟩ = some u :=
  (h.cells.1 _ _ hk (by rw [size_alloc, size_alloc, size_alloc]; omega)).trans (old_cell _ (new_cell _ _ _ _ _ _ (by rw [size_alloc]) hu))
theorem box1 {k : Nat} {w w1 : World} {b2 b3 : Obj} {arr : Array Value} {t : TypeId} (h : On k (((w.alloc (.cells arr t)).alloc b2).alloc b3) w1) (hk : w.heap.size ≠ k) (i : Nat) (u : Value) (hu : arr[i]? = some u) :
    w1.cell? ⟨w.heap.size, i, none⟩ = some u :=
  (h.cells.1 _ _ hk (by rw [size_alloc, size_alloc, size_alloc]; omega)).trans (old_cell _ (old_cell _ (new_cell _ _ _ _ _ _ rfl hu)))

/-- one slot is laid anew -/
theorem StAt.setSlot {w : World} {k j : Nat} {st : List Int} {sl : Nat → Int} {t : Int} (h : StAt w k st sl) (hj : j < 256) (ht : i64 t) : StAt (w.setCell ⟨k, 1 + j, none⟩ (.int .i64 t)) k st (setSl sl j t) := by
  obtain ⟨⟨arr, ho⟩, ⟨sv, hc, hs⟩, hsl⟩ := h
  have hon : On k w (w.setCell ⟨k, 1 + j, none⟩ (.int .i64 t)) := (On.refl k w).set (1 + j) _
  refine ⟨?_, ⟨sv, ?_, hon.stk ⟨arr, ho⟩ hs⟩, fun i hi => ?_⟩
  · refine ⟨arr.setIfInBounds (1 + j) (.int .i64 t), ?_⟩
    show (w.heap.modify k _)[k]? = _
    rw [Array.getElem?_modify, if_pos rfl, ho]
    rfl
  · rw [cell_set_ne _ _ (.inr (by omega))]
    exact hc
  · unfold setSl
    by_cases e : i = j
    · subst e
      rw [if_pos rfl]
      exact ⟨cell_set_eq _ (hsl i hi).1, ht⟩
    · rw [if_neg e, cell_set_ne _ _ (.inr (by omega))]
      exact hsl i hi

set_option maxRecDepth 100000 in
set_option maxHeartbeats 1000000 in
theorem moves_store (k : Nat) (s : Sta) (c : Cd) (m : Mdl) (a : Int) (v0 v1 v2 v3 v4 vm : Value) (w : World) (h : StAt w k s.st s.sl) (hlen : s.st.length ≤ 900000)
    (hc : RepCd w v0 v1 v2 v3 v4 c) (hm : RepMdl w vm m) (hsl : c.slots ≤ 256) :
    Calls Tryz.prog 88 #[.pointer (some ⟨k, 0, none⟩), .agg #[v0, v1, v2, v3, v4], vm, .agg #[.int .i64 6, .int .i64 a]] w (Says k w (movesS c.slots m.texts.length ⟨6, a⟩ s)) := by
  obtain ⟨st, sl⟩ := s
  dsimp only at h hlen ⊢
  have HW := Lib.hid h
  have hkl : k < w.heap.size := by obtain ⟨⟨_, q⟩, _⟩ := h; exact lt_of_block q
  obtain ⟨_, _, _, _, rfl, _, _, _⟩ := hc
  obtain ⟨u0, u1, rfl, _, hmt⟩ := hm
  obtain ⟨s1, cap1, d0, rfl, n1, _, _, _, _⟩ := hmt
  have hk0 : w.heap.size ≠ k := by omega
  have hk1 : w.heap.size + 1 ≠ k := by omega
  have hk2 : w.heap.size + 1 + 1 ≠ k := by omega
  clear h
  generalize c.slots = nsl at *
  generalize m.texts.length = ntx at *
  have HR : Hid (∀ x, inB a nsl = x → movesS nsl ntx ⟨6, a⟩ ⟨st, sl⟩ = if decide (1 ≤ st.length) && x then some ⟨st.take (st.length - 1), setSl sl a.toNat (st.getD (st.length - 1) 0)⟩ else none) := Lib.hid (fun x hx => by subst hx; rfl)
  have T1 := Lib.hid (fun (W : World) (hW : Below w.heap.size w W) => top_any k st sl 1 W (HW.out.below hW) (by omega))
  generalize movesS nsl ntx ⟨6, a⟩ ⟨st, sl⟩ = r at *
  go_enter Tryz.func88, Tryz.ntmps88
  go_wp2_with fail
  refine (T1.out _ (up_alloc (up_alloc (up_alloc (Below.refl _ _) _) _) _)).mono ?_
  rintro e w1 ⟨hon, hif⟩
  have q1 : w1.cell? ⟨w.heap.size + 1 + 1, 1, none⟩ = some (.int .i64 a) := box3 hon hk2 1 _ rfl
  have q2 : w1.cell? ⟨w.heap.size, 3, none⟩ = some (.int .i64 nsl) := box1 hon hk0 3 _ rfl
  by_cases h1 : 1 ≤ st.length
  · rw [if_pos h1] at hif
    obtain ⟨v, rfl, hv, hst⟩ := hif
    go_wp2_with fail
    refine (in_any _ _ _).mono ?_
    rintro e w2 ⟨rfl, rfl⟩
    have hr := HR.out _ rfl
    cases hq : inB a nsl
    · rw [hq] at hr
      simp only [Bool.and_false] at hr
      subst hr
      clear HR
      go_wp2_with fail
      go_ret
      exact ⟨rfl, (On.of_below (up_alloc (up_alloc (up_alloc (Below.refl _ _) _) _) _)).trans hon, fun s e => by cases e⟩
    · rw [hq] at hr
      have hbd : 0 ≤ a ∧ a < nsl := by simpa [inB] using hq
      obtain ⟨n, rfl⟩ := Int.eq_ofNat_of_zero_le hbd.1
      have hn : n < 256 := by omega
      simp only [h1, decide_true, Bool.and_self, if_true, Int.toNat_natCast] at hr
      subst hr
      have HT := Lib.hid hst
      have hlast : st.drop (st.length - 1) = [st.getD (st.length - 1) 0] := by
        rw [List.drop_eq_getElem_cons (by omega), List.getD_eq_getElem?_getD, List.getElem?_eq_getElem (by omega)]
        have e1 : st.length - 1 + 1 = st.length := by omega
        simp [e1]
      rw [hlast] at hv
      generalize hx : st.getD (st.length - 1) 0 = x at *
      obtain ⟨s0, cp, rfl, hv2, hv3, hv4, hv5, hv6⟩ := hv
      obtain ⟨b, off, arr, fz, rfl, hb1, hb2⟩ := hv5 (by simp)
      have hx64 : i64 x := hv6 0
      have hb0 := hb2 0 (by simp)
      simp only [Nat.add_zero, List.getD_cons_zero] at hb0
      have hsl1 := (hst.slot n hn).1
      have hfz : w2.frozen? ⟨k, 1 + n, none⟩ = false := by obtain ⟨arr, ho⟩ := hst.obj; exact frozen_of ho _
      have hn1 : (n : Int) < 256 := by omega
      have hn0 : (0 : Int) ≤ (n : Int) := by omega
      clear hv6 hb2 hv4 hv5 hst
      go_wp2_with fail
      go_region
      go_wp2_with fail
      go_ret
      exact ⟨rfl, (((On.of_below (up_alloc (up_alloc (up_alloc (Below.refl _ _) _) _) _)).trans hon).drewN 1).set _ _, fun s e => by injection e with e; subst e; exact (HT.out.drewN 1).setSlot hn hx64⟩
  · rw [if_neg h1] at hif
    obtain ⟨rfl, hst⟩ := hif
    have hr := HR.out _ rfl
    simp only [h1, decide_false, Bool.false_and] at hr
    subst hr
    clear HR
    go_wp2_with fail
    go_ret
    exact ⟨rfl, (On.of_below (up_alloc (up_alloc (up_alloc (Below.refl _ _) _) _) _)).trans hon, fun s e => by cases e⟩
end Go.Proofs.YtmdceokmpjcllaaGreatDoor
