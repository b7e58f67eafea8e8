/-
  The walk of VerifyRows.
-/
import Derived.Test.YtgogjdpjegfecaaDoorVerifyRowsP
import Derived.Deep.LoopGhost
namespace Go.Proofs.YtgogjdpjegfecaaDoor
open Go.RowKit
attribute [local go_sem ↓] Go.wp_at_zero Go.wp_at_succ

def insV (l : List Ins) : List Value := l.flatMap fun i => [.int .i64 i.op, .int .i64 i.a]
theorem insV_snoc (l : List Ins) (i : Ins) : insV (l ++ [i]) = insV l ++ [.int .i64 i.op, .int .i64 i.a] := by simp [insV]
theorem insV_at : ∀ (l : List Ins) (i : Nat), i < l.length → (insV l)[i * 2]? = some (.int .i64 (l.getD i default).op) ∧ (insV l)[i * 2 + 1]? = some (.int .i64 (l.getD i default).a)
  | [], i, h => by simp at h
  | x :: l, i, h => by
    have e : insV (x :: l) = .int .i64 x.op :: .int .i64 x.a :: insV l := rfl
    rw [e]
    cases i with
    | zero => exact ⟨rfl, rfl⟩
    | succ i =>
      have := insV_at l i (by simpa using h)
      rw [show (i + 1) * 2 = i * 2 + 1 + 1 by omega]
      simpa using this
theorem news_new (W : World) (x y : Value) : ∀ j u, ([x, y] : List Value)[j]? = some u → (W.alloc (.cells #[x, y] 35)).cell? ((⟨W.heap.size, 0, none⟩ : Addr).add j) = some u := by
  intro j u h
  rw [Go.WideShapes.add_plain, Nat.zero_add]
  exact new_cell _ _ _ _ _ _ rfl (by simpa using h)
theorem news_one (x y : Int) : ∀ u ∈ ([.int .i64 x, .int .i64 y] : List Value), u.oneCell' = true := by
  intro u hu
  simp at hu
  rcases hu with rfl | rfl <;> rfl
theorem infoIns : ∃ i, Tryd.prog.info? 35 = some i ∧ i.zero = some (.agg #[.int .i64 0, .int .i64 0]) ∧ i.size = 2 ∧ i.bytes = 16 := by
  have h : (Tryd.prog.info? 35).map (fun i => (i.zero, i.size, i.bytes)) = some (some (.agg #[.int .i64 0, .int .i64 0]), 2, 16) := by kernel_rfl
  obtain ⟨i, h1, h2⟩ := Option.map_eq_some_iff.1 h
  simp only [Prod.mk.injEq] at h2
  exact ⟨i, h1, h2.1, h2.2.1, h2.2.2⟩

/-- the function as it grows -/
structure RowInv (w1 W : World) (cb : Nat) (r : Int) (v : Value) (l : List Ins) : Prop where
  below : Below cb w1 W
  obj : ∃ arr, W.heap[cb]? = some (.cells arr 30 (0, 0))
  c0 : W.cell? ⟨cb, 0, none⟩ = some (.string ⟨#[102]⟩)
  c1 : W.cell? ⟨cb, 1, none⟩ = some (.slice none 0 0)
  c2 : W.cell? ⟨cb, 2, none⟩ = some (.int .i64 r)
  c3 : W.cell? ⟨cb, 3, none⟩ = some (.int .i64 0)
  c4 : W.cell? ⟨cb, 4, none⟩ = some v
  own : W.ownsRow (cb + 1) 35 2 v l.length (insV l)
theorem RowInv.lt {w1 W : World} {cb : Nat} {r : Int} {v : Value} {l : List Ins} (h : RowInv w1 W cb r v l) : cb < W.heap.size := by
  obtain ⟨_, q⟩ := h.obj
  exact lt_of_block q
theorem RowInv.ne {w1 W : World} {cb : Nat} {r : Int} {v : Value} {l : List Ins} (h : RowInv w1 W cb r v l) {b : Nat} (hb : b ≤ cb) : some b ≠ v.ownBlock := fun e => by
  have := (h.own.lt b e.symm).1
  omega
theorem RowInv.heap_grown {w1 W w' : World} {cb : Nat} {r : Int} {v : Value} {l : List Ins} {o : Obj} (h : RowInv w1 W cb r v l) (hg : (W.alloc o).grownBy w' v.ownBlock) {b : Nat} (hb : b ≤ cb) : w'.heap[b]? = W.heap[b]? := by
  have := h.lt
  rw [hg.block b (by rw [size_alloc]; omega) (h.ne hb)]
  exact Below.heap_alloc _ _ _ (by omega)
theorem RowInv.c4_grown {w1 W w' : World} {cb : Nat} {r : Int} {v : Value} {l : List Ins} {o : Obj} (h : RowInv w1 W cb r v l) (hg : (W.alloc o).grownBy w' v.ownBlock) : w'.cell? ⟨cb, 4, none⟩ = some v :=
  (World.cell?_of_block (w := W) (h.heap_grown hg (Nat.le_refl _))).trans h.c4
theorem RowInv.f4_grown {w1 W w' : World} {cb : Nat} {r : Int} {v : Value} {l : List Ins} {o : Obj} (h : RowInv w1 W cb r v l) (hg : (W.alloc o).grownBy w' v.ownBlock) : w'.frozen? ⟨cb, 4, none⟩ = false := by
  obtain ⟨arr, ho⟩ := h.obj
  exact frozen_of ((h.heap_grown hg (Nat.le_refl _)).trans ho) 4
theorem own_form {W : World} {base e s : Nat} {v : Value} {n : Nat} {xs : List Value} (h : W.ownsRow base e s v (n + 1) xs) : ∃ g cap, v = .slice (some ⟨g, 0, none⟩) (n + 1) cap := by
  rcases h.2 with ⟨_, q⟩ | ⟨g, cap, _, q, _⟩
  · omega
  · exact ⟨g, cap, q⟩
theorem own_set {W : World} {cb j : Nat} {u v : Value} {n : Nat} {xs : List Value} (h : W.ownsRow (cb + 1) 35 2 v n xs) : (W.setCell ⟨cb, j, none⟩ u).ownsRow (cb + 1) 35 2 v n xs := by
  refine ⟨h.1, ?_⟩
  rcases h.2 with q | ⟨g, cap, cur, q1, q2, q3, q4⟩
  · exact .inl q
  · exact .inr ⟨g, cap, cur, q1, q2, (setCell_heap _ _ _ _ (by show g ≠ cb; omega)).trans q3, q4⟩
theorem obj_set {W : World} {cb j : Nat} {u : Value} (h : ∃ arr, W.heap[cb]? = some (.cells arr 30 (0, 0))) : ∃ arr, (W.setCell ⟨cb, j, none⟩ u).heap[cb]? = some (.cells arr 30 (0, 0)) := by
  obtain ⟨a, h⟩ := h
  refine ⟨a.setIfInBounds j u, ?_⟩
  show (W.heap.modify cb _)[cb]? = _
  rw [Array.getElem?_modify, if_pos rfl, h]
  rfl
theorem RowInv.push {w1 W w' : World} {cb : Nat} {r : Int} {v v' : Value} {l : List Ins} {o : Obj} {op a : Int} (h : RowInv w1 W cb r v l) (hown : w'.ownsRow (cb + 1) 35 2 v' (l.length + 1) (insV l ++ [.int .i64 op, .int .i64 a]))
    (hg : (W.alloc o).grownBy w' v.ownBlock) : RowInv w1 (w'.setCell ⟨cb, 4, none⟩ v') cb r v' (l ++ [⟨op, a⟩]) := by
  have hc : ∀ j, w'.cell? ⟨cb, j, none⟩ = W.cell? ⟨cb, j, none⟩ := fun j => World.cell?_of_block (w := W) (h.heap_grown hg (Nat.le_refl _))
  have hlt := h.lt
  obtain ⟨arr, ho⟩ := h.obj
  refine ⟨?_, obj_set ⟨arr, (h.heap_grown hg (Nat.le_refl _)).trans ho⟩, ?_, ?_, ?_, ?_, cell_set_eq _ ((hc 4).trans h.c4), ?_⟩
  · refine (h.below.trans (b := W) (c := w') ⟨hg.os, hg.tape, hg.output, ?_, fun b hb => h.heap_grown hg (by omega)⟩).setCell (Nat.le_refl _) _
    have := hg.size
    rw [size_alloc] at this
    omega
  · rw [cell_set_ne _ _ (.inr (by omega)), hc]; exact h.c0
  · rw [cell_set_ne _ _ (.inr (by omega)), hc]; exact h.c1
  · rw [cell_set_ne _ _ (.inr (by omega)), hc]; exact h.c2
  · rw [cell_set_ne _ _ (.inr (by omega)), hc]; exact h.c3
  · rw [insV_snoc, List.length_append]
    exact own_set hown
theorem RowInv.setR {w1 W : World} {cb : Nat} {r : Int} {v : Value} {l : List Ins} (h : RowInv w1 W cb r v l) (x : Int) : RowInv w1 (W.setCell ⟨cb, 2, none⟩ (.int .i64 x)) cb x v l :=
  ⟨h.below.setCell (Nat.le_refl _) _, obj_set h.obj, by rw [cell_set_ne _ _ (.inr (by omega))]; exact h.c0, by rw [cell_set_ne _ _ (.inr (by omega))]; exact h.c1, cell_set_eq _ h.c2, by rw [cell_set_ne _ _ (.inr (by omega))]; exact h.c3, by rw [cell_set_ne _ _ (.inr (by omega))]; exact h.c4, own_set h.own⟩
theorem RowInv.rep {w1 W : World} {cb : Nat} {r : Int} {v : Value} {l : List Ins} (h : RowInv w1 W cb r v l) (hl : 0 < l.length) (hb : l.length ≤ 1000) (h64 : ∀ i, i64 (l.getD i default).op ∧ i64 (l.getD i default).a) (hr : i64 r) :
    RepMdl (W.alloc (.cells #[.string ⟨#[102]⟩, .slice none 0 0, .int .i64 r, .int .i64 0, v] 30)) (.agg #[.slice (some ⟨W.heap.size, 0, none⟩) 1 1, .slice none 0 0]) ⟨[⟨⟨#[102]⟩, [], r, 0, l⟩], []⟩ := by
  have hins : RepIns (W.alloc (.cells #[.string ⟨#[102]⟩, .slice none 0 0, .int .i64 r, .int .i64 0, v] 30)) v l := by
    have hown := h.own
    rcases hown.2 with ⟨_, h0⟩ | ⟨g, cap, cur, rfl, _, hh, hle, hm, _⟩
    · omega
    · refine ⟨_, cap, rfl, by unfold big; omega, hle, by unfold capOk; unfold maxLen at hm; omega, fun e => (by cases e), fun _ => ⟨g, 0, rfl, by rw [size_alloc]; have := lt_of_block hh; omega, fun i hi => ?_⟩, h64⟩
      obtain ⟨q1, q2⟩ := insV_at l i hi
      have r1 := World.ownsRow.cells hown (g := g) rfl _ _ q1
      have r2 := World.ownsRow.cells hown (g := g) rfl _ _ q2
      rw [Go.WideShapes.add_plain] at r1 r2
      exact ⟨old_cell _ r1, old_cell _ r2⟩
  exact ⟨_, _, rfl, codes_one (new_cell _ _ _ _ _ _ rfl rfl) (new_cell _ _ _ _ _ _ rfl rfl) (new_cell _ _ _ _ _ _ rfl rfl) (new_cell _ _ _ _ _ _ rfl rfl) (new_cell _ _ _ _ _ _ rfl rfl) ⟨rfl, (by unfold big; show (1 : Nat) ≤ _; omega), tys_nil _, rfl, rfl, hins, hr, (by constructor <;> simp)⟩, texts_nil _⟩
def nums (n : Nat) : List Ins := (List.range n).map fun (i : Nat) => (⟨2, i⟩ : Ins)
theorem all_i64 {l : List Ins} (h : ∀ x, x ∈ l → i64 x.op ∧ i64 x.a) : ∀ i, i64 (l.getD i default).op ∧ i64 (l.getD i default).a := by
  intro i
  rw [List.getD_eq_getElem?_getD]
  cases hq : l[i]? with
  | none => exact ⟨by constructor <;> decide, by constructor <;> decide⟩
  | some x => exact h x (List.mem_of_getElem? hq)
theorem base_i64 {n : Nat} (hn : n ≤ 255) : ∀ x, x ∈ nums n ++ List.replicate n (⟨17, 0⟩ : Ins) → i64 x.op ∧ i64 x.a := by
  intro x hx
  rcases List.mem_append.1 hx with hx | hx
  · unfold nums at hx
    obtain ⟨a, ha, rfl⟩ := List.mem_map.1 hx
    have := List.mem_range.1 ha
    exact ⟨⟨show (-9223372036854775808 : Int) ≤ 2 by decide, show (2 : Int) ≤ 9223372036854775807 by decide⟩, ⟨show (-9223372036854775808 : Int) ≤ (a : Int) by omega, show (a : Int) ≤ 9223372036854775807 by omega⟩⟩
  · obtain ⟨_, rfl⟩ := List.mem_replicate.1 hx
    exact ⟨by constructor <;> decide, by constructor <;> decide⟩
theorem row_i64_f {n : Nat} (hn : n ≤ 255) : ∀ i, i64 ((nums n ++ List.replicate n (⟨17, 0⟩ : Ins) ++ [(⟨18, 0⟩ : Ins)]).getD i default).op ∧ i64 ((nums n ++ List.replicate n (⟨17, 0⟩ : Ins) ++ [(⟨18, 0⟩ : Ins)]).getD i default).a := all_i64 fun x hx => by
  rcases List.mem_append.1 hx with hx | hx
  · exact base_i64 hn x hx
  · obtain rfl : x = ⟨18, 0⟩ := by simpa using hx
    exact ⟨by constructor <;> decide, by constructor <;> decide⟩
theorem row_i64_t {n : Nat} (hn : n ≤ 255) : ∀ i, i64 ((nums n ++ List.replicate n (⟨17, 0⟩ : Ins) ++ [(⟨2, 0⟩ : Ins)] ++ [(⟨18, 0⟩ : Ins)]).getD i default).op ∧ i64 ((nums n ++ List.replicate n (⟨17, 0⟩ : Ins) ++ [(⟨2, 0⟩ : Ins)] ++ [(⟨18, 0⟩ : Ins)]).getD i default).a := all_i64 fun x hx => by
  rcases List.mem_append.1 hx with hx | hx
  · rcases List.mem_append.1 hx with hx | hx
    · exact base_i64 hn x hx
    · obtain rfl : x = ⟨2, 0⟩ := by simpa using hx
      exact ⟨by constructor <;> decide, by constructor <;> decide⟩
  · obtain rfl : x = ⟨18, 0⟩ := by simpa using hx
    exact ⟨by constructor <;> decide, by constructor <;> decide⟩
theorem nums_succ (n : Nat) : nums (n + 1) = nums n ++ [⟨2, n⟩] := by simp [nums, List.range_succ]
theorem nums_len (n : Nat) : (nums n).length = n := by simp [nums]

set_option maxRecDepth 100000 in
set_option maxHeartbeats 8000000 in
theorem rows_any (n : Nat) (hn : n ≤ 255) (e r : Bool) (w : World) (hsg : Signs w) : Calls Tryd.prog 5 #[.int .u8 n, .bool e, .bool r] w fun x w' => x = .returned (.bool true) ∧ Below w.heap.size w w' := by
  have HG := Lib.hid hsg
  have HZ := Lib.hid infoIns
  go_enter Tryd.func5, Tryd.ntmps5
  go_wp2_with fail
  refine (head_any _ hsg).mono ?_
  rintro x w1 ⟨rfl, hb1⟩
  have HB1 := Lib.hid hb1
  clear hsg hb1
  go_wp2_with fail
  have HN : Hid (IntKind.i64.wrap (n : Int) = (n : Int)) := Lib.hid (IntWalk.i64_in _ (by omega))
  have hwn := HN.out
  go_loopg [9] n (fun g s9 W => ∃ (i : Nat) (v : Value), i + g = n ∧ s9 = .int .i64 i ∧ RowInv w1 W w1.heap.size 0 v (nums i))
  case atStart => exact ⟨0, .slice none 0 0, by omega, rfl, ⟨(Below.refl _ _).alloc (Nat.le_refl _) _, ⟨_, new_heap _ _ _ rfl⟩, new_cell _ _ _ _ _ _ rfl rfl, new_cell _ _ _ _ _ _ rfl rfl, new_cell _ _ _ _ _ _ rfl rfl, new_cell _ _ _ _ _ _ rfl rfl, new_cell _ _ _ _ _ _ rfl rfl, World.ownsRow_nil _ _ _ _⟩⟩
  case round =>
    obtain ⟨i, v, hi, rfl, hinv⟩ := hrel
    have HI := Lib.hid hinv
    cases gk with
    | zero =>
      obtain rfl : i = n := by omega
      have hd : ¬ ((i : Int) < (i : Int)) := by omega
      clear hi hinv
      go_wp2_with fail
      go_loopg [10] i (fun g s10 W => ∃ (j : Nat) (v : Value), j + g = i ∧ s10 = .int .i64 j ∧ RowInv w1 W w1.heap.size 0 v (nums i ++ List.replicate j (⟨17, 0⟩ : Ins)))
      case atStart => exact ⟨0, v, by omega, rfl, by simpa using HI.out⟩
      case round =>
        obtain ⟨j, v, hj, rfl, hinv⟩ := hrel
        have HI := Lib.hid hinv
        cases gk with
        | zero =>
          obtain rfl : j = i := by omega
          have hd2 : ¬ ((j : Int) < (j : Int)) := by omega
          have HLEN : Hid (j ≤ 255) := Lib.hid hn
          have HLN : Hid ((nums j ++ List.replicate j (⟨17, 0⟩ : Ins)).length ≤ 510) := Lib.hid (by rw [List.length_append, nums_len, List.length_replicate]; omega)
          clear hj hinv
          obtain ⟨LL, hLL⟩ : ∃ LL, LL = nums j ++ List.replicate j (⟨17, 0⟩ : Ins) := ⟨_, rfl⟩
          rw [← hLL] at HI HLN
          have HLL := Lib.hid hLL
          clear hLL
          cases e
          · cases r
            · have hc40 := HI.out.c4
              go_upto_region 13 with fail
              go_upto_region 15 with fail
              have hc4b := HI.out.c4
              have HB5 : Hid ((LL).length + 1 ≤ 1000) := Lib.hid (by have := HLN.out; omega)
              go_upto_region 16 with (refine wpList_append_own _ rfl _ _ _ rfl (w1.heap.size + 1) 35 HZ.out.choose (.agg #[.int .i64 0, .int .i64 0]) 2 16 Tryd.underlying28 HZ.out.choose_spec.1 HZ.out.choose_spec.2.1 HZ.out.choose_spec.2.2.1 HZ.out.choose_spec.2.2.2 rfl (by decide) _ (LL).length (insV (LL)) rfl (HI.out.own.alloc _) ⟨wr.heap.size, 0, none⟩ 1 1 [.int .i64 18, .int .i64 0] rfl rfl (news_new _ _ _) (news_one _ _) (by have := HB5.out; unfold maxLen; omega) (by have := HB5.out; omega) (by have := HI.out.lt; rw [size_alloc]; omega) ?_; intro v' w' hown hgrow _hnil; obtain ⟨g', cp', hv'⟩ := own_form hown; subst hv'; have HP := Lib.hid (HI.out.push hown hgrow); have c4' := HI.out.c4_grown hgrow; have f4' := HI.out.f4_grown hgrow; clear hown hgrow _hnil)
              generalize World.setCell w' ⟨w1.heap.size, 4, none⟩ (.slice (some ⟨g', 0, none⟩) _ cp') = w5 at *
              have HI5 := Lib.hid HP.out
              clear HP c4' f4'
              obtain ⟨LL5, hLL5⟩ : ∃ L, L = LL ++ [(⟨18, 0⟩ : Ins)] := ⟨_, rfl⟩
              rw [← hLL5] at HI5
              have HLL5 := Lib.hid hLL5
              clear hLL5
              have q0 := HI5.out.c0
              have q1 := HI5.out.c1
              have q2 := HI5.out.c2
              have q3 := HI5.out.c3
              have q4 := HI5.out.c4
              have HBW := Lib.hid (HB1.out.trans (HI5.out.below.mono HB1.out.size))
              have HREP := Lib.hid (HI5.out.rep (by rw [HLL5.out]; simp) (by rw [HLL5.out, List.length_append]; exact HB5.out) (by rw [HLL5.out, HLL.out]; exact row_i64_f HLEN.out) (by constructor <;> decide))
              go_wp2_with fail
              refine (check_any _ _ _ HREP.out (HG.out.below (up_alloc HBW.out _))).mono ?_
              rintro x w6 ⟨y, rfl, hy, hb6⟩
              have hrow : (y == 0) = true := row_check j HLEN.out false false (x := y) (by rw [HLL5.out, HLL.out] at hy; simpa [rowCd, rowIns, nums] using hy)
              have HB6 := Lib.hid (up_trans (up_alloc HBW.out _) hb6)
              clear hy hb6 q0 q1 q2 q3 q4
              go_wp2_with fail
              go_ret
              exact ⟨rfl, HB6.out⟩
            · have hc40 := HI.out.c4
              go_upto_region 13 with fail
              have hc2 := HI.out.c2
              have hf2 : World.frozen? wr ⟨w1.heap.size, 2, none⟩ = false := by obtain ⟨arr, ho⟩ := HI.out.obj; exact frozen_of ho 2
              go_upto_region 15 with fail
              have HI4 := Lib.hid (HI.out.setR 1)
              generalize World.setCell wr ⟨w1.heap.size, 2, none⟩ (.int .i64 1) = w4 at *
              clear hc2 hf2
              have hc4b := HI4.out.c4
              have HB5 : Hid ((LL).length + 1 ≤ 1000) := Lib.hid (by have := HLN.out; omega)
              go_upto_region 16 with (refine wpList_append_own _ rfl _ _ _ rfl (w1.heap.size + 1) 35 HZ.out.choose (.agg #[.int .i64 0, .int .i64 0]) 2 16 Tryd.underlying28 HZ.out.choose_spec.1 HZ.out.choose_spec.2.1 HZ.out.choose_spec.2.2.1 HZ.out.choose_spec.2.2.2 rfl (by decide) _ (LL).length (insV (LL)) rfl (HI4.out.own.alloc _) ⟨w4.heap.size, 0, none⟩ 1 1 [.int .i64 18, .int .i64 0] rfl rfl (news_new _ _ _) (news_one _ _) (by have := HB5.out; unfold maxLen; omega) (by have := HB5.out; omega) (by have := HI4.out.lt; rw [size_alloc]; omega) ?_; intro v' w' hown hgrow _hnil; obtain ⟨g', cp', hv'⟩ := own_form hown; subst hv'; have HP := Lib.hid (HI4.out.push hown hgrow); have c4' := HI4.out.c4_grown hgrow; have f4' := HI4.out.f4_grown hgrow; clear hown hgrow _hnil)
              generalize World.setCell w' ⟨w1.heap.size, 4, none⟩ (.slice (some ⟨g', 0, none⟩) _ cp') = w5 at *
              have HI5 := Lib.hid HP.out
              clear HP c4' f4'
              obtain ⟨LL5, hLL5⟩ : ∃ L, L = LL ++ [(⟨18, 0⟩ : Ins)] := ⟨_, rfl⟩
              rw [← hLL5] at HI5
              have HLL5 := Lib.hid hLL5
              clear hLL5
              have q0 := HI5.out.c0
              have q1 := HI5.out.c1
              have q2 := HI5.out.c2
              have q3 := HI5.out.c3
              have q4 := HI5.out.c4
              have HBW := Lib.hid (HB1.out.trans (HI5.out.below.mono HB1.out.size))
              have HREP := Lib.hid (HI5.out.rep (by rw [HLL5.out]; simp) (by rw [HLL5.out, List.length_append]; exact HB5.out) (by rw [HLL5.out, HLL.out]; exact row_i64_f HLEN.out) (by constructor <;> decide))
              go_wp2_with fail
              refine (check_any _ _ _ HREP.out (HG.out.below (up_alloc HBW.out _))).mono ?_
              rintro x w6 ⟨y, rfl, hy, hb6⟩
              have hrow : (y == 0) = false := row_check j HLEN.out false true (x := y) (by rw [HLL5.out, HLL.out] at hy; simpa [rowCd, rowIns, nums] using hy)
              have HB6 := Lib.hid (up_trans (up_alloc HBW.out _) hb6)
              clear hy hb6 q0 q1 q2 q3 q4
              go_wp2_with fail
              go_ret
              exact ⟨rfl, HB6.out⟩
          · cases r
            · have hc40 := HI.out.c4
              have HB3 : Hid ((LL).length + 1 ≤ 1000) := Lib.hid (by have := HLN.out; omega)
              go_upto_region 13 with (refine wpList_append_own _ rfl _ _ _ rfl (w1.heap.size + 1) 35 HZ.out.choose (.agg #[.int .i64 0, .int .i64 0]) 2 16 Tryd.underlying28 HZ.out.choose_spec.1 HZ.out.choose_spec.2.1 HZ.out.choose_spec.2.2.1 HZ.out.choose_spec.2.2.2 rfl (by decide) _ (LL).length (insV (LL)) rfl (HI.out.own.alloc _) ⟨wr.heap.size, 0, none⟩ 1 1 [.int .i64 2, .int .i64 0] rfl rfl (news_new _ _ _) (news_one _ _) (by have := HB3.out; unfold maxLen; omega) (by have := HB3.out; omega) (by have := HI.out.lt; rw [size_alloc]; omega) ?_; intro v' w' hown hgrow _hnil; obtain ⟨g', cp', hv'⟩ := own_form hown; subst hv'; have HP := Lib.hid (HI.out.push hown hgrow); have c4' := HI.out.c4_grown hgrow; have f4' := HI.out.f4_grown hgrow; clear hown hgrow _hnil)
              generalize World.setCell w' ⟨w1.heap.size, 4, none⟩ (.slice (some ⟨g', 0, none⟩) _ cp') = w3 at *
              have HI3 := Lib.hid HP.out
              clear HP c4' f4'
              obtain ⟨LL3, hLL3⟩ : ∃ L, L = LL ++ [(⟨2, 0⟩ : Ins)] := ⟨_, rfl⟩
              rw [← hLL3] at HI3
              have HLL3 := Lib.hid hLL3
              clear hLL3
              go_upto_region 15 with fail
              have hc4b := HI3.out.c4
              have HB5 : Hid ((LL3).length + 1 ≤ 1000) := Lib.hid (by have := HLN.out; rw [HLL3.out, List.length_append]; simp only [List.length_cons, List.length_nil]; omega)
              go_upto_region 16 with (refine wpList_append_own _ rfl _ _ _ rfl (w1.heap.size + 1) 35 HZ.out.choose (.agg #[.int .i64 0, .int .i64 0]) 2 16 Tryd.underlying28 HZ.out.choose_spec.1 HZ.out.choose_spec.2.1 HZ.out.choose_spec.2.2.1 HZ.out.choose_spec.2.2.2 rfl (by decide) _ (LL3).length (insV (LL3)) rfl (HI3.out.own.alloc _) ⟨w3.heap.size, 0, none⟩ 1 1 [.int .i64 18, .int .i64 0] rfl rfl (news_new _ _ _) (news_one _ _) (by have := HB5.out; unfold maxLen; omega) (by have := HB5.out; omega) (by have := HI3.out.lt; rw [size_alloc]; omega) ?_; intro v' w' hown hgrow _hnil; obtain ⟨g', cp', hv'⟩ := own_form hown; subst hv'; have HP := Lib.hid (HI3.out.push hown hgrow); have c4' := HI3.out.c4_grown hgrow; have f4' := HI3.out.f4_grown hgrow; clear hown hgrow _hnil)
              generalize World.setCell w' ⟨w1.heap.size, 4, none⟩ (.slice (some ⟨g', 0, none⟩) _ cp') = w5 at *
              have HI5 := Lib.hid HP.out
              clear HP c4' f4'
              obtain ⟨LL5, hLL5⟩ : ∃ L, L = LL3 ++ [(⟨18, 0⟩ : Ins)] := ⟨_, rfl⟩
              rw [← hLL5] at HI5
              have HLL5 := Lib.hid hLL5
              clear hLL5
              have q0 := HI5.out.c0
              have q1 := HI5.out.c1
              have q2 := HI5.out.c2
              have q3 := HI5.out.c3
              have q4 := HI5.out.c4
              have HBW := Lib.hid (HB1.out.trans (HI5.out.below.mono HB1.out.size))
              have HREP := Lib.hid (HI5.out.rep (by rw [HLL5.out]; simp) (by rw [HLL5.out, List.length_append]; exact HB5.out) (by rw [HLL5.out, HLL3.out, HLL.out]; exact row_i64_t HLEN.out) (by constructor <;> decide))
              go_wp2_with fail
              refine (check_any _ _ _ HREP.out (HG.out.below (up_alloc HBW.out _))).mono ?_
              rintro x w6 ⟨y, rfl, hy, hb6⟩
              have hrow : (y == 0) = false := row_check j HLEN.out true false (x := y) (by rw [HLL5.out, HLL3.out, HLL.out] at hy; simpa [rowCd, rowIns, nums] using hy)
              have HB6 := Lib.hid (up_trans (up_alloc HBW.out _) hb6)
              clear hy hb6 q0 q1 q2 q3 q4
              go_wp2_with fail
              go_ret
              exact ⟨rfl, HB6.out⟩
            · have hc40 := HI.out.c4
              have HB3 : Hid ((LL).length + 1 ≤ 1000) := Lib.hid (by have := HLN.out; omega)
              go_upto_region 13 with (refine wpList_append_own _ rfl _ _ _ rfl (w1.heap.size + 1) 35 HZ.out.choose (.agg #[.int .i64 0, .int .i64 0]) 2 16 Tryd.underlying28 HZ.out.choose_spec.1 HZ.out.choose_spec.2.1 HZ.out.choose_spec.2.2.1 HZ.out.choose_spec.2.2.2 rfl (by decide) _ (LL).length (insV (LL)) rfl (HI.out.own.alloc _) ⟨wr.heap.size, 0, none⟩ 1 1 [.int .i64 2, .int .i64 0] rfl rfl (news_new _ _ _) (news_one _ _) (by have := HB3.out; unfold maxLen; omega) (by have := HB3.out; omega) (by have := HI.out.lt; rw [size_alloc]; omega) ?_; intro v' w' hown hgrow _hnil; obtain ⟨g', cp', hv'⟩ := own_form hown; subst hv'; have HP := Lib.hid (HI.out.push hown hgrow); have c4' := HI.out.c4_grown hgrow; have f4' := HI.out.f4_grown hgrow; clear hown hgrow _hnil)
              generalize World.setCell w' ⟨w1.heap.size, 4, none⟩ (.slice (some ⟨g', 0, none⟩) _ cp') = w3 at *
              have HI3 := Lib.hid HP.out
              clear HP c4' f4'
              obtain ⟨LL3, hLL3⟩ : ∃ L, L = LL ++ [(⟨2, 0⟩ : Ins)] := ⟨_, rfl⟩
              rw [← hLL3] at HI3
              have HLL3 := Lib.hid hLL3
              clear hLL3
              have hc2 := HI3.out.c2
              have hf2 : World.frozen? w3 ⟨w1.heap.size, 2, none⟩ = false := by obtain ⟨arr, ho⟩ := HI3.out.obj; exact frozen_of ho 2
              go_upto_region 15 with fail
              have HI4 := Lib.hid (HI3.out.setR 1)
              generalize World.setCell w3 ⟨w1.heap.size, 2, none⟩ (.int .i64 1) = w4 at *
              clear hc2 hf2
              have hc4b := HI4.out.c4
              have HB5 : Hid ((LL3).length + 1 ≤ 1000) := Lib.hid (by have := HLN.out; rw [HLL3.out, List.length_append]; simp only [List.length_cons, List.length_nil]; omega)
              go_upto_region 16 with (refine wpList_append_own _ rfl _ _ _ rfl (w1.heap.size + 1) 35 HZ.out.choose (.agg #[.int .i64 0, .int .i64 0]) 2 16 Tryd.underlying28 HZ.out.choose_spec.1 HZ.out.choose_spec.2.1 HZ.out.choose_spec.2.2.1 HZ.out.choose_spec.2.2.2 rfl (by decide) _ (LL3).length (insV (LL3)) rfl (HI4.out.own.alloc _) ⟨w4.heap.size, 0, none⟩ 1 1 [.int .i64 18, .int .i64 0] rfl rfl (news_new _ _ _) (news_one _ _) (by have := HB5.out; unfold maxLen; omega) (by have := HB5.out; omega) (by have := HI4.out.lt; rw [size_alloc]; omega) ?_; intro v' w' hown hgrow _hnil; obtain ⟨g', cp', hv'⟩ := own_form hown; subst hv'; have HP := Lib.hid (HI4.out.push hown hgrow); have c4' := HI4.out.c4_grown hgrow; have f4' := HI4.out.f4_grown hgrow; clear hown hgrow _hnil)
              generalize World.setCell w' ⟨w1.heap.size, 4, none⟩ (.slice (some ⟨g', 0, none⟩) _ cp') = w5 at *
              have HI5 := Lib.hid HP.out
              clear HP c4' f4'
              obtain ⟨LL5, hLL5⟩ : ∃ L, L = LL3 ++ [(⟨18, 0⟩ : Ins)] := ⟨_, rfl⟩
              rw [← hLL5] at HI5
              have HLL5 := Lib.hid hLL5
              clear hLL5
              have q0 := HI5.out.c0
              have q1 := HI5.out.c1
              have q2 := HI5.out.c2
              have q3 := HI5.out.c3
              have q4 := HI5.out.c4
              have HBW := Lib.hid (HB1.out.trans (HI5.out.below.mono HB1.out.size))
              have HREP := Lib.hid (HI5.out.rep (by rw [HLL5.out]; simp) (by rw [HLL5.out, List.length_append]; exact HB5.out) (by rw [HLL5.out, HLL3.out, HLL.out]; exact row_i64_t HLEN.out) (by constructor <;> decide))
              go_wp2_with fail
              refine (check_any _ _ _ HREP.out (HG.out.below (up_alloc HBW.out _))).mono ?_
              rintro x w6 ⟨y, rfl, hy, hb6⟩
              have hrow : (y == 0) = true := row_check j HLEN.out true true (x := y) (by rw [HLL5.out, HLL3.out, HLL.out] at hy; simpa [rowCd, rowIns, nums] using hy)
              have HB6 := Lib.hid (up_trans (up_alloc HBW.out _) hb6)
              clear hy hb6 q0 q1 q2 q3 q4
              go_wp2_with fail
              go_ret
              exact ⟨rfl, HB6.out⟩
        | succ gk =>
          have hin : (j : Int) < (i : Int) := by omega
          have hc4 := hinv.c4
          have g1 : IntKind.i64.wrap ((j : Int) + 1) = (j : Int) + 1 := IntWalk.i64_in _ (by omega)
          have HB : Hid ((nums i ++ List.replicate j (⟨17, 0⟩ : Ins)).length + 1 ≤ 1000) := Lib.hid (by rw [List.length_append, nums_len, List.length_replicate]; omega)
          clear hinv
          obtain ⟨LL, hLL⟩ : ∃ LL, LL = nums i ++ List.replicate j (⟨17, 0⟩ : Ins) := ⟨_, rfl⟩
          rw [← hLL] at HI HB
          have HLL := Lib.hid hLL
          clear hLL
          go_wp2_with (refine wpList_append_own _ rfl _ _ _ rfl (w1.heap.size + 1) 35 HZ.out.choose (.agg #[.int .i64 0, .int .i64 0]) 2 16 Tryd.underlying28 HZ.out.choose_spec.1 HZ.out.choose_spec.2.1 HZ.out.choose_spec.2.2.1 HZ.out.choose_spec.2.2.2 rfl (by decide) _ (LL).length (insV (LL)) rfl (HI.out.own.alloc _) ⟨wr.heap.size, 0, none⟩ 1 1 [.int .i64 17, .int .i64 0] rfl rfl (news_new _ _ _) (news_one _ _) (by have := HB.out; unfold maxLen; omega) (by have := HB.out; omega) (by have := HI.out.lt; rw [size_alloc]; omega) ?_; intro v' w' hown hgrow _hnil; obtain ⟨g', cp', hv'⟩ := own_form hown; subst hv'; have HP := Lib.hid (HI.out.push hown hgrow); have c4' := HI.out.c4_grown hgrow; have f4' := HI.out.f4_grown hgrow; clear hown hgrow _hnil)
          go_roundg gk
          case measure => omega
          case rel => exact ⟨j + 1, _, by omega, by go_num, by rw [List.replicate_succ', ← List.append_assoc, ← HLL.out]; exact HP.out⟩
    | succ gk =>
      have hin : (i : Int) < (n : Int) := by omega
      have hc4 := hinv.c4
      have g1 : IntKind.i64.wrap ((i : Int) + 1) = (i : Int) + 1 := IntWalk.i64_in _ (by omega)
      have HB : Hid ((nums i).length + 1 ≤ 1000) := Lib.hid (by rw [nums_len]; omega)
      clear hinv
      go_wp2_with (refine wpList_append_own _ rfl _ _ _ rfl (w1.heap.size + 1) 35 HZ.out.choose (.agg #[.int .i64 0, .int .i64 0]) 2 16 Tryd.underlying28 HZ.out.choose_spec.1 HZ.out.choose_spec.2.1 HZ.out.choose_spec.2.2.1 HZ.out.choose_spec.2.2.2 rfl (by decide) _ (nums i).length (insV (nums i)) rfl (HI.out.own.alloc _) ⟨wr.heap.size, 0, none⟩ 1 1 [.int .i64 2, .int .i64 (i : Int)] rfl rfl (news_new _ _ _) (news_one _ _) (by have := HB.out; unfold maxLen; omega) (by have := HB.out; omega) (by have := HI.out.lt; rw [size_alloc]; omega) ?_; intro v' w' hown hgrow _hnil; obtain ⟨g', cp', hv'⟩ := own_form hown; subst hv'; have HP := Lib.hid (HI.out.push hown hgrow); have c4' := HI.out.c4_grown hgrow; have f4' := HI.out.f4_grown hgrow; clear hown hgrow _hnil)
      go_roundg gk
      case measure => omega
      case rel => exact ⟨i + 1, _, by omega, by go_num, by rw [nums_succ]; exact HP.out⟩
end Go.Proofs.YtgogjdpjegfecaaDoor
