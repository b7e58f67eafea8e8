/-
  The walk of 'safe': whole.
-/
import Derived.Test.YtmdceokmpjcllaaGreatDoorVerifyI
namespace Go.Proofs.YtmdceokmpjcllaaGreatDoor
open Go.RowKit
attribute [local go_sem ↓] Go.wp_at_zero Go.wp_at_succ

theorem splice_params (l : List Int) (h : l.length ≤ 256) : splice z58.toList 1 (l.map (Value.int .i64)) = Value.slice none 0 0 :: slCells (fun j => l.getD j 0) := by
  refine List.ext_getElem? fun j => ?_
  simp only [z58, splice, List.take_succ_cons, List.take_zero]
  cases j with
  | zero => simp
  | succ j =>
    simp only [List.cons_append, List.nil_append, List.getElem?_cons_succ]
    by_cases hj : j < 256
    · rw [slCells_get _ _ hj]
      by_cases e : j < l.length
      · rw [List.getElem?_append_left (by simpa using e), List.getElem?_map, List.getElem?_eq_getElem e, List.getD_eq_getElem?_getD, List.getElem?_eq_getElem e]
        rfl
      · rw [List.getElem?_append_right (by simp; omega), List.getElem?_drop]
        simp only [List.length_map]
        rw [show 1 + l.length + (j - l.length) = j + 1 by omega]
        rw [List.getElem?_cons_succ, slCells_get _ _ hj, List.getD_eq_getElem?_getD, List.getElem?_eq_none (l := l) (by omega)]
        rfl
    · rw [List.getElem?_eq_none (l := slCells _) (by rw [slCells_len]; omega), List.getElem?_eq_none (by simp [slCells_len]; omega)]

def SafeSays (c : Cd) (m : Mdl) (w : World) : Ending → World → Prop := fun e w' => ∃ b, e = .returned (.bool b) ∧ SafeIs c m b ∧ Below w.heap.size w w'
theorem pot_le (t : Tab) (n : Nat) : pot t n ≤ 257 * n := by
  induction n with
  | zero => exact Nat.le_refl _
  | succ n ih =>
    unfold pot
    have : one (t n) ≤ 257 := by
      unfold one; split
      · omega
      · exact Nat.le_trans (cnt_le _ _) (by omega)
    omega
theorem start_inv (c : Cd) (n : Nat) (hn : 0 < n) (hn16 : n ≤ 16384) (hp64 : ∀ i, i64 (c.params.getD i 0)) (B w5 : World)
    (hblk : w5.heap[B.heap.size + 1]? = some (.cells (Value.slice none 0 0 :: slCells (fun j => c.params.getD j 0)).toArray 110 (0, 0)))
    (hb5 : Below (B.heap.size + 1) ((B.alloc (.cells ((madeCells #[Value.pointer none] n).setIfInBounds 0 (.pointer (some ⟨B.heap.size + 1, 0, none⟩))) 106)).alloc (.cells z58 110)) w5) :
    SafeInv B.heap.size B (w5.alloc (.cells #[.int .i64 0] 3)) n B.heap.size (.slice (some ⟨w5.heap.size, 0, none⟩) 1 1) (tab0 c) [0] (fun _ => B.heap.size + 1) := by
  have hs5 : B.heap.size + 2 ≤ w5.heap.size := by
    have := hb5.size
    rw [size_alloc, size_alloc] at this
    omega
  have harr : (w5.alloc (.cells #[.int .i64 0] 3)).heap[B.heap.size]? = some (.cells ((madeCells #[Value.pointer none] n).setIfInBounds 0 (.pointer (some ⟨B.heap.size + 1, 0, none⟩))) 106 (0, 0)) :=
    old_heap _ _ _ _ ((hb5.block _ (by omega)).trans (old_heap _ _ _ _ (new_heap _ _ _ rfl)))
  have hst : (w5.alloc (.cells #[.int .i64 0] 3)).heap[B.heap.size + 1]? = some (.cells (Value.slice none 0 0 :: slCells (fun j => c.params.getD j 0)).toArray 110 (0, 0)) := old_heap _ _ _ _ hblk
  have htab : ∀ i s, tab0 c i = some s → i = 0 ∧ s = ⟨[], fun j => c.params.getD j 0⟩ := fun i s h => by
    unfold tab0 upd at h
    split at h
    · rename_i e
      injection h with h
      exact ⟨e, h.symm⟩
    · cases h
  refine ⟨?_, ⟨⟨_, harr⟩, Nat.le_refl _, fun i hi => ?_, fun i s hi hs => ?_, fun i j hi hj hsi hsj _ => ?_⟩, ⟨?_, _, _, rfl⟩, by simp, fun p hp => ?_, ?_⟩
  · have h1 : Below B.heap.size B ((B.alloc (.cells ((madeCells #[Value.pointer none] n).setIfInBounds 0 (.pointer (some ⟨B.heap.size + 1, 0, none⟩))) 106)).alloc (.cells z58 110)) := up_alloc (up_alloc (Below.refl _ _) _) _
    exact up_alloc (h1.trans (hb5.mono (by omega))) _
  · rw [cell_of_row _ _ i _ _ _ harr, Array.getElem?_setIfInBounds]
    by_cases e : i = 0
    · subst e
      simp [size_madeCells, hn, tab0, upd, ptrOf]
    · rw [if_neg (Ne.symm e)]
      have : tab0 c i = none := by simp [tab0, upd, e]
      rw [this, ptrOf_none]
      simp [madeCells, hi, Nat.mod_one]
  · obtain ⟨_, rfl⟩ := htab i s hs
    refine ⟨by omega, by simp, stAt_of (sv := .slice none 0 0) ⟨_, hst⟩ ⟨none, 0, rfl, by simp, by unfold maxLen; omega, fun _ => rfl, fun h => by simp at h, fun i => by constructor <;> simp⟩ (fun j v hv => ?_) (fun j _ => hp64 j)⟩
    rw [cell_of_row _ _ _ _ _ _ hst, Nat.zero_add]
    simpa using hv
  · obtain ⟨si, hsi⟩ := Option.isSome_iff_exists.1 hsi
    obtain ⟨sj, hsj⟩ := Option.isSome_iff_exists.1 hsj
    rw [(htab i si hsi).1, (htab j sj hsj).1]
  · refine ⟨rfl, .inr ⟨w5.heap.size, 1, #[.int .i64 0], rfl, by omega, new_heap _ _ _ rfl, Nat.le_refl _, by unfold maxLen; omega, rfl, rfl⟩⟩
  · obtain rfl : p = 0 := by simpa using hp
    exact ⟨hn, by simp [tab0, upd]⟩
  · have := pot_le (tab0 c) n
    show pot (tab0 c) n + [0].length ≤ 5000000
    simp only [List.length_cons, List.length_nil]
    omega

set_option maxRecDepth 100000 in
set_option maxHeartbeats 8000000 in
theorem safe_pos (c : Cd) (m : Mdl) (v0 v1 v2 v3 v4 vm : Value) (w : World) (hc : RepCd w v0 v1 v2 v3 v4 c) (hm : RepMdl w vm m) (hsl : c.slots ≤ 256) (hsg : Signs w)
    (hlen : 0 < c.ins.length) (hp16 : c.params.length ≤ 256) (hn16 : c.ins.length ≤ 16384) :
    Calls Tryz.prog 41 #[vm, .agg #[v0, v1, v2, v3, v4]] w (SafeSays c m w) := by
  have HC := Lib.hid hc
  have HM := Lib.hid hm
  have HG := Lib.hid hsg
  obtain ⟨u0, u1, rfl, hmc, hmt⟩ := hm
  obtain ⟨n1, n2, n3, rfl, n4, n5, n6, n7⟩ := hc
  obtain ⟨s4, cap4, rfl, i1, i2, i3, i4, i5, i6⟩ := n5
  obtain ⟨s1, cap1, rfl, _, _, _, _, hpr, hpr64⟩ := n3
  clear n1 n2 n4 n6 n7
  generalize hn : c.ins.length = n at *
  have g0 : ((n : Int) == 0) = false := by simp; omega
  have hmk := run_make_row' (P := Tryz.prog) 105 106 (.pointer none) 8 Tryz.underlying105 (by kernel_rfl) rfl .i64 .i64 n (by omega) (by omega)
  have hz58 := zero58
  have s2 : ((w.alloc (.cells #[u0, u1] 43)).alloc (.cells #[v0, .slice s1 c.params.length cap1, .int .i64 c.result, v3, .slice s4 n cap4] 30)).heap.size = w.heap.size + 1 + 1 := by rw [size_alloc, size_alloc]
  have k0 : ((((w.alloc (.cells #[u0, u1] 43)).alloc (.cells #[v0, .slice s1 c.params.length cap1, .int .i64 c.result, v3, .slice s4 n cap4] 30)).alloc (.cells (madeCells #[Value.pointer none] n) 106)).alloc (.cells z58 110)).cell? ⟨w.heap.size + 1 + 1, 0, none⟩ = some (.pointer none) := old_cell _ (made_cell _ _ _ _ hlen s2)
  have k0f : ((((w.alloc (.cells #[u0, u1] 43)).alloc (.cells #[v0, .slice s1 c.params.length cap1, .int .i64 c.result, v3, .slice s4 n cap4] 30)).alloc (.cells (madeCells #[Value.pointer none] n) 106)).alloc (.cells z58 110)).frozen? ⟨w.heap.size + 1 + 1, 0, none⟩ = false := frozen_of (old_heap _ _ _ _ (new_heap _ _ _ s2)) 0
  have k1 : ((((w.alloc (.cells #[u0, u1] 43)).alloc (.cells #[v0, .slice s1 c.params.length cap1, .int .i64 c.result, v3, .slice s4 n cap4] 30)).alloc (.cells ((madeCells #[Value.pointer none] n).setIfInBounds 0 (.pointer (some ⟨w.heap.size + 1 + 1 + 1, 0, none⟩))) 106)).alloc (.cells z58 110)).cell? ⟨w.heap.size + 1, 1, none⟩ = some (.slice s1 c.params.length cap1) := old_cell _ (old_cell _ (new_cell _ _ _ _ _ _ (by rw [size_alloc]) rfl))
  have k2 : ((((w.alloc (.cells #[u0, u1] 43)).alloc (.cells #[v0, .slice s1 c.params.length cap1, .int .i64 c.result, v3, .slice s4 n cap4] 30)).alloc (.cells ((madeCells #[Value.pointer none] n).setIfInBounds 0 (.pointer (some ⟨w.heap.size + 1 + 1 + 1, 0, none⟩))) 106)).alloc (.cells z58 110)).cell? ⟨w.heap.size + 1 + 1, 0, none⟩ = some (.pointer (some ⟨w.heap.size + 1 + 1 + 1, 0, none⟩)) := old_cell _ (new_cell _ _ _ _ _ _ s2 (by
    rw [Array.getElem?_setIfInBounds]; simp [size_madeCells, hlen]))
  have HB5 : Hid (((((w.alloc (.cells #[u0, u1] 43)).alloc (.cells #[v0, .slice s1 c.params.length cap1, .int .i64 c.result, v3, .slice s4 n cap4] 30)).alloc (.cells ((madeCells #[Value.pointer none] n).setIfInBounds 0 (.pointer (some ⟨w.heap.size + 1 + 1 + 1, 0, none⟩))) 106)).alloc (.cells z58 110)).heap[w.heap.size + 1 + 1 + 1]? = some (.cells z58.toList.toArray 110 (0, 0))) := Lib.hid (new_heap _ _ _ (by rw [size_alloc, s2]))
  go_enter Tryz.func41, Tryz.ntmps41
  go_wp2_with fail
  go_step3
  go_wp2_with fail
  refine wp_region_split (S := (fun w' => w'.cell? ⟨w.heap.size + 1 + 1, 0, none⟩ = some (.pointer (some ⟨w.heap.size + 1 + 1 + 1, 0, none⟩)) ∧ w'.cell? ⟨w.heap.size + 1, 1, none⟩ = some (.slice s1 c.params.length cap1))) 8 (by kernel_rfl) (by kernel_rfl) (by exact ⟨k2, k1⟩) (fun hHeld => ?_)
  simp only [List.take_succ_cons, List.take_zero, List.drop_succ_cons, List.drop_zero]
  refine wpAnyH_take (i := 0) (v := ?_) rfl (by kernel_rfl) (by kernel_rfl) (by kernel_rfl) (fun _ _ _ h => h) (Or.inl ⟨by rfl, ?_⟩) (by assumption) ?_
  rotate_left 1
  · (intro w hSw; (try dsimp only at hSw); go_simp; try with_reducible rfl)
  try simp only [Act.put, List.setIfInBounds_toArray, List.set_cons_zero, List.set_cons_succ, List.getElem_toArray, List.getElem_cons_zero]
  refine wpAnyH_take (i := 1) (v := ?_) rfl (by kernel_rfl) (by kernel_rfl) (by kernel_rfl) (fun _ _ _ h => h) (Or.inl ⟨by rfl, ?_⟩) (by assumption) ?_
  rotate_left 1
  · (intro w hSw; (try dsimp only at hSw); go_simp; try with_reducible rfl)
  try simp only [Act.put, List.setIfInBounds_toArray, List.set_cons_zero, List.set_cons_succ, List.getElem_toArray, List.getElem_cons_zero, List.getElem_cons_succ]
  refine wpAnyH_take (i := 2) (v := ?_) rfl (by kernel_rfl) (by kernel_rfl) (by kernel_rfl) (fun _ _ _ h => h) (Or.inl ⟨by rfl, ?_⟩) (by assumption) ?_
  rotate_left 1
  · (intro w hSw; (try dsimp only at hSw); go_simp; try with_reducible rfl)
  try simp only [Act.put, List.setIfInBounds_toArray, List.set_cons_zero, List.set_cons_succ, List.getElem_toArray, List.getElem_cons_zero, List.getElem_cons_succ]
  refine wpAnyH_take (i := 3) (v := ?_) rfl (by kernel_rfl) (by kernel_rfl) (by kernel_rfl) (fun _ _ _ h => h) (Or.inl ⟨by rfl, ?_⟩) (by assumption) ?_
  rotate_left 1
  · (intro w hSw; (try dsimp only at hSw); go_simp; try with_reducible rfl)
  try simp only [Act.put, List.setIfInBounds_toArray, List.set_cons_zero, List.set_cons_succ, List.getElem_toArray, List.getElem_cons_zero, List.getElem_cons_succ]
  refine wpAnyH_take (i := 4) (v := ?_) rfl (by kernel_rfl) (by kernel_rfl) (by kernel_rfl) (fun _ _ _ h => h) (Or.inl ⟨by rfl, ?_⟩) (by assumption) ?_
  rotate_left 1
  · (intro w hSw; (try dsimp only at hSw); go_simp; try with_reducible rfl)
  try simp only [Act.put, List.setIfInBounds_toArray, List.set_cons_zero, List.set_cons_succ, List.getElem_toArray, List.getElem_cons_zero, List.getElem_cons_succ]
  refine wpAnyH_take (i := 5) (v := ?_) rfl (by kernel_rfl) (by kernel_rfl) (by kernel_rfl) (fun _ _ _ h => h) (Or.inl ⟨by rfl, ?_⟩) (by assumption) ?_
  rotate_left 1
  · (intro w hSw; (try dsimp only at hSw); go_simp; try with_reducible rfl)
  try simp only [Act.put, List.setIfInBounds_toArray, List.set_cons_zero, List.set_cons_succ, List.getElem_toArray, List.getElem_cons_zero, List.getElem_cons_succ]
  refine wpAnyH_take (i := 6) (v := ?_) rfl (by kernel_rfl) (by kernel_rfl) (by kernel_rfl) (fun _ _ _ h => h) (Or.inl ⟨by rfl, ?_⟩) (by assumption) ?_
  rotate_left 1
  · (intro w hSw; (try dsimp only at hSw); go_simp; try with_reducible rfl)
  try simp only [Act.put, List.setIfInBounds_toArray, List.set_cons_zero, List.set_cons_succ, List.getElem_toArray, List.getElem_cons_zero, List.getElem_cons_succ]
  refine wpAnyH_take (i := 7) (v := ?_) rfl (by kernel_rfl) (by kernel_rfl) (by kernel_rfl) (fun _ _ _ h => h) (Or.inl ⟨by rfl, ?_⟩) (by assumption) ?_
  rotate_left 1
  · (intro w hSw; (try dsimp only at hSw); go_simp; try with_reducible rfl)
  try simp only [Act.put, List.setIfInBounds_toArray, List.set_cons_zero, List.set_cons_succ, List.getElem_toArray, List.getElem_cons_zero, List.getElem_cons_succ]
  refine wpAnyH_done (by kernel_rfl) ?_ _

  change wpList _ _ _ _ _ _
  refine wpList_copy_splice rfl _ _ _ _ rfl _ Tryz.underlying27 (by kernel_rfl) _ _ _ _ _ _ rfl rfl (w.heap.size + 1 + 1 + 1) 1 z58.toList 110 HB5.out (c.params.map (Value.int .i64)) ?_ ?_ ?_ ?_ (w.heap.size + 1 + 1 + 1) ((((w.alloc (.cells #[u0, u1] 43)).alloc (.cells #[v0, .slice s1 c.params.length cap1, .int .i64 c.result, v3, .slice s4 n cap4] 30)).alloc (.cells ((madeCells #[Value.pointer none] n).setIfInBounds 0 (.pointer (some ⟨w.heap.size + 1 + 1 + 1, 0, none⟩))) 106)).alloc (.cells z58 110)) ⟨rfl, rfl, rfl, Nat.le_refl _, fun _ _ => rfl⟩ (Nat.le_refl _) ?_
  · rw [List.length_map]; exact (Nat.min_eq_left hp16).symm
  · intro h0
    refine ⟨rfl, ?_⟩
    obtain ⟨bp, op, rfl, _, hcells⟩ := hpr (by simpa using h0)
    refine ⟨_, rfl, fun j v hv => ?_⟩
    rw [List.getElem?_map, Option.map_eq_some_iff] at hv
    obtain ⟨x, hx, rfl⟩ := hv
    have hjl := (List.getElem?_eq_some_iff.1 hx).1
    have hq := hcells j hjl
    dsimp only at hq
    rw [List.getD_eq_getElem?_getD, hx] at hq
    rw [Go.WideShapes.add_plain]
    exact old_cell _ (old_cell _ (old_cell _ (old_cell _ hq)))
  · have : z58.toList.length = 257 := by simp [z58, slCells_len]
    rw [this]; simp; omega
  · intro v hv
    simp at hv
    obtain ⟨x, _, rfl⟩ := hv
    rfl
  intro w5 hblk hb5
  rw [splice_params _ hp16] at hblk
  go_wp2_with fail
  go_step3
  go_wp2_with fail
  obtain ⟨B, hBe⟩ : ∃ B, B = ((w.alloc (.cells #[u0, u1] 43)).alloc (.cells #[v0, .slice s1 c.params.length cap1, .int .i64 c.result, v3, .slice s4 n cap4] 30)) := ⟨_, rfl⟩
  have hBs : B.heap.size = w.heap.size + 1 + 1 := by rw [hBe]; exact s2
  have HBC : Hid (∀ W, Below B.heap.size B W → W.cell? ⟨w.heap.size, 0, none⟩ = some u0 ∧ W.cell? ⟨w.heap.size, 1, none⟩ = some u1 ∧ W.cell? ⟨w.heap.size + 1, 0, none⟩ = some v0 ∧ W.cell? ⟨w.heap.size + 1, 1, none⟩ = some (.slice s1 c.params.length cap1) ∧
      W.cell? ⟨w.heap.size + 1, 2, none⟩ = some (.int .i64 c.result) ∧ W.cell? ⟨w.heap.size + 1, 3, none⟩ = some v3 ∧ W.cell? ⟨w.heap.size + 1, 4, none⟩ = some (.slice s4 n cap4)) := Lib.hid (fun W hW => by
    have e1 : w.heap.size < B.heap.size := by omega
    have e2 : w.heap.size + 1 < B.heap.size := by omega
    refine ⟨?_, ?_, ?_, ?_, ?_, ?_, ?_⟩
    · rw [up_cell hW _ _ e1, hBe]; exact old_cell _ (new_cell _ _ _ _ _ _ rfl rfl)
    · rw [up_cell hW _ _ e1, hBe]; exact old_cell _ (new_cell _ _ _ _ _ _ rfl rfl)
    · rw [up_cell hW _ _ e2, hBe]; exact new_cell _ _ _ _ _ _ (by rw [size_alloc]) rfl
    · rw [up_cell hW _ _ e2, hBe]; exact new_cell _ _ _ _ _ _ (by rw [size_alloc]) rfl
    · rw [up_cell hW _ _ e2, hBe]; exact new_cell _ _ _ _ _ _ (by rw [size_alloc]) rfl
    · rw [up_cell hW _ _ e2, hBe]; exact new_cell _ _ _ _ _ _ (by rw [size_alloc]) rfl
    · rw [up_cell hW _ _ e2, hBe]; exact new_cell _ _ _ _ _ _ (by rw [size_alloc]) rfl)
  have HB0 : Hid (Below w.heap.size w B) := Lib.hid (by rw [hBe]; exact up_alloc (up_alloc (Below.refl _ _) _) _)
  have HST := Lib.hid (start_inv c n hlen hn16 hpr64 B w5 (by rw [hBs]; exact hblk) (by rw [hBs, hBe]; exact hb5))
  rw [hBs] at HST
  clear hpr hpr64 k0 k0f k1 k2 HB5 i5
  go_loopg [6] (mu n (tab0 c, [0])) (fun g s6 W => ∃ (tab : Tab) (pile : List Nat) (ks : Nat → Nat), mu n (tab, pile) = g ∧ SafeInv B.heap.size B W n (w.heap.size + 1 + 1) s6 tab pile ks ∧ Hid (∀ b, Done (stepW c m) (tab, pile) b → Done (stepW c m) (tab0 c, [0]) b))
  case atStart => exact ⟨tab0 c, [0], _, rfl, by rw [hBs]; exact HST.out, Lib.hid (fun _ h => h)⟩
  case round =>
    obtain ⟨tab, pile, ks, hmu, hinv, HRUN⟩ := hrel
    refine round_wp (by kernel_rfl) c m w B w.heap.size (w.heap.size + 1) (w.heap.size + 1 + 1) n u0 u1 v0 _ _ v3 _ tab pile ks hinv HB0.out HBC.out HC.out HM.out HG.out hsl hn hn16 (fun x t t' d w h => h) ?_ ?_ ?_
    · intro u4 u6 u7 u8 u10 u11 u12 u13 u14 u37 u38 u39 u40 u41 u42 u43 u44 u45 u46 u47 u48 u49 u50 u51 u52 u53 u54 u55 u56 u57 u58 u59 u60 u61 u62 u63 u64 u65 u66 u67 u68 u69 u70 u71 u72 u73 u74 u75 u76 u77 u78 u79 u80 u81 u82 u83 u84 u85 u86 u87 u88 u89 u90 u91 u92 u93 u94 u95 u96 u97 u98 u99 u100 u101 u102 u103 u104 u105 u106 u107 u108 u109 u110 u111 u112 u113 u114 u115 u116 u117 u118 u119 u120 u121 u122 u123 u124 u125 u126 u127 u128 u129 u130 u131 u132 u133 u134 u135 u136 u137 u138 u139 u140 u141 u142 u143 u144 u145 u146 u147 u148 u149 u150 u151 u152 u153 w' tab' pile' ks' hstep hinv' hlt
      have HI := Lib.hid hinv'
      have HS := Lib.hid hstep
      have HL := Lib.hid hlt
      clear hinv' hstep hlt
      simp only [Exit.then]
      go_wp2_with fail
      go_roundg (mu n (tab', pile'))
      case measure => have := HL.out; omega
      case rel => exact ⟨tab', pile', ks', rfl, HI.out, Lib.hid (fun b h => HRUN.out b (.step HS.out h))⟩
    · intro b hstep u6 u7 u8 u10 u11 u12 u13 u14 u37 u38 u39 u40 u41 u42 u43 u44 u45 u46 u47 u48 u49 u50 u51 u52 u53 u54 u55 u56 u57 u58 u59 u60 u61 u62 u63 u64 u65 u66 u67 u68 u69 u70 u71 u72 u73 u74 u75 u76 u77 u78 u79 u80 u81 u82 u83 u84 u85 u86 u87 u88 u89 u90 u91 u92 u93 u94 u95 u96 u97 u98 u99 u100 u101 u102 u103 u104 u105 u106 u107 u108 u109 u110 u111 u112 u113 u114 u115 u116 u117 u118 u119 u120 u121 u122 u123 u124 u125 u126 u127 u128 u129 u130 u131 u132 u133 u134 u135 u136 u137 u138 u139 u140 u141 u142 u143 u144 u145 u146 u147 u148 u149 u150 u151 u152 u153 w' hb
      (try simp only [Exit.noGoto, Exit.inBlock, Exit.then])
      go_ret
      exact ⟨b, rfl, by unfold SafeIs; rw [if_neg (by omega)]; exact HRUN.out b (.stop hstep), HB0.out.trans (hb.mono HB0.out.size)⟩
    · intro hstep u4 u6 u7 u8 u10 u11 u12 u13 u14 u37 u38 u39 u40 u41 u42 u43 u44 u45 u46 u47 u48 u49 u50 u51 u52 u53 u54 u55 u56 u57 u58 u59 u60 u61 u62 u63 u64 u65 u66 u67 u68 u69 u70 u71 u72 u73 u74 u75 u76 u77 u78 u79 u80 u81 u82 u83 u84 u85 u86 u87 u88 u89 u90 u91 u92 u93 u94 u95 u96 u97 u98 u99 u100 u101 u102 u103 u104 u105 u106 u107 u108 u109 u110 u111 u112 u113 u114 u115 u116 u117 u118 u119 u120 u121 u122 u123 u124 u125 u126 u127 u128 u129 u130 u131 u132 u133 u134 u135 u136 u137 u138 u139 u140 u141 u142 u143 u144 u145 u146 u147 u148 u149 u150 u151 u152 u153 w' hb
      have HS := Lib.hid hstep
      have HB := Lib.hid hb
      clear hstep hb
      (try simp only [Exit.noGoto, Exit.inBlock, Exit.then])
      go_wp2_with fail
      (try rw [Exit.noGoto_ret])
      go_ret
      exact ⟨false, rfl, by unfold SafeIs; rw [if_neg (by omega)]; exact HRUN.out false (.stop HS.out), HB0.out.trans (HB.out.mono HB0.out.size)⟩
end Go.Proofs.YtmdceokmpjcllaaGreatDoor
