/-
  The walk of VerifyMeets.
-/
import Derived.Test.YtgogjdpjegfecaaDoorVerifyMeetsP
namespace Go.Proofs.YtgogjdpjegfecaaDoor
open Go.RowKit
attribute [local go_sem ↓] Go.wp_at_zero Go.wp_at_succ

def insC (l : List Ins) : List Value := l.flatMap fun i => [.int .i64 i.op, .int .i64 i.a]
theorem insC_at : ∀ (l : List Ins) (i : Nat), i < l.length → (insC l)[i * 2]? = some (.int .i64 (l.getD i default).op) ∧ (insC l)[i * 2 + 1]? = some (.int .i64 (l.getD i default).a)
  | [], i, h => by simp at h
  | x :: l, i, h => by
    have e : insC (x :: l) = .int .i64 x.op :: .int .i64 x.a :: insC l := rfl
    rw [e]
    cases i with
    | zero => exact ⟨rfl, rfl⟩
    | succ i =>
      have := insC_at l i (by simpa using h)
      rw [show (i + 1) * 2 = i * 2 + 1 + 1 by omega]
      simpa using this
theorem h64_of {l : List Ins} (h : ∀ x ∈ l, i64 x.op ∧ i64 x.a) (i : Nat) : i64 (l.getD i default).op ∧ i64 (l.getD i default).a := by
  rw [List.getD_eq_getElem?_getD]
  by_cases hi : i < l.length
  · rw [List.getElem?_eq_getElem hi]
    exact h _ (List.getElem_mem hi)
  · rw [List.getElem?_eq_none (by omega)]
    exact ⟨by constructor <;> decide, by constructor <;> decide⟩
theorem ins_new (w : World) (arr : Array Value) (t : TypeId) (l : List Ins) (ha : arr.toList = insC l) (hb : l.length ≤ 100000) (h64 : ∀ x ∈ l, i64 x.op ∧ i64 x.a) {g n : Nat} (hg : w.heap.size = g) (hn : n = l.length) : RepIns (w.alloc (.cells arr t)) (.slice (some ⟨g, 0, none⟩) n n) l := by
  subst hn
  refine ⟨_, l.length, rfl, by unfold big; omega, Nat.le_refl _, by unfold capOk; omega, fun h => (by cases h), fun _ => ⟨g, 0, rfl, by rw [size_alloc]; omega, fun i hi => ?_⟩, h64_of h64⟩
  obtain ⟨h1, h2⟩ := insC_at l i hi
  rw [← ha, Array.getElem?_toList] at h1 h2
  rw [Nat.zero_add]
  exact ⟨new_cell _ _ _ _ _ _ hg h1, new_cell _ _ _ _ _ _ hg h2⟩
theorem tys_of1 {w : World} {g : Nat} {a : Int} (h0 : w.cell? ⟨g, 0, none⟩ = some (.int .i64 a)) (ha : i64 a) : RepTys w (.slice (some ⟨g, 0, none⟩) 1 1) [a] := by
  refine ⟨_, 1, rfl, by unfold big; simp, by simp, by unfold capOk; omega, fun h => (by cases h), fun _ => ⟨g, 0, rfl, lt_of_cell h0, fun i hi => ?_⟩, fun i => ?_⟩
  · obtain rfl : i = 0 := by simpa using hi
    exact h0
  · cases i with
    | zero => exact ha
    | succ i => constructor <;> simp
theorem texts_one {w : World} {g : Nat} (h0 : w.cell? ⟨g, 0, none⟩ = some (.slice none 0 0)) : RepTexts w (.slice (some ⟨g, 0, none⟩) 1 1) [[]] := by
  refine ⟨_, 1, fun _ => .slice none 0 0, rfl, by unfold big; simp, by simp, by unfold capOk; omega, fun h => (by cases h), fun _ => ⟨g, 0, rfl, lt_of_cell h0, fun i hi => ?_⟩, fun i hi => ?_⟩
  · obtain rfl : i = 0 := by simpa using hi
    exact h0
  · obtain rfl : i = 0 := by simpa using hi
    exact ⟨none, 0, rfl, by unfold big; simp, by simp, by unfold capOk; omega, fun _ => rfl, fun h => by simp at h, fun i => by simp⟩

set_option maxHeartbeats 400000 in
theorem lay_any (t : Nat) (ht : t ≤ 255) (w : World) : Calls Tryd.prog 11 #[.int .u8 t] w fun e w' => e = .returned (.agg #[.int .i64 (layI t).op, .int .i64 0]) ∧ Below w.heap.size w w' := by
  have h3 : t % 3 = 0 ∨ t % 3 = 1 ∨ t % 3 = 2 := by omega
  rcases h3 with h | h | h
  all_goals
    have HI := Lib.hid (show layI t = _ from by unfold layI; rw [h])
    have h0 : (0 : Int) ≤ (t : Int) := by omega
    have e0 : ((t : Int) % 3 == 0) = decide (t % 3 = 0) := by rw [Bool.eq_iff_iff]; simp; omega
    have e1 : ((t : Int) % 3 == 1) = decide (t % 3 = 1) := by rw [Bool.eq_iff_iff]; simp; omega
    rw [h] at e0 e1
    simp at e0 e1
    clear h
    go_enter Tryd.func11, Tryd.ntmps11
    go_wp2
  · refine bodyPost_ret (v := .agg #[.int .i64 2, .int .i64 0]) (by simp [results, Tryd.results11, go_sem]) rfl ⟨by rw [HI.out]; rfl, up_alloc (Below.refl _ _) _⟩
  · refine bodyPost_ret (v := .agg #[.int .i64 3, .int .i64 0]) (by simp [results, Tryd.results11, go_sem]) rfl ⟨by rw [HI.out]; rfl, up_alloc (Below.refl _ _) _⟩
  · refine bodyPost_ret (v := .agg #[.int .i64 4, .int .i64 0]) (by simp [results, Tryd.results11, go_sem]) rfl ⟨by rw [HI.out]; rfl, up_alloc (Below.refl _ _) _⟩
theorem layI_i64 (t : Nat) : i64 (layI t).op ∧ i64 (layI t).a := by
  unfold layI
  split
  · exact ⟨by constructor <;> decide, by constructor <;> decide⟩
  · split
    · exact ⟨by constructor <;> decide, by constructor <;> decide⟩
    · exact ⟨by constructor <;> decide, by constructor <;> decide⟩
theorem layI_a (t : Nat) : (layI t).a = 0 := by
  unfold layI
  split
  · rfl
  · split <;> rfl

theorem meets_rep (w1 w3 : World) (a b : Nat) (hb : Below (w1.alloc (.cells #[.int .i64 2] 27)).heap.size (w1.alloc (.cells #[.int .i64 2] 27)) w3) :
    RepMdl ((((w3.alloc (Obj.cells #[.int .i64 5, .int .i64 0, .int .i64 16, .int .i64 5, .int .i64 (layI a).op, .int .i64 0, .int .i64 6, .int .i64 1, .int .i64 15, .int .i64 7, .int .i64 (layI b).op, .int .i64 0, .int .i64 6, .int .i64 1, .int .i64 5, .int .i64 1, .int .i64 17, .int .i64 0, .int .i64 18, .int .i64 0] 35)).alloc
      (Obj.cells #[.string ⟨#[102]⟩, .slice (some ⟨w1.heap.size, 0, none⟩) 1 1, .int .i64 0, .int .i64 2, .slice (some ⟨w3.heap.size, 0, none⟩) 10 10] 30)).alloc
      (Obj.cells #[.string ⟨#[102]⟩, .slice (some ⟨w1.heap.size, 0, none⟩) 1 1, .int .i64 0, .int .i64 2, .slice (some ⟨w3.heap.size, 0, none⟩) 10 10] 30)).alloc
      (Obj.cells #[.slice none 0 0] 44)) (.agg #[.slice (some ⟨w3.heap.size + 1 + 1, 0, none⟩) 1 1, .slice (some ⟨w3.heap.size + 1 + 1 + 1, 0, none⟩) 1 1]) (mM (layI a) (layI b)) := by
  have p := layI_i64 a
  have q := layI_i64 b
  have hins : RepIns (w3.alloc (Obj.cells #[.int .i64 5, .int .i64 0, .int .i64 16, .int .i64 5, .int .i64 (layI a).op, .int .i64 0, .int .i64 6, .int .i64 1, .int .i64 15, .int .i64 7, .int .i64 (layI b).op, .int .i64 0, .int .i64 6, .int .i64 1, .int .i64 5, .int .i64 1, .int .i64 17, .int .i64 0, .int .i64 18, .int .i64 0] 35))
      (.slice (some ⟨w3.heap.size, 0, none⟩) 10 10) [⟨5, 0⟩, ⟨16, 5⟩, layI a, ⟨6, 1⟩, ⟨15, 7⟩, layI b, ⟨6, 1⟩, ⟨5, 1⟩, ⟨17, 0⟩, ⟨18, 0⟩] := by
    refine ins_new _ _ _ _ (by simp [insC, layI_a]) (by simp) (fun x hx => ?_) rfl rfl
    simp at hx
    rcases hx with rfl | rfl | rfl | rfl | rfl | rfl | rfl | rfl | rfl | rfl
    all_goals first | exact p | exact q | exact ⟨by constructor <;> decide, by constructor <;> decide⟩
  have htys : RepTys w3 (.slice (some ⟨w1.heap.size, 0, none⟩) 1 1) [2] := tys_of1 ((hb.cell (p := ⟨w1.heap.size, 0, none⟩) (by rw [size_alloc]; exact Nat.lt_succ_self _)).trans (new_cell _ _ _ _ _ _ rfl rfl)) (by constructor <;> decide)
  have hcd : RepCd (w3.alloc (Obj.cells #[.int .i64 5, .int .i64 0, .int .i64 16, .int .i64 5, .int .i64 (layI a).op, .int .i64 0, .int .i64 6, .int .i64 1, .int .i64 15, .int .i64 7, .int .i64 (layI b).op, .int .i64 0, .int .i64 6, .int .i64 1, .int .i64 5, .int .i64 1, .int .i64 17, .int .i64 0, .int .i64 18, .int .i64 0] 35))
      (.string ⟨#[102]⟩) (.slice (some ⟨w1.heap.size, 0, none⟩) 1 1) (.int .i64 0) (.int .i64 2) (.slice (some ⟨w3.heap.size, 0, none⟩) 10 10) (cM (layI a) (layI b)) :=
    ⟨rfl, (by unfold big; show (1 : Nat) ≤ _; omega), htys.later (up_alloc (Below.refl _ _) _), rfl, rfl, hins, (show i64 0 by constructor <;> decide), (show i64 2 by constructor <;> decide)⟩
  have hcd3 := hcd.later (up_alloc (up_alloc (up_alloc (Below.refl _ _) (Obj.cells #[.string ⟨#[102]⟩, .slice (some ⟨w1.heap.size, 0, none⟩) 1 1, .int .i64 0, .int .i64 2, .slice (some ⟨w3.heap.size, 0, none⟩) 10 10] 30)) (Obj.cells #[.string ⟨#[102]⟩, .slice (some ⟨w1.heap.size, 0, none⟩) 1 1, .int .i64 0, .int .i64 2, .slice (some ⟨w3.heap.size, 0, none⟩) 10 10] 30)) (Obj.cells #[.slice none 0 0] 44))
  have z : ∀ W : World, W = (w3.alloc (Obj.cells #[.int .i64 5, .int .i64 0, .int .i64 16, .int .i64 5, .int .i64 (layI a).op, .int .i64 0, .int .i64 6, .int .i64 1, .int .i64 15, .int .i64 7, .int .i64 (layI b).op, .int .i64 0, .int .i64 6, .int .i64 1, .int .i64 5, .int .i64 1, .int .i64 17, .int .i64 0, .int .i64 18, .int .i64 0] 35)).alloc
      (Obj.cells #[.string ⟨#[102]⟩, .slice (some ⟨w1.heap.size, 0, none⟩) 1 1, .int .i64 0, .int .i64 2, .slice (some ⟨w3.heap.size, 0, none⟩) 10 10] 30) → W.heap.size = w3.heap.size + 1 + 1 := fun W hW => by rw [hW, size_alloc, size_alloc]
  exact ⟨_, _, rfl, codes_one (old_cell _ (new_cell _ _ _ _ _ _ (z _ rfl) rfl)) (old_cell _ (new_cell _ _ _ _ _ _ (z _ rfl) rfl)) (old_cell _ (new_cell _ _ _ _ _ _ (z _ rfl) rfl)) (old_cell _ (new_cell _ _ _ _ _ _ (z _ rfl) rfl)) (old_cell _ (new_cell _ _ _ _ _ _ (z _ rfl) rfl)) hcd3,
    texts_one (new_cell _ _ _ _ _ _ (by rw [size_alloc, z _ rfl]) rfl)⟩

set_option maxRecDepth 100000 in
set_option maxHeartbeats 8000000 in
theorem meets_any (a b : Nat) (ha : a ≤ 255) (hb : b ≤ 255) (w : World) (hsg : Signs w) : Calls Tryd.prog 6 #[.int .u8 a, .int .u8 b] w fun x w' => x = .returned (.bool true) ∧ Below w.heap.size w w' := by
  have HG := Lib.hid hsg
  have ha0 : (0 : Int) ≤ (a : Int) := by omega
  have hb0 : (0 : Int) ≤ (b : Int) := by omega
  go_enter Tryd.func6, Tryd.ntmps6
  go_wp2_with fail
  refine (head_any _ hsg).mono ?_
  rintro x w1 ⟨rfl, hb1⟩
  have HB1 := Lib.hid hb1
  clear hsg hb1
  go_wp2_with fail
  refine (lay_any _ ha _).mono ?_
  rintro x w2 ⟨rfl, hb2⟩
  have HB2 := Lib.hid hb2
  clear hb2
  go_wp2_with fail
  refine (lay_any _ hb _).mono ?_
  rintro x w3 ⟨rfl, hb3⟩
  have HB3 := Lib.hid (up_trans HB2.out hb3)
  clear hb3
  go_wp2_with fail
  have HW := Lib.hid (up_trans HB1.out (up_trans (up_alloc (Below.refl w1.heap.size w1) _) HB3.out))
  refine (check_any _ _ _ (meets_rep w1 w3 a b HB3.out) (HG.out.below (up_alloc (up_alloc (up_alloc (up_alloc HW.out _) _) _) _))).mono ?_
  rintro x w4 ⟨y, rfl, hy, hb4⟩
  have HB4 := Lib.hid (up_trans (up_alloc (up_alloc (up_alloc (up_alloc HW.out _) _) _) _) hb4)
  have hm := meets_check a b hy
  have hq : (((a : Int) % 3) == ((b : Int) % 3)) = (a % 3 == b % 3) := by rw [Bool.eq_iff_iff]; simp; omega
  rw [← hm] at hq
  clear hm hy hb4
  generalize hz : (y == 0) = z at *
  cases z
  all_goals
    go_wp2_with fail
    go_ret
    exact ⟨rfl, HB4.out⟩
end Go.Proofs.YtgogjdpjegfecaaDoor
