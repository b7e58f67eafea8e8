/-
  Modules that are made: their lists out of cells.
-/
import Derived.Test.YtmdceokmpjcllaaGreatDoorVerifyK
namespace Go.Proofs.YtmdceokmpjcllaaGreatDoor
open Go.RowKit
attribute [local go_sem ↓] Go.wp_at_zero Go.wp_at_succ

/-! ### Modules that are made -/
theorem tys_nil (w : World) : RepTys w (.slice none 0 0) [] := ⟨none, 0, rfl, by unfold big; simp, by simp, by unfold capOk; omega, fun _ => rfl, fun h => by simp at h, fun i => by constructor <;> simp⟩
theorem ins_nil (w : World) : RepIns w (.slice none 0 0) [] := ⟨none, 0, rfl, by unfold big; simp, by simp, by unfold capOk; omega, fun _ => rfl, fun h => by simp at h, fun i => by constructor <;> (constructor <;> simp [default])⟩
theorem texts_nil (w : World) : RepTexts w (.slice none 0 0) [] := ⟨none, 0, fun _ => .slice none 0 0, rfl, by unfold big; simp, by simp, by unfold capOk; omega, fun _ => rfl, fun h => by simp at h, fun i h => by simp at h⟩
theorem ins_one {w : World} {g : Nat} {a b : Int} (h0 : w.cell? ⟨g, 0, none⟩ = some (.int .i64 a)) (h1 : w.cell? ⟨g, 1, none⟩ = some (.int .i64 b)) (ha : i64 a) (hb : i64 b) : RepIns w (.slice (some ⟨g, 0, none⟩) 1 1) [⟨a, b⟩] := by
  refine ⟨_, 1, rfl, by unfold big; simp, by simp, by unfold capOk; omega, fun h => (by cases h), fun _ => ⟨g, 0, rfl, lt_of_cell h0, fun i hi => ?_⟩, fun i => ?_⟩
  · obtain rfl : i = 0 := by simpa using hi
    exact ⟨h0, h1⟩
  · cases i with
    | zero => exact ⟨ha, hb⟩
    | succ i => exact ⟨by constructor <;> simp [default], by constructor <;> simp [default]⟩
theorem ins_two {w : World} {g : Nat} {a b a' b' : Int} (h0 : w.cell? ⟨g, 0, none⟩ = some (.int .i64 a)) (h1 : w.cell? ⟨g, 1, none⟩ = some (.int .i64 b)) (h2 : w.cell? ⟨g, 2, none⟩ = some (.int .i64 a')) (h3 : w.cell? ⟨g, 3, none⟩ = some (.int .i64 b')) (ha : i64 a) (hb : i64 b) (ha' : i64 a') (hb' : i64 b') :
    RepIns w (.slice (some ⟨g, 0, none⟩) 2 2) [⟨a, b⟩, ⟨a', b'⟩] := by
  refine ⟨_, 2, rfl, by unfold big; simp, by simp, by unfold capOk; omega, fun h => (by cases h), fun _ => ⟨g, 0, rfl, lt_of_cell h0, fun i hi => ?_⟩, fun i => ?_⟩
  · have hi2 : i < 2 := by simpa using hi
    rcases (show i = 0 ∨ i = 1 by omega) with rfl | rfl
    · exact ⟨h0, h1⟩
    · exact ⟨h2, h3⟩
  · match i with
    | 0 => exact ⟨ha, hb⟩
    | 1 => exact ⟨ha', hb'⟩
    | i + 2 => exact ⟨by constructor <;> simp [default], by constructor <;> simp [default]⟩
theorem codes_one {w : World} {g : Nat} {v0 v1 v2 v3 v4 : Value} {c : Cd} (h0 : w.cell? ⟨g, 0, none⟩ = some v0) (h1 : w.cell? ⟨g, 1, none⟩ = some v1) (h2 : w.cell? ⟨g, 2, none⟩ = some v2) (h3 : w.cell? ⟨g, 3, none⟩ = some v3) (h4 : w.cell? ⟨g, 4, none⟩ = some v4) (hc : RepCd w v0 v1 v2 v3 v4 c) :
    RepCds w (.slice (some ⟨g, 0, none⟩) 1 1) [c] := by
  refine ⟨_, 1, fun _ => v0, fun _ => v1, fun _ => v2, fun _ => v3, fun _ => v4, rfl, by unfold big; simp, by simp, by unfold capOk; omega, fun h => (by cases h), fun _ => ⟨g, 0, rfl, lt_of_cell h0, fun i hi => ?_⟩, fun i hi => ?_⟩
  · obtain rfl : i = 0 := by simpa using hi
    exact ⟨h0, h1, h2, h3, h4⟩
  · obtain rfl : i = 0 := by simpa using hi
    exact hc
theorem codes_two {w : World} {g : Nat} {v0 v1 v2 v3 v4 x0 x1 x2 x3 x4 : Value} {c d : Cd} (h0 : w.cell? ⟨g, 0, none⟩ = some v0) (h1 : w.cell? ⟨g, 1, none⟩ = some v1) (h2 : w.cell? ⟨g, 2, none⟩ = some v2) (h3 : w.cell? ⟨g, 3, none⟩ = some v3) (h4 : w.cell? ⟨g, 4, none⟩ = some v4) (hc : RepCd w v0 v1 v2 v3 v4 c)
    (g0 : w.cell? ⟨g, 5, none⟩ = some x0) (g1 : w.cell? ⟨g, 6, none⟩ = some x1) (g2 : w.cell? ⟨g, 7, none⟩ = some x2) (g3 : w.cell? ⟨g, 8, none⟩ = some x3) (g4 : w.cell? ⟨g, 9, none⟩ = some x4) (hd : RepCd w x0 x1 x2 x3 x4 d) :
    RepCds w (.slice (some ⟨g, 0, none⟩) 2 2) [c, d] := by
  refine ⟨_, 2, fun i => if i = 0 then v0 else x0, fun i => if i = 0 then v1 else x1, fun i => if i = 0 then v2 else x2, fun i => if i = 0 then v3 else x3, fun i => if i = 0 then v4 else x4, rfl, by unfold big; simp, by simp, by unfold capOk; omega, fun h => (by cases h), fun _ => ⟨g, 0, rfl, lt_of_cell h0, fun i hi => ?_⟩, fun i hi => ?_⟩
  · have hi2 : i < 2 := by simpa using hi
    rcases (show i = 0 ∨ i = 1 by omega) with rfl | rfl
    · exact ⟨h0, h1, h2, h3, h4⟩
    · exact ⟨g0, g1, g2, g3, g4⟩
  · have hi2 : i < 2 := by simpa using hi
    rcases (show i = 0 ∨ i = 1 by omega) with rfl | rfl
    · exact hc
    · exact hd

end Go.Proofs.YtmdceokmpjcllaaGreatDoor
