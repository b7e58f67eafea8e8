/-
  The live question of the verifier's statements.
-/
import Derived.Test.YtgogjdpjegfecaaDoorVerifyK
namespace Go.Proofs.YtgogjdpjegfecaaDoor
open Go.RowKit
attribute [local go_sem ↓] Go.wp_at_zero Go.wp_at_succ

/-! ### Modules that are made -/
theorem tys_nil (w : World) : RepTys w (.slice none 0 0) [] := ⟨none, 0, rfl, by unfold big; simp, by simp, by unfold capOk; omega, fun _ => rfl, fun h => by simp at h, fun i => by constructor <;> simp⟩
theorem ins_nil (w : World) : RepIns w (.slice none 0 0) [] := ⟨none, 0, rfl, by unfold big; simp, by simp, by unfold capOk; omega, fun _ => rfl, fun h => by simp at h, fun i => by constructor <;> (constructor <;> simp [default])⟩
theorem texts_nil (w : World) : RepTexts w (.slice none 0 0) [] := ⟨none, 0, fun _ => .slice none 0 0, rfl, by unfold big; simp, by simp, by unfold capOk; omega, fun _ => rfl, fun h => by simp at h, fun i h => by simp at h⟩
theorem ins_one {w : World} {g : Nat} {a b : Int} (h0 : w.cell? ⟨g, 0, none⟩ = some (.int .i64 a)) (h1 : w.cell? ⟨g, 1, none⟩ = some (.int .i64 b)) (ha : i64 a) (hb : i64 b) : RepIns w (.slice (some ⟨g, 0, none⟩) 1 1) [⟨a, b⟩] := by
  refine ⟨_, 1, rfl, by unfold big; simp, by simp, by unfold capOk; omega, fun h => (by cases h), fun _ => ⟨g, 0, rfl, lt_of_cell h0, fun i hi => ?_⟩, fun i => ?_⟩
  · obtain rfl : i = 0 := by simpa using hi
    exact ⟨h0, h1⟩
  · cases i with
    | zero => exact ⟨ha, hb⟩
    | succ i => exact ⟨by constructor <;> simp [default], by constructor <;> simp [default]⟩
theorem ins_two {w : World} {g : Nat} {a b a' b' : Int} (h0 : w.cell? ⟨g, 0, none⟩ = some (.int .i64 a)) (h1 : w.cell? ⟨g, 1, none⟩ = some (.int .i64 b)) (h2 : w.cell? ⟨g, 2, none⟩ = some (.int .i64 a')) (h3 : w.cell? ⟨g, 3, none⟩ = some (.int .i64 b')) (ha : i64 a) (hb : i64 b) (ha' : i64 a') (hb' : i64 b') :
    RepIns w (.slice (some ⟨g, 0, none⟩) 2 2) [⟨a, b⟩, ⟨a', b'⟩] := by
  refine ⟨_, 2, rfl, by unfold big; simp, by simp, by unfold capOk; omega, fun h => (by cases h), fun _ => ⟨g, 0, rfl, lt_of_cell h0, fun i hi => ?_⟩, fun i => ?_⟩
  · have hi2 : i < 2 := by simpa using hi
    rcases (show i = 0 ∨ i = 1 by omega) with rfl | rfl
    · exact ⟨h0, h1⟩
    · exact ⟨h2, h3⟩
  · match i with
    | 0 => exact ⟨ha, hb⟩
    | 1 => exact ⟨ha', hb'⟩
    | i + 2 => exact ⟨by constructor <;> simp [default], by constructor <;> simp [default]⟩
theorem codes_one {w : World} {g : Nat} {v0 v1 v2 v3 v4 : Value} {c : Cd} (h0 : w.cell? ⟨g, 0, none⟩ = some v0) (h1 : w.cell? ⟨g, 1, none⟩ = some v1) (h2 : w.cell? ⟨g, 2, none⟩ = some v2) (h3 : w.cell? ⟨g, 3, none⟩ = some v3) (h4 : w.cell? ⟨g, 4, none⟩ = some v4) (hc : RepCd w v0 v1 v2 v3 v4 c) :
    RepCds w (.slice (some ⟨g, 0, none⟩) 1 1) [c] := by
  refine ⟨_, 1, fun _ => v0, fun _ => v1, fun _ => v2, fun _ => v3, fun _ => v4, rfl, by unfold big; simp, by simp, by unfold capOk; omega, fun h => (by cases h), fun _ => ⟨g, 0, rfl, lt_of_cell h0, fun i hi => ?_⟩, fun i hi => ?_⟩
  · obtain rfl : i = 0 := by simpa using hi
    exact ⟨h0, h1, h2, h3, h4⟩
  · obtain rfl : i = 0 := by simpa using hi
    exact hc
theorem codes_two {w : World} {g : Nat} {v0 v1 v2 v3 v4 x0 x1 x2 x3 x4 : Value} {c d : Cd} (h0 : w.cell? ⟨g, 0, none⟩ = some v0) (h1 : w.cell? ⟨g, 1, none⟩ = some v1) (h2 : w.cell? ⟨g, 2, none⟩ = some v2) (h3 : w.cell? ⟨g, 3, none⟩ = some v3) (h4 : w.cell? ⟨g, 4, none⟩ = some v4) (hc : RepCd w v0 v1 v2 v3 v4 c)
    (g0 : w.cell? ⟨g, 5, none⟩ = some x0) (g1 : w.cell? ⟨g, 6, none⟩ = some x1) (g2 : w.cell? ⟨g, 7, none⟩ = some x2) (g3 : w.cell? ⟨g, 8, none⟩ = some x3) (g4 : w.cell? ⟨g, 9, none⟩ = some x4) (hd : RepCd w x0 x1 x2 x3 x4 d) :
    RepCds w (.slice (some ⟨g, 0, none⟩) 2 2) [c, d] := by
  refine ⟨_, 2, fun i => if i = 0 then v0 else x0, fun i => if i = 0 then v1 else x1, fun i => if i = 0 then v2 else x2, fun i => if i = 0 then v3 else x3, fun i => if i = 0 then v4 else x4, rfl, by unfold big; simp, by simp, by unfold capOk; omega, fun h => (by cases h), fun _ => ⟨g, 0, rfl, lt_of_cell h0, fun i hi => ?_⟩, fun i hi => ?_⟩
  · have hi2 : i < 2 := by simpa using hi
    rcases (show i = 0 ∨ i = 1 by omega) with rfl | rfl
    · exact ⟨h0, h1, h2, h3, h4⟩
    · exact ⟨g0, g1, g2, g3, g4⟩
  · have hi2 : i < 2 := by simpa using hi
    rcases (show i = 0 ∨ i = 1 by omega) with rfl | rfl
    · exact hc
    · exact hd

def cF : Cd := ⟨⟨#[102]⟩, [], 0, 0, [⟨18, 0⟩]⟩
def cG : Cd := ⟨⟨#[103]⟩, [], 0, 0, [⟨2, 1⟩, ⟨18, 0⟩]⟩
def cN : Cd := ⟨⟨#[]⟩, [], 0, -1, []⟩
theorem safeF (m : Mdl) : SafeIs cF m true := by
  unfold SafeIs
  rw [if_neg (by decide)]
  exact .stop rfl
theorem safeG (m : Mdl) : SafeIs cG m false := by
  unfold SafeIs
  rw [if_neg (by decide)]
  exact .step rfl (.stop rfl)
theorem head1 {x : Int} (h : CheckIs ⟨[cF], []⟩ x) : x = 0 := by
  have hr : rightM ⟨[cF], []⟩ = true := by decide
  rcases h with ⟨h, _⟩ | ⟨_, ⟨_, h⟩ | ⟨h, _⟩⟩
  · rw [hr] at h; cases h
  · exact h
  · refine absurd ⟨fun j hj => ?_, by decide⟩ h
    obtain rfl : j = 0 := by simpa using hj
    exact safeF _
theorem head2 {x : Int} (h : CheckIs ⟨[cF, cG], []⟩ x) : x = 131 := by
  have hr : rightM ⟨[cF, cG], []⟩ = true := by decide
  rcases h with ⟨h, _⟩ | ⟨_, ⟨h, _⟩ | ⟨_, h⟩⟩
  · rw [hr] at h; cases h
  · cases (h.1 1 (by decide)).same (safeG _)
  · exact h
theorem head3 {x : Int} (h : CheckIs ⟨[cN], []⟩ x) : x = 111 := by
  have hr : rightM ⟨[cN], []⟩ = false := by decide
  rcases h with ⟨_, h⟩ | ⟨h, _⟩
  · exact h
  · rw [hr] at h; cases h

set_option maxRecDepth 100000 in
set_option maxHeartbeats 8000000 in
theorem head_any (w : World) (hsg : Signs w) : Calls Tryd.prog 7 #[] w fun e w' => e = .returned (.bool true) ∧ Below w.heap.size w w' := by
  have HG := Lib.hid hsg
  clear hsg
  have HBW1 : Hid (Below w.heap.size w (((((w.alloc (.cells #[.int .i64 18, .int .i64 0] 35)).alloc (.cells #[.string ⟨#[102]⟩, .slice none 0 0, .int .i64 0, .int .i64 0, .slice (some ⟨w.heap.size, 0, none⟩) 1 1] 30)).alloc (.cells #[.int .i64 2, .int .i64 1, .int .i64 18, .int .i64 0] 35)).alloc (.cells #[.string ⟨#[103]⟩, .slice none 0 0, .int .i64 0, .int .i64 0, .slice (some ⟨w.heap.size + 1 + 1, 0, none⟩) 2 2] 30)).alloc (.cells #[.string ⟨#[102]⟩, .slice none 0 0, .int .i64 0, .int .i64 0, .slice (some ⟨w.heap.size, 0, none⟩) 1 1] 30))) := Lib.hid (up_alloc (up_alloc (up_alloc (up_alloc (up_alloc (Below.refl _ _) _) _) _) _) _)
  have HF1 : Hid (RepCd (((((w.alloc (.cells #[.int .i64 18, .int .i64 0] 35)).alloc (.cells #[.string ⟨#[102]⟩, .slice none 0 0, .int .i64 0, .int .i64 0, .slice (some ⟨w.heap.size, 0, none⟩) 1 1] 30)).alloc (.cells #[.int .i64 2, .int .i64 1, .int .i64 18, .int .i64 0] 35)).alloc (.cells #[.string ⟨#[103]⟩, .slice none 0 0, .int .i64 0, .int .i64 0, .slice (some ⟨w.heap.size + 1 + 1, 0, none⟩) 2 2] 30)).alloc (.cells #[.string ⟨#[102]⟩, .slice none 0 0, .int .i64 0, .int .i64 0, .slice (some ⟨w.heap.size, 0, none⟩) 1 1] 30)) (.string ⟨#[102]⟩) (.slice none 0 0) (.int .i64 0) (.int .i64 0) (.slice (some ⟨w.heap.size, 0, none⟩) 1 1) cF) := Lib.hid ⟨rfl, (by unfold big; decide), tys_nil _, rfl, rfl, ins_one (old_cell _ (old_cell _ (old_cell _ (old_cell _ (new_cell _ _ _ _ _ _ (by first | rfl | simp only [size_alloc]) rfl))))) (old_cell _ (old_cell _ (old_cell _ (old_cell _ (new_cell _ _ _ _ _ _ (by first | rfl | simp only [size_alloc]) rfl))))) (by constructor <;> decide) (by constructor <;> decide), (by constructor <;> decide), (by constructor <;> decide)⟩
  have HG1 : Hid (RepCd (((((w.alloc (.cells #[.int .i64 18, .int .i64 0] 35)).alloc (.cells #[.string ⟨#[102]⟩, .slice none 0 0, .int .i64 0, .int .i64 0, .slice (some ⟨w.heap.size, 0, none⟩) 1 1] 30)).alloc (.cells #[.int .i64 2, .int .i64 1, .int .i64 18, .int .i64 0] 35)).alloc (.cells #[.string ⟨#[103]⟩, .slice none 0 0, .int .i64 0, .int .i64 0, .slice (some ⟨w.heap.size + 1 + 1, 0, none⟩) 2 2] 30)).alloc (.cells #[.string ⟨#[102]⟩, .slice none 0 0, .int .i64 0, .int .i64 0, .slice (some ⟨w.heap.size, 0, none⟩) 1 1] 30)) (.string ⟨#[103]⟩) (.slice none 0 0) (.int .i64 0) (.int .i64 0) (.slice (some ⟨w.heap.size + 1 + 1, 0, none⟩) 2 2) cG) := Lib.hid ⟨rfl, (by unfold big; decide), tys_nil _, rfl, rfl, ins_two (old_cell _ (old_cell _ (new_cell _ _ _ _ _ _ (by first | rfl | simp only [size_alloc]) rfl))) (old_cell _ (old_cell _ (new_cell _ _ _ _ _ _ (by first | rfl | simp only [size_alloc]) rfl))) (old_cell _ (old_cell _ (new_cell _ _ _ _ _ _ (by first | rfl | simp only [size_alloc]) rfl))) (old_cell _ (old_cell _ (new_cell _ _ _ _ _ _ (by first | rfl | simp only [size_alloc]) rfl))) (by constructor <;> decide) (by constructor <;> decide) (by constructor <;> decide) (by constructor <;> decide), (by constructor <;> decide), (by constructor <;> decide)⟩
  have HM1 : Hid (RepMdl (((((w.alloc (.cells #[.int .i64 18, .int .i64 0] 35)).alloc (.cells #[.string ⟨#[102]⟩, .slice none 0 0, .int .i64 0, .int .i64 0, .slice (some ⟨w.heap.size, 0, none⟩) 1 1] 30)).alloc (.cells #[.int .i64 2, .int .i64 1, .int .i64 18, .int .i64 0] 35)).alloc (.cells #[.string ⟨#[103]⟩, .slice none 0 0, .int .i64 0, .int .i64 0, .slice (some ⟨w.heap.size + 1 + 1, 0, none⟩) 2 2] 30)).alloc (.cells #[.string ⟨#[102]⟩, .slice none 0 0, .int .i64 0, .int .i64 0, .slice (some ⟨w.heap.size, 0, none⟩) 1 1] 30)) (.agg #[.slice (some ⟨w.heap.size + 1 + 1 + 1 + 1, 0, none⟩) 1 1, .slice none 0 0]) ⟨[cF], []⟩) := Lib.hid ⟨_, _, rfl, codes_one (new_cell _ _ _ _ _ _ (by first | rfl | simp only [size_alloc]) rfl) (new_cell _ _ _ _ _ _ (by first | rfl | simp only [size_alloc]) rfl) (new_cell _ _ _ _ _ _ (by first | rfl | simp only [size_alloc]) rfl) (new_cell _ _ _ _ _ _ (by first | rfl | simp only [size_alloc]) rfl) (new_cell _ _ _ _ _ _ (by first | rfl | simp only [size_alloc]) rfl) HF1.out, texts_nil _⟩
  have a10 : (((((w.alloc (.cells #[.int .i64 18, .int .i64 0] 35)).alloc (.cells #[.string ⟨#[102]⟩, .slice none 0 0, .int .i64 0, .int .i64 0, .slice (some ⟨w.heap.size, 0, none⟩) 1 1] 30)).alloc (.cells #[.int .i64 2, .int .i64 1, .int .i64 18, .int .i64 0] 35)).alloc (.cells #[.string ⟨#[103]⟩, .slice none 0 0, .int .i64 0, .int .i64 0, .slice (some ⟨w.heap.size + 1 + 1, 0, none⟩) 2 2] 30)).alloc (.cells #[.string ⟨#[102]⟩, .slice none 0 0, .int .i64 0, .int .i64 0, .slice (some ⟨w.heap.size, 0, none⟩) 1 1] 30)).cell? ⟨w.heap.size + 1, 0, none⟩ = some (.string ⟨#[102]⟩) := old_cell _ (old_cell _ (old_cell _ (new_cell _ _ _ _ _ _ (by first | rfl | simp only [size_alloc]) rfl)))
  have a11 : (((((w.alloc (.cells #[.int .i64 18, .int .i64 0] 35)).alloc (.cells #[.string ⟨#[102]⟩, .slice none 0 0, .int .i64 0, .int .i64 0, .slice (some ⟨w.heap.size, 0, none⟩) 1 1] 30)).alloc (.cells #[.int .i64 2, .int .i64 1, .int .i64 18, .int .i64 0] 35)).alloc (.cells #[.string ⟨#[103]⟩, .slice none 0 0, .int .i64 0, .int .i64 0, .slice (some ⟨w.heap.size + 1 + 1, 0, none⟩) 2 2] 30)).alloc (.cells #[.string ⟨#[102]⟩, .slice none 0 0, .int .i64 0, .int .i64 0, .slice (some ⟨w.heap.size, 0, none⟩) 1 1] 30)).cell? ⟨w.heap.size + 1, 1, none⟩ = some (.slice none 0 0) := old_cell _ (old_cell _ (old_cell _ (new_cell _ _ _ _ _ _ (by first | rfl | simp only [size_alloc]) rfl)))
  have a12 : (((((w.alloc (.cells #[.int .i64 18, .int .i64 0] 35)).alloc (.cells #[.string ⟨#[102]⟩, .slice none 0 0, .int .i64 0, .int .i64 0, .slice (some ⟨w.heap.size, 0, none⟩) 1 1] 30)).alloc (.cells #[.int .i64 2, .int .i64 1, .int .i64 18, .int .i64 0] 35)).alloc (.cells #[.string ⟨#[103]⟩, .slice none 0 0, .int .i64 0, .int .i64 0, .slice (some ⟨w.heap.size + 1 + 1, 0, none⟩) 2 2] 30)).alloc (.cells #[.string ⟨#[102]⟩, .slice none 0 0, .int .i64 0, .int .i64 0, .slice (some ⟨w.heap.size, 0, none⟩) 1 1] 30)).cell? ⟨w.heap.size + 1, 2, none⟩ = some (.int .i64 0) := old_cell _ (old_cell _ (old_cell _ (new_cell _ _ _ _ _ _ (by first | rfl | simp only [size_alloc]) rfl)))
  have a13 : (((((w.alloc (.cells #[.int .i64 18, .int .i64 0] 35)).alloc (.cells #[.string ⟨#[102]⟩, .slice none 0 0, .int .i64 0, .int .i64 0, .slice (some ⟨w.heap.size, 0, none⟩) 1 1] 30)).alloc (.cells #[.int .i64 2, .int .i64 1, .int .i64 18, .int .i64 0] 35)).alloc (.cells #[.string ⟨#[103]⟩, .slice none 0 0, .int .i64 0, .int .i64 0, .slice (some ⟨w.heap.size + 1 + 1, 0, none⟩) 2 2] 30)).alloc (.cells #[.string ⟨#[102]⟩, .slice none 0 0, .int .i64 0, .int .i64 0, .slice (some ⟨w.heap.size, 0, none⟩) 1 1] 30)).cell? ⟨w.heap.size + 1, 3, none⟩ = some (.int .i64 0) := old_cell _ (old_cell _ (old_cell _ (new_cell _ _ _ _ _ _ (by first | rfl | simp only [size_alloc]) rfl)))
  have a14 : (((((w.alloc (.cells #[.int .i64 18, .int .i64 0] 35)).alloc (.cells #[.string ⟨#[102]⟩, .slice none 0 0, .int .i64 0, .int .i64 0, .slice (some ⟨w.heap.size, 0, none⟩) 1 1] 30)).alloc (.cells #[.int .i64 2, .int .i64 1, .int .i64 18, .int .i64 0] 35)).alloc (.cells #[.string ⟨#[103]⟩, .slice none 0 0, .int .i64 0, .int .i64 0, .slice (some ⟨w.heap.size + 1 + 1, 0, none⟩) 2 2] 30)).alloc (.cells #[.string ⟨#[102]⟩, .slice none 0 0, .int .i64 0, .int .i64 0, .slice (some ⟨w.heap.size, 0, none⟩) 1 1] 30)).cell? ⟨w.heap.size + 1, 4, none⟩ = some (.slice (some ⟨w.heap.size, 0, none⟩) 1 1) := old_cell _ (old_cell _ (old_cell _ (new_cell _ _ _ _ _ _ (by first | rfl | simp only [size_alloc]) rfl)))
  have a30 : (((((w.alloc (.cells #[.int .i64 18, .int .i64 0] 35)).alloc (.cells #[.string ⟨#[102]⟩, .slice none 0 0, .int .i64 0, .int .i64 0, .slice (some ⟨w.heap.size, 0, none⟩) 1 1] 30)).alloc (.cells #[.int .i64 2, .int .i64 1, .int .i64 18, .int .i64 0] 35)).alloc (.cells #[.string ⟨#[103]⟩, .slice none 0 0, .int .i64 0, .int .i64 0, .slice (some ⟨w.heap.size + 1 + 1, 0, none⟩) 2 2] 30)).alloc (.cells #[.string ⟨#[102]⟩, .slice none 0 0, .int .i64 0, .int .i64 0, .slice (some ⟨w.heap.size, 0, none⟩) 1 1] 30)).cell? ⟨w.heap.size + 1 + 1 + 1, 0, none⟩ = some (.string ⟨#[103]⟩) := old_cell _ (new_cell _ _ _ _ _ _ (by first | rfl | simp only [size_alloc]) rfl)
  have a31 : (((((w.alloc (.cells #[.int .i64 18, .int .i64 0] 35)).alloc (.cells #[.string ⟨#[102]⟩, .slice none 0 0, .int .i64 0, .int .i64 0, .slice (some ⟨w.heap.size, 0, none⟩) 1 1] 30)).alloc (.cells #[.int .i64 2, .int .i64 1, .int .i64 18, .int .i64 0] 35)).alloc (.cells #[.string ⟨#[103]⟩, .slice none 0 0, .int .i64 0, .int .i64 0, .slice (some ⟨w.heap.size + 1 + 1, 0, none⟩) 2 2] 30)).alloc (.cells #[.string ⟨#[102]⟩, .slice none 0 0, .int .i64 0, .int .i64 0, .slice (some ⟨w.heap.size, 0, none⟩) 1 1] 30)).cell? ⟨w.heap.size + 1 + 1 + 1, 1, none⟩ = some (.slice none 0 0) := old_cell _ (new_cell _ _ _ _ _ _ (by first | rfl | simp only [size_alloc]) rfl)
  have a32 : (((((w.alloc (.cells #[.int .i64 18, .int .i64 0] 35)).alloc (.cells #[.string ⟨#[102]⟩, .slice none 0 0, .int .i64 0, .int .i64 0, .slice (some ⟨w.heap.size, 0, none⟩) 1 1] 30)).alloc (.cells #[.int .i64 2, .int .i64 1, .int .i64 18, .int .i64 0] 35)).alloc (.cells #[.string ⟨#[103]⟩, .slice none 0 0, .int .i64 0, .int .i64 0, .slice (some ⟨w.heap.size + 1 + 1, 0, none⟩) 2 2] 30)).alloc (.cells #[.string ⟨#[102]⟩, .slice none 0 0, .int .i64 0, .int .i64 0, .slice (some ⟨w.heap.size, 0, none⟩) 1 1] 30)).cell? ⟨w.heap.size + 1 + 1 + 1, 2, none⟩ = some (.int .i64 0) := old_cell _ (new_cell _ _ _ _ _ _ (by first | rfl | simp only [size_alloc]) rfl)
  have a33 : (((((w.alloc (.cells #[.int .i64 18, .int .i64 0] 35)).alloc (.cells #[.string ⟨#[102]⟩, .slice none 0 0, .int .i64 0, .int .i64 0, .slice (some ⟨w.heap.size, 0, none⟩) 1 1] 30)).alloc (.cells #[.int .i64 2, .int .i64 1, .int .i64 18, .int .i64 0] 35)).alloc (.cells #[.string ⟨#[103]⟩, .slice none 0 0, .int .i64 0, .int .i64 0, .slice (some ⟨w.heap.size + 1 + 1, 0, none⟩) 2 2] 30)).alloc (.cells #[.string ⟨#[102]⟩, .slice none 0 0, .int .i64 0, .int .i64 0, .slice (some ⟨w.heap.size, 0, none⟩) 1 1] 30)).cell? ⟨w.heap.size + 1 + 1 + 1, 3, none⟩ = some (.int .i64 0) := old_cell _ (new_cell _ _ _ _ _ _ (by first | rfl | simp only [size_alloc]) rfl)
  have a34 : (((((w.alloc (.cells #[.int .i64 18, .int .i64 0] 35)).alloc (.cells #[.string ⟨#[102]⟩, .slice none 0 0, .int .i64 0, .int .i64 0, .slice (some ⟨w.heap.size, 0, none⟩) 1 1] 30)).alloc (.cells #[.int .i64 2, .int .i64 1, .int .i64 18, .int .i64 0] 35)).alloc (.cells #[.string ⟨#[103]⟩, .slice none 0 0, .int .i64 0, .int .i64 0, .slice (some ⟨w.heap.size + 1 + 1, 0, none⟩) 2 2] 30)).alloc (.cells #[.string ⟨#[102]⟩, .slice none 0 0, .int .i64 0, .int .i64 0, .slice (some ⟨w.heap.size, 0, none⟩) 1 1] 30)).cell? ⟨w.heap.size + 1 + 1 + 1, 4, none⟩ = some (.slice (some ⟨w.heap.size + 1 + 1, 0, none⟩) 2 2) := old_cell _ (new_cell _ _ _ _ _ _ (by first | rfl | simp only [size_alloc]) rfl)
  go_enter Tryd.func7, Tryd.ntmps7
  go_wp2_with fail
  refine (check_any _ _ _ HM1.out (HG.out.below HBW1.out)).mono ?_
  rintro e w2 ⟨x, rfl, hx, hb2⟩
  obtain rfl := head1 hx
  have HB2 := Lib.hid hb2
  obtain ⟨hc2, _, hs2⟩ := bcell hb2
  have b10 := (hc2 _ 0 (lt_of_cell a10)).trans a10
  have b11 := (hc2 _ 1 (lt_of_cell a11)).trans a11
  have b12 := (hc2 _ 2 (lt_of_cell a12)).trans a12
  have b13 := (hc2 _ 3 (lt_of_cell a13)).trans a13
  have b14 := (hc2 _ 4 (lt_of_cell a14)).trans a14
  have b30 := (hc2 _ 0 (lt_of_cell a30)).trans a30
  have b31 := (hc2 _ 1 (lt_of_cell a31)).trans a31
  have b32 := (hc2 _ 2 (lt_of_cell a32)).trans a32
  have b33 := (hc2 _ 3 (lt_of_cell a33)).trans a33
  have b34 := (hc2 _ 4 (lt_of_cell a34)).trans a34
  have HBW2 := Lib.hid (up_trans HBW1.out hb2)
  have HUP := Lib.hid (up_alloc (b := w2) (Below.refl _ _) (.cells #[.string ⟨#[102]⟩, .slice none 0 0, .int .i64 0, .int .i64 0, .slice (some ⟨w.heap.size, 0, none⟩) 1 1, .string ⟨#[103]⟩, .slice none 0 0, .int .i64 0, .int .i64 0, .slice (some ⟨w.heap.size + 1 + 1, 0, none⟩) 2 2] 30))
  have HF2 : Hid (RepCd (w2.alloc (.cells #[.string ⟨#[102]⟩, .slice none 0 0, .int .i64 0, .int .i64 0, .slice (some ⟨w.heap.size, 0, none⟩) 1 1, .string ⟨#[103]⟩, .slice none 0 0, .int .i64 0, .int .i64 0, .slice (some ⟨w.heap.size + 1 + 1, 0, none⟩) 2 2] 30)) (.string ⟨#[102]⟩) (.slice none 0 0) (.int .i64 0) (.int .i64 0) (.slice (some ⟨w.heap.size, 0, none⟩) 1 1) cF) := Lib.hid ((HF1.out.later HB2.out).later HUP.out)
  have HG2 : Hid (RepCd (w2.alloc (.cells #[.string ⟨#[102]⟩, .slice none 0 0, .int .i64 0, .int .i64 0, .slice (some ⟨w.heap.size, 0, none⟩) 1 1, .string ⟨#[103]⟩, .slice none 0 0, .int .i64 0, .int .i64 0, .slice (some ⟨w.heap.size + 1 + 1, 0, none⟩) 2 2] 30)) (.string ⟨#[103]⟩) (.slice none 0 0) (.int .i64 0) (.int .i64 0) (.slice (some ⟨w.heap.size + 1 + 1, 0, none⟩) 2 2) cG) := Lib.hid ((HG1.out.later HB2.out).later HUP.out)
  have HM2 : Hid (RepMdl (w2.alloc (.cells #[.string ⟨#[102]⟩, .slice none 0 0, .int .i64 0, .int .i64 0, .slice (some ⟨w.heap.size, 0, none⟩) 1 1, .string ⟨#[103]⟩, .slice none 0 0, .int .i64 0, .int .i64 0, .slice (some ⟨w.heap.size + 1 + 1, 0, none⟩) 2 2] 30)) (.agg #[.slice (some ⟨w2.heap.size, 0, none⟩) 2 2, .slice none 0 0]) ⟨[cF, cG], []⟩) := Lib.hid ⟨_, _, rfl, codes_two (new_cell _ _ _ _ _ _ (by first | rfl | simp only [size_alloc]) rfl) (new_cell _ _ _ _ _ _ (by first | rfl | simp only [size_alloc]) rfl) (new_cell _ _ _ _ _ _ (by first | rfl | simp only [size_alloc]) rfl) (new_cell _ _ _ _ _ _ (by first | rfl | simp only [size_alloc]) rfl) (new_cell _ _ _ _ _ _ (by first | rfl | simp only [size_alloc]) rfl) HF2.out (new_cell _ _ _ _ _ _ (by first | rfl | simp only [size_alloc]) rfl) (new_cell _ _ _ _ _ _ (by first | rfl | simp only [size_alloc]) rfl) (new_cell _ _ _ _ _ _ (by first | rfl | simp only [size_alloc]) rfl) (new_cell _ _ _ _ _ _ (by first | rfl | simp only [size_alloc]) rfl) (new_cell _ _ _ _ _ _ (by first | rfl | simp only [size_alloc]) rfl) HG2.out, texts_nil _⟩
  clear hx hb2 hc2 hs2 a10 a11 a12 a13 a14 a30 a31 a32 a33 a34
  go_wp2_with fail
  refine (check_any _ _ _ HM2.out (HG.out.below (up_alloc HBW2.out _))).mono ?_
  rintro e w3 ⟨x, rfl, hx, hb3⟩
  obtain rfl := head2 hx
  have HBW3 := Lib.hid (up_trans (up_alloc HBW2.out (.cells #[.string ⟨#[102]⟩, .slice none 0 0, .int .i64 0, .int .i64 0, .slice (some ⟨w.heap.size, 0, none⟩) 1 1, .string ⟨#[103]⟩, .slice none 0 0, .int .i64 0, .int .i64 0, .slice (some ⟨w.heap.size + 1 + 1, 0, none⟩) 2 2] 30)) hb3)
  have HM3 : Hid (RepMdl (w3.alloc (.cells #[.string ⟨#[]⟩, .slice none 0 0, .int .i64 0, .int .i64 (-1), .slice none 0 0] 30)) (.agg #[.slice (some ⟨w3.heap.size, 0, none⟩) 1 1, .slice none 0 0]) ⟨[cN], []⟩) := Lib.hid ⟨_, _, rfl, codes_one (new_cell _ _ _ _ _ _ (by first | rfl | simp only [size_alloc]) rfl) (new_cell _ _ _ _ _ _ (by first | rfl | simp only [size_alloc]) rfl) (new_cell _ _ _ _ _ _ (by first | rfl | simp only [size_alloc]) rfl) (new_cell _ _ _ _ _ _ (by first | rfl | simp only [size_alloc]) rfl) (new_cell _ _ _ _ _ _ (by first | rfl | simp only [size_alloc]) rfl) ⟨rfl, (by unfold big; decide), tys_nil _, rfl, rfl, ins_nil _, (by constructor <;> decide), (by constructor <;> decide)⟩, texts_nil _⟩
  clear hx hb3 b10 b11 b12 b13 b14 b30 b31 b32 b33 b34
  go_wp2_with fail
  refine (check_any _ _ _ HM3.out (HG.out.below (up_alloc HBW3.out _))).mono ?_
  rintro e w4 ⟨x, rfl, hx, hb4⟩
  obtain rfl := head3 hx
  have HBW4 := Lib.hid (up_trans (up_alloc HBW3.out (.cells #[.string ⟨#[]⟩, .slice none 0 0, .int .i64 0, .int .i64 (-1), .slice none 0 0] 30)) hb4)
  clear hx hb4
  go_wp2_with fail
  go_ret
  exact ⟨rfl, HBW4.out⟩
end Go.Proofs.YtgogjdpjegfecaaDoor
