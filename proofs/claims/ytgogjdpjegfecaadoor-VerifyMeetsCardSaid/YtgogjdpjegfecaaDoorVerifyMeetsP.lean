/-
  The function of two ways, in plain words: whether it is safe.
-/
import Derived.Test.YtgogjdpjegfecaaDoorVerifyL
namespace Go.Proofs.YtgogjdpjegfecaaDoor
open Go.RowKit

/-- so many rounds of 'safe' -/
def runW (c : Cd) (m : Mdl) : Nat → Tab × List Nat → Option Bool
  | 0, _ => none
  | n + 1, x => match stepW c m x with
    | .inr b => some b
    | .inl y => runW c m n y
theorem runW_done {c : Cd} {m : Mdl} {b : Bool} : ∀ (n : Nat) (x : Tab × List Nat), runW c m n x = some b → Done (stepW c m) x b
  | 0, x, h => by cases h
  | n + 1, x, h => by
    unfold runW at h
    split at h
    · rename_i b' e
      injection h with h
      subst h
      exact .stop e
    · rename_i y e
      exact .step e (runW_done n y h)
def layI (t : Nat) : Ins := if t % 3 = 0 then ⟨2, 0⟩ else if t % 3 = 1 then ⟨3, 0⟩ else ⟨4, 0⟩
def cM (a b : Ins) : Cd := ⟨⟨#[102]⟩, [2], 0, 2, [⟨5, 0⟩, ⟨16, 5⟩, a, ⟨6, 1⟩, ⟨15, 7⟩, b, ⟨6, 1⟩, ⟨5, 1⟩, ⟨17, 0⟩, ⟨18, 0⟩]⟩
def mM (a b : Ins) : Mdl := ⟨[cM a b], [[]]⟩
theorem meets_of {a b : Ins} {r : Bool} (h : runW (cM a b) (mM a b) 12 (tab0 (cM a b), [0]) = some r) (hr : rightM (mM a b) = true) {x : Int} (hx : CheckIs (mM a b) x) : (x == 0) = r := by
  have hs : SafeIs (cM a b) (mM a b) r := by
    unfold SafeIs
    rw [if_neg (by simp [cM])]
    exact runW_done _ _ h
  rcases hx with ⟨g, _⟩ | ⟨_, ⟨g, rfl⟩ | ⟨g, rfl⟩⟩
  · rw [hr] at g; cases g
  · have := g.1 0 (by simp [mM])
    exact (hs.same this).symm ▸ rfl
  · cases r
    · rfl
    · refine absurd ⟨fun j hj => ?_, by simp [mM]⟩ g
      obtain rfl : j = 0 := by simpa [mM] using hj
      exact hs
theorem meets_check (a b : Nat) {x : Int} (hx : CheckIs (mM (layI a) (layI b)) x) : (x == 0) = (a % 3 == b % 3) := by
  have ha : a % 3 = 0 ∨ a % 3 = 1 ∨ a % 3 = 2 := by omega
  have hb : b % 3 = 0 ∨ b % 3 = 1 ∨ b % 3 = 2 := by omega
  rcases ha with ha | ha | ha <;> rcases hb with hb | hb | hb <;> rw [ha, hb] <;> simp only [layI, ha, hb] at hx <;> exact meets_of (by kernel_rfl) (by kernel_rfl) hx
end Go.Proofs.YtgogjdpjegfecaaDoor
