/-
  The head's second run; a function that is not there; a module that goes round and round.
-/
import Derived.Test.YtmdceokmpjcllaaGreatDoorVmQ
namespace Go.Proofs.YtmdceokmpjcllaaGreatDoor
open Go.RowKit
attribute [local go_sem ↓] Go.wp_at_zero Go.wp_at_succ

/-- too little gas -/
def GQ (t : Int) (s : Mac) : Prop := t = 1 ∧ s.U = 2
theorem head_gas (g : Nat) (base : Nat) (W0 W : World) (X : Nat) (s : Mac) (hlt : g < base) (hi : RepIns W0 (.slice (some ⟨g, 0, none⟩) hIns.length hIns.length) hIns) (hb : Below base W0 W) (hm : MacAt base W X s) (h1 : One (.slice (some ⟨g, 0, none⟩) 3 3) (.int .i64 1) 2 0 0 0 [] s) :
    Calls Tryz.prog 29 #[.pointer (some ⟨X, 0, none⟩)] W fun e w' => ∃ (t : Int) (s' : Mac), e = .returned (.int .i64 t) ∧ MacAt base w' X s' ∧ Below base W w' ∧ GQ t s' := by
  refine runs_rule base X W0 (fun g' s => g' = 1 ∧ One (.slice (some ⟨g, 0, none⟩) 3 3) (.int .i64 1) 2 0 0 0 [] s) GQ 1 s W hm hb ⟨rfl, h1⟩ ?_ ?_ ?_
  · rintro g' s ⟨_, _, _, _, f, q, _⟩ hf
    rw [hf] at q; cases q
  · rintro g' s ⟨_, _, _, q1, f, q, _⟩
    rw [q, q1]; simp
  · rintro g' s f r ⟨rfl, hL, hU, hfr, f0, q, hc4, hc2, hpc, hst⟩ hf
    rw [hf] at q
    injection q with q1 q2
    subst q1 q2
    refine ⟨_, _, ins_at (p := 0) hi (by decide) hc4 hpc (by decide), fun off gb n cap e => ?_, fun e => ?_, fun _ w hw hbw => ?_⟩
    · rw [hc4] at e; cases e; exact hlt
    · rw [hfr] at e; cases e
    · have hu : useB s.L s.U 3 = false := by rw [hL, hU]; rfl
      have hv : useU s.L s.U 3 = 2 := by rw [hL, hU]; rfl
      refine (step_gas base X _ _ 3 w hw (by rw [hL]; constructor <;> decide) (by rw [hU]; constructor <;> decide) (by constructor <;> decide)).mono ?_
      rintro e w' ⟨rfl, hm', hb'⟩
      exact ⟨1, _, by rw [hu]; rfl, hm', hb', fun _ => ⟨rfl, hv⟩, fun h => by cases h⟩

/-! ### Round and round -/
def idIns (c : Int) : List Ins := [⟨1, c⟩, ⟨15, 0⟩]
def cI (c : Int) : Cd := ⟨⟨#[102]⟩, [], 0, 0, idIns c⟩
def idS (_ : Nat) : Sta := ⟨[], fun j => ([] : List Int).getD j 0⟩
theorem goodI (n : Nat) (hn : n ≤ 255) (x : Int) (h : CheckIs ⟨[cI n], []⟩ x) : x = 0 := by
  refine good_zero (by rfl) ⟨fun j hj => ?_, by simp⟩ x h
  obtain rfl : j = 0 := by simpa using hj
  show SafeIs (cI n) ⟨[cI n], []⟩ true
  have hin : inB (n : Int) 100001 = true := by simp [inB]; omega
  have h0 : rowTab idS 0 = tab0 (cI n) := rowTab_zero _ _ rfl
  have hd : doesS (cI n) ⟨[cI n], []⟩ ((cI n).ins.getD 0 default) (idS 0) = some (idS 1) := by
    have e : (cI n).ins.getD 0 default = ⟨1, (n : Int)⟩ := rfl
    rw [e, doesS, if_pos rfl, if_pos hin]
    rfl
  have h1 := row_step (cI n) ⟨[cI n], []⟩ idS 0 (show 1 < 2 by decide) (show (1 : Int) ≠ 18 ∧ (1 : Int) ≠ 15 ∧ (1 : Int) ≠ 16 by decide) hd (Nat.zero_le _)
  have h2 : stepW (cI n) ⟨[cI n], []⟩ (rowTab idS 1, [1]) = .inr true := by
    have e1 : rowTab idS 1 1 = some (idS 1) := rfl
    have e2 : doesS (cI n) ⟨[cI n], []⟩ ((cI n).ins.getD 1 default) (idS 1) = some (idS 1) := rfl
    have e3 : behindL (((1 : Nat)) : Int) ((cI n).ins.getD 1 default) = [0] := rfl
    have e4 : foldTo (cI n).ins.length (idS 1) [0] (rowTab idS 1, []) = some (upd (rowTab idS 1) 0 ⟨[], mergeS (idS 0).sl (idS 1).sl⟩, []) := by
      have hch : changed (idS 0).sl (idS 1).sl = false := by simp [changed, idS]
      have hst : stepTo 2 (idS 1) 0 (rowTab idS 1, []) = some (upd (rowTab idS 1) 0 ⟨[], mergeS (idS 0).sl (idS 1).sl⟩, []) := by
        unfold stepTo
        rw [if_pos (by decide)]
        have e5 : rowTab idS 1 (Int.toNat 0) = some (idS 0) := rfl
        simp only [e5, hch]
        rfl
      show (stepTo 2 (idS 1) 0 (rowTab idS 1, [])).bind (foldTo 2 (idS 1) []) = _
      rw [hst]
      rfl
    rw [show ([1] : List Nat) = [] ++ [1] from rfl, stepW_at (cI n) _ _ [] 1 (idS 1) e1, e2]
    simp only [e3, e4]
    rfl
  unfold SafeIs
  rw [if_neg (show ¬ (cI n).ins.length = 0 from fun h => absurd (show (2 : Nat) = 0 from h) (by decide)), ← h0]
  exact .step h1 (.stop h2)
/-- all its gas -/
def IQ (L : Int) (t : Int) (s : Mac) : Prop := t = 1 ∧ s.U = L
def IInv (c4 : Value) (c L : Int) (g : Nat) (s : Mac) : Prop :=
  s.L = L ∧ 0 ≤ s.U ∧ s.U ≤ L ∧ 0 ≤ s.free ∧ (∃ f, s.frs = [f] ∧ f.c4 = c4 ∧ ((f.pc = 0 ∧ (0 < c → s.free ≤ 1 ∧ g = 2 * (L - s.U).toNat + 2)) ∨ (f.pc = 1 ∧ (0 < c → s.free = 0 ∧ g = 2 * (L - s.U).toNat + 3)))) ∧ (c = 0 → s.free + g = 65536 ∧ 0 < g)
theorem idle_runs (g : Nat) (base : Nat) (W0 W : World) (X : Nat) (s : Mac) (c L : Int) (hc0 : 0 ≤ c) (hc1 : c ≤ 255) (hL0 : 0 ≤ L) (hL1 : L ≤ 100000) (hlt : g < base) (hi : RepIns W0 (.slice (some ⟨g, 0, none⟩) (idIns c).length (idIns c).length) (idIns c)) (hb : Below base W0 W) (hm : MacAt base W X s) (h1 : One (.slice (some ⟨g, 0, none⟩) 2 2) (.int .i64 0) L 0 0 0 [] s) :
    Calls Tryz.prog 29 #[.pointer (some ⟨X, 0, none⟩)] W fun e w' => ∃ (t : Int) (s' : Mac), e = .returned (.int .i64 t) ∧ MacAt base w' X s' ∧ Below base W w' ∧ IQ L t s' := by
  obtain ⟨e1, e2, e3, f, e4, e5, _, e6, _⟩ := h1
  refine runs_rule base X W0 (IInv (.slice (some ⟨g, 0, none⟩) 2 2) c L) (IQ L) (if c = 0 then 65536 else 2 * L.toNat + 2) s W hm hb ⟨e1, by omega, by omega, by omega, ⟨f, e4, e5, .inl ⟨e6, fun h => ⟨by omega, ?_⟩⟩⟩, fun h => ?_⟩ ?_ ?_ ?_
  · rw [if_neg (by omega), e2, Int.sub_zero]
  · rw [if_pos h, e3]; exact ⟨rfl, by decide⟩
  · rintro g' s ⟨_, _, _, _, ⟨f, q, _⟩, _⟩ hf
    rw [hf] at q; cases q
  · rintro g' s ⟨_, _, _, q0, ⟨f, q, _, q2⟩, q3⟩
    refine ⟨by rw [q]; simp, q0, ?_⟩
    by_cases hc : c = 0
    · have := q3 hc; omega
    · rcases q2 with ⟨_, q2⟩ | ⟨_, q2⟩ <;> (have := q2 (by omega); omega)
  · rintro g' s f r ⟨hL, hU0, hU1, hf0, ⟨f1, q, hc4, hpc⟩, hz⟩ hf
    rw [hf] at q
    injection q with q1 q2
    subst q1 q2
    have hgb : ∀ (off gb n cap : Nat), f.c4 = .slice (some ⟨gb, off, none⟩) n cap → gb < base := fun off gb n cap e => by rw [hc4] at e; cases e; exact hlt
    have hIL : i64 s.L := by rw [hL]; constructor <;> omega
    have hIU : i64 s.U := by constructor <;> omega
    have hIC : i64 c := by constructor <;> omega
    rcases hpc with ⟨hpc, hg⟩ | ⟨hpc, hg⟩
    · refine ⟨_, _, ins_at (p := 0) hi (show (2 : Nat) < 100000 by decide) hc4 hpc (show (0 : Nat) < 2 by decide), hgb, fun _ => ⟨rfl, hL⟩, fun hne w hw hbw => ?_⟩
      have hfr : freeOf 1 c s.free = if c = 0 then s.free + 1 else 0 := by
        unfold freeOf
        by_cases hc : c = 0
        · rw [if_neg (by omega), if_pos hc]
        · rw [if_pos ⟨rfl, by omega⟩, if_neg hc]
      refine (step_gas base X _ _ c w hw hIL hIU hIC).mono ?_
      rintro e w' ⟨rfl, hm', hb'⟩
      by_cases hu : 0 ≤ s.U ∧ s.U ≤ s.L ∧ 0 ≤ c ∧ c ≤ s.L - s.U
      · obtain ⟨u1, u2⟩ := use_yes hu
        have hne' : freeOf 1 c s.free ≠ 65536 := hne
        refine ⟨0, _, by rw [u2]; rfl, hm', hb', fun h => absurd rfl h, fun _ => ?_⟩
        refine ⟨if c = 0 then g' - 1 else 2 * (L - (s.U + c)).toNat + 3, ?_, hL, ?_, ?_, ?_, ⟨_, rfl, hc4, .inr ⟨?_, fun hc => ⟨?_, ?_⟩⟩⟩, fun hc => ⟨?_, ?_⟩⟩
        · by_cases hc : c = 0
          · rw [if_pos hc]; have := hz hc; omega
          · rw [if_neg hc]; have := hg (by omega); omega
        · show 0 ≤ useU s.L s.U c
          rw [u1]; omega
        · show useU s.L s.U c ≤ L
          rw [u1]; omega
        · show 0 ≤ freeOf 1 c s.free
          rw [hfr]; split <;> omega
        · show f.pc + 1 = 1
          rw [hpc]; rfl
        · show freeOf 1 c s.free = 0
          rw [hfr, if_neg (by omega)]
        · show _ = 2 * (L - useU s.L s.U c).toNat + 3
          rw [u1, if_neg (by omega)]
        · show freeOf 1 c s.free + _ = 65536
          have := hz hc
          rw [hfr, if_pos hc, if_pos hc]; omega
        · rw [if_pos hc]
          have := hz hc
          rw [hfr, if_pos hc] at hne'
          omega
      · obtain ⟨u1, u2⟩ := use_no hu
        refine ⟨1, _, by rw [u2]; rfl, hm', hb', fun _ => ⟨rfl, ?_⟩, fun h => by cases h⟩
        show useU s.L s.U c = L
        rw [u1, hL]
    · refine ⟨_, _, ins_at (p := 1) hi (show (2 : Nat) < 100000 by decide) hc4 hpc (show (1 : Nat) < 2 by decide), hgb, fun _ => ⟨rfl, hL⟩, fun hne w hw hbw => ?_⟩
      have hfr : freeOf 15 0 s.free = s.free + 1 := rfl
      have hne' : s.free + 1 ≠ 65536 := hne
      refine (step_jump base X _ { f with pc := f.pc + 1 } [] 0 w hw rfl).mono ?_
      rintro e w' ⟨rfl, hm', hb'⟩
      refine ⟨0, _, rfl, hm', hb', fun h => absurd rfl h, fun _ => ?_⟩
      refine ⟨g' - 1, ?_, hL, hU0, hU1, ?_, ⟨_, rfl, hc4, .inl ⟨rfl, fun hc => ⟨?_, ?_⟩⟩⟩, fun hc => ⟨?_, ?_⟩⟩
      · by_cases hc : c = 0
        · have := hz hc; omega
        · have := hg (by omega); omega
      · show 0 ≤ s.free + 1
        omega
      · show s.free + 1 ≤ 1
        have := hg hc; omega
      · have := hg hc
        show g' - 1 = 2 * (L - s.U).toNat + 2
        omega
      · show s.free + 1 + _ = 65536
        have := hz hc; omega
      · have := hz hc
        omega
end Go.Proofs.YtmdceokmpjcllaaGreatDoor
