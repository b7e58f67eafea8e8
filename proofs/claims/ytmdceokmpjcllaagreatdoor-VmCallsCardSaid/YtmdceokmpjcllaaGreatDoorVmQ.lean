/-
  Modules of one function: their lists, that they are right; and how the head's function runs.
-/
import Derived.Test.YtmdceokmpjcllaaGreatDoorVmK
import Derived.Test.YtmdceokmpjcllaaGreatDoorVmP
import Derived.Test.YtmdceokmpjcllaaGreatDoorVmV
import Derived.Test.YtmdceokmpjcllaaGreatDoorVmW
namespace Go.Proofs.YtmdceokmpjcllaaGreatDoor
open Go.RowKit

theorem good_zero {m : Mdl} (hr : rightM m = true) (hg : GoodM m) (x : Int) (h : CheckIs m x) : x = 0 := by
  rcases h with ⟨h, _⟩ | ⟨_, ⟨_, h⟩ | ⟨h, _⟩⟩
  · rw [hr] at h; cases h
  · exact h
  · exact absurd hg h
def insV (l : List Ins) : List Value := l.flatMap fun i => [.int .i64 i.op, .int .i64 i.a]
theorem insV_snoc (l : List Ins) (i : Ins) : insV (l ++ [i]) = insV l ++ [.int .i64 i.op, .int .i64 i.a] := by simp [insV]
theorem insV_at : ∀ (l : List Ins) (i : Nat), i < l.length → (insV l)[i * 2]? = some (.int .i64 (l.getD i default).op) ∧ (insV l)[i * 2 + 1]? = some (.int .i64 (l.getD i default).a)
  | [], i, h => by simp at h
  | x :: l, i, h => by
    have e : insV (x :: l) = .int .i64 x.op :: .int .i64 x.a :: insV l := rfl
    rw [e]
    cases i with
    | zero => exact ⟨rfl, rfl⟩
    | succ i =>
      have := insV_at l i (by simpa using h)
      rw [show (i + 1) * 2 = i * 2 + 1 + 1 by omega]
      simpa using this
theorem all_i64 {l : List Ins} (h : ∀ x, x ∈ l → i64 x.op ∧ i64 x.a) : ∀ i, i64 (l.getD i default).op ∧ i64 (l.getD i default).a := by
  intro i
  rw [List.getD_eq_getElem?_getD]
  cases hq : l[i]? with
  | none => exact ⟨by constructor <;> decide, by constructor <;> decide⟩
  | some x => exact h x (List.mem_of_getElem? hq)
theorem ins_heap {w : World} {g : Nat} {l : List Ins} {arr : Array Value} {t : TypeId} {fz : Nat × Nat} (h : w.heap[g]? = some (.cells arr t fz)) (ha : arr = (insV l).toArray) (h0 : 0 < l.length) (hl : l.length ≤ 100000) (h64 : ∀ x, x ∈ l → i64 x.op ∧ i64 x.a) :
    RepIns w (.slice (some ⟨g, 0, none⟩) l.length l.length) l := by
  subst ha
  refine ⟨_, l.length, rfl, by unfold big; omega, Nat.le_refl _, by unfold capOk; omega, fun e => (by cases e), fun _ => ⟨g, 0, rfl, lt_of_block h, fun i hi => ?_⟩, all_i64 h64⟩
  obtain ⟨q1, q2⟩ := insV_at l i hi
  rw [Nat.zero_add]
  exact ⟨cell_of' h _ (by simpa using q1), cell_of' h _ (by simpa using q2)⟩
theorem ins_at {w : World} {g : Nat} {l : List Ins} (h : RepIns w (.slice (some ⟨g, 0, none⟩) l.length l.length) l) (hl : l.length < 100000) {f : Fr} {p : Nat} (hf : f.c4 = .slice (some ⟨g, 0, none⟩) l.length l.length) (hp : f.pc = Int.ofNat p) (hpl : p < l.length) : InsAt w f (l.getD p default).op (l.getD p default).a := by
  obtain ⟨s0, cap, e, _, _, _, _, hr, _⟩ := h
  obtain ⟨b, off, e2, _, hc⟩ := hr (by omega)
  injection e with e _ _
  rw [e2] at e
  injection e with e
  injection e with e3 e4
  subst e3 e4
  exact ⟨p, hp, _, _, _, _, hf, hpl, hl, hc p hpl⟩

/-- a machine that runs one function -/
def One (c4 c2 : Value) (L U pc free : Int) (st : List Vl) (s : Mac) : Prop := s.L = L ∧ s.U = U ∧ s.free = free ∧ ∃ f, s.frs = [f] ∧ f.c4 = c4 ∧ f.c2 = c2 ∧ f.pc = pc ∧ f.st = st

/-! ### The head's function -/
def hIns : List Ins := [⟨1, 3⟩, ⟨2, 2⟩, ⟨18, 0⟩]
def cH : Cd := ⟨⟨#[102]⟩, [], 1, 0, hIns⟩
theorem goodH (x : Int) (h : CheckIs ⟨[cH], []⟩ x) : x = 0 := by
  refine good_zero (by decide) ⟨fun j hj => ?_, by decide⟩ x h
  obtain rfl : j = 0 := by simpa using hj
  unfold SafeIs
  rw [if_neg (by decide)]
  exact .step rfl (.step rfl (.stop rfl))

/-- behind the last instruction -/
def HQ (t : Int) (s : Mac) : Prop := t = 0 ∧ s.U = 3 ∧ s.b0 = .int .i64 1 ∧ s.b1 = .int .i64 2 ∧ s.b2 = .slice none 0 0
def HInv (c4 : Value) (g : Nat) (s : Mac) : Prop :=
  (g = 3 ∧ One c4 (.int .i64 1) 10 0 0 0 [] s) ∨ (g = 2 ∧ One c4 (.int .i64 1) 10 3 1 0 [] s) ∨ (g = 1 ∧ One c4 (.int .i64 1) 10 3 2 1 [⟨.int .i64 1, .int .i64 2, .slice none 0 0⟩] s) ∨ (g = 0 ∧ s.frs = [] ∧ s.free = 2 ∧ HQ 0 s)
theorem head_runs (g : Nat) (base : Nat) (W0 W : World) (X : Nat) (s : Mac) (hlt : g < base) (hi : RepIns W0 (.slice (some ⟨g, 0, none⟩) hIns.length hIns.length) hIns) (hb : Below base W0 W) (hm : MacAt base W X s) (h1 : One (.slice (some ⟨g, 0, none⟩) 3 3) (.int .i64 1) 10 0 0 0 [] s) :
    Calls Tryz.prog 29 #[.pointer (some ⟨X, 0, none⟩)] W fun e w' => ∃ (t : Int) (s' : Mac), e = .returned (.int .i64 t) ∧ MacAt base w' X s' ∧ Below base W w' ∧ HQ t s' := by
  refine runs_rule base X W0 (HInv (.slice (some ⟨g, 0, none⟩) 3 3)) HQ 3 s W hm hb (.inl ⟨rfl, h1⟩) ?_ ?_ ?_
  · intro g' s h hf
    rcases h with ⟨_, _, _, _, f, q, _⟩ | ⟨_, _, _, _, f, q, _⟩ | ⟨_, _, _, _, f, q, _⟩ | ⟨_, _, _, h⟩
    · rw [hf] at q; cases q
    · rw [hf] at q; cases q
    · rw [hf] at q; cases q
    · exact h
  · intro g' s h
    rcases h with ⟨_, _, _, q1, f, q, _⟩ | ⟨_, _, _, q1, f, q, _⟩ | ⟨_, _, _, q1, f, q, _⟩ | ⟨_, q, q1, _⟩ <;> (rw [q, q1]; simp)
  · intro g' s f r h hf
    rcases h with ⟨rfl, hL, hU, hfr, f0, q, hc4, hc2, hpc, hst⟩ | ⟨rfl, hL, hU, hfr, f0, q, hc4, hc2, hpc, hst⟩ | ⟨rfl, hL, hU, hfr, f0, q, hc4, hc2, hpc, hst⟩ | ⟨_, q, _⟩
    · rw [hf] at q
      injection q with q1 q2
      subst q1 q2
      refine ⟨_, _, ins_at (p := 0) hi (by decide) hc4 hpc (by decide), fun off gb n cap e => ?_, fun e => ?_, fun _ w hw hbw => ?_⟩
      · rw [hc4] at e; cases e; exact hlt
      · rw [hfr] at e; cases e
      · have hu : useB s.L s.U 3 = true := by rw [hL, hU]; rfl
        have hv : useU s.L s.U 3 = 3 := by rw [hL, hU]; rfl
        refine (step_gas base X _ _ 3 w hw (by rw [hL]; constructor <;> decide) (by rw [hU]; constructor <;> decide) (by constructor <;> decide)).mono ?_
        rintro e w' ⟨rfl, hm', hb'⟩
        refine ⟨0, _, by rw [hu]; rfl, hm', hb', fun h => absurd rfl h, fun _ => ⟨2, by decide, .inr (.inl ⟨rfl, hL, hv, ?_, _, rfl, hc4, hc2, ?_, hst⟩)⟩⟩
        · show freeOf 1 3 s.free = 0
          rfl
        · show f.pc + 1 = 1
          rw [hpc]; rfl
    · rw [hf] at q
      injection q with q1 q2
      subst q1 q2
      refine ⟨_, _, ins_at (p := 1) hi (by decide) hc4 hpc (by decide), fun off gb n cap e => ?_, fun e => ?_, fun _ w hw hbw => ?_⟩
      · rw [hc4] at e; cases e; exact hlt
      · rw [hfr] at e; cases e
      · refine (step_num base X _ { f with pc := f.pc + 1 } [] 2 w hw rfl (by show f.st.length < _; rw [hst]; decide)).mono ?_
        rintro e w' ⟨rfl, sv, hm', hb'⟩
        refine ⟨0, _, rfl, hm', hb', fun h => absurd rfl h, fun _ => ⟨1, by decide, .inr (.inr (.inl ⟨rfl, hL, hU, ?_, _, rfl, hc4, hc2, ?_, ?_⟩))⟩⟩
        · show freeOf 2 2 s.free = 1
          rw [hfr]; rfl
        · show f.pc + 1 = 2
          rw [hpc]; rfl
        · show f.st ++ _ = _
          rw [hst]; rfl
    · rw [hf] at q
      injection q with q1 q2
      subst q1 q2
      refine ⟨_, _, ins_at (p := 2) hi (by decide) hc4 hpc (by decide), fun off gb n cap e => ?_, fun e => ?_, fun _ w hw hbw => ?_⟩
      · rw [hc4] at e; cases e; exact hlt
      · rw [hfr] at e; cases e
      · refine (step_ret_last base X _ { f with pc := f.pc + 1 } [] 1 2 none 0 0 1 0 w hw rfl hst (by show f.st.length < _; rw [hst]; decide) hc2 (by decide)).mono ?_
        rintro e w' ⟨rfl, hb', fv, hm'⟩
        refine ⟨0, _, rfl, hm', hb', fun h => absurd rfl h, fun _ => ⟨0, by decide, .inr (.inr (.inr ⟨rfl, rfl, ?_, rfl, hU, rfl, rfl, rfl⟩))⟩⟩
        show freeOf 18 0 s.free = 2
        rw [hfr]; rfl
    · rw [hf] at q; cases q
end Go.Proofs.YtmdceokmpjcllaaGreatDoor
