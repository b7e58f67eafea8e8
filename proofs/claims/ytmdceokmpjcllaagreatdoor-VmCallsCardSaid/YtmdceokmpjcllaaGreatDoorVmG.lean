/-
  Modules of functions that call one another: that they are safe; how they run.
-/
import Derived.Test.YtmdceokmpjcllaaGreatDoorVmI
import Derived.Test.YtmdceokmpjcllaaGreatDoorVmX
namespace Go.Proofs.YtmdceokmpjcllaaGreatDoor
open Go.RowKit

def insK (k i : Nat) : List Ins := if i + 1 = k then [⟨2, 7⟩, ⟨18, 0⟩] else [⟨14, ((i + 1 : Nat) : Int)⟩, ⟨2, 1⟩, ⟨7, 1⟩, ⟨18, 0⟩]
def nmK (i : Nat) : ByteArray := ⟨#[UInt8.ofNat (65 + i)]⟩
def cK (k i : Nat) : Cd := ⟨nmK i, [], 1, 0, insK k i⟩
def mK (k : Nat) : Mdl := ⟨(List.range k).map (cK k), []⟩
theorem mK_len (k : Nat) : (mK k).codes.length = k := by simp [mK]
theorem mK_at (k j : Nat) (h : j < k) : (mK k).codes.getD j default = cK k j := by
  simp [mK, List.getD_eq_getElem?_getD, h]
theorem insK_len (k i : Nat) : (insK k i).length ≤ 4 ∧ 0 < (insK k i).length := by
  unfold insK
  split <;> simp
theorem insK_last (k : Nat) (h : 0 < k) : insK k (k - 1) = [⟨2, 7⟩, ⟨18, 0⟩] := by
  unfold insK
  rw [if_pos (by omega)]
theorem insK_more (k i : Nat) (h : i + 1 < k) : insK k i = [⟨14, ((i + 1 : Nat) : Int)⟩, ⟨2, 1⟩, ⟨7, 1⟩, ⟨18, 0⟩] := by
  unfold insK
  rw [if_neg (by omega)]
theorem right_cK (k i : Nat) : rightCd (cK k i) = true := by
  simp only [rightCd, Bool.and_eq_true, Bool.or_eq_true, decide_eq_true_eq, allB_iff]
  have := insK_len k i
  refine ⟨⟨⟨⟨⟨⟨⟨?_, ?_⟩, ?_⟩, ?_⟩, ?_⟩, ?_⟩, ?_⟩, ?_⟩
  · show (1 : Nat) ≤ 16
    decide
  · show (0 : Nat) ≤ 16
    decide
  · intro j hj
    exact absurd hj (by show ¬ j < 0; omega)
  · right
    show typedB 1 = true
    decide
  · show ((0 : Nat) : Int) ≤ 0
    decide
  · show (0 : Int) ≤ 256
    decide
  · show (insK k i).length ≤ 16384
    omega
  · intro j hj
    change j < (insK k i).length at hj
    change opB ((insK k i).getD j default) = true
    unfold insK at hj ⊢
    split at hj
    · rename_i e
      rw [if_pos e]
      match j, hj with
      | 0, _ => rfl
      | 1, _ => rfl
    · rename_i e
      rw [if_neg e]
      match j, hj with
      | 0, _ => rfl
      | 1, _ => rfl
      | 2, _ => rfl
      | 3, _ => rfl
theorem right_mK (k : Nat) (h : k ≤ 40) : rightM (mK k) = true := by
  simp only [rightM, Bool.and_eq_true, decide_eq_true_eq, allB_iff]
  refine ⟨⟨⟨by rw [mK_len]; omega, by show (0 : Nat) ≤ 1024; decide⟩, fun i hi => absurd hi (by show ¬ i < 0; omega)⟩, fun i hi => ?_⟩
  rw [mK_len] at hi
  rw [mK_at k i hi]
  exact right_cK k i
def stK (l : List Int) : Sta := ⟨l, fun j => ([] : List Int).getD j 0⟩
theorem safe_last (k : Nat) (h : 0 < k) (m : Mdl) : SafeIs (cK k (k - 1)) m true := by
  have hi : (cK k (k - 1)).ins = [⟨2, 7⟩, ⟨18, 0⟩] := insK_last k h
  refine row_run (cK k (k - 1)) m (fun j => if j = 0 then stK [] else stK [1]) rfl true 1 (by rw [hi]; decide) ?_ ?_ ?_ ?_
  · intro j hj
    obtain rfl : j = 0 := by omega
    rw [hi]
    decide
  · intro j hj
    obtain rfl : j = 0 := by omega
    rw [hi]
    rfl
  · intro j hj
    obtain rfl : j = 0 := by omega
    decide
  · have e := row_end (cK k (k - 1)) m (fun j => if j = 0 then stK [] else stK [1]) 1 (by rw [hi]; rfl)
    exact e
theorem safe_more (k i : Nat) (h : i + 1 < k) : SafeIs (cK k i) (mK k) true := by
  have hi : (cK k i).ins = [⟨14, ((i + 1 : Nat) : Int)⟩, ⟨2, 1⟩, ⟨7, 1⟩, ⟨18, 0⟩] := insK_more k i h
  refine row_run (cK k i) (mK k) (fun j => if j = 0 then stK [] else if j = 1 then stK [1] else if j = 2 then stK [1, 1] else stK [1]) rfl true 3 (by rw [hi]; show (3 : Nat) < 4; decide) ?_ ?_ ?_ ?_
  · intro j hj
    rw [hi]
    match j, hj with
    | 0, _ => exact ⟨by show (14 : Int) ≠ 18; decide, by show (14 : Int) ≠ 15; decide, by show (14 : Int) ≠ 16; decide⟩
    | 1, _ => exact ⟨by show (2 : Int) ≠ 18; decide, by show (2 : Int) ≠ 15; decide, by show (2 : Int) ≠ 16; decide⟩
    | 2, _ => exact ⟨by show (7 : Int) ≠ 18; decide, by show (7 : Int) ≠ 15; decide, by show (7 : Int) ≠ 16; decide⟩
  · intro j hj
    rw [hi]
    match j, hj with
    | 0, _ =>
      show callS (mK k) ((i + 1 : Nat) : Int) (stK []) = some (stK [1])
      unfold callS
      have hin : inB ((i + 1 : Nat) : Int) (mK k).codes.length = true := by
        rw [mK_len]
        simp [inB]
        omega
      rw [if_pos hin, Int.toNat_natCast, mK_at k (i + 1) h]
      rfl
    | 1, _ => rfl
    | 2, _ =>
      show twoS 1 (stK [1, 1]) = some (stK [1])
      have e : (signS 1).toList = [43] := by rw [show signS 1 = ⟨#[43]⟩ from rfl, ByteArray.toList_eq]
      unfold twoS
      rw [e]
      rfl
  · intro j hj
    match j, hj with
    | 0, _ => decide
    | 1, _ => decide
    | 2, _ => decide
  · have e := row_end (cK k i) (mK k) (fun j => if j = 0 then stK [] else if j = 1 then stK [1] else if j = 2 then stK [1, 1] else stK [1]) 3 (by rw [hi]; rfl)
    exact e
theorem goodK (k : Nat) (h0 : 0 < k) (h : k ≤ 40) (x : Int) (hx : CheckIs (mK k) x) : x = 0 := by
  refine good_zero (right_mK k h) ⟨fun j hj => ?_, ?_⟩ x hx
  · rw [mK_len] at hj
    rw [mK_at k j hj]
    by_cases e : j + 1 = k
    · obtain rfl : j = k - 1 := by omega
      exact safe_last k h0 _
    · exact safe_more k j (by omega)
  · have e : (mK k).codes.map (·.name) = (List.range k).map nmK := by simp [mK, cK, Function.comp_def]
    rw [e]
    have h40 : ((List.range 40).map nmK).Nodup := by decide
    have : (List.range k).map nmK = ((List.range 40).map nmK).take k := by
      rw [← List.map_take, List.take_range, Nat.min_eq_left h]
    rw [this]
    exact h40.sublist (List.take_sublist _ _)

/-! ### How they run -/
structure FrK (g : Nat → Nat) (k j : Nat) (pc : Int) (st : List Vl) (f : Fr) : Prop where
  c4 : f.c4 = .slice (some ⟨g j, 0, none⟩) (insK k j).length (insK k j).length
  c2 : f.c2 = .int .i64 1
  pc : f.pc = pc
  st : f.st = st
def WaitK (g : Nat → Nat) (k : Nat) : Nat → List Fr → Prop
  | 0, l => l = []
  | d + 1, l => ∃ f r, l = f :: r ∧ FrK g k d 1 [] f ∧ WaitK g k d r
theorem WaitK.len {g : Nat → Nat} {k : Nat} : ∀ {d : Nat} {l : List Fr}, WaitK g k d l → l.length = d
  | 0, l, h => by rw [show l = [] from h]; rfl
  | d + 1, l, h => by
    obtain ⟨f, r, rfl, _, hr⟩ := h
    rw [List.length_cons, hr.len]
def vK (n : Int) : Vl := ⟨.int .i64 1, .int .i64 n, .slice none 0 0⟩
structure AtK (gb cap k : Nat) (s : Mac) : Prop where
  L : s.L = 10
  U : s.U = 0
  m0 : s.m0 = .slice (some ⟨gb, 0, none⟩) k cap
def DownK (g : Nat → Nat) (k q : Nat) (s : Mac) : Prop := ∃ d f r, s.frs = f :: r ∧ FrK g k d 0 [] f ∧ f.stack = .slice none 0 0 ∧ WaitK g k d r ∧ d < k ∧ d ≤ 15 ∧ q = 200 - d
def LastK (g : Nat → Nat) (k q : Nat) (s : Mac) : Prop := ∃ f r, s.frs = f :: r ∧ FrK g k (k - 1) 1 [vK 7] f ∧ WaitK g k (k - 1) r ∧ k ≤ 16 ∧ q = 4 * k
def UpK (g : Nat → Nat) (k q : Nat) (s : Mac) : Prop := ∃ d f r, s.frs = f :: r ∧ WaitK g k d r ∧ d + 1 < k ∧ k ≤ 16 ∧
  ((FrK g k d 1 [vK (5 + k - d)] f ∧ q = 4 * d + 3) ∨ (FrK g k d 2 [vK (5 + k - d), vK 1] f ∧ q = 4 * d + 2) ∨ (FrK g k d 3 [vK (6 + k - d)] f ∧ q = 4 * d + 1))
def EndK (k q : Nat) (s : Mac) : Prop := s.frs = [] ∧ k ≤ 16 ∧ s.b0 = .int .i64 1 ∧ s.b1 = .int .i64 (6 + k) ∧ s.b2 = .slice none 0 0 ∧ q = 0
def InvK (g : Nat → Nat) (gb cap k q : Nat) (s : Mac) : Prop := AtK gb cap k s ∧ 0 ≤ s.free ∧ s.free + q ≤ 200 ∧ (DownK g k q s ∨ LastK g k q s ∨ UpK g k q s ∨ EndK k q s)
/-- what it comes to -/
def QK (k : Nat) (t : Int) (s : Mac) : Prop := s.U = 0 ∧ ((k ≤ 16 ∧ t = 0 ∧ s.b0 = .int .i64 1 ∧ s.b1 = .int .i64 (6 + k) ∧ s.b2 = .slice none 0 0) ∨ (16 < k ∧ t = 4))
theorem kstep (op a n : Int) (h : op ≠ 1) : freeOf op a n = n + 1 := by unfold freeOf; rw [if_neg (fun e => h e.1)]
theorem insK_at {w : World} {g : Nat → Nat} {k j : Nat} {pc : Int} {st : List Vl} {f : Fr} (hf : FrK g k j pc st f) (hi : RepIns w (.slice (some ⟨g j, 0, none⟩) (insK k j).length (insK k j).length) (insK k j)) {p : Nat} (hp : pc = Int.ofNat p) (hpl : p < (insK k j).length) : InsAt w f ((insK k j).getD p default).op ((insK k j).getD p default).a :=
  ins_at hi (by have := insK_len k j; omega) hf.c4 (by rw [hf.pc, hp]) hpl
/-- what lies of the module -/
structure LaidK (W0 : World) (base : Nat) (g : Nat → Nat) (gb cap k : Nat) : Prop where
  ins : ∀ j, j < k → RepIns W0 (.slice (some ⟨g j, 0, none⟩) (insK k j).length (insK k j).length) (insK k j)
  cd : ∀ j, j < k → CdAt W0 gb (j * 5) (nmK j) none 0 0 1 (some ⟨g j, 0, none⟩) (insK k j).length (insK k j).length
  gb : gb < base
  g : ∀ j, j < k → g j < base

theorem down_step {W0 : World} {base X gb cap k : Nat} {g : Nat → Nat} (hL : LaidK W0 base g gb cap k) (hk : k ≤ 40) (q : Nat) (s : Mac) (f : Fr) (r : List Fr) (ha : AtK gb cap k s) (hf0 : 0 ≤ s.free) (hfq : s.free + q ≤ 200) (hd : DownK g k q s) (hs : s.frs = f :: r) :
    ∃ op a, InsAt W0 f op a ∧ (∀ (off gb n cap : Nat), f.c4 = .slice (some ⟨gb, off, none⟩) n cap → gb < base) ∧ op ≠ 1 ∧
      StepTo base X W0 (InvK g gb cap k) (QK k) q { s with free := freeOf op a s.free, frs := { f with pc := f.pc + 1 } :: r } f op a := by
  obtain ⟨d, f1, r1, e, hf, hst, hw, hdk, hd15, hq⟩ := hd
  rw [hs] at e
  injection e with e1 e2
  subst e1 e2
  have hgb : ∀ (off gb n cap : Nat), f.c4 = .slice (some ⟨gb, off, none⟩) n cap → gb < base := fun off gb n cap e => by rw [hf.c4] at e; cases e; exact hL.g d hdk
  by_cases hlast : d + 1 = k
  · have hi : insK k d = [⟨2, 7⟩, ⟨18, 0⟩] := by unfold insK; rw [if_pos hlast]
    refine ⟨2, 7, by have := insK_at (p := 0) hf (hL.ins d hdk) rfl (insK_len k d).2; rw [hi] at this; exact this, hgb, by decide, fun w hm hb => ?_⟩
    rw [kstep _ _ _ (by decide)] at hm
    refine (step_num base X _ _ r 7 w hm rfl (by show f.st.length < _; rw [hf.st]; simp)).mono ?_
    rintro e w' ⟨rfl, sv, hm', hb'⟩
    refine ⟨0, _, rfl, hm', hb', fun h => absurd rfl h, fun _ => ⟨4 * k, by omega, ⟨ha.L, ha.U, ha.m0⟩, ?_, ?_, .inr (.inl ?_)⟩⟩
    · show 0 ≤ s.free + 1
      omega
    · show s.free + 1 + _ ≤ 200
      omega
    · obtain rfl : d = k - 1 := by omega
      refine ⟨_, _, rfl, ⟨hf.c4, hf.c2, ?_, ?_⟩, hw, by omega, rfl⟩
      · show f.pc + 1 = 1
        rw [hf.pc]; rfl
      · show f.st ++ _ = _
        rw [hf.st]; rfl
  · have hi := insK_more k d (by omega)
    refine ⟨14, ((d + 1 : Nat) : Int), by have := insK_at (p := 0) hf (hL.ins d hdk) rfl (insK_len k d).2; rw [hi] at this; exact this, hgb, by decide, fun w hm hb => ?_⟩
    rw [kstep _ _ _ (by decide)] at hm
    by_cases h15 : d = 15
    · refine (step_deep base X _ _ _ w hm (by show (_ :: r).length = 16; rw [List.length_cons, hw.len, h15])).mono ?_
      rintro e w' ⟨rfl, hm', hb'⟩
      exact ⟨4, _, rfl, hm', hb', fun _ => ⟨ha.U, .inr ⟨by omega, rfl⟩⟩, fun h => by cases h⟩
    · refine (step_call base X gb 0 k cap (d + 1) _ { f with pc := f.pc + 1 } r (nmK (d + 1)) none 0 1 (some ⟨g (d + 1), 0, none⟩) (insK k (d + 1)).length (insK k (d + 1)).length w hm rfl (by show (_ :: r).length < 16; rw [List.length_cons, hw.len]; omega) hst ha.m0 (by omega) (by omega) hL.gb ?_).mono ?_
      · rw [Nat.zero_add]
        exact (hL.cd (d + 1) (by omega)).later hb hL.gb
      · rintro e w' ⟨rfl, f2, v, hm', hb', hbg⟩
        refine ⟨0, _, rfl, hm', hb', fun h => absurd rfl h, fun _ => ⟨q - 1, by omega, ⟨ha.L, ha.U, ha.m0⟩, ?_, ?_, .inl ⟨d + 1, f2, _, rfl, ⟨hbg.c4, hbg.c2, hbg.pc, hbg.st⟩, hbg.stack, ⟨_, _, rfl, ⟨hf.c4, hf.c2, ?_, hf.st⟩, hw⟩, by omega, by omega, by omega⟩⟩⟩
        · show 0 ≤ s.free + 1
          omega
        · show s.free + 1 + _ ≤ 200
          omega
        · show f.pc + 1 = 1
          rw [hf.pc]; rfl
/-- a function gives its value back -/
theorem back_step {W0 : World} {base X gb cap k : Nat} {g : Nat → Nat} (hk : k ≤ 16) (q j p : Nat) (n : Int) (s : Mac) (f : Fr) (r : List Fr) (ha : AtK gb cap k s) (hf0 : 0 ≤ s.free) (hfq : s.free + q ≤ 200) (hf : FrK g k j p [vK n] f) (hw : WaitK g k j r) (hjk : j < k) (hn : n = 6 + k - j) (hq : 4 * j < q) :
    StepTo base X W0 (InvK g gb cap k) (QK k) q { s with free := s.free + 1, frs := { f with pc := f.pc + 1 } :: r } f 18 0 := by
  intro w hm hb
  cases j with
  | zero =>
    obtain rfl : r = [] := hw
    refine (step_ret_last base X _ { f with pc := f.pc + 1 } [] 1 n none 0 0 1 0 w hm rfl hf.st (by show f.st.length < _; rw [hf.st]; simp) hf.c2 (by decide)).mono ?_
    rintro e w' ⟨rfl, hb', fv, hm'⟩
    refine ⟨0, _, rfl, hm', hb', fun h => absurd rfl h, fun _ => ⟨0, by omega, ⟨ha.L, ha.U, ha.m0⟩, ?_, ?_, .inr (.inr (.inr ⟨rfl, hk, rfl, ?_, rfl, rfl⟩))⟩⟩
    · show 0 ≤ s.free + 1
      omega
    · show s.free + 1 + _ ≤ 200
      omega
    · show Value.int .i64 n = _
      rw [hn, show (6 + (k : Int) - ((0 : Nat) : Int)) = 6 + k by omega]
  | succ j =>
    obtain ⟨f2, r2, rfl, hf2, hw2⟩ := hw
    refine (step_ret_more base X _ { f with pc := f.pc + 1 } f2 r2 [] 1 n none 0 0 1 0 w hm rfl (by rw [hw2.len]; omega) (by rw [hf2.st]; decide) hf.st (by show f.st.length < _; rw [hf.st]; simp) hf.c2 (by decide)).mono ?_
    rintro e w' ⟨rfl, hb', fv, gv, hm'⟩
    refine ⟨0, _, rfl, hm', hb', fun h => absurd rfl h, fun _ => ⟨4 * j + 3, by omega, ⟨ha.L, ha.U, ha.m0⟩, ?_, ?_, .inr (.inr (.inl ⟨j, _, r2, rfl, hw2, hjk, hk, .inl ⟨⟨hf2.c4, hf2.c2, hf2.pc, ?_⟩, rfl⟩⟩))⟩⟩
    · show 0 ≤ s.free + 1
      omega
    · show s.free + 1 + _ ≤ 200
      omega
    · show f2.st ++ _ = _
      rw [hf2.st, hn]
      show [vK _] = [vK _]
      congr 2
      omega
theorem up_step {W0 : World} {base X gb cap k : Nat} {g : Nat → Nat} (hL : LaidK W0 base g gb cap k) (hsg : Signs W0) (hsb : 1 < base) (q : Nat) (s : Mac) (f : Fr) (r : List Fr) (ha : AtK gb cap k s) (hf0 : 0 ≤ s.free) (hfq : s.free + q ≤ 200) (hd : UpK g k q s) (hs : s.frs = f :: r) :
    ∃ op a, InsAt W0 f op a ∧ (∀ (off gb n cap : Nat), f.c4 = .slice (some ⟨gb, off, none⟩) n cap → gb < base) ∧ op ≠ 1 ∧
      StepTo base X W0 (InvK g gb cap k) (QK k) q { s with free := freeOf op a s.free, frs := { f with pc := f.pc + 1 } :: r } f op a := by
  obtain ⟨d, f1, r1, e, hw, hdk, hk, hh⟩ := hd
  rw [hs] at e
  injection e with e1 e2
  subst e1 e2
  have hi := insK_more k d hdk
  have hc4 : f.c4 = .slice (some ⟨g d, 0, none⟩) (insK k d).length (insK k d).length := by
    rcases hh with ⟨h, _⟩ | ⟨h, _⟩ | ⟨h, _⟩ <;> exact h.c4
  have hgb : ∀ (off gb n cap : Nat), f.c4 = .slice (some ⟨gb, off, none⟩) n cap → gb < base := fun off gb n cap e => by rw [hc4] at e; cases e; exact hL.g d (by omega)
  have hl4 : (insK k d).length = 4 := by rw [hi]; rfl
  rcases hh with ⟨hf, hq⟩ | ⟨hf, hq⟩ | ⟨hf, hq⟩
  · refine ⟨2, 1, by have := insK_at (p := 1) hf (hL.ins d (by omega)) rfl (by omega); rw [hi] at this; exact this, hgb, by decide, fun w hm hb => ?_⟩
    rw [kstep _ _ _ (by decide)] at hm
    refine (step_num base X _ _ r 1 w hm rfl (by show f.st.length < _; rw [hf.st]; simp)).mono ?_
    rintro e w' ⟨rfl, sv, hm', hb'⟩
    refine ⟨0, _, rfl, hm', hb', fun h => absurd rfl h, fun _ => ⟨4 * d + 2, by omega, ⟨ha.L, ha.U, ha.m0⟩, ?_, ?_, .inr (.inr (.inl ⟨d, _, r, rfl, hw, hdk, hk, .inr (.inl ⟨⟨hf.c4, hf.c2, ?_, ?_⟩, rfl⟩)⟩))⟩⟩
    · show 0 ≤ s.free + 1
      omega
    · show s.free + 1 + _ ≤ 200
      omega
    · show f.pc + 1 = 2
      rw [hf.pc]; rfl
    · show f.st ++ _ = _
      rw [hf.st]; rfl
  · refine ⟨7, 1, by have := insK_at (p := 2) hf (hL.ins d (by omega)) rfl (by omega); rw [hi] at this; exact this, hgb, by decide, fun w hm hb => ?_⟩
    rw [kstep _ _ _ (by decide)] at hm
    refine (step_sum base X _ { f with pc := f.pc + 1 } r [] (5 + k - d) 1 none none 0 0 0 0 w hm ?_ rfl hf.st (by show f.st.length < _; rw [hf.st]; simp) (by omega) (by decide) (by omega)).mono ?_
    · intro i h13
      exact (hb.cell (p := ⟨_, i, none⟩) hsb).trans (hsg i h13)
    rintro e w' ⟨rfl, sv, hm', hb'⟩
    refine ⟨0, _, rfl, hm', hb', fun h => absurd rfl h, fun _ => ⟨4 * d + 1, by omega, ⟨ha.L, ha.U, ha.m0⟩, ?_, ?_, .inr (.inr (.inl ⟨d, _, r, rfl, hw, hdk, hk, .inr (.inr ⟨⟨hf.c4, hf.c2, ?_, ?_⟩, rfl⟩)⟩))⟩⟩
    · show 0 ≤ s.free + 1
      omega
    · show s.free + 1 + _ ≤ 200
      omega
    · show f.pc + 1 = 3
      rw [hf.pc]; rfl
    · show [] ++ [vK _] = [vK _]
      rw [List.nil_append]
      congr 2
      omega
  · refine ⟨18, 0, by have := insK_at (p := 3) hf (hL.ins d (by omega)) rfl (by omega); rw [hi] at this; exact this, hgb, by decide, ?_⟩
    rw [kstep _ _ _ (by decide)]
    exact back_step (p := 3) hk q d _ s f r ha hf0 hfq hf hw (by omega) rfl (by omega)
theorem calls_run (W0 : World) (base X gb cap k : Nat) (g : Nat → Nat) (hk0 : 0 < k) (hk : k ≤ 40) (hL : LaidK W0 base g gb cap k) (hsg : Signs W0) (hsb : 1 < base) (W : World) (hb : Below base W0 W) (s : Mac) (hm : MacAt base W X s)
    (ha : AtK gb cap k s) (hfree : s.free = 0) (f : Fr) (hfr : s.frs = [f]) (hf : FrK g k 0 0 [] f) (hst : f.stack = .slice none 0 0) :
    Calls Tryz.prog 29 #[.pointer (some ⟨X, 0, none⟩)] W fun e w' => ∃ (t : Int) (s' : Mac), e = .returned (.int .i64 t) ∧ MacAt base w' X s' ∧ Below base W w' ∧ QK k t s' := by
  refine runs_rule base X W0 (InvK g gb cap k) (QK k) 200 s W hm hb ⟨ha, by omega, by omega, .inl ⟨0, f, [], hfr, hf, hst, rfl, hk0, by omega, rfl⟩⟩ ?_ ?_ ?_
  · rintro q s ⟨ha, _, _, ⟨d, f, r, e, _⟩ | ⟨f, r, e, _⟩ | ⟨d, f, r, e, _⟩ | ⟨_, h2, h3, h4, h5, _⟩⟩ hnil
    · rw [hnil] at e; cases e
    · rw [hnil] at e; cases e
    · rw [hnil] at e; cases e
    · exact ⟨ha.U, .inl ⟨h2, rfl, h3, h4, h5⟩⟩
  · rintro q s ⟨ha, h1, h2, h⟩
    refine ⟨?_, h1, by omega⟩
    rcases h with ⟨d, f, r, e, _, _, hw, _, h15, _⟩ | ⟨f, r, e, _, hw, h16, _⟩ | ⟨d, f, r, e, hw, hdk, h16, _⟩ | ⟨e, _⟩
    · rw [e, List.length_cons, hw.len]; omega
    · rw [e, List.length_cons, hw.len]; omega
    · rw [e, List.length_cons, hw.len]; omega
    · rw [e]; decide
  · rintro q s f r ⟨ha, h1, h2, h⟩ hs
    have key : ∃ op a, InsAt W0 f op a ∧ (∀ (off gb n cap : Nat), f.c4 = .slice (some ⟨gb, off, none⟩) n cap → gb < base) ∧ op ≠ 1 ∧ StepTo base X W0 (InvK g gb cap k) (QK k) q { s with free := freeOf op a s.free, frs := { f with pc := f.pc + 1 } :: r } f op a := by
      rcases h with h | h | h | ⟨e, _⟩
      · exact down_step hL hk q s f r ha h1 h2 h hs
      · obtain ⟨f1, r1, e, hf, hw, h16, hq⟩ := h
        rw [hs] at e
        injection e with e1 e2
        subst e1 e2
        have hi := insK_last k hk0
        have hgb : ∀ (off gb n cap : Nat), f.c4 = .slice (some ⟨gb, off, none⟩) n cap → gb < base := fun off gb n cap e => by rw [hf.c4] at e; cases e; exact hL.g (k - 1) (by omega)
        refine ⟨18, 0, by have := insK_at (p := 1) hf (hL.ins (k - 1) (by omega)) rfl (by rw [hi]; decide); rw [hi] at this; exact this, hgb, by decide, ?_⟩
        rw [kstep _ _ _ (by decide)]
        exact back_step (p := 1) h16 q (k - 1) 7 s f r ha h1 h2 hf hw (by omega) (by omega) (by omega)
      · exact up_step hL hsg hsb q s f r ha h1 h2 h hs
      · rw [hs] at e; cases e
    obtain ⟨op, a, i1, i2, i3, i4⟩ := key
    refine ⟨op, a, i1, i2, fun e => ?_, fun _ => i4⟩
    rw [kstep op a s.free i3] at e
    omega
end Go.Proofs.YtmdceokmpjcllaaGreatDoor
