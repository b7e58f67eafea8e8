/-
  Modules: how they lie in memory, and the contract of code.Right.
-/
import Derived.Test.YtmdceokmpjcllaaGreatDoorEvery
namespace Go.Proofs.YtmdceokmpjcllaaGreatDoor
open Go.RowKit

/-- an instruction -/
structure Ins where
  op : Int
  a : Int
/-- a function of a module -/
structure Cd where
  name : ByteArray
  params : List Int
  result : Int
  slots : Int
  ins : List Ins
/-- a module -/
structure Mdl where
  codes : List Cd
  texts : List (List Int)
instance : Inhabited Ins := ⟨⟨0, 0⟩⟩
instance : Inhabited Cd := ⟨⟨ByteArray.empty, [], 0, 0, []⟩⟩

def i64 (x : Int) : Prop := -9223372036854775808 ≤ x ∧ x ≤ 9223372036854775807
def big (n : Nat) : Prop := n ≤ 1152921504606846976
def capOk (n : Nat) : Prop := n ≤ 9223372036854775807

/-- a list of types lies there -/
def RepTys (w : World) (v : Value) (l : List Int) : Prop :=
  ∃ s0 cap, v = .slice s0 l.length cap ∧ big l.length ∧ l.length ≤ cap ∧ capOk cap ∧ (s0 = none → cap = 0) ∧ RowTy w s0 l.length (fun i => .int .i64 (l.getD i 0)) ∧ ∀ i, i64 (l.getD i 0)
/-- a list of instructions lies there -/
def RepIns (w : World) (v : Value) (l : List Ins) : Prop :=
  ∃ s0 cap, v = .slice s0 l.length cap ∧ big l.length ∧ l.length ≤ cap ∧ capOk cap ∧ (s0 = none → cap = 0) ∧ RowIn w s0 l.length (fun i => .int .i64 (l.getD i default).op) (fun i => .int .i64 (l.getD i default).a) ∧ ∀ i, i64 (l.getD i default).op ∧ i64 (l.getD i default).a
structure RepCd (w : World) (v0 v1 v2 v3 v4 : Value) (c : Cd) : Prop where
  name : v0 = .string c.name
  nameLen : big c.name.size
  params : RepTys w v1 c.params
  result : v2 = .int .i64 c.result
  slots : v3 = .int .i64 c.slots
  ins : RepIns w v4 c.ins
  r1 : i64 c.result
  r2 : i64 c.slots
/-- a list of functions lies there -/
def RepCds (w : World) (v : Value) (l : List Cd) : Prop :=
  ∃ s0 cap c0 c1 c2 c3 c4, v = .slice s0 l.length cap ∧ big l.length ∧ l.length ≤ cap ∧ capOk cap ∧ (s0 = none → cap = 0) ∧ RowCd w s0 l.length c0 c1 c2 c3 c4 ∧ ∀ i, i < l.length → RepCd w (c0 i) (c1 i) (c2 i) (c3 i) (c4 i) (l.getD i default)
/-- a list of bytes lies there -/
def RepBytes (w : World) (v : Value) (l : List Int) : Prop :=
  ∃ s0 cap, v = .slice s0 l.length cap ∧ big l.length ∧ l.length ≤ cap ∧ capOk cap ∧ (s0 = none → cap = 0) ∧ (0 < l.length → ∃ b off, s0 = some ⟨b, off, none⟩ ∧ b < w.heap.size ∧ ∀ i, i < l.length → w.cell? ⟨b, off + i, none⟩ = some (.int .u8 (l.getD i 0))) ∧ ∀ i, 0 ≤ l.getD i 0 ∧ l.getD i 0 ≤ 255
/-- a list of texts lies there -/
def RepTexts (w : World) (v : Value) (l : List (List Int)) : Prop :=
  ∃ s0 cap c0, v = .slice s0 l.length cap ∧ big l.length ∧ l.length ≤ cap ∧ capOk cap ∧ (s0 = none → cap = 0) ∧ RowBy w s0 l.length c0 ∧ ∀ i, i < l.length → RepBytes w (c0 i) (l.getD i [])
/-- a module -/
def RepMdl (w : World) (v : Value) (m : Mdl) : Prop := ∃ v0 v1, v = .agg #[v0, v1] ∧ RepCds w v0 m.codes ∧ RepTexts w v1 m.texts

theorem RepTys.later {w w' : World} {v : Value} {l : List Int} (h : RepTys w v l) (hb : Below w.heap.size w w') : RepTys w' v l := by
  obtain ⟨s0, cap, h1, h2, h2a, h2b, h2c, h3, h4⟩ := h
  exact ⟨s0, cap, h1, h2, h2a, h2b, h2c, h3.later hb, h4⟩
theorem RepIns.later {w w' : World} {v : Value} {l : List Ins} (h : RepIns w v l) (hb : Below w.heap.size w w') : RepIns w' v l := by
  obtain ⟨s0, cap, h1, h2, h2a, h2b, h2c, h3, h4⟩ := h
  exact ⟨s0, cap, h1, h2, h2a, h2b, h2c, h3.later hb, h4⟩
theorem RepCd.later {w w' : World} {v0 v1 v2 v3 v4 : Value} {c : Cd} (h : RepCd w v0 v1 v2 v3 v4 c) (hb : Below w.heap.size w w') : RepCd w' v0 v1 v2 v3 v4 c :=
  ⟨h.name, h.nameLen, h.params.later hb, h.result, h.slots, h.ins.later hb, h.r1, h.r2⟩
theorem RepCds.later {w w' : World} {v : Value} {l : List Cd} (h : RepCds w v l) (hb : Below w.heap.size w w') : RepCds w' v l := by
  obtain ⟨s0, cap, c0, c1, c2, c3, c4, h1, h2, h2a, h2b, h2c, h3, h4⟩ := h
  exact ⟨s0, cap, c0, c1, c2, c3, c4, h1, h2, h2a, h2b, h2c, h3.later hb, fun i hi => (h4 i hi).later hb⟩
theorem RepBytes.later {w w' : World} {v : Value} {l : List Int} (h : RepBytes w v l) (hb : Below w.heap.size w w') : RepBytes w' v l := by
  obtain ⟨s0, cap, h1, h2, h2a, h2b, h2c, h3, h4⟩ := h
  refine ⟨s0, cap, h1, h2, h2a, h2b, h2c, fun h0 => ?_, h4⟩
  obtain ⟨b, off, h5, h6, h7⟩ := h3 h0
  exact ⟨b, off, h5, Nat.lt_of_lt_of_le h6 hb.size, fun i hi => (up_cell hb b _ h6).trans (h7 i hi)⟩
theorem RepTexts.later {w w' : World} {v : Value} {l : List (List Int)} (h : RepTexts w v l) (hb : Below w.heap.size w w') : RepTexts w' v l := by
  obtain ⟨s0, cap, c0, h1, h2, h2a, h2b, h2c, h3, h4⟩ := h
  exact ⟨s0, cap, c0, h1, h2, h2a, h2b, h2c, h3.later hb, fun i hi => (h4 i hi).later hb⟩
theorem RepMdl.later {w w' : World} {v : Value} {m : Mdl} (h : RepMdl w v m) (hb : Below w.heap.size w w') : RepMdl w' v m := by
  obtain ⟨v0, v1, h1, h2, h3⟩ := h
  exact ⟨v0, v1, h1, h2.later hb, h3.later hb⟩

/-- a type that is one -/
def typedB (t : Int) : Bool := decide (1 ≤ t ∧ t ≤ 3)
def opB (i : Ins) : Bool := decide (1 ≤ i.op ∧ i.op ≤ 18)
/-- may it be a module's function? -/
def rightCd (c : Cd) : Bool :=
  decide (c.name.size ≤ 16) && decide (c.params.length ≤ 16) && allB (fun i => typedB (c.params.getD i 0)) c.params.length && (decide (c.result = 0) || typedB c.result) &&
    decide ((c.params.length : Int) ≤ c.slots) && decide (c.slots ≤ 256) && decide (c.ins.length ≤ 16384) && allB (fun i => opB (c.ins.getD i default)) c.ins.length
/-- may it be a module? -/
def rightM (m : Mdl) : Bool :=
  decide (m.codes.length ≤ 64) && decide (m.texts.length ≤ 1024) && allB (fun i => decide ((m.texts.getD i []).length ≤ 64)) m.texts.length && allB (fun i => rightCd (m.codes.getD i default)) m.codes.length

set_option maxHeartbeats 400000 in
theorem typed_any (t : Int) (w : World) :
    Calls Tryz.prog 53 #[.int .i64 t] w fun e w' => e = .returned (.bool (typedB t)) ∧ Below w.heap.size w w' := by
  go_enter Tryz.func53, Tryz.ntmps53
  go_wp2
  all_goals
    go_ret
    refine ⟨ret_bool ?_, Below.refl _ _⟩
    unfold typedB
    rw [Bool.eq_iff_iff]
    simp
    try omega

set_option maxHeartbeats 400000 in
theorem typed_eq (t : Int) (w : World) :
    Calls Tryz.prog 53 #[.int .i64 t] w fun e w' => e = .returned (.bool (typedB t)) ∧ w = w' := by
  go_enter Tryz.func53, Tryz.ntmps53
  go_wp2
  all_goals
    go_ret
    refine ⟨ret_bool ?_, rfl⟩
    unfold typedB
    rw [Bool.eq_iff_iff]
    simp
    try omega

set_option maxHeartbeats 400000 in
theorem opB_any (o a : Int) (w : World) :
    Calls Tryz.prog 55 #[.agg #[.int .i64 o, .int .i64 a]] w fun e w' => e = .returned (.bool (opB ⟨o, a⟩)) ∧ Below w.heap.size w w' := by
  go_enter Tryz.func55, Tryz.ntmps55
  go_wp2
  all_goals
    go_ret
    refine ⟨ret_bool ?_, up_alloc (Below.refl _ _) _⟩
    unfold opB
    rw [Bool.eq_iff_iff]
    simp
    try omega

set_option maxHeartbeats 400000 in
theorem text_any (s0 : Option Addr) (n cap : Nat) (w : World) (hn : n ≤ 9223372036854775807) :
    Calls Tryz.prog 49 #[.slice s0 n cap] w fun e w' => e = .returned (.bool (decide (n ≤ 64))) ∧ Below w.heap.size w w' := by
  go_enter Tryz.func49, Tryz.ntmps49
  go_wp2
  all_goals
    go_ret
    refine ⟨ret_bool ?_, Below.refl _ _⟩
    rw [Bool.eq_iff_iff]
    simp
    try omega

set_option maxRecDepth 100000 in
set_option maxHeartbeats 1000000 in
theorem rightCd_any {w : World} {v0 v1 v2 v3 v4 : Value} {c : Cd} (hc : RepCd w v0 v1 v2 v3 v4 c) :
    Calls Tryz.prog 51 #[.agg #[v0, v1, v2, v3, v4]] w fun e w' => e = .returned (.bool (rightCd c)) ∧ Below w.heap.size w w' := by
  obtain ⟨rfl, hnl, hp, rfl, rfl, hins, hr1, hr2⟩ := hc
  obtain ⟨s1, cap1, rfl, hp1, _, _, _, hp2, hp3⟩ := hp
  obtain ⟨s4, cap4, rfl, hi1, _, _, _, hi2, hi3⟩ := hins
  unfold big at hnl hp1 hi1
  unfold i64 at hr1 hr2
  have hb0 : Below w.heap.size w (w.alloc (Obj.cells #[.string c.name, .slice s1 c.params.length cap1, .int .i64 c.result, .int .i64 c.slots, .slice s4 c.ins.length cap4] 30)) := up_alloc (Below.refl _ _) _
  have K1 := Lib.hid (fun W (hW : Below w.heap.size w W) => everyTy s1 c.params.length cap1 _ (fun i => typedB (c.params.getD i 0)) W (by omega) (hp2.later hW) (fun i _ W1 _ => typed_any _ W1))
  have K2 := Lib.hid (fun W (hW : Below w.heap.size w W) => everyIn s4 c.ins.length cap4 _ _ (fun i => opB (c.ins.getD i default)) W (by omega) (hi2.later hW) (fun i _ W1 _ => opB_any _ _ W1))
  have HRC : Hid (rightCd c = (decide (c.name.size ≤ 16) && decide (c.params.length ≤ 16) && allB (fun i => typedB (c.params.getD i 0)) c.params.length && (decide (c.result = 0) || typedB c.result) &&
    decide ((c.params.length : Int) ≤ c.slots) && decide (c.slots ≤ 256) && decide (c.ins.length ≤ 16384) && allB (fun i => opB (c.ins.getD i default)) c.ins.length)) := rfl
  have HB0 := Lib.hid hb0
  clear hp2 hp3 hi2 hi3 hb0
  generalize allB (fun i => typedB (c.params.getD i 0)) c.params.length = t1 at *
  generalize allB (fun i => opB (c.ins.getD i default)) c.ins.length = t2 at *
  generalize rightCd c = rc at *
  generalize c.params.length = n1 at *
  generalize c.ins.length = n4 at *
  generalize c.name = nm at *
  generalize c.result = rs at *
  generalize c.slots = sl at *
  cases t1
  all_goals
    cases t2
    all_goals
      go_enter Tryz.func51, Tryz.ntmps51
      go_wp2_with (first | (go_at_call 52; refine (K1.out _ HB0.out).mono ?_; rintro e w1 ⟨rfl, hb1⟩; obtain ⟨hc1, hf1, hs1⟩ := bcell hb1; have hbw := up_trans HB0.out hb1; have hlt1 : w.heap.size < w1.heap.size := by have := hb1.size; simp at this; omega) | (go_at_call 53; refine (typed_eq _ _).mono ?_; rintro e w2 ⟨rfl, rfl⟩) | (go_at_call 54; refine (K2.out _ hbw).mono ?_; rintro e w3 ⟨rfl, hb3⟩; have hbw3 := up_trans hbw hb3))
      all_goals
        go_ret
        refine ⟨ret_bool ?_, ?_⟩
        · rw [HRC.out]
          unfold typedB at *
          rw [Bool.eq_iff_iff]
          simp at *
          try omega
        · repeat (first | exact Below.refl _ _ | assumption | refine up_alloc ?_ _ | refine up_trans ?_ (by assumption))

set_option maxRecDepth 100000 in
set_option maxHeartbeats 1000000 in
theorem right_any {w : World} {v : Value} {m : Mdl} (hm : RepMdl w v m) :
    Calls Tryz.prog 40 #[v] w fun e w' => e = .returned (.bool (rightM m)) ∧ Below w.heap.size w w' := by
  obtain ⟨v0, v1, rfl, h0, h1⟩ := hm
  obtain ⟨s0, cap0, c0, c1, c2, c3, c4, rfl, n0, _, _, _, r0, rc⟩ := h0
  obtain ⟨s1, cap1, d0, rfl, n1, _, _, _, r1, rt⟩ := h1
  unfold big at n0 n1
  have HB0 : Hid (∀ W, W = w.alloc (Obj.cells #[.slice s0 m.codes.length cap0, .slice s1 m.texts.length cap1] 43) → Below w.heap.size w W) := fun W hW => by rw [hW]; exact up_alloc (Below.refl _ _) _
  have K1 := Lib.hid (fun W (hW : Below w.heap.size w W) => everyBy s1 m.texts.length cap1 d0 (fun i => decide ((m.texts.getD i []).length ≤ 64)) W (by omega) (r1.later hW) (fun i hi W1 hW1 => by
    obtain ⟨a, cp, h1, h2, _⟩ := rt i hi
    rw [h1]
    unfold big at h2
    exact text_any a _ cp W1 (by omega)))
  have K2 := Lib.hid (fun W (hW : Below w.heap.size w W) => everyCd s0 m.codes.length cap0 c0 c1 c2 c3 c4 (fun i => rightCd (m.codes.getD i default)) W (by omega) (r0.later hW) (fun i hi W1 hW1 => rightCd_any ((rc i hi).later (up_trans hW hW1))))
  have HRC : Hid (rightM m = (decide (m.codes.length ≤ 64) && decide (m.texts.length ≤ 1024) && allB (fun i => decide ((m.texts.getD i []).length ≤ 64)) m.texts.length && allB (fun i => rightCd (m.codes.getD i default)) m.codes.length)) := rfl
  clear r0 rc r1 rt
  generalize allB (fun i => decide ((m.texts.getD i []).length ≤ 64)) m.texts.length = t1 at *
  generalize allB (fun i => rightCd (m.codes.getD i default)) m.codes.length = t2 at *
  generalize rightM m = rm at *
  generalize m.codes.length = k0 at *
  generalize m.texts.length = k1 at *
  cases t1
  all_goals
    cases t2
    all_goals
      go_enter Tryz.func40, Tryz.ntmps40
      go_wp2_with (first | (go_at_call 48; refine (K1.out _ (HB0.out _ rfl)).mono ?_; rintro e w1 ⟨rfl, hb1⟩; obtain ⟨hc1, hf1, hs1⟩ := bcell hb1; have hbw := up_trans (HB0.out _ rfl) hb1; have hlt1 : w.heap.size < w1.heap.size := by have := hb1.size; simp at this; omega) | (go_at_call 50; refine (K2.out _ hbw).mono ?_; rintro e w3 ⟨rfl, hb3⟩; have hbw3 := up_trans hbw hb3))
      all_goals
        go_ret
        refine ⟨ret_bool ?_, ?_⟩
        · rw [HRC.out]
          rw [Bool.eq_iff_iff]
          simp at *
          try omega
        · repeat (first | exact Below.refl _ _ | assumption | refine up_alloc ?_ _ | refine up_trans ?_ (by assumption))
end Go.Proofs.YtmdceokmpjcllaaGreatDoor
