/-
  What an instruction does to a state: the model, and the arms that take and lay types.
-/
import Derived.Test.YtmdceokmpjcllaaGreatDoorVerifyMv
namespace Go.Proofs.YtmdceokmpjcllaaGreatDoor
open Go.RowKit
attribute [local go_sem ↓] Go.wp_at_zero Go.wp_at_succ

/-- types are taken off the top -/
def popS (want : List Int) (s : Sta) : Option Sta := if popOk s.st want then some ⟨s.st.take (s.st.length - want.length), s.sl⟩ else none
def pushS (t : Int) (s : Sta) : Sta := ⟨s.st ++ [t], s.sl⟩
/-- what a sign makes of the two on the top -/
def twoS (a : Int) (s : Sta) : Option Sta :=
  if 2 ≤ s.st.length then
    (if madeB (signS a).toList (s.st.getD (s.st.length - 2) 0) (s.st.getD (s.st.length - 1) 0) = 0 then none
     else some ⟨s.st.take (s.st.length - 2) ++ [madeB (signS a).toList (s.st.getD (s.st.length - 2) 0) (s.st.getD (s.st.length - 1) 0)], s.sl⟩)
  else none
def oneS (a : Int) (s : Sta) : Option Sta :=
  if signS a = ⟨#[45]⟩ then (popS [1] s).map (pushS 1) else if signS a = ⟨#[33]⟩ then (popS [2] s).map (pushS 2) else none
def callS (m : Mdl) (a : Int) (s : Sta) : Option Sta :=
  if inB a m.codes.length then (popS (m.codes.getD a.toNat default).params s).map (fun s => if (m.codes.getD a.toNat default).result = 0 then s else pushS (m.codes.getD a.toNat default).result s) else none
def retS (c : Cd) (s : Sta) : Option Sta :=
  (if c.result = 0 then some s else popS [c.result] s).bind (fun s => if s.st.length = 0 then some s else none)
/-- what an instruction does to a state; none: it fails -/
def doesS (c : Cd) (m : Mdl) (i : Ins) (s : Sta) : Option Sta :=
  if i.op = 1 then (if inB i.a 100001 then some s else none)
  else if i.op = 2 ∨ i.op = 3 ∨ i.op = 4 ∨ i.op = 5 ∨ i.op = 6 ∨ i.op = 17 then movesS c.slots m.texts.length i s
  else if i.op = 7 then twoS i.a s
  else if i.op = 8 then oneS i.a s
  else if i.op = 9 then (popS [3] s).map (pushS 3)
  else if i.op = 10 then (popS [3] s).map (pushS 2)
  else if i.op = 11 then (popS [3] s).map (pushS 1)
  else if i.op = 12 then popS [3, 3] s
  else if i.op = 13 then popS [3] s
  else if i.op = 14 then callS m i.a s
  else if i.op = 16 then popS [2] s
  else if i.op = 18 then retS c s
  else some s

theorem tys_one (W : World) (x : Int) (t : TypeId) (n : Nat) (hn : W.heap.size = n) : TysAt (W.alloc (.cells #[.int .i64 x] t)) (.slice (some ⟨n, 0, none⟩) 1 1) [x] :=
  ⟨_, 1, rfl, Nat.le_refl _, by omega, fun _ => ⟨_, _, rfl, fun i hi => by
    obtain rfl : i = 0 := by simpa using hi
    exact new_cell _ _ _ _ _ _ hn rfl⟩⟩
theorem tys_two (W : World) (x y : Int) (t : TypeId) (n : Nat) (hn : W.heap.size = n) : TysAt (W.alloc (.cells #[.int .i64 x, .int .i64 y] t)) (.slice (some ⟨n, 0, none⟩) 2 2) [x, y] :=
  ⟨_, 2, rfl, Nat.le_refl _, by omega, fun _ => ⟨_, _, rfl, fun i hi => by
    have hi2 : i < 2 := by simpa using hi
    rcases (show i = 0 ∨ i = 1 by omega) with rfl | rfl
    · exact new_cell _ _ _ _ _ _ hn rfl
    · exact new_cell _ _ _ _ _ _ hn rfl⟩⟩
theorem popTo_some {want : List Int} {s : Sta} (h : popOk s.st want = true) : popS want s = some ⟨popTo s.st want, s.sl⟩ := by simp [popS, popTo, h]
theorem popTo_none {want : List Int} {s : Sta} (h : popOk s.st want = false) : popS want s = none := by simp [popS, h]
theorem popTo_len (st want : List Int) : (popTo st want).length ≤ st.length := by
  unfold popTo; split
  · simp
  · exact Nat.le_refl _
theorem up3 {w : World} (a b c : Obj) : Below w.heap.size w (((w.alloc a).alloc b).alloc c) := up_alloc (up_alloc (up_alloc (Below.refl _ _) _) _) _
theorem up4 {w : World} (a b c d : Obj) : Below w.heap.size w ((((w.alloc a).alloc b).alloc c).alloc d) := up_alloc (up_alloc (up_alloc (up_alloc (Below.refl _ _) _) _) _) _
theorem str_no {s : ByteArray} {l : List UInt8} (h : ¬ s = ⟨l.toArray⟩) : (s.toList == l) = false := by
  refine Bool.eq_false_iff.2 fun e => h ?_
  have e := eq_of_beq e
  rw [ByteArray.toList_eq] at e
  exact ByteArray.ext (by rw [← e])
theorem size3 (w : World) (a b c : Obj) : (((w.alloc a).alloc b).alloc c).heap.size = w.heap.size + 1 + 1 + 1 := by rw [size_alloc, size_alloc, size_alloc]

set_option maxRecDepth 100000 in
set_option maxHeartbeats 1000000 in
theorem does_get (k : Nat) (s : Sta) (c : Cd) (m : Mdl) (a : Int) (v0 v1 v2 v3 v4 vm : Value) (w : World) (h : StAt w k s.st s.sl) (hlen : s.st.length ≤ 900000)
    (hm : RepMdl w vm m) :
    Calls Tryz.prog 56 #[.pointer (some ⟨k, 0, none⟩), .agg #[v0, v1, v2, v3, v4], vm, .agg #[.int .i64 9, .int .i64 a]] w (Says k w (doesS c m ⟨9, a⟩ s)) := by
  obtain ⟨st, sl⟩ := s
  dsimp only at h hlen ⊢
  have HW := Lib.hid h
  have hkl : k < w.heap.size := by obtain ⟨⟨_, q⟩, _⟩ := h; exact lt_of_block q
  obtain ⟨u0, u1, rfl, _, _⟩ := hm
  have P1 := Lib.hid (fun (W : World) (st' : List Int) (t : Int) (hs : StAt W k st' sl) (hl : st'.length ≤ 900000) (ht : i64 t) => push_any k st' sl t W hs hl ht)
  have Q1 := Lib.hid (fun (W : World) (vw : Value) (want : List Int) (hW : Below w.heap.size w W) (hv : TysAt W vw want) => pop_any k st want sl vw W (HW.out.below hW) hv)
  clear h
  have HR : Hid (∀ x, popOk st [3] = x → doesS c m ⟨9, a⟩ ⟨st, sl⟩ = if x then some ⟨popTo st [3] ++ [3], sl⟩ else none) := Lib.hid (fun x hx => by
    subst hx
    show (popS [3] ⟨st, sl⟩).map (pushS 3) = _
    cases hp : popOk st [3]
    · rw [popTo_none hp]; rfl
    · rw [popTo_some hp]; rfl)
  have HL := Lib.hid (popTo_len st [3])
  generalize doesS c m ⟨9, a⟩ ⟨st, sl⟩ = r at *
  go_enter Tryz.func56, Tryz.ntmps56
  go_wp2_with fail
  refine (Q1.out _ _ [3] (up4 _ _ _ _) (tys_one _ _ _ _ (size3 _ _ _ _))).mono ?_
  rintro e w1 ⟨rfl, hon, hst⟩
  have hr := HR.out _ rfl
  generalize popOk st [3] = q at *
  generalize popTo st [3] = st' at *
  subst hr
  clear HR
  have hl2 : st'.length ≤ 900000 := Nat.le_trans HL.out hlen
  cases q
  · go_wp2_with fail
    go_ret
    exact ⟨rfl, (On.of_below (up4 _ _ _ _)).trans hon, fun s e => by cases e⟩
  · go_wp2_with fail
    refine (P1.out _ _ 3 hst hl2 (by constructor <;> decide)).mono ?_
    rintro e w2 ⟨rfl, hst2, hon2⟩
    go_wp2_with fail
    go_ret
    exact ⟨rfl, ((On.of_below (up4 _ _ _ _)).trans hon).trans hon2, fun s e => by injection e with e; subst e; exact hst2⟩

set_option maxRecDepth 100000 in
set_option maxHeartbeats 1000000 in
theorem does_has (k : Nat) (s : Sta) (c : Cd) (m : Mdl) (a : Int) (v0 v1 v2 v3 v4 vm : Value) (w : World) (h : StAt w k s.st s.sl) (hlen : s.st.length ≤ 900000)
    (hm : RepMdl w vm m) :
    Calls Tryz.prog 56 #[.pointer (some ⟨k, 0, none⟩), .agg #[v0, v1, v2, v3, v4], vm, .agg #[.int .i64 10, .int .i64 a]] w (Says k w (doesS c m ⟨10, a⟩ s)) := by
  obtain ⟨st, sl⟩ := s
  dsimp only at h hlen ⊢
  have HW := Lib.hid h
  have hkl : k < w.heap.size := by obtain ⟨⟨_, q⟩, _⟩ := h; exact lt_of_block q
  obtain ⟨u0, u1, rfl, _, _⟩ := hm
  have P1 := Lib.hid (fun (W : World) (st' : List Int) (t : Int) (hs : StAt W k st' sl) (hl : st'.length ≤ 900000) (ht : i64 t) => push_any k st' sl t W hs hl ht)
  have Q1 := Lib.hid (fun (W : World) (vw : Value) (want : List Int) (hW : Below w.heap.size w W) (hv : TysAt W vw want) => pop_any k st want sl vw W (HW.out.below hW) hv)
  clear h
  have HR : Hid (∀ x, popOk st [3] = x → doesS c m ⟨10, a⟩ ⟨st, sl⟩ = if x then some ⟨popTo st [3] ++ [2], sl⟩ else none) := Lib.hid (fun x hx => by
    subst hx
    show (popS [3] ⟨st, sl⟩).map (pushS 2) = _
    cases hp : popOk st [3]
    · rw [popTo_none hp]; rfl
    · rw [popTo_some hp]; rfl)
  have HL := Lib.hid (popTo_len st [3])
  generalize doesS c m ⟨10, a⟩ ⟨st, sl⟩ = r at *
  go_enter Tryz.func56, Tryz.ntmps56
  go_wp2_with fail
  refine (Q1.out _ _ [3] (up4 _ _ _ _) (tys_one _ _ _ _ (size3 _ _ _ _))).mono ?_
  rintro e w1 ⟨rfl, hon, hst⟩
  have hr := HR.out _ rfl
  generalize popOk st [3] = q at *
  generalize popTo st [3] = st' at *
  subst hr
  clear HR
  have hl2 : st'.length ≤ 900000 := Nat.le_trans HL.out hlen
  cases q
  · go_wp2_with fail
    go_ret
    exact ⟨rfl, (On.of_below (up4 _ _ _ _)).trans hon, fun s e => by cases e⟩
  · go_wp2_with fail
    refine (P1.out _ _ 2 hst hl2 (by constructor <;> decide)).mono ?_
    rintro e w2 ⟨rfl, hst2, hon2⟩
    go_wp2_with fail
    go_ret
    exact ⟨rfl, ((On.of_below (up4 _ _ _ _)).trans hon).trans hon2, fun s e => by injection e with e; subst e; exact hst2⟩

set_option maxRecDepth 100000 in
set_option maxHeartbeats 1000000 in
theorem does_len (k : Nat) (s : Sta) (c : Cd) (m : Mdl) (a : Int) (v0 v1 v2 v3 v4 vm : Value) (w : World) (h : StAt w k s.st s.sl) (hlen : s.st.length ≤ 900000)
    (hm : RepMdl w vm m) :
    Calls Tryz.prog 56 #[.pointer (some ⟨k, 0, none⟩), .agg #[v0, v1, v2, v3, v4], vm, .agg #[.int .i64 11, .int .i64 a]] w (Says k w (doesS c m ⟨11, a⟩ s)) := by
  obtain ⟨st, sl⟩ := s
  dsimp only at h hlen ⊢
  have HW := Lib.hid h
  have hkl : k < w.heap.size := by obtain ⟨⟨_, q⟩, _⟩ := h; exact lt_of_block q
  obtain ⟨u0, u1, rfl, _, _⟩ := hm
  have P1 := Lib.hid (fun (W : World) (st' : List Int) (t : Int) (hs : StAt W k st' sl) (hl : st'.length ≤ 900000) (ht : i64 t) => push_any k st' sl t W hs hl ht)
  have Q1 := Lib.hid (fun (W : World) (vw : Value) (want : List Int) (hW : Below w.heap.size w W) (hv : TysAt W vw want) => pop_any k st want sl vw W (HW.out.below hW) hv)
  clear h
  have HR : Hid (∀ x, popOk st [3] = x → doesS c m ⟨11, a⟩ ⟨st, sl⟩ = if x then some ⟨popTo st [3] ++ [1], sl⟩ else none) := Lib.hid (fun x hx => by
    subst hx
    show (popS [3] ⟨st, sl⟩).map (pushS 1) = _
    cases hp : popOk st [3]
    · rw [popTo_none hp]; rfl
    · rw [popTo_some hp]; rfl)
  have HL := Lib.hid (popTo_len st [3])
  generalize doesS c m ⟨11, a⟩ ⟨st, sl⟩ = r at *
  go_enter Tryz.func56, Tryz.ntmps56
  go_wp2_with fail
  refine (Q1.out _ _ [3] (up4 _ _ _ _) (tys_one _ _ _ _ (size3 _ _ _ _))).mono ?_
  rintro e w1 ⟨rfl, hon, hst⟩
  have hr := HR.out _ rfl
  generalize popOk st [3] = q at *
  generalize popTo st [3] = st' at *
  subst hr
  clear HR
  have hl2 : st'.length ≤ 900000 := Nat.le_trans HL.out hlen
  cases q
  · go_wp2_with fail
    go_ret
    exact ⟨rfl, (On.of_below (up4 _ _ _ _)).trans hon, fun s e => by cases e⟩
  · go_wp2_with fail
    refine (P1.out _ _ 1 hst hl2 (by constructor <;> decide)).mono ?_
    rintro e w2 ⟨rfl, hst2, hon2⟩
    go_wp2_with fail
    go_ret
    exact ⟨rfl, ((On.of_below (up4 _ _ _ _)).trans hon).trans hon2, fun s e => by injection e with e; subst e; exact hst2⟩

set_option maxRecDepth 100000 in
set_option maxHeartbeats 1000000 in
theorem does_put (k : Nat) (s : Sta) (c : Cd) (m : Mdl) (a : Int) (v0 v1 v2 v3 v4 vm : Value) (w : World) (h : StAt w k s.st s.sl)
    (hm : RepMdl w vm m) :
    Calls Tryz.prog 56 #[.pointer (some ⟨k, 0, none⟩), .agg #[v0, v1, v2, v3, v4], vm, .agg #[.int .i64 12, .int .i64 a]] w (Says k w (doesS c m ⟨12, a⟩ s)) := by
  obtain ⟨st, sl⟩ := s
  dsimp only at h ⊢
  have HW := Lib.hid h
  have hkl : k < w.heap.size := by obtain ⟨⟨_, q⟩, _⟩ := h; exact lt_of_block q
  obtain ⟨u0, u1, rfl, _, _⟩ := hm
  have Q1 := Lib.hid (fun (W : World) (vw : Value) (want : List Int) (hW : Below w.heap.size w W) (hv : TysAt W vw want) => pop_any k st want sl vw W (HW.out.below hW) hv)
  clear h
  have HR : Hid (∀ x, popOk st [3, 3] = x → doesS c m ⟨12, a⟩ ⟨st, sl⟩ = if x then some ⟨popTo st [3, 3], sl⟩ else none) := Lib.hid (fun x hx => by
    subst hx
    show popS [3, 3] ⟨st, sl⟩ = _
    cases hp : popOk st [3, 3]
    · rw [popTo_none hp]; rfl
    · rw [popTo_some hp]; rfl)
  generalize doesS c m ⟨12, a⟩ ⟨st, sl⟩ = r at *
  go_enter Tryz.func56, Tryz.ntmps56
  go_wp2_with fail
  refine (Q1.out _ _ [3, 3] (up4 _ _ _ _) (tys_two _ _ _ _ _ (size3 _ _ _ _))).mono ?_
  rintro e w1 ⟨rfl, hon, hst⟩
  have hr := HR.out _ rfl
  generalize popOk st [3, 3] = q at *
  generalize popTo st [3, 3] = st' at *
  subst hr
  clear HR
  cases q
  · go_wp2_with fail
    go_ret
    exact ⟨rfl, (On.of_below (up4 _ _ _ _)).trans hon, fun s e => by cases e⟩
  · go_wp2_with fail
    go_ret
    exact ⟨rfl, (On.of_below (up4 _ _ _ _)).trans hon, fun s e => by injection e with e; subst e; exact hst⟩

set_option maxRecDepth 100000 in
set_option maxHeartbeats 1000000 in
theorem does_del (k : Nat) (s : Sta) (c : Cd) (m : Mdl) (a : Int) (v0 v1 v2 v3 v4 vm : Value) (w : World) (h : StAt w k s.st s.sl)
    (hm : RepMdl w vm m) :
    Calls Tryz.prog 56 #[.pointer (some ⟨k, 0, none⟩), .agg #[v0, v1, v2, v3, v4], vm, .agg #[.int .i64 13, .int .i64 a]] w (Says k w (doesS c m ⟨13, a⟩ s)) := by
  obtain ⟨st, sl⟩ := s
  dsimp only at h ⊢
  have HW := Lib.hid h
  have hkl : k < w.heap.size := by obtain ⟨⟨_, q⟩, _⟩ := h; exact lt_of_block q
  obtain ⟨u0, u1, rfl, _, _⟩ := hm
  have Q1 := Lib.hid (fun (W : World) (vw : Value) (want : List Int) (hW : Below w.heap.size w W) (hv : TysAt W vw want) => pop_any k st want sl vw W (HW.out.below hW) hv)
  clear h
  have HR : Hid (∀ x, popOk st [3] = x → doesS c m ⟨13, a⟩ ⟨st, sl⟩ = if x then some ⟨popTo st [3], sl⟩ else none) := Lib.hid (fun x hx => by
    subst hx
    show popS [3] ⟨st, sl⟩ = _
    cases hp : popOk st [3]
    · rw [popTo_none hp]; rfl
    · rw [popTo_some hp]; rfl)
  generalize doesS c m ⟨13, a⟩ ⟨st, sl⟩ = r at *
  go_enter Tryz.func56, Tryz.ntmps56
  go_wp2_with fail
  refine (Q1.out _ _ [3] (up4 _ _ _ _) (tys_one _ _ _ _ (size3 _ _ _ _))).mono ?_
  rintro e w1 ⟨rfl, hon, hst⟩
  have hr := HR.out _ rfl
  generalize popOk st [3] = q at *
  generalize popTo st [3] = st' at *
  subst hr
  clear HR
  cases q
  · go_wp2_with fail
    go_ret
    exact ⟨rfl, (On.of_below (up4 _ _ _ _)).trans hon, fun s e => by cases e⟩
  · go_wp2_with fail
    go_ret
    exact ⟨rfl, (On.of_below (up4 _ _ _ _)).trans hon, fun s e => by injection e with e; subst e; exact hst⟩

set_option maxRecDepth 100000 in
set_option maxHeartbeats 1000000 in
theorem does_unless (k : Nat) (s : Sta) (c : Cd) (m : Mdl) (a : Int) (v0 v1 v2 v3 v4 vm : Value) (w : World) (h : StAt w k s.st s.sl)
    (hm : RepMdl w vm m) :
    Calls Tryz.prog 56 #[.pointer (some ⟨k, 0, none⟩), .agg #[v0, v1, v2, v3, v4], vm, .agg #[.int .i64 16, .int .i64 a]] w (Says k w (doesS c m ⟨16, a⟩ s)) := by
  obtain ⟨st, sl⟩ := s
  dsimp only at h ⊢
  have HW := Lib.hid h
  have hkl : k < w.heap.size := by obtain ⟨⟨_, q⟩, _⟩ := h; exact lt_of_block q
  obtain ⟨u0, u1, rfl, _, _⟩ := hm
  have Q1 := Lib.hid (fun (W : World) (vw : Value) (want : List Int) (hW : Below w.heap.size w W) (hv : TysAt W vw want) => pop_any k st want sl vw W (HW.out.below hW) hv)
  clear h
  have HR : Hid (∀ x, popOk st [2] = x → doesS c m ⟨16, a⟩ ⟨st, sl⟩ = if x then some ⟨popTo st [2], sl⟩ else none) := Lib.hid (fun x hx => by
    subst hx
    show popS [2] ⟨st, sl⟩ = _
    cases hp : popOk st [2]
    · rw [popTo_none hp]; rfl
    · rw [popTo_some hp]; rfl)
  generalize doesS c m ⟨16, a⟩ ⟨st, sl⟩ = r at *
  go_enter Tryz.func56, Tryz.ntmps56
  go_wp2_with fail
  refine (Q1.out _ _ [2] (up4 _ _ _ _) (tys_one _ _ _ _ (size3 _ _ _ _))).mono ?_
  rintro e w1 ⟨rfl, hon, hst⟩
  have hr := HR.out _ rfl
  generalize popOk st [2] = q at *
  generalize popTo st [2] = st' at *
  subst hr
  clear HR
  cases q
  · go_wp2_with fail
    go_ret
    exact ⟨rfl, (On.of_below (up4 _ _ _ _)).trans hon, fun s e => by cases e⟩
  · go_wp2_with fail
    go_ret
    exact ⟨rfl, (On.of_below (up4 _ _ _ _)).trans hon, fun s e => by injection e with e; subst e; exact hst⟩

set_option maxRecDepth 100000 in
set_option maxHeartbeats 1000000 in
theorem does_gas (k : Nat) (s : Sta) (c : Cd) (m : Mdl) (a : Int) (v0 v1 v2 v3 v4 vm : Value) (w : World) (h : StAt w k s.st s.sl)
    (hm : RepMdl w vm m) :
    Calls Tryz.prog 56 #[.pointer (some ⟨k, 0, none⟩), .agg #[v0, v1, v2, v3, v4], vm, .agg #[.int .i64 1, .int .i64 a]] w (Says k w (doesS c m ⟨1, a⟩ s)) := by
  obtain ⟨st, sl⟩ := s
  dsimp only at h ⊢
  have HW := Lib.hid h
  obtain ⟨u0, u1, rfl, _, _⟩ := hm
  clear h
  have HR : Hid (∀ x, inB a 100001 = x → doesS c m ⟨1, a⟩ ⟨st, sl⟩ = if x then some ⟨st, sl⟩ else none) := Lib.hid (fun x hx => by subst hx; rfl)
  generalize doesS c m ⟨1, a⟩ ⟨st, sl⟩ = r at *
  go_enter Tryz.func56, Tryz.ntmps56
  go_wp2_with fail
  refine (in_any _ _ _).mono ?_
  rintro e w2 ⟨rfl, rfl⟩
  have hr := HR.out _ rfl
  generalize inB a 100001 = q at *
  subst hr
  clear HR
  cases q
  · go_wp2_with fail
    go_ret
    exact ⟨rfl, On.of_below (up3 _ _ _), fun s e => by cases e⟩
  · go_wp2_with fail
    go_ret
    exact ⟨rfl, On.of_below (up3 _ _ _), fun s e => by injection e with e; subst e; exact HW.out.below (up3 _ _ _)⟩

set_option maxRecDepth 100000 in
set_option maxHeartbeats 1000000 in
theorem does_moves (k : Nat) (s : Sta) (c : Cd) (m : Mdl) (op a : Int) (v0 v1 v2 v3 v4 vm : Value) (w : World) (h : StAt w k s.st s.sl) (hlen : s.st.length ≤ 900000)
    (hc : RepCd w v0 v1 v2 v3 v4 c) (hm : RepMdl w vm m) (hsl : c.slots ≤ 256) (hop : op = 2 ∨ op = 3 ∨ op = 4 ∨ op = 5 ∨ op = 6 ∨ op = 17) :
    Calls Tryz.prog 56 #[.pointer (some ⟨k, 0, none⟩), .agg #[v0, v1, v2, v3, v4], vm, .agg #[.int .i64 op, .int .i64 a]] w (Says k w (doesS c m ⟨op, a⟩ s)) := by
  have hr : doesS c m ⟨op, a⟩ s = movesS c.slots m.texts.length ⟨op, a⟩ s := by
    unfold doesS
    dsimp only
    rw [if_neg (by omega), if_pos hop]
  have M1 := Lib.hid (fun (W : World) (hW : Below w.heap.size w W) => moves_any k s c m ⟨op, a⟩ v0 v1 v2 v3 v4 vm W (h.below hW) hlen (hc.later hW) (hm.later hW) hsl)
  dsimp only at M1
  rw [hr]
  obtain ⟨u0, u1, rfl, _, _⟩ := hm
  clear h hlen hc hsl hr
  generalize movesS c.slots m.texts.length ⟨op, a⟩ s = r at *
  rcases hop with rfl | rfl | rfl | rfl | rfl | rfl
  all_goals
    go_enter Tryz.func56, Tryz.ntmps56
    go_wp2_with fail
    refine (M1.out _ (up3 _ _ _)).mono ?_
    rintro e w1 ⟨rfl, hon, hst⟩
    go_wp2_with fail
    go_ret
    exact ⟨rfl, (On.of_below (up3 _ _ _)).trans hon, hst⟩

set_option maxRecDepth 100000 in
set_option maxHeartbeats 1000000 in
theorem does_one_neg (k : Nat) (s : Sta) (c : Cd) (m : Mdl) (a : Int) (v0 v1 v2 v3 v4 vm : Value) (w : World) (h : StAt w k s.st s.sl) (hlen : s.st.length ≤ 900000)
    (hm : RepMdl w vm m) (hsg : Signs w) (hsn : signS a = ⟨#[45]⟩) :
    Calls Tryz.prog 56 #[.pointer (some ⟨k, 0, none⟩), .agg #[v0, v1, v2, v3, v4], vm, .agg #[.int .i64 8, .int .i64 a]] w (Says k w (doesS c m ⟨8, a⟩ s)) := by
  obtain ⟨st, sl⟩ := s
  dsimp only at h hlen ⊢
  have HW := Lib.hid h
  have hkl : k < w.heap.size := by obtain ⟨⟨_, q⟩, _⟩ := h; exact lt_of_block q
  obtain ⟨u0, u1, rfl, _, _⟩ := hm
  have P1 := Lib.hid (fun (W : World) (st' : List Int) (t : Int) (hs : StAt W k st' sl) (hl : st'.length ≤ 900000) (ht : i64 t) => push_any k st' sl t W hs hl ht)
  have Q1 := Lib.hid (fun (W : World) (vw : Value) (want : List Int) (hW : Below w.heap.size w W) (hv : TysAt W vw want) => pop_any k st want sl vw W (HW.out.below hW) hv)
  clear h
  have HR : Hid (∀ x, popOk st [1] = x → doesS c m ⟨8, a⟩ ⟨st, sl⟩ = if x then some ⟨popTo st [1] ++ [1], sl⟩ else none) := Lib.hid (fun x hx => by
    subst hx
    have he : doesS c m ⟨8, a⟩ ⟨st, sl⟩ = (popS [1] ⟨st, sl⟩).map (pushS 1) := by
      show oneS a ⟨st, sl⟩ = _
      simp [oneS, hsn]
    rw [he]
    cases hp : popOk st [1]
    · rw [popTo_none hp]; rfl
    · rw [popTo_some hp]; rfl)
  have HL := Lib.hid (popTo_len st [1])
  have S1 := Lib.hid (fun (W : World) (hW : Below w.heap.size w W) => sign_any a W (hsg.below hW))
  rw [hsn] at S1
  clear hsn hsg
  generalize doesS c m ⟨8, a⟩ ⟨st, sl⟩ = r at *
  go_enter Tryz.func56, Tryz.ntmps56
  go_wp2_with fail
  refine (S1.out _ (up3 _ _ _)).mono ?_
  rintro e w0 ⟨rfl, rfl⟩
  go_wp2_with fail
  refine (Q1.out _ _ [1] (up4 _ _ _ _) (tys_one _ _ _ _ (size3 _ _ _ _))).mono ?_
  rintro e w1 ⟨rfl, hon, hst⟩
  have hr := HR.out _ rfl
  generalize popOk st [1] = q at *
  generalize popTo st [1] = st' at *
  subst hr
  clear HR
  have hl2 : st'.length ≤ 900000 := Nat.le_trans HL.out hlen
  cases q
  · go_wp2_with fail
    go_ret
    exact ⟨rfl, (On.of_below (up4 _ _ _ _)).trans hon, fun s e => by cases e⟩
  · go_wp2_with fail
    refine (P1.out _ _ 1 hst hl2 (by constructor <;> decide)).mono ?_
    rintro e w2 ⟨rfl, hst2, hon2⟩
    go_wp2_with fail
    go_ret
    exact ⟨rfl, ((On.of_below (up4 _ _ _ _)).trans hon).trans hon2, fun s e => by injection e with e; subst e; exact hst2⟩

set_option maxRecDepth 100000 in
set_option maxHeartbeats 1000000 in
theorem does_one_not (k : Nat) (s : Sta) (c : Cd) (m : Mdl) (a : Int) (v0 v1 v2 v3 v4 vm : Value) (w : World) (h : StAt w k s.st s.sl) (hlen : s.st.length ≤ 900000)
    (hm : RepMdl w vm m) (hsg : Signs w) (hsn : signS a = ⟨#[33]⟩) :
    Calls Tryz.prog 56 #[.pointer (some ⟨k, 0, none⟩), .agg #[v0, v1, v2, v3, v4], vm, .agg #[.int .i64 8, .int .i64 a]] w (Says k w (doesS c m ⟨8, a⟩ s)) := by
  obtain ⟨st, sl⟩ := s
  dsimp only at h hlen ⊢
  have HW := Lib.hid h
  have hkl : k < w.heap.size := by obtain ⟨⟨_, q⟩, _⟩ := h; exact lt_of_block q
  obtain ⟨u0, u1, rfl, _, _⟩ := hm
  have P1 := Lib.hid (fun (W : World) (st' : List Int) (t : Int) (hs : StAt W k st' sl) (hl : st'.length ≤ 900000) (ht : i64 t) => push_any k st' sl t W hs hl ht)
  have Q1 := Lib.hid (fun (W : World) (vw : Value) (want : List Int) (hW : Below w.heap.size w W) (hv : TysAt W vw want) => pop_any k st want sl vw W (HW.out.below hW) hv)
  clear h
  have HR : Hid (∀ x, popOk st [2] = x → doesS c m ⟨8, a⟩ ⟨st, sl⟩ = if x then some ⟨popTo st [2] ++ [2], sl⟩ else none) := Lib.hid (fun x hx => by
    subst hx
    have he : doesS c m ⟨8, a⟩ ⟨st, sl⟩ = (popS [2] ⟨st, sl⟩).map (pushS 2) := by
      show oneS a ⟨st, sl⟩ = _
      simp [oneS, hsn]
    rw [he]
    cases hp : popOk st [2]
    · rw [popTo_none hp]; rfl
    · rw [popTo_some hp]; rfl)
  have HL := Lib.hid (popTo_len st [2])
  have S1 := Lib.hid (fun (W : World) (hW : Below w.heap.size w W) => sign_any a W (hsg.below hW))
  rw [hsn] at S1
  clear hsn hsg
  generalize doesS c m ⟨8, a⟩ ⟨st, sl⟩ = r at *
  go_enter Tryz.func56, Tryz.ntmps56
  go_wp2_with fail
  refine (S1.out _ (up3 _ _ _)).mono ?_
  rintro e w0 ⟨rfl, rfl⟩
  go_wp2_with fail
  refine (Q1.out _ _ [2] (up4 _ _ _ _) (tys_one _ _ _ _ (size3 _ _ _ _))).mono ?_
  rintro e w1 ⟨rfl, hon, hst⟩
  have hr := HR.out _ rfl
  generalize popOk st [2] = q at *
  generalize popTo st [2] = st' at *
  subst hr
  clear HR
  have hl2 : st'.length ≤ 900000 := Nat.le_trans HL.out hlen
  cases q
  · go_wp2_with fail
    go_ret
    exact ⟨rfl, (On.of_below (up4 _ _ _ _)).trans hon, fun s e => by cases e⟩
  · go_wp2_with fail
    refine (P1.out _ _ 2 hst hl2 (by constructor <;> decide)).mono ?_
    rintro e w2 ⟨rfl, hst2, hon2⟩
    go_wp2_with fail
    go_ret
    exact ⟨rfl, ((On.of_below (up4 _ _ _ _)).trans hon).trans hon2, fun s e => by injection e with e; subst e; exact hst2⟩

set_option maxRecDepth 100000 in
set_option maxHeartbeats 1000000 in
theorem does_one_no (k : Nat) (s : Sta) (c : Cd) (m : Mdl) (a : Int) (v0 v1 v2 v3 v4 vm : Value) (w : World)
    (hm : RepMdl w vm m) (hsg : Signs w) (h1 : ¬ signS a = ⟨#[45]⟩) (h2 : ¬ signS a = ⟨#[33]⟩) :
    Calls Tryz.prog 56 #[.pointer (some ⟨k, 0, none⟩), .agg #[v0, v1, v2, v3, v4], vm, .agg #[.int .i64 8, .int .i64 a]] w (Says k w (doesS c m ⟨8, a⟩ s)) := by
  have hr : doesS c m ⟨8, a⟩ s = none := by
    show oneS a s = none
    simp [oneS, h1, h2]
  rw [hr]
  obtain ⟨u0, u1, rfl, _, _⟩ := hm
  have S1 := Lib.hid (fun (W : World) (hW : Below w.heap.size w W) => sign_any a W (hsg.below hW))
  have g1 : ((signS a).toList == [45]) = false := str_no h1
  have g2 : ((signS a).toList == [33]) = false := str_no h2
  clear hsg hr h1 h2
  generalize signS a = sg at *
  go_enter Tryz.func56, Tryz.ntmps56
  go_wp2_with fail
  refine (S1.out _ (up3 _ _ _)).mono ?_
  rintro e w0 ⟨rfl, rfl⟩
  go_wp2_with fail
  go_ret
  exact ⟨rfl, On.of_below (up3 _ _ _), fun s e => by cases e⟩

set_option maxRecDepth 100000 in
set_option maxHeartbeats 1000000 in
theorem does_other (k : Nat) (s : Sta) (c : Cd) (m : Mdl) (op a : Int) (v0 v1 v2 v3 v4 vm : Value) (w : World) (h : StAt w k s.st s.sl)
    (hm : RepMdl w vm m) (hop : op < 1 ∨ 18 < op ∨ op = 15) :
    Calls Tryz.prog 56 #[.pointer (some ⟨k, 0, none⟩), .agg #[v0, v1, v2, v3, v4], vm, .agg #[.int .i64 op, .int .i64 a]] w (Says k w (doesS c m ⟨op, a⟩ s)) := by
  have hr : doesS c m ⟨op, a⟩ s = some s := by
    unfold doesS
    dsimp only
    rw [if_neg (by omega), if_neg (by omega), if_neg (by omega), if_neg (by omega), if_neg (by omega), if_neg (by omega), if_neg (by omega), if_neg (by omega), if_neg (by omega), if_neg (by omega), if_neg (by omega), if_neg (by omega)]
  rw [hr]
  obtain ⟨u0, u1, rfl, _, _⟩ := hm
  have HW := Lib.hid h
  clear hr h
  go_enter Tryz.func56, Tryz.ntmps56
  rcases hop with hop | hop | rfl
  all_goals
    go_wp2_with fail
    go_ret
    exact ⟨rfl, On.of_below (up3 _ _ _), fun s e => by injection e with e; subst e; exact HW.out.below (up3 _ _ _)⟩
end Go.Proofs.YtmdceokmpjcllaaGreatDoor
