/-
  Compile: part 18 of its proof: see the last text.
-/
import Derived.Test.YtjblihabklemfaaGreatDoorPm17
import Derived.Test.YtjblihabklemfaaGreatDoorPm01
set_option maxRecDepth 100000
set_option maxHeartbeats 16000000
namespace Go.Proofs.YtjblihabklemfaaGreatDoor
section
open Go.RowKit
structure Ins where
 op : Int
 a : Int
structure Cd where
 name : ByteArray
 params : List Int
 result : Int
 slots : Int
 ins : List Ins
structure Mdl where
 codes : List Cd
 texts : List (List Int)
instance : Inhabited Ins := ⟨⟨0, 0⟩⟩
instance : Inhabited Cd := ⟨⟨ByteArray.empty, [], 0, 0, []⟩⟩
def i64 (x : Int) : Prop := -9223372036854775808 ≤ x ∧ x ≤ 9223372036854775807
def big (n : Nat) : Prop := n ≤ 1152921504606846976
def lv (n : Nat) : Prop := n ≤ 9223372036854775807
def RepTys (w : World) (v : Value) (l : List Int) : Prop :=
 ∃ s0 cap, v = .slice s0 l.length cap ∧ big l.length ∧ l.length ≤ cap ∧ lv cap ∧ (s0 = none → cap = 0) ∧ RowTy w s0 l.length (fun i => .int .i64 (l.getD i 0)) ∧ ∀ i, i64 (l.getD i 0)
def RepIns (w : World) (v : Value) (l : List Ins) : Prop :=
 ∃ s0 cap, v = .slice s0 l.length cap ∧ big l.length ∧ l.length ≤ cap ∧ lv cap ∧ (s0 = none → cap = 0) ∧ RowIn w s0 l.length (fun i => .int .i64 (l.getD i default).op) (fun i => .int .i64 (l.getD i default).a) ∧ ∀ i, i64 (l.getD i default).op ∧ i64 (l.getD i default).a
structure RepCd (w : World) (v0 v1 v2 v3 v4 : Value) (c : Cd) : Prop where
 name : v0 = .string c.name
 nameLen : big c.name.size
 params : RepTys w v1 c.params
 result : v2 = .int .i64 c.result
 slots : v3 = .int .i64 c.slots
 ins : RepIns w v4 c.ins
 r1 : i64 c.result
 r2 : i64 c.slots
def RepCds (w : World) (v : Value) (l : List Cd) : Prop :=
 ∃ s0 cap c0 c1 c2 c3 c4, v = .slice s0 l.length cap ∧ big l.length ∧ l.length ≤ cap ∧ lv cap ∧ (s0 = none → cap = 0) ∧ RowCd w s0 l.length c0 c1 c2 c3 c4 ∧ ∀ i, i < l.length → RepCd w (c0 i) (c1 i) (c2 i) (c3 i) (c4 i) (l.getD i default)
def RepBytes (w : World) (v : Value) (l : List Int) : Prop :=
 ∃ s0 cap, v = .slice s0 l.length cap ∧ big l.length ∧ l.length ≤ cap ∧ lv cap ∧ (s0 = none → cap = 0) ∧ (0 < l.length → ∃ b off, s0 = some ⟨b, off, none⟩ ∧ b < w.heap.size ∧ ∀ i, i < l.length → w.cell? ⟨b, off + i, none⟩ = some (.int .u8 (l.getD i 0))) ∧ ∀ i, 0 ≤ l.getD i 0 ∧ l.getD i 0 ≤ 255
def RepTexts (w : World) (v : Value) (l : List (List Int)) : Prop :=
 ∃ s0 cap c0, v = .slice s0 l.length cap ∧ big l.length ∧ l.length ≤ cap ∧ lv cap ∧ (s0 = none → cap = 0) ∧ RowBy w s0 l.length c0 ∧ ∀ i, i < l.length → RepBytes w (c0 i) (l.getD i [])
def RepMdl (w : World) (v : Value) (m : Mdl) : Prop := ∃ v0 v1, v = .agg #[v0, v1] ∧ RepCds w v0 m.codes ∧ RepTexts w v1 m.texts
theorem RepTys.later {w w' : World} {v : Value} {l : List Int} (h : RepTys w v l) (hb : Below w.heap.size w w') : RepTys w' v l := by
 obtain ⟨s0, cap, h1, h2, h2a, h2b, h2c, h3, h4⟩ := h
 exact ⟨s0, cap, h1, h2, h2a, h2b, h2c, h3.later hb, h4⟩
theorem RepIns.later {w w' : World} {v : Value} {l : List Ins} (h : RepIns w v l) (hb : Below w.heap.size w w') : RepIns w' v l := by
 obtain ⟨s0, cap, h1, h2, h2a, h2b, h2c, h3, h4⟩ := h
 exact ⟨s0, cap, h1, h2, h2a, h2b, h2c, h3.later hb, h4⟩
theorem RepCd.later {w w' : World} {v0 v1 v2 v3 v4 : Value} {c : Cd} (h : RepCd w v0 v1 v2 v3 v4 c) (hb : Below w.heap.size w w') : RepCd w' v0 v1 v2 v3 v4 c :=
 ⟨h.name, h.nameLen, h.params.later hb, h.result, h.slots, h.ins.later hb, h.r1, h.r2⟩
theorem RepCds.later {w w' : World} {v : Value} {l : List Cd} (h : RepCds w v l) (hb : Below w.heap.size w w') : RepCds w' v l := by
 obtain ⟨s0, cap, c0, c1, c2, c3, c4, h1, h2, h2a, h2b, h2c, h3, h4⟩ := h
 exact ⟨s0, cap, c0, c1, c2, c3, c4, h1, h2, h2a, h2b, h2c, h3.later hb, fun i hi => (h4 i hi).later hb⟩
theorem RepBytes.later {w w' : World} {v : Value} {l : List Int} (h : RepBytes w v l) (hb : Below w.heap.size w w') : RepBytes w' v l := by
 obtain ⟨s0, cap, h1, h2, h2a, h2b, h2c, h3, h4⟩ := h
 refine ⟨s0, cap, h1, h2, h2a, h2b, h2c, fun h0 => ?_, h4⟩
 obtain ⟨b, off, h5, h6, h7⟩ := h3 h0
 exact ⟨b, off, h5, Nat.lt_of_lt_of_le h6 hb.size, fun i hi => (aK hb b _ h6).trans (h7 i hi)⟩
theorem RepTexts.later {w w' : World} {v : Value} {l : List (List Int)} (h : RepTexts w v l) (hb : Below w.heap.size w w') : RepTexts w' v l := by
 obtain ⟨s0, cap, c0, h1, h2, h2a, h2b, h2c, h3, h4⟩ := h
 exact ⟨s0, cap, c0, h1, h2, h2a, h2b, h2c, h3.later hb, fun i hi => (h4 i hi).later hb⟩
theorem RepMdl.later {w w' : World} {v : Value} {m : Mdl} (h : RepMdl w v m) (hb : Below w.heap.size w w') : RepMdl w' v m := by
 obtain ⟨v0, v1, h1, h2, h3⟩ := h
 exact ⟨v0, v1, h1, h2.later hb, h3.later hb⟩
def d8 (t : Int) : Bool := decide (1 ≤ t ∧ t ≤ 3)
def opB (i : Ins) : Bool := decide (1 ≤ i.op ∧ i.op ≤ 18)
def fE (c : Cd) : Bool :=
 decide (c.name.size ≤ 16) && decide (c.params.length ≤ 16) && eR (fun i => d8 (c.params.getD i 0)) c.params.length && (decide (c.result = 0) || d8 c.result) &&
  decide ((c.params.length : Int) ≤ c.slots) && decide (c.slots ≤ 256) && decide (c.ins.length ≤ 16384) && eR (fun i => opB (c.ins.getD i default)) c.ins.length
def gN (m : Mdl) : Bool :=
 decide (m.codes.length ≤ 64) && decide (m.texts.length ≤ 1024) && eR (fun i => decide ((m.texts.getD i []).length ≤ 64)) m.texts.length && eR (fun i => fE (m.codes.getD i default)) m.codes.length
theorem oG (t : Int) (w : World) :
    Calls Tryz.prog 35 #[.int .i64 t] w fun e w' => e = .returned (.bool (d8 t)) ∧ Below w.heap.size w w' := by
 go_enter Tryz.func35, Tryz.ntmps35
 go_wp2
 all_goals
  go_ret
  refine ⟨bF ?_, Below.refl _ _⟩
  unfold d8
  rw [Bool.eq_iff_iff]
  simp
  try omega
theorem pd (t : Int) (w : World) :
    Calls Tryz.prog 35 #[.int .i64 t] w fun e w' => e = .returned (.bool (d8 t)) ∧ w = w' := by
 go_enter Tryz.func35, Tryz.ntmps35
 go_wp2
 all_goals
  go_ret
  refine ⟨bF ?_, rfl⟩
  unfold d8
  rw [Bool.eq_iff_iff]
  simp
  try omega
theorem qy (o a : Int) (w : World) :
    Calls Tryz.prog 37 #[.agg #[.int .i64 o, .int .i64 a]] w fun e w' => e = .returned (.bool (opB ⟨o, a⟩)) ∧ Below w.heap.size w w' := by
 go_enter Tryz.func37, Tryz.ntmps37
 go_wp2
 all_goals
  go_ret
  refine ⟨bF ?_, ae (Below.refl _ _) _⟩
  unfold opB
  rw [Bool.eq_iff_iff]
  simp
  try omega
theorem o0 (s0 : Option Addr) (n cap : Nat) (w : World) (hn : n ≤ 9223372036854775807) :
    Calls Tryz.prog 31 #[.slice s0 n cap] w fun e w' => e = .returned (.bool (decide (n ≤ 64))) ∧ Below w.heap.size w w' := by
 go_enter Tryz.func31, Tryz.ntmps31
 go_wp2
 all_goals
  go_ret
  refine ⟨bF ?_, Below.refl _ _⟩
  rw [Bool.eq_iff_iff]
  simp
  try omega
theorem li {w : World} {v0 v1 v2 v3 v4 : Value} {c : Cd} (hc : RepCd w v0 v1 v2 v3 v4 c) :
    Calls Tryz.prog 33 #[.agg #[v0, v1, v2, v3, v4]] w fun e w' => e = .returned (.bool (fE c)) ∧ Below w.heap.size w w' := by
 obtain ⟨rfl, hnl, hp, rfl, rfl, hins, hr1, hr2⟩ := hc
 obtain ⟨s1, cap1, rfl, hp1, _, _, _, hp2, hp3⟩ := hp
 obtain ⟨s4, cap4, rfl, hi1, _, _, _, hi2, hi3⟩ := hins
 unfold big at hnl hp1 hi1
 unfold i64 at hr1 hr2
 have hb0 : Below w.heap.size w (w.alloc (Obj.cells #[.string c.name, .slice s1 c.params.length cap1, .int .i64 c.result, .int .i64 c.slots, .slice s4 c.ins.length cap4] 35)) := ae (Below.refl _ _) _
 have K1 := zh (fun W (hW : Below w.heap.size w W) => pY s1 c.params.length cap1 _ (fun i => d8 (c.params.getD i 0)) W (by omega) (hp2.later hW) (fun i _ W1 _ => oG _ W1))
 have K2 := zh (fun W (hW : Below w.heap.size w W) => qE s4 c.ins.length cap4 _ _ (fun i => opB (c.ins.getD i default)) W (by omega) (hi2.later hW) (fun i _ W1 _ => qy _ _ W1))
 have HRC : Hid (fE c = (decide (c.name.size ≤ 16) && decide (c.params.length ≤ 16) && eR (fun i => d8 (c.params.getD i 0)) c.params.length && (decide (c.result = 0) || d8 c.result) &&
   decide ((c.params.length : Int) ≤ c.slots) && decide (c.slots ≤ 256) && decide (c.ins.length ≤ 16384) && eR (fun i => opB (c.ins.getD i default)) c.ins.length)) := rfl
 have HB0 := zh hb0
 clear hp2 hp3 hi2 hi3 hb0
 generalize eR (fun i => d8 (c.params.getD i 0)) c.params.length = t1 at *
 generalize eR (fun i => opB (c.ins.getD i default)) c.ins.length = t2 at *
 generalize fE c = rc at *
 generalize c.params.length = n1 at *
 generalize c.ins.length = n4 at *
 generalize c.name = nm at *
 generalize c.result = rs at *
 generalize c.slots = sl at *
 cases t1
 all_goals
  cases t2
  all_goals
   go_enter Tryz.func33, Tryz.ntmps33
   go_wp2_with (first | (go_at_call 34; refine (K1.out _ HB0.out).mono ?_; rintro e w1 ⟨rfl, hb1⟩; obtain ⟨hc1, hf1, hs1⟩ := qX hb1; have hbw := ak HB0.out hb1; have hlt1 : w.heap.size < w1.heap.size := by have := hb1.size; simp at this; omega) | (go_at_call 35; refine (pd _ _).mono ?_; rintro e w2 ⟨rfl, rfl⟩) | (go_at_call 36; refine (K2.out _ hbw).mono ?_; rintro e w3 ⟨rfl, hb3⟩; have hbw3 := ak hbw hb3))
   all_goals
    go_ret
    refine ⟨bF ?_, ?_⟩
    ·rw [HRC.out]
     unfold d8 at *
     rw [Bool.eq_iff_iff]
     simp at *
     try omega
    ·repeat (first | exact Below.refl _ _ | assumption | refine ae ?_ _ | refine ak ?_ (by assumption))
theorem ns {w : World} {v : Value} {m : Mdl} (hm : RepMdl w v m) :
    Calls Tryz.prog 20 #[v] w fun e w' => e = .returned (.bool (gN m)) ∧ Below w.heap.size w w' := by
 obtain ⟨v0, v1, rfl, h0, h1⟩ := hm
 obtain ⟨s0, cap0, c0, c1, c2, c3, c4, rfl, n0, _, _, _, r0, rc⟩ := h0
 obtain ⟨s1, cap1, d0, rfl, n1, _, _, _, r1, rt⟩ := h1
 unfold big at n0 n1
 have HB0 : Hid (∀ W, W = w.alloc (Obj.cells #[.slice s0 m.codes.length cap0, .slice s1 m.texts.length cap1] 27) → Below w.heap.size w W) := fun W hW => by rw [hW]; exact ae (Below.refl _ _) _
 have K1 := zh (fun W (hW : Below w.heap.size w W) => pV s1 m.texts.length cap1 d0 (fun i => decide ((m.texts.getD i []).length ≤ 64)) W (by omega) (r1.later hW) (fun i hi W1 hW1 => by
   obtain ⟨a, cp, h1, h2, _⟩ := rt i hi
   rw [h1]
   unfold big at h2
   exact o0 a _ cp W1 (by omega)))
 have K2 := zh (fun W (hW : Below w.heap.size w W) => qp s0 m.codes.length cap0 c0 c1 c2 c3 c4 (fun i => fE (m.codes.getD i default)) W (by omega) (r0.later hW) (fun i hi W1 hW1 => li ((rc i hi).later (ak hW hW1))))
 have HRC : Hid (gN m = (decide (m.codes.length ≤ 64) && decide (m.texts.length ≤ 1024) && eR (fun i => decide ((m.texts.getD i []).length ≤ 64)) m.texts.length && eR (fun i => fE (m.codes.getD i default)) m.codes.length)) := rfl
 clear r0 rc r1 rt
 generalize eR (fun i => decide ((m.texts.getD i []).length ≤ 64)) m.texts.length = t1 at *
 generalize eR (fun i => fE (m.codes.getD i default)) m.codes.length = t2 at *
 generalize gN m = rm at *
 generalize m.codes.length = k0 at *
 generalize m.texts.length = k1 at *
 cases t1
 all_goals
  cases t2
  all_goals
   go_enter Tryz.func20, Tryz.ntmps20
   go_wp2_with (first | (go_at_call 30; refine (K1.out _ (HB0.out _ rfl)).mono ?_; rintro e w1 ⟨rfl, hb1⟩; obtain ⟨hc1, hf1, hs1⟩ := qX hb1; have hbw := ak (HB0.out _ rfl) hb1; have hlt1 : w.heap.size < w1.heap.size := by have := hb1.size; simp at this; omega) | (go_at_call 32; refine (K2.out _ hbw).mono ?_; rintro e w3 ⟨rfl, hb3⟩; have hbw3 := ak hbw hb3))
   all_goals
    go_ret
    refine ⟨bF ?_, ?_⟩
    ·rw [HRC.out]
     rw [Bool.eq_iff_iff]
     simp at *
     try omega
    ·repeat (first | exact Below.refl _ _ | assumption | refine ae ?_ _ | refine ak ?_ (by assumption))
end
section
open Go.RowKit
structure CS where
 ins : List Ins
 slots : Int
 texts : List ByteArray
abbrev bg := List (ByteArray × Int)
def aq (o a : Int) (s : CS) : CS := ⟨s.ins ++ [⟨o, a⟩], s.slots, s.texts⟩
def cQ (at' : Nat) (s : CS) : CS := ⟨s.ins.set at' ⟨(s.ins.getD at' default).op, s.ins.length⟩, s.slots, s.texts⟩
def bh (s : CS) : CS := ⟨s.ins, s.slots + 1, s.texts⟩
def d7 : List ByteArray → ByteArray → Nat
 | [], _ => 0
 | t :: l, s => if t = s then 0 else d7 l s + 1
def jQ : List ByteArray → ByteArray → Bool
 | [], _ => false
 | x :: l, s => if x = s then true else jQ l s
def dg (t : ByteArray) (s : CS) : CS := if jQ s.texts t then s else ⟨s.ins, s.slots, s.texts ++ [t]⟩
def bI : List Fn → ByteArray → Nat
 | [], _ => 0
 | f :: l, s => if f.name = s then 0 else bI l s + 1
def gp (F : List Fn) (s : ByteArray) : Int := (F.getD (bI F s) default).result
def signNames : List (List UInt8) := [[], [43], [45], [42], [47], [37], [60], [60, 61], [62], [62, 61], [61, 61], [33, 61], [33]]
def cL (s : List UInt8) : Int := ((signNames.findIdx? (· == s)).getD 0 : Nat)
def kZ (n : Int) : Int := if n = 1 then 1 else 0
def nS (t : List UInt8) : Bool := t == [38, 38]
def orB (t : List UInt8) : Bool := t == [124, 124]
mutual
def cE (F : List Fn) (v : bg) : Ex → CS → CS
 | .mk op num text ks _, s =>
  let s := aq 1 1 s
  if (nS text.toList || orB text.toList) && op == 6 then cn F v (nS text.toList) ks s
  else
   let s := aD F v ks s
   if op = 1 then aq 2 num s
   else if op = 2 then aq 3 (kZ num) s
   else if op = 3 then let s := dg text s; aq 4 (d7 s.texts text) s
   else if op = 4 then aq 5 ((aF v text).getD 0) s
   else if op = 5 then aq 14 (bI F text) s
   else if op = 6 then aq 7 (cL text.toList) s
   else if op = 7 then aq 8 (cL text.toList) s
   else if op = 8 then aq 9 0 s
   else if op = 9 then aq 10 0 s
   else if op = 10 then aq 11 0 s
   else s
def aD (F : List Fn) (v : bg) : List Ex → CS → CS
 | [], s => s
 | x :: l, s => aD F v l (cE F v x s)
def cn (F : List Fn) (v : bg) (isAnd : Bool) : List Ex → CS → CS
 | [], s => s
 | [_], s => s
 | x :: y :: _, s =>
  let s := cE F v x s
  let other := s.ins.length
  let s := aq 16 0 s
  let s := if isAnd then cE F v y s else aq 3 1 s
  let end' := s.ins.length
  let s := aq 15 0 s
  let s := cQ other s
  let s := if isAnd then aq 3 0 s else cE F v y s
  cQ end' s
end
mutual
def dT (F : List Fn) : St → bg × CS → bg × CS
 | .mk op text es body els _, (v, s) =>
  let s := aq 1 1 s
  let s := aD F v es s
  if op = 1 then (bJ v text s.slots, aq 6 s.slots (bh s))
  else if op = 2 then (v, aq 6 ((aF v text).getD 0) s)
  else if op = 3 then
   let other := s.ins.length
   let s := aq 16 0 s
   let s := (aI F body (v, s)).2
   if bK body then
    let s := cQ other s
    (v, (aI F els (v, s)).2)
   else
    let end' := s.ins.length
    let s := aq 15 0 s
    let s := cQ other s
    let s := (aI F els (v, s)).2
    (v, cQ end' s)
  else if op = 4 then
   let name := s.slots
   let s := bh (bh s)
   let s := aq 6 (name + 1) s
   let s := aq 6 name s
   let begin' := s.ins.length
   let s := aq 5 name s
   let s := aq 5 (name + 1) s
   let s := aq 7 6 s
   let end' := s.ins.length
   let s := aq 16 0 s
   let s := aq 1 1 s
   let s := (aI F body (bJ v text name, s)).2
   let s := aq 5 name s
   let s := aq 2 1 s
   let s := aq 7 1 s
   let s := aq 6 name s
   let s := aq 15 begin' s
   (v, cQ end' s)
  else if op = 5 then (v, aq 18 0 s)
  else if op = 6 then (v, aq 12 0 s)
  else if op = 7 then (v, aq 13 0 s)
  else if op = 8 then (v, if gp F (es.headD default).text = 0 then s else aq 17 0 s)
  else (v, s)
def aI (F : List Fn) : List St → bg × CS → bg × CS
 | [], s => s
 | x :: l, s => aI F l (dT F x s)
end
def aC : List (ByteArray × Int) → bg × Int → bg × Int
 | [], s => s
 | p :: l, s => aC l (bJ s.1 p.1 s.2, s.2 + 1)
def cz (F : List Fn) (f : Fn) (texts : List ByteArray) : Cd × List ByteArray :=
 let p := aC f.params ([], 0)
 let s := (aI F f.body (p.1, ⟨[], p.2, texts⟩)).2
 let s := if f.result = 0 then aq 18 0 s else s
 (⟨f.name, f.params.map (·.2), f.result, s.slots, s.ins⟩, s.texts)
def a8 (F : List Fn) : List Fn → List Cd × List ByteArray → List Cd × List ByteArray
 | [], s => s
 | f :: l, s => a8 F l (s.1 ++ [(cz F f s.2).1], (cz F f s.2).2)
def cI (t : ByteArray) : List Int := t.toList.map fun b => (b.toNat : Int)
def cM (F : List Fn) : Mdl := ⟨(a8 F F ([], [])).1, (a8 F F ([], [])).2.map cI⟩
def dB (F : List Fn) : Except Int Mdl :=
 if (bw F).1 ≠ 0 then .error (bw F).1
 else if gN (cM F) then .ok (cM F) else .error 2
end
end Go.Proofs.YtjblihabklemfaaGreatDoor
