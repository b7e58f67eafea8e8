/-
  The verifier's state: what takes types off its stack.
-/
import Derived.Test.YtmdceokmpjcllaaGreatDoorVerifyS
namespace Go.Proofs.YtmdceokmpjcllaaGreatDoor
open Go.RowKit
attribute [local go_sem ↓] Go.wp_at_zero Go.wp_at_succ

theorem getD_take (l : List Int) (n i : Nat) (h : i < n) : (l.take n).getD i 0 = l.getD i 0 := by
  rw [List.getD_eq_getElem?_getD, List.getD_eq_getElem?_getD, List.getElem?_take_of_lt h]
theorem getD_drop (l : List Int) (n i : Nat) : (l.drop n).getD i 0 = l.getD (n + i) 0 := by
  rw [List.getD_eq_getElem?_getD, List.getD_eq_getElem?_getD, List.getElem?_drop]
theorem getD_i64 {l : List Int} (h : ∀ i, i64 (l.getD i 0)) {l' : List Int} (hh : ∀ i, l'.getD i 0 = 0 ∨ ∃ j, l'.getD i 0 = l.getD j 0) (i : Nat) : i64 (l'.getD i 0) := by
  rcases hh i with e | ⟨j, e⟩
  · rw [e]; constructor <;> decide
  · rw [e]; exact h j

theorem StkAt.take {w : World} {s0 : Option Addr} {cap : Nat} {l : List Int} (h : StkAt w (.slice s0 l.length cap) l) (n : Nat) (hn : n ≤ l.length) : StkAt w (.slice s0 n n) (l.take n) := by
  obtain ⟨s1, c1, he, h2, h3, h4, h5, h6⟩ := h
  injection he with e1 e2 e3
  subst e1; subst e3
  refine ⟨s0, n, by simp [Nat.min_eq_left hn], by simp; omega, by omega, fun e => by have := h4 e; omega, fun h0 => ?_, fun i => ?_⟩
  · have h0' : 0 < n := by simpa [Nat.min_eq_left hn] using h0
    obtain ⟨b, off, arr, fz, q1, q2, q3⟩ := h5 (by omega)
    refine ⟨b, off, arr, fz, q1, q2, fun i hi => ?_⟩
    have hi' : i < n := by simpa [Nat.min_eq_left hn] using hi
    rw [getD_take _ _ _ hi']
    exact q3 i (by omega)
  · by_cases e : i < n
    · rw [getD_take _ _ _ e]; exact h6 i
    · rw [List.getD_eq_getElem?_getD, List.getElem?_eq_none (by simp; omega)]; constructor <;> decide
theorem StkAt.drop_ne {w : World} {s0 : Option Addr} {cap : Nat} {l : List Int} (h : StkAt w (.slice s0 l.length cap) l) (n : Nat) (hn : n ≤ l.length) :
    StkAt w (.slice (s0.map fun a => a.add n) (l.length - n) (cap - n)) (l.drop n) := by
  obtain ⟨s1, c1, he, h2, h3, h4, h5, h6⟩ := h
  injection he with e1 e2 e3
  subst e1; subst e3
  refine ⟨s0.map fun a => a.add n, cap - n, by simp, by simp; omega, by omega, fun e => ?_, fun h0 => ?_, fun i => ?_⟩
  · cases s0 with
    | none => have := h4 rfl; omega
    | some a => cases e
  · have h0' : 0 < l.length - n := by simpa using h0
    obtain ⟨b, off, arr, fz, rfl, q2, q3⟩ := h5 (by omega)
    refine ⟨b, off + n, arr, fz, by simp [Go.WideShapes.add_plain], q2, fun i hi => ?_⟩
    have hi' : i < l.length - n := by simpa using hi
    rw [getD_drop, Nat.add_assoc]
    exact q3 (n + i) (by omega)
  · rw [getD_drop]; exact h6 _
theorem StkAt.drop_eq {w : World} {s0 : Option Addr} {l : List Int} (h : StkAt w (.slice s0 l.length l.length) l) : StkAt w (.slice s0 (l.length - l.length) 0) (l.drop l.length) := by
  obtain ⟨s1, c1, he, h2, h3, h4, h5, h6⟩ := h
  refine ⟨s0, 0, by simp, by simp, by omega, fun e => rfl, fun h0 => ?_, fun i => ?_⟩
  · simp at h0
  · rw [getD_drop]; exact h6 _

def TopSays (k : Nat) (st : List Int) (sl : Nat → Int) (n : Nat) (w : World) : Ending → World → Prop := fun e w' =>
  On k w w' ∧ if n ≤ st.length then ∃ v, e = .returned (.tuple #[v, .bool true]) ∧ StkAt w' v (st.drop (st.length - n)) ∧ StAt w' k (st.take (st.length - n)) sl
    else e = .returned (.tuple #[.slice none 0 0, .bool false]) ∧ StAt w' k st sl

set_option maxHeartbeats 1000000 in
theorem top_any (k : Nat) (st : List Int) (sl : Nat → Int) (n : Nat) (w : World) (h : StAt w k st sl) (hn : n ≤ 16) :
    Calls Tryz.prog 89 #[.pointer (some ⟨k, 0, none⟩), .int .i64 n] w (TopSays k st sl n w) := by
  have HW := Lib.hid h
  obtain ⟨⟨arr, hobj⟩, ⟨sv, hc0, s0, cap, rfl, hlc, hcap, hnil, hrow, h64⟩, hslot⟩ := h
  have HSK : Hid (StkAt w (.slice s0 st.length cap) st) := Lib.hid ⟨s0, cap, rfl, hlc, hcap, hnil, hrow, h64⟩
  have hfz : w.frozen? ⟨k, 0, none⟩ = false := frozen_of hobj 0
  have hkl := lt_of_block hobj
  have HO := Lib.hid hobj
  clear hobj hrow hslot h64 hnil
  have g1 : IntKind.i64.wrap ((st.length : Int) - (n : Int)) = (st.length : Int) - (n : Int) := IntWalk.i64_in _ (by unfold maxLen at hcap; omega)
  unfold maxLen at hcap
  by_cases hln : n ≤ st.length
  · have g2 : (st.length : Int) - (n : Int) = ((st.length - n : Nat) : Int) := by omega
    have HV := Lib.hid (HSK.out.take (st.length - n) (by omega))
    have HV2 := Lib.hid (fun (e : cap = st.length - n) => (show StkAt w (.slice s0 (st.length - (st.length - n)) 0) (st.drop (st.length - n)) from by
      have e1 : st.length - n = st.length := by omega
      have e2 : cap = st.length := by omega
      have := HSK.out
      rw [e2] at this
      rw [e1]
      exact this.drop_eq))
    have HV3 := Lib.hid (HSK.out.drop_ne (st.length - n) (by omega))
    have g3 : decide (((st.length - n : Nat) : Int) < 0) = false := by simp
    have hr : st.length - n ≤ st.length := by omega
    rw [g2] at g1
    generalize hR : st.length - n = R at *
    have HR := Lib.hid hR
    clear hR
    go_enter Tryz.func89, Tryz.ntmps89
    go_wp2_with fail
    · go_ret2
      refine ⟨(On.refl k w).set 0 _, ?_⟩
      rw [if_pos hln, HR.out]
      refine ⟨_, rfl, ?_, HW.out.setTop HV.out⟩
      exact ((On.refl k w).set 0 _).stk ⟨_, HO.out⟩ (HV2.out (by first | rfl | omega))
    · go_ret2
      refine ⟨(On.refl k w).set 0 _, ?_⟩
      rw [if_pos hln, HR.out]
      refine ⟨_, rfl, ?_, HW.out.setTop HV.out⟩
      exact ((On.refl k w).set 0 _).stk ⟨_, HO.out⟩ HV3.out
  · have g3 : decide ((st.length : Int) - (n : Int) < 0) = true := by simp; omega
    go_enter Tryz.func89, Tryz.ntmps89
    go_wp2_with fail
    go_ret2
    refine ⟨On.refl k w, ?_⟩
    rw [if_neg hln]
    exact ⟨rfl, HW.out⟩

theorem drew_drew (w : World) (m n : Nat) : (w.drewN m).drewN n = w.drewN (m + n) := by simp [World.drewN, Nat.add_assoc]
theorem list_eq_of {a b : List Int} (hl : a.length = b.length) (h : ∀ j, j < a.length → a.getD j 0 = b.getD j 0) : a = b := by
  refine List.ext_getElem hl fun j h1 h2 => ?_
  have := h j h1
  rwa [List.getD_eq_getElem?_getD, List.getD_eq_getElem?_getD, List.getElem?_eq_getElem h1, List.getElem?_eq_getElem h2] at this
theorem list_ne_of {a b : List Int} (j : Nat) (h : a.getD j 0 ≠ b.getD j 0) : a ≠ b := fun e => h (by rw [e])

/-- a list of types lies there -/
def TysAt (w : World) (v : Value) (l : List Int) : Prop :=
  ∃ s0 cap, v = .slice s0 l.length cap ∧ l.length ≤ cap ∧ cap ≤ 9223372036854775807 ∧ (0 < l.length → ∃ b off, s0 = some ⟨b, off, none⟩ ∧ ∀ i, i < l.length → w.cell? ⟨b, off + i, none⟩ = some (.int .i64 (l.getD i 0)))
theorem StkAt.tys {w : World} {v : Value} {l : List Int} (h : StkAt w v l) : TysAt w v l := by
  obtain ⟨s0, cap, h1, h2, h3, h4, h5, h6⟩ := h
  unfold maxLen at h3
  refine ⟨s0, cap, h1, h2, by omega, fun h0 => ?_⟩
  obtain ⟨b, off, _, _, q1, _, q3⟩ := h5 h0
  exact ⟨b, off, q1, q3⟩
theorem RepTys.tys {w : World} {v : Value} {l : List Int} (h : RepTys w v l) : TysAt w v l := by
  obtain ⟨s0, cap, h1, h2, h3, h4, h5, h6, h7⟩ := h
  refine ⟨s0, cap, h1, h3, by unfold capOk at h4; omega, fun h0 => ?_⟩
  obtain ⟨b, off, q1, _, q3⟩ := h6 h0
  exact ⟨b, off, q1, q3⟩

set_option maxHeartbeats 1000000 in
theorem eq_any (va vb : Value) (la lb : List Int) (w : World) (ha : TysAt w va la) (hb : TysAt w vb lb) :
    Calls Tryz.prog 59 #[va, vb] w fun e w' => e = .returned (.bool (decide (la = lb))) ∧ ∃ m, w' = w.drewN m := by
  obtain ⟨a0, ca, rfl, a2, a3, a5⟩ := ha
  obtain ⟨b0, cb, rfl, b2, b3, b5⟩ := hb
  have H5 := Lib.hid a5
  have G5 := Lib.hid b5
  clear a5 b5
  by_cases hl : la.length = lb.length
  · have e0 : ((la.length : Int) != (lb.length : Int)) = false := by simp [hl]
    have e1 : (la.length : Int) = (lb.length : Int) := by omega
    go_enter Tryz.func59, Tryz.ntmps59
    go_wp2_with fail
    have HL := Lib.hid hl
    clear hl
    go_loopw [13] (fun s13 wr => ∃ i : Nat, i ≤ la.length ∧ s13 = .int .i64 i ∧ (∀ j, j < i → la.getD j 0 = lb.getD j 0) ∧ ∃ m, wr = w.drewN m) (fun s13 _ => la.length - (intOf s13).toNat)
    case atStart => exact ⟨0, Nat.zero_le _, rfl, fun j hj => absurd hj (by omega), 0, rfl⟩
    case round =>
      obtain ⟨i, hi, rfl, hall, m, rfl⟩ := hrel
      have HA := Lib.hid hall
      clear hall
      by_cases hlt : i < la.length
      · obtain ⟨b, off, rfl, hcells⟩ := H5.out (by omega)
        obtain ⟨b', off', rfl, hcells'⟩ := G5.out (by have := HL.out; omega)
        have c1 := hcells i hlt
        have c2 := hcells' i (by have := HL.out; omega)
        have hlt2 : (i : Int) < (la.length : Int) := by omega
        have hlt3 : (i : Int) < (lb.length : Int) := by omega
        have hlt4 : i < lb.length := by omega
        have hi0 : (0 : Int) ≤ (i : Int) := by omega
        have q1 : decide (la.length ≤ i) = false := by simp; omega
        have q2 : decide (lb.length ≤ i) = false := by simp; omega
        clear hcells hcells'
        have HX := Lib.hid (rfl : la.getD i 0 = la.getD i 0)
        have HY := Lib.hid (rfl : lb.getD i 0 = lb.getD i 0)
        generalize hx : la.getD i 0 = x at c1
        generalize hy : lb.getD i 0 = y at c2
        have HX := Lib.hid hx
        have HY := Lib.hid hy
        clear hx hy
        by_cases hxy : x = y
        · have d1 : (x != y) = false := by simp [hxy]
          have HE := Lib.hid hxy
          clear hxy
          go_wp2_with fail
          go_big_quiet (fail)
          go_wp2_with fail
          go_roundw
          case rel => exact ⟨i + 1, by omega, by go_num, fun j hj => by
            by_cases e : j < i
            · exact HA.out j e
            · obtain rfl : j = i := by omega
              rw [HX.out, HY.out, HE.out], _, rfl⟩
          case measure => simp [intOf]; omega
        · have d1 : (x != y) = true := by simp [hxy]
          have hne : la ≠ lb := list_ne_of i (by rw [HX.out, HY.out]; exact hxy)
          have hd : decide (la = lb) = false := by simp [hne]
          have HD := Lib.hid hd
          clear hxy hne hd
          go_wp2_with fail
          go_big_quiet (fail)
          go_wp2_with fail
          go_ret
          exact ⟨by rw [HD.out]; rfl, _, drew_drew _ _ _⟩
      · have hall := HA.out
        obtain rfl : i = la.length := by omega
        have heq : la = lb := list_eq_of HL.out hall
        have hd : decide (la = lb) = true := by simp [heq]
        have HD := Lib.hid hd
        clear hall hd
        have hlt2 : ¬ ((la.length : Int) < (la.length : Int)) := by omega
        go_wp2_with fail
        go_ret
        exact ⟨rfl, m, rfl⟩
  · have e0 : ((la.length : Int) != (lb.length : Int)) = true := by simp; omega
    have hne : la ≠ lb := fun e => hl (by rw [e])
    have hd : decide (la = lb) = false := by simp [hne]
    rw [hd]
    have HL := Lib.hid hl
    clear hl
    go_enter Tryz.func59, Tryz.ntmps59
    go_wp2_with fail
    go_ret
    exact ⟨rfl, 0, rfl⟩

/-- may these be taken off the top? -/
def popOk (st want : List Int) : Bool := decide (want.length ≤ st.length) && decide (st.drop (st.length - want.length) = want)
def popTo (st want : List Int) : List Int := if popOk st want then st.take (st.length - want.length) else st

set_option maxHeartbeats 1000000 in
theorem pop_any (k : Nat) (st want : List Int) (sl : Nat → Int) (vw : Value) (w : World) (h : StAt w k st sl) (hv : TysAt w vw want) :
    Calls Tryz.prog 92 #[.pointer (some ⟨k, 0, none⟩), vw] w fun e w' => e = .returned (.bool (popOk st want)) ∧ On k w w' ∧ StAt w' k (popTo st want) sl := by
  have HW := Lib.hid h
  have HV := Lib.hid hv
  obtain ⟨⟨arr, hobj⟩, ⟨sv, hc0, s0, cap, rfl, hlc, hcap, hnil, hrow, h64⟩, hslot⟩ := h
  have HSK : Hid (StkAt w (.slice s0 st.length cap) st) := Lib.hid ⟨s0, cap, rfl, hlc, hcap, hnil, hrow, h64⟩
  have hfz : w.frozen? ⟨k, 0, none⟩ = false := frozen_of hobj 0
  have hkl := lt_of_block hobj
  have HO := Lib.hid hobj
  clear hobj hrow hslot h64 hnil
  obtain ⟨v0, vcap, rfl, hv1, hv2, _⟩ := hv
  unfold maxLen at hcap
  have g1 : IntKind.i64.wrap ((st.length : Int) - (want.length : Int)) = (st.length : Int) - (want.length : Int) := IntWalk.i64_in _ (by omega)
  by_cases hln : want.length ≤ st.length
  · have g2 : (st.length : Int) - (want.length : Int) = ((st.length - want.length : Nat) : Int) := by omega
    have HT := Lib.hid (HSK.out.take (st.length - want.length) (by omega))
    have HQ := Lib.hid (fun (e : cap = st.length - want.length) => (show StkAt w (.slice s0 (st.length - (st.length - want.length)) 0) (st.drop (st.length - want.length)) from by
      have e1 : st.length - want.length = st.length := by omega
      have e2 : cap = st.length := by omega
      have := HSK.out
      rw [e2] at this
      rw [e1]
      exact this.drop_eq))
    have HQ2 := Lib.hid (HSK.out.drop_ne (st.length - want.length) (by omega))
    have HP : Hid (popOk st want = decide (st.drop (st.length - want.length) = want)) := Lib.hid (by simp [popOk, hln])
    have HP2 : Hid (popTo st want = if popOk st want then st.take (st.length - want.length) else st) := Lib.hid rfl
    have g3 : decide (((st.length - want.length : Nat) : Int) < 0) = false := by simp
    have hr : st.length - want.length ≤ st.length := by omega
    rw [g2] at g1
    generalize hR : st.length - want.length = R at *
    have HR := Lib.hid hR
    clear hR
    by_cases hcR : cap = R
    · have HQ1 := Lib.hid (HQ.out hcR)
      rw [show st.length - R = 0 by omega] at HQ1
      subst hcR
      have HE : Hid (Calls Tryz.prog 59 #[.slice s0 0 0, .slice v0 want.length vcap] w fun e w' => e = .returned (.bool (popOk st want)) ∧ ∃ m, w' = w.drewN m) :=
        Lib.hid (by rw [HP.out]; exact eq_any _ _ _ _ w HQ1.out.tys HV.out)
      clear HP HQ HQ2
      generalize popOk st want = q at *
      generalize popTo st want = st' at *
      go_enter Tryz.func92, Tryz.ntmps92
      go_wp2_with fail
      refine HE.out.mono ?_
      rintro e w1 ⟨rfl, m, rfl⟩
      cases q
      · go_wp2_with fail
        go_ret
        exact ⟨rfl, (On.refl k w).drewN m, by rw [HP2.out]; exact HW.out.drewN m⟩
      · go_wp2_with fail
        go_ret
        exact ⟨rfl, ((On.refl k w).drewN m).set 0 _, by rw [HP2.out]; exact (HW.out.drewN m).setTop (HT.out)⟩
    · have HQ1 := Lib.hid (HQ2.out)
      have HE : Hid (Calls Tryz.prog 59 #[.slice (s0.map fun a => a.add R) (st.length - R) (cap - R), .slice v0 want.length vcap] w fun e w' => e = .returned (.bool (popOk st want)) ∧ ∃ m, w' = w.drewN m) :=
        Lib.hid (by rw [HP.out]; exact eq_any _ _ _ _ w HQ1.out.tys HV.out)
      clear HP HQ HQ2
      generalize popOk st want = q at *
      generalize popTo st want = st' at *
      go_enter Tryz.func92, Tryz.ntmps92
      go_wp2_with fail
      refine HE.out.mono ?_
      rintro e w1 ⟨rfl, m, rfl⟩
      cases q
      · go_wp2_with fail
        go_ret
        exact ⟨rfl, (On.refl k w).drewN m, by rw [HP2.out]; exact HW.out.drewN m⟩
      · go_wp2_with fail
        go_ret
        exact ⟨rfl, ((On.refl k w).drewN m).set 0 _, by rw [HP2.out]; exact (HW.out.drewN m).setTop (HT.out)⟩
  · have g3 : decide ((st.length : Int) - (want.length : Int) < 0) = true := by simp; omega
    have hp : popOk st want = false := by simp [popOk, hln]
    have hp2 : popTo st want = st := by rw [popTo, hp]; rfl
    rw [hp, hp2]
    go_enter Tryz.func92, Tryz.ntmps92
    go_wp2_with fail
    go_ret
    exact ⟨rfl, On.refl k w, HW.out⟩
end Go.Proofs.YtmdceokmpjcllaaGreatDoor
