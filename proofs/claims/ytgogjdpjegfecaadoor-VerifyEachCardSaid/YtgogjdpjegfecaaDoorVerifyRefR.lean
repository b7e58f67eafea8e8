/-
  The reference's Right, at modules that are right.
-/
import Derived.Test.YtgogjdpjegfecaaDoorVerifyN
namespace Go.Proofs.YtgogjdpjegfecaaDoor
open Go.RowKit

set_option maxHeartbeats 400000 in
theorem rtyped_any (t : Int) (w : World) : Calls Tryd.prog 28 #[.int .i64 t] w fun e w' => e = .returned (.bool (typedB t)) ∧ w = w' := by
  go_enter Tryd.func28, Tryd.ntmps28
  go_wp2
  all_goals
    go_ret
    refine ⟨ret_bool ?_, rfl⟩
    unfold typedB
    rw [Bool.eq_iff_iff]
    simp
    try omega

theorem rightCd_parts {c : Cd} (h : rightCd c = true) : c.name.size ≤ 16 ∧ c.params.length ≤ 16 ∧ (∀ i, i < c.params.length → typedB (c.params.getD i 0) = true) ∧ (c.result = 0 ∨ typedB c.result = true) ∧ (c.params.length : Int) ≤ c.slots ∧ c.slots ≤ 256 ∧ c.ins.length ≤ 16384 ∧ ∀ i, i < c.ins.length → opB (c.ins.getD i default) = true := by
  simp only [rightCd, Bool.and_eq_true, Bool.or_eq_true, decide_eq_true_eq, allB_iff] at h
  obtain ⟨⟨⟨⟨⟨⟨⟨h1, h2⟩, h3⟩, h4⟩, h5⟩, h6⟩, h7⟩, h8⟩ := h
  exact ⟨h1, h2, h3, h4, h5, h6, h7, h8⟩

set_option maxRecDepth 100000 in
set_option maxHeartbeats 2000000 in
theorem rcode_right {w : World} {v0 v1 v2 v3 v4 : Value} {c : Cd} (hc : RepCd w v0 v1 v2 v3 v4 c) (hr : rightCd c = true) : Calls Tryd.prog 15 #[.agg #[v0, v1, v2, v3, v4]] w fun e w' => e = .returned (.bool true) ∧ Below w.heap.size w w' := by
  obtain ⟨p1, p2, p3, p4, p5, p6, p7, p8⟩ := rightCd_parts hr
  obtain ⟨rfl, hnl, hp, rfl, rfl, hins, hr1, hr2⟩ := hc
  obtain ⟨s1, cap1, rfl, hp1, _, _, _, hp2, hp3⟩ := hp
  obtain ⟨s4, cap4, rfl, hi1, _, _, _, hi2, hi3⟩ := hins
  unfold i64 at hr1 hr2
  have HP2 := Lib.hid hp2
  have HI2 := Lib.hid hi2
  have P3 := Lib.hid p3
  have P8 := Lib.hid p8
  have HB0 : Hid (Below w.heap.size w (w.alloc (Obj.cells #[.string c.name, .slice s1 c.params.length cap1, .int .i64 c.result, .int .i64 c.slots, .slice s4 c.ins.length cap4] 30))) := Lib.hid (up_alloc (Below.refl _ _) _)
  clear hp2 hp3 hi2 hi3 p3 p8 hr hnl hp1 hi1
  generalize c.params.length = n1 at *
  generalize c.ins.length = n4 at *
  generalize c.name = nm at *
  generalize c.slots = sl at *
  generalize c.result = rs at *
  rcases p4 with p4 | p4
  all_goals
    first
      | (subst p4)
      | (have HT := Lib.hid p4; clear p4)
    go_enter Tryd.func15, Tryd.ntmps15
    go_wp2_with (go_at_call 28; refine (rtyped_any _ _).mono ?_; rintro e w1 ⟨rfl, rfl⟩)
    go_loopw [3] (fun s3 wr => ∃ (i n : Nat), i ≤ n1 ∧ s3 = .int .i64 i ∧ wr = (w.alloc (Obj.cells #[.string nm, .slice s1 n1 cap1, .int .i64 _, .int .i64 sl, .slice s4 n4 cap4] 30)).drewN n) (fun s3 _ => n1 - (intOf s3).toNat)
    case atStart => exact ⟨0, 0, Nat.zero_le _, rfl, rfl⟩
    case round =>
      obtain ⟨i, nd, hi, rfl, rfl⟩ := hrel
      by_cases hlt : i < n1
      · obtain ⟨b, off, hs1, hbl, hrow⟩ := HP2.out (by omega)
        have x0 := hrow i hlt
        have y0 := (up_cell HB0.out _ _ hbl).trans x0
        have HTY := Lib.hid (P3.out i hlt)
        clear x0 hrow
        subst hs1
        dsimp only at y0
        generalize c.params.getD i 0 = ty at *
        go_wp2_with (go_at_call 28; refine (rtyped_any _ _).mono ?_; rintro e w1 ⟨rfl, rfl⟩; rw [HTY.out])
        go_roundw
        case rel => exact ⟨i + 1, _, by omega, by go_num, rfl⟩
        case measure => simp [intOf]; omega
      · obtain rfl : i = n1 := by omega
        clear hlt
        go_wp2_with fail
        go_loopw [4] (fun s4' wr => ∃ (i' n : Nat), i' ≤ n4 ∧ s4' = .int .i64 i' ∧ wr = (w.alloc (Obj.cells #[.string nm, .slice s1 i cap1, .int .i64 _, .int .i64 sl, .slice s4 n4 cap4] 30)).drewN n) (fun s4' _ => n4 - (intOf s4').toNat)
        case atStart => exact ⟨0, nd, Nat.zero_le _, rfl, rfl⟩
        case round =>
          obtain ⟨j, ne, hj, rfl, rfl⟩ := hrel
          by_cases hlt : j < n4
          · obtain ⟨b, off, hs4, hbl, hrow⟩ := HI2.out (by omega)
            obtain ⟨x0, _⟩ := hrow j hlt
            have y0 := (up_cell HB0.out _ _ hbl).trans x0
            have hop := P8.out j hlt
            unfold opB at hop
            simp only [decide_eq_true_eq] at hop
            clear x0 hrow
            subst hs4
            dsimp only at y0
            generalize (c.ins.getD j default).op = op at *
            have o1 : 1 ≤ op := hop.1
            have o2 : op ≤ 18 := hop.2
            clear hop
            go_wp2_with fail
            go_roundw
            case rel => exact ⟨j + 1, _, by omega, by go_num, rfl⟩
            case measure => simp [intOf]; omega
          · obtain rfl : j = n4 := by omega
            clear hlt
            go_wp2_with fail
            go_ret
            exact ⟨rfl, up_drewN HB0.out _⟩

theorem rightM_parts {m : Mdl} (h : rightM m = true) : m.codes.length ≤ 64 ∧ m.texts.length ≤ 1024 ∧ (∀ i, i < m.texts.length → (m.texts.getD i []).length ≤ 64) ∧ ∀ i, i < m.codes.length → rightCd (m.codes.getD i default) = true := by
  simp only [rightM, Bool.and_eq_true, decide_eq_true_eq, allB_iff] at h
  obtain ⟨⟨⟨h1, h2⟩, h3⟩, h4⟩ := h
  exact ⟨h1, h2, fun i hi => by simpa using h3 i hi, h4⟩

set_option maxRecDepth 100000 in
set_option maxHeartbeats 2000000 in
theorem rright_right {w : World} {v : Value} {m : Mdl} (hm : RepMdl w v m) (hr : rightM m = true) : Calls Tryd.prog 10 #[v] w fun e w' => e = .returned (.bool true) ∧ Below w.heap.size w w' := by
  obtain ⟨p1, p2, p3, p4⟩ := rightM_parts hr
  obtain ⟨v0, v1, rfl, h0, h1⟩ := hm
  obtain ⟨s0, cap0, c0, c1, c2, c3, c4, rfl, n0, l0, k0, nn0, r0, rc⟩ := h0
  obtain ⟨s1, cap1, d0, rfl, n1, l1, k1, nn1, r1, rt⟩ := h1
  have HR0 := Lib.hid r0
  have HR1 := Lib.hid r1
  have HC := Lib.hid rc
  have HT := Lib.hid rt
  have P3 := Lib.hid p3
  have P4 := Lib.hid p4
  clear r0 r1 rc rt nn0 nn1 n0 n1 p3 p4 hr
  have HW : Hid (Below w.heap.size w (w.alloc (Obj.cells #[Value.slice s0 m.codes.length cap0, Value.slice s1 m.texts.length cap1] 25))) := Lib.hid (up_alloc (Below.refl _ _) _)
  go_enter Tryd.func10, Tryd.ntmps10
  go_wp2_with fail
  go_loopw [3] (fun s3 wr => ∃ (i n : Nat), i ≤ m.texts.length ∧ s3 = .int .i64 i ∧ wr = (w.alloc (Obj.cells #[Value.slice s0 m.codes.length cap0, Value.slice s1 m.texts.length cap1] 25)).drewN n) (fun s3 _ => m.texts.length - (intOf s3).toNat)
  case atStart => exact ⟨0, 0, Nat.zero_le _, rfl, rfl⟩
  case round =>
    obtain ⟨i, nd, hi, rfl, rfl⟩ := hrel
    by_cases hlt : i < m.texts.length
    · obtain ⟨b, off, hs1, hbl, hrow⟩ := HR1.out (by omega)
      have x0 := hrow i hlt
      obtain ⟨st, ct, et, bt, _⟩ := HT.out i hlt
      have ht := P3.out i hlt
      rw [et] at x0
      have y0 := (up_cell HW.out _ _ hbl).trans x0
      clear x0 et hrow bt
      subst hs1
      generalize (m.texts.getD i []).length = tl at *
      go_wp2_with fail
      go_roundw
      case rel => exact ⟨i + 1, _, by omega, by go_num, rfl⟩
      case measure => simp [intOf]; omega
    · have hd : i = m.texts.length := by omega
      subst hd
      clear hlt
      go_wp2_with fail
      go_loopw [4] (fun s4 wr => ∃ (j : Nat), j ≤ m.codes.length ∧ s4 = .int .i64 j ∧ Below w.heap.size w wr ∧ wr.cell? ⟨w.heap.size, 0, none⟩ = some (.slice s0 m.codes.length cap0) ∧ w.heap.size < wr.heap.size) (fun s4 _ => m.codes.length - (intOf s4).toNat)
      case atStart => exact ⟨0, Nat.zero_le _, rfl, up_drewN HW.out _, new_cell _ _ _ _ _ _ rfl rfl, by show _ < (w.alloc _).heap.size; rw [size_alloc]; omega⟩
      case round =>
        obtain ⟨j, hj, rfl, hbw, hc0, hsz⟩ := hrel
        have HBW := Lib.hid hbw
        clear hbw
        by_cases hlt : j < m.codes.length
        · obtain ⟨b, off, hs0, hbl, hrow⟩ := HR0.out (by omega)
          subst hs0
          obtain ⟨x0, x1, x2, x3, x4⟩ := hrow j hlt
          have hcd := HC.out j hlt
          have hnm := hcd.name
          obtain ⟨sp, cp, e1, _⟩ := hcd.params
          have e2 := hcd.result
          have e3 := hcd.slots
          obtain ⟨si, ci, e4, _⟩ := hcd.ins
          rw [hnm] at x0
          rw [e1] at x1
          rw [e2] at x2
          rw [e3] at x3
          rw [e4] at x4
          have HCC := Lib.hid (fun W (hW : Below w.heap.size w W) => rcode_right (hcd.later hW) (P4.out j hlt))
          rw [hnm, e1, e2, e3, e4] at HCC
          have y0 := (up_cell HBW.out _ _ hbl).trans x0
          have y1 := (up_cell HBW.out _ _ hbl).trans x1
          have y2 := (up_cell HBW.out _ _ hbl).trans x2
          have y3 := (up_cell HBW.out _ _ hbl).trans x3
          have y4 := (up_cell HBW.out _ _ hbl).trans x4
          clear hrow x0 x1 x2 x3 x4 hcd hnm e1 e2 e3 e4
          generalize m.codes.getD j default = cd at *
          go_wp2_with fail
          refine (HCC.out _ HBW.out).mono ?_
          rintro e w2 ⟨rfl, hb2⟩
          have HB2 := Lib.hid (up_trans HBW.out hb2)
          have z0 := (up_cell hb2 _ _ hsz).trans hc0
          have zs := Nat.lt_of_lt_of_le hsz hb2.size
          clear hb2 hc0 hsz y0 y1 y2 y3 y4
          go_wp2_with fail
          go_roundw
          case rel => exact ⟨j + 1, by omega, by go_num, HB2.out, z0, zs⟩
          case measure => simp [intOf]; omega
        · have hd : j = m.codes.length := by omega
          subst hd
          clear hlt
          go_wp2_with fail
          go_ret
          exact ⟨rfl, HBW.out⟩
end Go.Proofs.YtgogjdpjegfecaaDoor
