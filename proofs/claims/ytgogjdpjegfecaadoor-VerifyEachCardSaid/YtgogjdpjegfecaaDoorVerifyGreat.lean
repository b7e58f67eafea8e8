/-
  Whether a module is too much: some answer, and nothing turned.
-/
import Derived.Test.YtgogjdpjegfecaaDoorModule
namespace Go.Proofs.YtgogjdpjegfecaaDoor
open Go.RowKit

def SomeBool (w : World) (e : Ending) (w' : World) : Prop := ∃ b, e = .returned (.bool b) ∧ Below w.heap.size w w'

set_option maxRecDepth 100000 in
set_option maxHeartbeats 2000000 in
theorem great11_any {w : World} {v : Value} {m : Mdl} (hm : RepMdl w v m) : Calls Tryd.prog 12 #[v] w (SomeBool w) := by
  obtain ⟨v0, v1, rfl, h0, h1⟩ := hm
  obtain ⟨s0, cap0, c0, c1, c2, c3, c4, rfl, n0, l0, k0, nn0, r0, rc⟩ := h0
  obtain ⟨s1, cap1, d0, rfl, n1, l1, k1, nn1, r1, rt⟩ := h1
  unfold big at n0 n1
  have HR0 := Lib.hid r0
  have HR1 := Lib.hid r1
  have HC := Lib.hid rc
  have HT := Lib.hid rt
  clear r0 r1 rc rt nn0 nn1
  go_enter Tryd.func12, Tryd.ntmps12
  go_wp2_with fail
  have HW : Hid (Below w.heap.size w (w.alloc (Obj.cells #[Value.slice s0 m.codes.length cap0, Value.slice s1 m.texts.length cap1] 25))) := Lib.hid (up_alloc (Below.refl _ _) _)
  go_loopw [3, 4] (fun s3 s4 wr => ∃ (i n : Nat) (x : Int), i ≤ m.codes.length ∧ 0 ≤ x ∧ x ≤ 2000000 ∧ s3 = .int .i64 x ∧ s4 = .int .i64 i ∧ wr = (w.alloc (Obj.cells #[Value.slice s0 m.codes.length cap0, Value.slice s1 m.texts.length cap1] 25)).drewN n) (fun _ s4 _ => m.codes.length - (intOf s4).toNat)
  case atStart => exact ⟨0, 0, 0, Nat.zero_le _, by omega, by omega, rfl, rfl, rfl⟩
  case round =>
    obtain ⟨i, nd, x, hi, hx0, hx, rfl, rfl, rfl⟩ := hrel
    by_cases hlt : i < m.codes.length ∧ x < 200000
    · obtain ⟨hlt, hx2⟩ := hlt
      obtain ⟨b, off, hs0, hbl, hrow⟩ := HR0.out (by omega)
      obtain ⟨x0, x1, x2, x3, x4⟩ := hrow i hlt
      have hcd := HC.out i hlt
      have hnm := hcd.name
      obtain ⟨sp, cp, e1, bp, _⟩ := hcd.params
      obtain ⟨si, ci, e4, bi, _⟩ := hcd.ins
      rw [hnm] at x0
      rw [e1] at x1
      rw [e4] at x4
      have bn := hcd.nameLen
      unfold big at bn bp bi
      have y0 := (up_cell HW.out _ _ hbl).trans x0
      have y1 := (up_cell HW.out _ _ hbl).trans x1
      have y4 := (up_cell HW.out _ _ hbl).trans x4
      clear x0 x1 x2 x3 x4 hcd hnm e1 e4 hrow
      subst hs0
      go_wp2_with fail
      go_quiet (fail)
      go_wp2_with fail
      go_roundw
      case rel => refine ⟨i + 1, _, _, by omega, ?_, ?_, rfl, by go_num, rfl⟩ <;> (repeat' split) <;> omega
      case measure => simp [intOf]; omega
    · have hd : i = m.codes.length ∨ (i < m.codes.length ∧ 200000 ≤ x) := by omega
      clear hlt
      rcases hd with hd | hd
      all_goals
        first
          | (obtain rfl := hd)
          | (obtain ⟨hlt, hx2⟩ := hd)
        go_wp2_with fail
        go_loopw [3, 5] (fun s3 s5 wr => ∃ (j n : Nat) (y : Int), j ≤ m.texts.length ∧ 0 ≤ y ∧ y ≤ 3000000 ∧ s3 = .int .i64 y ∧ s5 = .int .i64 j ∧ wr = (w.alloc (Obj.cells #[Value.slice s0 m.codes.length cap0, Value.slice s1 m.texts.length cap1] 25)).drewN n) (fun _ s5 _ => m.texts.length - (intOf s5).toNat)
        case atStart => exact ⟨0, nd, x, Nat.zero_le _, by omega, by omega, rfl, rfl, rfl⟩
        case round =>
          obtain ⟨j, ne, y, hj, hy0, hy, rfl, rfl, rfl⟩ := hrel
          by_cases hjt : j < m.texts.length ∧ y < 200000
          · obtain ⟨hjt, hy2⟩ := hjt
            obtain ⟨b, off, hs1, hbl, hrow⟩ := HR1.out (by omega)
            have x0 := hrow j hjt
            obtain ⟨st, ct, et, bt, _⟩ := HT.out j hjt
            rw [et] at x0
            unfold big at bt
            have y0 := (up_cell HW.out _ _ hbl).trans x0
            clear x0 et hrow
            subst hs1
            go_wp2_with fail
            go_roundw
            case rel => refine ⟨j + 1, _, _, by omega, ?_, ?_, rfl, by go_num, rfl⟩ <;> (repeat' split) <;> omega
            case measure => simp [intOf]; omega
          · have hd : j = m.texts.length ∨ (j < m.texts.length ∧ 200000 ≤ y) := by omega
            clear hjt
            rcases hd with hd | hd
            all_goals
              first
                | (obtain rfl := hd)
                | (obtain ⟨hjt, hy2⟩ := hd)
              go_wp2_with fail
              go_ret
              exact ⟨_, rfl, up_drewN HW.out _⟩

set_option maxRecDepth 100000 in
set_option maxHeartbeats 2000000 in
theorem great_any {w : World} {v : Value} {m : Mdl} (hm : RepMdl w v m) : Calls Tryd.prog 8 #[v] w (SomeBool w) := by
  have HG := Lib.hid (fun (W : World) (hW : Below w.heap.size w W) => great11_any (hm.later hW))
  obtain ⟨v0, v1, rfl, h0, h1⟩ := hm
  obtain ⟨s0, cap0, c0, c1, c2, c3, c4, rfl, n0, l0, k0, nn0, r0, rc⟩ := h0
  unfold big at n0
  have HR0 := Lib.hid r0
  have HC := Lib.hid rc
  clear r0 rc nn0 h1
  go_enter Tryd.func8, Tryd.ntmps8
  go_wp2_with fail
  have HW : Hid (Below w.heap.size w (w.alloc (Obj.cells #[Value.slice s0 m.codes.length cap0, v1] 25))) := Lib.hid (up_alloc (Below.refl _ _) _)
  go_loopw [3, 4] (fun s3 s4 wr => ∃ (i n : Nat) (x : Int), i ≤ m.codes.length ∧ 0 ≤ x ∧ x ≤ 20000 ∧ s3 = .int .i64 x ∧ s4 = .int .i64 i ∧ wr = (w.alloc (Obj.cells #[Value.slice s0 m.codes.length cap0, v1] 25)).drewN n) (fun _ s4 _ => m.codes.length - (intOf s4).toNat)
  case atStart => exact ⟨0, 0, 0, Nat.zero_le _, by omega, by omega, rfl, rfl, rfl⟩
  case round =>
    obtain ⟨i, nd, x, hi, hx0, hx, rfl, rfl, rfl⟩ := hrel
    by_cases hlt : i < m.codes.length ∧ x < 3000
    · obtain ⟨hlt, hx2⟩ := hlt
      obtain ⟨b, off, hs0, hbl, hrow⟩ := HR0.out (by omega)
      obtain ⟨x0, x1, x2, x3, x4⟩ := hrow i hlt
      have hcd := HC.out i hlt
      obtain ⟨si, ci, e4, bi, _⟩ := hcd.ins
      rw [e4] at x4
      unfold big at bi
      have y4 := (up_cell HW.out _ _ hbl).trans x4
      clear x0 x1 x2 x3 x4 hcd e4 hrow
      subst hs0
      go_wp2_with fail
      go_roundw
      case rel => refine ⟨i + 1, _, _, by omega, ?_, ?_, rfl, by go_num, rfl⟩ <;> (repeat' split) <;> omega
      case measure => simp [intOf]; omega
    · have hd : (x < 3000 ∧ i = m.codes.length) ∨ (i < m.codes.length ∧ 3000 ≤ x) ∨ (i = m.codes.length ∧ 3000 ≤ x) := by omega
      clear hlt
      rcases hd with ⟨hx2, hd⟩ | ⟨hd, hx2⟩ | ⟨hd, hx2⟩
      · obtain rfl := hd
        go_wp2_with fail
        refine (HG.out _ (up_drewN HW.out nd)).mono ?_
        rintro e w2 ⟨bb, rfl, hb2⟩
        have HB2 := Lib.hid (up_trans (up_drewN HW.out nd) hb2)
        go_wp2_with fail
        go_ret
        exact ⟨_, rfl, HB2.out⟩
      · go_wp2_with fail
        go_ret
        exact ⟨_, rfl, up_drewN HW.out _⟩
      · obtain rfl := hd
        go_wp2_with fail
        go_ret
        exact ⟨_, rfl, up_drewN HW.out _⟩
end Go.Proofs.YtgogjdpjegfecaaDoor
