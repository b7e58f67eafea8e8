/-
  What a step does: gas, number, jump.
-/
import Derived.Test.YtmdceokmpjcllaaGreatDoorVmU
namespace Go.Proofs.YtmdceokmpjcllaaGreatDoor
open Go.RowKit
attribute [local go_sem ↓] Go.wp_at_zero Go.wp_at_succ

set_option maxRecDepth 100000 in
set_option maxHeartbeats 4000000 in
theorem step_gas (base X : Nat) (s : Mac) (fp : Value) (a : Int) (w : World) (h : MacAt base w X s) (hL : i64 s.L) (hU : i64 s.U) (ha : i64 a) :
    Calls Tryz.prog 44 #[.pointer (some ⟨X, 0, none⟩), fp, .agg #[.int .i64 1, .int .i64 a]] w fun e w' => e = .returned (.int .i64 (if useB s.L s.U a then 0 else 1)) ∧ MacAt base w' X { s with U := useU s.L s.U a } ∧ Below base w w' := by
  have HU := Lib.hid (fun W (hW : Below w.heap.size w W) => muse base X s a W (h.later hW) hL hU ha)
  have HBL := Lib.hid h.base_le
  clear h hL hU ha
  generalize (if useB s.L s.U a then (0 : Int) else 1) = q at *
  go_enter Tryz.func44, Tryz.ntmps44
  go_wp2_with fail
  refine (HU.out _ (up_alloc (Below.refl _ _) _)).mono ?_
  rintro e w1 ⟨rfl, hm, hb⟩
  have HM := Lib.hid hm
  have HB := Lib.hid (((Below.refl w.heap.size w).alloc (Nat.le_refl _) (.cells #[.int .i64 1, .int .i64 a] 25)).mono HBL.out |>.trans hb)
  clear hm hb
  go_wp2_with fail
  go_ret
  exact ⟨rfl, HM.out, HB.out⟩
set_option maxRecDepth 100000 in
set_option maxHeartbeats 4000000 in
theorem step_num (base X : Nat) (s : Mac) (f : Fr) (r : List Fr) (a : Int) (w : World) (h : MacAt base w X s) (hs : s.frs = f :: r) (hl : f.st.length < 900000) :
    Calls Tryz.prog 44 #[.pointer (some ⟨X, 0, none⟩), .pointer (some ⟨f.blk, 0, none⟩), .agg #[.int .i64 2, .int .i64 a]] w fun e w' => e = .returned (.int .i64 0) ∧ ∃ sv, MacAt base w' X { s with frs := { f with stack := sv, st := f.st ++ [⟨.int .i64 1, .int .i64 a, .slice none 0 0⟩] } :: r } ∧ Below base w w' := by
  have HN := Lib.hid (num_any a)
  have hft := (h.top_base hs).1
  have HP := Lib.hid (fun W (hW : Below w.heap.size w W) => vpush f ⟨.int .i64 1, .int .i64 a, .slice none 0 0⟩ W (hft.later hW) ⟨rfl, rfl, rfl⟩ (by omega))
  have HF := Lib.hid (fun (w1 w2 : World) f' (hb : Below w.heap.size w w1) (hg : FrGoes f f' w1 w2) (hbk : f'.blk = f.blk) => h.goes hs (hg.from hb) hbk)
  clear h hs hl hft
  unfold numV at HN
  go_enter Tryz.func44, Tryz.ntmps44
  go_wp2_with fail
  refine (HN.out _).mono ?_
  rintro e w1 ⟨rfl, hb⟩
  have HB := Lib.hid (up_trans (up_alloc (Below.refl w.heap.size w) _) hb)
  clear hb
  go_wp2_with fail
  refine (HP.out _ HB.out).mono ?_
  rintro e w2 ⟨rfl, sv, hg⟩
  have HG := Lib.hid (HF.out _ _ _ HB.out hg rfl)
  clear hg
  go_wp2_with fail
  go_ret
  exact ⟨rfl, sv, HG.out⟩
set_option maxRecDepth 100000 in
set_option maxHeartbeats 4000000 in
theorem step_jump (base X : Nat) (s : Mac) (f : Fr) (r : List Fr) (a : Int) (w : World) (h : MacAt base w X s) (hs : s.frs = f :: r) :
    Calls Tryz.prog 44 #[.pointer (some ⟨X, 0, none⟩), .pointer (some ⟨f.blk, 0, none⟩), .agg #[.int .i64 15, .int .i64 a]] w fun e w' => e = .returned (.int .i64 0) ∧ MacAt base w' X { s with frs := { f with pc := a } :: r } ∧ Below base w w' := by
  have hft := (h.top_base hs).1
  have h5 := hft.pc
  obtain ⟨arr, ho⟩ := hft.obj
  have fz := frozen_of ho 5
  have g1 := hft.lt
  have HF := Lib.hid (h.goes hs (f' := { f with pc := a }) ⟨hft.setPc a, (OnS.refl _ w).set (.inl rfl) 5 _, fun _ hk => .inl hk⟩ rfl)
  have HBL := Lib.hid h.base_le
  clear h hs hft ho
  go_enter Tryz.func44, Tryz.ntmps44
  go_wp2_with fail
  go_ret
  exact ⟨rfl, HF.out.1.later (up_alloc (Below.refl _ _) _), HF.out.2.alloc (Nat.le_trans HBL.out HF.out.2.size) _⟩
end Go.Proofs.YtmdceokmpjcllaaGreatDoor
