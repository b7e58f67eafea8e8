/-
  What a frame does: nothing popped, made, two.
-/
import Derived.Test.YtmdceokmpjcllaaGreatDoorVmT
namespace Go.Proofs.YtmdceokmpjcllaaGreatDoor
open Go.RowKit
attribute [local go_sem ↓] Go.wp_at_zero Go.wp_at_succ

theorem MacAt.base_le {base X : Nat} {w : World} {s : Mac} (h : MacAt base w X s) : base ≤ w.heap.size := Nat.le_of_lt (Nat.lt_of_le_of_lt h.low h.lt)
theorem FrGoes.from {f f' : Fr} {w w1 w' : World} (h : FrGoes f f' w1 w') (hb : Below w.heap.size w w1) : FrGoes f f' w w' :=
  ⟨h.1, (OnS.of_below hb).trans h.2.1, fun k hk => (h.2.2 k hk).imp id fun q => Nat.le_trans hb.size q⟩
theorem FrGoes.to {f f' : Fr} {w w1 w' : World} (h : FrGoes f f' w w1) (hb : Below w1.heap.size w1 w') : FrGoes f f' w w' :=
  ⟨h.1.later hb, h.2.1.trans (OnS.of_below hb), h.2.2⟩
theorem FrGoes.trans {f f' f'' : Fr} {w w1 w' : World} (h : FrGoes f f' w w1) (g : FrGoes f' f'' w1 w') : FrGoes f f'' w w' :=
  ⟨g.1, h.2.1.new g.2.1 h.2.2, fun k hk => (g.2.2 k hk).elim (fun q => h.2.2 k q) fun q => .inr (Nat.le_trans h.2.1.size q)⟩
/-- an operation on the last frame -/
theorem MacAt.goes {base X : Nat} {w w' : World} {s : Mac} {f f' : Fr} {r : List Fr} (h : MacAt base w X s) (hs : s.frs = f :: r) (hg : FrGoes f f' w w') (hb : f'.blk = f.blk) : MacAt base w' X { s with frs := f' :: r } ∧ Below base w w' :=
  ⟨h.top hs hg.1 hb hg.2.1, hg.2.1.os, hg.2.1.tape, hg.2.1.output, hg.2.1.size, fun k hk => hg.2.1.block k (by have := h.low; have := h.lt; omega) (fun hm => by have := (h.top_base hs).2 k hm; omega)⟩

theorem nil_nil (w : World) : (binOp .eql 46 (.slice none 0 0) (.slice none 0 0)).run Tryz.prog w = .ok (.bool true) w := by kernel_rfl
set_option maxRecDepth 100000 in
set_option maxHeartbeats 4000000 in
theorem vclone_nil (w : World) : Calls Tryz.prog 94 #[.slice none 0 0] w fun e w' => e = .returned (.slice none 0 0) ∧ w = w' := by
  have hnn := nil_nil
  go_enter Tryz.func94, Tryz.ntmps94
  go_wp2_with fail
  go_ret
  exact ⟨rfl, rfl⟩
theorem FrAt.same7 {w : World} {f : Fr} (h : FrAt w f) : FrGoes f f w (w.setCell ⟨f.blk, 7, none⟩ f.stack) :=
  ⟨h.setStack h.own h.one, (OnS.refl _ w).set (.inl rfl) 7 _, fun _ hk => .inl hk⟩
set_option maxRecDepth 100000 in
set_option maxHeartbeats 4000000 in
theorem vpop_none (f : Fr) (w : World) (h : FrAt w f) (hs : f.stack = .slice none 0 0) :
    Calls Tryz.prog 66 #[.pointer (some ⟨f.blk, 0, none⟩), .int .i64 0] w fun e w' => e = .returned (.slice none 0 0) ∧ FrGoes f f w w' := by
  have HC := Lib.hid vclone_nil
  have HF := Lib.hid h.same7
  rw [hs] at HF
  have q7 := h.stack
  rw [hs] at q7
  obtain ⟨a, ho⟩ := h.obj
  have fz := frozen_of ho 7
  clear h hs ho
  go_enter Tryz.func66, Tryz.ntmps66
  go_wp2_with fail
  refine (HC.out _).mono ?_
  rintro e w1 ⟨rfl, rfl⟩
  go_wp2_with fail
  go_ret
  exact ⟨rfl, HF.out⟩
set_option maxRecDepth 100000 in
set_option maxHeartbeats 4000000 in
theorem vmade (f : Fr) (ty n : Int) (p : Option Addr) (l c : Nat) (w : World) (h : FrAt w f) (hn : f.st.length < 1000000) :
    Calls Tryz.prog 69 #[.pointer (some ⟨f.blk, 0, none⟩), .agg #[.int .i64 ty, .int .i64 n, .slice p l c], .int .i64 0] w fun e w' => e = .returned (.int .i64 0) ∧ ∃ sv, FrGoes f { f with stack := sv, st := f.st ++ [⟨.int .i64 ty, .int .i64 n, .slice p l c⟩] } w w' := by
  have HP := Lib.hid (fun W (hW : Below w.heap.size w W) => vpush f ⟨.int .i64 ty, .int .i64 n, .slice p l c⟩ W (h.later hW) ⟨rfl, rfl, rfl⟩ hn)
  clear h
  go_enter Tryz.func69, Tryz.ntmps69
  go_wp2_with fail
  refine (HP.out _ (up_alloc (Below.refl _ _) _)).mono ?_
  rintro e w1 ⟨rfl, sv, hg⟩
  have HG := Lib.hid (hg.from (up_alloc (Below.refl _ _) _))
  clear hg
  go_wp2_with fail
  go_ret
  exact ⟨rfl, sv, HG.out⟩
set_option maxRecDepth 100000 in
set_option maxHeartbeats 4000000 in
theorem mtwo (xp : Value) (f : Fr) (st : List Vl) (x y : Int) (p1 p2 : Option Addr) (l1 l2 k1 k2 : Nat) (w : World) (h : FrAt w f) (hst : f.st = st ++ [⟨.int .i64 1, .int .i64 x, .slice p1 l1 k1⟩, ⟨.int .i64 1, .int .i64 y, .slice p2 l2 k2⟩]) (hl : f.st.length < 900000)
    (hx : 0 ≤ x) (hy : 0 ≤ y) (hxy : x + y ≤ 9223372036854775807) :
    Calls Tryz.prog 67 #[xp, .pointer (some ⟨f.blk, 0, none⟩), .string ⟨#[43]⟩] w fun e w' => e = .returned (.int .i64 0) ∧ ∃ sv, FrGoes f { f with stack := sv, st := st ++ [⟨.int .i64 1, .int .i64 (x + y), .slice none 0 0⟩] } w w' := by
  have HP := Lib.hid (vpop f 2 w h (by omega) (by rw [hst]; simp) (by omega))
  have HTW := Lib.hid (fun w => two_plus x y (.slice p1 l1 k1) (.slice p2 l2 k2) w hx hy hxy)
  have hlen : f.st.length - 2 = st.length := by rw [hst]; simp
  have HMD := Lib.hid (fun (sv : Value) W (hW : FrAt W { f with stack := sv, st := st }) => vmade { f with stack := sv, st := st } 1 (x + y) none 0 0 W hW (by show st.length < _; omega))
  rw [hlen, hst] at HP
  rw [List.take_left, List.drop_left] at HP
  clear hx hy hxy h hst hl hlen
  unfold numV at HTW
  generalize x + y = z at *
  go_enter Tryz.func67, Tryz.ntmps67
  go_wp2_with fail
  refine HP.out.mono ?_
  rintro e w1 ⟨vs, rfl, ho1, sv, hg1⟩
  obtain ⟨vg, vcap, rfl, hvb, hvl⟩ := ho1.form (by omega)
  have hcl := ho1.cells (g := vg) rfl
  have c0 : w1.cell? ⟨vg, 0, none⟩ = some (.int .i64 1) := hcl 0 _ rfl
  have c1 : w1.cell? ⟨vg, 1, none⟩ = some (.int .i64 x) := hcl 1 _ rfl
  have c2 : w1.cell? ⟨vg, 2, none⟩ = some (.slice p1 l1 k1) := hcl 2 _ rfl
  have c3 : w1.cell? ⟨vg, 3, none⟩ = some (.int .i64 1) := hcl 3 _ rfl
  have c4 : w1.cell? ⟨vg, 4, none⟩ = some (.int .i64 y) := hcl 4 _ rfl
  have c5 : w1.cell? ⟨vg, 5, none⟩ = some (.slice p2 l2 k2) := hcl 5 _ rfl
  have HG1 := Lib.hid hg1
  clear hg1 ho1 hcl hvb
  go_upto_region 6 with fail
  refine wp_region_split (S := (fun w' => w'.cell? ⟨vg, 0, none⟩ = some (.int .i64 1) ∧ w'.cell? ⟨vg, 1, none⟩ = some (.int .i64 x) ∧ w'.cell? ⟨vg, 2, none⟩ = some (.slice p1 l1 k1) ∧ w'.cell? ⟨vg, 3, none⟩ = some (.int .i64 1) ∧ w'.cell? ⟨vg, 4, none⟩ = some (.int .i64 y) ∧ w'.cell? ⟨vg, 5, none⟩ = some (.slice p2 l2 k2))) 11 (by kernel_rfl) (by kernel_rfl) (by (first | exact ⟨c0, c1, c2, c3, c4, c5⟩ | exact HC3.out)) (fun hHeld => ?_)
  simp only [List.take_succ_cons, List.take_zero, List.drop_succ_cons, List.drop_zero]
  refine wpAnyH_take (i := 0) (v := ?_) rfl (by kernel_rfl) (by kernel_rfl) (by kernel_rfl) (fun _ _ _ h => h) (Or.inl ⟨by rfl, ?_⟩) (by assumption) ?_
  rotate_left 1
  · (intro w hSw; (try dsimp only at hSw); go_simp; try with_reducible rfl)
  try simp only [Act.put, List.setIfInBounds_toArray, List.set_cons_zero, List.set_cons_succ, List.getElem_toArray, List.getElem_cons_zero]
  refine wpAnyH_take (i := 1) (v := ?_) rfl (by kernel_rfl) (by kernel_rfl) (by kernel_rfl) (fun _ _ _ h => h) (Or.inl ⟨by rfl, ?_⟩) (by assumption) ?_
  rotate_left 1
  · (intro w hSw; (try dsimp only at hSw); go_simp; try with_reducible rfl)
  try simp only [Act.put, List.setIfInBounds_toArray, List.set_cons_zero, List.set_cons_succ, List.getElem_toArray, List.getElem_cons_zero, List.getElem_cons_succ]
  refine wpAnyH_take (i := 2) (v := ?_) rfl (by kernel_rfl) (by kernel_rfl) (by kernel_rfl) (fun _ _ _ h => h) (Or.inl ⟨by rfl, ?_⟩) (by assumption) ?_
  rotate_left 1
  · (intro w hSw; (try dsimp only at hSw); go_simp; try with_reducible rfl)
  try simp only [Act.put, List.setIfInBounds_toArray, List.set_cons_zero, List.set_cons_succ, List.getElem_toArray, List.getElem_cons_zero, List.getElem_cons_succ]
  refine wpAnyH_take (i := 3) (v := ?_) rfl (by kernel_rfl) (by kernel_rfl) (by kernel_rfl) (fun _ _ _ h => h) (Or.inl ⟨by rfl, ?_⟩) (by assumption) ?_
  rotate_left 1
  · (intro w hSw; (try dsimp only at hSw); go_simp; try with_reducible rfl)
  try simp only [Act.put, List.setIfInBounds_toArray, List.set_cons_zero, List.set_cons_succ, List.getElem_toArray, List.getElem_cons_zero, List.getElem_cons_succ]
  refine wpAnyH_take (i := 4) (v := ?_) rfl (by kernel_rfl) (by kernel_rfl) (by kernel_rfl) (fun _ _ _ h => h) (Or.inl ⟨by rfl, ?_⟩) (by assumption) ?_
  rotate_left 1
  · (intro w hSw; (try dsimp only at hSw); go_simp; try with_reducible rfl)
  try simp only [Act.put, List.setIfInBounds_toArray, List.set_cons_zero, List.set_cons_succ, List.getElem_toArray, List.getElem_cons_zero, List.getElem_cons_succ]
  refine wpAnyH_take (i := 5) (v := ?_) rfl (by kernel_rfl) (by kernel_rfl) (by kernel_rfl) (fun _ _ _ h => h) (Or.inl ⟨by rfl, ?_⟩) (by assumption) ?_
  rotate_left 1
  · (intro w hSw; (try dsimp only at hSw); go_simp; try with_reducible rfl)
  try simp only [Act.put, List.setIfInBounds_toArray, List.set_cons_zero, List.set_cons_succ, List.getElem_toArray, List.getElem_cons_zero, List.getElem_cons_succ]
  refine wpAnyH_take (i := 6) (v := ?_) rfl (by kernel_rfl) (by kernel_rfl) (by kernel_rfl) (fun _ _ _ h => h) (Or.inl ⟨by rfl, ?_⟩) (by assumption) ?_
  rotate_left 1
  · (intro w hSw; (try dsimp only at hSw); go_simp; try with_reducible rfl)
  try simp only [Act.put, List.setIfInBounds_toArray, List.set_cons_zero, List.set_cons_succ, List.getElem_toArray, List.getElem_cons_zero, List.getElem_cons_succ]
  refine wpAnyH_take (i := 7) (v := ?_) rfl (by kernel_rfl) (by kernel_rfl) (by kernel_rfl) (fun _ _ _ h => h) (Or.inl ⟨by rfl, ?_⟩) (by assumption) ?_
  rotate_left 1
  · (intro w hSw; (try dsimp only at hSw); go_simp; try with_reducible rfl)
  try simp only [Act.put, List.setIfInBounds_toArray, List.set_cons_zero, List.set_cons_succ, List.getElem_toArray, List.getElem_cons_zero, List.getElem_cons_succ]
  refine wpAnyH_ready (rs := [8]) (by kernel_rfl) (by simp) ?_
  refine AllReadyH.cons rfl (fun K hK => ?_) AllReadyH.nil
  go_simp
  go_at_call 96
  refine (HTW.out _).mono ?_
  rintro e w3 ⟨rfl, hb3⟩
  have HG3 := Lib.hid ((HG1.out.to (up_drew (Below.refl _ _))).to hb3)
  have HC3 := Lib.hid (And.intro ((up_cell hb3 _ _ hvl).trans c0) (And.intro ((up_cell hb3 _ _ hvl).trans c1) (And.intro ((up_cell hb3 _ _ hvl).trans c2) (And.intro ((up_cell hb3 _ _ hvl).trans c3) (And.intro ((up_cell hb3 _ _ hvl).trans c4) ((up_cell hb3 _ _ hvl).trans c5))))))
  clear hb3
  go_simp
  refine hK.out _ _ ?_ (fun hHeld => ?_)
  · (try dsimp only); (first | exact ⟨c0, c1, c2, c3, c4, c5⟩ | exact HC3.out)
  clear hK K
  try simp only [Act.put, List.setIfInBounds_toArray, List.set_cons_zero, List.set_cons_succ, List.getElem_toArray, List.getElem_cons_zero, List.getElem_cons_succ]
  refine wpAnyH_take (i := 9) (v := ?_) rfl (by kernel_rfl) (by kernel_rfl) (by kernel_rfl) (fun _ _ _ h => h) (Or.inl ⟨by rfl, ?_⟩) (by assumption) ?_
  rotate_left 1
  · (intro w hSw; (try dsimp only at hSw); go_simp; try with_reducible rfl)
  try simp only [Act.put, List.setIfInBounds_toArray, List.set_cons_zero, List.set_cons_succ, List.getElem_toArray, List.getElem_cons_zero, List.getElem_cons_succ]
  refine wpAnyH_take (i := 10) (v := ?_) rfl (by kernel_rfl) (by kernel_rfl) (by kernel_rfl) (fun _ _ _ h => h) (Or.inl ⟨by rfl, ?_⟩) (by assumption) ?_
  rotate_left 1
  · (intro w hSw; (try dsimp only at hSw); go_simp; try with_reducible rfl)
  try simp only [Act.put, List.setIfInBounds_toArray, List.set_cons_zero, List.set_cons_succ, List.getElem_toArray, List.getElem_cons_zero, List.getElem_cons_succ]
  refine wpAnyH_done (by kernel_rfl) ?_ _
  dsimp only [TailQ]
  clear c0 c1 c2 c3 c4 c5 HC3
  go_wp2_with fail
  refine (HMD.out sv _ HG3.out.1).mono ?_
  rintro e w4 ⟨rfl, sv4, hg4⟩
  have HG4 := Lib.hid (HG3.out.trans hg4)
  clear hg4
  go_wp2_with fail
  go_ret
  exact ⟨rfl, sv4, HG4.out⟩
end Go.Proofs.YtmdceokmpjcllaaGreatDoor
