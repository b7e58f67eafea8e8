/-
  What a step does: a call.
-/
import Derived.Test.YtmdceokmpjcllaaGreatDoorVmU
namespace Go.Proofs.YtmdceokmpjcllaaGreatDoor
open Go.RowKit
attribute [local go_sem ↓] Go.wp_at_zero Go.wp_at_succ

theorem CdAt.later {w w' : World} {base gb o : Nat} {nm : ByteArray} {p1 : Option Addr} {n1 k1 : Nat} {r : Int} {p4 : Option Addr} {n4 k4 : Nat} (h : CdAt w gb o nm p1 n1 k1 r p4 n4 k4) (hb : Below base w w') (hg : gb < base) : CdAt w' gb o nm p1 n1 k1 r p4 n4 k4 :=
  ⟨(hb.cell (p := ⟨gb, _, none⟩) hg).trans h.c0, (hb.cell (p := ⟨gb, _, none⟩) hg).trans h.c1, (hb.cell (p := ⟨gb, _, none⟩) hg).trans h.c2, (hb.cell (p := ⟨gb, _, none⟩) hg).trans h.c3, (hb.cell (p := ⟨gb, _, none⟩) hg).trans h.c4⟩
set_option maxRecDepth 100000 in
set_option maxHeartbeats 4000000 in
theorem step_deep (base X : Nat) (s : Mac) (fp : Value) (a : Int) (w : World) (h : MacAt base w X s) (hl : s.frs.length = 16) :
    Calls Tryz.prog 44 #[.pointer (some ⟨X, 0, none⟩), fp, .agg #[.int .i64 14, .int .i64 a]] w fun e w' => e = .returned (.int .i64 4) ∧ MacAt base w' X s ∧ Below base w w' := by
  obtain ⟨p, cap, hv⟩ := own_slice h.own
  have q6 := h.c6
  rw [hv, hl] at q6
  have HF := Lib.hid (fun (W : World) (hW : Below w.heap.size w W) => And.intro (h.later hW) (hW.mono h.base_le))
  have g1 := h.lt
  clear h hv
  go_enter Tryz.func44, Tryz.ntmps44
  go_wp2_with fail
  go_ret
  exact ⟨rfl, HF.out _ (up_alloc (Below.refl _ _) _)⟩
set_option maxRecDepth 100000 in
set_option maxHeartbeats 4000000 in
theorem step_call (base X gb go n cap at' : Nat) (s : Mac) (f : Fr) (rs : List Fr) (nm : ByteArray) (p1 : Option Addr) (k1 : Nat) (r : Int) (p4 : Option Addr) (n4 k4 : Nat) (w : World) (h : MacAt base w X s) (hs : s.frs = f :: rs) (hl : s.frs.length < 16) (hst : f.stack = .slice none 0 0) (hm : s.m0 = .slice (some ⟨gb, go, none⟩) n cap) (hat : at' < n) (hn : n < 100000) (hgb : gb < base)
    (hc : CdAt w gb (go + at' * 5) nm p1 0 k1 r p4 n4 k4) :
    Calls Tryz.prog 44 #[.pointer (some ⟨X, 0, none⟩), .pointer (some ⟨f.blk, 0, none⟩), .agg #[.int .i64 14, .int .i64 at']] w fun e w' => e = .returned (.int .i64 0) ∧ ∃ f2 v, MacAt base w' X { s with fv := v, frs := f2 :: s.frs } ∧ Below base w w' ∧ Begun f2 nm p1 0 k1 r p4 n4 k4 := by
  have hft := (h.top_base hs).1
  obtain ⟨p, fcap, hv⟩ := own_slice h.own
  have q6 := h.c6
  rw [hv] at q6
  have q0 := h.c0
  rw [hm] at q0
  have d1 := hc.c1
  have HP := Lib.hid (fun W (hW : Below w.heap.size w W) => vpop_none f W (hft.later hW) hst)
  have HE := Lib.hid (fun W (hW : MacAt base W X s) (hb : Below base w W) => menter base X gb go n cap at' s nm p1 0 k1 r p4 n4 k4 W hW hl hm hat (hc.later hb hgb))
  have HG := Lib.hid (fun (w1 w2 : World) (hb : Below w.heap.size w w1) (hg : FrGoes f f w1 w2) => h.goes hs (hg.from hb) rfl)
  have HS : Hid (({ s with frs := f :: rs } : Mac) = s) := Lib.hid (by rw [← hs])
  have g1 := h.lt
  have g2 : ¬ (s.frs.length : Int) = 16 := by omega
  have g3 : IntKind.i64.wrap (at' : Int) = (at' : Int) := IntWalk.i64_in _ (by omega)
  have g4 : (0 : Int) ≤ (at' : Int) := by omega
  have g5 : (at' : Int) < (n : Int) := by omega
  have HML := Lib.hid (fun k hk => (hft.mine_lt (k := k) hk).2)
  have HM0 := Lib.hid hm
  have HD1 := Lib.hid d1
  clear h hs hl hst hm hft hc hv
  generalize s.frs.length = L at *
  go_enter Tryz.func44, Tryz.ntmps44
  go_upto_region 32 with fail
  have r0 := old_cell (.cells #[.int .i64 14, .int .i64 at'] 25) q0
  have r1 := old_cell (.cells #[.int .i64 14, .int .i64 at'] 25) d1
  have r2 := new_cell w #[.int .i64 14, .int .i64 at'] 25 _ 1 (.int .i64 at') rfl rfl
  have HB1 := Lib.hid (up_alloc (Below.refl w.heap.size w) (.cells #[.int .i64 14, .int .i64 at'] 25))
  have HB2 := Lib.hid (up_drew HB1.out)
  generalize w.alloc (.cells #[.int .i64 14, .int .i64 at'] 25) = w1 at *
  clear q0 d1 q6
  refine wp_region_split (S := (fun w' => w'.cell? ⟨X, 0, none⟩ = some (.slice (some ⟨gb, go, none⟩) n cap) ∧ w'.cell? ⟨w.heap.size, 1, none⟩ = some (.int .i64 at') ∧ w'.cell? ⟨gb, go + at' * 5 + 1, none⟩ = some (.slice p1 0 k1))) 16 (by kernel_rfl) (by kernel_rfl) (by (first | exact ⟨r0, r2, r1⟩ | exact ⟨s0, s1, s2⟩)) (fun hHeld => ?_)
  simp only [List.take_succ_cons, List.take_zero, List.drop_succ_cons, List.drop_zero]
  refine wpAnyH_take (i := 0) (v := ?_) rfl (by kernel_rfl) (by kernel_rfl) (by kernel_rfl) (fun _ _ _ h => h) (Or.inl ⟨by rfl, ?_⟩) (by assumption) ?_
  rotate_left 1
  · (intro w hSw; (try dsimp only at hSw); go_simp; try with_reducible rfl)
  try simp only [Act.put, List.setIfInBounds_toArray, List.set_cons_zero, List.set_cons_succ, List.getElem_toArray, List.getElem_cons_zero]
  refine wpAnyH_take (i := 1) (v := ?_) rfl (by kernel_rfl) (by kernel_rfl) (by kernel_rfl) (fun _ _ _ h => h) (Or.inl ⟨by rfl, ?_⟩) (by assumption) ?_
  rotate_left 1
  · (intro w hSw; (try dsimp only at hSw); go_simp; try with_reducible rfl)
  try simp only [Act.put, List.setIfInBounds_toArray, List.set_cons_zero, List.set_cons_succ, List.getElem_toArray, List.getElem_cons_zero, List.getElem_cons_succ]
  refine wpAnyH_take (i := 2) (v := ?_) rfl (by kernel_rfl) (by kernel_rfl) (by kernel_rfl) (fun _ _ _ h => h) (Or.inl ⟨by rfl, ?_⟩) (by assumption) ?_
  rotate_left 1
  · (intro w hSw; (try dsimp only at hSw); go_simp; try with_reducible rfl)
  try simp only [Act.put, List.setIfInBounds_toArray, List.set_cons_zero, List.set_cons_succ, List.getElem_toArray, List.getElem_cons_zero, List.getElem_cons_succ]
  refine wpAnyH_take (i := 3) (v := ?_) rfl (by kernel_rfl) (by kernel_rfl) (by kernel_rfl) (fun _ _ _ h => h) (Or.inl ⟨by rfl, ?_⟩) (by assumption) ?_
  rotate_left 1
  · (intro w hSw; (try dsimp only at hSw); go_simp; try with_reducible rfl)
  try simp only [Act.put, List.setIfInBounds_toArray, List.set_cons_zero, List.set_cons_succ, List.getElem_toArray, List.getElem_cons_zero, List.getElem_cons_succ]
  refine wpAnyH_take (i := 4) (v := ?_) rfl (by kernel_rfl) (by kernel_rfl) (by kernel_rfl) (fun _ _ _ h => h) (Or.inl ⟨by rfl, ?_⟩) (by assumption) ?_
  rotate_left 1
  · (intro w hSw; (try dsimp only at hSw); go_simp; try with_reducible rfl)
  try simp only [Act.put, List.setIfInBounds_toArray, List.set_cons_zero, List.set_cons_succ, List.getElem_toArray, List.getElem_cons_zero, List.getElem_cons_succ]
  refine wpAnyH_take (i := 5) (v := ?_) rfl (by kernel_rfl) (by kernel_rfl) (by kernel_rfl) (fun _ _ _ h => h) (Or.inl ⟨by rfl, ?_⟩) (by assumption) ?_
  rotate_left 1
  · (intro w hSw; (try dsimp only at hSw); go_simp; try with_reducible rfl)
  try simp only [Act.put, List.setIfInBounds_toArray, List.set_cons_zero, List.set_cons_succ, List.getElem_toArray, List.getElem_cons_zero, List.getElem_cons_succ]
  refine wpAnyH_take (i := 6) (v := ?_) rfl (by kernel_rfl) (by kernel_rfl) (by kernel_rfl) (fun _ _ _ h => h) (Or.inl ⟨by rfl, ?_⟩) (by assumption) ?_
  rotate_left 1
  · (intro w hSw; (try dsimp only at hSw); go_simp; try with_reducible rfl)
  try simp only [Act.put, List.setIfInBounds_toArray, List.set_cons_zero, List.set_cons_succ, List.getElem_toArray, List.getElem_cons_zero, List.getElem_cons_succ]
  refine wpAnyH_take (i := 7) (v := ?_) rfl (by kernel_rfl) (by kernel_rfl) (by kernel_rfl) (fun _ _ _ h => h) (Or.inl ⟨by rfl, ?_⟩) (by assumption) ?_
  rotate_left 1
  · (intro w hSw; (try dsimp only at hSw); go_simp; try with_reducible rfl)
  try simp only [Act.put, List.setIfInBounds_toArray, List.set_cons_zero, List.set_cons_succ, List.getElem_toArray, List.getElem_cons_zero, List.getElem_cons_succ]
  refine wpAnyH_take (i := 8) (v := ?_) rfl (by kernel_rfl) (by kernel_rfl) (by kernel_rfl) (fun _ _ _ h => h) (Or.inl ⟨by rfl, ?_⟩) (by assumption) ?_
  rotate_left 1
  · (intro w hSw; (try dsimp only at hSw); go_simp; try with_reducible rfl)
  try simp only [Act.put, List.setIfInBounds_toArray, List.set_cons_zero, List.set_cons_succ, List.getElem_toArray, List.getElem_cons_zero, List.getElem_cons_succ]
  refine wpAnyH_take (i := 9) (v := ?_) rfl (by kernel_rfl) (by kernel_rfl) (by kernel_rfl) (fun _ _ _ h => h) (Or.inl ⟨by rfl, ?_⟩) (by assumption) ?_
  rotate_left 1
  · (intro w hSw; (try dsimp only at hSw); go_simp; try with_reducible rfl)
  try simp only [Act.put, List.setIfInBounds_toArray, List.set_cons_zero, List.set_cons_succ, List.getElem_toArray, List.getElem_cons_zero, List.getElem_cons_succ]
  refine wpAnyH_take (i := 10) (v := ?_) rfl (by kernel_rfl) (by kernel_rfl) (by kernel_rfl) (fun _ _ _ h => h) (Or.inl ⟨by rfl, ?_⟩) (by assumption) ?_
  rotate_left 1
  · (intro w hSw; (try dsimp only at hSw); go_simp; try with_reducible rfl)
  try simp only [Act.put, List.setIfInBounds_toArray, List.set_cons_zero, List.set_cons_succ, List.getElem_toArray, List.getElem_cons_zero, List.getElem_cons_succ]
  refine wpAnyH_take (i := 11) (v := ?_) rfl (by kernel_rfl) (by kernel_rfl) (by kernel_rfl) (fun _ _ _ h => h) (Or.inl ⟨by rfl, ?_⟩) (by assumption) ?_
  rotate_left 1
  · (intro w hSw; (try dsimp only at hSw); go_simp; try with_reducible rfl)
  try simp only [Act.put, List.setIfInBounds_toArray, List.set_cons_zero, List.set_cons_succ, List.getElem_toArray, List.getElem_cons_zero, List.getElem_cons_succ]
  refine wpAnyH_take (i := 12) (v := ?_) rfl (by kernel_rfl) (by kernel_rfl) (by kernel_rfl) (fun _ _ _ h => h) (Or.inl ⟨by rfl, ?_⟩) (by assumption) ?_
  rotate_left 1
  · (intro w hSw; (try dsimp only at hSw); go_simp; try with_reducible rfl)
  try simp only [Act.put, List.setIfInBounds_toArray, List.set_cons_zero, List.set_cons_succ, List.getElem_toArray, List.getElem_cons_zero, List.getElem_cons_succ]
  refine wpAnyH_take (i := 13) (v := ?_) rfl (by kernel_rfl) (by kernel_rfl) (by kernel_rfl) (fun _ _ _ h => h) (Or.inl ⟨by rfl, ?_⟩) (by assumption) ?_
  rotate_left 1
  · (intro w hSw; (try dsimp only at hSw); go_simp; try with_reducible rfl)
  try simp only [Act.put, List.setIfInBounds_toArray, List.set_cons_zero, List.set_cons_succ, List.getElem_toArray, List.getElem_cons_zero, List.getElem_cons_succ]
  refine wpAnyH_take (i := 14) (v := ?_) rfl (by kernel_rfl) (by kernel_rfl) (by kernel_rfl) (fun _ _ _ h => h) (Or.inl ⟨by rfl, ?_⟩) (by assumption) ?_
  rotate_left 1
  · (intro w hSw; (try dsimp only at hSw); go_simp; try with_reducible rfl)
  try simp only [Act.put, List.setIfInBounds_toArray, List.set_cons_zero, List.set_cons_succ, List.getElem_toArray, List.getElem_cons_zero, List.getElem_cons_succ]
  refine wpAnyH_ready (rs := [15]) (by kernel_rfl) (by simp) ?_
  refine AllReadyH.cons rfl (fun K hK => ?_) AllReadyH.nil
  go_simp
  go_at_call 66
  refine (HP.out _ HB2.out).mono ?_
  rintro e w3 ⟨rfl, hg⟩
  have HG3 := Lib.hid (HG.out _ _ HB2.out hg)
  rw [HS.out] at HG3
  have s0 := HG3.out.1.c0
  rw [HM0.out] at s0
  have s1 := hg.2.1.cell (c := w.heap.size) (fun hm => by have := HML.out _ hm; omega) r2
  have s2 := (HG3.out.2.cell (p := ⟨gb, go + at' * 5 + 1, none⟩) hgb).trans HD1.out
  clear hg
  go_simp
  refine hK.out _ _ ?_ (fun hHeld => ?_)
  · (try dsimp only); (first | exact ⟨r0, r2, r1⟩ | exact ⟨s0, s1, s2⟩)
  clear hK K
  try simp only [Act.put, List.setIfInBounds_toArray, List.set_cons_zero, List.set_cons_succ, List.getElem_toArray, List.getElem_cons_zero, List.getElem_cons_succ]
  refine wpAnyH_done (by kernel_rfl) ?_ _
  dsimp only [TailQ]
  clear r0 r1 r2 s0 s1 s2
  go_wp2_with fail
  refine (HE.out _ HG3.out.1 HG3.out.2).mono ?_
  rintro e w4 ⟨rfl, f2, v, hm4, hb4, hbg⟩
  have HM4 := Lib.hid hm4
  have HB4 := Lib.hid (HG3.out.2.trans hb4)
  have HBG := Lib.hid hbg
  clear hm4 hb4 hbg
  go_wp2_with fail
  go_ret
  exact ⟨rfl, f2, v, HM4.out, HB4.out, HBG.out⟩
end Go.Proofs.YtmdceokmpjcllaaGreatDoor
