/-
  What leaving a function does to the machine.
-/
import Derived.Test.YtmdceokmpjcllaaGreatDoorVmS
import Derived.StillTailTactics
namespace Go.Proofs.YtmdceokmpjcllaaGreatDoor
open Go.RowKit
attribute [local go_sem ↓] Go.wp_at_zero Go.wp_at_succ

theorem own_cut {w : World} {base e g cap n : Nat} {xs : List Value} {y : Value} (h : w.ownsRow base e 1 (.slice (some ⟨g, 0, none⟩) (n + 1) cap) (n + 1) (xs ++ [y])) (hx : xs.length = n) :
    w.ownsRow base e 1 (.slice (some ⟨g, 0, none⟩) n cap) n xs := by
  rcases h.2 with ⟨q, _⟩ | ⟨g', cap', cur, q1, q2, q3, q4, q5, q6, q7⟩
  · cases q
  · injection q1 with a1 a2 a3
    injection a1 with a1
    injection a1 with a1
    subst a1 a3
    refine ⟨by omega, .inr ⟨g, cap, cur, rfl, q2, q3, by omega, q5, q6, ?_⟩⟩
    have q := congrArg (List.take n) q7
    rw [List.take_take, Nat.min_eq_left (by omega)] at q
    rw [Nat.mul_one, q, ← hx, List.take_left]
theorem frsV_len (l : List Fr) : (frsV l).length = l.length := by simp [frsV]
theorem frsV_cons (f : Fr) (r : List Fr) : frsV (f :: r) = frsV r ++ [.pointer (some ⟨f.blk, 0, none⟩)] := by simp [frsV]
/-- the last frame goes -/
theorem MacAt.cut {base X g cap : Nat} {w : World} {s : Mac} {f : Fr} {r : List Fr} (h : MacAt base w X s) (hs : s.frs = f :: r) (hv : s.fv = .slice (some ⟨g, 0, none⟩) (r.length + 1) cap) :
    MacAt base (w.setCell ⟨X, 6, none⟩ (.slice (some ⟨g, 0, none⟩) r.length cap)) X { s with fv := .slice (some ⟨g, 0, none⟩) r.length cap, frs := r } := by
  have hown := h.own
  rw [hs, hv, frsV_cons, List.length_cons] at hown
  have hcut := own_cut hown (frsV_len r)
  have hfr := h.frs
  rw [hs] at hfr
  obtain ⟨h1, h2, h3⟩ := hfr
  have hk : ∀ k, (OfTy w k 95 ∨ OfTy w k 35) → (w.setCell ⟨X, 6, none⟩ (.slice (some ⟨g, 0, none⟩) r.length cap)).heap[k]? = w.heap[k]? := fun k ht => setCell_heap w _ _ k (by
    show k ≠ X
    rcases ht with q | q <;> exact q.ne h.ty (by decide))
  refine ⟨h.low, obj_setC h.obj, ?_, ?_, ?_, ?_, ?_, ?_, cell_set_eq _ h.c6, ?_, ?_, ?_, ?_, ?_, ?_⟩
  iterate 9 (rw [cell_set_ne _ _ (.inr (by omega))]; first | exact h.c0 | exact h.c1 | exact h.c2 | exact h.c3 | exact h.c4 | exact h.c5 | exact h.c7 | exact h.c8 | exact h.c9)
  · exact own_same hcut fun k hk => setCell_heap w _ _ k ((own_ty hcut hk).ne h.ty (by decide))
  · refine (h3.keep fun k _ ht => hk k ht).mono ?_
    rw [setCell_size]
    exact Nat.le_of_lt h1.lt
  · exact fun f' hf' => h.frlow f' (by rw [hs]; simp [hf'])
/-- the value that comes back -/
theorem MacAt.setBack {base X : Nat} {w : World} {s : Mac} (h : MacAt base w X s) (a b c : Value) :
    MacAt base (((w.setCell ⟨X, 7, none⟩ a).setCell ⟨X, 8, none⟩ b).setCell ⟨X, 9, none⟩ c) X { s with b0 := a, b1 := b, b2 := c } := by
  have h7 : MacAt base (w.setCell ⟨X, 7, none⟩ a) X { s with b0 := a } := by
    refine h.setC 7 _ rfl rfl ?_ ?_ ?_ ?_ ?_ ?_ ?_ (cell_set_eq _ h.c7) ?_ ?_ <;> (rw [cell_set_ne _ _ (.inr (by omega))]; first | exact h.c0 | exact h.c1 | exact h.c2 | exact h.c3 | exact h.c4 | exact h.c5 | exact h.c6 | exact h.c7 | exact h.c8 | exact h.c9)
  have h8 : MacAt base ((w.setCell ⟨X, 7, none⟩ a).setCell ⟨X, 8, none⟩ b) X { s with b0 := a, b1 := b } := by
    refine h7.setC 8 _ rfl rfl ?_ ?_ ?_ ?_ ?_ ?_ ?_ ?_ (cell_set_eq _ h7.c8) ?_ <;> (rw [cell_set_ne _ _ (.inr (by omega))]; first | exact h7.c0 | exact h7.c1 | exact h7.c2 | exact h7.c3 | exact h7.c4 | exact h7.c5 | exact h7.c6 | exact h7.c7 | exact h7.c8 | exact h7.c9)
  refine h8.setC 9 _ rfl rfl ?_ ?_ ?_ ?_ ?_ ?_ ?_ ?_ ?_ (cell_set_eq _ h8.c9) <;> (rw [cell_set_ne _ _ (.inr (by omega))]; first | exact h8.c0 | exact h8.c1 | exact h8.c2 | exact h8.c3 | exact h8.c4 | exact h8.c5 | exact h8.c6 | exact h8.c7 | exact h8.c8 | exact h8.c9)

theorem FrsAt.keep' {w w' : World} : ∀ {hi : Nat} {l : List Fr}, FrsAt w hi l → (∀ f ∈ l, ∀ k, f.Mine k → w'.heap[k]? = w.heap[k]?) → FrsAt w' hi l
  | _, [], _, _ => trivial
  | _, f :: r, ⟨h1, h2, h3⟩, hk => ⟨h1.keep fun k q => hk f (by simp) k q, h2, h3.keep' fun g hg k q => hk g (by simp [hg]) k q⟩
theorem FrsAt.below {w : World} : ∀ {hi : Nat} {l : List Fr}, FrsAt w hi l → ∀ f ∈ l, ∀ k, f.Mine k → k < hi
  | _, [], _, _, hf, _, _ => by simp at hf
  | _, f :: r, ⟨h1, h2, h3⟩, g, hg, k, hk => by
    rcases List.mem_cons.1 hg with rfl | hg
    · exact h2 k hk
    · exact Nat.lt_trans (h3.below g hg k hk) (h2 _ (.inl rfl))
/-- only a block that is none of the machine's turned -/
theorem MacAt.others {base X b : Nat} {w w' : World} {s : Mac} (h : MacAt base w X s) (hon : OnS (· = b) w w') (hX : X ≠ b) (hv : s.fv.ownBlock ≠ some b) (hf : ∀ f ∈ s.frs, ¬ f.Mine b) : MacAt base w' X s := by
  have hb := hon.block X h.lt hX
  have hc : ∀ j, w'.cell? ⟨X, j, none⟩ = w.cell? ⟨X, j, none⟩ := fun j => World.cell?_of_block (w := w) hb
  obtain ⟨a, ho⟩ := h.obj
  refine ⟨h.low, ⟨a, hb.trans ho⟩, (hc _).trans h.c0, (hc _).trans h.c1, (hc _).trans h.c2, (hc _).trans h.c3, (hc _).trans h.c4, (hc _).trans h.c5, (hc _).trans h.c6, (hc _).trans h.c7, (hc _).trans h.c8, (hc _).trans h.c9, own_same h.own fun k hk => hon.block k (h.own.lt k hk).2 (fun e => hv (by rw [hk]; exact congrArg some e)), (h.frs.keep' fun f hm k hk => ?_).mono hon.size, h.frlow⟩
  exact hon.block k (h.frs.below f hm k hk) (fun e => hf f hm (by have e : k = b := e; rw [← e]; exact hk))

set_option maxRecDepth 100000 in
set_option maxHeartbeats 4000000 in
theorem mleave_last (base X : Nat) (s : Mac) (f : Fr) (st : List Vl) (ty n : Int) (p : Option Addr) (l c : Nat) (r : Int) (w : World) (h : MacAt base w X s) (hs : s.frs = [f]) (hst : f.st = st ++ [⟨.int .i64 ty, .int .i64 n, .slice p l c⟩]) (hl : f.st.length < 1000000) (hr : f.c2 = .int .i64 r) (hr0 : r ≠ 0) :
    Calls Tryz.prog 72 #[.pointer (some ⟨X, 0, none⟩), .pointer (some ⟨f.blk, 0, none⟩)] w fun e w' => e = .returned (.tuple #[]) ∧ Below base w w' ∧ ∃ fv, MacAt base w' X { s with fv := fv, frs := [], b0 := .int .i64 ty, b1 := .int .i64 n, b2 := .slice p l c } := by
  obtain ⟨hft, hfb⟩ := h.top_base hs
  have HP := Lib.hid (fun W (hW : Below w.heap.size w W) => vpop f 1 W (hft.later hW) (by omega) (by rw [hst]; simp) hl)
  have HF := Lib.hid h
  have q2 := hft.c2
  rw [hr] at q2
  have HFT := Lib.hid hft
  have g1 := hft.lt
  have HB := Lib.hid hfb
  have HS := Lib.hid hs
  have HST := Lib.hid hst
  clear h hft hs hst hl hr hfb
  go_enter Tryz.func72, Tryz.ntmps72
  go_wp2_with fail
  refine (HP.out _ (up_alloc (Below.refl _ _) _)).mono ?_
  rintro e w1 ⟨vs, rfl, ho1, sv, hg1⟩
  have HM1 := Lib.hid ((HF.out.later (up_alloc (Below.refl _ _) _)).top HS.out hg1.1 rfl hg1.2.1)
  have hdr : f.st.drop (f.st.length - 1) = [⟨.int .i64 ty, .int .i64 n, .slice p l c⟩] := by rw [HST.out]; simp
  rw [hdr] at ho1
  obtain ⟨vg, vcap, rfl, hvb, hvl⟩ := ho1.form (by omega)
  have hcl := ho1.cells (g := vg) rfl
  have c0 : w1.cell? ⟨vg, 0, none⟩ = some (.int .i64 ty) := hcl 0 _ rfl
  have c1 : w1.cell? ⟨vg, 1, none⟩ = some (.int .i64 n) := hcl 1 _ rfl
  have c2 : w1.cell? ⟨vg, 2, none⟩ = some (.slice p l c) := hcl 2 _ rfl
  have hz : w1.heap[w.heap.size]? = some (.cells #[.int .i64 0, .int .i64 0, .slice none 0 0] 35 (0, 0)) := hg1.2.1.obj (fun hm => by have := (HFT.out.mine_lt hm).2; omega) (new_heap _ _ _ rfl)
  have d0 := cell_of' hz 0 (u := .int .i64 0) rfl
  have d1 := cell_of' hz 1 (u := .int .i64 0) rfl
  have d2 := cell_of' hz 2 (u := .slice none 0 0) rfl
  have z0 := frozen_of hz 0
  have z1 := frozen_of hz 1
  have z2 := frozen_of hz 2
  have hXne : X ≠ w.heap.size := by have := HF.out.lt; omega
  have hvne : vg ≠ w.heap.size := by rw [size_alloc] at hvb; omega
  have hfv := HM1.out.own
  obtain ⟨fg, fcap, hfvv, hfgb, hfgl⟩ := HM1.out.own.form (by simp)
  have r6 := HM1.out.c6
  dsimp only at hfvv r6
  rw [hfvv] at r6
  have rz6 := HM1.out.fz 6
  have HON := Lib.hid hg1.2.1
  have hcap : ([f] : List Fr).length ≤ fcap ∧ fcap ≤ maxLen := by
    rcases HM1.out.own.2 with ⟨q, _⟩ | ⟨g', cap', cur, q1, q2, q3, q4, q5, q6, q7⟩
    · dsimp only at q; rw [hfvv] at q; cases q
    · dsimp only at q1; rw [hfvv] at q1; injection q1 with _ _ a3
      subst a3
      exact ⟨q4, q5⟩
  have HM2 := Lib.hid (HM1.out.others (b := w.heap.size) ((((OnS.refl (fun k => k = w.heap.size) w1).set (k := w.heap.size) rfl 0 (.int .i64 ty)).set (k := w.heap.size) rfl 1 (.int .i64 n)).set (k := w.heap.size) rfl 2 (.slice p l c)) hXne (by
    intro e
    have := (HF.out.own.lt _ e).2
    omega) (by
    intro f' hf' hm
    obtain rfl := List.mem_singleton.1 hf'
    rcases hg1.2.2 _ hm with q | q
    · have := (HFT.out.mine_lt q).2; omega
    · rw [size_alloc] at q; omega))
  have e0 : (((w1.setCell ⟨w.heap.size, 0, none⟩ (.int .i64 ty)).setCell ⟨w.heap.size, 1, none⟩ (.int .i64 n)).setCell ⟨w.heap.size, 2, none⟩ (.slice p l c)).cell? ⟨w.heap.size, 0, none⟩ = some (.int .i64 ty) := by rw [cell_set_ne _ _ (.inr (by omega)), cell_set_ne _ _ (.inr (by omega))]; exact cell_set_eq _ d0
  have e1 : (((w1.setCell ⟨w.heap.size, 0, none⟩ (.int .i64 ty)).setCell ⟨w.heap.size, 1, none⟩ (.int .i64 n)).setCell ⟨w.heap.size, 2, none⟩ (.slice p l c)).cell? ⟨w.heap.size, 1, none⟩ = some (.int .i64 n) := by rw [cell_set_ne _ _ (.inr (by omega))]; exact cell_set_eq _ ((cell_set_ne _ _ (.inr (by omega))).trans d1)
  have e2 : (((w1.setCell ⟨w.heap.size, 0, none⟩ (.int .i64 ty)).setCell ⟨w.heap.size, 1, none⟩ (.int .i64 n)).setCell ⟨w.heap.size, 2, none⟩ (.slice p l c)).cell? ⟨w.heap.size, 2, none⟩ = some (.slice p l c) := cell_set_eq _ ((cell_set_ne _ _ (.inr (by omega))).trans ((cell_set_ne _ _ (.inr (by omega))).trans d2))
  have HBB : Hid (Below base w (((w1.setCell ⟨w.heap.size, 0, none⟩ (.int .i64 ty)).setCell ⟨w.heap.size, 1, none⟩ (.int .i64 n)).setCell ⟨w.heap.size, 2, none⟩ (.slice p l c))) := Lib.hid ((((((((Below.refl w.heap.size w).alloc (Nat.le_refl _) _).mono (Nat.le_of_lt (Nat.lt_of_le_of_lt HF.out.low HF.out.lt))).trans ⟨hg1.2.1.os, hg1.2.1.tape, hg1.2.1.output, hg1.2.1.size, fun k hk => hg1.2.1.block k (by have := HF.out.low; have := HF.out.lt; rw [size_alloc]; omega) (fun hm => by have := HB.out k hm; omega)⟩).setCell (p := ⟨w.heap.size, 0, none⟩) (by have := HF.out.low; have := HF.out.lt; show base ≤ w.heap.size; omega) _).setCell (p := ⟨w.heap.size, 1, none⟩) (by have := HF.out.low; have := HF.out.lt; show base ≤ w.heap.size; omega) _).setCell (p := ⟨w.heap.size, 2, none⟩) (by have := HF.out.low; have := HF.out.lt; show base ≤ w.heap.size; omega) _))
  clear ho1 hg1 hz hcl hfv q2
  go_wp2_with fail
  generalize (((w1.setCell ⟨w.heap.size, 0, none⟩ (.int .i64 ty)).setCell ⟨w.heap.size, 1, none⟩ (.int .i64 n)).setCell ⟨w.heap.size, 2, none⟩ (.slice p l c)) = w2 at *
  have y6 := HM2.out.c6
  dsimp only at y6
  rw [hfvv] at y6
  have yz6 := HM2.out.fz 6
  have y7 := HM2.out.c7
  have y8 := HM2.out.c8
  have y9 := HM2.out.c9
  have yz7 := HM2.out.fz 7
  have yz8 := HM2.out.fz 8
  have yz9 := HM2.out.fz 9
  clear r6 rz6 c0 c1 c2 d0 d1 d2 z0 z1 z2
  dsimp only [List.length_cons, List.length_nil, Nat.zero_add] at y6
  go_region
  go_wp2_with fail
  go_end0
  have hm := ((HM2.out.cut (f := { f with stack := sv, st := f.st.take (f.st.length - 1) }) (r := []) rfl hfvv).setBack (.int .i64 ty) (.int .i64 n) (.slice p l c)).later (up_drew (Below.refl _ _))
  refine ⟨rfl, ?_, _, hm⟩
  exact (((((HBB.out.setCell (p := ⟨X, 6, none⟩) HM2.out.low _).setCell (p := ⟨X, 7, none⟩) HM2.out.low _).setCell (p := ⟨X, 8, none⟩) HM2.out.low _).setCell (p := ⟨X, 9, none⟩) HM2.out.low _)).drew
set_option maxRecDepth 100000 in
set_option maxHeartbeats 4000000 in
theorem mleave_more (base X : Nat) (s : Mac) (f g : Fr) (rest : List Fr) (st : List Vl) (ty n : Int) (p : Option Addr) (l c : Nat) (r : Int) (w : World) (h : MacAt base w X s) (hs : s.frs = f :: g :: rest) (hrest : rest.length < 100) (hgl : g.st.length < 900000) (hst : f.st = st ++ [⟨.int .i64 ty, .int .i64 n, .slice p l c⟩]) (hl : f.st.length < 1000000) (hr : f.c2 = .int .i64 r) (hr0 : r ≠ 0) :
    Calls Tryz.prog 72 #[.pointer (some ⟨X, 0, none⟩), .pointer (some ⟨f.blk, 0, none⟩)] w fun e w' => e = .returned (.tuple #[]) ∧ Below base w w' ∧ ∃ fv gv, MacAt base w' X { s with fv := fv, frs := { g with stack := gv, st := g.st ++ [⟨.int .i64 ty, .int .i64 n, .slice p l c⟩] } :: rest } := by
  obtain ⟨hft, hfb⟩ := h.top_base hs
  have HP := Lib.hid (fun W (hW : Below w.heap.size w W) => vpop f 1 W (hft.later hW) (by omega) (by rw [hst]; simp) hl)
  have HF := Lib.hid h
  have q2 := hft.c2
  rw [hr] at q2
  have HFT := Lib.hid hft
  have g1 := hft.lt
  have HB := Lib.hid hfb
  have HS := Lib.hid hs
  have HST := Lib.hid hst
  clear h hft hs hst hl hr hfb
  go_enter Tryz.func72, Tryz.ntmps72
  go_wp2_with fail
  refine (HP.out _ (up_alloc (Below.refl _ _) _)).mono ?_
  rintro e w1 ⟨vs, rfl, ho1, sv, hg1⟩
  have HM1 := Lib.hid ((HF.out.later (up_alloc (Below.refl _ _) _)).top HS.out hg1.1 rfl hg1.2.1)
  have hdr : f.st.drop (f.st.length - 1) = [⟨.int .i64 ty, .int .i64 n, .slice p l c⟩] := by rw [HST.out]; simp
  rw [hdr] at ho1
  obtain ⟨vg, vcap, rfl, hvb, hvl⟩ := ho1.form (by omega)
  have hcl := ho1.cells (g := vg) rfl
  have c0 : w1.cell? ⟨vg, 0, none⟩ = some (.int .i64 ty) := hcl 0 _ rfl
  have c1 : w1.cell? ⟨vg, 1, none⟩ = some (.int .i64 n) := hcl 1 _ rfl
  have c2 : w1.cell? ⟨vg, 2, none⟩ = some (.slice p l c) := hcl 2 _ rfl
  have hz : w1.heap[w.heap.size]? = some (.cells #[.int .i64 0, .int .i64 0, .slice none 0 0] 35 (0, 0)) := hg1.2.1.obj (fun hm => by have := (HFT.out.mine_lt hm).2; omega) (new_heap _ _ _ rfl)
  have d0 := cell_of' hz 0 (u := .int .i64 0) rfl
  have d1 := cell_of' hz 1 (u := .int .i64 0) rfl
  have d2 := cell_of' hz 2 (u := .slice none 0 0) rfl
  have z0 := frozen_of hz 0
  have z1 := frozen_of hz 1
  have z2 := frozen_of hz 2
  have hXne : X ≠ w.heap.size := by have := HF.out.lt; omega
  have hvne : vg ≠ w.heap.size := by rw [size_alloc] at hvb; omega
  have hfv := HM1.out.own
  obtain ⟨fg, fcap, hfvv, hfgb, hfgl⟩ := HM1.out.own.form (by simp)
  have r6 := HM1.out.c6
  dsimp only at hfvv r6
  rw [hfvv] at r6
  have rz6 := HM1.out.fz 6
  have HON := Lib.hid hg1.2.1
  have hcap : (f :: g :: rest).length ≤ fcap ∧ fcap ≤ maxLen := by
    rcases HM1.out.own.2 with ⟨q, _⟩ | ⟨g', cap', cur, q1, q2, q3, q4, q5, q6, q7⟩
    · dsimp only at q; rw [hfvv] at q; cases q
    · dsimp only at q1; rw [hfvv] at q1; injection q1 with _ _ a3
      subst a3
      exact ⟨q4, q5⟩
  have HM2 := Lib.hid (HM1.out.others (b := w.heap.size) ((((OnS.refl (fun k => k = w.heap.size) w1).set (k := w.heap.size) rfl 0 (.int .i64 ty)).set (k := w.heap.size) rfl 1 (.int .i64 n)).set (k := w.heap.size) rfl 2 (.slice p l c)) hXne (by
    intro e
    have := (HF.out.own.lt _ e).2
    omega) (by
    intro f' hf' hm
    rcases List.mem_cons.1 hf' with rfl | hf'
    · rcases hg1.2.2 _ hm with q | q
      · have := (HFT.out.mine_lt q).2; omega
      · rw [size_alloc] at q; omega
    · have := HF.out.frs.below f' (by rw [HS.out]; exact List.mem_cons_of_mem _ hf') _ hm
      omega))
  have e0 : (((w1.setCell ⟨w.heap.size, 0, none⟩ (.int .i64 ty)).setCell ⟨w.heap.size, 1, none⟩ (.int .i64 n)).setCell ⟨w.heap.size, 2, none⟩ (.slice p l c)).cell? ⟨w.heap.size, 0, none⟩ = some (.int .i64 ty) := by rw [cell_set_ne _ _ (.inr (by omega)), cell_set_ne _ _ (.inr (by omega))]; exact cell_set_eq _ d0
  have e1 : (((w1.setCell ⟨w.heap.size, 0, none⟩ (.int .i64 ty)).setCell ⟨w.heap.size, 1, none⟩ (.int .i64 n)).setCell ⟨w.heap.size, 2, none⟩ (.slice p l c)).cell? ⟨w.heap.size, 1, none⟩ = some (.int .i64 n) := by rw [cell_set_ne _ _ (.inr (by omega))]; exact cell_set_eq _ ((cell_set_ne _ _ (.inr (by omega))).trans d1)
  have e2 : (((w1.setCell ⟨w.heap.size, 0, none⟩ (.int .i64 ty)).setCell ⟨w.heap.size, 1, none⟩ (.int .i64 n)).setCell ⟨w.heap.size, 2, none⟩ (.slice p l c)).cell? ⟨w.heap.size, 2, none⟩ = some (.slice p l c) := cell_set_eq _ ((cell_set_ne _ _ (.inr (by omega))).trans ((cell_set_ne _ _ (.inr (by omega))).trans d2))
  have HBB : Hid (Below base w (((w1.setCell ⟨w.heap.size, 0, none⟩ (.int .i64 ty)).setCell ⟨w.heap.size, 1, none⟩ (.int .i64 n)).setCell ⟨w.heap.size, 2, none⟩ (.slice p l c))) := Lib.hid ((((((((Below.refl w.heap.size w).alloc (Nat.le_refl _) _).mono (Nat.le_of_lt (Nat.lt_of_le_of_lt HF.out.low HF.out.lt))).trans ⟨hg1.2.1.os, hg1.2.1.tape, hg1.2.1.output, hg1.2.1.size, fun k hk => hg1.2.1.block k (by have := HF.out.low; have := HF.out.lt; rw [size_alloc]; omega) (fun hm => by have := HB.out k hm; omega)⟩).setCell (p := ⟨w.heap.size, 0, none⟩) (by have := HF.out.low; have := HF.out.lt; show base ≤ w.heap.size; omega) _).setCell (p := ⟨w.heap.size, 1, none⟩) (by have := HF.out.low; have := HF.out.lt; show base ≤ w.heap.size; omega) _).setCell (p := ⟨w.heap.size, 2, none⟩) (by have := HF.out.low; have := HF.out.lt; show base ≤ w.heap.size; omega) _))
  clear ho1 hg1 hz hcl hfv q2
  go_wp2_with fail
  generalize (((w1.setCell ⟨w.heap.size, 0, none⟩ (.int .i64 ty)).setCell ⟨w.heap.size, 1, none⟩ (.int .i64 n)).setCell ⟨w.heap.size, 2, none⟩ (.slice p l c)) = w2 at *
  have y6 := HM2.out.c6
  dsimp only at y6
  rw [hfvv] at y6
  have yz6 := HM2.out.fz 6
  clear r6 rz6 c0 c1 c2 d0 d1 d2 z0 z1 z2
  dsimp only [List.length_cons] at y6
  have k1 : IntKind.i64.wrap (((rest.length + 1 + 1 : Nat) : Int) - 1) = ((rest.length + 1 : Nat) : Int) := by rw [IntWalk.i64_in _ (by omega)]; omega
  have k2 : IntKind.i64.wrap (((rest.length + 1 : Nat) : Int) - 1) = ((rest.length : Nat) : Int) := by rw [IntWalk.i64_in _ (by omega)]; omega
  unfold maxLen at hcap
  dsimp only [List.length_cons] at hcap
  have k3 : ¬ ((rest.length + 1 : Nat) : Int) = 0 := by omega
  have HM3 := Lib.hid ((HM2.out.cut (f := { f with stack := sv, st := f.st.take (f.st.length - 1) }) (r := g :: rest) rfl hfvv).later (up_drew (Below.refl _ _)))
  have HBB3 := Lib.hid (HBB.out.setCell (p := ⟨X, 6, none⟩) HM2.out.low (.slice (some ⟨fg, 0, none⟩) (g :: rest).length fcap)).drew
  have x0 : (w2.setCell ⟨X, 6, none⟩ (.slice (some ⟨fg, 0, none⟩) (g :: rest).length fcap)).drew.cell? ⟨w.heap.size, 0, none⟩ = some (.int .i64 ty) := (cell_set_ne w2 _ (.inl hXne)).trans e0
  have x1 : (w2.setCell ⟨X, 6, none⟩ (.slice (some ⟨fg, 0, none⟩) (g :: rest).length fcap)).drew.cell? ⟨w.heap.size, 1, none⟩ = some (.int .i64 n) := (cell_set_ne w2 _ (.inl hXne)).trans e1
  have x2 : (w2.setCell ⟨X, 6, none⟩ (.slice (some ⟨fg, 0, none⟩) (g :: rest).length fcap)).drew.cell? ⟨w.heap.size, 2, none⟩ = some (.slice p l c) := (cell_set_ne w2 _ (.inl hXne)).trans e2
  dsimp only [List.length_cons] at x0 x1 x2 HM3 HBB3
  have x6 := HM3.out.c6
  dsimp only at x6
  have xf := HM3.out.own.cells (g := fg) rfl rest.length (.pointer (some ⟨g.blk, 0, none⟩)) (by dsimp only; rw [frsV_cons, List.getElem?_append_right (by rw [frsV_len]; exact Nat.le_refl _), frsV_len, Nat.sub_self]; rfl)
  rw [Go.WideShapes.add_plain, Nat.zero_add] at xf
  have HFG : Hid (FrAt _ g) := Lib.hid HM3.out.frs.1
  generalize hR : rest.length = R at *
  go_region
  generalize (w2.setCell ⟨X, 6, none⟩ (.slice (some ⟨fg, 0, none⟩) (R + 1) fcap)).drew = w3 at *
  clear e0 e1 e2 y6 yz6
  go_upto_region 8 with fail
  have k4 : IntKind.i64.wrap (R : Int) = (R : Int) := IntWalk.i64_in _ (by omega)
  have k5 : (0 : Int) ≤ (R : Int) := by omega
  have k6 : (R : Int) < (R : Int) + 1 := by omega
  go_still_tail 13, (by kernel_rfl)
  change wpList _ _ _ _ _ w3.drew
  have HPD := Lib.hid (vpush g ⟨.int .i64 ty, .int .i64 n, .slice p l c⟩ w3.drew (HFG.out.later (up_drew (Below.refl _ _))) ⟨rfl, rfl, rfl⟩ (by omega))
  have HM4 := Lib.hid (HM3.out.later (up_drew (Below.refl _ _)))
  have HBB4 := Lib.hid HBB3.out.drew
  generalize w3.drew = w4 at *
  go_wp2_with fail
  refine HPD.out.mono ?_
  rintro e w5 ⟨rfl, gv, hg5⟩
  have hm5 := HM4.out.top (f := g) (r := rest) rfl hg5.1 rfl hg5.2.1
  have HB5 : Hid (Below base w w5) := Lib.hid (HBB4.out.trans ⟨hg5.2.1.os, hg5.2.1.tape, hg5.2.1.output, hg5.2.1.size, fun k hk => hg5.2.1.block k (by have := HM4.out.low; have := HM4.out.lt; omega) (fun hm => by have := (HM4.out.top_base (f := g) (r := rest) rfl).2 k hm; omega)⟩)
  have HM5 := Lib.hid hm5
  clear hg5 hm5
  go_wp2_with fail
  go_end0
  exact ⟨rfl, HB5.out, _, gv, HM5.out⟩
end Go.Proofs.YtmdceokmpjcllaaGreatDoor
