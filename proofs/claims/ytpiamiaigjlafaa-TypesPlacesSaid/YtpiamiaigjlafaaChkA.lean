/-
  What is wrong with expressions that must have their types.
-/
import Derived.Test.YtpiamiaigjlafaaChkE
import Derived.Test.YtpiamiaigjlafaaSplit
namespace Go.Proofs.Ytpiamiaigjlafaa
open Go.RowKit

/-- types in a row -/
def TysAt (w : World) (u : Value) (ts : List Int) : Prop := ∃ s0 cap, u = .slice s0 ts.length cap ∧ ts.length ≤ 1000000 ∧ (0 < ts.length → ∃ b off, s0 = some ⟨b, off, none⟩ ∧ b < w.heap.size ∧ ∀ i, i < ts.length → w.cell? ⟨b, off + i, none⟩ = some (.int .i64 (ts.getD i 0)))
theorem TysAt.below {w w' : World} {u : Value} {ts : List Int} (h : TysAt w u ts) (hb : Below w.heap.size w w') : TysAt w' u ts := by
  obtain ⟨s0, cap, h1, h3, h4⟩ := h
  refine ⟨s0, cap, h1, h3, fun h0 => ?_⟩
  obtain ⟨b, off, e, h2, h5⟩ := h4 h0
  exact ⟨b, off, e, Nat.lt_of_lt_of_le h2 hb.size, fun i hi => (hb.cell (p := ⟨b, _, none⟩) h2).trans (h5 i hi)⟩
theorem all_step (F : Funs) (v : View) (l : List Ex) (ts : List Int) (i : Nat) (hi : i < l.length) : allC F v (l.drop i) (ts.drop i) = orF (mustC F v (l.getD i default) (ts.getD i 0)) (allC F v (l.drop (i + 1)) (ts.drop (i + 1))) := by
  rw [List.drop_eq_getElem_cons hi, allC, mustC]
  have e1 : l.getD i default = l[i] := by rw [List.getD_eq_getElem?_getD, List.getElem?_eq_getElem hi]; rfl
  have e2 : (ts.drop i).headD 0 = ts.getD i 0 := by
    rw [List.headD_eq_head?_getD, List.head?_drop, List.getD_eq_getElem?_getD]
  rw [e1, e2, List.tail_drop]
theorem all_end (F : Funs) (v : View) (l : List Ex) (ts : List Int) : allC F v (l.drop l.length) (ts.drop l.length) = okF := by
  rw [List.drop_length, allC]
set_option maxRecDepth 100000 in
set_option maxHeartbeats 4000000 in
theorem all_ck (cb : Nat) (F : Funs) (res : Int) (l : List Ex) (hl : ∀ x, x ∈ l → ExCk cb F res x) (v : View) (vr : Nat) (w : World) (u tv : Value) (ts : List Int) (h : CtxAt w cb F res vr v) (hr : RepExs Any w u l) (ht : TysAt w tv ts) (hlen : l.length ≤ ts.length) :
    Calls Try.prog 69 #[.pointer (some ⟨cb, 0, none⟩), u, .map (some vr), tv] w fun e w' => e = .returned (fltV (allC F v l ts)) ∧ Below w.heap.size w w' := by
  obtain ⟨st, tcap, rfl, htl, htc⟩ := ht
  obtain ⟨cs, ⟨s0, cap, rfl, hle, hcm, _, hrow, hsz⟩, hit⟩ := hr
  have HCT := Lib.hid h
  have HLL := Lib.hid hl
  have HTC0 := Lib.hid htc
  have HROW := Lib.hid hrow
  have HIT := Lib.hid hit
  have HSZ := Lib.hid hsz
  have HCM := Lib.hid (And.intro hle hcm)
  generalize hR : allC F v l ts = R
  have HR := Lib.hid (show R = allC F v (l.drop 0) (ts.drop 0) from hR.symm)
  clear h hl htc hrow hit hsz hle hcm hR
  have HST := Lib.hid (all_step F v l ts)
  have HEN := Lib.hid (all_end F v l ts)
  have HRES := Lib.hid (new_heap w (.cells #[.int .i64 0, .int .i64 0] 58) w.heap.size rfl)
  go_enter Try.func69, Try.ntmps69
  go_wp2_with fail
  go_loopg [14] l.length (fun g s14 wr => ∃ i : Nat, i + g = l.length ∧ s14 = .int .i64 (i : Int) ∧ R = allC F v (l.drop i) (ts.drop i) ∧ Below w.heap.size w wr ∧ wr.heap[w.heap.size]? = some (.cells #[.int .i64 0, .int .i64 0] 58 (0, 0)))
  case atStart => exact ⟨0, Nat.zero_add _, rfl, HR.out, up_alloc (Below.refl _ _) _, HRES.out⟩
  case round =>
    obtain ⟨i, hig, rfl, hR, hb, hres⟩ := hrel
    have HRR := Lib.hid hR
    have HB := Lib.hid hb
    have HRW := Lib.hid hres
    clear hR hb hres
    by_cases hil : i < l.length
    · have g1 : (i : Int) < (l.length : Int) := by omega
      have g2 : (i : Int) < (ts.length : Int) := by omega
      have g3 : (0 : Int) ≤ (i : Int) := by omega
      obtain ⟨b, off, hs0, _, hbl, hcell⟩ := HROW.out (by omega)
      subst hs0
      have hrep := HIT.out i hil
      obtain ⟨op, num, text, ev, pos, hcs, s, n, c, hev⟩ := hrep.form
      subst hev
      rw [hcs] at hrep
      have hc5 : ∀ j, j < 5 → wr.cell? ⟨b, off + i * 5 + j, none⟩ = (cs i)[j]? := fun j hj => (HB.out.cell (p := ⟨b, _, none⟩) hbl).trans (hcell i hil j hj)
      rw [hcs] at hc5
      have x0 : wr.cell? ⟨b, off + i * 5, none⟩ = some (.int .i64 op) := hc5 0 (by decide)
      have x1 : wr.cell? ⟨b, off + i * 5 + 1, none⟩ = some (.int .i64 num) := hc5 1 (by decide)
      have x2 : wr.cell? ⟨b, off + i * 5 + 2, none⟩ = some (.string text) := hc5 2 (by decide)
      have x3 : wr.cell? ⟨b, off + i * 5 + 3, none⟩ = some (.slice s n c) := hc5 3 (by decide)
      have x4 : wr.cell? ⟨b, off + i * 5 + 4, none⟩ = some (.int .i64 pos) := hc5 4 (by decide)
      have HREP := Lib.hid hrep
      obtain ⟨tb, toff, hst, htb, htc⟩ := HTC0.out (by omega)
      subst hst
      have HTB := Lib.hid htb
      have HTC := Lib.hid htc
      clear htb htc
      have HTI : Hid (wr.cell? ⟨tb, toff + i, none⟩ = some (.int .i64 (ts.getD i 0))) := Lib.hid ((HB.out.cell (p := ⟨tb, _, none⟩) HTB.out).trans (HTC.out i (by omega)))
      have HMEM : Hid (l.getD i default ∈ l) := Lib.hid (by rw [List.getD_eq_getElem?_getD, List.getElem?_eq_getElem hil]; exact List.getElem_mem hil)
      replace HRR := Lib.hid (HRR.out.trans (HST.out i hil))
      generalize ts.getD i 0 = t at *
      clear hrep hc5 hcs hcell
      go_upto_region 4 with fail
      have HS0 : Hid ((wr.alloc (.cells #[.int .i64 op, .int .i64 num, .string text, .slice s n c, .int .i64 pos] 44)).cell? ⟨wr.heap.size, 0, none⟩ = some (.int .i64 op) ∧ (wr.alloc (.cells #[.int .i64 op, .int .i64 num, .string text, .slice s n c, .int .i64 pos] 44)).cell? ⟨wr.heap.size, 1, none⟩ = some (.int .i64 num) ∧ (wr.alloc (.cells #[.int .i64 op, .int .i64 num, .string text, .slice s n c, .int .i64 pos] 44)).cell? ⟨wr.heap.size, 2, none⟩ = some (.string text) ∧ (wr.alloc (.cells #[.int .i64 op, .int .i64 num, .string text, .slice s n c, .int .i64 pos] 44)).cell? ⟨wr.heap.size, 3, none⟩ = some (.slice s n c) ∧ (wr.alloc (.cells #[.int .i64 op, .int .i64 num, .string text, .slice s n c, .int .i64 pos] 44)).cell? ⟨wr.heap.size, 4, none⟩ = some (.int .i64 pos) ∧ (wr.alloc (.cells #[.int .i64 op, .int .i64 num, .string text, .slice s n c, .int .i64 pos] 44)).cell? ⟨tb, toff + i, none⟩ = some (.int .i64 t)) := Lib.hid ⟨new_cell _ _ _ _ _ _ rfl rfl, new_cell _ _ _ _ _ _ rfl rfl, new_cell _ _ _ _ _ _ rfl rfl, new_cell _ _ _ _ _ _ rfl rfl, new_cell _ _ _ _ _ _ rfl rfl, old_cell _ HTI.out⟩
      have HB0 := Lib.hid (up_alloc HB.out (.cells #[.int .i64 op, .int .i64 num, .string text, .slice s n c, .int .i64 pos] 44))
      have HR0 : Hid ((wr.alloc (.cells #[.int .i64 op, .int .i64 num, .string text, .slice s n c, .int .i64 pos] 44)).heap[w.heap.size]? = some (.cells #[.int .i64 0, .int .i64 0] 58 (0, 0))) := Lib.hid (old_heap _ _ _ _ HRW.out)
      have HXL : Hid (wr.heap.size < (wr.alloc (.cells #[.int .i64 op, .int .i64 num, .string text, .slice s n c, .int .i64 pos] 44)).heap.size) := Lib.hid (by rw [size_alloc]; exact Nat.lt_succ_self _)
      have HTL : Hid (tb < (wr.alloc (.cells #[.int .i64 op, .int .i64 num, .string text, .slice s n c, .int .i64 pos] 44)).heap.size) := Lib.hid (by rw [size_alloc]; have h1 := HTB.out; have h2 := HB.out.size; omega)
      generalize (wr.alloc (.cells #[.int .i64 op, .int .i64 num, .string text, .slice s n c, .int .i64 pos] 44)) = w0 at *
      generalize wr.heap.size = X at *
      clear x0 x1 x2 x3 x4
      have hs0 := HS0.out
      refine wp_region_split (S := (fun w' => w'.cell? ⟨X, 0, none⟩ = some (.int .i64 op) ∧ w'.cell? ⟨X, 1, none⟩ = some (.int .i64 num) ∧ w'.cell? ⟨X, 2, none⟩ = some (.string text) ∧ w'.cell? ⟨X, 3, none⟩ = some (.slice s n c) ∧ w'.cell? ⟨X, 4, none⟩ = some (.int .i64 pos) ∧ w'.cell? ⟨tb, toff + i, none⟩ = some (.int .i64 t))) 9 (by kernel_rfl) (by kernel_rfl) (by (try dsimp only); (first | exact HS3.out | exact HS2.out | exact HS1.out | exact HS0.out)) (fun hHeld => ?_)
      simp only [List.take_succ_cons, List.take_zero, List.drop_succ_cons, List.drop_zero]
      refine wpAnyH_take (i := 0) (v := ?_) rfl (by kernel_rfl) (by kernel_rfl) (by kernel_rfl) (fun _ _ _ h => h) (Or.inl ⟨by rfl, ?_⟩) (by assumption) ?_
      rotate_left 1
      · (intro w hSw; (try dsimp only at hSw); go_simp; try with_reducible rfl)
      try simp only [Act.put, List.setIfInBounds_toArray, List.set_cons_zero, List.set_cons_succ, List.getElem_toArray, List.getElem_cons_zero]
      refine wpAnyH_take (i := 1) (v := ?_) rfl (by kernel_rfl) (by kernel_rfl) (by kernel_rfl) (fun _ _ _ h => h) (Or.inl ⟨by rfl, ?_⟩) (by assumption) ?_
      rotate_left 1
      · (intro w hSw; (try dsimp only at hSw); go_simp; try with_reducible rfl)
      try simp only [Act.put, List.setIfInBounds_toArray, List.set_cons_zero, List.set_cons_succ, List.getElem_toArray, List.getElem_cons_zero, List.getElem_cons_succ]
      refine wpAnyH_take (i := 2) (v := ?_) rfl (by kernel_rfl) (by kernel_rfl) (by kernel_rfl) (fun _ _ _ h => h) (Or.inl ⟨by rfl, ?_⟩) (by assumption) ?_
      rotate_left 1
      · (intro w hSw; (try dsimp only at hSw); go_simp; try with_reducible rfl)
      try simp only [Act.put, List.setIfInBounds_toArray, List.set_cons_zero, List.set_cons_succ, List.getElem_toArray, List.getElem_cons_zero, List.getElem_cons_succ]
      refine wpAnyH_take (i := 3) (v := ?_) rfl (by kernel_rfl) (by kernel_rfl) (by kernel_rfl) (fun _ _ _ h => h) (Or.inl ⟨by rfl, ?_⟩) (by assumption) ?_
      rotate_left 1
      · (intro w hSw; (try dsimp only at hSw); go_simp; try with_reducible rfl)
      try simp only [Act.put, List.setIfInBounds_toArray, List.set_cons_zero, List.set_cons_succ, List.getElem_toArray, List.getElem_cons_zero, List.getElem_cons_succ]
      refine wpAnyH_take (i := 4) (v := ?_) rfl (by kernel_rfl) (by kernel_rfl) (by kernel_rfl) (fun _ _ _ h => h) (Or.inl ⟨by rfl, ?_⟩) (by assumption) ?_
      rotate_left 1
      · (intro w hSw; (try dsimp only at hSw); go_simp; try with_reducible rfl)
      try simp only [Act.put, List.setIfInBounds_toArray, List.set_cons_zero, List.set_cons_succ, List.getElem_toArray, List.getElem_cons_zero, List.getElem_cons_succ]
      refine wpAnyH_take (i := 5) (v := ?_) rfl (by kernel_rfl) (by kernel_rfl) (by kernel_rfl) (fun _ _ _ h => h) (Or.inl ⟨by rfl, ?_⟩) (by assumption) ?_
      rotate_left 1
      · (intro w hSw; (try dsimp only at hSw); go_simp; try with_reducible rfl)
      try simp only [Act.put, List.setIfInBounds_toArray, List.set_cons_zero, List.set_cons_succ, List.getElem_toArray, List.getElem_cons_zero, List.getElem_cons_succ]
      refine wpAnyH_take (i := 6) (v := ?_) rfl (by kernel_rfl) (by kernel_rfl) (by kernel_rfl) (fun _ _ _ h => h) (Or.inl ⟨by rfl, ?_⟩) (by assumption) ?_
      rotate_left 1
      · (intro w hSw; (try dsimp only at hSw); go_simp; try with_reducible rfl)
      try simp only [Act.put, List.setIfInBounds_toArray, List.set_cons_zero, List.set_cons_succ, List.getElem_toArray, List.getElem_cons_zero, List.getElem_cons_succ]
      refine wpAnyH_ready (rs := [7, 8]) (by kernel_rfl) (by simp) ?_
      refine (AllReadyH.cons rfl (fun K hK => ?_) (AllReadyH.cons rfl (fun K hK => ?_) AllReadyH.nil))
      · go_simp
        go_at_call 64
        refine ((must_ck cb F res _ (HLL.out _ HMEM.out) v vr t _ op num pos text s n c (HCT.out.below (up_trans HB0.out (up_drew (Below.refl _ _)))) (HREP.out.keep (Stays.of_below (up_trans HB0.out (up_drew (Below.refl _ _))))))).mono ?_
        rintro e w1 ⟨rfl, hb1⟩
        have hb1' : Below w0.heap.size w0 w1 := up_trans (up_drew (Below.refl _ _)) hb1
        have HS1 : Hid (w1.cell? ⟨X, 0, none⟩ = some (.int .i64 op) ∧ w1.cell? ⟨X, 1, none⟩ = some (.int .i64 num) ∧ w1.cell? ⟨X, 2, none⟩ = some (.string text) ∧ w1.cell? ⟨X, 3, none⟩ = some (.slice s n c) ∧ w1.cell? ⟨X, 4, none⟩ = some (.int .i64 pos) ∧ w1.cell? ⟨tb, toff + i, none⟩ = some (.int .i64 t)) := Lib.hid (by have h := HS0.out; have hb := hb1'; have hx := HXL.out; have ht := HTL.out; exact ⟨(hb.cell (p := ⟨X, 0, none⟩) hx).trans h.1, (hb.cell (p := ⟨X, 1, none⟩) hx).trans h.2.1, (hb.cell (p := ⟨X, 2, none⟩) hx).trans h.2.2.1, (hb.cell (p := ⟨X, 3, none⟩) hx).trans h.2.2.2.1, (hb.cell (p := ⟨X, 4, none⟩) hx).trans h.2.2.2.2.1, (hb.cell (p := ⟨tb, _, none⟩) ht).trans h.2.2.2.2.2⟩)
        have HB1 := Lib.hid (up_trans HB0.out hb1')
        have HR1 := Lib.hid ((hb1'.block _ (lt_block HR0.out)).trans HR0.out)
        have HS1L := Lib.hid hb1'.size
        clear hb1 hb1' hs0
        generalize mustC F v (l.getD i default) t = q at *
        obtain ⟨fe, fa⟩ := q
        unfold fltV
        dsimp only
        go_simp
        refine hK.out _ _ ?_ (fun hHeld => ?_)
        · (try dsimp only)
          exact HS1.out
        clear hK K
        try simp only [Act.put, List.setIfInBounds_toArray, List.set_cons_zero, List.set_cons_succ, List.getElem_toArray, List.getElem_cons_zero, List.getElem_cons_succ]
        refine wpAnyH_ready (rs := [8]) (by kernel_rfl) (by simp) ?_
        refine (AllReadyH.cons rfl (fun K hK => ?_) AllReadyH.nil)
        go_simp
        refine hK.out _ _ ?_ (fun hHeld => ?_)
        · (try dsimp only)
          (first | exact HS1.out | (have h := HS1.out; exact ⟨old_cell _ h.1, old_cell _ h.2.1, old_cell _ h.2.2.1, old_cell _ h.2.2.2.1, old_cell _ h.2.2.2.2.1, old_cell _ h.2.2.2.2.2⟩))
        clear hK K
        try simp only [Act.put, List.setIfInBounds_toArray, List.set_cons_zero, List.set_cons_succ, List.getElem_toArray, List.getElem_cons_zero, List.getElem_cons_succ]
        refine wpAnyH_done (by kernel_rfl) ?_ _
        dsimp only [TailQ]
        clear HS0 HS1
        go_upto_region 5 with fail
        have hc0 : (w1.alloc (.cells #[.int .i64 fe, .int .i64 fa] 58)).cell? ⟨w1.heap.size, 0, none⟩ = some (.int .i64 fe) := new_cell _ _ _ _ _ _ rfl rfl
        have hc1 : (w1.alloc (.cells #[.int .i64 fe, .int .i64 fa] 58)).cell? ⟨w1.heap.size, 1, none⟩ = some (.int .i64 fa) := new_cell _ _ _ _ _ _ rfl rfl
        have HB5 := Lib.hid (up_alloc HB1.out (.cells #[.int .i64 fe, .int .i64 fa] 58))
        have HR5 : Hid ((w1.alloc (.cells #[.int .i64 fe, .int .i64 fa] 58)).heap[w.heap.size]? = _) := Lib.hid (old_heap _ _ _ _ HR1.out)
        generalize (w1.alloc (.cells #[.int .i64 fe, .int .i64 fa] 58)) = w5 at *
        by_cases he : fe = 0
        · subst he
          go_wp2_with fail
          go_roundg (l.length - i - 1)
          case measure => omega
          case rel => exact ⟨i + 1, by omega, rfl, HRR.out.trans (if_neg (by simp)), HB5.out, HR5.out⟩
        · have r0 : w5.cell? ⟨w.heap.size, 0, none⟩ = some (.int .i64 0) := cell_of HR5.out (j := 0) rfl
          have r1 : w5.cell? ⟨w.heap.size, 1, none⟩ = some (.int .i64 0) := cell_of HR5.out (j := 1) rfl
          have k0 : w5.frozen? ⟨w.heap.size, 0, none⟩ = false := frozen_of HR5.out 0
          have k1 : w5.frozen? ⟨w.heap.size, 1, none⟩ = false := frozen_of HR5.out 1
          have HE := Lib.hid (HRR.out.trans (if_pos he))
          go_wp2_with fail
          refine bodyPost_ret (v := .agg #[.int .i64 fe, .int .i64 fa]) (by simp [results, Try.results69, go_sem, r0, r1]) rfl ⟨by rw [HE.out]; rfl, ?_⟩
          exact (HB5.out.setCell (p := ⟨w.heap.size, 0, none⟩) (Nat.le_refl _) _).setCell (p := ⟨w.heap.size, 1, none⟩) (Nat.le_refl _) _
      · go_simp
        have hb2 : Below w0.heap.size w0 (w0.drew.alloc (.cells #[.int .i64 0, .int .i64 0] 58)) := up_alloc (up_drew (Below.refl _ _)) _
        have HS2 : Hid ((w0.drew.alloc (.cells #[.int .i64 0, .int .i64 0] 58)).cell? ⟨X, 0, none⟩ = some (.int .i64 op) ∧ (w0.drew.alloc (.cells #[.int .i64 0, .int .i64 0] 58)).cell? ⟨X, 1, none⟩ = some (.int .i64 num) ∧ (w0.drew.alloc (.cells #[.int .i64 0, .int .i64 0] 58)).cell? ⟨X, 2, none⟩ = some (.string text) ∧ (w0.drew.alloc (.cells #[.int .i64 0, .int .i64 0] 58)).cell? ⟨X, 3, none⟩ = some (.slice s n c) ∧ (w0.drew.alloc (.cells #[.int .i64 0, .int .i64 0] 58)).cell? ⟨X, 4, none⟩ = some (.int .i64 pos) ∧ (w0.drew.alloc (.cells #[.int .i64 0, .int .i64 0] 58)).cell? ⟨tb, toff + i, none⟩ = some (.int .i64 t)) := Lib.hid (by have h := HS0.out; have hb := hb2; have hx := HXL.out; have ht := HTL.out; exact ⟨(hb.cell (p := ⟨X, 0, none⟩) hx).trans h.1, (hb.cell (p := ⟨X, 1, none⟩) hx).trans h.2.1, (hb.cell (p := ⟨X, 2, none⟩) hx).trans h.2.2.1, (hb.cell (p := ⟨X, 3, none⟩) hx).trans h.2.2.2.1, (hb.cell (p := ⟨X, 4, none⟩) hx).trans h.2.2.2.2.1, (hb.cell (p := ⟨tb, _, none⟩) ht).trans h.2.2.2.2.2⟩)
        have HB2 := Lib.hid (up_trans HB0.out hb2)
        have HR2 := Lib.hid ((hb2.block _ (lt_block HR0.out)).trans HR0.out)
        have HA2 : Hid ((w0.drew.alloc (.cells #[.int .i64 0, .int .i64 0] 58)).heap[w0.heap.size]? = some (.cells #[.int .i64 0, .int .i64 0] 58 (0, 0))) := Lib.hid (new_heap _ _ _ rfl)
        clear hb2
        refine hK.out _ _ ?_ (fun hHeld => ?_)
        · (try dsimp only)
          exact HS2.out
        clear hK K
        try simp only [Act.put, List.setIfInBounds_toArray, List.set_cons_zero, List.set_cons_succ, List.getElem_toArray, List.getElem_cons_zero, List.getElem_cons_succ]
        refine wpAnyH_ready (rs := [7]) (by kernel_rfl) (by simp) ?_
        refine (AllReadyH.cons rfl (fun K hK => ?_) AllReadyH.nil)
        go_simp
        go_at_call 64
        refine ((must_ck cb F res _ (HLL.out _ HMEM.out) v vr t _ op num pos text s n c (HCT.out.below HB2.out) (HREP.out.keep (Stays.of_below HB2.out)))).mono ?_
        rintro e w1 ⟨rfl, hb1⟩
        have HB1 := Lib.hid (up_trans HB2.out hb1)
        have HR1 := Lib.hid ((hb1.block _ (lt_block HR2.out)).trans HR2.out)
        have HA1 := Lib.hid ((hb1.block _ (lt_block HA2.out)).trans HA2.out)
        have HS3 : Hid (w1.cell? ⟨X, 0, none⟩ = some (.int .i64 op) ∧ w1.cell? ⟨X, 1, none⟩ = some (.int .i64 num) ∧ w1.cell? ⟨X, 2, none⟩ = some (.string text) ∧ w1.cell? ⟨X, 3, none⟩ = some (.slice s n c) ∧ w1.cell? ⟨X, 4, none⟩ = some (.int .i64 pos) ∧ w1.cell? ⟨tb, toff + i, none⟩ = some (.int .i64 t)) := Lib.hid (by have h := HS2.out; exact ⟨(hb1.cell (p := ⟨X, 0, none⟩) (lt_of_cell h.1)).trans h.1, (hb1.cell (p := ⟨X, 1, none⟩) (lt_of_cell h.1)).trans h.2.1, (hb1.cell (p := ⟨X, 2, none⟩) (lt_of_cell h.1)).trans h.2.2.1, (hb1.cell (p := ⟨X, 3, none⟩) (lt_of_cell h.1)).trans h.2.2.2.1, (hb1.cell (p := ⟨X, 4, none⟩) (lt_of_cell h.1)).trans h.2.2.2.2.1, (hb1.cell (p := ⟨tb, _, none⟩) (lt_of_cell h.2.2.2.2.2)).trans h.2.2.2.2.2⟩)
        clear hb1 hs0
        generalize mustC F v (l.getD i default) t = q at *
        obtain ⟨fe, fa⟩ := q
        unfold fltV
        dsimp only
        go_simp
        refine hK.out _ _ ?_ (fun hHeld => ?_)
        · (try dsimp only)
          exact HS3.out
        clear hK K
        try simp only [Act.put, List.setIfInBounds_toArray, List.set_cons_zero, List.set_cons_succ, List.getElem_toArray, List.getElem_cons_zero, List.getElem_cons_succ]
        refine wpAnyH_done (by kernel_rfl) ?_ _
        dsimp only [TailQ]
        clear HS0 HS2 HS3
        have z0 : w1.cell? ⟨w0.heap.size, 0, none⟩ = some (.int .i64 0) := cell_of HA1.out (j := 0) rfl
        have z1 : w1.cell? ⟨w0.heap.size, 1, none⟩ = some (.int .i64 0) := cell_of HA1.out (j := 1) rfl
        have y0 : w1.frozen? ⟨w0.heap.size, 0, none⟩ = false := frozen_of HA1.out 0
        have y1 : w1.frozen? ⟨w0.heap.size, 1, none⟩ = false := frozen_of HA1.out 1
        go_upto_region 5 with fail
        have hc0 : ((w1.setCell ⟨w0.heap.size, 0, none⟩ (.int .i64 fe)).setCell ⟨w0.heap.size, 1, none⟩ (.int .i64 fa)).cell? ⟨w0.heap.size, 0, none⟩ = some (.int .i64 fe) := (cell_set_ne _ _ (.inr (by omega))).trans (cell_set_eq _ z0)
        have hc1 : ((w1.setCell ⟨w0.heap.size, 0, none⟩ (.int .i64 fe)).setCell ⟨w0.heap.size, 1, none⟩ (.int .i64 fa)).cell? ⟨w0.heap.size, 1, none⟩ = some (.int .i64 fa) := cell_set_eq _ ((cell_set_ne _ _ (.inr (by omega))).trans z1)
        have HB5 : Hid (Below w.heap.size w ((w1.setCell ⟨w0.heap.size, 0, none⟩ (.int .i64 fe)).setCell ⟨w0.heap.size, 1, none⟩ (.int .i64 fa))) := Lib.hid ((HB1.out.setCell (p := ⟨w0.heap.size, 0, none⟩) HB0.out.size _).setCell (p := ⟨w0.heap.size, 1, none⟩) HB0.out.size _)
        have HNE : Hid (w.heap.size ≠ w0.heap.size) := Lib.hid (Nat.ne_of_lt (lt_block HR0.out))
        have HR5 : Hid (((w1.setCell ⟨w0.heap.size, 0, none⟩ (.int .i64 fe)).setCell ⟨w0.heap.size, 1, none⟩ (.int .i64 fa)).heap[w.heap.size]? = _) := Lib.hid ((setCell_heap _ _ _ _ HNE.out).trans ((setCell_heap _ _ _ _ HNE.out).trans HR1.out))
        clear z0 z1 y0 y1
        generalize ((w1.setCell ⟨w0.heap.size, 0, none⟩ (.int .i64 fe)).setCell ⟨w0.heap.size, 1, none⟩ (.int .i64 fa)) = w5 at *
        by_cases he : fe = 0
        · subst he
          go_wp2_with fail
          go_roundg (l.length - i - 1)
          case measure => omega
          case rel => exact ⟨i + 1, by omega, rfl, HRR.out.trans (if_neg (by simp)), HB5.out, HR5.out⟩
        · have r0 : w5.cell? ⟨w.heap.size, 0, none⟩ = some (.int .i64 0) := cell_of HR5.out (j := 0) rfl
          have r1 : w5.cell? ⟨w.heap.size, 1, none⟩ = some (.int .i64 0) := cell_of HR5.out (j := 1) rfl
          have k0 : w5.frozen? ⟨w.heap.size, 0, none⟩ = false := frozen_of HR5.out 0
          have k1 : w5.frozen? ⟨w.heap.size, 1, none⟩ = false := frozen_of HR5.out 1
          have HE := Lib.hid (HRR.out.trans (if_pos he))
          go_wp2_with fail
          refine bodyPost_ret (v := .agg #[.int .i64 fe, .int .i64 fa]) (by simp [results, Try.results69, go_sem, r0, r1]) rfl ⟨by rw [HE.out]; rfl, ?_⟩
          exact (HB5.out.setCell (p := ⟨w.heap.size, 0, none⟩) (Nat.le_refl _) _).setCell (p := ⟨w.heap.size, 1, none⟩) (Nat.le_refl _) _
    · obtain rfl : i = l.length := by omega
      have g1 : ¬ (l.length : Int) < (l.length : Int) := by omega
      have HE := Lib.hid (HRR.out.trans HEN.out)
      have r0 : wr.cell? ⟨w.heap.size, 0, none⟩ = some (.int .i64 0) := cell_of HRW.out (j := 0) rfl
      have r1 : wr.cell? ⟨w.heap.size, 1, none⟩ = some (.int .i64 0) := cell_of HRW.out (j := 1) rfl
      have k0 : wr.frozen? ⟨w.heap.size, 0, none⟩ = false := frozen_of HRW.out 0
      have k1 : wr.frozen? ⟨w.heap.size, 1, none⟩ = false := frozen_of HRW.out 1
      go_wp2_with fail
      refine bodyPost_ret (v := .agg #[.int .i64 0, .int .i64 0]) (by simp [results, Try.results69, go_sem, r0, r1]) rfl ⟨by rw [HE.out]; rfl, ?_⟩
      exact (HB.out.setCell (p := ⟨w.heap.size, 0, none⟩) (Nat.le_refl _) _).setCell (p := ⟨w.heap.size, 1, none⟩) (Nat.le_refl _) _
end Go.Proofs.Ytpiamiaigjlafaa
