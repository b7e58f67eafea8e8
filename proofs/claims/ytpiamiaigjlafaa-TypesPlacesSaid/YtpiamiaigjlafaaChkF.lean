/-
  The first thing that is wrong: function values, one behind another.
-/
import Derived.Test.YtpiamiaigjlafaaChkX
namespace Go.Proofs.Ytpiamiaigjlafaa
open Go.RowKit

/-- a function value that, asked in any world behind w, tells f and turns nothing -/
def FnTells (w : World) (u : Value) (f : Flt) : Prop := ∃ k caps, u = .func (.func k) #[] caps ∧ (∀ args w, (callFunc k args).run Try.prog w = .ok (.enter k args) w) ∧ ∀ W, Below w.heap.size w W → Calls Try.prog k caps W fun e w' => e = .returned (fltV f) ∧ Below W.heap.size W w'
theorem FnTells.below {w w' : World} {u : Value} {f : Flt} (h : FnTells w u f) (hb : Below w.heap.size w w') : FnTells w' u f := by
  obtain ⟨k, caps, e, he, hc⟩ := h
  exact ⟨k, caps, e, he, fun W hW => hc W (hb.trans (hW.mono hb.size))⟩
/-- the first fault in a row -/
def firstF : List Flt → Flt
  | [] => okF
  | f :: l => orF f (firstF l)
/-- function values in a row -/
def FnsAt (w : World) (u : Value) (fs : List Flt) : Prop := ∃ b off cap, u = .slice (some ⟨b, off, none⟩) fs.length cap ∧ b < w.heap.size ∧ fs.length ≤ 1000 ∧ ∀ i, i < fs.length → ∃ x, w.cell? ⟨b, off + i, none⟩ = some x ∧ FnTells w x (fs.getD i okF)
theorem first_step (fs : List Flt) (i : Nat) (hi : i < fs.length) : firstF (fs.drop i) = orF (fs.getD i okF) (firstF (fs.drop (i + 1))) := by
  rw [List.drop_eq_getElem_cons hi, firstF, List.getD_eq_getElem?_getD, List.getElem?_eq_getElem hi]
  rfl
set_option maxRecDepth 100000 in
set_option maxHeartbeats 4000000 in
theorem first_ck (fs : List Flt) (u : Value) (w : World) (h : FnsAt w u fs) : Calls Try.prog 22 #[u] w fun e w' => e = .returned (fltV (firstF fs)) ∧ Below w.heap.size w w' := by
  obtain ⟨b, off, cap, rfl, hb, hlen, hrow⟩ := h
  have HROW := Lib.hid hrow
  have HBL := Lib.hid hb
  generalize hR : firstF fs = R
  have HR := Lib.hid (show R = firstF (fs.drop 0) from hR.symm)
  have HST := Lib.hid (first_step fs)
  clear hrow hb hR
  have HRES := Lib.hid (new_heap w (.cells #[.int .i64 0, .int .i64 0] 58) w.heap.size rfl)
  go_enter Try.func22, Try.ntmps22
  go_wp2_with fail
  go_loopg [8] fs.length (fun g s8 wr => ∃ i : Nat, i + g = fs.length ∧ s8 = .int .i64 (i : Int) ∧ R = firstF (fs.drop i) ∧ Below w.heap.size w wr ∧ wr.heap[w.heap.size]? = some (.cells #[.int .i64 0, .int .i64 0] 58 (0, 0)))
  case atStart => exact ⟨0, Nat.zero_add _, rfl, HR.out, up_alloc (Below.refl _ _) _, HRES.out⟩
  case round =>
    obtain ⟨i, hig, rfl, hR, hb, hres⟩ := hrel
    have HRR := Lib.hid hR
    have HB := Lib.hid hb
    have HRW := Lib.hid hres
    clear hR hb hres
    by_cases hil : i < fs.length
    · have g1 : (i : Int) < (fs.length : Int) := by omega
      have g3 : (0 : Int) ≤ (i : Int) := by omega
      obtain ⟨x, hx, k, caps, hxe, ek, hcall⟩ := HROW.out i hil
      subst hxe
      have x0 : wr.cell? ⟨b, off + i, none⟩ = some (.func (.func k) #[] caps) := (HB.out.cell (p := ⟨b, _, none⟩) HBL.out).trans hx
      have HCALL := Lib.hid (hcall wr HB.out)
      clear hx hcall
      replace HRR := Lib.hid (HRR.out.trans (HST.out i hil))
      generalize fs.getD i okF = q at *
      obtain ⟨fe, fa⟩ := q
      go_wp2_with (go_at_fn k; refine HCALL.out.mono ?_; rintro e w1 ⟨rfl, hb1⟩; unfold fltV; dsimp only; have HB1 := Lib.hid (HB.out.trans (hb1.mono HB.out.size)); have HR1 := Lib.hid ((hb1.block _ (lt_block HRW.out)).trans HRW.out); clear hb1 x0; have hlt1 : w.heap.size < w1.heap.size := lt_block HR1.out; have hne1 : ¬ w1.heap.size = w.heap.size := Nat.ne_of_gt (lt_block HR1.out); have r0 : w1.cell? ⟨w.heap.size, 0, none⟩ = some (.int .i64 0) := cell_of HR1.out (j := 0) rfl; have r1 : w1.cell? ⟨w.heap.size, 1, none⟩ = some (.int .i64 0) := cell_of HR1.out (j := 1) rfl; have k0 : w1.frozen? ⟨w.heap.size, 0, none⟩ = false := frozen_of HR1.out 0; have k1 : w1.frozen? ⟨w.heap.size, 1, none⟩ = false := frozen_of HR1.out 1; by_cases he : fe = 0)
      · go_roundg (fs.length - i - 1)
        case measure => omega
        case rel => exact ⟨i + 1, by omega, rfl, HRR.out.trans (if_neg (by simp [he])), up_alloc HB1.out _, old_heap _ _ _ _ HR1.out⟩
      · have HE := Lib.hid (HRR.out.trans (if_pos he))
        have y0 : (((w1.setCell ⟨w.heap.size, 0, none⟩ (.int .i64 fe)).setCell ⟨w.heap.size, 1, none⟩ (.int .i64 fa)).alloc (.cells #[.int .i64 fe, .int .i64 fa] 58)).cell? ⟨w.heap.size, 0, none⟩ = some (.int .i64 fe) := old_cell _ ((cell_set_ne _ _ (.inr (by omega))).trans (cell_set_eq _ r0))
        have y1 : (((w1.setCell ⟨w.heap.size, 0, none⟩ (.int .i64 fe)).setCell ⟨w.heap.size, 1, none⟩ (.int .i64 fa)).alloc (.cells #[.int .i64 fe, .int .i64 fa] 58)).cell? ⟨w.heap.size, 1, none⟩ = some (.int .i64 fa) := old_cell _ (cell_set_eq _ ((cell_set_ne _ _ (.inr (by omega))).trans r1))
        refine bodyPost_ret (v := .agg #[.int .i64 fe, .int .i64 fa]) (by simp [results, Try.results22, go_sem, y0, y1]) rfl ⟨by rw [HE.out]; rfl, ?_⟩
        exact up_alloc ((HB1.out.setCell (p := ⟨w.heap.size, 0, none⟩) (Nat.le_refl _) _).setCell (p := ⟨w.heap.size, 1, none⟩) (Nat.le_refl _) _) _
    · obtain rfl : i = fs.length := by omega
      have g1 : ¬ (fs.length : Int) < (fs.length : Int) := by omega
      have HE := Lib.hid (HRR.out.trans (by rw [List.drop_length]; rfl : firstF (fs.drop fs.length) = okF))
      have r0 : wr.cell? ⟨w.heap.size, 0, none⟩ = some (.int .i64 0) := cell_of HRW.out (j := 0) rfl
      have r1 : wr.cell? ⟨w.heap.size, 1, none⟩ = some (.int .i64 0) := cell_of HRW.out (j := 1) rfl
      have k0 : wr.frozen? ⟨w.heap.size, 0, none⟩ = false := frozen_of HRW.out 0
      have k1 : wr.frozen? ⟨w.heap.size, 1, none⟩ = false := frozen_of HRW.out 1
      go_wp2_with fail
      refine bodyPost_ret (v := .agg #[.int .i64 0, .int .i64 0]) (by simp [results, Try.results22, go_sem, r0, r1]) rfl ⟨by rw [HE.out]; rfl, ?_⟩
      exact (HB.out.setCell (p := ⟨w.heap.size, 0, none⟩) (Nat.le_refl _) _).setCell (p := ⟨w.heap.size, 1, none⟩) (Nat.le_refl _) _
end Go.Proofs.Ytpiamiaigjlafaa
