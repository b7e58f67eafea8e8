/-
  What is wrong with a block, where each statement does its part.
-/
import Derived.Test.YtpiamiaigjlafaaChkF
namespace Go.Proofs.Ytpiamiaigjlafaa
open Go.RowKit

theorem st_form {S : Nat → Prop} {w : World} {cs : List Value} {s : St} (h : RepSt S w cs s) : ∃ op text s1 n1 c1 s2 n2 c2 s3 n3 c3 pos, cs = [.int .i64 op, .string text, .slice s1 n1 c1, .slice s2 n2 c2, .slice s3 n3 c3, .int .i64 pos] := by
  obtain ⟨op, text, es, body, els, pos⟩ := s
  obtain ⟨ve, vb, vl, rfl, ⟨_, ⟨s1, c1, rfl, _⟩, _⟩, ⟨_, ⟨s2, c2, rfl, _⟩, _⟩, ⟨_, ⟨s3, c3, rfl, _⟩, _⟩⟩ := h.parts
  exact ⟨_, _, _, _, _, _, _, _, _, _, _, _, rfl⟩
/-- what 'stmt' says of a statement, whatever is in view -/
def StCk (cb : Nat) (F : Funs) (res : Int) (s : St) : Prop := ∀ (v : View) (vr : Nat) (w : World) (op : Int) (text : ByteArray) (s1 : Option Addr) (n1 c1 : Nat) (s2 : Option Addr) (n2 c2 : Nat) (s3 : Option Addr) (n3 c3 : Nat) (pos : Int), CtxAt w cb F res vr v → RepSt Any w [.int .i64 op, .string text, .slice s1 n1 c1, .slice s2 n2 c2, .slice s3 n3 c3, .int .i64 pos] s →
  Calls Try.prog 39 #[.pointer (some ⟨cb, 0, none⟩), .agg #[.int .i64 op, .string text, .slice s1 n1 c1, .slice s2 n2 c2, .slice s3 n3 c3, .int .i64 pos], .map (some vr)] w fun e w' => ∃ vr', e = .returned (.tuple #[.map (some vr'), fltV (stmtC F res s v).2]) ∧ ViewAt w' vr' (stmtC F res s v).1 ∧ Below w.heap.size w w'
theorem view_set {w : World} {r k : Nat} {v : View} {arr : Array Value} {t : TypeId} {fz : Nat × Nat} (h : ViewAt w r v) (hk : w.heap[k]? = some (.cells arr t fz)) (j : Nat) (u : Value) : ViewAt (w.setCell ⟨k, j, none⟩ u) r v := by
  refine MapAt.keep h (setCell_heap _ _ _ _ (fun e => ?_))
  obtain ⟨es, c, h1, _⟩ := h
  rw [show r = k from e, hk] at h1
  injection h1 with h1
  cases h1
theorem ckblock_step (F : Funs) (res : Int) (l : List St) (i : Nat) (hi : i < l.length) (v : View) : blockC F res (l.drop i) v = if (stmtC F res (l.getD i default) v).2.1 ≠ 0 then (stmtC F res (l.getD i default) v).2 else blockC F res (l.drop (i + 1)) (stmtC F res (l.getD i default) v).1 := by
  have e1 : l.getD i default = l[i] := by rw [List.getD_eq_getElem?_getD, List.getElem?_eq_getElem hi]; rfl
  rw [List.drop_eq_getElem_cons hi, blockC, e1]
theorem ckblock_end (F : Funs) (res : Int) (l : List St) (v : View) : blockC F res (l.drop l.length) v = okF := by
  rw [List.drop_length, blockC]
set_option maxRecDepth 100000 in
set_option maxHeartbeats 4000000 in
theorem block_ck (cb : Nat) (F : Funs) (res : Int) (l : List St) (hl : ∀ x, x ∈ l → StCk cb F res x) (v : View) (vr : Nat) (w : World) (u : Value) (h : CtxAt w cb F res vr v) (hr : RepSts Any w u l) :
    Calls Try.prog 24 #[.pointer (some ⟨cb, 0, none⟩), u, .map (some vr)] w fun e w' => e = .returned (fltV (blockC F res l v)) ∧ Below w.heap.size w w' := by
  obtain ⟨cs, ⟨s0, cap, rfl, hle, hcm, _, hrow, hsz⟩, hit⟩ := hr
  have HCT := Lib.hid h
  have HLL := Lib.hid hl
  have HROW := Lib.hid hrow
  have HIT := Lib.hid hit
  have HCM := Lib.hid (And.intro hle hcm)
  generalize hR : blockC F res l v = R
  have HR := Lib.hid (show R = blockC F res (l.drop 0) v from hR.symm)
  clear h hl hrow hit hsz hle hcm hR
  have HSTP := Lib.hid (ckblock_step F res l)
  have HEN := Lib.hid (ckblock_end F res l)
  have HRES := Lib.hid (new_heap w (.cells #[.int .i64 0, .int .i64 0] 58) w.heap.size rfl)
  go_enter Try.func24, Try.ntmps24
  go_wp2_with fail
  go_loopg [2, 12] l.length (fun g t2 t12 wr => ∃ (i : Nat) (v' : View) (vr' : Nat), i + g = l.length ∧ t2 = .map (some vr') ∧ t12 = .int .i64 (i : Int) ∧ R = blockC F res (l.drop i) v' ∧ ViewAt wr vr' v' ∧ Below w.heap.size w wr ∧ wr.heap[w.heap.size]? = some (.cells #[.int .i64 0, .int .i64 0] 58 (0, 0)))
  case atStart => exact ⟨0, v, vr, Nat.zero_add _, rfl, rfl, HR.out, HCT.out.view.below (up_alloc (Below.refl _ _) _), up_alloc (Below.refl _ _) _, HRES.out⟩
  case round =>
    obtain ⟨i, v', vr', hig, rfl, rfl, hR, hv, hb, hres⟩ := hrel
    have HRR := Lib.hid hR
    have HV := Lib.hid hv
    have HB := Lib.hid hb
    have HRW := Lib.hid hres
    clear hR hv hb hres
    by_cases hil : i < l.length
    · obtain ⟨hle2, hcm2⟩ := HCM.out
      unfold maxLen at hcm2
      have g1 : (i : Int) < (l.length : Int) := by omega
      have g3 : (0 : Int) ≤ (i : Int) := by omega
      obtain ⟨b, off, hs0, _, hbl, hcell⟩ := HROW.out (by omega)
      subst hs0
      have hrep := HIT.out i hil
      obtain ⟨op, text, s1, n1, c1, s2, n2, c2, s3, n3, c3, pos, hcs⟩ := st_form hrep
      rw [hcs] at hrep
      have hc6 : ∀ j, j < 6 → wr.cell? ⟨b, off + i * 6 + j, none⟩ = (cs i)[j]? := fun j hj => (HB.out.cell (p := ⟨b, _, none⟩) hbl).trans (hcell i hil j hj)
      rw [hcs] at hc6
      have x0 : wr.cell? ⟨b, off + i * 6, none⟩ = some (.int .i64 op) := hc6 0 (by decide)
      have x1 : wr.cell? ⟨b, off + i * 6 + 1, none⟩ = some (.string text) := hc6 1 (by decide)
      have x2 : wr.cell? ⟨b, off + i * 6 + 2, none⟩ = some (.slice s1 n1 c1) := hc6 2 (by decide)
      have x3 : wr.cell? ⟨b, off + i * 6 + 3, none⟩ = some (.slice s2 n2 c2) := hc6 3 (by decide)
      have x4 : wr.cell? ⟨b, off + i * 6 + 4, none⟩ = some (.slice s3 n3 c3) := hc6 4 (by decide)
      have x5 : wr.cell? ⟨b, off + i * 6 + 5, none⟩ = some (.int .i64 pos) := hc6 5 (by decide)
      have HMEM : Hid (l.getD i default ∈ l) := Lib.hid (by rw [List.getD_eq_getElem?_getD, List.getElem?_eq_getElem hil]; exact List.getElem_mem hil)
      have HREP := Lib.hid hrep
      replace HRR := Lib.hid (HRR.out.trans (HSTP.out i hil v'))
      have HCK := Lib.hid (fun W (hW : Below wr.heap.size wr W) => HLL.out _ HMEM.out v' vr' W op text s1 n1 c1 s2 n2 c2 s3 n3 c3 pos ⟨(HCT.out.below (HB.out.trans (hW.mono HB.out.size))).obj, HV.out.below hW⟩ (HREP.out.keep (Stays.of_below (HB.out.trans (hW.mono HB.out.size)))))
      clear hrep hc6 hcs hcell
      generalize stmtC F res (l.getD i default) v' = q at *
      obtain ⟨v2, fe, fa⟩ := q
      unfold fltV at HCK
      dsimp only at HCK HRR
      go_upto_region 5 with fail
      have hbA : Below wr.heap.size wr ((wr.alloc (.cells #[.int .i64 op, .string text, .slice s1 n1 c1, .slice s2 n2 c2, .slice s3 n3 c3, .int .i64 pos] 46)).alloc (.cells #[.int .i64 0, .int .i64 0] 58)) := up_alloc (up_alloc (Below.refl _ _) _) _
      have HCA : Hid (((wr.alloc (.cells #[.int .i64 op, .string text, .slice s1 n1 c1, .slice s2 n2 c2, .slice s3 n3 c3, .int .i64 pos] 46)).alloc (.cells #[.int .i64 0, .int .i64 0] 58)).heap[wr.heap.size]? = some (.cells #[.int .i64 op, .string text, .slice s1 n1 c1, .slice s2 n2 c2, .slice s3 n3 c3, .int .i64 pos] 46 (0, 0))) := Lib.hid (old_heap _ _ _ _ (new_heap _ _ _ rfl))
      have HFA : Hid (((wr.alloc (.cells #[.int .i64 op, .string text, .slice s1 n1 c1, .slice s2 n2 c2, .slice s3 n3 c3, .int .i64 pos] 46)).alloc (.cells #[.int .i64 0, .int .i64 0] 58)).heap[wr.heap.size + 1]? = some (.cells #[.int .i64 0, .int .i64 0] 58 (0, 0))) := Lib.hid (new_heap _ _ _ (size_alloc _ _))
      have HRA := Lib.hid ((hbA.block _ (lt_block HRW.out)).trans HRW.out)
      have HBA := Lib.hid (HB.out.trans (hbA.mono HB.out.size))
      have HCK2 := Lib.hid (HCK.out _ hbA)
      have HLT : Hid (w.heap.size < wr.heap.size + 1 ∧ ¬ w.heap.size = wr.heap.size + 1 ∧ ¬ wr.heap.size + 1 = w.heap.size ∧ w.heap.size ≤ wr.heap.size + 1) := Lib.hid (by have := lt_block HRW.out; exact ⟨by omega, by omega, by omega, by omega⟩)
      clear hbA HCK x0 x1 x2 x3 x4 x5
      generalize ((wr.alloc (.cells #[.int .i64 op, .string text, .slice s1 n1 c1, .slice s2 n2 c2, .slice s3 n3 c3, .int .i64 pos] 46)).alloc (.cells #[.int .i64 0, .int .i64 0] 58)) = w4 at *
      generalize wr.heap.size + 1 = FB at *
      generalize wr.heap.size = SB at *
      have e0 : w4.cell? ⟨SB, 0, none⟩ = some (.int .i64 op) := cell_of HCA.out (j := 0) rfl
      have e1 : w4.cell? ⟨SB, 1, none⟩ = some (.string text) := cell_of HCA.out (j := 1) rfl
      have e2 : w4.cell? ⟨SB, 2, none⟩ = some (.slice s1 n1 c1) := cell_of HCA.out (j := 2) rfl
      have e3 : w4.cell? ⟨SB, 3, none⟩ = some (.slice s2 n2 c2) := cell_of HCA.out (j := 3) rfl
      have e4 : w4.cell? ⟨SB, 4, none⟩ = some (.slice s3 n3 c3) := cell_of HCA.out (j := 4) rfl
      have e5 : w4.cell? ⟨SB, 5, none⟩ = some (.int .i64 pos) := cell_of HCA.out (j := 5) rfl
      go_wp2_with fail
      refine HCK2.out.mono ?_
      rintro e w5 ⟨vr2, rfl, hv2, hb5⟩
      clear e0 e1 e2 e3 e4 e5
      have HF5 := Lib.hid ((hb5.block _ (lt_block HFA.out)).trans HFA.out)
      have HR5 := Lib.hid ((hb5.block _ (lt_block HRA.out)).trans HRA.out)
      have HB5 := Lib.hid (HBA.out.trans (hb5.mono HBA.out.size))
      have HV5 := Lib.hid hv2
      clear hb5 hv2
      have f0 : w5.cell? ⟨FB, 0, none⟩ = some (.int .i64 0) := cell_of HF5.out (j := 0) rfl
      have f1 : w5.cell? ⟨FB, 1, none⟩ = some (.int .i64 0) := cell_of HF5.out (j := 1) rfl
      have k0 : w5.frozen? ⟨FB, 0, none⟩ = false := frozen_of HF5.out 0
      have k1 : w5.frozen? ⟨FB, 1, none⟩ = false := frozen_of HF5.out 1
      go_upto_region 6 with fail
      clear f0 f1 k0 k1
      have HF6 : Hid (((w5.setCell ⟨FB, 0, none⟩ (.int .i64 fe)).setCell ⟨FB, 1, none⟩ (.int .i64 fa)).heap[FB]? = some (.cells #[.int .i64 fe, .int .i64 fa] 58 (0, 0))) := Lib.hid (setCell_obj (setCell_obj HF5.out 0 _) 1 _)
      have HR6 : Hid (((w5.setCell ⟨FB, 0, none⟩ (.int .i64 fe)).setCell ⟨FB, 1, none⟩ (.int .i64 fa)).heap[w.heap.size]? = _) := Lib.hid ((setCell_heap _ _ _ _ HLT.out.2.1).trans ((setCell_heap _ _ _ _ HLT.out.2.1).trans HR5.out))
      have HB6 : Hid (Below w.heap.size w ((w5.setCell ⟨FB, 0, none⟩ (.int .i64 fe)).setCell ⟨FB, 1, none⟩ (.int .i64 fa))) := Lib.hid ((HB5.out.setCell (p := ⟨FB, 0, none⟩) HLT.out.2.2.2 _).setCell (p := ⟨FB, 1, none⟩) HLT.out.2.2.2 _)
      have HV6 : Hid (ViewAt ((w5.setCell ⟨FB, 0, none⟩ (.int .i64 fe)).setCell ⟨FB, 1, none⟩ (.int .i64 fa)) vr2 v2) := Lib.hid (view_set (view_set HV5.out HF5.out 0 _) (setCell_obj HF5.out 0 _) 1 _)
      generalize ((w5.setCell ⟨FB, 0, none⟩ (.int .i64 fe)).setCell ⟨FB, 1, none⟩ (.int .i64 fa)) = w6 at *
      have f0 : w6.cell? ⟨FB, 0, none⟩ = some (.int .i64 fe) := cell_of HF6.out (j := 0) rfl
      by_cases he : fe = 0
      · subst he
        go_wp2_with fail
        go_roundg (l.length - i - 1)
        case measure => omega
        case rel => exact ⟨i + 1, v2, vr2, by omega, rfl, rfl, HRR.out.trans (if_neg (by simp)), HV6.out, HB6.out, HR6.out⟩
      · have HE := Lib.hid (HRR.out.trans (if_pos he))
        have f1 : w6.cell? ⟨FB, 1, none⟩ = some (.int .i64 fa) := cell_of HF6.out (j := 1) rfl
        have r0 : w6.cell? ⟨w.heap.size, 0, none⟩ = some (.int .i64 0) := cell_of HR6.out (j := 0) rfl
        have r1 : w6.cell? ⟨w.heap.size, 1, none⟩ = some (.int .i64 0) := cell_of HR6.out (j := 1) rfl
        have k0 : w6.frozen? ⟨w.heap.size, 0, none⟩ = false := frozen_of HR6.out 0
        have k1 : w6.frozen? ⟨w.heap.size, 1, none⟩ = false := frozen_of HR6.out 1
        go_wp2_with fail
        refine bodyPost_ret (v := .agg #[.int .i64 fe, .int .i64 fa]) (by simp [results, Try.results24, go_sem, r0, r1]) rfl ⟨by rw [HE.out]; rfl, ?_⟩
        exact (HB6.out.setCell (p := ⟨w.heap.size, 0, none⟩) (Nat.le_refl _) _).setCell (p := ⟨w.heap.size, 1, none⟩) (Nat.le_refl _) _
    · obtain rfl : i = l.length := by omega
      have g1 : ¬ (l.length : Int) < (l.length : Int) := by omega
      have HE := Lib.hid (HRR.out.trans (HEN.out v'))
      have r0 : wr.cell? ⟨w.heap.size, 0, none⟩ = some (.int .i64 0) := cell_of HRW.out (j := 0) rfl
      have r1 : wr.cell? ⟨w.heap.size, 1, none⟩ = some (.int .i64 0) := cell_of HRW.out (j := 1) rfl
      have k0 : wr.frozen? ⟨w.heap.size, 0, none⟩ = false := frozen_of HRW.out 0
      have k1 : wr.frozen? ⟨w.heap.size, 1, none⟩ = false := frozen_of HRW.out 1
      go_wp2_with fail
      refine bodyPost_ret (v := .agg #[.int .i64 0, .int .i64 0]) (by simp [results, Try.results24, go_sem, r0, r1]) rfl ⟨by rw [HE.out]; rfl, ?_⟩
      exact (HB.out.setCell (p := ⟨w.heap.size, 0, none⟩) (Nat.le_refl _) _).setCell (p := ⟨w.heap.size, 1, none⟩) (Nat.le_refl _) _
end Go.Proofs.Ytpiamiaigjlafaa
