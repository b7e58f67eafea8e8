/-
  Compile: part 31 of its proof: see the last text.
-/
import Derived.Test.YtjblihabklemfaaGreatDoorPm30
set_option maxRecDepth 100000
set_option maxHeartbeats 16000000
namespace Go.Proofs.YtjblihabklemfaaGreatDoor
section
open Go.RowKit
def FnTells (w : World) (u : Value) (f : Flt) : Prop := ∃ k caps, u = .func (.func k) #[] caps ∧ (∀ args w, (callFunc k args).run Tryz.prog w = .ok (.enter k args) w) ∧ ∀ W, Below w.heap.size w W → Calls Tryz.prog k caps W fun e w' => e = .returned (bz f) ∧ Below W.heap.size W w'
theorem FnTells.below {w w' : World} {u : Value} {f : Flt} (h : FnTells w u f) (hb : Below w.heap.size w w') : FnTells w' u f := by
 obtain ⟨k, caps, e, he, hc⟩ := h
 exact ⟨k, caps, e, he, fun W hW => hc W (hb.trans (hW.mono hb.size))⟩
def aO : List Flt → Flt
 | [] => okF
 | f :: l => orF f (aO l)
def o9 (w : World) (u : Value) (fs : List Flt) : Prop := ∃ b off cap, u = .slice (some ⟨b, off, none⟩) fs.length cap ∧ b < w.heap.size ∧ fs.length ≤ 1000 ∧ ∀ i, i < fs.length → ∃ x, w.cell? ⟨b, off + i, none⟩ = some x ∧ FnTells w x (fs.getD i okF)
theorem mO (fs : List Flt) (i : Nat) (hi : i < fs.length) : aO (fs.drop i) = orF (fs.getD i okF) (aO (fs.drop (i + 1))) := by
 rw [List.drop_eq_getElem_cons hi, aO, List.getD_eq_getElem?_getD, List.getElem?_eq_getElem hi]
 rfl
theorem dP (fs : List Flt) (u : Value) (w : World) (h : o9 w u fs) : Calls Tryz.prog 49 #[u] w fun e w' => e = .returned (bz (aO fs)) ∧ Below w.heap.size w w' := by
 obtain ⟨b, off, cap, rfl, hb, hlen, hrow⟩ := h
 have HROW := zh hrow
 have HBL := zh hb
 generalize hR : aO fs = R
 have HR := zh (show R = aO (fs.drop 0) from hR.symm)
 have HST := zh (mO fs)
 clear hrow hb hR
 have HRES := zh (ah w (.cells #[.int .i64 0, .int .i64 0] 96) w.heap.size rfl)
 go_enter Tryz.func49, Tryz.ntmps49
 go_wp2_with fail
 go_loopg [8] fs.length (fun g s8 wr => ∃ i : Nat, i + g = fs.length ∧ s8 = .int .i64 (i : Int) ∧ R = aO (fs.drop i) ∧ Below w.heap.size w wr ∧ wr.heap[w.heap.size]? = some (.cells #[.int .i64 0, .int .i64 0] 96 (0, 0)))
 case atStart => exact ⟨0, Nat.zero_add _, rfl, HR.out, ae (Below.refl _ _) _, HRES.out⟩
 case round =>
  obtain ⟨i, hig, rfl, hR, hb, hres⟩ := hrel
  have HRR := zh hR
  have HB := zh hb
  have HRW := zh hres
  clear hR hb hres
  by_cases hil : i < fs.length
  ·have g1 : (i : Int) < (fs.length : Int) := by omega
   have g3 : (0 : Int) ≤ (i : Int) := by omega
   obtain ⟨x, hx, k, caps, hxe, ek, hcall⟩ := HROW.out i hil
   subst hxe
   have x0 : wr.cell? ⟨b, off + i, none⟩ = some (.func (.func k) #[] caps) := (HB.out.cell (p := ⟨b, _, none⟩) HBL.out).trans hx
   have HCALL := zh (hcall wr HB.out)
   clear hx hcall
   replace HRR := zh (HRR.out.trans (HST.out i hil))
   generalize fs.getD i okF = q at *
   obtain ⟨fe, fa⟩ := q
   go_wp2_with (go_at_fn k; refine HCALL.out.mono ?_; rintro e w1 ⟨rfl, hb1⟩; unfold bz; dsimp only; have HB1 := zh (HB.out.trans (hb1.mono HB.out.size)); have HR1 := zh ((hb1.block _ (ad HRW.out)).trans HRW.out); clear hb1 x0; have hlt1 : w.heap.size < w1.heap.size := ad HR1.out; have hne1 : ¬ w1.heap.size = w.heap.size := Nat.ne_of_gt (ad HR1.out); have r0 : w1.cell? ⟨w.heap.size, 0, none⟩ = some (.int .i64 0) := aa HR1.out (j := 0) rfl; have r1 : w1.cell? ⟨w.heap.size, 1, none⟩ = some (.int .i64 0) := aa HR1.out (j := 1) rfl; have k0 : w1.frozen? ⟨w.heap.size, 0, none⟩ = false := ab HR1.out 0; have k1 : w1.frozen? ⟨w.heap.size, 1, none⟩ = false := ab HR1.out 1; by_cases he : fe = 0)
   ·go_roundg (fs.length - i - 1)
    case measure => omega
    case rel => exact ⟨i + 1, by omega, rfl, HRR.out.trans (if_neg (by simp [he])), ae HB1.out _, au _ _ _ _ HR1.out⟩
   ·have HE := zh (HRR.out.trans (if_pos he))
    have y0 : (((w1.setCell ⟨w.heap.size, 0, none⟩ (.int .i64 fe)).setCell ⟨w.heap.size, 1, none⟩ (.int .i64 fa)).alloc (.cells #[.int .i64 fe, .int .i64 fa] 96)).cell? ⟨w.heap.size, 0, none⟩ = some (.int .i64 fe) := aj _ ((aR _ _ (.inr (by omega))).trans (dh _ r0))
    have y1 : (((w1.setCell ⟨w.heap.size, 0, none⟩ (.int .i64 fe)).setCell ⟨w.heap.size, 1, none⟩ (.int .i64 fa)).alloc (.cells #[.int .i64 fe, .int .i64 fa] 96)).cell? ⟨w.heap.size, 1, none⟩ = some (.int .i64 fa) := aj _ (dh _ ((aR _ _ (.inr (by omega))).trans r1))
    refine bodyPost_ret (v := .agg #[.int .i64 fe, .int .i64 fa]) (by simp [results, Tryz.results49, go_sem, y0, y1]) rfl ⟨by rw [HE.out]; rfl, ?_⟩
    exact ae ((HB1.out.setCell (p := ⟨w.heap.size, 0, none⟩) (Nat.le_refl _) _).setCell (p := ⟨w.heap.size, 1, none⟩) (Nat.le_refl _) _) _
  ·obtain rfl : i = fs.length := by omega
   have g1 : ¬ (fs.length : Int) < (fs.length : Int) := by omega
   have HE := zh (HRR.out.trans (by rw [List.drop_length]; rfl : aO (fs.drop fs.length) = okF))
   obtain ⟨r0, r1, -⟩ := css HRW.out
   obtain ⟨k0, k1, -⟩ := fzs HRW.out
   go_wp2_with fail
   refine bodyPost_ret (v := .agg #[.int .i64 0, .int .i64 0]) (by simp [results, Tryz.results49, go_sem, r0, r1]) rfl ⟨by rw [HE.out]; rfl, ?_⟩
   exact (HB.out.setCell (p := ⟨w.heap.size, 0, none⟩) (Nat.le_refl _) _).setCell (p := ⟨w.heap.size, 1, none⟩) (Nat.le_refl _) _
end
section
open Go.RowKit
theorem gR {S : Nat → Prop} {w : World} {cs : List Value} {s : St} (h : RepSt S w cs s) : ∃ op text s1 n1 c1 s2 n2 c2 s3 n3 c3 pos, cs = [.int .i64 op, .string text, .slice s1 n1 c1, .slice s2 n2 c2, .slice s3 n3 c3, .int .i64 pos] := by
 obtain ⟨op, text, es, body, els, pos⟩ := s
 obtain ⟨ve, vb, vl, rfl, ⟨_, ⟨s1, c1, rfl, _⟩, _⟩, ⟨_, ⟨s2, c2, rfl, _⟩, _⟩, ⟨_, ⟨s3, c3, rfl, _⟩, _⟩⟩ := h.parts
 exact ⟨_, _, _, _, _, _, _, _, _, _, _, _, rfl⟩
def kL (cb : Nat) (F : aQ) (res : Int) (s : St) : Prop := ∀ (v : aV) (vr : Nat) (w : World) (op : Int) (text : ByteArray) (s1 : Option Addr) (n1 c1 : Nat) (s2 : Option Addr) (n2 c2 : Nat) (s3 : Option Addr) (n3 c3 : Nat) (pos : Int), CtxAt w cb F res vr v → RepSt Any w [.int .i64 op, .string text, .slice s1 n1 c1, .slice s2 n2 c2, .slice s3 n3 c3, .int .i64 pos] s →
 Calls Tryz.prog 85 #[.pointer (some ⟨cb, 0, none⟩), .agg #[.int .i64 op, .string text, .slice s1 n1 c1, .slice s2 n2 c2, .slice s3 n3 c3, .int .i64 pos], .map (some vr)] w fun e w' => ∃ vr', e = .returned (.tuple #[.map (some vr'), bz (bR F res s v).2]) ∧ ViewAt w' vr' (bR F res s v).1 ∧ Below w.heap.size w w'
theorem gm {w : World} {r k : Nat} {v : aV} {arr : Array Value} {t : TypeId} {fz : Nat × Nat} (h : ViewAt w r v) (hk : w.heap[k]? = some (.cells arr t fz)) (j : Nat) (u : Value) : ViewAt (w.setCell ⟨k, j, none⟩ u) r v := by
 refine MapAt.keep h (af _ _ _ _ (fun e => ?_))
 obtain ⟨es, c, h1, _⟩ := h
 rw [show r = k from e, hk] at h1
 injection h1 with h1
 cases h1
theorem kq (F : aQ) (res : Int) (l : List St) (i : Nat) (hi : i < l.length) (v : aV) : be F res (l.drop i) v = if (bR F res (l.getD i default) v).2.1 ≠ 0 then (bR F res (l.getD i default) v).2 else be F res (l.drop (i + 1)) (bR F res (l.getD i default) v).1 := by
 have e1 : l.getD i default = l[i] := by rw [List.getD_eq_getElem?_getD, List.getElem?_eq_getElem hi]; rfl
 rw [List.drop_eq_getElem_cons hi, be, e1]
theorem kN (F : aQ) (res : Int) (l : List St) (v : aV) : be F res (l.drop l.length) v = okF := by
 rw [List.drop_length, be]
theorem hU (cb : Nat) (F : aQ) (res : Int) (l : List St) (hl : ∀ x, x ∈ l → kL cb F res x) (v : aV) (vr : Nat) (w : World) (u : Value) (h : CtxAt w cb F res vr v) (hr : RepSts Any w u l) :
    Calls Tryz.prog 51 #[.pointer (some ⟨cb, 0, none⟩), u, .map (some vr)] w fun e w' => e = .returned (bz (be F res l v)) ∧ Below w.heap.size w w' := by
 obtain ⟨cs, ⟨s0, cap, rfl, hle, hcm, _, hrow, hsz⟩, hit⟩ := hr
 have HCT := zh h
 have HLL := zh hl
 have HROW := zh hrow
 have HIT := zh hit
 have HCM := zh (And.intro hle hcm)
 generalize hR : be F res l v = R
 have HR := zh (show R = be F res (l.drop 0) v from hR.symm)
 clear h hl hrow hit hsz hle hcm hR
 have HSTP := zh (kq F res l)
 have HEN := zh (kN F res l)
 have HRES := zh (ah w (.cells #[.int .i64 0, .int .i64 0] 96) w.heap.size rfl)
 go_enter Tryz.func51, Tryz.ntmps51
 go_wp2_with fail
 go_loopg [2, 12] l.length (fun g t2 t12 wr => ∃ (i : Nat) (v' : aV) (vr' : Nat), i + g = l.length ∧ t2 = .map (some vr') ∧ t12 = .int .i64 (i : Int) ∧ R = be F res (l.drop i) v' ∧ ViewAt wr vr' v' ∧ Below w.heap.size w wr ∧ wr.heap[w.heap.size]? = some (.cells #[.int .i64 0, .int .i64 0] 96 (0, 0)))
 case atStart => exact ⟨0, v, vr, Nat.zero_add _, rfl, rfl, HR.out, HCT.out.view.below (ae (Below.refl _ _) _), ae (Below.refl _ _) _, HRES.out⟩
 case round =>
  obtain ⟨i, v', vr', hig, rfl, rfl, hR, hv, hb, hres⟩ := hrel
  have HRR := zh hR
  have HV := zh hv
  have HB := zh hb
  have HRW := zh hres
  clear hR hv hb hres
  by_cases hil : i < l.length
  ·obtain ⟨hle2, hcm2⟩ := HCM.out
   unfold maxLen at hcm2
   have g1 : (i : Int) < (l.length : Int) := by omega
   have g3 : (0 : Int) ≤ (i : Int) := by omega
   obtain ⟨b, off, hs0, _, hbl, hcell⟩ := HROW.out (by omega)
   subst hs0
   have hrep := HIT.out i hil
   obtain ⟨op, text, s1, n1, c1, s2, n2, c2, s3, n3, c3, pos, hcs⟩ := gR hrep
   rw [hcs] at hrep
   have hc6 : ∀ j, j < 6 → wr.cell? ⟨b, off + i * 6 + j, none⟩ = (cs i)[j]? := fun j hj => (HB.out.cell (p := ⟨b, _, none⟩) hbl).trans (hcell i hil j hj)
   rw [hcs] at hc6
   have x0 : wr.cell? ⟨b, off + i * 6, none⟩ = some (.int .i64 op) := hc6 0 (by decide)
   have x1 : wr.cell? ⟨b, off + i * 6 + 1, none⟩ = some (.string text) := hc6 1 (by decide)
   have x2 : wr.cell? ⟨b, off + i * 6 + 2, none⟩ = some (.slice s1 n1 c1) := hc6 2 (by decide)
   have x3 : wr.cell? ⟨b, off + i * 6 + 3, none⟩ = some (.slice s2 n2 c2) := hc6 3 (by decide)
   have x4 : wr.cell? ⟨b, off + i * 6 + 4, none⟩ = some (.slice s3 n3 c3) := hc6 4 (by decide)
   have x5 : wr.cell? ⟨b, off + i * 6 + 5, none⟩ = some (.int .i64 pos) := hc6 5 (by decide)
   have HMEM : Hid (l.getD i default ∈ l) := zh (by rw [List.getD_eq_getElem?_getD, List.getElem?_eq_getElem hil]; exact List.getElem_mem hil)
   have HREP := zh hrep
   replace HRR := zh (HRR.out.trans (HSTP.out i hil v'))
   have HCK := zh (fun W (hW : Below wr.heap.size wr W) => HLL.out _ HMEM.out v' vr' W op text s1 n1 c1 s2 n2 c2 s3 n3 c3 pos ⟨(HCT.out.below (HB.out.trans (hW.mono HB.out.size))).obj, HV.out.below hW⟩ (HREP.out.keep (Stays.of_below (HB.out.trans (hW.mono HB.out.size)))))
   clear hrep hc6 hcs hcell
   generalize bR F res (l.getD i default) v' = q at *
   obtain ⟨v2, fe, fa⟩ := q
   unfold bz at HCK
   dsimp only at HCK HRR
   go_upto_region 5 with fail
   have hbA : Below wr.heap.size wr ((wr.alloc (.cells #[.int .i64 op, .string text, .slice s1 n1 c1, .slice s2 n2 c2, .slice s3 n3 c3, .int .i64 pos] 62)).alloc (.cells #[.int .i64 0, .int .i64 0] 96)) := ae (ae (Below.refl _ _) _) _
   have HCA : Hid (((wr.alloc (.cells #[.int .i64 op, .string text, .slice s1 n1 c1, .slice s2 n2 c2, .slice s3 n3 c3, .int .i64 pos] 62)).alloc (.cells #[.int .i64 0, .int .i64 0] 96)).heap[wr.heap.size]? = some (.cells #[.int .i64 op, .string text, .slice s1 n1 c1, .slice s2 n2 c2, .slice s3 n3 c3, .int .i64 pos] 62 (0, 0))) := zh (au _ _ _ _ (ah _ _ _ rfl))
   have HFA : Hid (((wr.alloc (.cells #[.int .i64 op, .string text, .slice s1 n1 c1, .slice s2 n2 c2, .slice s3 n3 c3, .int .i64 pos] 62)).alloc (.cells #[.int .i64 0, .int .i64 0] 96)).heap[wr.heap.size + 1]? = some (.cells #[.int .i64 0, .int .i64 0] 96 (0, 0))) := zh (ah _ _ _ (ag _ _))
   have HRA := zh ((hbA.block _ (ad HRW.out)).trans HRW.out)
   have HBA := zh (HB.out.trans (hbA.mono HB.out.size))
   have HCK2 := zh (HCK.out _ hbA)
   have HLT : Hid (w.heap.size < wr.heap.size + 1 ∧ ¬ w.heap.size = wr.heap.size + 1 ∧ ¬ wr.heap.size + 1 = w.heap.size ∧ w.heap.size ≤ wr.heap.size + 1) := zh (by have := ad HRW.out; exact ⟨by omega, by omega, by omega, by omega⟩)
   clear hbA HCK x0 x1 x2 x3 x4 x5
   generalize ((wr.alloc (.cells #[.int .i64 op, .string text, .slice s1 n1 c1, .slice s2 n2 c2, .slice s3 n3 c3, .int .i64 pos] 62)).alloc (.cells #[.int .i64 0, .int .i64 0] 96)) = w4 at *
   generalize wr.heap.size + 1 = FB at *
   generalize wr.heap.size = SB at *
   obtain ⟨e0, e1, e2, e3, e4, e5, -⟩ := css HCA.out
   go_wp2_with fail
   refine HCK2.out.mono ?_
   rintro e w5 ⟨vr2, rfl, hv2, hb5⟩
   clear e0 e1 e2 e3 e4 e5
   have HF5 := zh ((hb5.block _ (ad HFA.out)).trans HFA.out)
   have HR5 := zh ((hb5.block _ (ad HRA.out)).trans HRA.out)
   have HB5 := zh (HBA.out.trans (hb5.mono HBA.out.size))
   have HV5 := zh hv2
   clear hb5 hv2
   obtain ⟨f0, f1, -⟩ := css HF5.out
   obtain ⟨k0, k1, -⟩ := fzs HF5.out
   go_upto_region 6 with fail
   clear f0 f1 k0 k1
   have HF6 : Hid (((w5.setCell ⟨FB, 0, none⟩ (.int .i64 fe)).setCell ⟨FB, 1, none⟩ (.int .i64 fa)).heap[FB]? = some (.cells #[.int .i64 fe, .int .i64 fa] 96 (0, 0))) := zh (ai (ai HF5.out 0 _) 1 _)
   have HR6 : Hid (((w5.setCell ⟨FB, 0, none⟩ (.int .i64 fe)).setCell ⟨FB, 1, none⟩ (.int .i64 fa)).heap[w.heap.size]? = _) := zh ((af _ _ _ _ HLT.out.2.1).trans ((af _ _ _ _ HLT.out.2.1).trans HR5.out))
   have HB6 : Hid (Below w.heap.size w ((w5.setCell ⟨FB, 0, none⟩ (.int .i64 fe)).setCell ⟨FB, 1, none⟩ (.int .i64 fa))) := zh ((HB5.out.setCell (p := ⟨FB, 0, none⟩) HLT.out.2.2.2 _).setCell (p := ⟨FB, 1, none⟩) HLT.out.2.2.2 _)
   have HV6 : Hid (ViewAt ((w5.setCell ⟨FB, 0, none⟩ (.int .i64 fe)).setCell ⟨FB, 1, none⟩ (.int .i64 fa)) vr2 v2) := zh (gm (gm HV5.out HF5.out 0 _) (ai HF5.out 0 _) 1 _)
   generalize ((w5.setCell ⟨FB, 0, none⟩ (.int .i64 fe)).setCell ⟨FB, 1, none⟩ (.int .i64 fa)) = w6 at *
   have f0 : w6.cell? ⟨FB, 0, none⟩ = some (.int .i64 fe) := aa HF6.out (j := 0) rfl
   by_cases he : fe = 0
   ·subst he
    go_wp2_with fail
    go_roundg (l.length - i - 1)
    case measure => omega
    case rel => exact ⟨i + 1, v2, vr2, by omega, rfl, rfl, HRR.out.trans (if_neg (by simp)), HV6.out, HB6.out, HR6.out⟩
   ·have HE := zh (HRR.out.trans (if_pos he))
    have f1 : w6.cell? ⟨FB, 1, none⟩ = some (.int .i64 fa) := aa HF6.out (j := 1) rfl
    obtain ⟨r0, r1, -⟩ := css HR6.out
    obtain ⟨k0, k1, -⟩ := fzs HR6.out
    go_wp2_with fail
    refine bodyPost_ret (v := .agg #[.int .i64 fe, .int .i64 fa]) (by simp [results, Tryz.results51, go_sem, r0, r1]) rfl ⟨by rw [HE.out]; rfl, ?_⟩
    exact (HB6.out.setCell (p := ⟨w.heap.size, 0, none⟩) (Nat.le_refl _) _).setCell (p := ⟨w.heap.size, 1, none⟩) (Nat.le_refl _) _
  ·obtain rfl : i = l.length := by omega
   have g1 : ¬ (l.length : Int) < (l.length : Int) := by omega
   have HE := zh (HRR.out.trans (HEN.out v'))
   obtain ⟨r0, r1, -⟩ := css HRW.out
   obtain ⟨k0, k1, -⟩ := fzs HRW.out
   go_wp2_with fail
   refine bodyPost_ret (v := .agg #[.int .i64 0, .int .i64 0]) (by simp [results, Tryz.results51, go_sem, r0, r1]) rfl ⟨by rw [HE.out]; rfl, ?_⟩
   exact (HB.out.setCell (p := ⟨w.heap.size, 0, none⟩) (Nat.le_refl _) _).setCell (p := ⟨w.heap.size, 1, none⟩) (Nat.le_refl _) _
end
end Go.Proofs.YtjblihabklemfaaGreatDoor
