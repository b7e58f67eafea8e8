/-
  Compile: part 29 of its proof: see the last text.
-/
import Derived.Test.YtjblihabklemfaaGreatDoorPm28
import Derived.Test.YtjblihabklemfaaGreatDoorPm06
set_option maxRecDepth 100000
set_option maxHeartbeats 16000000
namespace Go.Proofs.YtjblihabklemfaaGreatDoor
section
open Go.RowKit
def fg (F : aQ) (v : aV) (text : ByteArray) (ks : List Ex) (pos : Int) : Int × Flt :=
 if (b8 text.toList).1 ≠ 0 then ((b8 text.toList).2, bV F v ks [(b8 text.toList).1, (b8 text.toList).1])
 else if text.toList ≠ [43] ∧ text.toList ≠ [61, 61] ∧ text.toList ≠ [33, 61] then (0, (51, pos))
 else
  let r := cH F v (text.toList == [43]) ks
  if r.1.1 ≠ 0 then (0, r.1)
  else (if text.toList = [43] then r.2.getD 0 0 else 2, noC (r.2.getD 0 0 == r.2.getD 1 0) 51 pos)
def di (F : aQ) (v : aV) (plus : Bool) (ks : List Ex) (pos : Int) : Int × Flt :=
 if (cH F v plus ks).1.1 ≠ 0 then (0, (cH F v plus ks).1)
 else (if plus then (cH F v plus ks).2.getD 0 0 else 2, noC ((cH F v plus ks).2.getD 0 0 == (cH F v plus ks).2.getD 1 0) 51 pos)
theorem pB (F : aQ) (v : aV) (text : ByteArray) (ks : List Ex) (pos made : Int) (hs : b8 text.toList = (0, made)) (hp : text.toList = [43]) : fg F v text ks pos = di F v true ks pos := by
 unfold fg di
 rw [hs, hp]
 rfl
theorem ro (F : aQ) (v : aV) (text : ByteArray) (ks : List Ex) (pos made : Int) (hs : b8 text.toList = (0, made)) (hp : text.toList = [61, 61]) : fg F v text ks pos = di F v false ks pos := by
 unfold fg di
 rw [hs, hp]
 rfl
theorem rQ (F : aQ) (v : aV) (text : ByteArray) (ks : List Ex) (pos made : Int) (hs : b8 text.toList = (0, made)) (hp : text.toList = [33, 61]) : fg F v text ks pos = di F v false ks pos := by
 unfold fg di
 rw [hs, hp]
 rfl
theorem pQ (F : aQ) (v : aV) (text : ByteArray) (ks : List Ex) (pos made : Int) (hs : b8 text.toList = (0, made)) (h1 : ¬ text.toList = [43]) (h2 : ¬ text.toList = [61, 61]) (h3 : ¬ text.toList = [33, 61]) : fg F v text ks pos = (0, (51, pos)) := by
 unfold fg
 rw [hs]
 exact (if_neg (by simp)).trans (if_pos ⟨h1, h2, h3⟩)
def bQ (plus : Bool) (q : Int × Flt) (at' : Int) : Flt := if q.2.1 = 0 then noC (q.1 != 0 && !(plus && q.1 == 2)) 51 at' else q.2
def cx (F : aQ) (v : aV) (plus : Bool) (ks : List Ex) (i : Nat) (pre : List Int) : Prop := pre.length = i ∧ cH F v plus ks = ((cH F v plus (ks.drop i)).1, pre ++ (cH F v plus (ks.drop i)).2)
theorem fS (F : aQ) (v : aV) (plus : Bool) (ks : List Ex) : cx F v plus ks 0 [] := ⟨rfl, rfl⟩
theorem i8 (F : aQ) (v : aV) (plus : Bool) (ks : List Ex) (i : Nat) (hi : i < ks.length) : cH F v plus (ks.drop i) = if (bQ plus (aG F v (ks.getD i default)) (ks.getD i default).pos).1 ≠ 0 then (bQ plus (aG F v (ks.getD i default)) (ks.getD i default).pos, []) else ((cH F v plus (ks.drop (i + 1))).1, (aG F v (ks.getD i default)).1 :: (cH F v plus (ks.drop (i + 1))).2) := by
 have e1 : ks.getD i default = ks[i] := by rw [List.getD_eq_getElem?_getD, List.getElem?_eq_getElem hi]; rfl
 rw [List.drop_eq_getElem_cons hi, cH, e1]
 rfl
theorem ij (F : aQ) (v : aV) (plus : Bool) (ks : List Ex) (pos : Int) (i : Nat) (pre : List Int) (fe fa : Int) (h : cx F v plus ks i pre) (hi : i < ks.length) (hf : bQ plus (aG F v (ks.getD i default)) (ks.getD i default).pos = (fe, fa)) (hb : ¬ fe = 0) : di F v plus ks pos = (0, (fe, fa)) := by
 unfold di
 rw [h.2, i8 F v plus ks i hi, hf, if_pos hb]
 exact if_pos hb
theorem jF (F : aQ) (v : aV) (plus : Bool) (ks : List Ex) (i : Nat) (pre : List Int) (fa : Int) (h : cx F v plus ks i pre) (hi : i < ks.length) (hf : bQ plus (aG F v (ks.getD i default)) (ks.getD i default).pos = (0, fa)) : cx F v plus ks (i + 1) (pre ++ [(aG F v (ks.getD i default)).1]) := by
 refine ⟨by rw [List.length_append, h.1]; rfl, ?_⟩
 rw [h.2, i8 F v plus ks i hi, hf, if_neg (by simp), List.append_assoc]
 rfl
theorem ii (F : aQ) (v : aV) (plus : Bool) (ks : List Ex) (pos : Int) (pre : List Int) (h : cx F v plus ks ks.length pre) : di F v plus ks pos = (if plus then pre.getD 0 0 else 2, noC (pre.getD 0 0 == pre.getD 1 0) 51 pos) := by
 unfold di
 rw [h.2, List.drop_length, cH]
 simp [okF]
theorem fG {pre : List Int} {x y : Int} (hl : pre.length = 0) (_ : x = pre.getD 0 0) (hy : y = pre.getD 1 0) (t : Int) : t = (pre ++ [t]).getD 0 0 ∧ y = (pre ++ [t]).getD 1 0 := by
 obtain rfl : pre = [] := List.eq_nil_of_length_eq_zero hl
 exact ⟨by simp, by rw [hy]; simp⟩
theorem fH {pre : List Int} {x y : Int} (hl : pre.length = 1) (hx : x = pre.getD 0 0) (_ : y = pre.getD 1 0) (t : Int) : x = (pre ++ [t]).getD 0 0 ∧ t = (pre ++ [t]).getD 1 0 := by
 match pre, hl with
 | [p0], _ => exact ⟨by rw [hx]; simp, by simp⟩
theorem xle {a b X : Nat} (h : a = X) (hb : a ≤ b) : X ≤ b := by rw [← h]; exact hb
theorem rC (cb : Nat) (F : aQ) (res : Int) (a b : Ex) (ha : gG cb F res a) (hb : gG cb F res b) (v : aV) (vr : Nat) (w : World) (op num pos : Int) (text : ByteArray) (s : Option Addr) (n c : Nat) (h : CtxAt w cb F res vr v) (hr : RepEx Any w [.int .i64 op, .int .i64 num, .string text, .slice s n c, .int .i64 pos] (.mk op num text [a, b] pos)) :
    Calls Tryz.prog 129 #[.pointer (some ⟨cb, 0, none⟩), .agg #[.int .i64 op, .int .i64 num, .string text, .slice s n c, .int .i64 pos], .map (some vr)] w fun e w' => e = .returned (.tuple #[.int .i64 (fg F v text [a, b] pos).1, bz (fg F v text [a, b] pos).2]) ∧ Below w.heap.size w w' := by
 obtain ⟨ks', e, hn, hks⟩ := bL hr
 injection e with _ _ _ e _
 subst e
 obtain rfl : n = 2 := hn
 have HCT := zh h
 have HXA := zh ha
 have HXB := zh hb
 have HKS := zh hks
 have HLT0 := zh (show cb < w.heap.size from by obtain ⟨_, q, _⟩ := h.obj; exact ad q)
 generalize hC : fg F v text [a, b] pos = C
 have HC := zh hC.symm
 have HB : Hid (Below w.heap.size w ((w.alloc (.cells #[.int .i64 op, .int .i64 num, .string text, .slice s 2 c, .int .i64 pos] 65)).alloc (.cells #[.int .i64 0, .int .i64 0] 96))) := zh (ae (ae (Below.refl _ _) _) _)
 have HX : Hid (((w.alloc (.cells #[.int .i64 op, .int .i64 num, .string text, .slice s 2 c, .int .i64 pos] 65)).alloc (.cells #[.int .i64 0, .int .i64 0] 96)).heap[w.heap.size]? = some (.cells #[.int .i64 op, .int .i64 num, .string text, .slice s 2 c, .int .i64 pos] 65 (0, 0))) := zh (au _ _ _ _ (ah _ _ _ rfl))
 have HR : Hid (((w.alloc (.cells #[.int .i64 op, .int .i64 num, .string text, .slice s 2 c, .int .i64 pos] 65)).alloc (.cells #[.int .i64 0, .int .i64 0] 96)).heap[w.heap.size + 1]? = some (.cells #[.int .i64 0, .int .i64 0] 96 (0, 0))) := zh (ah _ _ _ (ag _ _))
 clear h hr ha hb hks hC
 go_enter Tryz.func129, Tryz.ntmps129
 go_upto_region 1 with fail
 generalize ((w.alloc (.cells #[.int .i64 op, .int .i64 num, .string text, .slice s 2 c, .int .i64 pos] 65)).alloc (.cells #[.int .i64 0, .int .i64 0] 96)) = w1 at *
 have HXR : Hid (w.heap.size < w.heap.size + 1 ∧ w.heap.size + 1 < w1.heap.size ∧ cb < w.heap.size) := zh ⟨Nat.lt_succ_self _, ad HR.out, HLT0.out⟩
 generalize hRB : w.heap.size + 1 = RB at *
 generalize hX : w.heap.size = X at *
 replace HXR : Hid (w.heap.size = X ∧ X < RB ∧ RB < w1.heap.size ∧ cb < X) := zh ⟨hX, HXR.out.1, HXR.out.2.1, HXR.out.2.2⟩
 clear hRB hX HLT0
 have hne : ¬ RB = X := by have := HXR.out; omega
 have hne2 : ¬ X = RB := by have := HXR.out; omega
 have x2 : w1.cell? ⟨X, 2, none⟩ = some (.string text) := aa HX.out (j := 2) rfl
 go_wp2_with fail
 refine (mD text _).mono ?_
 rintro e w2 ⟨rfl, rfl⟩
 clear x2
 generalize hsg : b8 text.toList = sg at *
 obtain ⟨side, made⟩ := sg
 dsimp only
 by_cases hside : side = 0
 ·subst hside
  by_cases hp : text.toList = [43]
  ·have hTW : fg F v text [a, b] pos = _ := pB F v text [a, b] pos made hsg hp
   have hpl : (text.toList == [43]) = true := by simp [hp]
   have HTW : Hid (C = di F v true [a, b] pos) := zh (HC.out.trans hTW)
   clear hTW HC
   obtain ⟨-, -, x2, x3, -⟩ := css HX.out
   go_upto_region 8 with fail
   have hbA := ae (Below.refl w1.heap.size w1) (.cells #[.int .i64 0, .int .i64 0] 177)
   have HSB : Hid ((w1.alloc (.cells #[.int .i64 0, .int .i64 0] 177)).heap[w1.heap.size]? = some (.cells #[.int .i64 0, .int .i64 0] 177 (0, 0))) := zh (ah _ _ _ rfl)
   have HSL : Hid (RB < w1.heap.size) := zh HXR.out.2.2.1
   clear x3 x2
   replace HX := zh ((hbA.block _ (ad HX.out)).trans HX.out)
   replace HR := zh ((hbA.block _ (ad HR.out)).trans HR.out)
   replace HB := zh (HB.out.trans (hbA.mono (xle HXR.out.1 HB.out.size)))
   clear hbA
   generalize w1.alloc (.cells #[.int .i64 0, .int .i64 0] 177) = w3 at *
   generalize w1.heap.size = SB at *
   have x3 : w3.cell? ⟨X, 3, none⟩ = some (.slice s 2 c) := aa HX.out (j := 3) rfl
   obtain ⟨cs, ⟨s0, cap, e, hle, hcm, _, hrow, hsz⟩, hit⟩ := HKS.out
   injection e with e1 e2 e3
   subst e1 e3
   have HROW := zh hrow
   have HIT := zh hit
   clear hrow hit hsz hle hcm e2
   go_wp2_with fail
   have HLL : Hid (∀ x, x ∈ [a, b] → gG cb F res x) := zh (fun x hx => by simp at hx; rcases hx with rfl | rfl; exact HXA.out; exact HXB.out)
   clear HXA HXB
   have HSB3 : Hid (X < w3.heap.size ∧ RB < w3.heap.size ∧ SB < w3.heap.size ∧ ¬ SB = X ∧ ¬ SB = RB ∧ X < SB) := zh (by have h1 := ad HX.out; have h2 := ad HR.out; have h3 := ad HSB.out; have h4 := HSL.out; have h5 := HXR.out; exact ⟨h1, h2, h3, by omega, by omega, by omega⟩)
   clear HSL x3
   go_loopg [55] 2 (fun q s55 wr => ∃ (i : Nat) (pre : List Int) (x y : Int), i + q = 2 ∧ s55 = .int .i64 (i : Int) ∧ cx F v true [a, b] i pre ∧ x = pre.getD 0 0 ∧ y = pre.getD 1 0 ∧ Below X w wr ∧ w3.heap.size ≤ wr.heap.size ∧ wr.heap[X]? = some (.cells #[.int .i64 op, .int .i64 num, .string text, .slice s 2 c, .int .i64 pos] 65 (0, 0)) ∧ wr.heap[RB]? = some (.cells #[.int .i64 0, .int .i64 0] 96 (0, 0)) ∧ wr.heap[SB]? = some (.cells #[.int .i64 x, .int .i64 y] 177 (0, 0)))
   case atStart => exact ⟨0, [], 0, 0, Nat.zero_add _, rfl, fS _ _ _ _, rfl, rfl, HB.out, Nat.le_refl _, HX.out, HR.out, HSB.out⟩
   case round =>
    obtain ⟨i, pre, x, y, hig, rfl, hsd, hx, hy, hb, hsz, hxx, hrr, hss⟩ := hrel
    have HSD := zh hsd
    have HXY := zh (And.intro hx hy)
    have HBW := zh hb
    have HSZ := zh hsz
    have HXW := zh hxx
    have HRW := zh hrr
    have HSW := zh hss
    clear hsd hx hy hb hsz hxx hrr hss HB HX HR HSB
    by_cases hil : i < 2
    ·have g1 : (i : Int) < 2 := by omega
     have g3 : (0 : Int) ≤ (i : Int) := by omega
     obtain ⟨eb, off, hs0, _, hbl, hcell⟩ := HROW.out (by simp)
     subst hs0
     have hrep := HIT.out i hil
     obtain ⟨eop, enum, etext, ev, epos, hcs, es, en, ec, hev⟩ := hrep.form
     subst hev
     rw [hcs] at hrep
     have hbl2 : eb < X := by rw [← HXR.out.1]; exact hbl
     have hc5 : ∀ j, j < 5 → wr.cell? ⟨eb, off + i * 5 + j, none⟩ = (cs i)[j]? := fun j hj => (HBW.out.cell (p := ⟨eb, _, none⟩) hbl2).trans (hcell i hil j hj)
     rw [hcs] at hc5
     have x0 : wr.cell? ⟨eb, off + i * 5, none⟩ = some (.int .i64 eop) := hc5 0 (by decide)
     have x1 : wr.cell? ⟨eb, off + i * 5 + 1, none⟩ = some (.int .i64 enum) := hc5 1 (by decide)
     have x2 : wr.cell? ⟨eb, off + i * 5 + 2, none⟩ = some (.string etext) := hc5 2 (by decide)
     have x3 : wr.cell? ⟨eb, off + i * 5 + 3, none⟩ = some (.slice es en ec) := hc5 3 (by decide)
     have x4 : wr.cell? ⟨eb, off + i * 5 + 4, none⟩ = some (.int .i64 epos) := hc5 4 (by decide)
     have HEP : Hid (([a, b].getD i default).pos = epos) := zh (by obtain ⟨_, e, _⟩ := bL hrep; rw [e]; rfl)
     have HREP := zh hrep
     have HMEM : Hid ([a, b].getD i default ∈ [a, b]) := zh (by rcases (show i = 0 ∨ i = 1 by omega) with rfl | rfl; exact List.mem_cons_self; exact List.mem_cons_of_mem _ List.mem_cons_self)
     have HCK := zh (fun W (hW : Below X w W) => HLL.out _ HMEM.out v vr W eop enum epos etext es en ec (HCT.out.below (by rw [HXR.out.1]; exact hW)) (HREP.out.keep (Stays.of_below (by rw [HXR.out.1]; exact hW))))
     have HSOK := zh (jF F v true [a, b] i pre)
     have HSBAD := zh (fun fe fa => ij F v true [a, b] pos i pre fe fa HSD.out hil)
     have HSF : Hid (bQ true (aG F v ([a, b].getD i default)) ([a, b].getD i default).pos = bQ true (aG F v ([a, b].getD i default)) epos) := zh (by rw [HEP.out])
     replace HSOK : Hid (∀ fa, bQ true (aG F v ([a, b].getD i default)) epos = (0, fa) → cx F v true [a, b] (i + 1) (pre ++ [(aG F v ([a, b].getD i default)).1])) := zh (fun fa h => HSOK.out fa HSD.out hil (HSF.out.trans h))
     replace HSBAD : Hid (∀ fe fa, bQ true (aG F v ([a, b].getD i default)) epos = (fe, fa) → ¬ fe = 0 → di F v true [a, b] pos = (0, (fe, fa))) := zh (fun fe fa h => HSBAD.out fe fa (HSF.out.trans h))
     clear hrep hc5 hcs hcell hbl hbl2 HSF HEP
     generalize aG F v ([a, b].getD i default) = q at *
     obtain ⟨t, fe, fa⟩ := q
     unfold bz at HCK
     dsimp only at HCK HSOK HSBAD
     go_upto_region 11 with fail
     have hbE := ae (Below.refl wr.heap.size wr) (.cells #[.int .i64 eop, .int .i64 enum, .string etext, .slice es en ec, .int .i64 epos] 65)
     have HXE : Hid ((wr.alloc (.cells #[.int .i64 eop, .int .i64 enum, .string etext, .slice es en ec, .int .i64 epos] 65)).heap[wr.heap.size]? = some (.cells #[.int .i64 eop, .int .i64 enum, .string etext, .slice es en ec, .int .i64 epos] 65 (0, 0))) := zh (ah _ _ _ rfl)
     have HEB : Hid (w3.heap.size ≤ wr.heap.size) := HSZ
     clear x0 x1 x2 x3 x4
     have HXW0 := HXW
     replace HXW := zh ((hbE.block _ (ad HXW.out)).trans HXW.out)
     replace HRW := zh ((hbE.block _ (ad HRW.out)).trans HRW.out)
     replace HSW := zh ((hbE.block _ (ad HSW.out)).trans HSW.out)
     replace HBW := zh (HBW.out.trans (hbE.mono (Nat.le_of_lt (ad HXW0.out))))
     replace HSZ := zh (Nat.le_trans HSZ.out hbE.size)
     clear HXW0
     clear hbE
     generalize (wr.alloc (.cells #[.int .i64 eop, .int .i64 enum, .string etext, .slice es en ec, .int .i64 epos] 65)) = w4 at *
     generalize wr.heap.size = EB at *
     obtain ⟨e0, e1, e2, e3, e4, -⟩ := css HXE.out
     go_wp2_with fail
     refine (HCK.out _ HBW.out).mono ?_
     rintro e w5 ⟨rfl, hb5⟩
     clear e0 e1 e2 e3 e4
     replace HXE := zh ((hb5.block _ (ad HXE.out)).trans HXE.out)
     have HXW0 := HXW
     replace HXW := zh ((hb5.block _ (ad HXW.out)).trans HXW.out)
     replace HRW := zh ((hb5.block _ (ad HRW.out)).trans HRW.out)
     replace HSW := zh ((hb5.block _ (ad HSW.out)).trans HSW.out)
     replace HBW := zh (HBW.out.trans (hb5.mono (Nat.le_of_lt (ad HXW0.out))))
     replace HSZ := zh (Nat.le_trans HSZ.out hb5.size)
     clear HXW0
     clear hb5
     go_upto_region 12 with fail
     have hb6 := ae (Below.refl w5.heap.size w5) (.cells #[.int .i64 fe, .int .i64 fa] 96)
     have HFW : Hid ((w5.alloc (.cells #[.int .i64 fe, .int .i64 fa] 96)).heap[w5.heap.size]? = some (.cells #[.int .i64 fe, .int .i64 fa] 96 (0, 0))) := zh (ah _ _ _ rfl)
     replace HXE := zh ((hb6.block _ (ad HXE.out)).trans HXE.out)
     have HFS : Hid (w3.heap.size ≤ w5.heap.size) := HSZ
     have HXW0 := HXW
     replace HXW := zh ((hb6.block _ (ad HXW.out)).trans HXW.out)
     replace HRW := zh ((hb6.block _ (ad HRW.out)).trans HRW.out)
     replace HSW := zh ((hb6.block _ (ad HSW.out)).trans HSW.out)
     replace HBW := zh (HBW.out.trans (hb6.mono (Nat.le_of_lt (ad HXW0.out))))
     replace HSZ := zh (Nat.le_trans HSZ.out hb6.size)
     clear HXW0
     clear hb6
     generalize (w5.alloc (.cells #[.int .i64 fe, .int .i64 fa] 96)) = w6 at *
     generalize w5.heap.size = FB at *
     have HNE : Hid (¬ X = FB ∧ ¬ RB = FB ∧ ¬ SB = FB ∧ ¬ FB = X ∧ ¬ FB = RB ∧ ¬ FB = SB ∧ X ≤ FB) := zh (by have := HSB3.out; have := HFS.out; exact ⟨by omega, by omega, by omega, by omega, by omega, by omega, by omega⟩)
     have f0 : w6.cell? ⟨FB, 0, none⟩ = some (.int .i64 fe) := aa HFW.out (j := 0) rfl
     by_cases he : fe = 0
     ·subst he
      by_cases ht : t = 0
      ·subst ht
       have hbv : ((0 : Int) != 0 && !(true && (0 : Int) == 2)) = false := by simp
       replace HSOK : Hid (∀ fa, noC false 51 epos = (0, fa) → cx F v true [a, b] (i + 1) (pre ++ [(0 : Int)])) := zh (fun fa h => HSOK.out fa (by unfold bQ; dsimp only; rw [if_pos rfl, hbv]; exact h))
       replace HSBAD : Hid (∀ fe fa, noC false 51 epos = (fe, fa) → ¬ fe = 0 → di F v true [a, b] pos = (0, (fe, fa))) := zh (fun fe fa h => HSBAD.out fe fa (by unfold bQ; dsimp only; rw [if_pos rfl, hbv]; exact h))
       clear hbv
       have e4 : w6.cell? ⟨EB, 4, none⟩ = some (.int .i64 epos) := aa HXE.out (j := 4) rfl
       have HN := zh (cg false 51 epos)
       generalize hnc : noC false 51 epos = q at *
       obtain ⟨ge, ga⟩ := q
       unfold bz at HN
       dsimp only at HN
       clear hnc
       go_wp2_with fail
       refine (HN.out _).mono ?_
       rintro e w7 ⟨rfl, hb7⟩
       clear f0 e4
       replace HFW := zh ((hb7.block _ (ad HFW.out)).trans HFW.out)
       have HXW0 := HXW
       replace HXW := zh ((hb7.block _ (ad HXW.out)).trans HXW.out)
       replace HRW := zh ((hb7.block _ (ad HRW.out)).trans HRW.out)
       replace HSW := zh ((hb7.block _ (ad HSW.out)).trans HSW.out)
       replace HBW := zh (HBW.out.trans (hb7.mono (Nat.le_of_lt (ad HXW0.out))))
       replace HSZ := zh (Nat.le_trans HSZ.out hb7.size)
       clear HXW0
       clear hb7
       obtain ⟨f0, f1, -⟩ := css HFW.out
       obtain ⟨k0, k1, -⟩ := fzs HFW.out
       go_upto_region 14 with fail
       clear f0 f1 k0 k1
       replace HFW : Hid (((w7.setCell ⟨FB, 0, none⟩ (.int .i64 ge)).setCell ⟨FB, 1, none⟩ (.int .i64 ga)).heap[FB]? = some (.cells #[.int .i64 ge, .int .i64 ga] 96 (0, 0))) := zh (ai (ai HFW.out 0 _) 1 _)
       replace HXW : Hid (((w7.setCell ⟨FB, 0, none⟩ (.int .i64 ge)).setCell ⟨FB, 1, none⟩ (.int .i64 ga)).heap[X]? = _) := zh ((af _ _ _ _ HNE.out.1).trans ((af _ _ _ _ HNE.out.1).trans HXW.out))
       replace HRW : Hid (((w7.setCell ⟨FB, 0, none⟩ (.int .i64 ge)).setCell ⟨FB, 1, none⟩ (.int .i64 ga)).heap[RB]? = _) := zh ((af _ _ _ _ HNE.out.2.1).trans ((af _ _ _ _ HNE.out.2.1).trans HRW.out))
       replace HSW : Hid (((w7.setCell ⟨FB, 0, none⟩ (.int .i64 ge)).setCell ⟨FB, 1, none⟩ (.int .i64 ga)).heap[SB]? = _) := zh ((af _ _ _ _ HNE.out.2.2.1).trans ((af _ _ _ _ HNE.out.2.2.1).trans HSW.out))
       replace HBW : Hid (Below X w ((w7.setCell ⟨FB, 0, none⟩ (.int .i64 ge)).setCell ⟨FB, 1, none⟩ (.int .i64 ga))) := zh ((HBW.out.setCell (p := ⟨FB, 0, none⟩) HNE.out.2.2.2.2.2.2 _).setCell (p := ⟨FB, 1, none⟩) HNE.out.2.2.2.2.2.2 _)
       replace HSZ : Hid (w3.heap.size ≤ ((w7.setCell ⟨FB, 0, none⟩ (.int .i64 ge)).setCell ⟨FB, 1, none⟩ (.int .i64 ga)).heap.size) := zh (by rw [ax, ax]; exact HSZ.out)
       generalize ((w7.setCell ⟨FB, 0, none⟩ (.int .i64 ge)).setCell ⟨FB, 1, none⟩ (.int .i64 ga)) = w8 at *
       have f0 : w8.cell? ⟨FB, 0, none⟩ = some (.int .i64 ge) := aa HFW.out (j := 0) rfl
       by_cases hge : ge = 0
       ·subst hge
        obtain ⟨c0, c1, -⟩ := css HSW.out
        obtain ⟨k0, k1, -⟩ := fzs HSW.out
        have HSD2 := zh (HSOK.out ga rfl)
        have HPL := zh HSD.out.1
        rcases (show i = 0 ∨ i = 1 by omega) with rfl | rfl
        ·go_wp2_with fail
         go_roundg 1
         case measure => omega
         case rel =>
          obtain ⟨hx, hy⟩ := HXY.out
          have hpl := HPL.out
          refine ⟨1, _, _, _, rfl, rfl, HSD2.out, ?_, ?_, HBW.out.setCell (p := ⟨SB, 0, none⟩) (Nat.le_of_lt HSB3.out.2.2.2.2.2) _, (by rw [ax]; exact HSZ.out), (af _ _ _ _ (Ne.symm HSB3.out.2.2.2.1)).trans HXW.out, (af _ _ _ _ (Ne.symm HSB3.out.2.2.2.2.1)).trans HRW.out, ai HSW.out 0 _⟩
          ·exact (fG hpl hx hy _).1
          ·exact (fG hpl hx hy _).2
        ·go_wp2_with fail
         go_roundg 0
         case measure => omega
         case rel =>
          obtain ⟨hx, hy⟩ := HXY.out
          have hpl := HPL.out
          refine ⟨2, _, _, _, rfl, rfl, HSD2.out, ?_, ?_, HBW.out.setCell (p := ⟨SB, 1, none⟩) (Nat.le_of_lt HSB3.out.2.2.2.2.2) _, (by rw [ax]; exact HSZ.out), (af _ _ _ _ (Ne.symm HSB3.out.2.2.2.1)).trans HXW.out, (af _ _ _ _ (Ne.symm HSB3.out.2.2.2.2.1)).trans HRW.out, ai HSW.out 1 _⟩
          ·exact (fH hpl hx hy _).1
          ·exact (fH hpl hx hy _).2
       ·have HSF : Hid ((ge, ga) = (ge, ga)) := zh rfl
        have HE := zh (HTW.out.trans (HSBAD.out ge ga HSF.out hge))
        obtain ⟨r0, r1, -⟩ := css HRW.out
        obtain ⟨k0, k1, -⟩ := fzs HRW.out
        have f1 : w8.cell? ⟨FB, 1, none⟩ = some (.int .i64 ga) := aa HFW.out (j := 1) rfl
        go_upto_region 15 with fail
        go_region
        go_wp2_with fail
        refine bodyPost_ret (v := .tuple #[.int .i64 0, .agg #[.int .i64 ge, .int .i64 ga]]) (by simp [results, Tryz.results129, go_sem, r0, r1]) rfl ⟨by rw [HE.out]; rfl, ?_⟩
        rw [HXR.out.1]
        exact (((HBW.out).setCell (p := ⟨RB, 0, none⟩) (Nat.le_of_lt HXR.out.2.1) _).setCell (p := ⟨RB, 1, none⟩) (Nat.le_of_lt HXR.out.2.1) _).drew
      ·have hbv : (t != 0 && !(true && t == 2)) = (t != 0 && !(t == 2)) := by simp
       replace HSOK : Hid (∀ fa, noC (t != 0 && !(t == 2)) 51 epos = (0, fa) → cx F v true [a, b] (i + 1) (pre ++ [t])) := zh (fun fa h => HSOK.out fa (by unfold bQ; dsimp only; rw [if_pos rfl, hbv]; exact h))
       replace HSBAD : Hid (∀ fe fa, noC (t != 0 && !(t == 2)) 51 epos = (fe, fa) → ¬ fe = 0 → di F v true [a, b] pos = (0, (fe, fa))) := zh (fun fe fa h => HSBAD.out fe fa (by unfold bQ; dsimp only; rw [if_pos rfl, hbv]; exact h))
       clear hbv
       have e4 : w6.cell? ⟨EB, 4, none⟩ = some (.int .i64 epos) := aa HXE.out (j := 4) rfl
       have HN := zh (cg (t != 0 && !(t == 2)) 51 epos)
       generalize hnc : noC (t != 0 && !(t == 2)) 51 epos = q at *
       obtain ⟨ge, ga⟩ := q
       unfold bz at HN
       dsimp only at HN
       clear hnc
       go_wp2_with fail
       refine (HN.out _).mono ?_
       rintro e w7 ⟨rfl, hb7⟩
       clear f0 e4
       replace HFW := zh ((hb7.block _ (ad HFW.out)).trans HFW.out)
       have HXW0 := HXW
       replace HXW := zh ((hb7.block _ (ad HXW.out)).trans HXW.out)
       replace HRW := zh ((hb7.block _ (ad HRW.out)).trans HRW.out)
       replace HSW := zh ((hb7.block _ (ad HSW.out)).trans HSW.out)
       replace HBW := zh (HBW.out.trans (hb7.mono (Nat.le_of_lt (ad HXW0.out))))
       replace HSZ := zh (Nat.le_trans HSZ.out hb7.size)
       clear HXW0
       clear hb7
       obtain ⟨f0, f1, -⟩ := css HFW.out
       obtain ⟨k0, k1, -⟩ := fzs HFW.out
       go_upto_region 14 with fail
       clear f0 f1 k0 k1
       replace HFW : Hid (((w7.setCell ⟨FB, 0, none⟩ (.int .i64 ge)).setCell ⟨FB, 1, none⟩ (.int .i64 ga)).heap[FB]? = some (.cells #[.int .i64 ge, .int .i64 ga] 96 (0, 0))) := zh (ai (ai HFW.out 0 _) 1 _)
       replace HXW : Hid (((w7.setCell ⟨FB, 0, none⟩ (.int .i64 ge)).setCell ⟨FB, 1, none⟩ (.int .i64 ga)).heap[X]? = _) := zh ((af _ _ _ _ HNE.out.1).trans ((af _ _ _ _ HNE.out.1).trans HXW.out))
       replace HRW : Hid (((w7.setCell ⟨FB, 0, none⟩ (.int .i64 ge)).setCell ⟨FB, 1, none⟩ (.int .i64 ga)).heap[RB]? = _) := zh ((af _ _ _ _ HNE.out.2.1).trans ((af _ _ _ _ HNE.out.2.1).trans HRW.out))
       replace HSW : Hid (((w7.setCell ⟨FB, 0, none⟩ (.int .i64 ge)).setCell ⟨FB, 1, none⟩ (.int .i64 ga)).heap[SB]? = _) := zh ((af _ _ _ _ HNE.out.2.2.1).trans ((af _ _ _ _ HNE.out.2.2.1).trans HSW.out))
       replace HBW : Hid (Below X w ((w7.setCell ⟨FB, 0, none⟩ (.int .i64 ge)).setCell ⟨FB, 1, none⟩ (.int .i64 ga))) := zh ((HBW.out.setCell (p := ⟨FB, 0, none⟩) HNE.out.2.2.2.2.2.2 _).setCell (p := ⟨FB, 1, none⟩) HNE.out.2.2.2.2.2.2 _)
       replace HSZ : Hid (w3.heap.size ≤ ((w7.setCell ⟨FB, 0, none⟩ (.int .i64 ge)).setCell ⟨FB, 1, none⟩ (.int .i64 ga)).heap.size) := zh (by rw [ax, ax]; exact HSZ.out)
       generalize ((w7.setCell ⟨FB, 0, none⟩ (.int .i64 ge)).setCell ⟨FB, 1, none⟩ (.int .i64 ga)) = w8 at *
       have f0 : w8.cell? ⟨FB, 0, none⟩ = some (.int .i64 ge) := aa HFW.out (j := 0) rfl
       by_cases hge : ge = 0
       ·subst hge
        obtain ⟨c0, c1, -⟩ := css HSW.out
        obtain ⟨k0, k1, -⟩ := fzs HSW.out
        have HSD2 := zh (HSOK.out ga rfl)
        have HPL := zh HSD.out.1
        rcases (show i = 0 ∨ i = 1 by omega) with rfl | rfl
        ·go_wp2_with fail
         go_roundg 1
         case measure => omega
         case rel =>
          obtain ⟨hx, hy⟩ := HXY.out
          have hpl := HPL.out
          refine ⟨1, _, _, _, rfl, rfl, HSD2.out, ?_, ?_, HBW.out.setCell (p := ⟨SB, 0, none⟩) (Nat.le_of_lt HSB3.out.2.2.2.2.2) _, (by rw [ax]; exact HSZ.out), (af _ _ _ _ (Ne.symm HSB3.out.2.2.2.1)).trans HXW.out, (af _ _ _ _ (Ne.symm HSB3.out.2.2.2.2.1)).trans HRW.out, ai HSW.out 0 _⟩
          ·exact (fG hpl hx hy _).1
          ·exact (fG hpl hx hy _).2
        ·go_wp2_with fail
         go_roundg 0
         case measure => omega
         case rel =>
          obtain ⟨hx, hy⟩ := HXY.out
          have hpl := HPL.out
          refine ⟨2, _, _, _, rfl, rfl, HSD2.out, ?_, ?_, HBW.out.setCell (p := ⟨SB, 1, none⟩) (Nat.le_of_lt HSB3.out.2.2.2.2.2) _, (by rw [ax]; exact HSZ.out), (af _ _ _ _ (Ne.symm HSB3.out.2.2.2.1)).trans HXW.out, (af _ _ _ _ (Ne.symm HSB3.out.2.2.2.2.1)).trans HRW.out, ai HSW.out 1 _⟩
          ·exact (fH hpl hx hy _).1
          ·exact (fH hpl hx hy _).2
       ·have HSF : Hid ((ge, ga) = (ge, ga)) := zh rfl
        have HE := zh (HTW.out.trans (HSBAD.out ge ga HSF.out hge))
        obtain ⟨r0, r1, -⟩ := css HRW.out
        obtain ⟨k0, k1, -⟩ := fzs HRW.out
        have f1 : w8.cell? ⟨FB, 1, none⟩ = some (.int .i64 ga) := aa HFW.out (j := 1) rfl
        go_upto_region 15 with fail
        go_region
        go_wp2_with fail
        refine bodyPost_ret (v := .tuple #[.int .i64 0, .agg #[.int .i64 ge, .int .i64 ga]]) (by simp [results, Tryz.results129, go_sem, r0, r1]) rfl ⟨by rw [HE.out]; rfl, ?_⟩
        rw [HXR.out.1]
        exact (((HBW.out).setCell (p := ⟨RB, 0, none⟩) (Nat.le_of_lt HXR.out.2.1) _).setCell (p := ⟨RB, 1, none⟩) (Nat.le_of_lt HXR.out.2.1) _).drew
     ·have HSF : Hid (bQ true (t, (fe, fa)) epos = (fe, fa)) := zh (by unfold bQ; exact if_neg he)
      have HE := zh (HTW.out.trans (HSBAD.out fe fa HSF.out he))
      obtain ⟨r0, r1, -⟩ := css HRW.out
      obtain ⟨k0, k1, -⟩ := fzs HRW.out
      have f1 : w6.cell? ⟨FB, 1, none⟩ = some (.int .i64 fa) := aa HFW.out (j := 1) rfl
      go_upto_region 15 with fail
      go_region
      go_wp2_with fail
      refine bodyPost_ret (v := .tuple #[.int .i64 0, .agg #[.int .i64 fe, .int .i64 fa]]) (by simp [results, Tryz.results129, go_sem, r0, r1]) rfl ⟨by rw [HE.out]; rfl, ?_⟩
      rw [HXR.out.1]
      exact (((HBW.out).setCell (p := ⟨RB, 0, none⟩) (Nat.le_of_lt HXR.out.2.1) _).setCell (p := ⟨RB, 1, none⟩) (Nat.le_of_lt HXR.out.2.1) _).drew
    ·obtain rfl : i = 2 := by omega
     have g1 : ¬ (2 : Int) < 2 := by decide
     obtain ⟨hx, hy⟩ := HXY.out
     have HE := zh (HTW.out.trans (ii F v true [a, b] pos pre HSD.out))
     rw [← hx, ← hy] at HE
     have x4 : wr.cell? ⟨X, 4, none⟩ = some (.int .i64 pos) := aa HXW.out (j := 4) rfl
     obtain ⟨c0, c1, -⟩ := css HSW.out
     clear hx hy
     have HN := zh (cg (x == y) 51 pos)
     generalize noC (x == y) 51 pos = q at *
     obtain ⟨qe, qa⟩ := q
     unfold bz at HN
     dsimp only at HN
     go_wp2_with fail
     refine (HN.out _).mono ?_
     rintro e w5 ⟨rfl, hb5⟩
     clear x4 c0 c1
     have HXW0 := HXW
     replace HXW := zh ((hb5.block _ (ad HXW.out)).trans HXW.out)
     replace HRW := zh ((hb5.block _ (ad HRW.out)).trans HRW.out)
     replace HSW := zh ((hb5.block _ (ad HSW.out)).trans HSW.out)
     replace HBW := zh (HBW.out.trans (hb5.mono (Nat.le_of_lt (ad HXW0.out))))
     replace HSZ := zh (Nat.le_trans HSZ.out hb5.size)
     clear hb5
     obtain ⟨r0, r1, -⟩ := css HRW.out
     obtain ⟨k0, k1, -⟩ := fzs HRW.out
     go_wp2_with fail
     refine bodyPost_ret (v := .tuple #[.int .i64 x, .agg #[.int .i64 qe, .int .i64 qa]]) (by simp [results, Tryz.results129, go_sem, r0, r1]) rfl ⟨by rw [HE.out]; rfl, ?_⟩
     rw [HXR.out.1]
     exact (((HBW.out).setCell (p := ⟨RB, 0, none⟩) (Nat.le_of_lt HXR.out.2.1) _).setCell (p := ⟨RB, 1, none⟩) (Nat.le_of_lt HXR.out.2.1) _)
  ·by_cases hp2 : text.toList = [61, 61]
   ·have hTW : fg F v text [a, b] pos = _ := ro F v text [a, b] pos made hsg hp2
    have hpl : (text.toList == [43]) = false := by simp [hp2]
    have hpl2 : (text.toList == [61, 61]) = true := by simp [hp2]
    have HTW : Hid (C = di F v false [a, b] pos) := zh (HC.out.trans hTW)
    clear hTW HC
    obtain ⟨-, -, x2, x3, -⟩ := css HX.out
    go_upto_region 8 with fail
    have hbA := ae (Below.refl w1.heap.size w1) (.cells #[.int .i64 0, .int .i64 0] 177)
    have HSB : Hid ((w1.alloc (.cells #[.int .i64 0, .int .i64 0] 177)).heap[w1.heap.size]? = some (.cells #[.int .i64 0, .int .i64 0] 177 (0, 0))) := zh (ah _ _ _ rfl)
    have HSL : Hid (RB < w1.heap.size) := zh HXR.out.2.2.1
    clear x3 x2
    replace HX := zh ((hbA.block _ (ad HX.out)).trans HX.out)
    replace HR := zh ((hbA.block _ (ad HR.out)).trans HR.out)
    replace HB := zh (HB.out.trans (hbA.mono (xle HXR.out.1 HB.out.size)))
    clear hbA
    generalize w1.alloc (.cells #[.int .i64 0, .int .i64 0] 177) = w3 at *
    generalize w1.heap.size = SB at *
    have x3 : w3.cell? ⟨X, 3, none⟩ = some (.slice s 2 c) := aa HX.out (j := 3) rfl
    obtain ⟨cs, ⟨s0, cap, e, hle, hcm, _, hrow, hsz⟩, hit⟩ := HKS.out
    injection e with e1 e2 e3
    subst e1 e3
    have HROW := zh hrow
    have HIT := zh hit
    clear hrow hit hsz hle hcm e2
    go_wp2_with fail
    have HLL : Hid (∀ x, x ∈ [a, b] → gG cb F res x) := zh (fun x hx => by simp at hx; rcases hx with rfl | rfl; exact HXA.out; exact HXB.out)
    clear HXA HXB
    have HSB3 : Hid (X < w3.heap.size ∧ RB < w3.heap.size ∧ SB < w3.heap.size ∧ ¬ SB = X ∧ ¬ SB = RB ∧ X < SB) := zh (by have h1 := ad HX.out; have h2 := ad HR.out; have h3 := ad HSB.out; have h4 := HSL.out; have h5 := HXR.out; exact ⟨h1, h2, h3, by omega, by omega, by omega⟩)
    clear HSL x3
    go_loopg [55] 2 (fun q s55 wr => ∃ (i : Nat) (pre : List Int) (x y : Int), i + q = 2 ∧ s55 = .int .i64 (i : Int) ∧ cx F v false [a, b] i pre ∧ x = pre.getD 0 0 ∧ y = pre.getD 1 0 ∧ Below X w wr ∧ w3.heap.size ≤ wr.heap.size ∧ wr.heap[X]? = some (.cells #[.int .i64 op, .int .i64 num, .string text, .slice s 2 c, .int .i64 pos] 65 (0, 0)) ∧ wr.heap[RB]? = some (.cells #[.int .i64 0, .int .i64 0] 96 (0, 0)) ∧ wr.heap[SB]? = some (.cells #[.int .i64 x, .int .i64 y] 177 (0, 0)))
    case atStart => exact ⟨0, [], 0, 0, Nat.zero_add _, rfl, fS _ _ _ _, rfl, rfl, HB.out, Nat.le_refl _, HX.out, HR.out, HSB.out⟩
    case round =>
     obtain ⟨i, pre, x, y, hig, rfl, hsd, hx, hy, hb, hsz, hxx, hrr, hss⟩ := hrel
     have HSD := zh hsd
     have HXY := zh (And.intro hx hy)
     have HBW := zh hb
     have HSZ := zh hsz
     have HXW := zh hxx
     have HRW := zh hrr
     have HSW := zh hss
     clear hsd hx hy hb hsz hxx hrr hss HB HX HR HSB
     by_cases hil : i < 2
     ·have g1 : (i : Int) < 2 := by omega
      have g3 : (0 : Int) ≤ (i : Int) := by omega
      obtain ⟨eb, off, hs0, _, hbl, hcell⟩ := HROW.out (by simp)
      subst hs0
      have hrep := HIT.out i hil
      obtain ⟨eop, enum, etext, ev, epos, hcs, es, en, ec, hev⟩ := hrep.form
      subst hev
      rw [hcs] at hrep
      have hbl2 : eb < X := by rw [← HXR.out.1]; exact hbl
      have hc5 : ∀ j, j < 5 → wr.cell? ⟨eb, off + i * 5 + j, none⟩ = (cs i)[j]? := fun j hj => (HBW.out.cell (p := ⟨eb, _, none⟩) hbl2).trans (hcell i hil j hj)
      rw [hcs] at hc5
      have x0 : wr.cell? ⟨eb, off + i * 5, none⟩ = some (.int .i64 eop) := hc5 0 (by decide)
      have x1 : wr.cell? ⟨eb, off + i * 5 + 1, none⟩ = some (.int .i64 enum) := hc5 1 (by decide)
      have x2 : wr.cell? ⟨eb, off + i * 5 + 2, none⟩ = some (.string etext) := hc5 2 (by decide)
      have x3 : wr.cell? ⟨eb, off + i * 5 + 3, none⟩ = some (.slice es en ec) := hc5 3 (by decide)
      have x4 : wr.cell? ⟨eb, off + i * 5 + 4, none⟩ = some (.int .i64 epos) := hc5 4 (by decide)
      have HEP : Hid (([a, b].getD i default).pos = epos) := zh (by obtain ⟨_, e, _⟩ := bL hrep; rw [e]; rfl)
      have HREP := zh hrep
      have HMEM : Hid ([a, b].getD i default ∈ [a, b]) := zh (by rcases (show i = 0 ∨ i = 1 by omega) with rfl | rfl; exact List.mem_cons_self; exact List.mem_cons_of_mem _ List.mem_cons_self)
      have HCK := zh (fun W (hW : Below X w W) => HLL.out _ HMEM.out v vr W eop enum epos etext es en ec (HCT.out.below (by rw [HXR.out.1]; exact hW)) (HREP.out.keep (Stays.of_below (by rw [HXR.out.1]; exact hW))))
      have HSOK := zh (jF F v false [a, b] i pre)
      have HSBAD := zh (fun fe fa => ij F v false [a, b] pos i pre fe fa HSD.out hil)
      have HSF : Hid (bQ false (aG F v ([a, b].getD i default)) ([a, b].getD i default).pos = bQ false (aG F v ([a, b].getD i default)) epos) := zh (by rw [HEP.out])
      replace HSOK : Hid (∀ fa, bQ false (aG F v ([a, b].getD i default)) epos = (0, fa) → cx F v false [a, b] (i + 1) (pre ++ [(aG F v ([a, b].getD i default)).1])) := zh (fun fa h => HSOK.out fa HSD.out hil (HSF.out.trans h))
      replace HSBAD : Hid (∀ fe fa, bQ false (aG F v ([a, b].getD i default)) epos = (fe, fa) → ¬ fe = 0 → di F v false [a, b] pos = (0, (fe, fa))) := zh (fun fe fa h => HSBAD.out fe fa (HSF.out.trans h))
      clear hrep hc5 hcs hcell hbl hbl2 HSF HEP
      generalize aG F v ([a, b].getD i default) = q at *
      obtain ⟨t, fe, fa⟩ := q
      unfold bz at HCK
      dsimp only at HCK HSOK HSBAD
      go_upto_region 11 with fail
      have hbE := ae (Below.refl wr.heap.size wr) (.cells #[.int .i64 eop, .int .i64 enum, .string etext, .slice es en ec, .int .i64 epos] 65)
      have HXE : Hid ((wr.alloc (.cells #[.int .i64 eop, .int .i64 enum, .string etext, .slice es en ec, .int .i64 epos] 65)).heap[wr.heap.size]? = some (.cells #[.int .i64 eop, .int .i64 enum, .string etext, .slice es en ec, .int .i64 epos] 65 (0, 0))) := zh (ah _ _ _ rfl)
      have HEB : Hid (w3.heap.size ≤ wr.heap.size) := HSZ
      clear x0 x1 x2 x3 x4
      have HXW0 := HXW
      replace HXW := zh ((hbE.block _ (ad HXW.out)).trans HXW.out)
      replace HRW := zh ((hbE.block _ (ad HRW.out)).trans HRW.out)
      replace HSW := zh ((hbE.block _ (ad HSW.out)).trans HSW.out)
      replace HBW := zh (HBW.out.trans (hbE.mono (Nat.le_of_lt (ad HXW0.out))))
      replace HSZ := zh (Nat.le_trans HSZ.out hbE.size)
      clear HXW0
      clear hbE
      generalize (wr.alloc (.cells #[.int .i64 eop, .int .i64 enum, .string etext, .slice es en ec, .int .i64 epos] 65)) = w4 at *
      generalize wr.heap.size = EB at *
      obtain ⟨e0, e1, e2, e3, e4, -⟩ := css HXE.out
      go_wp2_with fail
      refine (HCK.out _ HBW.out).mono ?_
      rintro e w5 ⟨rfl, hb5⟩
      clear e0 e1 e2 e3 e4
      replace HXE := zh ((hb5.block _ (ad HXE.out)).trans HXE.out)
      have HXW0 := HXW
      replace HXW := zh ((hb5.block _ (ad HXW.out)).trans HXW.out)
      replace HRW := zh ((hb5.block _ (ad HRW.out)).trans HRW.out)
      replace HSW := zh ((hb5.block _ (ad HSW.out)).trans HSW.out)
      replace HBW := zh (HBW.out.trans (hb5.mono (Nat.le_of_lt (ad HXW0.out))))
      replace HSZ := zh (Nat.le_trans HSZ.out hb5.size)
      clear HXW0
      clear hb5
      go_upto_region 12 with fail
      have hb6 := ae (Below.refl w5.heap.size w5) (.cells #[.int .i64 fe, .int .i64 fa] 96)
      have HFW : Hid ((w5.alloc (.cells #[.int .i64 fe, .int .i64 fa] 96)).heap[w5.heap.size]? = some (.cells #[.int .i64 fe, .int .i64 fa] 96 (0, 0))) := zh (ah _ _ _ rfl)
      replace HXE := zh ((hb6.block _ (ad HXE.out)).trans HXE.out)
      have HFS : Hid (w3.heap.size ≤ w5.heap.size) := HSZ
      have HXW0 := HXW
      replace HXW := zh ((hb6.block _ (ad HXW.out)).trans HXW.out)
      replace HRW := zh ((hb6.block _ (ad HRW.out)).trans HRW.out)
      replace HSW := zh ((hb6.block _ (ad HSW.out)).trans HSW.out)
      replace HBW := zh (HBW.out.trans (hb6.mono (Nat.le_of_lt (ad HXW0.out))))
      replace HSZ := zh (Nat.le_trans HSZ.out hb6.size)
      clear HXW0
      clear hb6
      generalize (w5.alloc (.cells #[.int .i64 fe, .int .i64 fa] 96)) = w6 at *
      generalize w5.heap.size = FB at *
      have HNE : Hid (¬ X = FB ∧ ¬ RB = FB ∧ ¬ SB = FB ∧ ¬ FB = X ∧ ¬ FB = RB ∧ ¬ FB = SB ∧ X ≤ FB) := zh (by have := HSB3.out; have := HFS.out; exact ⟨by omega, by omega, by omega, by omega, by omega, by omega, by omega⟩)
      have f0 : w6.cell? ⟨FB, 0, none⟩ = some (.int .i64 fe) := aa HFW.out (j := 0) rfl
      by_cases he : fe = 0
      ·subst he
       by_cases ht : t = 0
       ·subst ht
        have hbv : ((0 : Int) != 0 && !(false && (0 : Int) == 2)) = false := by simp
        replace HSOK : Hid (∀ fa, noC false 51 epos = (0, fa) → cx F v false [a, b] (i + 1) (pre ++ [(0 : Int)])) := zh (fun fa h => HSOK.out fa (by unfold bQ; dsimp only; rw [if_pos rfl, hbv]; exact h))
        replace HSBAD : Hid (∀ fe fa, noC false 51 epos = (fe, fa) → ¬ fe = 0 → di F v false [a, b] pos = (0, (fe, fa))) := zh (fun fe fa h => HSBAD.out fe fa (by unfold bQ; dsimp only; rw [if_pos rfl, hbv]; exact h))
        clear hbv
        have e4 : w6.cell? ⟨EB, 4, none⟩ = some (.int .i64 epos) := aa HXE.out (j := 4) rfl
        have HN := zh (cg false 51 epos)
        generalize hnc : noC false 51 epos = q at *
        obtain ⟨ge, ga⟩ := q
        unfold bz at HN
        dsimp only at HN
        clear hnc
        go_wp2_with fail
        refine (HN.out _).mono ?_
        rintro e w7 ⟨rfl, hb7⟩
        clear f0 e4
        replace HFW := zh ((hb7.block _ (ad HFW.out)).trans HFW.out)
        have HXW0 := HXW
        replace HXW := zh ((hb7.block _ (ad HXW.out)).trans HXW.out)
        replace HRW := zh ((hb7.block _ (ad HRW.out)).trans HRW.out)
        replace HSW := zh ((hb7.block _ (ad HSW.out)).trans HSW.out)
        replace HBW := zh (HBW.out.trans (hb7.mono (Nat.le_of_lt (ad HXW0.out))))
        replace HSZ := zh (Nat.le_trans HSZ.out hb7.size)
        clear HXW0
        clear hb7
        obtain ⟨f0, f1, -⟩ := css HFW.out
        obtain ⟨k0, k1, -⟩ := fzs HFW.out
        go_upto_region 14 with fail
        clear f0 f1 k0 k1
        replace HFW : Hid (((w7.setCell ⟨FB, 0, none⟩ (.int .i64 ge)).setCell ⟨FB, 1, none⟩ (.int .i64 ga)).heap[FB]? = some (.cells #[.int .i64 ge, .int .i64 ga] 96 (0, 0))) := zh (ai (ai HFW.out 0 _) 1 _)
        replace HXW : Hid (((w7.setCell ⟨FB, 0, none⟩ (.int .i64 ge)).setCell ⟨FB, 1, none⟩ (.int .i64 ga)).heap[X]? = _) := zh ((af _ _ _ _ HNE.out.1).trans ((af _ _ _ _ HNE.out.1).trans HXW.out))
        replace HRW : Hid (((w7.setCell ⟨FB, 0, none⟩ (.int .i64 ge)).setCell ⟨FB, 1, none⟩ (.int .i64 ga)).heap[RB]? = _) := zh ((af _ _ _ _ HNE.out.2.1).trans ((af _ _ _ _ HNE.out.2.1).trans HRW.out))
        replace HSW : Hid (((w7.setCell ⟨FB, 0, none⟩ (.int .i64 ge)).setCell ⟨FB, 1, none⟩ (.int .i64 ga)).heap[SB]? = _) := zh ((af _ _ _ _ HNE.out.2.2.1).trans ((af _ _ _ _ HNE.out.2.2.1).trans HSW.out))
        replace HBW : Hid (Below X w ((w7.setCell ⟨FB, 0, none⟩ (.int .i64 ge)).setCell ⟨FB, 1, none⟩ (.int .i64 ga))) := zh ((HBW.out.setCell (p := ⟨FB, 0, none⟩) HNE.out.2.2.2.2.2.2 _).setCell (p := ⟨FB, 1, none⟩) HNE.out.2.2.2.2.2.2 _)
        replace HSZ : Hid (w3.heap.size ≤ ((w7.setCell ⟨FB, 0, none⟩ (.int .i64 ge)).setCell ⟨FB, 1, none⟩ (.int .i64 ga)).heap.size) := zh (by rw [ax, ax]; exact HSZ.out)
        generalize ((w7.setCell ⟨FB, 0, none⟩ (.int .i64 ge)).setCell ⟨FB, 1, none⟩ (.int .i64 ga)) = w8 at *
        have f0 : w8.cell? ⟨FB, 0, none⟩ = some (.int .i64 ge) := aa HFW.out (j := 0) rfl
        by_cases hge : ge = 0
        ·subst hge
         obtain ⟨c0, c1, -⟩ := css HSW.out
         obtain ⟨k0, k1, -⟩ := fzs HSW.out
         have HSD2 := zh (HSOK.out ga rfl)
         have HPL := zh HSD.out.1
         rcases (show i = 0 ∨ i = 1 by omega) with rfl | rfl
         ·go_wp2_with fail
          go_roundg 1
          case measure => omega
          case rel =>
           obtain ⟨hx, hy⟩ := HXY.out
           have hpl := HPL.out
           refine ⟨1, _, _, _, rfl, rfl, HSD2.out, ?_, ?_, HBW.out.setCell (p := ⟨SB, 0, none⟩) (Nat.le_of_lt HSB3.out.2.2.2.2.2) _, (by rw [ax]; exact HSZ.out), (af _ _ _ _ (Ne.symm HSB3.out.2.2.2.1)).trans HXW.out, (af _ _ _ _ (Ne.symm HSB3.out.2.2.2.2.1)).trans HRW.out, ai HSW.out 0 _⟩
           ·exact (fG hpl hx hy _).1
           ·exact (fG hpl hx hy _).2
         ·go_wp2_with fail
          go_roundg 0
          case measure => omega
          case rel =>
           obtain ⟨hx, hy⟩ := HXY.out
           have hpl := HPL.out
           refine ⟨2, _, _, _, rfl, rfl, HSD2.out, ?_, ?_, HBW.out.setCell (p := ⟨SB, 1, none⟩) (Nat.le_of_lt HSB3.out.2.2.2.2.2) _, (by rw [ax]; exact HSZ.out), (af _ _ _ _ (Ne.symm HSB3.out.2.2.2.1)).trans HXW.out, (af _ _ _ _ (Ne.symm HSB3.out.2.2.2.2.1)).trans HRW.out, ai HSW.out 1 _⟩
           ·exact (fH hpl hx hy _).1
           ·exact (fH hpl hx hy _).2
        ·have HSF : Hid ((ge, ga) = (ge, ga)) := zh rfl
         have HE := zh (HTW.out.trans (HSBAD.out ge ga HSF.out hge))
         obtain ⟨r0, r1, -⟩ := css HRW.out
         obtain ⟨k0, k1, -⟩ := fzs HRW.out
         have f1 : w8.cell? ⟨FB, 1, none⟩ = some (.int .i64 ga) := aa HFW.out (j := 1) rfl
         go_upto_region 15 with fail
         go_region
         go_wp2_with fail
         refine bodyPost_ret (v := .tuple #[.int .i64 0, .agg #[.int .i64 ge, .int .i64 ga]]) (by simp [results, Tryz.results129, go_sem, r0, r1]) rfl ⟨by rw [HE.out]; rfl, ?_⟩
         rw [HXR.out.1]
         exact (((HBW.out).setCell (p := ⟨RB, 0, none⟩) (Nat.le_of_lt HXR.out.2.1) _).setCell (p := ⟨RB, 1, none⟩) (Nat.le_of_lt HXR.out.2.1) _).drew
       ·have hbv : (t != 0 && !(false && t == 2)) = (t != 0) := by simp
        replace HSOK : Hid (∀ fa, noC (t != 0) 51 epos = (0, fa) → cx F v false [a, b] (i + 1) (pre ++ [t])) := zh (fun fa h => HSOK.out fa (by unfold bQ; dsimp only; rw [if_pos rfl, hbv]; exact h))
        replace HSBAD : Hid (∀ fe fa, noC (t != 0) 51 epos = (fe, fa) → ¬ fe = 0 → di F v false [a, b] pos = (0, (fe, fa))) := zh (fun fe fa h => HSBAD.out fe fa (by unfold bQ; dsimp only; rw [if_pos rfl, hbv]; exact h))
        clear hbv
        have e4 : w6.cell? ⟨EB, 4, none⟩ = some (.int .i64 epos) := aa HXE.out (j := 4) rfl
        have HN := zh (cg (t != 0) 51 epos)
        generalize hnc : noC (t != 0) 51 epos = q at *
        obtain ⟨ge, ga⟩ := q
        unfold bz at HN
        dsimp only at HN
        clear hnc
        go_wp2_with fail
        refine (HN.out _).mono ?_
        rintro e w7 ⟨rfl, hb7⟩
        clear f0 e4
        replace HFW := zh ((hb7.block _ (ad HFW.out)).trans HFW.out)
        have HXW0 := HXW
        replace HXW := zh ((hb7.block _ (ad HXW.out)).trans HXW.out)
        replace HRW := zh ((hb7.block _ (ad HRW.out)).trans HRW.out)
        replace HSW := zh ((hb7.block _ (ad HSW.out)).trans HSW.out)
        replace HBW := zh (HBW.out.trans (hb7.mono (Nat.le_of_lt (ad HXW0.out))))
        replace HSZ := zh (Nat.le_trans HSZ.out hb7.size)
        clear HXW0
        clear hb7
        obtain ⟨f0, f1, -⟩ := css HFW.out
        obtain ⟨k0, k1, -⟩ := fzs HFW.out
        go_upto_region 14 with fail
        clear f0 f1 k0 k1
        replace HFW : Hid (((w7.setCell ⟨FB, 0, none⟩ (.int .i64 ge)).setCell ⟨FB, 1, none⟩ (.int .i64 ga)).heap[FB]? = some (.cells #[.int .i64 ge, .int .i64 ga] 96 (0, 0))) := zh (ai (ai HFW.out 0 _) 1 _)
        replace HXW : Hid (((w7.setCell ⟨FB, 0, none⟩ (.int .i64 ge)).setCell ⟨FB, 1, none⟩ (.int .i64 ga)).heap[X]? = _) := zh ((af _ _ _ _ HNE.out.1).trans ((af _ _ _ _ HNE.out.1).trans HXW.out))
        replace HRW : Hid (((w7.setCell ⟨FB, 0, none⟩ (.int .i64 ge)).setCell ⟨FB, 1, none⟩ (.int .i64 ga)).heap[RB]? = _) := zh ((af _ _ _ _ HNE.out.2.1).trans ((af _ _ _ _ HNE.out.2.1).trans HRW.out))
        replace HSW : Hid (((w7.setCell ⟨FB, 0, none⟩ (.int .i64 ge)).setCell ⟨FB, 1, none⟩ (.int .i64 ga)).heap[SB]? = _) := zh ((af _ _ _ _ HNE.out.2.2.1).trans ((af _ _ _ _ HNE.out.2.2.1).trans HSW.out))
        replace HBW : Hid (Below X w ((w7.setCell ⟨FB, 0, none⟩ (.int .i64 ge)).setCell ⟨FB, 1, none⟩ (.int .i64 ga))) := zh ((HBW.out.setCell (p := ⟨FB, 0, none⟩) HNE.out.2.2.2.2.2.2 _).setCell (p := ⟨FB, 1, none⟩) HNE.out.2.2.2.2.2.2 _)
        replace HSZ : Hid (w3.heap.size ≤ ((w7.setCell ⟨FB, 0, none⟩ (.int .i64 ge)).setCell ⟨FB, 1, none⟩ (.int .i64 ga)).heap.size) := zh (by rw [ax, ax]; exact HSZ.out)
        generalize ((w7.setCell ⟨FB, 0, none⟩ (.int .i64 ge)).setCell ⟨FB, 1, none⟩ (.int .i64 ga)) = w8 at *
        have f0 : w8.cell? ⟨FB, 0, none⟩ = some (.int .i64 ge) := aa HFW.out (j := 0) rfl
        by_cases hge : ge = 0
        ·subst hge
         obtain ⟨c0, c1, -⟩ := css HSW.out
         obtain ⟨k0, k1, -⟩ := fzs HSW.out
         have HSD2 := zh (HSOK.out ga rfl)
         have HPL := zh HSD.out.1
         rcases (show i = 0 ∨ i = 1 by omega) with rfl | rfl
         ·go_wp2_with fail
          go_roundg 1
          case measure => omega
          case rel =>
           obtain ⟨hx, hy⟩ := HXY.out
           have hpl := HPL.out
           refine ⟨1, _, _, _, rfl, rfl, HSD2.out, ?_, ?_, HBW.out.setCell (p := ⟨SB, 0, none⟩) (Nat.le_of_lt HSB3.out.2.2.2.2.2) _, (by rw [ax]; exact HSZ.out), (af _ _ _ _ (Ne.symm HSB3.out.2.2.2.1)).trans HXW.out, (af _ _ _ _ (Ne.symm HSB3.out.2.2.2.2.1)).trans HRW.out, ai HSW.out 0 _⟩
           ·exact (fG hpl hx hy _).1
           ·exact (fG hpl hx hy _).2
         ·go_wp2_with fail
          go_roundg 0
          case measure => omega
          case rel =>
           obtain ⟨hx, hy⟩ := HXY.out
           have hpl := HPL.out
           refine ⟨2, _, _, _, rfl, rfl, HSD2.out, ?_, ?_, HBW.out.setCell (p := ⟨SB, 1, none⟩) (Nat.le_of_lt HSB3.out.2.2.2.2.2) _, (by rw [ax]; exact HSZ.out), (af _ _ _ _ (Ne.symm HSB3.out.2.2.2.1)).trans HXW.out, (af _ _ _ _ (Ne.symm HSB3.out.2.2.2.2.1)).trans HRW.out, ai HSW.out 1 _⟩
           ·exact (fH hpl hx hy _).1
           ·exact (fH hpl hx hy _).2
        ·have HSF : Hid ((ge, ga) = (ge, ga)) := zh rfl
         have HE := zh (HTW.out.trans (HSBAD.out ge ga HSF.out hge))
         obtain ⟨r0, r1, -⟩ := css HRW.out
         obtain ⟨k0, k1, -⟩ := fzs HRW.out
         have f1 : w8.cell? ⟨FB, 1, none⟩ = some (.int .i64 ga) := aa HFW.out (j := 1) rfl
         go_upto_region 15 with fail
         go_region
         go_wp2_with fail
         refine bodyPost_ret (v := .tuple #[.int .i64 0, .agg #[.int .i64 ge, .int .i64 ga]]) (by simp [results, Tryz.results129, go_sem, r0, r1]) rfl ⟨by rw [HE.out]; rfl, ?_⟩
         rw [HXR.out.1]
         exact (((HBW.out).setCell (p := ⟨RB, 0, none⟩) (Nat.le_of_lt HXR.out.2.1) _).setCell (p := ⟨RB, 1, none⟩) (Nat.le_of_lt HXR.out.2.1) _).drew
      ·have HSF : Hid (bQ false (t, (fe, fa)) epos = (fe, fa)) := zh (by unfold bQ; exact if_neg he)
       have HE := zh (HTW.out.trans (HSBAD.out fe fa HSF.out he))
       obtain ⟨r0, r1, -⟩ := css HRW.out
       obtain ⟨k0, k1, -⟩ := fzs HRW.out
       have f1 : w6.cell? ⟨FB, 1, none⟩ = some (.int .i64 fa) := aa HFW.out (j := 1) rfl
       go_upto_region 15 with fail
       go_region
       go_wp2_with fail
       refine bodyPost_ret (v := .tuple #[.int .i64 0, .agg #[.int .i64 fe, .int .i64 fa]]) (by simp [results, Tryz.results129, go_sem, r0, r1]) rfl ⟨by rw [HE.out]; rfl, ?_⟩
       rw [HXR.out.1]
       exact (((HBW.out).setCell (p := ⟨RB, 0, none⟩) (Nat.le_of_lt HXR.out.2.1) _).setCell (p := ⟨RB, 1, none⟩) (Nat.le_of_lt HXR.out.2.1) _).drew
     ·obtain rfl : i = 2 := by omega
      have g1 : ¬ (2 : Int) < 2 := by decide
      obtain ⟨hx, hy⟩ := HXY.out
      have HE := zh (HTW.out.trans (ii F v false [a, b] pos pre HSD.out))
      rw [← hx, ← hy] at HE
      have x4 : wr.cell? ⟨X, 4, none⟩ = some (.int .i64 pos) := aa HXW.out (j := 4) rfl
      obtain ⟨c0, c1, -⟩ := css HSW.out
      clear hx hy
      have HN := zh (cg (x == y) 51 pos)
      generalize noC (x == y) 51 pos = q at *
      obtain ⟨qe, qa⟩ := q
      unfold bz at HN
      dsimp only at HN
      go_wp2_with fail
      refine (HN.out _).mono ?_
      rintro e w5 ⟨rfl, hb5⟩
      clear x4 c0 c1
      have HXW0 := HXW
      replace HXW := zh ((hb5.block _ (ad HXW.out)).trans HXW.out)
      replace HRW := zh ((hb5.block _ (ad HRW.out)).trans HRW.out)
      replace HSW := zh ((hb5.block _ (ad HSW.out)).trans HSW.out)
      replace HBW := zh (HBW.out.trans (hb5.mono (Nat.le_of_lt (ad HXW0.out))))
      replace HSZ := zh (Nat.le_trans HSZ.out hb5.size)
      clear hb5
      obtain ⟨r0, r1, -⟩ := css HRW.out
      obtain ⟨k0, k1, -⟩ := fzs HRW.out
      go_wp2_with fail
      refine bodyPost_ret (v := .tuple #[.int .i64 2, .agg #[.int .i64 qe, .int .i64 qa]]) (by simp [results, Tryz.results129, go_sem, r0, r1]) rfl ⟨by rw [HE.out]; rfl, ?_⟩
      rw [HXR.out.1]
      exact (((HBW.out).setCell (p := ⟨RB, 0, none⟩) (Nat.le_of_lt HXR.out.2.1) _).setCell (p := ⟨RB, 1, none⟩) (Nat.le_of_lt HXR.out.2.1) _)
   ·have hpl : (text.toList == [43]) = false := by simp [hp]
    have hpl2 : (text.toList == [61, 61]) = false := by simp [hp2]
    by_cases hp3 : text.toList = [33, 61]
    ·have hTW : fg F v text [a, b] pos = _ := rQ F v text [a, b] pos made hsg hp3
     have hpl3 : (text.toList == [33, 61]) = true := by simp [hp3]
     have HTW : Hid (C = di F v false [a, b] pos) := zh (HC.out.trans hTW)
     clear hTW HC
     obtain ⟨-, -, x2, x3, -⟩ := css HX.out
     go_upto_region 8 with fail
     have hbA := ae (Below.refl w1.heap.size w1) (.cells #[.int .i64 0, .int .i64 0] 177)
     have HSB : Hid ((w1.alloc (.cells #[.int .i64 0, .int .i64 0] 177)).heap[w1.heap.size]? = some (.cells #[.int .i64 0, .int .i64 0] 177 (0, 0))) := zh (ah _ _ _ rfl)
     have HSL : Hid (RB < w1.heap.size) := zh HXR.out.2.2.1
     clear x3 x2
     replace HX := zh ((hbA.block _ (ad HX.out)).trans HX.out)
     replace HR := zh ((hbA.block _ (ad HR.out)).trans HR.out)
     replace HB := zh (HB.out.trans (hbA.mono (xle HXR.out.1 HB.out.size)))
     clear hbA
     generalize w1.alloc (.cells #[.int .i64 0, .int .i64 0] 177) = w3 at *
     generalize w1.heap.size = SB at *
     have x3 : w3.cell? ⟨X, 3, none⟩ = some (.slice s 2 c) := aa HX.out (j := 3) rfl
     obtain ⟨cs, ⟨s0, cap, e, hle, hcm, _, hrow, hsz⟩, hit⟩ := HKS.out
     injection e with e1 e2 e3
     subst e1 e3
     have HROW := zh hrow
     have HIT := zh hit
     clear hrow hit hsz hle hcm e2
     go_wp2_with fail
     have HLL : Hid (∀ x, x ∈ [a, b] → gG cb F res x) := zh (fun x hx => by simp at hx; rcases hx with rfl | rfl; exact HXA.out; exact HXB.out)
     clear HXA HXB
     have HSB3 : Hid (X < w3.heap.size ∧ RB < w3.heap.size ∧ SB < w3.heap.size ∧ ¬ SB = X ∧ ¬ SB = RB ∧ X < SB) := zh (by have h1 := ad HX.out; have h2 := ad HR.out; have h3 := ad HSB.out; have h4 := HSL.out; have h5 := HXR.out; exact ⟨h1, h2, h3, by omega, by omega, by omega⟩)
     clear HSL x3
     go_loopg [55] 2 (fun q s55 wr => ∃ (i : Nat) (pre : List Int) (x y : Int), i + q = 2 ∧ s55 = .int .i64 (i : Int) ∧ cx F v false [a, b] i pre ∧ x = pre.getD 0 0 ∧ y = pre.getD 1 0 ∧ Below X w wr ∧ w3.heap.size ≤ wr.heap.size ∧ wr.heap[X]? = some (.cells #[.int .i64 op, .int .i64 num, .string text, .slice s 2 c, .int .i64 pos] 65 (0, 0)) ∧ wr.heap[RB]? = some (.cells #[.int .i64 0, .int .i64 0] 96 (0, 0)) ∧ wr.heap[SB]? = some (.cells #[.int .i64 x, .int .i64 y] 177 (0, 0)))
     case atStart => exact ⟨0, [], 0, 0, Nat.zero_add _, rfl, fS _ _ _ _, rfl, rfl, HB.out, Nat.le_refl _, HX.out, HR.out, HSB.out⟩
     case round =>
      obtain ⟨i, pre, x, y, hig, rfl, hsd, hx, hy, hb, hsz, hxx, hrr, hss⟩ := hrel
      have HSD := zh hsd
      have HXY := zh (And.intro hx hy)
      have HBW := zh hb
      have HSZ := zh hsz
      have HXW := zh hxx
      have HRW := zh hrr
      have HSW := zh hss
      clear hsd hx hy hb hsz hxx hrr hss HB HX HR HSB
      by_cases hil : i < 2
      ·have g1 : (i : Int) < 2 := by omega
       have g3 : (0 : Int) ≤ (i : Int) := by omega
       obtain ⟨eb, off, hs0, _, hbl, hcell⟩ := HROW.out (by simp)
       subst hs0
       have hrep := HIT.out i hil
       obtain ⟨eop, enum, etext, ev, epos, hcs, es, en, ec, hev⟩ := hrep.form
       subst hev
       rw [hcs] at hrep
       have hbl2 : eb < X := by rw [← HXR.out.1]; exact hbl
       have hc5 : ∀ j, j < 5 → wr.cell? ⟨eb, off + i * 5 + j, none⟩ = (cs i)[j]? := fun j hj => (HBW.out.cell (p := ⟨eb, _, none⟩) hbl2).trans (hcell i hil j hj)
       rw [hcs] at hc5
       have x0 : wr.cell? ⟨eb, off + i * 5, none⟩ = some (.int .i64 eop) := hc5 0 (by decide)
       have x1 : wr.cell? ⟨eb, off + i * 5 + 1, none⟩ = some (.int .i64 enum) := hc5 1 (by decide)
       have x2 : wr.cell? ⟨eb, off + i * 5 + 2, none⟩ = some (.string etext) := hc5 2 (by decide)
       have x3 : wr.cell? ⟨eb, off + i * 5 + 3, none⟩ = some (.slice es en ec) := hc5 3 (by decide)
       have x4 : wr.cell? ⟨eb, off + i * 5 + 4, none⟩ = some (.int .i64 epos) := hc5 4 (by decide)
       have HEP : Hid (([a, b].getD i default).pos = epos) := zh (by obtain ⟨_, e, _⟩ := bL hrep; rw [e]; rfl)
       have HREP := zh hrep
       have HMEM : Hid ([a, b].getD i default ∈ [a, b]) := zh (by rcases (show i = 0 ∨ i = 1 by omega) with rfl | rfl; exact List.mem_cons_self; exact List.mem_cons_of_mem _ List.mem_cons_self)
       have HCK := zh (fun W (hW : Below X w W) => HLL.out _ HMEM.out v vr W eop enum epos etext es en ec (HCT.out.below (by rw [HXR.out.1]; exact hW)) (HREP.out.keep (Stays.of_below (by rw [HXR.out.1]; exact hW))))
       have HSOK := zh (jF F v false [a, b] i pre)
       have HSBAD := zh (fun fe fa => ij F v false [a, b] pos i pre fe fa HSD.out hil)
       have HSF : Hid (bQ false (aG F v ([a, b].getD i default)) ([a, b].getD i default).pos = bQ false (aG F v ([a, b].getD i default)) epos) := zh (by rw [HEP.out])
       replace HSOK : Hid (∀ fa, bQ false (aG F v ([a, b].getD i default)) epos = (0, fa) → cx F v false [a, b] (i + 1) (pre ++ [(aG F v ([a, b].getD i default)).1])) := zh (fun fa h => HSOK.out fa HSD.out hil (HSF.out.trans h))
       replace HSBAD : Hid (∀ fe fa, bQ false (aG F v ([a, b].getD i default)) epos = (fe, fa) → ¬ fe = 0 → di F v false [a, b] pos = (0, (fe, fa))) := zh (fun fe fa h => HSBAD.out fe fa (HSF.out.trans h))
       clear hrep hc5 hcs hcell hbl hbl2 HSF HEP
       generalize aG F v ([a, b].getD i default) = q at *
       obtain ⟨t, fe, fa⟩ := q
       unfold bz at HCK
       dsimp only at HCK HSOK HSBAD
       go_upto_region 11 with fail
       have hbE := ae (Below.refl wr.heap.size wr) (.cells #[.int .i64 eop, .int .i64 enum, .string etext, .slice es en ec, .int .i64 epos] 65)
       have HXE : Hid ((wr.alloc (.cells #[.int .i64 eop, .int .i64 enum, .string etext, .slice es en ec, .int .i64 epos] 65)).heap[wr.heap.size]? = some (.cells #[.int .i64 eop, .int .i64 enum, .string etext, .slice es en ec, .int .i64 epos] 65 (0, 0))) := zh (ah _ _ _ rfl)
       have HEB : Hid (w3.heap.size ≤ wr.heap.size) := HSZ
       clear x0 x1 x2 x3 x4
       have HXW0 := HXW
       replace HXW := zh ((hbE.block _ (ad HXW.out)).trans HXW.out)
       replace HRW := zh ((hbE.block _ (ad HRW.out)).trans HRW.out)
       replace HSW := zh ((hbE.block _ (ad HSW.out)).trans HSW.out)
       replace HBW := zh (HBW.out.trans (hbE.mono (Nat.le_of_lt (ad HXW0.out))))
       replace HSZ := zh (Nat.le_trans HSZ.out hbE.size)
       clear HXW0
       clear hbE
       generalize (wr.alloc (.cells #[.int .i64 eop, .int .i64 enum, .string etext, .slice es en ec, .int .i64 epos] 65)) = w4 at *
       generalize wr.heap.size = EB at *
       obtain ⟨e0, e1, e2, e3, e4, -⟩ := css HXE.out
       go_wp2_with fail
       refine (HCK.out _ HBW.out).mono ?_
       rintro e w5 ⟨rfl, hb5⟩
       clear e0 e1 e2 e3 e4
       replace HXE := zh ((hb5.block _ (ad HXE.out)).trans HXE.out)
       have HXW0 := HXW
       replace HXW := zh ((hb5.block _ (ad HXW.out)).trans HXW.out)
       replace HRW := zh ((hb5.block _ (ad HRW.out)).trans HRW.out)
       replace HSW := zh ((hb5.block _ (ad HSW.out)).trans HSW.out)
       replace HBW := zh (HBW.out.trans (hb5.mono (Nat.le_of_lt (ad HXW0.out))))
       replace HSZ := zh (Nat.le_trans HSZ.out hb5.size)
       clear HXW0
       clear hb5
       go_upto_region 12 with fail
       have hb6 := ae (Below.refl w5.heap.size w5) (.cells #[.int .i64 fe, .int .i64 fa] 96)
       have HFW : Hid ((w5.alloc (.cells #[.int .i64 fe, .int .i64 fa] 96)).heap[w5.heap.size]? = some (.cells #[.int .i64 fe, .int .i64 fa] 96 (0, 0))) := zh (ah _ _ _ rfl)
       replace HXE := zh ((hb6.block _ (ad HXE.out)).trans HXE.out)
       have HFS : Hid (w3.heap.size ≤ w5.heap.size) := HSZ
       have HXW0 := HXW
       replace HXW := zh ((hb6.block _ (ad HXW.out)).trans HXW.out)
       replace HRW := zh ((hb6.block _ (ad HRW.out)).trans HRW.out)
       replace HSW := zh ((hb6.block _ (ad HSW.out)).trans HSW.out)
       replace HBW := zh (HBW.out.trans (hb6.mono (Nat.le_of_lt (ad HXW0.out))))
       replace HSZ := zh (Nat.le_trans HSZ.out hb6.size)
       clear HXW0
       clear hb6
       generalize (w5.alloc (.cells #[.int .i64 fe, .int .i64 fa] 96)) = w6 at *
       generalize w5.heap.size = FB at *
       have HNE : Hid (¬ X = FB ∧ ¬ RB = FB ∧ ¬ SB = FB ∧ ¬ FB = X ∧ ¬ FB = RB ∧ ¬ FB = SB ∧ X ≤ FB) := zh (by have := HSB3.out; have := HFS.out; exact ⟨by omega, by omega, by omega, by omega, by omega, by omega, by omega⟩)
       have f0 : w6.cell? ⟨FB, 0, none⟩ = some (.int .i64 fe) := aa HFW.out (j := 0) rfl
       by_cases he : fe = 0
       ·subst he
        by_cases ht : t = 0
        ·subst ht
         have hbv : ((0 : Int) != 0 && !(false && (0 : Int) == 2)) = false := by simp
         replace HSOK : Hid (∀ fa, noC false 51 epos = (0, fa) → cx F v false [a, b] (i + 1) (pre ++ [(0 : Int)])) := zh (fun fa h => HSOK.out fa (by unfold bQ; dsimp only; rw [if_pos rfl, hbv]; exact h))
         replace HSBAD : Hid (∀ fe fa, noC false 51 epos = (fe, fa) → ¬ fe = 0 → di F v false [a, b] pos = (0, (fe, fa))) := zh (fun fe fa h => HSBAD.out fe fa (by unfold bQ; dsimp only; rw [if_pos rfl, hbv]; exact h))
         clear hbv
         have e4 : w6.cell? ⟨EB, 4, none⟩ = some (.int .i64 epos) := aa HXE.out (j := 4) rfl
         have HN := zh (cg false 51 epos)
         generalize hnc : noC false 51 epos = q at *
         obtain ⟨ge, ga⟩ := q
         unfold bz at HN
         dsimp only at HN
         clear hnc
         go_wp2_with fail
         refine (HN.out _).mono ?_
         rintro e w7 ⟨rfl, hb7⟩
         clear f0 e4
         replace HFW := zh ((hb7.block _ (ad HFW.out)).trans HFW.out)
         have HXW0 := HXW
         replace HXW := zh ((hb7.block _ (ad HXW.out)).trans HXW.out)
         replace HRW := zh ((hb7.block _ (ad HRW.out)).trans HRW.out)
         replace HSW := zh ((hb7.block _ (ad HSW.out)).trans HSW.out)
         replace HBW := zh (HBW.out.trans (hb7.mono (Nat.le_of_lt (ad HXW0.out))))
         replace HSZ := zh (Nat.le_trans HSZ.out hb7.size)
         clear HXW0
         clear hb7
         obtain ⟨f0, f1, -⟩ := css HFW.out
         obtain ⟨k0, k1, -⟩ := fzs HFW.out
         go_upto_region 14 with fail
         clear f0 f1 k0 k1
         replace HFW : Hid (((w7.setCell ⟨FB, 0, none⟩ (.int .i64 ge)).setCell ⟨FB, 1, none⟩ (.int .i64 ga)).heap[FB]? = some (.cells #[.int .i64 ge, .int .i64 ga] 96 (0, 0))) := zh (ai (ai HFW.out 0 _) 1 _)
         replace HXW : Hid (((w7.setCell ⟨FB, 0, none⟩ (.int .i64 ge)).setCell ⟨FB, 1, none⟩ (.int .i64 ga)).heap[X]? = _) := zh ((af _ _ _ _ HNE.out.1).trans ((af _ _ _ _ HNE.out.1).trans HXW.out))
         replace HRW : Hid (((w7.setCell ⟨FB, 0, none⟩ (.int .i64 ge)).setCell ⟨FB, 1, none⟩ (.int .i64 ga)).heap[RB]? = _) := zh ((af _ _ _ _ HNE.out.2.1).trans ((af _ _ _ _ HNE.out.2.1).trans HRW.out))
         replace HSW : Hid (((w7.setCell ⟨FB, 0, none⟩ (.int .i64 ge)).setCell ⟨FB, 1, none⟩ (.int .i64 ga)).heap[SB]? = _) := zh ((af _ _ _ _ HNE.out.2.2.1).trans ((af _ _ _ _ HNE.out.2.2.1).trans HSW.out))
         replace HBW : Hid (Below X w ((w7.setCell ⟨FB, 0, none⟩ (.int .i64 ge)).setCell ⟨FB, 1, none⟩ (.int .i64 ga))) := zh ((HBW.out.setCell (p := ⟨FB, 0, none⟩) HNE.out.2.2.2.2.2.2 _).setCell (p := ⟨FB, 1, none⟩) HNE.out.2.2.2.2.2.2 _)
         replace HSZ : Hid (w3.heap.size ≤ ((w7.setCell ⟨FB, 0, none⟩ (.int .i64 ge)).setCell ⟨FB, 1, none⟩ (.int .i64 ga)).heap.size) := zh (by rw [ax, ax]; exact HSZ.out)
         generalize ((w7.setCell ⟨FB, 0, none⟩ (.int .i64 ge)).setCell ⟨FB, 1, none⟩ (.int .i64 ga)) = w8 at *
         have f0 : w8.cell? ⟨FB, 0, none⟩ = some (.int .i64 ge) := aa HFW.out (j := 0) rfl
         by_cases hge : ge = 0
         ·subst hge
          obtain ⟨c0, c1, -⟩ := css HSW.out
          obtain ⟨k0, k1, -⟩ := fzs HSW.out
          have HSD2 := zh (HSOK.out ga rfl)
          have HPL := zh HSD.out.1
          rcases (show i = 0 ∨ i = 1 by omega) with rfl | rfl
          ·go_wp2_with fail
           go_roundg 1
           case measure => omega
           case rel =>
            obtain ⟨hx, hy⟩ := HXY.out
            have hpl := HPL.out
            refine ⟨1, _, _, _, rfl, rfl, HSD2.out, ?_, ?_, HBW.out.setCell (p := ⟨SB, 0, none⟩) (Nat.le_of_lt HSB3.out.2.2.2.2.2) _, (by rw [ax]; exact HSZ.out), (af _ _ _ _ (Ne.symm HSB3.out.2.2.2.1)).trans HXW.out, (af _ _ _ _ (Ne.symm HSB3.out.2.2.2.2.1)).trans HRW.out, ai HSW.out 0 _⟩
            ·exact (fG hpl hx hy _).1
            ·exact (fG hpl hx hy _).2
          ·go_wp2_with fail
           go_roundg 0
           case measure => omega
           case rel =>
            obtain ⟨hx, hy⟩ := HXY.out
            have hpl := HPL.out
            refine ⟨2, _, _, _, rfl, rfl, HSD2.out, ?_, ?_, HBW.out.setCell (p := ⟨SB, 1, none⟩) (Nat.le_of_lt HSB3.out.2.2.2.2.2) _, (by rw [ax]; exact HSZ.out), (af _ _ _ _ (Ne.symm HSB3.out.2.2.2.1)).trans HXW.out, (af _ _ _ _ (Ne.symm HSB3.out.2.2.2.2.1)).trans HRW.out, ai HSW.out 1 _⟩
            ·exact (fH hpl hx hy _).1
            ·exact (fH hpl hx hy _).2
         ·have HSF : Hid ((ge, ga) = (ge, ga)) := zh rfl
          have HE := zh (HTW.out.trans (HSBAD.out ge ga HSF.out hge))
          obtain ⟨r0, r1, -⟩ := css HRW.out
          obtain ⟨k0, k1, -⟩ := fzs HRW.out
          have f1 : w8.cell? ⟨FB, 1, none⟩ = some (.int .i64 ga) := aa HFW.out (j := 1) rfl
          go_upto_region 15 with fail
          go_region
          go_wp2_with fail
          refine bodyPost_ret (v := .tuple #[.int .i64 0, .agg #[.int .i64 ge, .int .i64 ga]]) (by simp [results, Tryz.results129, go_sem, r0, r1]) rfl ⟨by rw [HE.out]; rfl, ?_⟩
          rw [HXR.out.1]
          exact (((HBW.out).setCell (p := ⟨RB, 0, none⟩) (Nat.le_of_lt HXR.out.2.1) _).setCell (p := ⟨RB, 1, none⟩) (Nat.le_of_lt HXR.out.2.1) _).drew
        ·have hbv : (t != 0 && !(false && t == 2)) = (t != 0) := by simp
         replace HSOK : Hid (∀ fa, noC (t != 0) 51 epos = (0, fa) → cx F v false [a, b] (i + 1) (pre ++ [t])) := zh (fun fa h => HSOK.out fa (by unfold bQ; dsimp only; rw [if_pos rfl, hbv]; exact h))
         replace HSBAD : Hid (∀ fe fa, noC (t != 0) 51 epos = (fe, fa) → ¬ fe = 0 → di F v false [a, b] pos = (0, (fe, fa))) := zh (fun fe fa h => HSBAD.out fe fa (by unfold bQ; dsimp only; rw [if_pos rfl, hbv]; exact h))
         clear hbv
         have e4 : w6.cell? ⟨EB, 4, none⟩ = some (.int .i64 epos) := aa HXE.out (j := 4) rfl
         have HN := zh (cg (t != 0) 51 epos)
         generalize hnc : noC (t != 0) 51 epos = q at *
         obtain ⟨ge, ga⟩ := q
         unfold bz at HN
         dsimp only at HN
         clear hnc
         go_wp2_with fail
         refine (HN.out _).mono ?_
         rintro e w7 ⟨rfl, hb7⟩
         clear f0 e4
         replace HFW := zh ((hb7.block _ (ad HFW.out)).trans HFW.out)
         have HXW0 := HXW
         replace HXW := zh ((hb7.block _ (ad HXW.out)).trans HXW.out)
         replace HRW := zh ((hb7.block _ (ad HRW.out)).trans HRW.out)
         replace HSW := zh ((hb7.block _ (ad HSW.out)).trans HSW.out)
         replace HBW := zh (HBW.out.trans (hb7.mono (Nat.le_of_lt (ad HXW0.out))))
         replace HSZ := zh (Nat.le_trans HSZ.out hb7.size)
         clear HXW0
         clear hb7
         obtain ⟨f0, f1, -⟩ := css HFW.out
         obtain ⟨k0, k1, -⟩ := fzs HFW.out
         go_upto_region 14 with fail
         clear f0 f1 k0 k1
         replace HFW : Hid (((w7.setCell ⟨FB, 0, none⟩ (.int .i64 ge)).setCell ⟨FB, 1, none⟩ (.int .i64 ga)).heap[FB]? = some (.cells #[.int .i64 ge, .int .i64 ga] 96 (0, 0))) := zh (ai (ai HFW.out 0 _) 1 _)
         replace HXW : Hid (((w7.setCell ⟨FB, 0, none⟩ (.int .i64 ge)).setCell ⟨FB, 1, none⟩ (.int .i64 ga)).heap[X]? = _) := zh ((af _ _ _ _ HNE.out.1).trans ((af _ _ _ _ HNE.out.1).trans HXW.out))
         replace HRW : Hid (((w7.setCell ⟨FB, 0, none⟩ (.int .i64 ge)).setCell ⟨FB, 1, none⟩ (.int .i64 ga)).heap[RB]? = _) := zh ((af _ _ _ _ HNE.out.2.1).trans ((af _ _ _ _ HNE.out.2.1).trans HRW.out))
         replace HSW : Hid (((w7.setCell ⟨FB, 0, none⟩ (.int .i64 ge)).setCell ⟨FB, 1, none⟩ (.int .i64 ga)).heap[SB]? = _) := zh ((af _ _ _ _ HNE.out.2.2.1).trans ((af _ _ _ _ HNE.out.2.2.1).trans HSW.out))
         replace HBW : Hid (Below X w ((w7.setCell ⟨FB, 0, none⟩ (.int .i64 ge)).setCell ⟨FB, 1, none⟩ (.int .i64 ga))) := zh ((HBW.out.setCell (p := ⟨FB, 0, none⟩) HNE.out.2.2.2.2.2.2 _).setCell (p := ⟨FB, 1, none⟩) HNE.out.2.2.2.2.2.2 _)
         replace HSZ : Hid (w3.heap.size ≤ ((w7.setCell ⟨FB, 0, none⟩ (.int .i64 ge)).setCell ⟨FB, 1, none⟩ (.int .i64 ga)).heap.size) := zh (by rw [ax, ax]; exact HSZ.out)
         generalize ((w7.setCell ⟨FB, 0, none⟩ (.int .i64 ge)).setCell ⟨FB, 1, none⟩ (.int .i64 ga)) = w8 at *
         have f0 : w8.cell? ⟨FB, 0, none⟩ = some (.int .i64 ge) := aa HFW.out (j := 0) rfl
         by_cases hge : ge = 0
         ·subst hge
          obtain ⟨c0, c1, -⟩ := css HSW.out
          obtain ⟨k0, k1, -⟩ := fzs HSW.out
          have HSD2 := zh (HSOK.out ga rfl)
          have HPL := zh HSD.out.1
          rcases (show i = 0 ∨ i = 1 by omega) with rfl | rfl
          ·go_wp2_with fail
           go_roundg 1
           case measure => omega
           case rel =>
            obtain ⟨hx, hy⟩ := HXY.out
            have hpl := HPL.out
            refine ⟨1, _, _, _, rfl, rfl, HSD2.out, ?_, ?_, HBW.out.setCell (p := ⟨SB, 0, none⟩) (Nat.le_of_lt HSB3.out.2.2.2.2.2) _, (by rw [ax]; exact HSZ.out), (af _ _ _ _ (Ne.symm HSB3.out.2.2.2.1)).trans HXW.out, (af _ _ _ _ (Ne.symm HSB3.out.2.2.2.2.1)).trans HRW.out, ai HSW.out 0 _⟩
            ·exact (fG hpl hx hy _).1
            ·exact (fG hpl hx hy _).2
          ·go_wp2_with fail
           go_roundg 0
           case measure => omega
           case rel =>
            obtain ⟨hx, hy⟩ := HXY.out
            have hpl := HPL.out
            refine ⟨2, _, _, _, rfl, rfl, HSD2.out, ?_, ?_, HBW.out.setCell (p := ⟨SB, 1, none⟩) (Nat.le_of_lt HSB3.out.2.2.2.2.2) _, (by rw [ax]; exact HSZ.out), (af _ _ _ _ (Ne.symm HSB3.out.2.2.2.1)).trans HXW.out, (af _ _ _ _ (Ne.symm HSB3.out.2.2.2.2.1)).trans HRW.out, ai HSW.out 1 _⟩
            ·exact (fH hpl hx hy _).1
            ·exact (fH hpl hx hy _).2
         ·have HSF : Hid ((ge, ga) = (ge, ga)) := zh rfl
          have HE := zh (HTW.out.trans (HSBAD.out ge ga HSF.out hge))
          obtain ⟨r0, r1, -⟩ := css HRW.out
          obtain ⟨k0, k1, -⟩ := fzs HRW.out
          have f1 : w8.cell? ⟨FB, 1, none⟩ = some (.int .i64 ga) := aa HFW.out (j := 1) rfl
          go_upto_region 15 with fail
          go_region
          go_wp2_with fail
          refine bodyPost_ret (v := .tuple #[.int .i64 0, .agg #[.int .i64 ge, .int .i64 ga]]) (by simp [results, Tryz.results129, go_sem, r0, r1]) rfl ⟨by rw [HE.out]; rfl, ?_⟩
          rw [HXR.out.1]
          exact (((HBW.out).setCell (p := ⟨RB, 0, none⟩) (Nat.le_of_lt HXR.out.2.1) _).setCell (p := ⟨RB, 1, none⟩) (Nat.le_of_lt HXR.out.2.1) _).drew
       ·have HSF : Hid (bQ false (t, (fe, fa)) epos = (fe, fa)) := zh (by unfold bQ; exact if_neg he)
        have HE := zh (HTW.out.trans (HSBAD.out fe fa HSF.out he))
        obtain ⟨r0, r1, -⟩ := css HRW.out
        obtain ⟨k0, k1, -⟩ := fzs HRW.out
        have f1 : w6.cell? ⟨FB, 1, none⟩ = some (.int .i64 fa) := aa HFW.out (j := 1) rfl
        go_upto_region 15 with fail
        go_region
        go_wp2_with fail
        refine bodyPost_ret (v := .tuple #[.int .i64 0, .agg #[.int .i64 fe, .int .i64 fa]]) (by simp [results, Tryz.results129, go_sem, r0, r1]) rfl ⟨by rw [HE.out]; rfl, ?_⟩
        rw [HXR.out.1]
        exact (((HBW.out).setCell (p := ⟨RB, 0, none⟩) (Nat.le_of_lt HXR.out.2.1) _).setCell (p := ⟨RB, 1, none⟩) (Nat.le_of_lt HXR.out.2.1) _).drew
      ·obtain rfl : i = 2 := by omega
       have g1 : ¬ (2 : Int) < 2 := by decide
       obtain ⟨hx, hy⟩ := HXY.out
       have HE := zh (HTW.out.trans (ii F v false [a, b] pos pre HSD.out))
       rw [← hx, ← hy] at HE
       have x4 : wr.cell? ⟨X, 4, none⟩ = some (.int .i64 pos) := aa HXW.out (j := 4) rfl
       obtain ⟨c0, c1, -⟩ := css HSW.out
       clear hx hy
       have HN := zh (cg (x == y) 51 pos)
       generalize noC (x == y) 51 pos = q at *
       obtain ⟨qe, qa⟩ := q
       unfold bz at HN
       dsimp only at HN
       go_wp2_with fail
       refine (HN.out _).mono ?_
       rintro e w5 ⟨rfl, hb5⟩
       clear x4 c0 c1
       have HXW0 := HXW
       replace HXW := zh ((hb5.block _ (ad HXW.out)).trans HXW.out)
       replace HRW := zh ((hb5.block _ (ad HRW.out)).trans HRW.out)
       replace HSW := zh ((hb5.block _ (ad HSW.out)).trans HSW.out)
       replace HBW := zh (HBW.out.trans (hb5.mono (Nat.le_of_lt (ad HXW0.out))))
       replace HSZ := zh (Nat.le_trans HSZ.out hb5.size)
       clear hb5
       obtain ⟨r0, r1, -⟩ := css HRW.out
       obtain ⟨k0, k1, -⟩ := fzs HRW.out
       go_wp2_with fail
       refine bodyPost_ret (v := .tuple #[.int .i64 2, .agg #[.int .i64 qe, .int .i64 qa]]) (by simp [results, Tryz.results129, go_sem, r0, r1]) rfl ⟨by rw [HE.out]; rfl, ?_⟩
       rw [HXR.out.1]
       exact (((HBW.out).setCell (p := ⟨RB, 0, none⟩) (Nat.le_of_lt HXR.out.2.1) _).setCell (p := ⟨RB, 1, none⟩) (Nat.le_of_lt HXR.out.2.1) _)
    ·have hpl3 : (text.toList == [33, 61]) = false := by simp [hp3]
     have HE := zh (HC.out.trans (pQ F v text [a, b] pos made hsg hp hp2 hp3))
     obtain ⟨-, -, x2, -, x4, -⟩ := css HX.out
     obtain ⟨r0, r1, -⟩ := css HR.out
     obtain ⟨k0, k1, -⟩ := fzs HR.out
     go_upto_region 6 with fail
     go_region
     go_wp2_with fail
     refine bodyPost_ret (v := .tuple #[.int .i64 0, .agg #[.int .i64 51, .int .i64 pos]]) (by simp [results, Tryz.results129, go_sem, r0, r1]) rfl ⟨by rw [HE.out]; rfl, ?_⟩
     rw [HXR.out.1]
     exact (((HB.out).setCell (p := ⟨RB, 0, none⟩) (Nat.le_of_lt HXR.out.2.1) _).setCell (p := ⟨RB, 1, none⟩) (Nat.le_of_lt HXR.out.2.1) _).drew
 ·have HE : Hid (C = (made, bV F v [a, b] [side, side])) := zh (HC.out.trans (by unfold fg; rw [hsg]; exact if_pos hside))
  have HTY : Hid (TysAt (w1.alloc (.cells #[.int .i64 side, .int .i64 side] 32)) (.slice (some ⟨w1.heap.size, 0, none⟩) 2 2) [side, side]) := zh ⟨_, 2, rfl, by show (2:Nat) ≤ 1000000; decide, fun _ => ⟨_, 0, rfl, by rw [ag]; exact Nat.lt_succ_self _, fun i hi => by
    rw [Nat.zero_add]
    have hi2 : i < 2 := hi
    rcases (show i = 0 ∨ i = 1 by omega) with rfl | rfl
    · exact aw _ _ _ _ _ _ rfl rfl
    · exact aw _ _ _ _ _ _ rfl rfl⟩⟩
  have hbA := ae (Below.refl w1.heap.size w1) (.cells #[.int .i64 side, .int .i64 side] 32)
  have x3 : w1.cell? ⟨X, 3, none⟩ = some (.slice s 2 c) := aa HX.out (j := 3) rfl
  replace HX := zh ((hbA.block _ (ad HX.out)).trans HX.out)
  replace HR := zh ((hbA.block _ (ad HR.out)).trans HR.out)
  replace HB := zh (HB.out.trans (hbA.mono (xle HXR.out.1 HB.out.size)))
  clear hbA
  have HALL := zh (fh cb F res [a, b] (fun x hx => by simp at hx; rcases hx with rfl | rfl; exact HXA.out; exact HXB.out) v vr _ (.slice s 2 c) _ [side, side] (HCT.out.below (by rw [HXR.out.1]; exact HB.out)) (HKS.out.keep (Stays.of_below (by rw [HXR.out.1]; exact HB.out))) HTY.out (Nat.le_refl _))
  generalize bV F v [a, b] [side, side] = q at *
  obtain ⟨qe, qa⟩ := q
  unfold bz at HALL
  dsimp only at HALL
  go_wp2_with fail
  clear x3
  refine HALL.out.mono ?_
  rintro e w3 ⟨rfl, hb3⟩
  replace HX := zh ((hb3.block _ (ad HX.out)).trans HX.out)
  replace HR := zh ((hb3.block _ (ad HR.out)).trans HR.out)
  replace HB := zh (HB.out.trans (hb3.mono (xle HXR.out.1 HB.out.size)))
  clear hb3
  obtain ⟨r0, r1, -⟩ := css HR.out
  obtain ⟨k0, k1, -⟩ := fzs HR.out
  go_wp2_with fail
  refine bodyPost_ret (v := .tuple #[.int .i64 made, .agg #[.int .i64 qe, .int .i64 qa]]) (by simp [results, Tryz.results129, go_sem, r0, r1]) rfl ⟨by rw [HE.out]; rfl, ?_⟩
  rw [HXR.out.1]
  exact (HB.out.setCell (p := ⟨RB, 0, none⟩) (Nat.le_of_lt HXR.out.2.1) _).setCell (p := ⟨RB, 1, none⟩) (Nat.le_of_lt HXR.out.2.1) _
end
end Go.Proofs.YtjblihabklemfaaGreatDoor
