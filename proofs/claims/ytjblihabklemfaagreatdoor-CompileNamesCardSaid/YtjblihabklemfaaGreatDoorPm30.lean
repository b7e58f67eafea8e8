/-
  Compile: part 30 of its proof: see the last text.
-/
import Derived.Test.YtjblihabklemfaaGreatDoorPm29
set_option maxRecDepth 100000
set_option maxHeartbeats 16000000
namespace Go.Proofs.YtjblihabklemfaaGreatDoor
section
open Go.RowKit
theorem eJ (F : aQ) (v : aV) (op num : Int) (text : ByteArray) (ks : List Ex) (pos : Int) (h : cf op = -2 ∨ (0 ≤ cf op ∧ cf op ≠ ks.length)) : aG F v (.mk op num text ks pos) = (0, (51, pos)) := by
 rw [aG, if_pos h]
theorem tH (F : aQ) (v : aV) (num : Int) (text : ByteArray) (ks : List Ex) (pos : Int) (h : ks.length = 0) : aG F v (.mk 1 num text ks pos) = (1, okF) := by rw [aG]; simp [cf, h]
theorem tF (F : aQ) (v : aV) (num : Int) (text : ByteArray) (ks : List Ex) (pos : Int) (h : ks.length = 0) : aG F v (.mk 2 num text ks pos) = (2, okF) := by rw [aG]; simp [cf, h]
theorem tE (F : aQ) (v : aV) (num : Int) (text : ByteArray) (ks : List Ex) (pos : Int) (h : ks.length = 0) : aG F v (.mk 3 num text ks pos) = (3, okF) := by rw [aG]; simp [cf, h]
theorem tB (F : aQ) (v : aV) (num : Int) (text : ByteArray) (ks : List Ex) (pos : Int) (h : ks.length = 0) : aG F v (.mk 4 num text ks pos) = (((aF v text).getD (0, false)).1, noC (aF v text).isSome 52 pos) := by rw [aG]; simp [cf, h]
theorem tD (F : aQ) (v : aV) (num : Int) (text : ByteArray) (ks : List Ex) (pos : Int) : aG F v (.mk 5 num text ks pos) = gB F v text ks pos := by rw [aG]; unfold gB; simp [cf]; cases aF F text <;> rfl
theorem tp (F : aQ) (v : aV) (num : Int) (text : ByteArray) (ks : List Ex) (pos : Int) (h : ks.length = 2) : aG F v (.mk 6 num text ks pos) = fg F v text ks pos := by rw [aG]; unfold fg; simp [cf, h]
theorem td (F : aQ) (v : aV) (num : Int) (text : ByteArray) (ks : List Ex) (pos : Int) (h : ks.length = 1) (h1 : text.toList = [45]) : aG F v (.mk 7 num text ks pos) = (1, bV F v ks [1]) := by rw [aG]; simp [cf, h, h1]
theorem sG (F : aQ) (v : aV) (num : Int) (text : ByteArray) (ks : List Ex) (pos : Int) (h : ks.length = 1) (h1 : text.toList = [33]) : aG F v (.mk 7 num text ks pos) = (2, bV F v ks [2]) := by rw [aG]; simp [cf, h, h1]
theorem te (F : aQ) (v : aV) (num : Int) (text : ByteArray) (ks : List Ex) (pos : Int) (h : ks.length = 1) (h1 : ¬ text.toList = [45]) (h2 : ¬ text.toList = [33]) : aG F v (.mk 7 num text ks pos) = (0, (51, pos)) := by rw [aG]; simp [cf, h, h1, h2]
theorem tz (F : aQ) (v : aV) (num : Int) (text : ByteArray) (ks : List Ex) (pos : Int) (h : ks.length = 1) : aG F v (.mk 8 num text ks pos) = (3, bV F v ks [3]) := by rw [aG]; simp [cf, h]
theorem tq (F : aQ) (v : aV) (num : Int) (text : ByteArray) (ks : List Ex) (pos : Int) (h : ks.length = 1) : aG F v (.mk 9 num text ks pos) = (2, bV F v ks [3]) := by rw [aG]; simp [cf, h]
theorem rZ (F : aQ) (v : aV) (num : Int) (text : ByteArray) (ks : List Ex) (pos : Int) (h : ks.length = 1) : aG F v (.mk 10 num text ks pos) = (1, bV F v ks [3]) := by rw [aG]; simp [cf, h]
theorem nz (cb : Nat) (F : aQ) (res : Int) (hF : ∀ p, p ∈ F → p.2.params.length ≤ 100000) (op num : Int) (text : ByteArray) (ks : List Ex) (pos : Int) (hl : ∀ x, x ∈ ks → gG cb F res x) : gG cb F res (.mk op num text ks pos) := by
 intro v vr w op num' pos' text' s n c h hr
 obtain ⟨ks2, e, hn, hks⟩ := bL hr
 injection e with e0 e1 e2 e3 e4
 subst e0 e1 e2 e3 e4
 have HN := zh hn
 have HCT := zh h
 have HL := zh hl
 have HF := zh hF
 have HKS := zh hks
 have HREP := zh hr
 generalize hC : aG F v (.mk op num text ks pos) = C
 have HC := zh hC.symm
 have HB : Hid (Below w.heap.size w ((w.alloc (.cells #[.int .i64 op, .int .i64 num, .string text, .slice s n c, .int .i64 pos] 65)).alloc (.cells #[.int .i64 0, .int .i64 0] 96))) := zh (ae (ae (Below.refl _ _) _) _)
 have HX : Hid (((w.alloc (.cells #[.int .i64 op, .int .i64 num, .string text, .slice s n c, .int .i64 pos] 65)).alloc (.cells #[.int .i64 0, .int .i64 0] 96)).heap[w.heap.size]? = some (.cells #[.int .i64 op, .int .i64 num, .string text, .slice s n c, .int .i64 pos] 65 (0, 0))) := zh (au _ _ _ _ (ah _ _ _ rfl))
 have HR : Hid (((w.alloc (.cells #[.int .i64 op, .int .i64 num, .string text, .slice s n c, .int .i64 pos] 65)).alloc (.cells #[.int .i64 0, .int .i64 0] 96)).heap[w.heap.size + 1]? = some (.cells #[.int .i64 0, .int .i64 0] 96 (0, 0))) := zh (ah _ _ _ (ag _ _))
 clear h hr hl hF hks hn hC
 go_enter Tryz.func103, Tryz.ntmps103
 go_upto_region 1 with fail
 generalize ((w.alloc (.cells #[.int .i64 op, .int .i64 num, .string text, .slice s n c, .int .i64 pos] 65)).alloc (.cells #[.int .i64 0, .int .i64 0] 96)) = w1 at *
 have HXR : Hid (w.heap.size < w.heap.size + 1 ∧ w.heap.size + 1 < w1.heap.size) := zh ⟨Nat.lt_succ_self _, ad HR.out⟩
 generalize hRB : w.heap.size + 1 = RB at *
 generalize hX : w.heap.size = X at *
 replace HXR : Hid (w.heap.size = X ∧ X < RB ∧ RB < w1.heap.size) := zh ⟨hX, HXR.out.1, HXR.out.2⟩
 clear hRB hX
 have hne : ¬ RB = X := by have := HXR.out; omega
 have hne2 : ¬ X = RB := by have := HXR.out; omega
 have x4 : w1.cell? ⟨X, 4, none⟩ = some (.int .i64 pos) := aa HX.out (j := 4) rfl
 go_upto_region 2 with fail
 have hb2 := ae (Below.refl w1.heap.size w1) (.cells #[.int .i64 51, .int .i64 pos] 96)
 have HW : Hid ((w1.alloc (.cells #[.int .i64 51, .int .i64 pos] 96)).heap[w1.heap.size]? = some (.cells #[.int .i64 51, .int .i64 pos] 96 (0, 0))) := zh (ah _ _ _ rfl)
 have HWX : Hid (RB < w1.heap.size) := zh HXR.out.2.2
 have HX0 := HX
 replace HX := zh ((hb2.block _ (ad HX.out)).trans HX.out)
 replace HR := zh ((hb2.block _ (ad HR.out)).trans HR.out)
 replace HB := zh (HB.out.trans (hb2.mono (Nat.le_of_lt (ad HX0.out))))
 clear HX0
 clear hb2 x4
 generalize (w1.alloc (.cells #[.int .i64 51, .int .i64 pos] 96)) = w2 at *
 generalize w1.heap.size = WB at *
 obtain ⟨x0, x1, x2, x3, x4, -⟩ := css HX.out
 go_upto_region 3 with (refine (pG op num pos text s n c _).mono ?_; rintro e w3 ⟨rfl, hb3⟩)
 replace HW := zh ((hb3.block _ (ad HW.out)).trans HW.out)
 have HX0 := HX
 replace HX := zh ((hb3.block _ (ad HX.out)).trans HX.out)
 replace HR := zh ((hb3.block _ (ad HR.out)).trans HR.out)
 replace HB := zh (HB.out.trans (hb3.mono (Nat.le_of_lt (ad HX0.out))))
 clear HX0
 clear hb3 x0 x1 x2 x3 x4
 generalize hk : cf op = kn at *
 by_cases hop : op = 1
 ·subst hop
  obtain rfl : kn = 0 := by rw [← hk]; decide
  clear hk
  by_cases hlen : n = 0
  ·subst hlen
   have HE : Hid (C = (1, okF)) := zh (HC.out.trans (tH F v num text ks pos HN.out.symm))
   obtain ⟨x0, -, -, x3, -⟩ := css HX.out
   obtain ⟨r0, r1, -⟩ := css HR.out
   obtain ⟨k0, k1, -⟩ := fzs HR.out
   go_wp2_with fail
   refine bodyPost_ret (v := .tuple #[.int .i64 1, .agg #[.int .i64 0, .int .i64 0]]) (by simp [results, Tryz.results103, go_sem, r0, r1]) rfl ⟨by rw [HE.out]; rfl, ?_⟩
   rw [HXR.out.1]
   exact ((HB.out.setCell (p := ⟨RB, 0, none⟩) (Nat.le_of_lt HXR.out.2.1) _).setCell (p := ⟨RB, 1, none⟩) (Nat.le_of_lt HXR.out.2.1) _)
  ·have g1 : ¬ ((0 : Int) = (n : Int)) := by omega
   have HE : Hid (C = (0, (51, pos))) := zh (HC.out.trans (eJ F v _ num text ks pos (.inr ⟨by decide, by rw [← HN.out]; show ¬ ((0 : Int) = (n : Int)); omega⟩)))
   obtain ⟨x0, -, -, x3, -⟩ := css HX.out
   obtain ⟨r0, r1, -⟩ := css HR.out
   obtain ⟨k0, k1, -⟩ := fzs HR.out
   obtain ⟨f0, f1, -⟩ := css HW.out
   go_upto_region 4 with fail
   go_region
   go_wp2_with fail
   refine bodyPost_ret (v := .tuple #[.int .i64 0, .agg #[.int .i64 51, .int .i64 pos]]) (by simp [results, Tryz.results103, go_sem, r0, r1]) rfl ⟨by rw [HE.out]; rfl, ?_⟩
   rw [HXR.out.1]
   exact ((HB.out.setCell (p := ⟨RB, 0, none⟩) (Nat.le_of_lt HXR.out.2.1) _).setCell (p := ⟨RB, 1, none⟩) (Nat.le_of_lt HXR.out.2.1) _).drew
 by_cases h_2 : op = 2
 ·have hop := h_2
  clear h_2
  subst hop
  obtain rfl : kn = 0 := by rw [← hk]; decide
  clear hk
  by_cases hlen : n = 0
  ·subst hlen
   have HE : Hid (C = (2, okF)) := zh (HC.out.trans (tF F v num text ks pos HN.out.symm))
   obtain ⟨x0, -, -, x3, -⟩ := css HX.out
   obtain ⟨r0, r1, -⟩ := css HR.out
   obtain ⟨k0, k1, -⟩ := fzs HR.out
   go_wp2_with fail
   refine bodyPost_ret (v := .tuple #[.int .i64 2, .agg #[.int .i64 0, .int .i64 0]]) (by simp [results, Tryz.results103, go_sem, r0, r1]) rfl ⟨by rw [HE.out]; rfl, ?_⟩
   rw [HXR.out.1]
   exact ((HB.out.setCell (p := ⟨RB, 0, none⟩) (Nat.le_of_lt HXR.out.2.1) _).setCell (p := ⟨RB, 1, none⟩) (Nat.le_of_lt HXR.out.2.1) _)
  ·have g1 : ¬ ((0 : Int) = (n : Int)) := by omega
   have HE : Hid (C = (0, (51, pos))) := zh (HC.out.trans (eJ F v _ num text ks pos (.inr ⟨by decide, by rw [← HN.out]; show ¬ ((0 : Int) = (n : Int)); omega⟩)))
   obtain ⟨x0, -, -, x3, -⟩ := css HX.out
   obtain ⟨r0, r1, -⟩ := css HR.out
   obtain ⟨k0, k1, -⟩ := fzs HR.out
   obtain ⟨f0, f1, -⟩ := css HW.out
   go_upto_region 4 with fail
   go_region
   go_wp2_with fail
   refine bodyPost_ret (v := .tuple #[.int .i64 0, .agg #[.int .i64 51, .int .i64 pos]]) (by simp [results, Tryz.results103, go_sem, r0, r1]) rfl ⟨by rw [HE.out]; rfl, ?_⟩
   rw [HXR.out.1]
   exact ((HB.out.setCell (p := ⟨RB, 0, none⟩) (Nat.le_of_lt HXR.out.2.1) _).setCell (p := ⟨RB, 1, none⟩) (Nat.le_of_lt HXR.out.2.1) _).drew
 by_cases h_3 : op = 3
 ·have hop := h_3
  clear h_3
  subst hop
  obtain rfl : kn = 0 := by rw [← hk]; decide
  clear hk
  by_cases hlen : n = 0
  ·subst hlen
   have HE : Hid (C = (3, okF)) := zh (HC.out.trans (tE F v num text ks pos HN.out.symm))
   obtain ⟨x0, -, -, x3, -⟩ := css HX.out
   obtain ⟨r0, r1, -⟩ := css HR.out
   obtain ⟨k0, k1, -⟩ := fzs HR.out
   go_wp2_with fail
   refine bodyPost_ret (v := .tuple #[.int .i64 3, .agg #[.int .i64 0, .int .i64 0]]) (by simp [results, Tryz.results103, go_sem, r0, r1]) rfl ⟨by rw [HE.out]; rfl, ?_⟩
   rw [HXR.out.1]
   exact ((HB.out.setCell (p := ⟨RB, 0, none⟩) (Nat.le_of_lt HXR.out.2.1) _).setCell (p := ⟨RB, 1, none⟩) (Nat.le_of_lt HXR.out.2.1) _)
  ·have g1 : ¬ ((0 : Int) = (n : Int)) := by omega
   have HE : Hid (C = (0, (51, pos))) := zh (HC.out.trans (eJ F v _ num text ks pos (.inr ⟨by decide, by rw [← HN.out]; show ¬ ((0 : Int) = (n : Int)); omega⟩)))
   obtain ⟨x0, -, -, x3, -⟩ := css HX.out
   obtain ⟨r0, r1, -⟩ := css HR.out
   obtain ⟨k0, k1, -⟩ := fzs HR.out
   obtain ⟨f0, f1, -⟩ := css HW.out
   go_upto_region 4 with fail
   go_region
   go_wp2_with fail
   refine bodyPost_ret (v := .tuple #[.int .i64 0, .agg #[.int .i64 51, .int .i64 pos]]) (by simp [results, Tryz.results103, go_sem, r0, r1]) rfl ⟨by rw [HE.out]; rfl, ?_⟩
   rw [HXR.out.1]
   exact ((HB.out.setCell (p := ⟨RB, 0, none⟩) (Nat.le_of_lt HXR.out.2.1) _).setCell (p := ⟨RB, 1, none⟩) (Nat.le_of_lt HXR.out.2.1) _).drew
 by_cases h_4 : op = 4
 ·have hop := h_4
  clear h_4
  subst hop
  obtain rfl : kn = 0 := by rw [← hk]; decide
  clear hk
  by_cases hlen : n = 0
  ·subst hlen
   have HE0 := zh (HC.out.trans (tB F v num text ks pos HN.out.symm))
   obtain ⟨x0, -, x2, x3, -⟩ := css HX.out
   have hlk := gy (HCT.out.below (by rw [HXR.out.1]; exact HB.out)).view text
   have HNN := zh (cg (aF v text).isSome 52 pos)
   generalize (aF v text).getD (0, false) = nm at *
   generalize (aF v text).isSome = is at *
   obtain ⟨nt, nf⟩ := nm
   unfold nmV at hlk
   dsimp only at hlk HE0
   generalize noC is 52 pos = q at *
   obtain ⟨qe, qa⟩ := q
   unfold bz at HNN
   dsimp only at HNN
   go_upto_region 14 with fail
   have HNB : Hid ((w3.alloc (.cells #[.int .i64 nt, .bool nf] 123)).heap[w3.heap.size]? = some (.cells #[.int .i64 nt, .bool nf] 123 (0, 0))) := zh (ah _ _ _ rfl)
   have hbA := ae (Below.refl w3.heap.size w3) (.cells #[.int .i64 nt, .bool nf] 123)
   have HX0 := HX
   replace HX := zh ((hbA.block _ (ad HX.out)).trans HX.out)
   replace HR := zh ((hbA.block _ (ad HR.out)).trans HR.out)
   replace HB := zh (HB.out.trans (hbA.mono (Nat.le_of_lt (ad HX0.out))))
   clear HX0
   clear hbA x0 x2 x3 hlk
   generalize (w3.alloc (.cells #[.int .i64 nt, .bool nf] 123)) = w4 at *
   generalize w3.heap.size = NB at *
   have HS0 : Hid (w4.drew.cell? ⟨NB, 0, none⟩ = some (.int .i64 nt) ∧ w4.drew.cell? ⟨X, 4, none⟩ = some (.int .i64 pos)) := zh ⟨aa HNB.out (j := 0) rfl, aa HX.out (j := 4) rfl⟩
   have hs0 := HS0.out
   refine az (S := (fun w' : World => w'.cell? ⟨NB, 0, none⟩ = some (.int .i64 nt) ∧ w'.cell? ⟨X, 4, none⟩ = some (.int .i64 pos))) 6 (by kernel_rfl) (by kernel_rfl) (by exact HS0.out) (fun hHeld => ?_)
   simp only [List.take_succ_cons, List.take_zero, List.drop_succ_cons, List.drop_zero]
   refine tkA 0 ?_
   refine tkA 1 ?_
   refine tkA 2 ?_
   refine tkA 3 ?_
   refine tkA 4 ?_
   refine rd1 5 fun K hK => ?_
   go_simp
   go_at_call 53
   refine (HNN.out _).mono ?_
   rintro e w5 ⟨rfl, hb5⟩
   have hb5' : Below w4.heap.size w4 w5 := ak (av (Below.refl _ _)) hb5
   have HS5 : Hid (w5.cell? ⟨NB, 0, none⟩ = some (.int .i64 nt) ∧ w5.cell? ⟨X, 4, none⟩ = some (.int .i64 pos)) := zh ⟨(hb5'.cell (p := ⟨NB, 0, none⟩) (ad HNB.out)).trans HS0.out.1, (hb5'.cell (p := ⟨X, 4, none⟩) (ad HX.out)).trans HS0.out.2⟩
   have HX0 := HX
   replace HX := zh ((hb5'.block _ (ad HX.out)).trans HX.out)
   replace HR := zh ((hb5'.block _ (ad HR.out)).trans HR.out)
   replace HB := zh (HB.out.trans (hb5'.mono (Nat.le_of_lt (ad HX0.out))))
   clear HX0
   clear hb5 hb5'
   go_simp
   refine hK.out _ _ ?_ (fun hHeld => ?_)
   ·(try dsimp only)
    exact HS5.out
   clear hK K
   try go_simp
   refine wpAnyH_done (by kernel_rfl) ?_ _
   dsimp only [bT]
   obtain ⟨r0, r1, -⟩ := css HR.out
   obtain ⟨k0, k1, -⟩ := fzs HR.out
   have HE := zh HE0.out
   go_wp2_with fail
   refine bodyPost_ret (v := .tuple #[.int .i64 nt, .agg #[.int .i64 qe, .int .i64 qa]]) (by simp [results, Tryz.results103, go_sem, r0, r1]) rfl ⟨by rw [HE.out]; rfl, ?_⟩
   rw [HXR.out.1]
   exact ((HB.out.setCell (p := ⟨RB, 0, none⟩) (Nat.le_of_lt HXR.out.2.1) _).setCell (p := ⟨RB, 1, none⟩) (Nat.le_of_lt HXR.out.2.1) _)
  ·have g1 : ¬ ((0 : Int) = (n : Int)) := by omega
   have HE : Hid (C = (0, (51, pos))) := zh (HC.out.trans (eJ F v _ num text ks pos (.inr ⟨by decide, by rw [← HN.out]; show ¬ ((0 : Int) = (n : Int)); omega⟩)))
   obtain ⟨x0, -, -, x3, -⟩ := css HX.out
   obtain ⟨r0, r1, -⟩ := css HR.out
   obtain ⟨k0, k1, -⟩ := fzs HR.out
   obtain ⟨f0, f1, -⟩ := css HW.out
   go_upto_region 4 with fail
   go_region
   go_wp2_with fail
   refine bodyPost_ret (v := .tuple #[.int .i64 0, .agg #[.int .i64 51, .int .i64 pos]]) (by simp [results, Tryz.results103, go_sem, r0, r1]) rfl ⟨by rw [HE.out]; rfl, ?_⟩
   rw [HXR.out.1]
   exact ((HB.out.setCell (p := ⟨RB, 0, none⟩) (Nat.le_of_lt HXR.out.2.1) _).setCell (p := ⟨RB, 1, none⟩) (Nat.le_of_lt HXR.out.2.1) _).drew
 by_cases h_5 : op = 5
 ·have hop := h_5
  clear h_5
  subst hop
  obtain rfl : kn = -1 := by rw [← hk]; decide
  clear hk
  have HE : Hid (C = gB F v text ks pos) := zh (HC.out.trans (tD F v num text ks pos))
  obtain ⟨x0, x1, x2, x3, x4, -⟩ := css HX.out
  have HALL := zh (qz cb F res ks HL.out HF.out v vr w3 5 num pos text s n c (HCT.out.below (by rw [HXR.out.1]; exact HB.out)) (HREP.out.keep (Stays.of_below (by rw [HXR.out.1]; exact HB.out))))
  generalize gB F v text ks pos = q at *
  obtain ⟨qt, qe, qa⟩ := q
  unfold bz at HALL
  dsimp only at HALL
  go_wp2_with fail
  refine HALL.out.mono ?_
  rintro e w4 ⟨rfl, hb4⟩
  clear x0 x1 x2 x3 x4
  have HX0 := HX
  replace HX := zh ((hb4.block _ (ad HX.out)).trans HX.out)
  replace HR := zh ((hb4.block _ (ad HR.out)).trans HR.out)
  replace HB := zh (HB.out.trans (hb4.mono (Nat.le_of_lt (ad HX0.out))))
  clear HX0
  clear hb4
  obtain ⟨r0, r1, -⟩ := css HR.out
  obtain ⟨k0, k1, -⟩ := fzs HR.out
  go_wp2_with fail
  refine bodyPost_ret (v := .tuple #[.int .i64 qt, .agg #[.int .i64 qe, .int .i64 qa]]) (by simp [results, Tryz.results103, go_sem, r0, r1]) rfl ⟨by rw [HE.out]; rfl, ?_⟩
  rw [HXR.out.1]
  exact ((HB.out.setCell (p := ⟨RB, 0, none⟩) (Nat.le_of_lt HXR.out.2.1) _).setCell (p := ⟨RB, 1, none⟩) (Nat.le_of_lt HXR.out.2.1) _)
 by_cases h_6 : op = 6
 ·have hop := h_6
  clear h_6
  subst hop
  obtain rfl : kn = 2 := by rw [← hk]; decide
  clear hk
  by_cases hlen : n = 2
  ·subst hlen
   obtain ⟨a, b, rfl⟩ : ∃ a b, ks = [a, b] := by
    have h := HN.out
    match ks, h with
    | [a, b], _ => exact ⟨a, b, rfl⟩
   have HE : Hid (C = fg F v text [a, b] pos) := zh (HC.out.trans (tp F v num text [a, b] pos HN.out.symm))
   obtain ⟨x0, x1, x2, x3, x4, -⟩ := css HX.out
   have HALL := zh (rC cb F res a b (HL.out a (by simp)) (HL.out b (by simp)) v vr w3 6 num pos text s 2 c (HCT.out.below (by rw [HXR.out.1]; exact HB.out)) (HREP.out.keep (Stays.of_below (by rw [HXR.out.1]; exact HB.out))))
   generalize fg F v text [a, b] pos = q at *
   obtain ⟨qt, qe, qa⟩ := q
   unfold bz at HALL
   dsimp only at HALL
   go_wp2_with fail
   refine HALL.out.mono ?_
   rintro e w4 ⟨rfl, hb4⟩
   clear x0 x1 x2 x3 x4
   have HX0 := HX
   replace HX := zh ((hb4.block _ (ad HX.out)).trans HX.out)
   replace HR := zh ((hb4.block _ (ad HR.out)).trans HR.out)
   replace HB := zh (HB.out.trans (hb4.mono (Nat.le_of_lt (ad HX0.out))))
   clear HX0
   clear hb4
   obtain ⟨r0, r1, -⟩ := css HR.out
   obtain ⟨k0, k1, -⟩ := fzs HR.out
   go_wp2_with fail
   refine bodyPost_ret (v := .tuple #[.int .i64 qt, .agg #[.int .i64 qe, .int .i64 qa]]) (by simp [results, Tryz.results103, go_sem, r0, r1]) rfl ⟨by rw [HE.out]; rfl, ?_⟩
   rw [HXR.out.1]
   exact ((HB.out.setCell (p := ⟨RB, 0, none⟩) (Nat.le_of_lt HXR.out.2.1) _).setCell (p := ⟨RB, 1, none⟩) (Nat.le_of_lt HXR.out.2.1) _)
  ·have g1 : ¬ ((2 : Int) = (n : Int)) := by omega
   have HE : Hid (C = (0, (51, pos))) := zh (HC.out.trans (eJ F v _ num text ks pos (.inr ⟨by decide, by rw [← HN.out]; show ¬ ((2 : Int) = (n : Int)); omega⟩)))
   obtain ⟨x0, -, -, x3, -⟩ := css HX.out
   obtain ⟨r0, r1, -⟩ := css HR.out
   obtain ⟨k0, k1, -⟩ := fzs HR.out
   obtain ⟨f0, f1, -⟩ := css HW.out
   go_upto_region 4 with fail
   go_region
   go_wp2_with fail
   refine bodyPost_ret (v := .tuple #[.int .i64 0, .agg #[.int .i64 51, .int .i64 pos]]) (by simp [results, Tryz.results103, go_sem, r0, r1]) rfl ⟨by rw [HE.out]; rfl, ?_⟩
   rw [HXR.out.1]
   exact ((HB.out.setCell (p := ⟨RB, 0, none⟩) (Nat.le_of_lt HXR.out.2.1) _).setCell (p := ⟨RB, 1, none⟩) (Nat.le_of_lt HXR.out.2.1) _).drew
 by_cases h_7 : op = 7
 ·have hop := h_7
  clear h_7
  subst hop
  obtain rfl : kn = 1 := by rw [← hk]; decide
  clear hk
  by_cases hlen : n = 1
  ·subst hlen
   by_cases h1 : text.toList = [45]
   ·have HE : Hid (C = (1, bV F v ks [1])) := zh (HC.out.trans (td F v num text ks pos HN.out.symm h1))
    have hn3 : (text.toList == [45]) = true := by simp [h1]
    obtain ⟨x0, -, x2, x3, -⟩ := css HX.out
    have HTY : Hid (TysAt (w3.alloc (.cells #[.int .i64 1] 32)) (.slice (some ⟨w3.heap.size, 0, none⟩) 1 1) [1]) := zh ⟨_, 1, rfl, by show (1:Nat) ≤ 1000000; decide, fun _ => ⟨_, 0, rfl, by rw [ag]; exact Nat.lt_succ_self _, fun i hi => by
      have hi2 : i < 1 := hi
      obtain rfl : i = 0 := by omega
      exact aw _ _ _ _ _ _ rfl rfl⟩⟩
    have hbA := ae (Below.refl w3.heap.size w3) (.cells #[.int .i64 1] 32)
    have HX0 := HX
    replace HX := zh ((hbA.block _ (ad HX.out)).trans HX.out)
    replace HR := zh ((hbA.block _ (ad HR.out)).trans HR.out)
    replace HB := zh (HB.out.trans (hbA.mono (Nat.le_of_lt (ad HX0.out))))
    clear HX0
    clear hbA
    have HALL := zh (fh cb F res ks HL.out v vr _ (.slice s 1 c) _ [1] (HCT.out.below (by rw [HXR.out.1]; exact HB.out)) (HKS.out.keep (Stays.of_below (by rw [HXR.out.1]; exact HB.out))) HTY.out (Nat.le_of_eq HN.out.symm))
    generalize bV F v ks [1] = q at *
    obtain ⟨qe, qa⟩ := q
    unfold bz at HALL
    dsimp only at HALL
    go_wp2_with fail
    refine HALL.out.mono ?_
    rintro e w4 ⟨rfl, hb4⟩
    clear x0 x2 x3
    have HX0 := HX
    replace HX := zh ((hb4.block _ (ad HX.out)).trans HX.out)
    replace HR := zh ((hb4.block _ (ad HR.out)).trans HR.out)
    replace HB := zh (HB.out.trans (hb4.mono (Nat.le_of_lt (ad HX0.out))))
    clear HX0
    clear hb4
    obtain ⟨r0, r1, -⟩ := css HR.out
    obtain ⟨k0, k1, -⟩ := fzs HR.out
    go_wp2_with fail
    refine bodyPost_ret (v := .tuple #[.int .i64 1, .agg #[.int .i64 qe, .int .i64 qa]]) (by simp [results, Tryz.results103, go_sem, r0, r1]) rfl ⟨by rw [HE.out]; rfl, ?_⟩
    rw [HXR.out.1]
    exact ((HB.out.setCell (p := ⟨RB, 0, none⟩) (Nat.le_of_lt HXR.out.2.1) _).setCell (p := ⟨RB, 1, none⟩) (Nat.le_of_lt HXR.out.2.1) _)
   ·by_cases h2 : text.toList = [33]
    ·have HE : Hid (C = (2, bV F v ks [2])) := zh (HC.out.trans (sG F v num text ks pos HN.out.symm h2))
     have hn3 : (text.toList == [45]) = false := by simp [h2]
     have hn4 : (text.toList == [33]) = true := by simp [h2]
     obtain ⟨x0, -, x2, x3, -⟩ := css HX.out
     have HTY : Hid (TysAt (w3.alloc (.cells #[.int .i64 2] 32)) (.slice (some ⟨w3.heap.size, 0, none⟩) 1 1) [2]) := zh ⟨_, 1, rfl, by show (1:Nat) ≤ 1000000; decide, fun _ => ⟨_, 0, rfl, by rw [ag]; exact Nat.lt_succ_self _, fun i hi => by
      have hi2 : i < 1 := hi
      obtain rfl : i = 0 := by omega
      exact aw _ _ _ _ _ _ rfl rfl⟩⟩
     have hbA := ae (Below.refl w3.heap.size w3) (.cells #[.int .i64 2] 32)
     have HX0 := HX
     replace HX := zh ((hbA.block _ (ad HX.out)).trans HX.out)
     replace HR := zh ((hbA.block _ (ad HR.out)).trans HR.out)
     replace HB := zh (HB.out.trans (hbA.mono (Nat.le_of_lt (ad HX0.out))))
     clear HX0
     clear hbA
     have HALL := zh (fh cb F res ks HL.out v vr _ (.slice s 1 c) _ [2] (HCT.out.below (by rw [HXR.out.1]; exact HB.out)) (HKS.out.keep (Stays.of_below (by rw [HXR.out.1]; exact HB.out))) HTY.out (Nat.le_of_eq HN.out.symm))
     generalize bV F v ks [2] = q at *
     obtain ⟨qe, qa⟩ := q
     unfold bz at HALL
     dsimp only at HALL
     go_wp2_with fail
     refine HALL.out.mono ?_
     rintro e w4 ⟨rfl, hb4⟩
     clear x0 x2 x3
     have HX0 := HX
     replace HX := zh ((hb4.block _ (ad HX.out)).trans HX.out)
     replace HR := zh ((hb4.block _ (ad HR.out)).trans HR.out)
     replace HB := zh (HB.out.trans (hb4.mono (Nat.le_of_lt (ad HX0.out))))
     clear HX0
     clear hb4
     obtain ⟨r0, r1, -⟩ := css HR.out
     obtain ⟨k0, k1, -⟩ := fzs HR.out
     go_wp2_with fail
     refine bodyPost_ret (v := .tuple #[.int .i64 2, .agg #[.int .i64 qe, .int .i64 qa]]) (by simp [results, Tryz.results103, go_sem, r0, r1]) rfl ⟨by rw [HE.out]; rfl, ?_⟩
     rw [HXR.out.1]
     exact ((HB.out.setCell (p := ⟨RB, 0, none⟩) (Nat.le_of_lt HXR.out.2.1) _).setCell (p := ⟨RB, 1, none⟩) (Nat.le_of_lt HXR.out.2.1) _)
    ·have hn3 : (text.toList == [45]) = false := by simp [h1]
     have hn4 : (text.toList == [33]) = false := by simp [h2]
     have HE : Hid (C = (0, (51, pos))) := zh (HC.out.trans (te F v num text ks pos HN.out.symm h1 h2))
     obtain ⟨x0, -, x2, x3, -⟩ := css HX.out
     obtain ⟨r0, r1, -⟩ := css HR.out
     obtain ⟨k0, k1, -⟩ := fzs HR.out
     obtain ⟨f0, f1, -⟩ := css HW.out
     go_upto_region 25 with fail
     go_region
     go_wp2_with fail
     refine bodyPost_ret (v := .tuple #[.int .i64 0, .agg #[.int .i64 51, .int .i64 pos]]) (by simp [results, Tryz.results103, go_sem, r0, r1]) rfl ⟨by rw [HE.out]; rfl, ?_⟩
     rw [HXR.out.1]
     exact ((HB.out.setCell (p := ⟨RB, 0, none⟩) (Nat.le_of_lt HXR.out.2.1) _).setCell (p := ⟨RB, 1, none⟩) (Nat.le_of_lt HXR.out.2.1) _).drew
  ·have g1 : ¬ ((1 : Int) = (n : Int)) := by omega
   have HE : Hid (C = (0, (51, pos))) := zh (HC.out.trans (eJ F v _ num text ks pos (.inr ⟨by decide, by rw [← HN.out]; show ¬ ((1 : Int) = (n : Int)); omega⟩)))
   obtain ⟨x0, -, -, x3, -⟩ := css HX.out
   obtain ⟨r0, r1, -⟩ := css HR.out
   obtain ⟨k0, k1, -⟩ := fzs HR.out
   obtain ⟨f0, f1, -⟩ := css HW.out
   go_upto_region 4 with fail
   go_region
   go_wp2_with fail
   refine bodyPost_ret (v := .tuple #[.int .i64 0, .agg #[.int .i64 51, .int .i64 pos]]) (by simp [results, Tryz.results103, go_sem, r0, r1]) rfl ⟨by rw [HE.out]; rfl, ?_⟩
   rw [HXR.out.1]
   exact ((HB.out.setCell (p := ⟨RB, 0, none⟩) (Nat.le_of_lt HXR.out.2.1) _).setCell (p := ⟨RB, 1, none⟩) (Nat.le_of_lt HXR.out.2.1) _).drew
 by_cases h_8 : op = 8
 ·have hop := h_8
  clear h_8
  subst hop
  obtain rfl : kn = 1 := by rw [← hk]; decide
  clear hk
  by_cases hlen : n = 1
  ·subst hlen
   have HE : Hid (C = (3, bV F v ks [3])) := zh (HC.out.trans (tz F v num text ks pos HN.out.symm))
   obtain ⟨x0, -, -, x3, -⟩ := css HX.out
   have HTY : Hid (TysAt (w3.alloc (.cells #[.int .i64 3] 32)) (.slice (some ⟨w3.heap.size, 0, none⟩) 1 1) [3]) := zh ⟨_, 1, rfl, by show (1:Nat) ≤ 1000000; decide, fun _ => ⟨_, 0, rfl, by rw [ag]; exact Nat.lt_succ_self _, fun i hi => by
      have hi2 : i < 1 := hi
      obtain rfl : i = 0 := by omega
      exact aw _ _ _ _ _ _ rfl rfl⟩⟩
   have hbA := ae (Below.refl w3.heap.size w3) (.cells #[.int .i64 3] 32)
   have HX0 := HX
   replace HX := zh ((hbA.block _ (ad HX.out)).trans HX.out)
   replace HR := zh ((hbA.block _ (ad HR.out)).trans HR.out)
   replace HB := zh (HB.out.trans (hbA.mono (Nat.le_of_lt (ad HX0.out))))
   clear HX0
   clear hbA
   have HALL := zh (fh cb F res ks HL.out v vr _ (.slice s 1 c) _ [3] (HCT.out.below (by rw [HXR.out.1]; exact HB.out)) (HKS.out.keep (Stays.of_below (by rw [HXR.out.1]; exact HB.out))) HTY.out (Nat.le_of_eq HN.out.symm))
   generalize bV F v ks [3] = q at *
   obtain ⟨qe, qa⟩ := q
   unfold bz at HALL
   dsimp only at HALL
   go_wp2_with fail
   refine HALL.out.mono ?_
   rintro e w4 ⟨rfl, hb4⟩
   clear x0 x3
   have HX0 := HX
   replace HX := zh ((hb4.block _ (ad HX.out)).trans HX.out)
   replace HR := zh ((hb4.block _ (ad HR.out)).trans HR.out)
   replace HB := zh (HB.out.trans (hb4.mono (Nat.le_of_lt (ad HX0.out))))
   clear HX0
   clear hb4
   obtain ⟨r0, r1, -⟩ := css HR.out
   obtain ⟨k0, k1, -⟩ := fzs HR.out
   go_wp2_with fail
   refine bodyPost_ret (v := .tuple #[.int .i64 3, .agg #[.int .i64 qe, .int .i64 qa]]) (by simp [results, Tryz.results103, go_sem, r0, r1]) rfl ⟨by rw [HE.out]; rfl, ?_⟩
   rw [HXR.out.1]
   exact ((HB.out.setCell (p := ⟨RB, 0, none⟩) (Nat.le_of_lt HXR.out.2.1) _).setCell (p := ⟨RB, 1, none⟩) (Nat.le_of_lt HXR.out.2.1) _)
  ·have g1 : ¬ ((1 : Int) = (n : Int)) := by omega
   have HE : Hid (C = (0, (51, pos))) := zh (HC.out.trans (eJ F v _ num text ks pos (.inr ⟨by decide, by rw [← HN.out]; show ¬ ((1 : Int) = (n : Int)); omega⟩)))
   obtain ⟨x0, -, -, x3, -⟩ := css HX.out
   obtain ⟨r0, r1, -⟩ := css HR.out
   obtain ⟨k0, k1, -⟩ := fzs HR.out
   obtain ⟨f0, f1, -⟩ := css HW.out
   go_upto_region 4 with fail
   go_region
   go_wp2_with fail
   refine bodyPost_ret (v := .tuple #[.int .i64 0, .agg #[.int .i64 51, .int .i64 pos]]) (by simp [results, Tryz.results103, go_sem, r0, r1]) rfl ⟨by rw [HE.out]; rfl, ?_⟩
   rw [HXR.out.1]
   exact ((HB.out.setCell (p := ⟨RB, 0, none⟩) (Nat.le_of_lt HXR.out.2.1) _).setCell (p := ⟨RB, 1, none⟩) (Nat.le_of_lt HXR.out.2.1) _).drew
 by_cases h_9 : op = 9
 ·have hop := h_9
  clear h_9
  subst hop
  obtain rfl : kn = 1 := by rw [← hk]; decide
  clear hk
  by_cases hlen : n = 1
  ·subst hlen
   have HE : Hid (C = (2, bV F v ks [3])) := zh (HC.out.trans (tq F v num text ks pos HN.out.symm))
   obtain ⟨x0, -, -, x3, -⟩ := css HX.out
   have HTY : Hid (TysAt (w3.alloc (.cells #[.int .i64 3] 32)) (.slice (some ⟨w3.heap.size, 0, none⟩) 1 1) [3]) := zh ⟨_, 1, rfl, by show (1:Nat) ≤ 1000000; decide, fun _ => ⟨_, 0, rfl, by rw [ag]; exact Nat.lt_succ_self _, fun i hi => by
      have hi2 : i < 1 := hi
      obtain rfl : i = 0 := by omega
      exact aw _ _ _ _ _ _ rfl rfl⟩⟩
   have hbA := ae (Below.refl w3.heap.size w3) (.cells #[.int .i64 3] 32)
   have HX0 := HX
   replace HX := zh ((hbA.block _ (ad HX.out)).trans HX.out)
   replace HR := zh ((hbA.block _ (ad HR.out)).trans HR.out)
   replace HB := zh (HB.out.trans (hbA.mono (Nat.le_of_lt (ad HX0.out))))
   clear HX0
   clear hbA
   have HALL := zh (fh cb F res ks HL.out v vr _ (.slice s 1 c) _ [3] (HCT.out.below (by rw [HXR.out.1]; exact HB.out)) (HKS.out.keep (Stays.of_below (by rw [HXR.out.1]; exact HB.out))) HTY.out (Nat.le_of_eq HN.out.symm))
   generalize bV F v ks [3] = q at *
   obtain ⟨qe, qa⟩ := q
   unfold bz at HALL
   dsimp only at HALL
   go_wp2_with fail
   refine HALL.out.mono ?_
   rintro e w4 ⟨rfl, hb4⟩
   clear x0 x3
   have HX0 := HX
   replace HX := zh ((hb4.block _ (ad HX.out)).trans HX.out)
   replace HR := zh ((hb4.block _ (ad HR.out)).trans HR.out)
   replace HB := zh (HB.out.trans (hb4.mono (Nat.le_of_lt (ad HX0.out))))
   clear HX0
   clear hb4
   obtain ⟨r0, r1, -⟩ := css HR.out
   obtain ⟨k0, k1, -⟩ := fzs HR.out
   go_wp2_with fail
   refine bodyPost_ret (v := .tuple #[.int .i64 2, .agg #[.int .i64 qe, .int .i64 qa]]) (by simp [results, Tryz.results103, go_sem, r0, r1]) rfl ⟨by rw [HE.out]; rfl, ?_⟩
   rw [HXR.out.1]
   exact ((HB.out.setCell (p := ⟨RB, 0, none⟩) (Nat.le_of_lt HXR.out.2.1) _).setCell (p := ⟨RB, 1, none⟩) (Nat.le_of_lt HXR.out.2.1) _)
  ·have g1 : ¬ ((1 : Int) = (n : Int)) := by omega
   have HE : Hid (C = (0, (51, pos))) := zh (HC.out.trans (eJ F v _ num text ks pos (.inr ⟨by decide, by rw [← HN.out]; show ¬ ((1 : Int) = (n : Int)); omega⟩)))
   obtain ⟨x0, -, -, x3, -⟩ := css HX.out
   obtain ⟨r0, r1, -⟩ := css HR.out
   obtain ⟨k0, k1, -⟩ := fzs HR.out
   obtain ⟨f0, f1, -⟩ := css HW.out
   go_upto_region 4 with fail
   go_region
   go_wp2_with fail
   refine bodyPost_ret (v := .tuple #[.int .i64 0, .agg #[.int .i64 51, .int .i64 pos]]) (by simp [results, Tryz.results103, go_sem, r0, r1]) rfl ⟨by rw [HE.out]; rfl, ?_⟩
   rw [HXR.out.1]
   exact ((HB.out.setCell (p := ⟨RB, 0, none⟩) (Nat.le_of_lt HXR.out.2.1) _).setCell (p := ⟨RB, 1, none⟩) (Nat.le_of_lt HXR.out.2.1) _).drew
 by_cases h_10 : op = 10
 ·have hop := h_10
  clear h_10
  subst hop
  obtain rfl : kn = 1 := by rw [← hk]; decide
  clear hk
  by_cases hlen : n = 1
  ·subst hlen
   have HE : Hid (C = (1, bV F v ks [3])) := zh (HC.out.trans (rZ F v num text ks pos HN.out.symm))
   obtain ⟨x0, -, -, x3, -⟩ := css HX.out
   have HTY : Hid (TysAt (w3.alloc (.cells #[.int .i64 3] 32)) (.slice (some ⟨w3.heap.size, 0, none⟩) 1 1) [3]) := zh ⟨_, 1, rfl, by show (1:Nat) ≤ 1000000; decide, fun _ => ⟨_, 0, rfl, by rw [ag]; exact Nat.lt_succ_self _, fun i hi => by
      have hi2 : i < 1 := hi
      obtain rfl : i = 0 := by omega
      exact aw _ _ _ _ _ _ rfl rfl⟩⟩
   have hbA := ae (Below.refl w3.heap.size w3) (.cells #[.int .i64 3] 32)
   have HX0 := HX
   replace HX := zh ((hbA.block _ (ad HX.out)).trans HX.out)
   replace HR := zh ((hbA.block _ (ad HR.out)).trans HR.out)
   replace HB := zh (HB.out.trans (hbA.mono (Nat.le_of_lt (ad HX0.out))))
   clear HX0
   clear hbA
   have HALL := zh (fh cb F res ks HL.out v vr _ (.slice s 1 c) _ [3] (HCT.out.below (by rw [HXR.out.1]; exact HB.out)) (HKS.out.keep (Stays.of_below (by rw [HXR.out.1]; exact HB.out))) HTY.out (Nat.le_of_eq HN.out.symm))
   generalize bV F v ks [3] = q at *
   obtain ⟨qe, qa⟩ := q
   unfold bz at HALL
   dsimp only at HALL
   go_wp2_with fail
   refine HALL.out.mono ?_
   rintro e w4 ⟨rfl, hb4⟩
   clear x0 x3
   have HX0 := HX
   replace HX := zh ((hb4.block _ (ad HX.out)).trans HX.out)
   replace HR := zh ((hb4.block _ (ad HR.out)).trans HR.out)
   replace HB := zh (HB.out.trans (hb4.mono (Nat.le_of_lt (ad HX0.out))))
   clear HX0
   clear hb4
   obtain ⟨r0, r1, -⟩ := css HR.out
   obtain ⟨k0, k1, -⟩ := fzs HR.out
   go_wp2_with fail
   refine bodyPost_ret (v := .tuple #[.int .i64 1, .agg #[.int .i64 qe, .int .i64 qa]]) (by simp [results, Tryz.results103, go_sem, r0, r1]) rfl ⟨by rw [HE.out]; rfl, ?_⟩
   rw [HXR.out.1]
   exact ((HB.out.setCell (p := ⟨RB, 0, none⟩) (Nat.le_of_lt HXR.out.2.1) _).setCell (p := ⟨RB, 1, none⟩) (Nat.le_of_lt HXR.out.2.1) _)
  ·have g1 : ¬ ((1 : Int) = (n : Int)) := by omega
   have HE : Hid (C = (0, (51, pos))) := zh (HC.out.trans (eJ F v _ num text ks pos (.inr ⟨by decide, by rw [← HN.out]; show ¬ ((1 : Int) = (n : Int)); omega⟩)))
   obtain ⟨x0, -, -, x3, -⟩ := css HX.out
   obtain ⟨r0, r1, -⟩ := css HR.out
   obtain ⟨k0, k1, -⟩ := fzs HR.out
   obtain ⟨f0, f1, -⟩ := css HW.out
   go_upto_region 4 with fail
   go_region
   go_wp2_with fail
   refine bodyPost_ret (v := .tuple #[.int .i64 0, .agg #[.int .i64 51, .int .i64 pos]]) (by simp [results, Tryz.results103, go_sem, r0, r1]) rfl ⟨by rw [HE.out]; rfl, ?_⟩
   rw [HXR.out.1]
   exact ((HB.out.setCell (p := ⟨RB, 0, none⟩) (Nat.le_of_lt HXR.out.2.1) _).setCell (p := ⟨RB, 1, none⟩) (Nat.le_of_lt HXR.out.2.1) _).drew
 obtain rfl : kn = -2 := by rw [← hk]; unfold cf; simp_all
 have HE : Hid (C = (0, (51, pos))) := zh (HC.out.trans (eJ F v _ num text ks pos (.inl hk)))
 obtain ⟨x0, -, -, x3, -⟩ := css HX.out
 obtain ⟨r0, r1, -⟩ := css HR.out
 obtain ⟨k0, k1, -⟩ := fzs HR.out
 obtain ⟨f0, f1, -⟩ := css HW.out
 go_upto_region 4 with fail
 go_region
 go_wp2_with fail
 refine bodyPost_ret (v := .tuple #[.int .i64 0, .agg #[.int .i64 51, .int .i64 pos]]) (by simp [results, Tryz.results103, go_sem, r0, r1]) rfl ⟨by rw [HE.out]; rfl, ?_⟩
 rw [HXR.out.1]
 exact ((HB.out.setCell (p := ⟨RB, 0, none⟩) (Nat.le_of_lt HXR.out.2.1) _).setCell (p := ⟨RB, 1, none⟩) (Nat.le_of_lt HXR.out.2.1) _).drew
theorem nl (cb : Nat) (F : aQ) (res : Int) (hF : ∀ p, p ∈ F → p.2.params.length ≤ 100000) : ∀ x, gG cb F res x
 | .mk op num text ks pos => nz cb F res hF op num text ks pos (fun x hx => by
     have := List.sizeOf_lt_of_mem hx
     exact nl cb F res hF x)
termination_by x => SizeOf.sizeOf x
decreasing_by simp_wf; omega
end
end Go.Proofs.YtjblihabklemfaaGreatDoor
