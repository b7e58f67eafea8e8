/-
  Compile: part 27 of its proof: see the last text.
-/
import Derived.Test.YtjblihabklemfaaGreatDoorPm24
import Derived.Test.YtjblihabklemfaaGreatDoorPm07
set_option maxRecDepth 100000
set_option maxHeartbeats 16000000
namespace Go.Proofs.YtjblihabklemfaaGreatDoor
section
open Go.RowKit
def TysAt (w : World) (u : Value) (ts : List Int) : Prop := ∃ s0 cap, u = .slice s0 ts.length cap ∧ ts.length ≤ 1000000 ∧ (0 < ts.length → ∃ b off, s0 = some ⟨b, off, none⟩ ∧ b < w.heap.size ∧ ∀ i, i < ts.length → w.cell? ⟨b, off + i, none⟩ = some (.int .i64 (ts.getD i 0)))
theorem TysAt.below {w w' : World} {u : Value} {ts : List Int} (h : TysAt w u ts) (hb : Below w.heap.size w w') : TysAt w' u ts := by
 obtain ⟨s0, cap, h1, h3, h4⟩ := h
 refine ⟨s0, cap, h1, h3, fun h0 => ?_⟩
 obtain ⟨b, off, e, h2, h5⟩ := h4 h0
 exact ⟨b, off, e, Nat.lt_of_lt_of_le h2 hb.size, fun i hi => (hb.cell (p := ⟨b, _, none⟩) h2).trans (h5 i hi)⟩
theorem pO (F : aQ) (v : aV) (l : List Ex) (ts : List Int) (i : Nat) (hi : i < l.length) : bV F v (l.drop i) (ts.drop i) = orF (dn F v (l.getD i default) (ts.getD i 0)) (bV F v (l.drop (i + 1)) (ts.drop (i + 1))) := by
 rw [List.drop_eq_getElem_cons hi, bV, dn]
 have e1 : l.getD i default = l[i] := by rw [List.getD_eq_getElem?_getD, List.getElem?_eq_getElem hi]; rfl
 have e2 : (ts.drop i).headD 0 = ts.getD i 0 := by
  rw [List.headD_eq_head?_getD, List.head?_drop, List.getD_eq_getElem?_getD]
 rw [e1, e2, List.tail_drop]
theorem qL (F : aQ) (v : aV) (l : List Ex) (ts : List Int) : bV F v (l.drop l.length) (ts.drop l.length) = okF := by
 rw [List.drop_length, bV]
theorem fh (cb : Nat) (F : aQ) (res : Int) (l : List Ex) (hl : ∀ x, x ∈ l → gG cb F res x) (v : aV) (vr : Nat) (w : World) (u tv : Value) (ts : List Int) (h : CtxAt w cb F res vr v) (hr : RepExs Any w u l) (ht : TysAt w tv ts) (hlen : l.length ≤ ts.length) :
    Calls Tryz.prog 116 #[.pointer (some ⟨cb, 0, none⟩), u, .map (some vr), tv] w fun e w' => e = .returned (bz (bV F v l ts)) ∧ Below w.heap.size w w' := by
 obtain ⟨st, tcap, rfl, htl, htc⟩ := ht
 obtain ⟨cs, ⟨s0, cap, rfl, hle, hcm, _, hrow, hsz⟩, hit⟩ := hr
 have HCT := zh h
 have HLL := zh hl
 have HTC0 := zh htc
 have HROW := zh hrow
 have HIT := zh hit
 have HSZ := zh hsz
 have HCM := zh (And.intro hle hcm)
 generalize hR : bV F v l ts = R
 have HR := zh (show R = bV F v (l.drop 0) (ts.drop 0) from hR.symm)
 clear h hl htc hrow hit hsz hle hcm hR
 have HST := zh (pO F v l ts)
 have HEN := zh (qL F v l ts)
 have HRES := zh (ah w (.cells #[.int .i64 0, .int .i64 0] 96) w.heap.size rfl)
 go_enter Tryz.func116, Tryz.ntmps116
 go_wp2_with fail
 go_loopg [14] l.length (fun g s14 wr => ∃ i : Nat, i + g = l.length ∧ s14 = .int .i64 (i : Int) ∧ R = bV F v (l.drop i) (ts.drop i) ∧ Below w.heap.size w wr ∧ wr.heap[w.heap.size]? = some (.cells #[.int .i64 0, .int .i64 0] 96 (0, 0)))
 case atStart => exact ⟨0, Nat.zero_add _, rfl, HR.out, ae (Below.refl _ _) _, HRES.out⟩
 case round =>
  obtain ⟨i, hig, rfl, hR, hb, hres⟩ := hrel
  have HRR := zh hR
  have HB := zh hb
  have HRW := zh hres
  clear hR hb hres
  by_cases hil : i < l.length
  ·have g1 : (i : Int) < (l.length : Int) := by omega
   have g2 : (i : Int) < (ts.length : Int) := by omega
   have g3 : (0 : Int) ≤ (i : Int) := by omega
   obtain ⟨b, off, hs0, _, hbl, hcell⟩ := HROW.out (by omega)
   subst hs0
   have hrep := HIT.out i hil
   obtain ⟨op, num, text, ev, pos, hcs, s, n, c, hev⟩ := hrep.form
   subst hev
   rw [hcs] at hrep
   have hc5 : ∀ j, j < 5 → wr.cell? ⟨b, off + i * 5 + j, none⟩ = (cs i)[j]? := fun j hj => (HB.out.cell (p := ⟨b, _, none⟩) hbl).trans (hcell i hil j hj)
   rw [hcs] at hc5
   have x0 : wr.cell? ⟨b, off + i * 5, none⟩ = some (.int .i64 op) := hc5 0 (by decide)
   have x1 : wr.cell? ⟨b, off + i * 5 + 1, none⟩ = some (.int .i64 num) := hc5 1 (by decide)
   have x2 : wr.cell? ⟨b, off + i * 5 + 2, none⟩ = some (.string text) := hc5 2 (by decide)
   have x3 : wr.cell? ⟨b, off + i * 5 + 3, none⟩ = some (.slice s n c) := hc5 3 (by decide)
   have x4 : wr.cell? ⟨b, off + i * 5 + 4, none⟩ = some (.int .i64 pos) := hc5 4 (by decide)
   have HREP := zh hrep
   obtain ⟨tb, toff, hst, htb, htc⟩ := HTC0.out (by omega)
   subst hst
   have HTB := zh htb
   have HTC := zh htc
   clear htb htc
   have HTI : Hid (wr.cell? ⟨tb, toff + i, none⟩ = some (.int .i64 (ts.getD i 0))) := zh ((HB.out.cell (p := ⟨tb, _, none⟩) HTB.out).trans (HTC.out i (by omega)))
   have HMEM : Hid (l.getD i default ∈ l) := zh (by rw [List.getD_eq_getElem?_getD, List.getElem?_eq_getElem hil]; exact List.getElem_mem hil)
   replace HRR := zh (HRR.out.trans (HST.out i hil))
   generalize ts.getD i 0 = t at *
   clear hrep hc5 hcs hcell
   go_upto_region 4 with fail
   have HS0 : Hid ((wr.alloc (.cells #[.int .i64 op, .int .i64 num, .string text, .slice s n c, .int .i64 pos] 65)).cell? ⟨wr.heap.size, 0, none⟩ = some (.int .i64 op) ∧ (wr.alloc (.cells #[.int .i64 op, .int .i64 num, .string text, .slice s n c, .int .i64 pos] 65)).cell? ⟨wr.heap.size, 1, none⟩ = some (.int .i64 num) ∧ (wr.alloc (.cells #[.int .i64 op, .int .i64 num, .string text, .slice s n c, .int .i64 pos] 65)).cell? ⟨wr.heap.size, 2, none⟩ = some (.string text) ∧ (wr.alloc (.cells #[.int .i64 op, .int .i64 num, .string text, .slice s n c, .int .i64 pos] 65)).cell? ⟨wr.heap.size, 3, none⟩ = some (.slice s n c) ∧ (wr.alloc (.cells #[.int .i64 op, .int .i64 num, .string text, .slice s n c, .int .i64 pos] 65)).cell? ⟨wr.heap.size, 4, none⟩ = some (.int .i64 pos) ∧ (wr.alloc (.cells #[.int .i64 op, .int .i64 num, .string text, .slice s n c, .int .i64 pos] 65)).cell? ⟨tb, toff + i, none⟩ = some (.int .i64 t)) := zh ⟨aw _ _ _ _ _ _ rfl rfl, aw _ _ _ _ _ _ rfl rfl, aw _ _ _ _ _ _ rfl rfl, aw _ _ _ _ _ _ rfl rfl, aw _ _ _ _ _ _ rfl rfl, aj _ HTI.out⟩
   have HB0 := zh (ae HB.out (.cells #[.int .i64 op, .int .i64 num, .string text, .slice s n c, .int .i64 pos] 65))
   have HR0 : Hid ((wr.alloc (.cells #[.int .i64 op, .int .i64 num, .string text, .slice s n c, .int .i64 pos] 65)).heap[w.heap.size]? = some (.cells #[.int .i64 0, .int .i64 0] 96 (0, 0))) := zh (au _ _ _ _ HRW.out)
   have HXL : Hid (wr.heap.size < (wr.alloc (.cells #[.int .i64 op, .int .i64 num, .string text, .slice s n c, .int .i64 pos] 65)).heap.size) := zh (by rw [ag]; exact Nat.lt_succ_self _)
   have HTL : Hid (tb < (wr.alloc (.cells #[.int .i64 op, .int .i64 num, .string text, .slice s n c, .int .i64 pos] 65)).heap.size) := zh (by rw [ag]; have h1 := HTB.out; have h2 := HB.out.size; omega)
   generalize (wr.alloc (.cells #[.int .i64 op, .int .i64 num, .string text, .slice s n c, .int .i64 pos] 65)) = w0 at *
   generalize wr.heap.size = X at *
   clear x0 x1 x2 x3 x4
   have hs0 := HS0.out
   refine az (S := (fun w' => w'.cell? ⟨X, 0, none⟩ = some (.int .i64 op) ∧ w'.cell? ⟨X, 1, none⟩ = some (.int .i64 num) ∧ w'.cell? ⟨X, 2, none⟩ = some (.string text) ∧ w'.cell? ⟨X, 3, none⟩ = some (.slice s n c) ∧ w'.cell? ⟨X, 4, none⟩ = some (.int .i64 pos) ∧ w'.cell? ⟨tb, toff + i, none⟩ = some (.int .i64 t))) 9 (by kernel_rfl) (by kernel_rfl) (by (try dsimp only); (first | exact HS3.out | exact HS2.out | exact HS1.out | exact HS0.out)) (fun hHeld => ?_)
   simp only [List.take_succ_cons, List.take_zero, List.drop_succ_cons, List.drop_zero]
   refine tkA 0 ?_
   refine tkA 1 ?_
   refine tkA 2 ?_
   refine tkA 3 ?_
   refine tkA 4 ?_
   refine tkA 5 ?_
   refine tkA 6 ?_
   refine wpAnyH_ready (rs := [7, 8]) (by kernel_rfl) (by simp) ?_
   refine (AllReadyH.cons rfl (fun K hK => ?_) (AllReadyH.cons rfl (fun K hK => ?_) AllReadyH.nil))
   ·go_simp
    go_at_call 111
    refine ((iY cb F res _ (HLL.out _ HMEM.out) v vr t _ op num pos text s n c (HCT.out.below (ak HB0.out (av (Below.refl _ _)))) (HREP.out.keep (Stays.of_below (ak HB0.out (av (Below.refl _ _))))))).mono ?_
    rintro e w1 ⟨rfl, hb1⟩
    have hb1' : Below w0.heap.size w0 w1 := ak (av (Below.refl _ _)) hb1
    have HS1 : Hid (w1.cell? ⟨X, 0, none⟩ = some (.int .i64 op) ∧ w1.cell? ⟨X, 1, none⟩ = some (.int .i64 num) ∧ w1.cell? ⟨X, 2, none⟩ = some (.string text) ∧ w1.cell? ⟨X, 3, none⟩ = some (.slice s n c) ∧ w1.cell? ⟨X, 4, none⟩ = some (.int .i64 pos) ∧ w1.cell? ⟨tb, toff + i, none⟩ = some (.int .i64 t)) := zh (by have h := HS0.out; have hb := hb1'; have hx := HXL.out; have ht := HTL.out; exact ⟨(hb.cell (p := ⟨X, 0, none⟩) hx).trans h.1, (hb.cell (p := ⟨X, 1, none⟩) hx).trans h.2.1, (hb.cell (p := ⟨X, 2, none⟩) hx).trans h.2.2.1, (hb.cell (p := ⟨X, 3, none⟩) hx).trans h.2.2.2.1, (hb.cell (p := ⟨X, 4, none⟩) hx).trans h.2.2.2.2.1, (hb.cell (p := ⟨tb, _, none⟩) ht).trans h.2.2.2.2.2⟩)
    have HB1 := zh (ak HB0.out hb1')
    have HR1 := zh ((hb1'.block _ (ad HR0.out)).trans HR0.out)
    have HS1L := zh hb1'.size
    clear hb1 hb1' hs0
    generalize dn F v (l.getD i default) t = q at *
    obtain ⟨fe, fa⟩ := q
    unfold bz
    dsimp only
    go_simp
    refine hK.out _ _ ?_ (fun hHeld => ?_)
    ·(try dsimp only)
     exact HS1.out
    clear hK K
    try go_simp
    refine rd1 8 fun K hK => ?_
    go_simp
    refine hK.out _ _ ?_ (fun hHeld => ?_)
    ·(try dsimp only)
     (first | exact HS1.out | (have h := HS1.out; exact ⟨aj _ h.1, aj _ h.2.1, aj _ h.2.2.1, aj _ h.2.2.2.1, aj _ h.2.2.2.2.1, aj _ h.2.2.2.2.2⟩))
    clear hK K
    try go_simp
    refine wpAnyH_done (by kernel_rfl) ?_ _
    dsimp only [bT]
    clear HS0 HS1
    go_upto_region 5 with fail
    have hc0 : (w1.alloc (.cells #[.int .i64 fe, .int .i64 fa] 96)).cell? ⟨w1.heap.size, 0, none⟩ = some (.int .i64 fe) := aw _ _ _ _ _ _ rfl rfl
    have hc1 : (w1.alloc (.cells #[.int .i64 fe, .int .i64 fa] 96)).cell? ⟨w1.heap.size, 1, none⟩ = some (.int .i64 fa) := aw _ _ _ _ _ _ rfl rfl
    have HB5 := zh (ae HB1.out (.cells #[.int .i64 fe, .int .i64 fa] 96))
    have HR5 : Hid ((w1.alloc (.cells #[.int .i64 fe, .int .i64 fa] 96)).heap[w.heap.size]? = _) := zh (au _ _ _ _ HR1.out)
    generalize (w1.alloc (.cells #[.int .i64 fe, .int .i64 fa] 96)) = w5 at *
    by_cases he : fe = 0
    ·subst he
     go_wp2_with fail
     go_roundg (l.length - i - 1)
     case measure => omega
     case rel => exact ⟨i + 1, by omega, rfl, HRR.out.trans (if_neg (by simp)), HB5.out, HR5.out⟩
    ·have r0 : w5.cell? ⟨w.heap.size, 0, none⟩ = some (.int .i64 0) := aa HR5.out (j := 0) rfl
     have r1 : w5.cell? ⟨w.heap.size, 1, none⟩ = some (.int .i64 0) := aa HR5.out (j := 1) rfl
     obtain ⟨k0, k1, -⟩ := fzs HR5.out
     have HE := zh (HRR.out.trans (if_pos he))
     go_wp2_with fail
     refine bodyPost_ret (v := .agg #[.int .i64 fe, .int .i64 fa]) (by simp [results, Tryz.results116, go_sem, r0, r1]) rfl ⟨by rw [HE.out]; rfl, ?_⟩
     exact (HB5.out.setCell (p := ⟨w.heap.size, 0, none⟩) (Nat.le_refl _) _).setCell (p := ⟨w.heap.size, 1, none⟩) (Nat.le_refl _) _
   ·go_simp
    have hb2 : Below w0.heap.size w0 (w0.drew.alloc (.cells #[.int .i64 0, .int .i64 0] 96)) := ae (av (Below.refl _ _)) _
    have HS2 : Hid ((w0.drew.alloc (.cells #[.int .i64 0, .int .i64 0] 96)).cell? ⟨X, 0, none⟩ = some (.int .i64 op) ∧ (w0.drew.alloc (.cells #[.int .i64 0, .int .i64 0] 96)).cell? ⟨X, 1, none⟩ = some (.int .i64 num) ∧ (w0.drew.alloc (.cells #[.int .i64 0, .int .i64 0] 96)).cell? ⟨X, 2, none⟩ = some (.string text) ∧ (w0.drew.alloc (.cells #[.int .i64 0, .int .i64 0] 96)).cell? ⟨X, 3, none⟩ = some (.slice s n c) ∧ (w0.drew.alloc (.cells #[.int .i64 0, .int .i64 0] 96)).cell? ⟨X, 4, none⟩ = some (.int .i64 pos) ∧ (w0.drew.alloc (.cells #[.int .i64 0, .int .i64 0] 96)).cell? ⟨tb, toff + i, none⟩ = some (.int .i64 t)) := zh (by have h := HS0.out; have hb := hb2; have hx := HXL.out; have ht := HTL.out; exact ⟨(hb.cell (p := ⟨X, 0, none⟩) hx).trans h.1, (hb.cell (p := ⟨X, 1, none⟩) hx).trans h.2.1, (hb.cell (p := ⟨X, 2, none⟩) hx).trans h.2.2.1, (hb.cell (p := ⟨X, 3, none⟩) hx).trans h.2.2.2.1, (hb.cell (p := ⟨X, 4, none⟩) hx).trans h.2.2.2.2.1, (hb.cell (p := ⟨tb, _, none⟩) ht).trans h.2.2.2.2.2⟩)
    have HB2 := zh (ak HB0.out hb2)
    have HR2 := zh ((hb2.block _ (ad HR0.out)).trans HR0.out)
    have HA2 : Hid ((w0.drew.alloc (.cells #[.int .i64 0, .int .i64 0] 96)).heap[w0.heap.size]? = some (.cells #[.int .i64 0, .int .i64 0] 96 (0, 0))) := zh (ah _ _ _ rfl)
    clear hb2
    refine hK.out _ _ ?_ (fun hHeld => ?_)
    ·(try dsimp only)
     exact HS2.out
    clear hK K
    try go_simp
    refine rd1 7 fun K hK => ?_
    go_simp
    go_at_call 111
    refine ((iY cb F res _ (HLL.out _ HMEM.out) v vr t _ op num pos text s n c (HCT.out.below HB2.out) (HREP.out.keep (Stays.of_below HB2.out)))).mono ?_
    rintro e w1 ⟨rfl, hb1⟩
    have HB1 := zh (ak HB2.out hb1)
    have HR1 := zh ((hb1.block _ (ad HR2.out)).trans HR2.out)
    have HA1 := zh ((hb1.block _ (ad HA2.out)).trans HA2.out)
    have HS3 : Hid (w1.cell? ⟨X, 0, none⟩ = some (.int .i64 op) ∧ w1.cell? ⟨X, 1, none⟩ = some (.int .i64 num) ∧ w1.cell? ⟨X, 2, none⟩ = some (.string text) ∧ w1.cell? ⟨X, 3, none⟩ = some (.slice s n c) ∧ w1.cell? ⟨X, 4, none⟩ = some (.int .i64 pos) ∧ w1.cell? ⟨tb, toff + i, none⟩ = some (.int .i64 t)) := zh (by have h := HS2.out; exact ⟨(hb1.cell (p := ⟨X, 0, none⟩) (am h.1)).trans h.1, (hb1.cell (p := ⟨X, 1, none⟩) (am h.1)).trans h.2.1, (hb1.cell (p := ⟨X, 2, none⟩) (am h.1)).trans h.2.2.1, (hb1.cell (p := ⟨X, 3, none⟩) (am h.1)).trans h.2.2.2.1, (hb1.cell (p := ⟨X, 4, none⟩) (am h.1)).trans h.2.2.2.2.1, (hb1.cell (p := ⟨tb, _, none⟩) (am h.2.2.2.2.2)).trans h.2.2.2.2.2⟩)
    clear hb1 hs0
    generalize dn F v (l.getD i default) t = q at *
    obtain ⟨fe, fa⟩ := q
    unfold bz
    dsimp only
    go_simp
    refine hK.out _ _ ?_ (fun hHeld => ?_)
    ·(try dsimp only)
     exact HS3.out
    clear hK K
    try go_simp
    refine wpAnyH_done (by kernel_rfl) ?_ _
    dsimp only [bT]
    clear HS0 HS2 HS3
    obtain ⟨z0, z1, -⟩ := css HA1.out
    obtain ⟨y0, y1, -⟩ := fzs HA1.out
    go_upto_region 5 with fail
    have hc0 : ((w1.setCell ⟨w0.heap.size, 0, none⟩ (.int .i64 fe)).setCell ⟨w0.heap.size, 1, none⟩ (.int .i64 fa)).cell? ⟨w0.heap.size, 0, none⟩ = some (.int .i64 fe) := (aR _ _ (.inr (by omega))).trans (dh _ z0)
    have hc1 : ((w1.setCell ⟨w0.heap.size, 0, none⟩ (.int .i64 fe)).setCell ⟨w0.heap.size, 1, none⟩ (.int .i64 fa)).cell? ⟨w0.heap.size, 1, none⟩ = some (.int .i64 fa) := dh _ ((aR _ _ (.inr (by omega))).trans z1)
    have HB5 : Hid (Below w.heap.size w ((w1.setCell ⟨w0.heap.size, 0, none⟩ (.int .i64 fe)).setCell ⟨w0.heap.size, 1, none⟩ (.int .i64 fa))) := zh ((HB1.out.setCell (p := ⟨w0.heap.size, 0, none⟩) HB0.out.size _).setCell (p := ⟨w0.heap.size, 1, none⟩) HB0.out.size _)
    have HNE : Hid (w.heap.size ≠ w0.heap.size) := zh (Nat.ne_of_lt (ad HR0.out))
    have HR5 : Hid (((w1.setCell ⟨w0.heap.size, 0, none⟩ (.int .i64 fe)).setCell ⟨w0.heap.size, 1, none⟩ (.int .i64 fa)).heap[w.heap.size]? = _) := zh ((af _ _ _ _ HNE.out).trans ((af _ _ _ _ HNE.out).trans HR1.out))
    clear z0 z1 y0 y1
    generalize ((w1.setCell ⟨w0.heap.size, 0, none⟩ (.int .i64 fe)).setCell ⟨w0.heap.size, 1, none⟩ (.int .i64 fa)) = w5 at *
    by_cases he : fe = 0
    ·subst he
     go_wp2_with fail
     go_roundg (l.length - i - 1)
     case measure => omega
     case rel => exact ⟨i + 1, by omega, rfl, HRR.out.trans (if_neg (by simp)), HB5.out, HR5.out⟩
    ·have r0 : w5.cell? ⟨w.heap.size, 0, none⟩ = some (.int .i64 0) := aa HR5.out (j := 0) rfl
     have r1 : w5.cell? ⟨w.heap.size, 1, none⟩ = some (.int .i64 0) := aa HR5.out (j := 1) rfl
     obtain ⟨k0, k1, -⟩ := fzs HR5.out
     have HE := zh (HRR.out.trans (if_pos he))
     go_wp2_with fail
     refine bodyPost_ret (v := .agg #[.int .i64 fe, .int .i64 fa]) (by simp [results, Tryz.results116, go_sem, r0, r1]) rfl ⟨by rw [HE.out]; rfl, ?_⟩
     exact (HB5.out.setCell (p := ⟨w.heap.size, 0, none⟩) (Nat.le_refl _) _).setCell (p := ⟨w.heap.size, 1, none⟩) (Nat.le_refl _) _
  ·obtain rfl : i = l.length := by omega
   have g1 : ¬ (l.length : Int) < (l.length : Int) := by omega
   have HE := zh (HRR.out.trans HEN.out)
   obtain ⟨r0, r1, -⟩ := css HRW.out
   obtain ⟨k0, k1, -⟩ := fzs HRW.out
   go_wp2_with fail
   refine bodyPost_ret (v := .agg #[.int .i64 0, .int .i64 0]) (by simp [results, Tryz.results116, go_sem, r0, r1]) rfl ⟨by rw [HE.out]; rfl, ?_⟩
   exact (HB.out.setCell (p := ⟨w.heap.size, 0, none⟩) (Nat.le_refl _) _).setCell (p := ⟨w.heap.size, 1, none⟩) (Nat.le_refl _) _
end
end Go.Proofs.YtjblihabklemfaaGreatDoor
