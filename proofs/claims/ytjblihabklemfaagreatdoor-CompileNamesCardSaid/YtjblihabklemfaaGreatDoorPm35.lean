/-
  Compile: part 35 of its proof: see the last text.
-/
import Derived.Test.YtjblihabklemfaaGreatDoorPm33
set_option maxRecDepth 100000
set_option maxHeartbeats 16000000
namespace Go.Proofs.YtjblihabklemfaaGreatDoor
section
open Go.RowKit
structure StW4 (B M MB TB NB : Nat) (fv : Value) (F : List Fn) (w0 w W : World) (s : CS) (r : Nat) (v : bg) (XB : Nat) (o : Obj) : Prop where
 c : CoW B M MB TB NB fv F w0 W s
 v : SlAt W r v
 x : W.heap[XB]? = some o
 f : Fx B M NB w W
theorem sC (op : Int) (text : ByteArray) (es : List Ex) (body els : List St) (pos : Int) : endsS (.mk op text es body els pos) = (op == 5 || (op == 3 && bK body && bK els)) := by rw [endsS]
theorem kT (w : World) : Calls Tryz.prog 58 #[] w fun e w' => e = .returned (.tuple #[]) ∧ w = w' := by
 go_enter Tryz.func58, Tryz.ntmps58
 go_wp2_with fail
 go_end0
 exact ⟨rfl, rfl⟩
theorem mx (B M MB TB NB : Nat) (fv : Value) (F : List Fn) (w0 : World) (op pos : Int) (text : ByteArray) (es : List Ex) (body els : List St) (ue : Value) (sb se : Option Addr) (cb ce : Nat) (hre : RepExs (fun b => b < B) w0 ue es) (hrb : RepSts (fun b => b < B) w0 (.slice sb body.length cb) body) (hfit : kF F (.mk op text es body els pos))
    (hbd : hJ B M MB TB NB fv F w0 (.slice sb body.length cb) body) (hel : hJ B M MB TB NB fv F w0 (.slice se els.length ce) els) : pK B M MB TB NB fv F w0 [.int .i64 op, .string text, ue, .slice sb body.length cb, .slice se els.length ce, .int .i64 pos] (.mk op text es body els pos) := by
 intro w s r v hc hsl hrn hrb2 hroom
 obtain ⟨cs, ⟨s0, kc, rfl, hle, hcm, _, hrow, hsz⟩, hit⟩ := hre
 rw [kF] at hfit
 obtain ⟨hfit8, hfite, _, _⟩ := hfit
 unfold jP at hroom
 rw [szS] at hroom
 have HROW := zh hrow
 have HIT := zh hit
 have HFE := zh hfite
 have HF8 := zh hfit8
 have HR := zh hrn
 have HRG := zh hrb2
 have HRM := zh hroom
 have HBD := zh hbd
 have HEL := zh hel
 have HRB := zh hrb
 unfold maxLen at hcm
 have hlen : es.length ≤ 9223372036854775807 := by omega
 obtain ⟨s1, hs1⟩ : ∃ x, x = aq 1 1 s := ⟨_, rfl⟩
 have HS1 := zh hs1
 have HL1 : Hid (s.ins.length ≤ 1000000 ∧ s1.ins.length = s.ins.length + 1 ∧ s1.texts.length = s.texts.length ∧ s1.slots = s.slots) := zh ⟨by omega, by rw [hs1]; simp [aq], by rw [hs1]; rfl, by rw [hs1]; rfl⟩
 generalize hE : dT F (.mk op text es body els pos) (v, s) = E
 have HE : Hid (∀ sk, sk = aD F v es s1 → E = if op = 1 then (bJ v text sk.slots, aq 6 sk.slots (bh sk)) else if op = 2 then (v, aq 6 ((aF v text).getD 0) sk) else if op = 3 then (if bK body then (v, (aI F els (v, cQ sk.ins.length (aI F body (v, aq 16 0 sk)).2)).2) else (v, cQ (aI F body (v, aq 16 0 sk)).2.ins.length (aI F els (v, cQ sk.ins.length (aq 15 0 (aI F body (v, aq 16 0 sk)).2))).2)) else if op = 4 then (v, lF F v text body sk) else if op = 5 then (v, aq 18 0 sk) else if op = 6 then (v, aq 12 0 sk) else if op = 7 then (v, aq 13 0 sk) else if op = 8 then (v, if gp F (es.headD default).text = 0 then sk else aq 17 0 sk) else (v, sk)) := zh (fun sk h => by rw [← hE, dT, h, hs1]; rfl)
 have HCW := zh hc
 have HSL := zh hsl
 clear hrow hit hsz hle hcm hc hsl hrn hrb2 hroom hbd hel hfit8 hfite hE hs1 hrb
 go_enter Tryz.func28, Tryz.ntmps28
 go_upto_region 1 with fail
 have HB0 : Hid (Below w.heap.size w (w.alloc (.cells #[.int .i64 op, .string text, .slice s0 es.length kc, .slice sb body.length cb, .slice se els.length ce, .int .i64 pos] 62))) := zh (ae (Below.refl _ _) _)
 have HBX : Hid ((w.alloc (.cells #[.int .i64 op, .string text, .slice s0 es.length kc, .slice sb body.length cb, .slice se els.length ce, .int .i64 pos] 62)).heap[w.heap.size]? = some (.cells #[.int .i64 op, .string text, .slice s0 es.length kc, .slice sb body.length cb, .slice se els.length ce, .int .i64 pos] 62 (0, 0))) := zh (ah _ _ _ rfl)
 generalize (w.alloc (.cells #[.int .i64 op, .string text, .slice s0 es.length kc, .slice sb body.length cb, .slice se els.length ce, .int .i64 pos] 62)) = w1 at *
 generalize hXB : w.heap.size = XB at *
 have HXE := zh hXB
 clear hXB
 have HC := zh (HCW.out.below (by rw [HXE.out]; exact HB0.out))
 have HV := zh (SlAt.below HSL.out (by rw [HXE.out]; exact HB0.out))
 have HF : Hid (Fx B M NB w w1) := zh (Fx.of_below (by rw [HXE.out]; exact HB0.out))
 have HVL := zh (MapAt.lt HSL.out)
 clear HB0 HSL HCW
 go_wp2_with fail
 refine (js B M MB TB NB fv _ _ HC.out.ma HL1.out.1).mono ?_
 rintro e v1 ⟨rfl, hm, hf⟩
 have hnt := HC.out.ma.n.noTy
 rw [← HS1.out] at hm
 replace HV := zh (SlAt.fx hf HV.out HR.out)
 replace HBX := zh (hf.obj HBX.out (aA hnt HBX.out) (by decide) (by decide) (by decide) (by decide))
 replace HF := zh (HF.out.trans hf)
 replace HC := zh (HC.out.step hm hf)
 clear hm hf hnt
 obtain ⟨c0, -, c2, -⟩ := css HBX.out
 go_wp2_with fail
 go_loopg [17] es.length (fun g t17 wr => ∃ i : Nat, i + g = es.length ∧ t17 = .int .i64 (i : Int) ∧ StW4 B M MB TB NB fv F w0 w wr (aD F v (es.take i) s1) r v XB (.cells #[.int .i64 op, .string text, .slice s0 es.length kc, .slice sb body.length cb, .slice se els.length ce, .int .i64 pos] 62 (0, 0)))
 case atStart => exact ⟨0, Nat.zero_add _, rfl, by rw [List.take_zero, aD]; exact HC.out, HV.out, HBX.out, HF.out⟩
 case round =>
  clear HC HV HBX HF
  obtain ⟨i, hig, rfl, hew⟩ := hrel
  have HW := zh hew
  clear hew
  by_cases hlt : i < es.length
  ·obtain ⟨kb, koff, hs0, hkb, _, hcell⟩ := HROW.out (by omega)
   subst hs0
   have hrep := HIT.out i hlt
   obtain ⟨ko, kn, kt, kss, kl, kcc, kp, hcs⟩ := eu hrep
   rw [hcs] at hrep
   have hc5 : ∀ j, j < 5 → wr.cell? ⟨kb, koff + i * 5 + j, none⟩ = (cs i)[j]? := fun j hj => (HW.out.c.old.cell (p := ⟨kb, _, none⟩) hkb).trans (hcell i hlt j hj)
   rw [hcs] at hc5
   have x0 : wr.cell? ⟨kb, koff + i * 5, none⟩ = some (.int .i64 ko) := hc5 0 (by decide)
   have x1 : wr.cell? ⟨kb, koff + i * 5 + 1, none⟩ = some (.int .i64 kn) := hc5 1 (by decide)
   have x2 : wr.cell? ⟨kb, koff + i * 5 + 2, none⟩ = some (.string kt) := hc5 2 (by decide)
   have x3 : wr.cell? ⟨kb, koff + i * 5 + 3, none⟩ = some (.slice kss kl kcc) := hc5 3 (by decide)
   have x4 : wr.cell? ⟨kb, koff + i * 5 + 4, none⟩ = some (.int .i64 kp) := hc5 4 (by decide)
   have HKX := zh (jV B M MB TB NB fv F w0 _ _ hrep (jy HFE.out _ (dd default hlt)))
   have HSZ : Hid ((aD F v (es.take i) s1).ins.length + 8 * szE (es.getD i default) ≤ 1000000 ∧ (aD F v (es.take i) s1).texts.length + szE (es.getD i default) ≤ 1000000) := zh (by have q := HRM.out; have q2 := HL1.out; have q3 := cN F v (es.take i) s1; have q4 := dX es i hlt; obtain ⟨_, q5, _, q6, _⟩ := q3; omega)
   have HSN := zh (fV F v (es.take i) (es.getD i default) s1)
   rw [← cS default es i hlt] at HSN
   have HBA : Hid (Below wr.heap.size wr (wr.alloc (.cells #[.int .i64 ko, .int .i64 kn, .string kt, .slice kss kl kcc, .int .i64 kp] 65))) := zh (ae (Below.refl _ _) _)
   have HWA : Hid (StW4 B M MB TB NB fv F w0 w (wr.alloc (.cells #[.int .i64 ko, .int .i64 kn, .string kt, .slice kss kl kcc, .int .i64 kp] 65)) (aD F v (es.take i) s1) r v XB (.cells #[.int .i64 op, .string text, .slice (some ⟨kb, koff, none⟩) es.length kc, .slice sb body.length cb, .slice se els.length ce, .int .i64 pos] 62 (0, 0))) := zh ⟨HW.out.c.below HBA.out, SlAt.below HW.out.v HBA.out, (HBA.out.block _ (ad HW.out.x)).trans HW.out.x, HW.out.f.trans (Fx.of_below HBA.out)⟩
   clear hrep hc5 hcs hcell
   generalize es.getD i default = kx at *
   generalize aD F v (es.take i) s1 = sk at *
   go_wp2_with fail
   refine (HKX.out _ _ r v HWA.out.c HWA.out.v HR.out HSZ.out.1 HSZ.out.2).mono ?_
   rintro e w9 ⟨rfl, hm, hf⟩
   rw [← HSN.out] at hm
   have HW9 : Hid (StW4 B M MB TB NB fv F w0 w w9 (aD F v (es.take (i + 1)) s1) r v XB (.cells #[.int .i64 op, .string text, .slice (some ⟨kb, koff, none⟩) es.length kc, .slice sb body.length cb, .slice se els.length ce, .int .i64 pos] 62 (0, 0))) := zh ⟨HWA.out.c.step hm hf, SlAt.fx hf HWA.out.v HR.out, hf.obj HWA.out.x (aA HWA.out.c.ma.n.noTy HWA.out.x) (by decide) (by decide) (by decide) (by decide), HWA.out.f.trans hf⟩
   clear hm hf
   go_wp2_with fail
   go_roundg (es.length - i - 1)
   case measure => omega
   case rel => exact ⟨i + 1, by omega, by go_num, HW9.out⟩
  ·obtain rfl : i = es.length := by omega
   rw [List.take_of_length_le (Nat.le_refl _)] at HW
   have HC := zh HW.out.c
   have HV := zh HW.out.v
   have HBX := zh HW.out.x
   have HF := zh HW.out.f
   clear HW
   have HEK := zh (HE.out _ rfl)
   have HSB : Hid ((aD F v es s1).ins.length + 16 * (bC body + bC els) + 4 ≤ 1000000 ∧ (aD F v es s1).ins.length + 16 * (bC body + bC els) + 15 ≤ 900000 ∧ (aD F v es s1).texts.length + bC body + bC els ≤ 900000 ∧ (aD F v es s1).slots = s.slots ∧ 0 ≤ s.slots ∧ s.slots + 2 * (1 + bC body + bC els) ≤ 900000) := zh (by have q := HRM.out; have q2 := HL1.out; obtain ⟨_, q5, _, q6, q7⟩ := cN F v es s1; exact ⟨by omega, by omega, by omega, by omega, by omega, by omega⟩)
   generalize aD F v es s1 = sk at *
   clear HE
   by_cases h1 : op = 1
   ·subst h1
    have HEF : Hid (E = (bJ v text sk.slots, aq 6 sk.slots (bh sk))) := zh (by rw [HEK.out]; rfl)
    have c0 : wr.cell? ⟨XB, 0, none⟩ = some (.int .i64 1) := aa HBX.out (j := 0) rfl
    go_upto_region 9 with fail
    clear c0
    have hs0 : wr.drew.cell? ⟨XB, 1, none⟩ = some (.string text) := aa HBX.out (j := 1) rfl
    refine wp_region_held (S := (fun w' : World => w'.cell? ⟨XB, 1, none⟩ = some (.string text))) (by kernel_rfl) ?_
    refine tkA 0 ?_
    refine tkA 1 ?_
    refine tkA 2 ?_
    refine tkA 3 ?_
    clear hs0
    have HSLC := zh (gV B M MB TB NB fv sk wr.drew (HC.out.below (av (Below.refl _ _))).ma (by have := HSB.out; omega) (by have := HSB.out; omega))
    refine rd1 4 fun K hK => ?_
    go_simp
    go_at_call 17
    refine HSLC.out.mono ?_
    rintro e w8 ⟨rfl, hm, hf⟩
    replace hf := (Fx.of_below (av (Below.refl wr.heap.size wr)) : Fx B M NB wr wr.drew).trans hf
    have hnt := HC.out.ma.n.noTy
    replace HV := zh (SlAt.fx hf HV.out HR.out)
    replace HBX := zh (hf.obj HBX.out (aA hnt HBX.out) (by decide) (by decide) (by decide) (by decide))
    replace HF := zh (HF.out.trans hf)
    replace HC := zh (HC.out.step hm hf)
    clear hm hf hnt HSLC
    go_simp
    refine hK.out _ _ ?_ (fun hHeld => ?_)
    ·exact aa HBX.out (j := 1) rfl
    clear hK K
    try go_simp
    have HNT : Hid (∀ t, ¬ OfTy w8 r t) := zh (MapAt.noTy HV.out)
    obtain ⟨hput, hv3, hon⟩ := gc HV.out text sk.slots
    have HON := zh hon
    have HV3 := zh hv3
    generalize eM w8 r text (.int .i64 sk.slots) = w3 at *
    clear hon hv3
    have hfr : FxR B M NB r w8 w3 := OnS.of_on HON.out (.inl rfl)
    have HMK := zh (HC.out.ma.onMap HON.out HNT.out HR.out)
    have HXR : Hid (XB ≠ r) := zh (fun e => HNT.out _ ⟨_, _, by rw [← e]; exact HBX.out⟩)
    replace HBX := zh (hfr.obj HBX.out (aA HC.out.ma.n.noTy HBX.out) HXR.out (by decide) (by decide) (by decide) (by decide))
    have HFR := zh (HF.out.toR.trans hfr)
    replace HC := zh (HC.out.stepR HMK.out hfr HRG.out)
    clear HMK hfr HV HON HF HNT
    refine rd1 5 fun K hK => ?_
    go_simp
    refine hK.out _ _ ?_ (fun hHeld => ?_)
    ·exact aa HBX.out (j := 1) rfl
    clear hK K hput
    refine wpAnyH_done (by kernel_rfl) ?_ _
    have hlk := iu HV3.out text
    rw [ik, if_pos rfl] at hlk
    have c1 : w3.cell? ⟨XB, 1, none⟩ = some (.string text) := aa HBX.out (j := 1) rfl
    go_wp2_with fail
    refine (aP B M MB TB NB fv _ 6 _ _ HC.out.ma (by have := HSB.out; show (bh sk).ins.length ≤ _; unfold bh; dsimp only; omega)).mono ?_
    rintro e w9 ⟨cl, rfl, _, hm, hf⟩
    have HH := zh (And.intro hm (And.intro (SlAt.fx hf HV3.out HR.out) (HFR.out.trans hf.toR)))
    clear hm hf
    go_wp2_with fail
    go_end0
    exact ⟨rfl, by rw [HEF.out]; exact HH.out.1, by rw [HEF.out]; exact HH.out.2.1, HH.out.2.2⟩
   by_cases h2 : op = 2
   ·subst h2
    have HEF : Hid (E = (v, aq 6 ((aF v text).getD 0) sk)) := zh (by rw [HEK.out]; rfl)
    have hlk := iu HV.out text
    obtain ⟨c0, c1, -⟩ := css HBX.out
    go_wp2_with fail
    refine (aP B M MB TB NB fv _ 6 ((aF v text).getD 0) _ HC.out.ma (by have := HSB.out; omega)).mono ?_
    rintro e v1 ⟨cl1, rfl, hled, hm, hf⟩
    clear hled
    have hnt := HC.out.ma.n.noTy
    replace HV := zh (SlAt.fx hf HV.out HR.out)
    replace HBX := zh (hf.obj HBX.out (aA hnt HBX.out) (by decide) (by decide) (by decide) (by decide))
    replace HF := zh (HF.out.trans hf)
    replace HC := zh (HC.out.step hm hf)
    clear hm hf hnt
    go_wp2_with fail
    go_end0
    exact ⟨rfl, by rw [HEF.out]; exact HC.out.ma, by rw [HEF.out]; exact HV.out, HF.out.toR⟩
   by_cases h3 : op = 3
   ·subst h3
    cases heb : bK body
    ·have hen : bK body = false := heb
     obtain ⟨u1, hu1⟩ : ∃ x, x = aq 16 0 sk := ⟨_, rfl⟩
     obtain ⟨u2, hu2⟩ : ∃ x, x = (aI F body (v, u1)).2 := ⟨_, rfl⟩
     obtain ⟨u3, hu3⟩ : ∃ x, x = aq 15 0 u2 := ⟨_, rfl⟩
     obtain ⟨u4, hu4⟩ : ∃ x, x = cQ sk.ins.length u3 := ⟨_, rfl⟩
     obtain ⟨u5, hu5⟩ : ∃ x, x = (aI F els (v, u4)).2 := ⟨_, rfl⟩
     obtain ⟨u6, hu6⟩ : ∃ x, x = cQ u2.ins.length u5 := ⟨_, rfl⟩
     have a1 : u1.ins.length = sk.ins.length + 1 ∧ u1.texts.length = sk.texts.length ∧ u1.slots = sk.slots := by rw [hu1]; simp [aq]
     have a2 := bv F body v u1
     rw [← hu2] at a2
     obtain ⟨b1, b2, b3, b4, b5, b6⟩ := a2
     have a3 : u3.ins.length = u2.ins.length + 1 ∧ u3.texts.length = u2.texts.length ∧ u3.slots = u2.slots := by rw [hu3]; simp [aq]
     have a4 : u4.ins.length = u3.ins.length ∧ u4.texts.length = u3.texts.length ∧ u4.slots = u3.slots := by rw [hu4]; simp [cQ]
     have a5 := bv F els v u4
     rw [← hu5] at a5
     obtain ⟨d1, d2, d3, d4, d5, d6⟩ := a5
     have hz := HSB.out
     have HRO : Hid (jP (bC body) u1) := zh ⟨by omega, by omega, by omega, by omega⟩
     have HRE : Hid (jP (bC els) u4) := zh ⟨by omega, by omega, by omega, by omega⟩
     have HNS : Hid (sk.ins.length ≤ 1000000 ∧ sk.ins.length < u3.ins.length ∧ u3.ins.length ≤ 1000000 ∧ u2.ins.length ≤ 1000000 ∧ u2.ins.length < u5.ins.length ∧ u5.ins.length ≤ 1000000) := zh ⟨by omega, by omega, by omega, by omega, by omega, by omega⟩
     have HEF : Hid (E = (v, u6)) := zh (by rw [HEK.out, hu6, hu5, hu4, hu3, hu2, hu1, hen]; rfl)
     have HU1 := zh hu1
     have HU2 := zh hu2
     have HU3 := zh hu3
     have HU4 := zh hu4
     have HU5 := zh hu5
     have HU6 := zh hu6
     have HEN := zh hen
     clear hen heb a1 a3 b1 b2 b3 b4 b5 b6 hz hu1 hu2 hu3 hu4 hu5 hu6 a4 d1 d2 d3 d4 d5 d6
     have c0 : wr.cell? ⟨XB, 0, none⟩ = some (.int .i64 3) := aa HBX.out (j := 0) rfl
     go_wp2_with fail
     refine (aP B M MB TB NB fv _ 16 0 _ HC.out.ma HNS.out.1).mono ?_
     rintro e v1 ⟨cl1, rfl, hled, hm, hf⟩
     have HLA0 := zh hled
     clear hled
     have hnt := HC.out.ma.n.noTy
     rw [← HU1.out] at hm
     replace HV := zh (SlAt.fx hf HV.out HR.out)
     replace HBX := zh (hf.obj HBX.out (aA hnt HBX.out) (by decide) (by decide) (by decide) (by decide))
     replace HF := zh (HF.out.trans hf)
     replace HC := zh (HC.out.step hm hf)
     clear hm hf hnt
     have HLA := zh HLA0.out
     clear HLA0
     clear c0
     have c3 : v1.cell? ⟨XB, 3, none⟩ = some (.slice sb body.length cb) := aa HBX.out (j := 3) rfl
     go_wp2_with fail
     refine (HBD.out _ _ r v HC.out HV.out HR.out HRG.out HRO.out).mono ?_
     rintro e v2 ⟨rfl, hm, hf⟩
     have hnt := HC.out.ma.n.noTy
     rw [← HU2.out] at hm
     replace HV := zh (SlAt.fx hf HV.out HR.out)
     replace HBX := zh (hf.obj HBX.out (aA hnt HBX.out) (by decide) (by decide) (by decide) (by decide))
     replace HLA := zh (HLA.out.fx hf hnt)
     replace HF := zh (HF.out.trans hf)
     replace HC := zh (HC.out.step hm hf)
     clear hm hf hnt
     clear c3
     have c3 : v2.cell? ⟨XB, 3, none⟩ = some (.slice sb body.length cb) := aa HBX.out (j := 3) rfl
     have HEC := zh (gu body v2 (.slice sb body.length cb) ((HRB.out.keep (Stays.of_lt HC.out.old)).mono (fun _ _ => trivial)))
     rw [HEN.out] at HEC
     go_wp2_with fail
     refine HEC.out.mono ?_
     rintro e we ⟨rfl, hb⟩
     replace HLA := zh (HLA.out.fx (Fx.of_below hb : Fx B M NB _ _) HC.out.ma.n.noTy)
     replace HC := zh (HC.out.below hb)
     replace HV := zh (SlAt.below HV.out hb)
     replace HBX := zh ((hb.block _ (ad HBX.out)).trans HBX.out)
     replace HF := zh (HF.out.trans (Fx.of_below hb))
     clear hb c3 HEC
     go_wp2_with fail
     refine (aP B M MB TB NB fv _ 15 0 _ HC.out.ma HNS.out.2.2.2.1).mono ?_
     rintro e v3 ⟨cl3, rfl, hled, hm, hf⟩
     have HLB0 := zh hled
     clear hled
     have hnt := HC.out.ma.n.noTy
     rw [← HU3.out] at hm
     replace HV := zh (SlAt.fx hf HV.out HR.out)
     replace HBX := zh (hf.obj HBX.out (aA hnt HBX.out) (by decide) (by decide) (by decide) (by decide))
     replace HLA := zh (HLA.out.fx hf hnt)
     replace HF := zh (HF.out.trans hf)
     replace HC := zh (HC.out.step hm hf)
     clear hm hf hnt
     have HLB := zh HLB0.out
     clear HLB0
     obtain ⟨b1, b2, hcl, hl1, hl2⟩ := HLA.out
     subst hcl
     clear HLA
     have HL1 := zh hl1
     have HL2 := zh hl2
     clear hl1 hl2
     go_wp2_with fail
     refine (eC B M MB TB NB b1 b2 fv _ _ _ HC.out.ma HNS.out.2.1 HNS.out.2.2.1 HL1.out HL2.out).mono ?_
     rintro e v4 ⟨rfl, hm, hf⟩
     have hnt := HC.out.ma.n.noTy
     rw [← HU4.out] at hm
     replace HV := zh (SlAt.fx hf HV.out HR.out)
     replace HBX := zh (hf.obj HBX.out (aA hnt HBX.out) (by decide) (by decide) (by decide) (by decide))
     replace HLB := zh (HLB.out.fx hf hnt)
     replace HF := zh (HF.out.trans hf)
     replace HC := zh (HC.out.step hm hf)
     clear hm hf hnt
     clear HL1 HL2
     have c4 : v4.cell? ⟨XB, 4, none⟩ = some (.slice se els.length ce) := aa HBX.out (j := 4) rfl
     go_wp2_with fail
     refine (HEL.out _ _ r v HC.out HV.out HR.out HRG.out HRE.out).mono ?_
     rintro e v5 ⟨rfl, hm, hf⟩
     have hnt := HC.out.ma.n.noTy
     rw [← HU5.out] at hm
     replace HV := zh (SlAt.fx hf HV.out HR.out)
     replace HBX := zh (hf.obj HBX.out (aA hnt HBX.out) (by decide) (by decide) (by decide) (by decide))
     replace HLB := zh (HLB.out.fx hf hnt)
     replace HF := zh (HF.out.trans hf)
     replace HC := zh (HC.out.step hm hf)
     clear hm hf hnt
     clear c4
     obtain ⟨b1, b2, hcl, hl1, hl2⟩ := HLB.out
     subst hcl
     clear HLB
     have HL1 := zh hl1
     have HL2 := zh hl2
     clear hl1 hl2
     go_wp2_with fail
     refine (eC B M MB TB NB b1 b2 fv _ _ _ HC.out.ma HNS.out.2.2.2.2.1 HNS.out.2.2.2.2.2 HL1.out HL2.out).mono ?_
     rintro e v6 ⟨rfl, hm, hf⟩
     have hnt := HC.out.ma.n.noTy
     rw [← HU6.out] at hm
     replace HV := zh (SlAt.fx hf HV.out HR.out)
     replace HBX := zh (hf.obj HBX.out (aA hnt HBX.out) (by decide) (by decide) (by decide) (by decide))
     replace HF := zh (HF.out.trans hf)
     replace HC := zh (HC.out.step hm hf)
     clear hm hf hnt
     clear HL1 HL2
     go_wp2_with fail
     go_end0
     exact ⟨rfl, by rw [HEF.out]; exact HC.out.ma, by rw [HEF.out]; exact HV.out, HF.out.toR⟩
    ·have hen : bK body = true := heb
     obtain ⟨u1, hu1⟩ : ∃ x, x = aq 16 0 sk := ⟨_, rfl⟩
     obtain ⟨u2, hu2⟩ : ∃ x, x = (aI F body (v, u1)).2 := ⟨_, rfl⟩
     obtain ⟨u3, hu3⟩ : ∃ x, x = cQ sk.ins.length u2 := ⟨_, rfl⟩
     obtain ⟨u4, hu4⟩ : ∃ x, x = (aI F els (v, u3)).2 := ⟨_, rfl⟩
     have a1 : u1.ins.length = sk.ins.length + 1 ∧ u1.texts.length = sk.texts.length ∧ u1.slots = sk.slots := by rw [hu1]; simp [aq]
     have a2 := bv F body v u1
     rw [← hu2] at a2
     obtain ⟨b1, b2, b3, b4, b5, b6⟩ := a2
     have a3 : u3.ins.length = u2.ins.length ∧ u3.texts.length = u2.texts.length ∧ u3.slots = u2.slots := by rw [hu3]; simp [cQ]
     have hz := HSB.out
     have HRO : Hid (jP (bC body) u1) := zh ⟨by omega, by omega, by omega, by omega⟩
     have HRE : Hid (jP (bC els) u3) := zh ⟨by omega, by omega, by omega, by omega⟩
     have HNS : Hid (sk.ins.length ≤ 1000000 ∧ sk.ins.length < u2.ins.length ∧ u2.ins.length ≤ 1000000) := zh ⟨by omega, by omega, by omega⟩
     have HEF : Hid (E = (v, u4)) := zh (by rw [HEK.out, hu4, hu3, hu2, hu1, hen]; rfl)
     have HU1 := zh hu1
     have HU2 := zh hu2
     have HU3 := zh hu3
     have HU4 := zh hu4
     have HEN := zh hen
     clear hen heb a1 a3 b1 b2 b3 b4 b5 b6 hz hu1 hu2 hu3 hu4
     have c0 : wr.cell? ⟨XB, 0, none⟩ = some (.int .i64 3) := aa HBX.out (j := 0) rfl
     go_wp2_with fail
     refine (aP B M MB TB NB fv _ 16 0 _ HC.out.ma HNS.out.1).mono ?_
     rintro e v1 ⟨cl1, rfl, hled, hm, hf⟩
     have HLA0 := zh hled
     clear hled
     have hnt := HC.out.ma.n.noTy
     rw [← HU1.out] at hm
     replace HV := zh (SlAt.fx hf HV.out HR.out)
     replace HBX := zh (hf.obj HBX.out (aA hnt HBX.out) (by decide) (by decide) (by decide) (by decide))
     replace HF := zh (HF.out.trans hf)
     replace HC := zh (HC.out.step hm hf)
     clear hm hf hnt
     have HLA := zh HLA0.out
     clear HLA0
     clear c0
     have c3 : v1.cell? ⟨XB, 3, none⟩ = some (.slice sb body.length cb) := aa HBX.out (j := 3) rfl
     go_wp2_with fail
     refine (HBD.out _ _ r v HC.out HV.out HR.out HRG.out HRO.out).mono ?_
     rintro e v2 ⟨rfl, hm, hf⟩
     have hnt := HC.out.ma.n.noTy
     rw [← HU2.out] at hm
     replace HV := zh (SlAt.fx hf HV.out HR.out)
     replace HBX := zh (hf.obj HBX.out (aA hnt HBX.out) (by decide) (by decide) (by decide) (by decide))
     replace HLA := zh (HLA.out.fx hf hnt)
     replace HF := zh (HF.out.trans hf)
     replace HC := zh (HC.out.step hm hf)
     clear hm hf hnt
     clear c3
     have c3 : v2.cell? ⟨XB, 3, none⟩ = some (.slice sb body.length cb) := aa HBX.out (j := 3) rfl
     have HEC := zh (gu body v2 (.slice sb body.length cb) ((HRB.out.keep (Stays.of_lt HC.out.old)).mono (fun _ _ => trivial)))
     rw [HEN.out] at HEC
     go_wp2_with fail
     refine HEC.out.mono ?_
     rintro e we ⟨rfl, hb⟩
     replace HLA := zh (HLA.out.fx (Fx.of_below hb : Fx B M NB _ _) HC.out.ma.n.noTy)
     replace HC := zh (HC.out.below hb)
     replace HV := zh (SlAt.below HV.out hb)
     replace HBX := zh ((hb.block _ (ad HBX.out)).trans HBX.out)
     replace HF := zh (HF.out.trans (Fx.of_below hb))
     clear hb c3 HEC
     obtain ⟨b1, b2, hcl, hl1, hl2⟩ := HLA.out
     subst hcl
     clear HLA
     have HL1 := zh hl1
     have HL2 := zh hl2
     clear hl1 hl2
     go_wp2_with fail
     refine (eC B M MB TB NB b1 b2 fv _ _ _ HC.out.ma HNS.out.2.1 HNS.out.2.2 HL1.out HL2.out).mono ?_
     rintro e v3 ⟨rfl, hm, hf⟩
     have hnt := HC.out.ma.n.noTy
     rw [← HU3.out] at hm
     replace HV := zh (SlAt.fx hf HV.out HR.out)
     replace HBX := zh (hf.obj HBX.out (aA hnt HBX.out) (by decide) (by decide) (by decide) (by decide))
     replace HF := zh (HF.out.trans hf)
     replace HC := zh (HC.out.step hm hf)
     clear hm hf hnt
     clear HL1 HL2
     have c4 : v3.cell? ⟨XB, 4, none⟩ = some (.slice se els.length ce) := aa HBX.out (j := 4) rfl
     go_wp2_with fail
     refine (HEL.out _ _ r v HC.out HV.out HR.out HRG.out HRE.out).mono ?_
     rintro e v4 ⟨rfl, hm, hf⟩
     have hnt := HC.out.ma.n.noTy
     rw [← HU4.out] at hm
     replace HV := zh (SlAt.fx hf HV.out HR.out)
     replace HBX := zh (hf.obj HBX.out (aA hnt HBX.out) (by decide) (by decide) (by decide) (by decide))
     replace HF := zh (HF.out.trans hf)
     replace HC := zh (HC.out.step hm hf)
     clear hm hf hnt
     clear c4
     have hcf : ∀ args W, Sem.run Tryz.prog (callFunc 58 args) W = .ok (.enter 58 args) W := fun _ _ => Tryz.call58 _ _
     go_wp2_with fail
     refine (kT _).mono ?_
     rintro e wz ⟨rfl, rfl⟩
     go_wp2_with fail
     go_end0
     exact ⟨rfl, by rw [HEF.out]; exact HC.out.ma, by rw [HEF.out]; exact HV.out, HF.out.toR⟩
   by_cases h4 : op = 4
   ·subst h4
    have HEF : Hid (E = (v, lF F v text body sk)) := zh (by rw [HEK.out]; rfl)
    obtain ⟨c0, c1, c2, c3, c4, c5, -⟩ := css HBX.out
    go_wp2_with fail
    refine ((ow B M MB TB NB fv F w0 4 pos text s0 se es.length kc els.length ce (.slice sb body.length cb) body HBD.out _ sk r v HC.out HV.out HR.out HRG.out (by have hz := HSB.out; exact ⟨by omega, by omega, by omega, by omega⟩))).mono ?_
    rintro e v1 ⟨rfl, hm, hf⟩
    have hnt := HC.out.ma.n.noTy
    replace HV := zh (SlAt.fx hf HV.out HR.out)
    replace HBX := zh (hf.obj HBX.out (aA hnt HBX.out) (by decide) (by decide) (by decide) (by decide))
    replace HF := zh (HF.out.trans hf)
    replace HC := zh (HC.out.step hm hf)
    clear hm hf hnt
    go_wp2_with fail
    go_end0
    exact ⟨rfl, by rw [HEF.out]; exact HC.out.ma, by rw [HEF.out]; exact HV.out, HF.out.toR⟩
   by_cases h5 : op = 5
   ·subst h5
    have HEF : Hid (E = (v, aq 18 0 sk)) := zh (by rw [HEK.out]; rfl)
    have c0 : wr.cell? ⟨XB, 0, none⟩ = some (.int .i64 5) := aa HBX.out (j := 0) rfl
    go_wp2_with fail
    refine (aP B M MB TB NB fv _ 18 0 _ HC.out.ma (by have := HSB.out; omega)).mono ?_
    rintro e v1 ⟨cl1, rfl, hled, hm, hf⟩
    clear hled
    have hnt := HC.out.ma.n.noTy
    replace HV := zh (SlAt.fx hf HV.out HR.out)
    replace HBX := zh (hf.obj HBX.out (aA hnt HBX.out) (by decide) (by decide) (by decide) (by decide))
    replace HF := zh (HF.out.trans hf)
    replace HC := zh (HC.out.step hm hf)
    clear hm hf hnt
    go_wp2_with fail
    go_end0
    exact ⟨rfl, by rw [HEF.out]; exact HC.out.ma, by rw [HEF.out]; exact HV.out, HF.out.toR⟩
   by_cases h6 : op = 6
   ·subst h6
    have HEF : Hid (E = (v, aq 12 0 sk)) := zh (by rw [HEK.out]; rfl)
    have c0 : wr.cell? ⟨XB, 0, none⟩ = some (.int .i64 6) := aa HBX.out (j := 0) rfl
    go_wp2_with fail
    refine (aP B M MB TB NB fv _ 12 0 _ HC.out.ma (by have := HSB.out; omega)).mono ?_
    rintro e v1 ⟨cl1, rfl, hled, hm, hf⟩
    clear hled
    have hnt := HC.out.ma.n.noTy
    replace HV := zh (SlAt.fx hf HV.out HR.out)
    replace HBX := zh (hf.obj HBX.out (aA hnt HBX.out) (by decide) (by decide) (by decide) (by decide))
    replace HF := zh (HF.out.trans hf)
    replace HC := zh (HC.out.step hm hf)
    clear hm hf hnt
    go_wp2_with fail
    go_end0
    exact ⟨rfl, by rw [HEF.out]; exact HC.out.ma, by rw [HEF.out]; exact HV.out, HF.out.toR⟩
   by_cases h7 : op = 7
   ·subst h7
    have HEF : Hid (E = (v, aq 13 0 sk)) := zh (by rw [HEK.out]; rfl)
    have c0 : wr.cell? ⟨XB, 0, none⟩ = some (.int .i64 7) := aa HBX.out (j := 0) rfl
    go_wp2_with fail
    refine (aP B M MB TB NB fv _ 13 0 _ HC.out.ma (by have := HSB.out; omega)).mono ?_
    rintro e v1 ⟨cl1, rfl, hled, hm, hf⟩
    clear hled
    have hnt := HC.out.ma.n.noTy
    replace HV := zh (SlAt.fx hf HV.out HR.out)
    replace HBX := zh (hf.obj HBX.out (aA hnt HBX.out) (by decide) (by decide) (by decide) (by decide))
    replace HF := zh (HF.out.trans hf)
    replace HC := zh (HC.out.step hm hf)
    clear hm hf hnt
    go_wp2_with fail
    go_end0
    exact ⟨rfl, by rw [HEF.out]; exact HC.out.ma, by rw [HEF.out]; exact HV.out, HF.out.toR⟩
   by_cases h8 : op = 8
   ·subst h8
    obtain ⟨hl8, hp8, _⟩ := HF8.out rfl
    obtain ⟨kb, koff, hs0, hkb, _, hcell⟩ := HROW.out hl8
    subst hs0
    obtain ⟨ko, kn, kt, kss, kl, kcc, kp, hcs⟩ := eu (HIT.out 0 hl8)
    have hx2 := (HC.out.old.cell (p := ⟨kb, koff + 0 * 5 + 2, none⟩) hkb).trans (hcell 0 hl8 2 (by decide))
    rw [hcs, Nat.zero_mul, Nat.add_zero] at hx2
    have hkt : (es.headD default).text = kt := by
     have q := HIT.out 0 hl8
     rw [hcs] at q
     match es, hl8, q with
     | y :: l, _, q =>
      obtain ⟨yo, yn, yt, yk, yp⟩ := y
      obtain ⟨u, e, _⟩ := RepEx.kids q
      simp only [List.cons.injEq, Value.string.injEq] at e
      exact e.2.2.1.symm
    rw [hkt] at HEK hp8
    have hx2b : wr.cell? ⟨kb, koff + 2, none⟩ = some (.string kt) := hx2
    have HFU := zh (hG B M MB TB NB fv sk F kt wr HC.out.ma (HC.out.fn.mono (fun _ _ => trivial)) hp8)
    have gl0 : (0 : Int) < (es.length : Int) := by omega
    clear hx2 hcs hcell hkt hkb hp8 hl8
    generalize gp F kt = R at *
    obtain ⟨c0, -, c2, -⟩ := css HBX.out
    go_wp2_with fail
    refine HFU.out.mono ?_
    rintro e w8 ⟨rfl, hb⟩
    replace HC := zh (HC.out.below hb)
    replace HV := zh (SlAt.below HV.out hb)
    replace HBX := zh ((hb.block _ (ad HBX.out)).trans HBX.out)
    replace HF := zh (HF.out.trans (Fx.of_below hb))
    clear hb HFU c0 c2 hx2b
    by_cases hR : R = 0
    ·subst hR
     have HEF : Hid (E = (v, sk)) := zh (by rw [HEK.out]; rfl)
     go_wp2_with fail
     go_end0
     exact ⟨rfl, by rw [HEF.out]; exact HC.out.ma, by rw [HEF.out]; exact HV.out, HF.out.toR⟩
    ·have HEF : Hid (E = (v, aq 17 0 sk)) := zh (by rw [HEK.out]; simp [hR])
     have hRq : (R != 0) = true := bne_iff_ne.2 hR
     go_wp2_with fail
     refine (aP B M MB TB NB fv _ 17 0 _ HC.out.ma (by have := HSB.out; omega)).mono ?_
     rintro e v1 ⟨cl1, rfl, hled, hm, hf⟩
     clear hled
     have hnt := HC.out.ma.n.noTy
     replace HV := zh (SlAt.fx hf HV.out HR.out)
     replace HBX := zh (hf.obj HBX.out (aA hnt HBX.out) (by decide) (by decide) (by decide) (by decide))
     replace HF := zh (HF.out.trans hf)
     replace HC := zh (HC.out.step hm hf)
     clear hm hf hnt
     go_wp2_with fail
     go_end0
     exact ⟨rfl, by rw [HEF.out]; exact HC.out.ma, by rw [HEF.out]; exact HV.out, HF.out.toR⟩
   have HEF : Hid (E = (v, sk)) := zh (by rw [HEK.out]; simp [h1, h2, h3, h4, h5, h6, h7, h8])
   have g1 : (op == 1) = false := beq_false_of_ne h1
   have g2 : (op == 2) = false := beq_false_of_ne h2
   have g3 : (op == 3) = false := beq_false_of_ne h3
   have g4 : (op == 4) = false := beq_false_of_ne h4
   have g5 : (op == 5) = false := beq_false_of_ne h5
   have g6 : (op == 6) = false := beq_false_of_ne h6
   have g7 : (op == 7) = false := beq_false_of_ne h7
   have g8 : (op == 8) = false := beq_false_of_ne h8
   have c0 : wr.cell? ⟨XB, 0, none⟩ = some (.int .i64 op) := aa HBX.out (j := 0) rfl
   go_wp2_with fail
   go_end0
   exact ⟨rfl, by rw [HEF.out]; exact HC.out.ma, by rw [HEF.out]; exact HV.out, HF.out.toR⟩
theorem lR {F : List Fn} : ∀ {l : List St}, dO F l → ∀ x, x ∈ l → kF F x
 | y :: l, h, x, hx => by
  rw [dO] at h
  rcases List.mem_cons.1 hx with rfl | hx
  ·exact h.1
  ·exact lR h.2 x hx
theorem gL (B M MB TB NB : Nat) (fv : Value) (F : List Fn) (w0 : World) (l : List St) : ∀ u : Value, RepSts (fun b => b < B) w0 u l → dO F l → hJ B M MB TB NB fv F w0 u l := by
 intro u hr hf
 refine kV B M MB TB NB fv F w0 l u hr fun x hx cs hrx => ?_
 have hfx := lR hf x hx
 have hlt := St.body_lt hx
 obtain ⟨op, text, es, body, els, pos⟩ := x
 obtain ⟨ve, vb, vl, rfl, he, hb, hl⟩ := RepSt.parts hrx
 have hfb : dO F body ∧ dO F els := by rw [kF] at hfx; exact hfx.2.2
 have h1 := gL B M MB TB NB fv F w0 body vb hb hfb.1
 have h2 := gL B M MB TB NB fv F w0 els vl hl hfb.2
 obtain ⟨cb, ⟨sb, kb, rfl, r1⟩, r2⟩ := hb
 obtain ⟨cl, ⟨se, ke, rfl, _⟩, _⟩ := hl
 exact mx B M MB TB NB fv F w0 op pos text es body els ve sb se kb ke he ⟨cb, ⟨sb, kb, rfl, r1⟩, r2⟩ hfx h1 h2
termination_by SizeOf.sizeOf l
decreasing_by
 ·exact hlt.1
 ·exact hlt.2
end
end Go.Proofs.YtjblihabklemfaaGreatDoor
