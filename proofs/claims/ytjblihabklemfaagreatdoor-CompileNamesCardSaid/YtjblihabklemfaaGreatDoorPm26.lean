/-
  Compile: part 26 of its proof: see the last text.
-/
import Derived.Test.YtjblihabklemfaaGreatDoorPm25
set_option maxRecDepth 100000
set_option maxHeartbeats 16000000
namespace Go.Proofs.YtjblihabklemfaaGreatDoor
section
open Go.RowKit
theorem fV (F : List Fn) (v : bg) : ∀ (l : List Ex) (x : Ex) (s : CS), aD F v (l ++ [x]) s = cE F v x (aD F v l s)
 | [], x, s => by rw [List.nil_append, aD, aD, aD]
 | y :: l, x, s => by rw [List.cons_append, aD, aD, fV F v l x]
theorem cS {α : Type} (d : α) (l : List α) (i : Nat) (h : i < l.length) : l.take (i + 1) = l.take i ++ [l.getD i d] := by
 rw [List.take_succ_eq_append_getElem h, List.getD_eq_getElem?_getD, List.getElem?_eq_getElem h]
 rfl
theorem dX : ∀ (l : List Ex) (i : Nat), i < l.length → aN (l.take i) + szE (l.getD i default) ≤ aN l
 | x :: l, 0, _ => by rw [List.take_zero, aN, aN]; show 0 + szE x ≤ _; omega
 | x :: l, i + 1, h => by
  have := dX l i (by simpa using h)
  rw [List.take_succ_cons, aN, aN]
  show szE x + aN (l.take i) + szE (l.getD i default) ≤ _
  omega
theorem jy {F : List Fn} : ∀ {l : List Ex}, dw F l → ∀ x, x ∈ l → iX F x
 | y :: l, h, x, hx => by
  rw [dw] at h
  rcases List.mem_cons.1 hx with rfl | hx
  ·exact h.1
  ·exact jy h.2 x hx
theorem dd {α : Type} (d : α) {l : List α} {i : Nat} (h : i < l.length) : l.getD i d ∈ l := by
 rw [List.getD_eq_getElem?_getD, List.getElem?_eq_getElem h]
 exact List.getElem_mem h
theorem eu {S : Nat → Prop} {w : World} {cs : List Value} {x : Ex} (h : RepEx S w cs x) : ∃ op num text s n c pos, cs = [.int .i64 op, .int .i64 num, .string text, .slice s n c, .int .i64 pos] := by
 obtain ⟨op, num, text, v, pos, e, s, n, c, rfl⟩ := h.form
 exact ⟨op, num, text, s, n, c, pos, e⟩
structure ExW (B M MB TB NB : Nat) (fv : Value) (F : List Fn) (w0 w W : World) (s : CS) (r : Nat) (v : bg) (XB : Nat) (o : Obj) : Prop where
 c : CoW B M MB TB NB fv F w0 W s
 v : SlAt W r v
 x : W.heap[XB]? = some o
 f : Fx B M NB w W
theorem mL (B M MB TB NB : Nat) (fv : Value) (F : List Fn) (w0 : World) (op num pos : Int) (text : ByteArray) (ks : List Ex) (u : Value) (hr : RepExs (fun b => b < B) w0 u ks) (hfit : iX F (.mk op num text ks pos))
    (ih : ∀ x, x ∈ ks → ∀ cs, RepEx (fun b => b < B) w0 cs x → jD B M MB TB NB fv F w0 cs x) : jD B M MB TB NB fv F w0 [.int .i64 op, .int .i64 num, .string text, u, .int .i64 pos] (.mk op num text ks pos) := by
 intro w s r v hc hsl hrn hi ht
 obtain ⟨cs, ⟨s0, kc, rfl, hle, hcm, _, hrow, hsz⟩, hit⟩ := hr
 rw [iX] at hfit
 obtain ⟨hfit5, hfit6, hfitk⟩ := hfit
 rw [szE] at hi ht
 have HROW := zh hrow
 have HIT := zh hit
 have HIH := zh ih
 have HFIT := zh (And.intro hfit5 hfit6)
 have HR := zh hrn
 have HBN := zh (And.intro hi ht)
 unfold maxLen at hcm
 have hlen : ks.length ≤ 9223372036854775807 := by omega
 obtain ⟨s1, hs1⟩ : ∃ x, x = aq 1 1 s := ⟨_, rfl⟩
 have HS1 := zh hs1
 have HL1 : Hid (s.ins.length ≤ 1000000 ∧ s1.ins.length = s.ins.length + 1 ∧ s1.texts.length = s.texts.length) := zh ⟨by omega, by rw [hs1]; simp [aq], by rw [hs1]; rfl⟩
 obtain ⟨b1, hb1⟩ : ∃ b, (text.toList == [38, 38]) = b := ⟨_, rfl⟩
 obtain ⟨b2, hb2⟩ : ∃ b, (text.toList == [124, 124]) = b := ⟨_, rfl⟩
 generalize hE : cE F v (.mk op num text ks pos) s = E
 have HE : Hid (E = if (b1 || b2) && op == 6 then cn F v b1 ks s1 else if op = 1 then aq 2 num (aD F v ks s1) else if op = 2 then aq 3 (kZ num) (aD F v ks s1) else if op = 3 then aq 4 (d7 (dg text (aD F v ks s1)).texts text) (dg text (aD F v ks s1)) else if op = 4 then aq 5 ((aF v text).getD 0) (aD F v ks s1) else if op = 5 then aq 14 (bI F text) (aD F v ks s1) else if op = 6 then aq 7 (cL text.toList) (aD F v ks s1) else if op = 7 then aq 8 (cL text.toList) (aD F v ks s1) else if op = 8 then aq 9 0 (aD F v ks s1) else if op = 9 then aq 10 0 (aD F v ks s1) else if op = 10 then aq 11 0 (aD F v ks s1) else aD F v ks s1) := zh (by rw [← hE, cE]; unfold nS orB; rw [hb1, hb2, hs1])
 have HB12 := zh (And.intro hb1 hb2)
 have HCW := zh hc
 have HSL := zh hsl
 clear hrow hit hsz hle hcm hc hsl hrn hi ht ih hfit5 hfit6 hE hs1 hb1 hb2
 go_enter Tryz.func57, Tryz.ntmps57
 go_upto_region 1 with fail
 have HB0 : Hid (Below w.heap.size w (w.alloc (.cells #[.int .i64 op, .int .i64 num, .string text, .slice s0 ks.length kc, .int .i64 pos] 65))) := zh (ae (Below.refl _ _) _)
 have HBX : Hid ((w.alloc (.cells #[.int .i64 op, .int .i64 num, .string text, .slice s0 ks.length kc, .int .i64 pos] 65)).heap[w.heap.size]? = some (.cells #[.int .i64 op, .int .i64 num, .string text, .slice s0 ks.length kc, .int .i64 pos] 65 (0, 0))) := zh (ah _ _ _ rfl)
 generalize (w.alloc (.cells #[.int .i64 op, .int .i64 num, .string text, .slice s0 ks.length kc, .int .i64 pos] 65)) = w1 at *
 generalize hXB : w.heap.size = XB at *
 have HXE := zh hXB
 clear hXB
 have HC := zh (HCW.out.below (by rw [HXE.out]; exact HB0.out))
 have HV := zh (SlAt.below HSL.out (by rw [HXE.out]; exact HB0.out))
 have HF : Hid (Fx B M NB w w1) := zh (Fx.of_below (by rw [HXE.out]; exact HB0.out))
 clear HB0 HSL HCW
 go_wp2_with fail
 refine (js B M MB TB NB fv _ _ HC.out.ma HL1.out.1).mono ?_
 rintro e v1 ⟨rfl, hm, hf⟩
 have hnt := HC.out.ma.n.noTy
 rw [← HS1.out] at hm
 replace HV := zh (SlAt.fx hf HV.out HR.out)
 replace HBX := zh (hf.obj HBX.out (aA hnt HBX.out) (by decide) (by decide) (by decide) (by decide))
 replace HF := zh (HF.out.trans hf)
 replace HC := zh (HC.out.step hm hf)
 clear hm hf hnt
 cases hcb : (b1 || b2) && op == 6
 ·replace HE := zh (by have q := HE.out; rw [hcb] at q; exact q)
  have hcase : (b1 = true ∧ ¬ op = 6) ∨ (b1 = false ∧ b2 = true ∧ ¬ op = 6) ∨ (b1 = false ∧ b2 = false) := by
   revert hcb
   cases b1 <;> cases b2 <;> simp
  have htx := HB12.out.1
  have hty := HB12.out.2
  have HEN := zh HE.out
  clear hcb HE
  rcases hcase with ⟨rfl, h6x⟩ | ⟨rfl, rfl, h6x⟩ | ⟨rfl, rfl⟩
  all_goals
   try have g6x : (op == 6) = false := beq_false_of_ne h6x
   obtain ⟨c0, -, c2, c3, -⟩ := css HBX.out
   go_wp2_with fail
   go_loopg [31] ks.length (fun g t31 wr => ∃ i : Nat, i + g = ks.length ∧ t31 = .int .i64 (i : Int) ∧ ExW B M MB TB NB fv F w0 w wr (aD F v (ks.take i) s1) r v XB (.cells #[.int .i64 op, .int .i64 num, .string text, .slice s0 ks.length kc, .int .i64 pos] 65 (0, 0)))
   case atStart => exact ⟨0, Nat.zero_add _, rfl, by rw [List.take_zero, aD]; exact HC.out, HV.out, HBX.out, HF.out⟩
   case round =>
    clear HC HV HBX HF
    obtain ⟨i, hig, rfl, hew⟩ := hrel
    have HW := zh hew
    clear hew
    by_cases hlt : i < ks.length
    ·obtain ⟨kb, koff, hs0, hkb, _, hcell⟩ := HROW.out (by omega)
     subst hs0
     have hrep := HIT.out i hlt
     obtain ⟨ko, kn, kt, kss, kl, kcc, kp, hcs⟩ := eu hrep
     rw [hcs] at hrep
     have hc5 : ∀ j, j < 5 → wr.cell? ⟨kb, koff + i * 5 + j, none⟩ = (cs i)[j]? := fun j hj => (HW.out.c.old.cell (p := ⟨kb, _, none⟩) hkb).trans (hcell i hlt j hj)
     rw [hcs] at hc5
     have x0 : wr.cell? ⟨kb, koff + i * 5, none⟩ = some (.int .i64 ko) := hc5 0 (by decide)
     have x1 : wr.cell? ⟨kb, koff + i * 5 + 1, none⟩ = some (.int .i64 kn) := hc5 1 (by decide)
     have x2 : wr.cell? ⟨kb, koff + i * 5 + 2, none⟩ = some (.string kt) := hc5 2 (by decide)
     have x3 : wr.cell? ⟨kb, koff + i * 5 + 3, none⟩ = some (.slice kss kl kcc) := hc5 3 (by decide)
     have x4 : wr.cell? ⟨kb, koff + i * 5 + 4, none⟩ = some (.int .i64 kp) := hc5 4 (by decide)
     have HKX := zh (HIH.out _ (dd default hlt) _ hrep)
     have HSZ : Hid ((aD F v (ks.take i) s1).ins.length + 8 * szE (ks.getD i default) ≤ 1000000 ∧ (aD F v (ks.take i) s1).texts.length + szE (ks.getD i default) ≤ 1000000) := zh (by have q := HBN.out; have q2 := HL1.out; have q3 := cN F v (ks.take i) s1; have q4 := dX ks i hlt; obtain ⟨_, q5, _, q6, _⟩ := q3; omega)
     have HSN := zh (fV F v (ks.take i) (ks.getD i default) s1)
     rw [← cS default ks i hlt] at HSN
     have HBA : Hid (Below wr.heap.size wr (wr.alloc (.cells #[.int .i64 ko, .int .i64 kn, .string kt, .slice kss kl kcc, .int .i64 kp] 65))) := zh (ae (Below.refl _ _) _)
     have HWA : Hid (ExW B M MB TB NB fv F w0 w (wr.alloc (.cells #[.int .i64 ko, .int .i64 kn, .string kt, .slice kss kl kcc, .int .i64 kp] 65)) (aD F v (ks.take i) s1) r v XB (.cells #[.int .i64 op, .int .i64 num, .string text, .slice (some ⟨kb, koff, none⟩) ks.length kc, .int .i64 pos] 65 (0, 0))) := zh ⟨HW.out.c.below HBA.out, SlAt.below HW.out.v HBA.out, (HBA.out.block _ (ad HW.out.x)).trans HW.out.x, HW.out.f.trans (Fx.of_below HBA.out)⟩
     clear hrep hc5 hcs hcell
     generalize ks.getD i default = kx at *
     generalize aD F v (ks.take i) s1 = sk at *
     go_wp2_with fail
     refine (HKX.out _ _ r v HWA.out.c HWA.out.v HR.out HSZ.out.1 HSZ.out.2).mono ?_
     rintro e w9 ⟨rfl, hm, hf⟩
     rw [← HSN.out] at hm
     have HW9 : Hid (ExW B M MB TB NB fv F w0 w w9 (aD F v (ks.take (i + 1)) s1) r v XB (.cells #[.int .i64 op, .int .i64 num, .string text, .slice (some ⟨kb, koff, none⟩) ks.length kc, .int .i64 pos] 65 (0, 0))) := zh ⟨HWA.out.c.step hm hf, SlAt.fx hf HWA.out.v HR.out, hf.obj HWA.out.x (aA HWA.out.c.ma.n.noTy HWA.out.x) (by decide) (by decide) (by decide) (by decide), HWA.out.f.trans hf⟩
     clear hm hf
     go_wp2_with fail
     go_roundg (ks.length - i - 1)
     case measure => omega
     case rel => exact ⟨i + 1, by omega, by go_num, HW9.out⟩
    ·obtain rfl : i = ks.length := by omega
     rw [List.take_of_length_le (Nat.le_refl _)] at HW
     have HC := zh HW.out.c
     have HV := zh HW.out.v
     have HBX := zh HW.out.x
     have HF := zh HW.out.f
     clear HW
     have HSB : Hid ((aD F v ks s1).ins.length + 4 ≤ 1000000 ∧ (aD F v ks s1).texts.length + 1 ≤ 1000000) := zh (by have q := HBN.out; have q2 := HL1.out; obtain ⟨_, q5, _, q6, _⟩ := cN F v ks s1; omega)
     generalize aD F v ks s1 = sk at *
     by_cases h1 : op = 1
     ·subst h1
      have HEF : Hid (E = aq 2 num sk) := zh (by rw [HEN.out]; rfl)
      obtain ⟨c0, c1, -⟩ := css HBX.out
      go_wp2_with fail
      refine (aP B M MB TB NB fv _ 2 num _ HC.out.ma (by have := HSB.out; omega)).mono ?_
      rintro e v1 ⟨cl1, rfl, hled, hm, hf⟩
      clear hled
      have hnt := HC.out.ma.n.noTy
      replace HV := zh (SlAt.fx hf HV.out HR.out)
      replace HBX := zh (hf.obj HBX.out (aA hnt HBX.out) (by decide) (by decide) (by decide) (by decide))
      replace HF := zh (HF.out.trans hf)
      replace HC := zh (HC.out.step hm hf)
      clear hm hf hnt
      go_wp2_with fail
      go_end0
      exact ⟨rfl, by rw [HEF.out]; exact HC.out.ma, HF.out⟩
     by_cases h2 : op = 2
     ·subst h2
      by_cases hb : num = 1
      ·subst hb
       have HEF : Hid (E = aq 3 1 sk) := zh (by rw [HEN.out]; rfl)
       obtain ⟨c0, c1, -⟩ := css HBX.out
       go_wp2_with fail
       refine (aP B M MB TB NB fv _ 3 1 _ HC.out.ma (by have := HSB.out; omega)).mono ?_
       rintro e v1 ⟨cl1, rfl, hled, hm, hf⟩
       clear hled
       have hnt := HC.out.ma.n.noTy
       replace HV := zh (SlAt.fx hf HV.out HR.out)
       replace HBX := zh (hf.obj HBX.out (aA hnt HBX.out) (by decide) (by decide) (by decide) (by decide))
       replace HF := zh (HF.out.trans hf)
       replace HC := zh (HC.out.step hm hf)
       clear hm hf hnt
       go_wp2_with fail
       go_end0
       exact ⟨rfl, by rw [HEF.out]; exact HC.out.ma, HF.out⟩
      ·have HEF : Hid (E = aq 3 0 sk) := zh (by rw [HEN.out]; unfold kZ; rw [if_neg hb]; rfl)
       have hbq : (num == 1) = false := beq_false_of_ne hb
       obtain ⟨c0, c1, -⟩ := css HBX.out
       go_wp2_with fail
       refine (aP B M MB TB NB fv _ 3 0 _ HC.out.ma (by have := HSB.out; omega)).mono ?_
       rintro e v1 ⟨cl1, rfl, hled, hm, hf⟩
       clear hled
       have hnt := HC.out.ma.n.noTy
       replace HV := zh (SlAt.fx hf HV.out HR.out)
       replace HBX := zh (hf.obj HBX.out (aA hnt HBX.out) (by decide) (by decide) (by decide) (by decide))
       replace HF := zh (HF.out.trans hf)
       replace HC := zh (HC.out.step hm hf)
       clear hm hf hnt
       go_wp2_with fail
       go_end0
       exact ⟨rfl, by rw [HEF.out]; exact HC.out.ma, HF.out⟩
     by_cases h3 : op = 3
     ·subst h3
      have HEF : Hid (E = aq 4 (d7 (dg text sk).texts text) (dg text sk)) := zh (by rw [HEN.out]; rfl)
      obtain ⟨iv, hmm, _⟩ := HC.out.ma.m
      have HM0 := zh (aa hmm (j := 0) rfl : wr.cell? ⟨MB, 0, none⟩ = some (.pointer (some ⟨TB, 0, none⟩)))
      clear hmm
      have c0 : wr.cell? ⟨XB, 0, none⟩ = some (.int .i64 3) := aa HBX.out (j := 0) rfl
      go_upto_region 19 with fail
      clear c0
      have hs0 : wr.drew.cell? ⟨MB, 0, none⟩ = some (.pointer (some ⟨TB, 0, none⟩)) ∧ wr.drew.cell? ⟨XB, 2, none⟩ = some (.string text) := ⟨HM0.out, aa HBX.out (j := 2) rfl⟩
      refine wp_region_held (S := (fun w' : World => w'.cell? ⟨MB, 0, none⟩ = some (.pointer (some ⟨TB, 0, none⟩)) ∧ w'.cell? ⟨XB, 2, none⟩ = some (.string text))) (by kernel_rfl) ?_
      refine tkA 0 ?_
      refine tkA 1 ?_
      refine tkA 2 ?_
      refine tkA 3 ?_
      refine tkA 4 ?_
      refine tkA 5 ?_
      refine tkA 6 ?_
      clear hs0
      have HNU := zh (pU B M MB TB NB fv sk text wr.drew (HC.out.below (av (Below.refl _ _))).ma (by have := HSB.out; omega))
      refine rd1 7 fun K hK => ?_
      go_simp
      go_at_call 87
      refine HNU.out.mono ?_
      rintro e w8 ⟨rfl, hm, hf⟩
      replace hf := (Fx.of_below (av (Below.refl wr.heap.size wr)) : Fx B M NB wr wr.drew).trans hf
      have hnt := HC.out.ma.n.noTy
      replace HV := zh (SlAt.fx hf HV.out HR.out)
      replace HBX := zh (hf.obj HBX.out (aA hnt HBX.out) (by decide) (by decide) (by decide) (by decide))
      replace HF := zh (HF.out.trans hf)
      replace HC := zh (HC.out.step hm hf)
      clear hm hf hnt HNU
      obtain ⟨iv, hmm, _⟩ := HC.out.ma.m
      replace HM0 := zh (aa hmm (j := 0) rfl : w8.cell? ⟨MB, 0, none⟩ = some (.pointer (some ⟨TB, 0, none⟩)))
      clear hmm
      go_simp
      refine hK.out _ _ ?_ (fun hHeld => ?_)
      ·exact ⟨HM0.out, aa HBX.out (j := 2) rfl⟩
      clear hK K
      try go_simp
      have HTA : Hid ((dg text sk).ins.length ≤ 1000000) := zh (by have := HSB.out; obtain ⟨_, q, _⟩ := kg text sk; omega)
      generalize dg text sk = sq at *
      refine rd1 8 fun K hK => ?_
      go_simp
      go_at_call 19
      refine (aP B M MB TB NB fv _ 4 _ _ HC.out.ma HTA.out).mono ?_
      rintro e w9 ⟨cl, rfl, _, hm, hf⟩
      have hnt := HC.out.ma.n.noTy
      replace HBX := zh (hf.obj HBX.out (aA hnt HBX.out) (by decide) (by decide) (by decide) (by decide))
      replace HF := zh (HF.out.trans hf)
      replace HC := zh (HC.out.step hm hf)
      clear hm hf hnt
      obtain ⟨iv, hmm, _⟩ := HC.out.ma.m
      replace HM0 := zh (aa hmm (j := 0) rfl : w9.cell? ⟨MB, 0, none⟩ = some (.pointer (some ⟨TB, 0, none⟩)))
      clear hmm
      go_simp
      refine hK.out _ _ ?_ (fun hHeld => ?_)
      ·exact ⟨HM0.out, aa HBX.out (j := 2) rfl⟩
      clear hK K
      refine wpAnyH_done (by kernel_rfl) ?_ _
      go_wp2_with fail
      go_end0
      exact ⟨rfl, by rw [HEF.out]; exact HC.out.ma, HF.out⟩
     by_cases h4 : op = 4
     ·subst h4
      have hlk := iu HV.out text
      have HEF : Hid (E = aq 5 ((aF v text).getD 0) sk) := zh (by rw [HEN.out]; rfl)
      obtain ⟨c0, -, c2, -⟩ := css HBX.out
      go_wp2_with fail
      refine (aP B M MB TB NB fv _ 5 ((aF v text).getD 0) _ HC.out.ma (by have := HSB.out; omega)).mono ?_
      rintro e v1 ⟨cl1, rfl, hled, hm, hf⟩
      clear hled
      have hnt := HC.out.ma.n.noTy
      replace HV := zh (SlAt.fx hf HV.out HR.out)
      replace HBX := zh (hf.obj HBX.out (aA hnt HBX.out) (by decide) (by decide) (by decide) (by decide))
      replace HF := zh (HF.out.trans hf)
      replace HC := zh (HC.out.step hm hf)
      clear hm hf hnt
      go_wp2_with fail
      go_end0
      exact ⟨rfl, by rw [HEF.out]; exact HC.out.ma, HF.out⟩
     by_cases h5 : op = 5
     ·subst h5
      have HEF : Hid (E = aq 14 (bI F text) sk) := zh (by rw [HEN.out]; rfl)
      have HFU := zh (hG B M MB TB NB fv sk F text wr HC.out.ma (HC.out.fn.mono (fun _ _ => trivial)) (HFIT.out.1 rfl))
      obtain ⟨c0, -, c2, -⟩ := css HBX.out
      go_wp2_with fail
      refine HFU.out.mono ?_
      rintro e w8 ⟨rfl, hb⟩
      replace HC := zh (HC.out.below hb)
      replace HV := zh (SlAt.below HV.out hb)
      replace HBX := zh ((hb.block _ (ad HBX.out)).trans HBX.out)
      replace HF := zh (HF.out.trans (Fx.of_below hb))
      clear hb HFU c0 c2
      go_wp2_with fail
      refine (aP B M MB TB NB fv _ 14 (bI F text : Nat) _ HC.out.ma (by have := HSB.out; omega)).mono ?_
      rintro e v1 ⟨cl1, rfl, hled, hm, hf⟩
      clear hled
      have hnt := HC.out.ma.n.noTy
      replace HV := zh (SlAt.fx hf HV.out HR.out)
      replace HBX := zh (hf.obj HBX.out (aA hnt HBX.out) (by decide) (by decide) (by decide) (by decide))
      replace HF := zh (HF.out.trans hf)
      replace HC := zh (HC.out.step hm hf)
      clear hm hf hnt
      go_wp2_with fail
      go_end0
      exact ⟨rfl, by rw [HEF.out]; exact HC.out.ma, HF.out⟩
     by_cases h6 : op = 6
     ·subst h6
      try exact absurd rfl h6x
      all_goals
       have HEF : Hid (E = aq 7 (cL text.toList) sk) := zh (by rw [HEN.out]; rfl)
       have HNU := zh (eE text wr HC.out.sg)
       obtain ⟨c0, -, c2, -⟩ := css HBX.out
       go_wp2_with fail
       refine HNU.out.mono ?_
       rintro e w8 ⟨rfl, rfl⟩
       clear HNU
       go_wp2_with fail
       refine (aP B M MB TB NB fv _ 7 (cL text.toList) _ HC.out.ma (by have := HSB.out; omega)).mono ?_
       rintro e v1 ⟨cl1, rfl, hled, hm, hf⟩
       clear hled
       have hnt := HC.out.ma.n.noTy
       replace HV := zh (SlAt.fx hf HV.out HR.out)
       replace HBX := zh (hf.obj HBX.out (aA hnt HBX.out) (by decide) (by decide) (by decide) (by decide))
       replace HF := zh (HF.out.trans hf)
       replace HC := zh (HC.out.step hm hf)
       clear hm hf hnt
       go_wp2_with fail
       go_end0
       exact ⟨rfl, by rw [HEF.out]; exact HC.out.ma, HF.out⟩
     by_cases h7 : op = 7
     ·subst h7
      have HEF : Hid (E = aq 8 (cL text.toList) sk) := zh (by rw [HEN.out]; rfl)
      have HNU := zh (eE text wr HC.out.sg)
      obtain ⟨c0, -, c2, -⟩ := css HBX.out
      go_wp2_with fail
      refine HNU.out.mono ?_
      rintro e w8 ⟨rfl, rfl⟩
      clear HNU
      go_wp2_with fail
      refine (aP B M MB TB NB fv _ 8 (cL text.toList) _ HC.out.ma (by have := HSB.out; omega)).mono ?_
      rintro e v1 ⟨cl1, rfl, hled, hm, hf⟩
      clear hled
      have hnt := HC.out.ma.n.noTy
      replace HV := zh (SlAt.fx hf HV.out HR.out)
      replace HBX := zh (hf.obj HBX.out (aA hnt HBX.out) (by decide) (by decide) (by decide) (by decide))
      replace HF := zh (HF.out.trans hf)
      replace HC := zh (HC.out.step hm hf)
      clear hm hf hnt
      go_wp2_with fail
      go_end0
      exact ⟨rfl, by rw [HEF.out]; exact HC.out.ma, HF.out⟩
     by_cases h8 : op = 8
     ·subst h8
      have HEF : Hid (E = aq 9 0 sk) := zh (by rw [HEN.out]; rfl)
      have c0 : wr.cell? ⟨XB, 0, none⟩ = some (.int .i64 8) := aa HBX.out (j := 0) rfl
      go_wp2_with fail
      refine (aP B M MB TB NB fv _ 9 0 _ HC.out.ma (by have := HSB.out; omega)).mono ?_
      rintro e v1 ⟨cl1, rfl, hled, hm, hf⟩
      clear hled
      have hnt := HC.out.ma.n.noTy
      replace HV := zh (SlAt.fx hf HV.out HR.out)
      replace HBX := zh (hf.obj HBX.out (aA hnt HBX.out) (by decide) (by decide) (by decide) (by decide))
      replace HF := zh (HF.out.trans hf)
      replace HC := zh (HC.out.step hm hf)
      clear hm hf hnt
      go_wp2_with fail
      go_end0
      exact ⟨rfl, by rw [HEF.out]; exact HC.out.ma, HF.out⟩
     by_cases h9 : op = 9
     ·subst h9
      have HEF : Hid (E = aq 10 0 sk) := zh (by rw [HEN.out]; rfl)
      have c0 : wr.cell? ⟨XB, 0, none⟩ = some (.int .i64 9) := aa HBX.out (j := 0) rfl
      go_wp2_with fail
      refine (aP B M MB TB NB fv _ 10 0 _ HC.out.ma (by have := HSB.out; omega)).mono ?_
      rintro e v1 ⟨cl1, rfl, hled, hm, hf⟩
      clear hled
      have hnt := HC.out.ma.n.noTy
      replace HV := zh (SlAt.fx hf HV.out HR.out)
      replace HBX := zh (hf.obj HBX.out (aA hnt HBX.out) (by decide) (by decide) (by decide) (by decide))
      replace HF := zh (HF.out.trans hf)
      replace HC := zh (HC.out.step hm hf)
      clear hm hf hnt
      go_wp2_with fail
      go_end0
      exact ⟨rfl, by rw [HEF.out]; exact HC.out.ma, HF.out⟩
     by_cases h10 : op = 10
     ·subst h10
      have HEF : Hid (E = aq 11 0 sk) := zh (by rw [HEN.out]; rfl)
      have c0 : wr.cell? ⟨XB, 0, none⟩ = some (.int .i64 10) := aa HBX.out (j := 0) rfl
      go_wp2_with fail
      refine (aP B M MB TB NB fv _ 11 0 _ HC.out.ma (by have := HSB.out; omega)).mono ?_
      rintro e v1 ⟨cl1, rfl, hled, hm, hf⟩
      clear hled
      have hnt := HC.out.ma.n.noTy
      replace HV := zh (SlAt.fx hf HV.out HR.out)
      replace HBX := zh (hf.obj HBX.out (aA hnt HBX.out) (by decide) (by decide) (by decide) (by decide))
      replace HF := zh (HF.out.trans hf)
      replace HC := zh (HC.out.step hm hf)
      clear hm hf hnt
      go_wp2_with fail
      go_end0
      exact ⟨rfl, by rw [HEF.out]; exact HC.out.ma, HF.out⟩
     have HEF : Hid (E = sk) := zh (by rw [HEN.out]; simp [h1, h2, h3, h4, h5, h6, h7, h8, h9, h10])
     have g1 : (op == 1) = false := beq_false_of_ne h1
     have g2 : (op == 2) = false := beq_false_of_ne h2
     have g3 : (op == 3) = false := beq_false_of_ne h3
     have g4 : (op == 4) = false := beq_false_of_ne h4
     have g5 : (op == 5) = false := beq_false_of_ne h5
     have g6 : (op == 6) = false := beq_false_of_ne h6
     have g7 : (op == 7) = false := beq_false_of_ne h7
     have g8 : (op == 8) = false := beq_false_of_ne h8
     have g9 : (op == 9) = false := beq_false_of_ne h9
     have g10 : (op == 10) = false := beq_false_of_ne h10
     have c0 : wr.cell? ⟨XB, 0, none⟩ = some (.int .i64 op) := aa HBX.out (j := 0) rfl
     go_wp2_with fail
     go_end0
     exact ⟨rfl, by rw [HEF.out]; exact HC.out.ma, HF.out⟩
 ·have hq : (b1 || b2) = true ∧ op = 6 := by simpa using hcb
  obtain ⟨hb, rfl⟩ := hq
  have hk2 := HFIT.out.2 rfl
  obtain ⟨a, b, rfl⟩ : ∃ a b, ks = [a, b] := by
   match ks, hk2 with
   | [a, b], _ => exact ⟨a, b, rfl⟩
  obtain ⟨kb, koff, rfl, hkb, _, hcell⟩ := HROW.out (by simp)
  have ra := HIT.out 0 (by simp)
  have rb := HIT.out 1 (by simp)
  obtain ⟨ao, an, att, ass, al, ac, ap, hca⟩ := eu ra
  obtain ⟨bo, bn, bt, bs, bl, bc, bp, hcb2⟩ := eu rb
  rw [hca] at ra
  rw [hcb2] at rb
  have HA := zh (HIH.out a (List.mem_cons_self ..) _ ra)
  have HBB := zh (HIH.out b (List.mem_cons_of_mem _ (List.mem_cons_self ..)) _ rb)
  have HK : Hid (∀ j, j < 10 → v1.cell? ⟨kb, koff + j, none⟩ = ([.int .i64 ao, .int .i64 an, .string att, .slice ass al ac, .int .i64 ap, .int .i64 bo, .int .i64 bn, .string bt, .slice bs bl bc, .int .i64 bp] : List Value)[j]?) := zh (fun j hj => by
    have hx := fun i hi k hk => (HC.out.old.cell (p := ⟨kb, koff + i * 5 + k, none⟩) hkb).trans (hcell i hi k hk)
    by_cases h5 : j < 5
    · have q := hx 0 (by simp) j h5
      rw [hca, Nat.zero_mul, Nat.add_zero] at q
      rw [q]
      match j, h5 with
      | 0, _ => rfl
      | 1, _ => rfl
      | 2, _ => rfl
      | 3, _ => rfl
      | 4, _ => rfl
    · obtain ⟨k, rfl⟩ : ∃ k, j = 5 + k := ⟨j - 5, by omega⟩
      have q := hx 1 (by simp) k (by omega)
      rw [hcb2, Nat.one_mul, Nat.add_assoc] at q
      rw [q]
      match k, (show k < 5 by omega) with
      | 0, _ => rfl
      | 1, _ => rfl
      | 2, _ => rfl
      | 3, _ => rfl
      | 4, _ => rfl)
  have HEF : Hid (E = cn F v b1 [a, b] s1) := zh (by rw [HE.out, hcb]; rfl)
  have HBN2 : Hid (s1.ins.length + 8 * (szE a + szE b) + 6 ≤ 1000000 ∧ s1.texts.length + (szE a + szE b) ≤ 1000000) := zh (by have q := HBN.out; have q2 := HL1.out; have e : aN [a, b] = szE a + szE b := by { rw [aN, aN, aN]; omega }; rw [e] at q; omega)
  have HCE := zh (lB B M MB TB NB fv F num pos ao an ap bo bn bp text att bt kb koff kc al ac bl bc ass bs a b b1 HB12.out.1 w0 HA.out HBB.out _ s1 r v HC.out HV.out HR.out hkb HK.out HBN2.out.1 HBN2.out.2)
  have htx := HB12.out.1
  have hty := HB12.out.2
  clear ra rb hca hcb2 hcell hcb hk2 HA HBB HK hkb
  cases b1
  ·cases b2
   ·cases hb
   ·have c0 : v1.cell? ⟨XB, 0, none⟩ = some (.int .i64 6) := aa HBX.out (j := 0) rfl
    obtain ⟨-, c1, c2, c3, c4, -⟩ := css HBX.out
    go_wp2_with fail
    refine HCE.out.mono ?_
    rintro e w9 ⟨rfl, hm, hf⟩
    have HH := zh (And.intro hm hf)
    clear hm hf
    go_wp2_with fail
    exact bodyPost_ret (v := .tuple #[]) (by simp [results, Tryz.results57, go_sem]) rfl ⟨rfl, by rw [HEF.out]; exact HH.out.1, HF.out.trans HH.out.2⟩
  ·cases b2
   ·have c0 : v1.cell? ⟨XB, 0, none⟩ = some (.int .i64 6) := aa HBX.out (j := 0) rfl
    obtain ⟨-, c1, c2, c3, c4, -⟩ := css HBX.out
    go_wp2_with fail
    refine HCE.out.mono ?_
    rintro e w9 ⟨rfl, hm, hf⟩
    have HH := zh (And.intro hm hf)
    clear hm hf
    go_wp2_with fail
    exact bodyPost_ret (v := .tuple #[]) (by simp [results, Tryz.results57, go_sem]) rfl ⟨rfl, by rw [HEF.out]; exact HH.out.1, HF.out.trans HH.out.2⟩
   ·have c0 : v1.cell? ⟨XB, 0, none⟩ = some (.int .i64 6) := aa HBX.out (j := 0) rfl
    obtain ⟨-, c1, c2, c3, c4, -⟩ := css HBX.out
    go_wp2_with fail
    refine HCE.out.mono ?_
    rintro e w9 ⟨rfl, hm, hf⟩
    have HH := zh (And.intro hm hf)
    clear hm hf
    go_wp2_with fail
    exact bodyPost_ret (v := .tuple #[]) (by simp [results, Tryz.results57, go_sem]) rfl ⟨rfl, by rw [HEF.out]; exact HH.out.1, HF.out.trans HH.out.2⟩
theorem jV (B M MB TB NB : Nat) (fv : Value) (F : List Fn) (w0 : World) (x : Ex) : ∀ cs : List Value, RepEx (fun b => b < B) w0 cs x → iX F x → jD B M MB TB NB fv F w0 cs x := by
 obtain ⟨op, num, text, ks, pos⟩ := x
 intro cs hr hf
 obtain ⟨u, rfl, hk⟩ := hr.kids
 have hfk : dw F ks := by rw [iX] at hf; exact hf.2.2
 exact mL B M MB TB NB fv F w0 op num pos text ks u hk hf fun y hy cs' hr' => jV B M MB TB NB fv F w0 y cs' hr' (jy hfk y hy)
termination_by SizeOf.sizeOf x
decreasing_by
 have := List.sizeOf_lt_of_mem hy
 decreasing_tactic
end
end Go.Proofs.YtjblihabklemfaaGreatDoor
