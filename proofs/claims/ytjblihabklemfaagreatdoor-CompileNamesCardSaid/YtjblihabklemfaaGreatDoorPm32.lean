/-
  Compile: part 32 of its proof: see the last text.
-/
import Derived.Test.YtjblihabklemfaaGreatDoorPm31
set_option maxRecDepth 100000
set_option maxHeartbeats 16000000
namespace Go.Proofs.YtjblihabklemfaaGreatDoor
section
open Go.RowKit
theorem py {S : Nat → Prop} {w : World} {op pos : Int} {text : ByteArray} {u1 u2 u3 : Value} {s : St} (h : RepSt S w [.int .i64 op, .string text, u1, u2, u3, .int .i64 pos] s) : ∃ es body els, s = .mk op text es body els pos ∧ RepExs S w u1 es ∧ RepSts S w u2 body ∧ RepSts S w u3 els := by
 obtain ⟨op', text', es, body, els, pos'⟩ := s
 obtain ⟨ve, vb, vl, e, he, hb, hle⟩ := h.parts
 simp only [List.cons.injEq, Value.int.injEq, Value.string.injEq, true_and, and_true] at e
 obtain ⟨rfl, rfl, rfl, rfl, rfl, rfl⟩ := e
 exact ⟨es, body, els, rfl, he, hb, hle⟩
theorem iq : ∀ (l : List St), 0 < l.length → bK l = endsS (l.getD (l.length - 1) default)
 | [], h => absurd h (by simp)
 | [s], _ => by rw [bK]; rfl
 | _ :: t :: l, _ => by
  rw [bK, iq (t :: l) (by simp)]
  rfl
theorem nQ (l : List St) (ih : ∀ s, s ∈ l → ∀ (w : World) (u : Value), (RepSts Any w u s.body → Calls Tryz.prog 54 #[u] w fun e w' => e = .returned (.bool (bK s.body)) ∧ Below w.heap.size w w') ∧ (RepSts Any w u s.els → Calls Tryz.prog 54 #[u] w fun e w' => e = .returned (.bool (bK s.els)) ∧ Below w.heap.size w w')) (w : World) (u : Value) (hr : RepSts Any w u l) :
    Calls Tryz.prog 54 #[u] w fun e w' => e = .returned (.bool (bK l)) ∧ Below w.heap.size w w' := by
 obtain ⟨cs, ⟨s0, cap, rfl, hle, hcm, _, hrow, hsz⟩, hit⟩ := hr
 by_cases hl : l.length = 0
 ·have HE : Hid (bK l = false) := zh (by rw [List.eq_nil_of_length_eq_zero hl]; rw [bK])
  rw [hl]
  clear hrow hsz hit ih
  go_enter Tryz.func54, Tryz.ntmps54
  go_wp2_with fail
  exact bodyPost_ret (v := .bool false) (by simp [results, Tryz.results54, go_sem]) rfl ⟨by rw [HE.out], Below.refl _ _⟩
 ·have HLAST := zh (iq l (by omega))
  obtain ⟨b, off, hs0, _, hbl, hcell⟩ := hrow (by omega)
  subst hs0
  obtain ⟨i, hi⟩ : ∃ i, i = l.length - 1 := ⟨_, rfl⟩
  rw [← hi] at HLAST
  have hil : i < l.length := by omega
  have hrep := hit i hil
  obtain ⟨op, text, s1, n1, c1, s2, n2, c2, s3, n3, c3, pos, hcs⟩ := gR hrep
  rw [hcs] at hrep
  have hc6 : ∀ j, j < 6 → w.cell? ⟨b, off + i * 6 + j, none⟩ = (cs i)[j]? := fun j hj => hcell i hil j hj
  rw [hcs] at hc6
  have x0 : w.cell? ⟨b, off + i * 6, none⟩ = some (.int .i64 op) := hc6 0 (by decide)
  have x1 : w.cell? ⟨b, off + i * 6 + 1, none⟩ = some (.string text) := hc6 1 (by decide)
  have x2 : w.cell? ⟨b, off + i * 6 + 2, none⟩ = some (.slice s1 n1 c1) := hc6 2 (by decide)
  have x3 : w.cell? ⟨b, off + i * 6 + 3, none⟩ = some (.slice s2 n2 c2) := hc6 3 (by decide)
  have x4 : w.cell? ⟨b, off + i * 6 + 4, none⟩ = some (.slice s3 n3 c3) := hc6 4 (by decide)
  have x5 : w.cell? ⟨b, off + i * 6 + 5, none⟩ = some (.int .i64 pos) := hc6 5 (by decide)
  obtain ⟨es, body, els, hs, _, hb, hels⟩ := py hrep
  have hmem : l.getD i default ∈ l := by rw [List.getD_eq_getElem?_getD, List.getElem?_eq_getElem hil]; exact List.getElem_mem hil
  have hih := ih _ hmem
  rw [hs] at hih HLAST
  have HB := zh (fun W (hW : Below w.heap.size w W) => (hih W (.slice s2 n2 c2)).1 (hb.keep (Stays.of_below hW)))
  have HL := zh (fun W (hW : Below w.heap.size w W) => (hih W (.slice s3 n3 c3)).2 (hels.keep (Stays.of_below hW)))
  replace HLAST := zh (HLAST.out.trans (endsS.eq_1 op text es body els pos))
  have eI : (l.length : Int) - 1 = (i : Int) := by omega
  have g0 : (0 : Int) ≤ (i : Int) := by omega
  have g1 : (i : Int) < (l.length : Int) := by omega
  have g2 : ¬ (l.length : Int) = 0 := by omega
  have hcm2 := hcm
  unfold maxLen at hcm2
  clear hrow hsz hit ih hc6 hcs hrep hcell hih hb hels hs hcm hl hi
  simp only [St.body, St.els] at HB HL
  generalize bK l = E at *
  go_enter Tryz.func54, Tryz.ntmps54
  go_upto_region 4 with fail
  have hb1 : Below w.heap.size w (w.alloc (.cells #[.int .i64 op, .string text, .slice s1 n1 c1, .slice s2 n2 c2, .slice s3 n3 c3, .int .i64 pos] 62)) := ae (Below.refl _ _) _
  have HSB : Hid ((w.alloc (.cells #[.int .i64 op, .string text, .slice s1 n1 c1, .slice s2 n2 c2, .slice s3 n3 c3, .int .i64 pos] 62)).heap[w.heap.size]? = some (.cells #[.int .i64 op, .string text, .slice s1 n1 c1, .slice s2 n2 c2, .slice s3 n3 c3, .int .i64 pos] 62 (0, 0))) := zh (ah _ _ _ rfl)
  have HB1 := zh hb1
  clear hb1 x0 x1 x2 x3 x4 x5
  generalize (w.alloc (.cells #[.int .i64 op, .string text, .slice s1 n1 c1, .slice s2 n2 c2, .slice s3 n3 c3, .int .i64 pos] 62)) = w1 at *
  generalize hSP : w.heap.size = SP at *
  obtain ⟨-, -, -, e3, e4, -⟩ := css HSB.out
  by_cases h5 : op = 5
  ·subst h5
   have e0 : w1.cell? ⟨SP, 0, none⟩ = some (.int .i64 5) := aa HSB.out (j := 0) rfl
   go_wp2_with fail
   exact bodyPost_ret (v := .bool true) (by simp [results, Tryz.results54, go_sem]) rfl ⟨by rw [HLAST.out]; rfl, by rw [hSP]; exact HB1.out⟩
  by_cases h3 : op = 3
  ·subst h3
   have e0 : w1.cell? ⟨SP, 0, none⟩ = some (.int .i64 3) := aa HSB.out (j := 0) rfl
   go_wp2_with fail
   refine (HB.out _ HB1.out).mono ?_
   rintro e w2 ⟨rfl, hb2⟩
   have HB2 := zh (HB1.out.trans (hb2.mono (Nat.le_of_lt (ad HSB.out))))
   have HS2 := zh ((hb2.block _ (ad HSB.out)).trans HSB.out)
   clear hb2 e0 e3 e4
   generalize bK body = q at *
   have f4 : w2.cell? ⟨SP, 4, none⟩ = some (.slice s3 n3 c3) := aa HS2.out (j := 4) rfl
   cases q
   ·go_wp2_with fail
    exact bodyPost_ret (v := .bool false) (by simp [results, Tryz.results54, go_sem]) rfl ⟨by rw [HLAST.out]; rfl, by rw [hSP]; exact HB2.out⟩
   ·go_wp2_with fail
    refine (HL.out _ HB2.out).mono ?_
    rintro e w3 ⟨rfl, hb3⟩
    have HB3 := zh (HB2.out.trans (hb3.mono (Nat.le_of_lt (ad HS2.out))))
    clear hb3 f4
    generalize bK els = q at *
    go_wp2_with fail
    exact bodyPost_ret (v := .bool q) (by simp [results, Tryz.results54, go_sem]) rfl ⟨by rw [HLAST.out]; rfl, by rw [hSP]; exact HB3.out⟩
  ·have HOP := zh (And.intro h5 h3)
   have e0 : w1.cell? ⟨SP, 0, none⟩ = some (.int .i64 op) := aa HSB.out (j := 0) rfl
   go_wp2_with fail
   exact bodyPost_ret (v := .bool false) (by simp [results, Tryz.results54, go_sem, HOP.out.1]) rfl ⟨by rw [HLAST.out, beq_false_of_ne HOP.out.1, beq_false_of_ne HOP.out.2]; rfl, by rw [hSP]; exact HB1.out⟩
theorem St.body_lt {s : St} {l : List St} (h : s ∈ l) : SizeOf.sizeOf s.body < SizeOf.sizeOf l ∧ SizeOf.sizeOf s.els < SizeOf.sizeOf l := by
 have := List.sizeOf_lt_of_mem h
 obtain ⟨op, text, es, body, els, pos⟩ := s
 simp only [St.body, St.els]
 simp at this
 omega
theorem jn (l : List St) (w : World) (u : Value) (hr : RepSts Any w u l) :
    Calls Tryz.prog 54 #[u] w fun e w' => e = .returned (.bool (bK l)) ∧ Below w.heap.size w w' :=
 nQ l (fun s _ w u => ⟨jn s.body w u, jn s.els w u⟩) w u hr
termination_by SizeOf.sizeOf l
decreasing_by
 ·exact (St.body_lt (by assumption)).1
 ·exact (St.body_lt (by assumption)).2
theorem oZ (l : List St) (i : Nat) (hi : i < l.length) (n : Int) : cy n (l.drop i) = cy (mT n (l.getD i default)) (l.drop (i + 1)) := by
 rw [List.drop_eq_getElem_cons hi, cy, List.getD_eq_getElem?_getD, List.getElem?_eq_getElem hi]
 rfl
theorem mn (l : List St) (ih : ∀ s, s ∈ l → ∀ (w : World) (u : Value), (RepSts Any w u s.body → Calls Tryz.prog 48 #[u] w fun e w' => e = .returned (.int .i64 (cy 0 s.body)) ∧ Below w.heap.size w w') ∧ (RepSts Any w u s.els → Calls Tryz.prog 48 #[u] w fun e w' => e = .returned (.int .i64 (cy 0 s.els)) ∧ Below w.heap.size w w')) (w : World) (u : Value) (hr : RepSts Any w u l) :
    Calls Tryz.prog 48 #[u] w fun e w' => e = .returned (.int .i64 (cy 0 l)) ∧ Below w.heap.size w w' := by
 obtain ⟨cs, ⟨s0, cap, rfl, hle, hcm, _, hrow, hsz⟩, hit⟩ := hr
 have HIH := zh ih
 have HROW := zh hrow
 have HIT := zh hit
 have HCM := zh (And.intro hle hcm)
 generalize hR : cy 0 l = R
 have HR := zh (show R = cy 0 (l.drop 0) from hR.symm)
 clear ih hrow hit hsz hle hcm hR
 have HAT := zh (oZ l)
 go_enter Tryz.func48, Tryz.ntmps48
 go_wp2_with fail
 go_loopg [3, 8] l.length (fun g t3 t8 wr => ∃ (i : Nat) (n : Int), i + g = l.length ∧ t3 = .int .i64 n ∧ t8 = .int .i64 (i : Int) ∧ R = cy n (l.drop i) ∧ Below w.heap.size w wr)
 case atStart => exact ⟨0, 0, Nat.zero_add _, rfl, rfl, HR.out, Below.refl _ _⟩
 case round =>
  obtain ⟨i, n, hig, rfl, rfl, hR, hb⟩ := hrel
  have HRR := zh hR
  have HB := zh hb
  clear hR hb
  by_cases hil : i < l.length
  ·obtain ⟨hle2, hcm2⟩ := HCM.out
   unfold maxLen at hcm2
   have g1 : (i : Int) < (l.length : Int) := by omega
   have g3 : (0 : Int) ≤ (i : Int) := by omega
   obtain ⟨b, off, hs0, _, hbl, hcell⟩ := HROW.out (by omega)
   subst hs0
   have hrep := HIT.out i hil
   obtain ⟨op, text, s1, n1, c1, s2, n2, c2, s3, n3, c3, pos, hcs⟩ := gR hrep
   rw [hcs] at hrep
   have hc6 : ∀ j, j < 6 → wr.cell? ⟨b, off + i * 6 + j, none⟩ = (cs i)[j]? := fun j hj => (HB.out.cell (p := ⟨b, _, none⟩) hbl).trans (hcell i hil j hj)
   rw [hcs] at hc6
   have x0 : wr.cell? ⟨b, off + i * 6, none⟩ = some (.int .i64 op) := hc6 0 (by decide)
   have x1 : wr.cell? ⟨b, off + i * 6 + 1, none⟩ = some (.string text) := hc6 1 (by decide)
   have x2 : wr.cell? ⟨b, off + i * 6 + 2, none⟩ = some (.slice s1 n1 c1) := hc6 2 (by decide)
   have x3 : wr.cell? ⟨b, off + i * 6 + 3, none⟩ = some (.slice s2 n2 c2) := hc6 3 (by decide)
   have x4 : wr.cell? ⟨b, off + i * 6 + 4, none⟩ = some (.slice s3 n3 c3) := hc6 4 (by decide)
   have x5 : wr.cell? ⟨b, off + i * 6 + 5, none⟩ = some (.int .i64 pos) := hc6 5 (by decide)
   obtain ⟨es, body, els, hs, _, hbo, hels⟩ := py hrep
   have hmem : l.getD i default ∈ l := by rw [List.getD_eq_getElem?_getD, List.getElem?_eq_getElem hil]; exact List.getElem_mem hil
   have hih := HIH.out _ hmem
   have hat := HAT.out i hil n
   rw [hs] at hih hat
   rw [mT] at hat
   replace HRR := zh (HRR.out.trans hat)
   have HBO := zh (fun W (hW : Below w.heap.size w W) => (hih W (.slice s2 n2 c2)).1 (hbo.keep (Stays.of_below hW)))
   have HEL := zh (fun W (hW : Below w.heap.size w W) => (hih W (.slice s3 n3 c3)).2 (hels.keep (Stays.of_below hW)))
   simp only [St.body, St.els] at HBO HEL
   clear hrep hc6 hcs hcell hih hbo hels hs hat hmem
   go_upto_region 5 with fail
   have HSB : Hid ((wr.alloc (.cells #[.int .i64 op, .string text, .slice s1 n1 c1, .slice s2 n2 c2, .slice s3 n3 c3, .int .i64 pos] 62)).heap[wr.heap.size]? = some (.cells #[.int .i64 op, .string text, .slice s1 n1 c1, .slice s2 n2 c2, .slice s3 n3 c3, .int .i64 pos] 62 (0, 0))) := zh (ah _ _ _ rfl)
   have HB1 : Hid (Below w.heap.size w (wr.alloc (.cells #[.int .i64 op, .string text, .slice s1 n1 c1, .slice s2 n2 c2, .slice s3 n3 c3, .int .i64 pos] 62))) := zh (HB.out.trans ((ae (Below.refl _ _) _).mono HB.out.size))
   clear x0 x1 x2 x3 x4 x5
   generalize (wr.alloc (.cells #[.int .i64 op, .string text, .slice s1 n1 c1, .slice s2 n2 c2, .slice s3 n3 c3, .int .i64 pos] 62)) = w1 at *
   generalize wr.heap.size = SP at *
   obtain ⟨-, -, -, e3, e4, -⟩ := css HSB.out
   have e0 : w1.cell? ⟨SP, 0, none⟩ = some (.int .i64 op) := aa HSB.out (j := 0) rfl
   by_cases h1 : op = 1
   ·subst h1
    go_upto_region 7 with fail
    clear e0 e3 e4
    have HN1 := zh (show Below w.heap.size w w1.drew from HB1.out.drew)
    have hs0 : w1.drew.cell? ⟨SP, 3, none⟩ = some (.slice s2 n2 c2) ∧ w1.drew.cell? ⟨SP, 4, none⟩ = some (.slice s3 n3 c3) := ⟨aa HSB.out (j := 3) rfl, aa HSB.out (j := 4) rfl⟩
    refine wp_region_held (S := (fun w' : World => w'.cell? ⟨SP, 3, none⟩ = some (.slice s2 n2 c2) ∧ w'.cell? ⟨SP, 4, none⟩ = some (.slice s3 n3 c3))) (by kernel_rfl) ?_
    refine tkA 0 ?_
    refine tkA 1 ?_
    refine tkA 2 ?_
    refine tkA 4 ?_
    refine tkA 5 ?_
    have HSD : Hid (w1.drew.heap[SP]? = _) := zh HSB.out
    clear hs0
    refine rd1 3 fun K hK => ?_
    go_simp
    go_at_call 48
    refine (HBO.out _ HN1.out).mono ?_
    rintro e w2 ⟨rfl, hb⟩
    have HN2 := zh (HN1.out.trans (hb.mono HN1.out.size))
    have HS2 := zh ((hb.block _ (ad HSD.out)).trans HSD.out)
    clear hb
    go_simp
    refine hK.out _ _ ?_ (fun hHeld => ?_)
    ·exact ⟨aa HS2.out (j := 3) rfl, aa HS2.out (j := 4) rfl⟩
    clear hK K
    try go_simp
    refine rd1 6 fun K hK => ?_
    go_simp
    go_at_call 48
    refine (HEL.out _ HN2.out).mono ?_
    rintro e w3 ⟨rfl, hb⟩
    have HN3 := zh (HN2.out.trans (hb.mono HN2.out.size))
    have HS3 := zh ((hb.block _ (ad HS2.out)).trans HS2.out)
    clear hb
    go_simp
    refine hK.out _ _ ?_ (fun hHeld => ?_)
    ·exact ⟨aa HS3.out (j := 3) rfl, aa HS3.out (j := 4) rfl⟩
    clear hK K
    try go_simp
    refine tkA 7 ?_
    refine tkA 8 ?_
    refine rd1 9 fun K hK => ?_
    go_simp
    refine hK.out _ _ ?_ (fun hHeld => ?_)
    ·exact ⟨aa HS3.out (j := 3) rfl, aa HS3.out (j := 4) rfl⟩
    clear hK K
    try go_simp
    refine wpAnyH_done (by kernel_rfl) ?_ _
    go_wp2_with fail
    go_roundg (l.length - i - 1)
    case measure => omega
    case rel => exact ⟨i + 1, _, by omega, rfl, rfl, HRR.out.trans (by rw [IntKind.wrap_i64, IntKind.wrap_i64]; simp [wrap64]), HN3.out⟩
   by_cases h4 : op = 4
   ·subst h4
    go_upto_region 7 with fail
    clear e0 e3 e4
    have HN1 := zh (show Below w.heap.size w w1.drew from HB1.out.drew)
    have hs0 : w1.drew.cell? ⟨SP, 3, none⟩ = some (.slice s2 n2 c2) ∧ w1.drew.cell? ⟨SP, 4, none⟩ = some (.slice s3 n3 c3) := ⟨aa HSB.out (j := 3) rfl, aa HSB.out (j := 4) rfl⟩
    refine wp_region_held (S := (fun w' : World => w'.cell? ⟨SP, 3, none⟩ = some (.slice s2 n2 c2) ∧ w'.cell? ⟨SP, 4, none⟩ = some (.slice s3 n3 c3))) (by kernel_rfl) ?_
    refine tkA 0 ?_
    refine tkA 1 ?_
    refine tkA 2 ?_
    refine tkA 4 ?_
    refine tkA 5 ?_
    have HSD : Hid (w1.drew.heap[SP]? = _) := zh HSB.out
    clear hs0
    refine rd1 3 fun K hK => ?_
    go_simp
    go_at_call 48
    refine (HBO.out _ HN1.out).mono ?_
    rintro e w2 ⟨rfl, hb⟩
    have HN2 := zh (HN1.out.trans (hb.mono HN1.out.size))
    have HS2 := zh ((hb.block _ (ad HSD.out)).trans HSD.out)
    clear hb
    go_simp
    refine hK.out _ _ ?_ (fun hHeld => ?_)
    ·exact ⟨aa HS2.out (j := 3) rfl, aa HS2.out (j := 4) rfl⟩
    clear hK K
    try go_simp
    refine rd1 6 fun K hK => ?_
    go_simp
    go_at_call 48
    refine (HEL.out _ HN2.out).mono ?_
    rintro e w3 ⟨rfl, hb⟩
    have HN3 := zh (HN2.out.trans (hb.mono HN2.out.size))
    have HS3 := zh ((hb.block _ (ad HS2.out)).trans HS2.out)
    clear hb
    go_simp
    refine hK.out _ _ ?_ (fun hHeld => ?_)
    ·exact ⟨aa HS3.out (j := 3) rfl, aa HS3.out (j := 4) rfl⟩
    clear hK K
    try go_simp
    refine tkA 7 ?_
    refine tkA 8 ?_
    refine rd1 9 fun K hK => ?_
    go_simp
    refine hK.out _ _ ?_ (fun hHeld => ?_)
    ·exact ⟨aa HS3.out (j := 3) rfl, aa HS3.out (j := 4) rfl⟩
    clear hK K
    try go_simp
    refine wpAnyH_done (by kernel_rfl) ?_ _
    go_wp2_with fail
    go_roundg (l.length - i - 1)
    case measure => omega
    case rel => exact ⟨i + 1, _, by omega, rfl, rfl, HRR.out.trans (by rw [IntKind.wrap_i64, IntKind.wrap_i64]; simp [wrap64]), HN3.out⟩
   have HOP := zh (And.intro h1 h4)
   have hq1 : (op == 1) = false := beq_false_of_ne h1
   have hq4 : (op == 4) = false := beq_false_of_ne h4
   go_upto_region 7 with fail
   clear e0 e3 e4
   have HN1 := zh (show Below w.heap.size w w1.drew from HB1.out.drew)
   have hs0 : w1.drew.cell? ⟨SP, 3, none⟩ = some (.slice s2 n2 c2) ∧ w1.drew.cell? ⟨SP, 4, none⟩ = some (.slice s3 n3 c3) := ⟨aa HSB.out (j := 3) rfl, aa HSB.out (j := 4) rfl⟩
   refine wp_region_held (S := (fun w' : World => w'.cell? ⟨SP, 3, none⟩ = some (.slice s2 n2 c2) ∧ w'.cell? ⟨SP, 4, none⟩ = some (.slice s3 n3 c3))) (by kernel_rfl) ?_
   refine tkA 0 ?_
   refine tkA 1 ?_
   refine tkA 2 ?_
   refine tkA 4 ?_
   refine tkA 5 ?_
   have HSD : Hid (w1.drew.heap[SP]? = _) := zh HSB.out
   clear hs0
   refine rd1 3 fun K hK => ?_
   go_simp
   go_at_call 48
   refine (HBO.out _ HN1.out).mono ?_
   rintro e w2 ⟨rfl, hb⟩
   have HN2 := zh (HN1.out.trans (hb.mono HN1.out.size))
   have HS2 := zh ((hb.block _ (ad HSD.out)).trans HSD.out)
   clear hb
   go_simp
   refine hK.out _ _ ?_ (fun hHeld => ?_)
   ·exact ⟨aa HS2.out (j := 3) rfl, aa HS2.out (j := 4) rfl⟩
   clear hK K
   try go_simp
   refine rd1 6 fun K hK => ?_
   go_simp
   go_at_call 48
   refine (HEL.out _ HN2.out).mono ?_
   rintro e w3 ⟨rfl, hb⟩
   have HN3 := zh (HN2.out.trans (hb.mono HN2.out.size))
   have HS3 := zh ((hb.block _ (ad HS2.out)).trans HS2.out)
   clear hb
   go_simp
   refine hK.out _ _ ?_ (fun hHeld => ?_)
   ·exact ⟨aa HS3.out (j := 3) rfl, aa HS3.out (j := 4) rfl⟩
   clear hK K
   try go_simp
   refine tkA 7 ?_
   refine tkA 8 ?_
   refine rd1 9 fun K hK => ?_
   go_simp
   refine hK.out _ _ ?_ (fun hHeld => ?_)
   ·exact ⟨aa HS3.out (j := 3) rfl, aa HS3.out (j := 4) rfl⟩
   clear hK K
   try go_simp
   refine wpAnyH_done (by kernel_rfl) ?_ _
   go_wp2_with fail
   go_roundg (l.length - i - 1)
   case measure => omega
   case rel => exact ⟨i + 1, _, by omega, rfl, rfl, HRR.out.trans (by rw [IntKind.wrap_i64, IntKind.wrap_i64]; simp [HOP.out.1, HOP.out.2, wrap64]), HN3.out⟩
  ·obtain rfl : i = l.length := by omega
   have g1 : ¬ (l.length : Int) < (l.length : Int) := by omega
   have HE := zh (HRR.out.trans (by rw [List.drop_eq_nil_of_le (Nat.le_refl _), cy] : cy n (l.drop l.length) = n))
   go_wp2_with fail
   exact bodyPost_ret (v := .int .i64 n) (by simp [results, Tryz.results48, go_sem]) rfl ⟨by rw [HE.out], HB.out⟩
theorem iy (l : List St) (w : World) (u : Value) (hr : RepSts Any w u l) :
    Calls Tryz.prog 48 #[u] w fun e w' => e = .returned (.int .i64 (cy 0 l)) ∧ Below w.heap.size w w' :=
 mn l (fun s _ w u => ⟨iy s.body w u, iy s.els w u⟩) w u hr
termination_by SizeOf.sizeOf l
decreasing_by
 ·exact (St.body_lt (by assumption)).1
 ·exact (St.body_lt (by assumption)).2
end
end Go.Proofs.YtjblihabklemfaaGreatDoor
