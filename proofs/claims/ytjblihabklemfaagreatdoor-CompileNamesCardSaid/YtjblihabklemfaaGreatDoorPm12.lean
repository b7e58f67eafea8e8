/-
  Compile: part 12 of its proof: see the last text.
-/
import Derived.Test.YtjblihabklemfaaGreatDoorPm11
set_option maxRecDepth 100000
set_option maxHeartbeats 16000000
namespace Go.Proofs.YtjblihabklemfaaGreatDoor
section
open Go.RowKit
theorem pJ (rb : Nat) (d : Int) (hd0 : 0 ≤ d) (hd : d ≤ 32) (en : Int) (E : Par Ex) (B : Par (List St)) (HE : bP rb en 101 #[.pointer (some ⟨rb, 0, none⟩), .int .i64 (d + 1)] E) (HB : hD rb en 47 #[.pointer (some ⟨rb, 0, none⟩), .int .i64 (d + 1)] B) :
    m7 rb en 84 #[.pointer (some ⟨rb, 0, none⟩), .int .i64 d] (gd en E B) := by
 intro l w h
 have HEE := zh HE
 have HBB := zh HB
 have HLT := zh h.lt
 have HD0 := zh hd0
 have HD1 : Hid (d ≤ 100) := zh (by omega)
 have hwd : IntKind.i64.wrap (d + 1) = d + 1 := IntWalk.i64_in _ (by omega)
 have hcf : ∀ args W, Sem.run Tryz.prog (callFunc 100 args) W = .ok (.enter 100 args) W := fun _ _ => Tryz.call100 _ _
 have HB0 := zh (ae (ae (ae (Below.refl w.heap.size w) (.cells #[.pointer (some ⟨rb, 0, none⟩)] 86)) (.cells #[.int .i64 d] 3)) (.cells #[.int .i64 0, .string ⟨#[]⟩, .slice none 0 0, .slice none 0 0, .slice none 0 0, .int .i64 0] 62))
 have HRD := zh (h.on HB0.out)
 generalize hR : gd en E B l = R
 generalize hpl : aM en l = pl at *
 have HPL := zh hpl
 have hq0 := hR.symm
 unfold gd at hq0
 dsimp only at hq0
 rw [hpl] at hq0
 have HF := zh hq0
 clear HE HB hd0 hd hR hpl hq0
 go_enter Tryz.func84, Tryz.ntmps84
 go_wp2_with fail
 refine (dZ rb l en _ HRD.out).mono ?_
 rintro e w1 ⟨rfl, rfl⟩
 rw [HPL.out]
 go_upto_region 5 with fail
 have HW : Hid (StW w ⟨rb, w.heap.size, w.heap.size + 1, w.heap.size + 1 + 1, w.heap.size + 1 + 1 + 1, w.heap.size + 1 + 1 + 1 + 1, d, en, pl⟩ ((((w.alloc (.cells #[.pointer (some ⟨rb, 0, none⟩)] 86)).alloc (.cells #[.int .i64 d] 3)).alloc (.cells #[.int .i64 0, .string ⟨#[]⟩, .slice none 0 0, .slice none 0 0, .slice none 0 0, .int .i64 0] 62)).alloc (.cells #[.int .i64 0, .string ⟨#[]⟩, .slice none 0 0, .slice none 0 0, .slice none 0 0, .int .i64 pl] 62)) l 0 ⟨#[]⟩ (.slice none 0 0) [] (.slice none 0 0) [] (.slice none 0 0) []) := zh ⟨h.on (ae HB0.out _), au _ _ _ _ (au _ _ _ _ (au _ _ _ _ (ah _ _ _ rfl))), au _ _ _ _ (au _ _ _ _ (ah _ _ _ (ag _ _))), au _ _ _ _ (ah _ _ _ (by simp only [ag])), ah _ _ _ (by simp only [ag]), GrowOf.nil, RepSts.nil _ _, RepSts.nil _ _, On.of_below (ae HB0.out _), by simp only [ag]; exact Nat.le_refl _⟩
 have HY : Hid (Lay.Ok ⟨rb, w.heap.size, w.heap.size + 1, w.heap.size + 1 + 1, w.heap.size + 1 + 1 + 1, w.heap.size + 1 + 1 + 1 + 1, d, en, pl⟩ w) := zh (by have := HLT.out; constructor <;> dsimp only <;> omega)
 have HORD : Hid (rb < w.heap.size ∧ w.heap.size < w.heap.size + 1 ∧ w.heap.size + 1 < w.heap.size + 1 + 1 ∧ w.heap.size + 1 + 1 < w.heap.size + 1 + 1 + 1 ∧ w.heap.size + 1 + 1 + 1 < w.heap.size + 1 + 1 + 1 + 1) := zh (by have := HLT.out; omega)
 have HORD2 : Hid (w.heap.size ≤ w.heap.size) := zh (Nat.le_refl _)
 clear h HRD HB0
 generalize ((((w.alloc (.cells #[.pointer (some ⟨rb, 0, none⟩)] 86)).alloc (.cells #[.int .i64 d] 3)).alloc (.cells #[.int .i64 0, .string ⟨#[]⟩, .slice none 0 0, .slice none 0 0, .slice none 0 0, .int .i64 0] 62)).alloc (.cells #[.int .i64 0, .string ⟨#[]⟩, .slice none 0 0, .slice none 0 0, .slice none 0 0, .int .i64 pl] 62)) = w1 at *
 generalize hbase : w.heap.size + 1 + 1 + 1 + 1 = base at *
 generalize hSB : w.heap.size + 1 + 1 + 1 = SB at *
 generalize hRES : w.heap.size + 1 + 1 = RES at *
 generalize hBD : w.heap.size + 1 = BD at *
 generalize hBR : w.heap.size = BR at *
 replace HORD : Hid (w.heap.size = BR ∧ rb < BR ∧ BR < BD ∧ BD < RES ∧ RES < SB ∧ SB < base) := zh ⟨hBR, HORD.out⟩
 clear hbase hSB hRES hBD hBR HORD2 HLT
 have HLTS : Hid (rb < base ∧ SB < base ∧ BR < base ∧ BD < base) := zh (by have := HORD.out; omega)
 have HNES : Hid (rb < SB ∧ rb < BR ∧ rb < BD) := zh (by have := HORD.out; omega)
 have hn1 : ¬ BR = SB := by have := HORD.out; omega
 have hn2 : ¬ SB = BR := by have := HORD.out; omega
 have hn3 : ¬ BD = SB := by have := HORD.out; omega
 have hn4 : ¬ SB = BD := by have := HORD.out; omega
 have hn5 : ¬ RES = SB := by have := HORD.out; omega
 have hn6 : ¬ SB = RES := by have := HORD.out; omega
 have b0 : w1.cell? ⟨BR, 0, none⟩ = some (.pointer (some ⟨rb, 0, none⟩)) := aa HW.out.br (j := 0) rfl
 go_wp2_with fail
 clear b0
 cases hq : atS l 0 sW
 ·replace HF := zh (HF.out.trans (if_neg (by rw [hq]; decide)))
  refine (b7 rb _ l en _ HW.out.rd hq).mono ?_
  rintro e w2 ⟨rfl, hr, ho⟩
  replace HW := zh (HW.out.call HY.out ho hr)
  clear hr ho hq
  have b0 : w2.cell? ⟨BR, 0, none⟩ = some (.pointer (some ⟨rb, 0, none⟩)) := aa HW.out.br (j := 0) rfl
  go_wp2_with fail
  clear b0
  cases hq : atS l 0 sIf
  ·replace HF := zh (HF.out.trans (if_neg (by rw [hq]; decide)))
   refine (b7 rb _ l en _ HW.out.rd hq).mono ?_
   rintro e w3 ⟨rfl, hr, ho⟩
   replace HW := zh (HW.out.call HY.out ho hr)
   clear hr ho hq
   have b0 : w3.cell? ⟨BR, 0, none⟩ = some (.pointer (some ⟨rb, 0, none⟩)) := aa HW.out.br (j := 0) rfl
   go_wp2_with fail
   clear b0
   cases hq : atS l 0 sQ
   ·replace HF := zh (HF.out.trans (if_neg (by rw [hq]; decide)))
    refine (b7 rb _ l en _ HW.out.rd hq).mono ?_
    rintro e w4 ⟨rfl, hr, ho⟩
    replace HW := zh (HW.out.call HY.out ho hr)
    clear hr ho hq
    have b0 : w4.cell? ⟨BR, 0, none⟩ = some (.pointer (some ⟨rb, 0, none⟩)) := aa HW.out.br (j := 0) rfl
    go_wp2_with fail
    clear b0
    cases hq : atS l 0 ni
    ·replace HF := zh (HF.out.trans (if_neg (by rw [hq]; decide)))
     refine (b7 rb _ l en _ HW.out.rd hq).mono ?_
     rintro e w5 ⟨rfl, hr, ho⟩
     replace HW := zh (HW.out.call HY.out ho hr)
     clear hr ho hq
     have b0 : w5.cell? ⟨BR, 0, none⟩ = some (.pointer (some ⟨rb, 0, none⟩)) := aa HW.out.br (j := 0) rfl
     go_wp2_with fail
     clear b0
     cases hq : atS l 0 r8
     ·replace HF := zh (HF.out.trans (if_neg (by rw [hq]; decide)))
      refine (b7 rb _ l en _ HW.out.rd hq).mono ?_
      rintro e w6 ⟨rfl, hr, ho⟩
      replace HW := zh (HW.out.call HY.out ho hr)
      clear hr ho hq
      have b0 : w6.cell? ⟨BR, 0, none⟩ = some (.pointer (some ⟨rb, 0, none⟩)) := aa HW.out.br (j := 0) rfl
      go_wp2_with fail
      clear b0
      cases hq : atS l 0 sL
      ·replace HF := zh (HF.out.trans (if_neg (by rw [hq]; decide)))
       refine (b7 rb _ l en _ HW.out.rd hq).mono ?_
       rintro e w7 ⟨rfl, hr, ho⟩
       replace HW := zh (HW.out.call HY.out ho hr)
       clear hr ho hq
       obtain ⟨s0, cap, hc0, hle, hcm, hrow, hsb⟩ := HW.out.rd.rest
       cases l with
       | nil =>
        replace HF := zh (HF.out.trans (if_neg (by simp)))
        have hc1 : w7.cell? ⟨rb, 0, none⟩ = some (.slice s0 0 cap) := hc0
        clear hc0 hle hcm hrow hsb
        have b0 : w7.cell? ⟨BR, 0, none⟩ = some (.pointer (some ⟨rb, 0, none⟩)) := aa HW.out.br (j := 0) rfl
        go_upto_region 3 with fail
        clear b0 hc1
        have e0 : w7.cell? ⟨SB, 0, none⟩ = some (.int .i64 0) := aa HW.out.sb (j := 0) rfl
        have g0 : w7.frozen? ⟨SB, 0, none⟩ = false := ab HW.out.sb 0
        go_upto_region 4 with fail
        clear e0 g0
        replace HW := zh (HW.out.store HY.out 0 (.int .i64 8) rfl HW.out.bo HW.out.el)
        generalize (w7.setCell ⟨SB, 0, none⟩ (.int .i64 8)) = w8 at *
        have b0 : w8.cell? ⟨BR, 0, none⟩ = some (.pointer (some ⟨rb, 0, none⟩)) := aa HW.out.br (j := 0) rfl
        have b1 : w8.cell? ⟨BD, 0, none⟩ = some (.int .i64 d) := aa HW.out.bd (j := 0) rfl
        go_wp2_with fail
        refine (cP rb SB BR BD base d en HD0.out HD1.out E HEE.out HLTS.out HNES.out [] _ HW.out.rd b0 b1 HW.out.big _ _ _ _ _ _ HW.out.sb _ (by simp) HW.out.ex).mono ?_
        rintro e w9 hp
        rcases hp.cases with ⟨er, p, hm, rfl, ho⟩ | ⟨x9, L9, v, hm, rfl, hv, hr, ho⟩
        ·have HE := zh (HF.out.trans (ay hm))
         have HON := zh (On.of_onS HW.out.on ho (fun i hi => by have := HORD.out; dsimp only; omega))
         clear hp hm ho
         unfold Pan
         go_wp2_with fail
         exact ⟨rfl, PSays.err HE.out HON.out⟩
        ·replace HF := zh (HF.out.trans (aB hm))
         clear b0 b1
         obtain ⟨hv, v9, hs, hg⟩ := hv
         subst hv
         replace HW := zh (HW.out.kid HY.out ho hr hs hg)
         clear hp hm ho hr hs hg
         have b0 : w9.cell? ⟨BR, 0, none⟩ = some (.pointer (some ⟨rb, 0, none⟩)) := aa HW.out.br (j := 0) rfl
         go_wp2_with fail
         clear b0
         have HB := zh (ae (Below.refl w9.heap.size w9) (.cells #[.string ⟨#[59]⟩] 9))
         replace HW := zh (HW.out.below HB.out)
         refine (aU rb w9.heap.size dK L9 en _ HW.out.rd (aw _ _ _ _ _ _ rfl rfl)).mono ?_
         rintro e w10 hp
         rcases hp.cases with ⟨er, p, hm, rfl, ho⟩ | ⟨x10, L10, v, hm, rfl, hv, hr, ho⟩
         ·have HE := zh (HF.out.trans (ay hm))
          have HON := zh (HW.out.on.trans ho)
          clear hp hm ho
          unfold Pan
          go_wp2_with fail
          exact ⟨rfl, PSays.err HE.out HON.out⟩
         ·replace HF := zh (HF.out.trans (aB hm))
          replace HW := zh (HW.out.call HY.out ho hr)
          subst hv
          clear hp hm ho hr HB
          obtain ⟨sE, nE, kE, hE⟩ := HW.out.formE
          subst hE
          obtain ⟨e0, e1, e2, e3, e4, e5, -⟩ := css HW.out.sb
          have c0 : w10.cell? ⟨RES, 0, none⟩ = some (.int .i64 0) := aa HW.out.res (j := 0) rfl
          have f0 : w10.frozen? ⟨RES, 0, none⟩ = false := ab HW.out.res 0
          have c1 : w10.cell? ⟨RES, 1, none⟩ = some (.string ⟨#[]⟩) := aa HW.out.res (j := 1) rfl
          have f1 : w10.frozen? ⟨RES, 1, none⟩ = false := ab HW.out.res 1
          have c2 : w10.cell? ⟨RES, 2, none⟩ = some (.slice none 0 0) := aa HW.out.res (j := 2) rfl
          have f2 : w10.frozen? ⟨RES, 2, none⟩ = false := ab HW.out.res 2
          have c3 : w10.cell? ⟨RES, 3, none⟩ = some (.slice none 0 0) := aa HW.out.res (j := 3) rfl
          have f3 : w10.frozen? ⟨RES, 3, none⟩ = false := ab HW.out.res 3
          have c4 : w10.cell? ⟨RES, 4, none⟩ = some (.slice none 0 0) := aa HW.out.res (j := 4) rfl
          have f4 : w10.frozen? ⟨RES, 4, none⟩ = false := ab HW.out.res 4
          have c5 : w10.cell? ⟨RES, 5, none⟩ = some (.int .i64 0) := aa HW.out.res (j := 5) rfl
          have f5 : w10.frozen? ⟨RES, 5, none⟩ = false := ab HW.out.res 5
          go_wp2_with fail
          refine bodyPost_ret (v := .agg #[.int .i64 8, .string ⟨#[]⟩, .slice sE nE kE, .slice none 0 0, .slice none 0 0, .int .i64 pl]) (by simp [results, Tryz.results84, go_sem, c0, c1, c2, c3, c4, c5]) rfl ?_
          have hq := HW.out.done HY.out HF.out
          rw [HORD.out.1] at hq
          exact hq
       | cons tk tr =>
        obtain ⟨bk, off, hs, hbl, hcell⟩ := hrow (by simp)
        subst hs
        obtain ⟨t0, _, _, _⟩ := hcell 0 (by simp)
        have t0' : w7.cell? ⟨bk, off, none⟩ = some (.int .i64 tk.kind) := by simpa using t0
        have hn2 : (0 : Int) < ((tk :: tr).length : Int) := by simp
        have hn3 : (0 : Int) < ((tr.length + 1 : Nat) : Int) := by omega
        have HTL := zh HW.out.rd
        clear t0 hcell hrow hsb hle hcm
        have b0 : w7.cell? ⟨BR, 0, none⟩ = some (.pointer (some ⟨rb, 0, none⟩)) := aa HW.out.br (j := 0) rfl
        by_cases hk : tk.kind = 1
        ·have hk2 : (tk.kind == 1) = true := by simp [hk]
         go_wp2_with fail
         clear b0 hc0 t0' hn2 hn3
         cases hq : atS (tk :: tr) 1 sEq
         ·replace HF := zh (HF.out.trans (if_neg (by rw [hq]; simp)))
          have HAT := zh (dS rb 1 sEq (tk :: tr) en _ HW.out.rd)
          rw [hq] at HAT
          refine HAT.out.mono ?_
          rintro e we ⟨rfl, rfl⟩
          clear hq HAT HTL
          generalize hLL : tk :: tr = LL at *
          go_upto_region 3 with fail
          have e0 : w7.cell? ⟨SB, 0, none⟩ = some (.int .i64 0) := aa HW.out.sb (j := 0) rfl
          have g0 : w7.frozen? ⟨SB, 0, none⟩ = false := ab HW.out.sb 0
          go_upto_region 4 with fail
          clear e0 g0
          replace HW := zh (HW.out.store HY.out 0 (.int .i64 8) rfl HW.out.bo HW.out.el)
          generalize (w7.setCell ⟨SB, 0, none⟩ (.int .i64 8)) = w8 at *
          have b0 : w8.cell? ⟨BR, 0, none⟩ = some (.pointer (some ⟨rb, 0, none⟩)) := aa HW.out.br (j := 0) rfl
          have b1 : w8.cell? ⟨BD, 0, none⟩ = some (.int .i64 d) := aa HW.out.bd (j := 0) rfl
          go_wp2_with fail
          refine (cP rb SB BR BD base d en HD0.out HD1.out E HEE.out HLTS.out HNES.out LL _ HW.out.rd b0 b1 HW.out.big _ _ _ _ _ _ HW.out.sb _ (by simp) HW.out.ex).mono ?_
          rintro e w9 hp
          rcases hp.cases with ⟨er, p, hm, rfl, ho⟩ | ⟨x9, L9, v, hm, rfl, hv, hr, ho⟩
          ·have HE := zh (HF.out.trans (ay hm))
           have HON := zh (On.of_onS HW.out.on ho (fun i hi => by have := HORD.out; dsimp only; omega))
           clear hp hm ho
           unfold Pan
           go_wp2_with fail
           exact ⟨rfl, PSays.err HE.out HON.out⟩
          ·replace HF := zh (HF.out.trans (aB hm))
           clear b0 b1
           obtain ⟨hv, v9, hs, hg⟩ := hv
           subst hv
           replace HW := zh (HW.out.kid HY.out ho hr hs hg)
           clear hp hm ho hr hs hg
           have b0 : w9.cell? ⟨BR, 0, none⟩ = some (.pointer (some ⟨rb, 0, none⟩)) := aa HW.out.br (j := 0) rfl
           go_wp2_with fail
           clear b0
           have HB := zh (ae (Below.refl w9.heap.size w9) (.cells #[.string ⟨#[59]⟩] 9))
           replace HW := zh (HW.out.below HB.out)
           refine (aU rb w9.heap.size dK L9 en _ HW.out.rd (aw _ _ _ _ _ _ rfl rfl)).mono ?_
           rintro e w10 hp
           rcases hp.cases with ⟨er, p, hm, rfl, ho⟩ | ⟨x10, L10, v, hm, rfl, hv, hr, ho⟩
           ·have HE := zh (HF.out.trans (ay hm))
            have HON := zh (HW.out.on.trans ho)
            clear hp hm ho
            unfold Pan
            go_wp2_with fail
            exact ⟨rfl, PSays.err HE.out HON.out⟩
           ·replace HF := zh (HF.out.trans (aB hm))
            replace HW := zh (HW.out.call HY.out ho hr)
            subst hv
            clear hp hm ho hr HB
            obtain ⟨sE, nE, kE, hE⟩ := HW.out.formE
            subst hE
            obtain ⟨e0, e1, e2, e3, e4, e5, -⟩ := css HW.out.sb
            have c0 : w10.cell? ⟨RES, 0, none⟩ = some (.int .i64 0) := aa HW.out.res (j := 0) rfl
            have f0 : w10.frozen? ⟨RES, 0, none⟩ = false := ab HW.out.res 0
            have c1 : w10.cell? ⟨RES, 1, none⟩ = some (.string ⟨#[]⟩) := aa HW.out.res (j := 1) rfl
            have f1 : w10.frozen? ⟨RES, 1, none⟩ = false := ab HW.out.res 1
            have c2 : w10.cell? ⟨RES, 2, none⟩ = some (.slice none 0 0) := aa HW.out.res (j := 2) rfl
            have f2 : w10.frozen? ⟨RES, 2, none⟩ = false := ab HW.out.res 2
            have c3 : w10.cell? ⟨RES, 3, none⟩ = some (.slice none 0 0) := aa HW.out.res (j := 3) rfl
            have f3 : w10.frozen? ⟨RES, 3, none⟩ = false := ab HW.out.res 3
            have c4 : w10.cell? ⟨RES, 4, none⟩ = some (.slice none 0 0) := aa HW.out.res (j := 4) rfl
            have f4 : w10.frozen? ⟨RES, 4, none⟩ = false := ab HW.out.res 4
            have c5 : w10.cell? ⟨RES, 5, none⟩ = some (.int .i64 0) := aa HW.out.res (j := 5) rfl
            have f5 : w10.frozen? ⟨RES, 5, none⟩ = false := ab HW.out.res 5
            go_wp2_with fail
            refine bodyPost_ret (v := .agg #[.int .i64 8, .string ⟨#[]⟩, .slice sE nE kE, .slice none 0 0, .slice none 0 0, .int .i64 pl]) (by simp [results, Tryz.results84, go_sem, c0, c1, c2, c3, c4, c5]) rfl ?_
            have hq := HW.out.done HY.out HF.out
            rw [HORD.out.1] at hq
            exact hq
         ·replace HF := zh (HF.out.trans (if_pos (by rw [hq]; simp [hk])))
          have HAT := zh (dS rb 1 sEq (tk :: tr) en _ HW.out.rd)
          rw [hq] at HAT
          refine HAT.out.mono ?_
          rintro e we ⟨rfl, rfl⟩
          clear hq HAT HTL
          generalize hLL : tk :: tr = LL at *
          go_upto_region 41 with fail
          have b0 : w7.cell? ⟨BR, 0, none⟩ = some (.pointer (some ⟨rb, 0, none⟩)) := aa HW.out.br (j := 0) rfl
          go_wp2_with fail
          clear b0
          refine (fd rb LL en _ HW.out.rd).mono ?_
          rintro e w8 hp
          rcases hp.cases with ⟨er, p, hm, rfl, ho⟩ | ⟨x8, L8, v, hm, rfl, hv, hr, ho⟩
          ·have HE := zh (HF.out.trans (ay hm))
           have HON := zh (HW.out.on.trans ho)
           clear hp hm ho
           unfold Pan
           go_wp2_with fail
           exact ⟨rfl, PSays.err HE.out HON.out⟩
          ·replace HF := zh (HF.out.trans (aB hm))
           replace HW := zh (HW.out.call HY.out ho hr)
           subst hv
           clear hp hm ho hr
           have e0 : w8.cell? ⟨SB, 0, none⟩ = some (.int .i64 0) := aa HW.out.sb (j := 0) rfl
           have g0 : w8.frozen? ⟨SB, 0, none⟩ = false := ab HW.out.sb 0
           have e1 : w8.cell? ⟨SB, 1, none⟩ = some (.string ⟨#[]⟩) := aa HW.out.sb (j := 1) rfl
           have g1 : w8.frozen? ⟨SB, 1, none⟩ = false := ab HW.out.sb 1
           go_upto_region 42 with fail
           clear e0 g0 e1 g1
           replace HW := zh (HW.out.store HY.out 0 (.int .i64 2) rfl HW.out.bo HW.out.el)
           replace HW := zh (HW.out.store HY.out 1 (.string x8) rfl HW.out.bo HW.out.el)
           generalize ((w8.setCell ⟨SB, 0, none⟩ (.int .i64 2)).setCell ⟨SB, 1, none⟩ (.string x8)) = w9 at *
           have b0 : w9.cell? ⟨BR, 0, none⟩ = some (.pointer (some ⟨rb, 0, none⟩)) := aa HW.out.br (j := 0) rfl
           go_wp2_with fail
           clear b0
           have HB := zh (ae (Below.refl w9.heap.size w9) (.cells #[.string ⟨#[61]⟩] 9))
           replace HW := zh (HW.out.below HB.out)
           refine (aU rb w9.heap.size sEq L8 en _ HW.out.rd (aw _ _ _ _ _ _ rfl rfl)).mono ?_
           rintro e w10 hp
           rcases hp.cases with ⟨er, p, hm, rfl, ho⟩ | ⟨x10, L10, v, hm, rfl, hv, hr, ho⟩
           ·have HE := zh (HF.out.trans (ay hm))
            have HON := zh (HW.out.on.trans ho)
            clear hp hm ho
            unfold Pan
            go_wp2_with fail
            exact ⟨rfl, PSays.err HE.out HON.out⟩
           ·replace HF := zh (HF.out.trans (aB hm))
            replace HW := zh (HW.out.call HY.out ho hr)
            subst hv
            clear hp hm ho hr HB
            have b0 : w10.cell? ⟨BR, 0, none⟩ = some (.pointer (some ⟨rb, 0, none⟩)) := aa HW.out.br (j := 0) rfl
            have b1 : w10.cell? ⟨BD, 0, none⟩ = some (.int .i64 d) := aa HW.out.bd (j := 0) rfl
            go_wp2_with fail
            refine (cP rb SB BR BD base d en HD0.out HD1.out E HEE.out HLTS.out HNES.out L10 _ HW.out.rd b0 b1 HW.out.big _ _ _ _ _ _ HW.out.sb _ (by simp) HW.out.ex).mono ?_
            rintro e w11 hp
            rcases hp.cases with ⟨er, p, hm, rfl, ho⟩ | ⟨x11, L11, v, hm, rfl, hv, hr, ho⟩
            ·have HE := zh (HF.out.trans (ay hm))
             have HON := zh (On.of_onS HW.out.on ho (fun i hi => by have := HORD.out; dsimp only; omega))
             clear hp hm ho
             unfold Pan
             go_wp2_with fail
             exact ⟨rfl, PSays.err HE.out HON.out⟩
            ·replace HF := zh (HF.out.trans (aB hm))
             clear b0 b1
             obtain ⟨hv, v11, hs, hg⟩ := hv
             subst hv
             replace HW := zh (HW.out.kid HY.out ho hr hs hg)
             clear hp hm ho hr hs hg
             have b0 : w11.cell? ⟨BR, 0, none⟩ = some (.pointer (some ⟨rb, 0, none⟩)) := aa HW.out.br (j := 0) rfl
             go_wp2_with fail
             clear b0
             have HB := zh (ae (Below.refl w11.heap.size w11) (.cells #[.string ⟨#[59]⟩] 9))
             replace HW := zh (HW.out.below HB.out)
             refine (aU rb w11.heap.size dK L11 en _ HW.out.rd (aw _ _ _ _ _ _ rfl rfl)).mono ?_
             rintro e w12 hp
             rcases hp.cases with ⟨er, p, hm, rfl, ho⟩ | ⟨x12, L12, v, hm, rfl, hv, hr, ho⟩
             ·have HE := zh (HF.out.trans (ay hm))
              have HON := zh (HW.out.on.trans ho)
              clear hp hm ho
              unfold Pan
              go_wp2_with fail
              exact ⟨rfl, PSays.err HE.out HON.out⟩
             ·replace HF := zh (HF.out.trans (aB hm))
              replace HW := zh (HW.out.call HY.out ho hr)
              subst hv
              clear hp hm ho hr HB
              obtain ⟨sE, nE, kE, hE⟩ := HW.out.formE
              subst hE
              obtain ⟨e0, e1, e2, e3, e4, e5, -⟩ := css HW.out.sb
              have c0 : w12.cell? ⟨RES, 0, none⟩ = some (.int .i64 0) := aa HW.out.res (j := 0) rfl
              have f0 : w12.frozen? ⟨RES, 0, none⟩ = false := ab HW.out.res 0
              have c1 : w12.cell? ⟨RES, 1, none⟩ = some (.string ⟨#[]⟩) := aa HW.out.res (j := 1) rfl
              have f1 : w12.frozen? ⟨RES, 1, none⟩ = false := ab HW.out.res 1
              have c2 : w12.cell? ⟨RES, 2, none⟩ = some (.slice none 0 0) := aa HW.out.res (j := 2) rfl
              have f2 : w12.frozen? ⟨RES, 2, none⟩ = false := ab HW.out.res 2
              have c3 : w12.cell? ⟨RES, 3, none⟩ = some (.slice none 0 0) := aa HW.out.res (j := 3) rfl
              have f3 : w12.frozen? ⟨RES, 3, none⟩ = false := ab HW.out.res 3
              have c4 : w12.cell? ⟨RES, 4, none⟩ = some (.slice none 0 0) := aa HW.out.res (j := 4) rfl
              have f4 : w12.frozen? ⟨RES, 4, none⟩ = false := ab HW.out.res 4
              have c5 : w12.cell? ⟨RES, 5, none⟩ = some (.int .i64 0) := aa HW.out.res (j := 5) rfl
              have f5 : w12.frozen? ⟨RES, 5, none⟩ = false := ab HW.out.res 5
              go_wp2_with fail
              refine bodyPost_ret (v := .agg #[.int .i64 2, .string x8, .slice sE nE kE, .slice none 0 0, .slice none 0 0, .int .i64 pl]) (by simp [results, Tryz.results84, go_sem, c0, c1, c2, c3, c4, c5]) rfl ?_
              have hq := HW.out.done HY.out HF.out
              rw [HORD.out.1] at hq
              exact hq
        ·have hk2 : (tk.kind == 1) = false := by simp [hk]
         replace HF := zh (HF.out.trans (if_neg (by simp [hk])))
         go_upto_region 3 with fail
         clear b0 hc0 t0' hn2 hn3 HTL
         generalize hLL : tk :: tr = LL at *
         have e0 : w7.cell? ⟨SB, 0, none⟩ = some (.int .i64 0) := aa HW.out.sb (j := 0) rfl
         have g0 : w7.frozen? ⟨SB, 0, none⟩ = false := ab HW.out.sb 0
         go_upto_region 4 with fail
         clear e0 g0
         replace HW := zh (HW.out.store HY.out 0 (.int .i64 8) rfl HW.out.bo HW.out.el)
         generalize (w7.setCell ⟨SB, 0, none⟩ (.int .i64 8)) = w8 at *
         have b0 : w8.cell? ⟨BR, 0, none⟩ = some (.pointer (some ⟨rb, 0, none⟩)) := aa HW.out.br (j := 0) rfl
         have b1 : w8.cell? ⟨BD, 0, none⟩ = some (.int .i64 d) := aa HW.out.bd (j := 0) rfl
         go_wp2_with fail
         refine (cP rb SB BR BD base d en HD0.out HD1.out E HEE.out HLTS.out HNES.out LL _ HW.out.rd b0 b1 HW.out.big _ _ _ _ _ _ HW.out.sb _ (by simp) HW.out.ex).mono ?_
         rintro e w9 hp
         rcases hp.cases with ⟨er, p, hm, rfl, ho⟩ | ⟨x9, L9, v, hm, rfl, hv, hr, ho⟩
         ·have HE := zh (HF.out.trans (ay hm))
          have HON := zh (On.of_onS HW.out.on ho (fun i hi => by have := HORD.out; dsimp only; omega))
          clear hp hm ho
          unfold Pan
          go_wp2_with fail
          exact ⟨rfl, PSays.err HE.out HON.out⟩
         ·replace HF := zh (HF.out.trans (aB hm))
          clear b0 b1
          obtain ⟨hv, v9, hs, hg⟩ := hv
          subst hv
          replace HW := zh (HW.out.kid HY.out ho hr hs hg)
          clear hp hm ho hr hs hg
          have b0 : w9.cell? ⟨BR, 0, none⟩ = some (.pointer (some ⟨rb, 0, none⟩)) := aa HW.out.br (j := 0) rfl
          go_wp2_with fail
          clear b0
          have HB := zh (ae (Below.refl w9.heap.size w9) (.cells #[.string ⟨#[59]⟩] 9))
          replace HW := zh (HW.out.below HB.out)
          refine (aU rb w9.heap.size dK L9 en _ HW.out.rd (aw _ _ _ _ _ _ rfl rfl)).mono ?_
          rintro e w10 hp
          rcases hp.cases with ⟨er, p, hm, rfl, ho⟩ | ⟨x10, L10, v, hm, rfl, hv, hr, ho⟩
          ·have HE := zh (HF.out.trans (ay hm))
           have HON := zh (HW.out.on.trans ho)
           clear hp hm ho
           unfold Pan
           go_wp2_with fail
           exact ⟨rfl, PSays.err HE.out HON.out⟩
          ·replace HF := zh (HF.out.trans (aB hm))
           replace HW := zh (HW.out.call HY.out ho hr)
           subst hv
           clear hp hm ho hr HB
           obtain ⟨sE, nE, kE, hE⟩ := HW.out.formE
           subst hE
           obtain ⟨e0, e1, e2, e3, e4, e5, -⟩ := css HW.out.sb
           have c0 : w10.cell? ⟨RES, 0, none⟩ = some (.int .i64 0) := aa HW.out.res (j := 0) rfl
           have f0 : w10.frozen? ⟨RES, 0, none⟩ = false := ab HW.out.res 0
           have c1 : w10.cell? ⟨RES, 1, none⟩ = some (.string ⟨#[]⟩) := aa HW.out.res (j := 1) rfl
           have f1 : w10.frozen? ⟨RES, 1, none⟩ = false := ab HW.out.res 1
           have c2 : w10.cell? ⟨RES, 2, none⟩ = some (.slice none 0 0) := aa HW.out.res (j := 2) rfl
           have f2 : w10.frozen? ⟨RES, 2, none⟩ = false := ab HW.out.res 2
           have c3 : w10.cell? ⟨RES, 3, none⟩ = some (.slice none 0 0) := aa HW.out.res (j := 3) rfl
           have f3 : w10.frozen? ⟨RES, 3, none⟩ = false := ab HW.out.res 3
           have c4 : w10.cell? ⟨RES, 4, none⟩ = some (.slice none 0 0) := aa HW.out.res (j := 4) rfl
           have f4 : w10.frozen? ⟨RES, 4, none⟩ = false := ab HW.out.res 4
           have c5 : w10.cell? ⟨RES, 5, none⟩ = some (.int .i64 0) := aa HW.out.res (j := 5) rfl
           have f5 : w10.frozen? ⟨RES, 5, none⟩ = false := ab HW.out.res 5
           go_wp2_with fail
           refine bodyPost_ret (v := .agg #[.int .i64 8, .string ⟨#[]⟩, .slice sE nE kE, .slice none 0 0, .slice none 0 0, .int .i64 pl]) (by simp [results, Tryz.results84, go_sem, c0, c1, c2, c3, c4, c5]) rfl ?_
           have hq := HW.out.done HY.out HF.out
           rw [HORD.out.1] at hq
           exact hq
      ·replace HF := zh (HF.out.trans (if_pos hq))
       refine (cu rb _ l en _ HW.out.rd hq).mono ?_
       rintro e w7 ⟨rfl, hr, ho⟩
       replace HW := zh (HW.out.call HY.out ho hr)
       clear hr ho hq
       generalize l.tail = L7 at *
       have e0 : w7.cell? ⟨SB, 0, none⟩ = some (.int .i64 0) := aa HW.out.sb (j := 0) rfl
       have g0 : w7.frozen? ⟨SB, 0, none⟩ = false := ab HW.out.sb 0
       go_upto_region 37 with fail
       clear e0 g0
       replace HW := zh (HW.out.store HY.out 0 (.int .i64 7) rfl HW.out.bo HW.out.el)
       generalize (w7.setCell ⟨SB, 0, none⟩ (.int .i64 7)) = w8 at *
       have b0 : w8.cell? ⟨BR, 0, none⟩ = some (.pointer (some ⟨rb, 0, none⟩)) := aa HW.out.br (j := 0) rfl
       go_wp2_with fail
       clear b0
       have HB := zh (ae (Below.refl w8.heap.size w8) (.cells #[.string ⟨#[40]⟩] 9))
       replace HW := zh (HW.out.below HB.out)
       refine (aU rb w8.heap.size bW L7 en _ HW.out.rd (aw _ _ _ _ _ _ rfl rfl)).mono ?_
       rintro e w9 hp
       rcases hp.cases with ⟨er, p, hm, rfl, ho⟩ | ⟨x9, L9, v, hm, rfl, hv, hr, ho⟩
       ·have HE := zh (HF.out.trans (ay hm))
        have HON := zh (HW.out.on.trans ho)
        clear hp hm ho
        unfold Pan
        go_wp2_with fail
        exact ⟨rfl, PSays.err HE.out HON.out⟩
       ·replace HF := zh (HF.out.trans (aB hm))
        replace HW := zh (HW.out.call HY.out ho hr)
        subst hv
        clear hp hm ho hr HB
        have b0 : w9.cell? ⟨BR, 0, none⟩ = some (.pointer (some ⟨rb, 0, none⟩)) := aa HW.out.br (j := 0) rfl
        have b1 : w9.cell? ⟨BD, 0, none⟩ = some (.int .i64 d) := aa HW.out.bd (j := 0) rfl
        go_wp2_with fail
        refine (cP rb SB BR BD base d en HD0.out HD1.out E HEE.out HLTS.out HNES.out L9 _ HW.out.rd b0 b1 HW.out.big _ _ _ _ _ _ HW.out.sb _ (by simp) HW.out.ex).mono ?_
        rintro e w10 hp
        rcases hp.cases with ⟨er, p, hm, rfl, ho⟩ | ⟨x10, L10, v, hm, rfl, hv, hr, ho⟩
        ·have HE := zh (HF.out.trans (ay hm))
         have HON := zh (On.of_onS HW.out.on ho (fun i hi => by have := HORD.out; dsimp only; omega))
         clear hp hm ho
         unfold Pan
         go_wp2_with fail
         exact ⟨rfl, PSays.err HE.out HON.out⟩
        ·replace HF := zh (HF.out.trans (aB hm))
         clear b0 b1
         obtain ⟨hv, v10, hs, hg⟩ := hv
         subst hv
         replace HW := zh (HW.out.kid HY.out ho hr hs hg)
         clear hp hm ho hr hs hg
         have b0 : w10.cell? ⟨BR, 0, none⟩ = some (.pointer (some ⟨rb, 0, none⟩)) := aa HW.out.br (j := 0) rfl
         go_wp2_with fail
         clear b0
         have HB := zh (ae (Below.refl w10.heap.size w10) (.cells #[.string ⟨#[41]⟩] 9))
         replace HW := zh (HW.out.below HB.out)
         refine (aU rb w10.heap.size cj L10 en _ HW.out.rd (aw _ _ _ _ _ _ rfl rfl)).mono ?_
         rintro e w11 hp
         rcases hp.cases with ⟨er, p, hm, rfl, ho⟩ | ⟨x11, L11, v, hm, rfl, hv, hr, ho⟩
         ·have HE := zh (HF.out.trans (ay hm))
          have HON := zh (HW.out.on.trans ho)
          clear hp hm ho
          unfold Pan
          go_wp2_with fail
          exact ⟨rfl, PSays.err HE.out HON.out⟩
         ·replace HF := zh (HF.out.trans (aB hm))
          replace HW := zh (HW.out.call HY.out ho hr)
          subst hv
          clear hp hm ho hr HB
          have b0 : w11.cell? ⟨BR, 0, none⟩ = some (.pointer (some ⟨rb, 0, none⟩)) := aa HW.out.br (j := 0) rfl
          go_wp2_with fail
          clear b0
          have HB := zh (ae (Below.refl w11.heap.size w11) (.cells #[.string ⟨#[59]⟩] 9))
          replace HW := zh (HW.out.below HB.out)
          refine (aU rb w11.heap.size dK L11 en _ HW.out.rd (aw _ _ _ _ _ _ rfl rfl)).mono ?_
          rintro e w12 hp
          rcases hp.cases with ⟨er, p, hm, rfl, ho⟩ | ⟨x12, L12, v, hm, rfl, hv, hr, ho⟩
          ·have HE := zh (HF.out.trans (ay hm))
           have HON := zh (HW.out.on.trans ho)
           clear hp hm ho
           unfold Pan
           go_wp2_with fail
           exact ⟨rfl, PSays.err HE.out HON.out⟩
          ·replace HF := zh (HF.out.trans (aB hm))
           replace HW := zh (HW.out.call HY.out ho hr)
           subst hv
           clear hp hm ho hr HB
           obtain ⟨sE, nE, kE, hE⟩ := HW.out.formE
           subst hE
           obtain ⟨e0, e1, e2, e3, e4, e5, -⟩ := css HW.out.sb
           have c0 : w12.cell? ⟨RES, 0, none⟩ = some (.int .i64 0) := aa HW.out.res (j := 0) rfl
           have f0 : w12.frozen? ⟨RES, 0, none⟩ = false := ab HW.out.res 0
           have c1 : w12.cell? ⟨RES, 1, none⟩ = some (.string ⟨#[]⟩) := aa HW.out.res (j := 1) rfl
           have f1 : w12.frozen? ⟨RES, 1, none⟩ = false := ab HW.out.res 1
           have c2 : w12.cell? ⟨RES, 2, none⟩ = some (.slice none 0 0) := aa HW.out.res (j := 2) rfl
           have f2 : w12.frozen? ⟨RES, 2, none⟩ = false := ab HW.out.res 2
           have c3 : w12.cell? ⟨RES, 3, none⟩ = some (.slice none 0 0) := aa HW.out.res (j := 3) rfl
           have f3 : w12.frozen? ⟨RES, 3, none⟩ = false := ab HW.out.res 3
           have c4 : w12.cell? ⟨RES, 4, none⟩ = some (.slice none 0 0) := aa HW.out.res (j := 4) rfl
           have f4 : w12.frozen? ⟨RES, 4, none⟩ = false := ab HW.out.res 4
           have c5 : w12.cell? ⟨RES, 5, none⟩ = some (.int .i64 0) := aa HW.out.res (j := 5) rfl
           have f5 : w12.frozen? ⟨RES, 5, none⟩ = false := ab HW.out.res 5
           go_wp2_with fail
           refine bodyPost_ret (v := .agg #[.int .i64 7, .string ⟨#[]⟩, .slice sE nE kE, .slice none 0 0, .slice none 0 0, .int .i64 pl]) (by simp [results, Tryz.results84, go_sem, c0, c1, c2, c3, c4, c5]) rfl ?_
           have hq := HW.out.done HY.out HF.out
           rw [HORD.out.1] at hq
           exact hq
     ·replace HF := zh (HF.out.trans (if_pos hq))
      refine (cu rb _ l en _ HW.out.rd hq).mono ?_
      rintro e w6 ⟨rfl, hr, ho⟩
      replace HW := zh (HW.out.call HY.out ho hr)
      clear hr ho hq
      generalize l.tail = L6 at *
      have e0 : w6.cell? ⟨SB, 0, none⟩ = some (.int .i64 0) := aa HW.out.sb (j := 0) rfl
      have g0 : w6.frozen? ⟨SB, 0, none⟩ = false := ab HW.out.sb 0
      go_upto_region 30 with fail
      clear e0 g0
      replace HW := zh (HW.out.store HY.out 0 (.int .i64 6) rfl HW.out.bo HW.out.el)
      generalize (w6.setCell ⟨SB, 0, none⟩ (.int .i64 6)) = w7 at *
      have b0 : w7.cell? ⟨BR, 0, none⟩ = some (.pointer (some ⟨rb, 0, none⟩)) := aa HW.out.br (j := 0) rfl
      go_wp2_with fail
      clear b0
      have HB := zh (ae (Below.refl w7.heap.size w7) (.cells #[.string ⟨#[40]⟩] 9))
      replace HW := zh (HW.out.below HB.out)
      refine (aU rb w7.heap.size bW L6 en _ HW.out.rd (aw _ _ _ _ _ _ rfl rfl)).mono ?_
      rintro e w8 hp
      rcases hp.cases with ⟨er, p, hm, rfl, ho⟩ | ⟨x8, L8, v, hm, rfl, hv, hr, ho⟩
      ·have HE := zh (HF.out.trans (ay hm))
       have HON := zh (HW.out.on.trans ho)
       clear hp hm ho
       unfold Pan
       go_wp2_with fail
       exact ⟨rfl, PSays.err HE.out HON.out⟩
      ·replace HF := zh (HF.out.trans (aB hm))
       replace HW := zh (HW.out.call HY.out ho hr)
       subst hv
       clear hp hm ho hr HB
       have b0 : w8.cell? ⟨BR, 0, none⟩ = some (.pointer (some ⟨rb, 0, none⟩)) := aa HW.out.br (j := 0) rfl
       have b1 : w8.cell? ⟨BD, 0, none⟩ = some (.int .i64 d) := aa HW.out.bd (j := 0) rfl
       go_wp2_with fail
       refine (cP rb SB BR BD base d en HD0.out HD1.out E HEE.out HLTS.out HNES.out L8 _ HW.out.rd b0 b1 HW.out.big _ _ _ _ _ _ HW.out.sb _ (by simp) HW.out.ex).mono ?_
       rintro e w9 hp
       rcases hp.cases with ⟨er, p, hm, rfl, ho⟩ | ⟨x9, L9, v, hm, rfl, hv, hr, ho⟩
       ·have HE := zh (HF.out.trans (ay hm))
        have HON := zh (On.of_onS HW.out.on ho (fun i hi => by have := HORD.out; dsimp only; omega))
        clear hp hm ho
        unfold Pan
        go_wp2_with fail
        exact ⟨rfl, PSays.err HE.out HON.out⟩
       ·replace HF := zh (HF.out.trans (aB hm))
        clear b0 b1
        obtain ⟨hv, v9, hs, hg⟩ := hv
        subst hv
        replace HW := zh (HW.out.kid HY.out ho hr hs hg)
        clear hp hm ho hr hs hg
        have b0 : w9.cell? ⟨BR, 0, none⟩ = some (.pointer (some ⟨rb, 0, none⟩)) := aa HW.out.br (j := 0) rfl
        go_wp2_with fail
        clear b0
        have HB := zh (ae (Below.refl w9.heap.size w9) (.cells #[.string ⟨#[44]⟩] 9))
        replace HW := zh (HW.out.below HB.out)
        refine (aU rb w9.heap.size eL L9 en _ HW.out.rd (aw _ _ _ _ _ _ rfl rfl)).mono ?_
        rintro e w10 hp
        rcases hp.cases with ⟨er, p, hm, rfl, ho⟩ | ⟨x10, L10, v, hm, rfl, hv, hr, ho⟩
        ·have HE := zh (HF.out.trans (ay hm))
         have HON := zh (HW.out.on.trans ho)
         clear hp hm ho
         unfold Pan
         go_wp2_with fail
         exact ⟨rfl, PSays.err HE.out HON.out⟩
        ·replace HF := zh (HF.out.trans (aB hm))
         replace HW := zh (HW.out.call HY.out ho hr)
         subst hv
         clear hp hm ho hr HB
         have b0 : w10.cell? ⟨BR, 0, none⟩ = some (.pointer (some ⟨rb, 0, none⟩)) := aa HW.out.br (j := 0) rfl
         have b1 : w10.cell? ⟨BD, 0, none⟩ = some (.int .i64 d) := aa HW.out.bd (j := 0) rfl
         go_wp2_with fail
         refine (cP rb SB BR BD base d en HD0.out HD1.out E HEE.out HLTS.out HNES.out L10 _ HW.out.rd b0 b1 HW.out.big _ _ _ _ _ _ HW.out.sb _ (by simp) HW.out.ex).mono ?_
         rintro e w11 hp
         rcases hp.cases with ⟨er, p, hm, rfl, ho⟩ | ⟨x11, L11, v, hm, rfl, hv, hr, ho⟩
         ·have HE := zh (HF.out.trans (ay hm))
          have HON := zh (On.of_onS HW.out.on ho (fun i hi => by have := HORD.out; dsimp only; omega))
          clear hp hm ho
          unfold Pan
          go_wp2_with fail
          exact ⟨rfl, PSays.err HE.out HON.out⟩
         ·replace HF := zh (HF.out.trans (aB hm))
          clear b0 b1
          obtain ⟨hv, v11, hs, hg⟩ := hv
          subst hv
          replace HW := zh (HW.out.kid HY.out ho hr hs hg)
          clear hp hm ho hr hs hg
          have b0 : w11.cell? ⟨BR, 0, none⟩ = some (.pointer (some ⟨rb, 0, none⟩)) := aa HW.out.br (j := 0) rfl
          go_wp2_with fail
          clear b0
          have HB := zh (ae (Below.refl w11.heap.size w11) (.cells #[.string ⟨#[41]⟩] 9))
          replace HW := zh (HW.out.below HB.out)
          refine (aU rb w11.heap.size cj L11 en _ HW.out.rd (aw _ _ _ _ _ _ rfl rfl)).mono ?_
          rintro e w12 hp
          rcases hp.cases with ⟨er, p, hm, rfl, ho⟩ | ⟨x12, L12, v, hm, rfl, hv, hr, ho⟩
          ·have HE := zh (HF.out.trans (ay hm))
           have HON := zh (HW.out.on.trans ho)
           clear hp hm ho
           unfold Pan
           go_wp2_with fail
           exact ⟨rfl, PSays.err HE.out HON.out⟩
          ·replace HF := zh (HF.out.trans (aB hm))
           replace HW := zh (HW.out.call HY.out ho hr)
           subst hv
           clear hp hm ho hr HB
           have b0 : w12.cell? ⟨BR, 0, none⟩ = some (.pointer (some ⟨rb, 0, none⟩)) := aa HW.out.br (j := 0) rfl
           go_wp2_with fail
           clear b0
           have HB := zh (ae (Below.refl w12.heap.size w12) (.cells #[.string ⟨#[59]⟩] 9))
           replace HW := zh (HW.out.below HB.out)
           refine (aU rb w12.heap.size dK L12 en _ HW.out.rd (aw _ _ _ _ _ _ rfl rfl)).mono ?_
           rintro e w13 hp
           rcases hp.cases with ⟨er, p, hm, rfl, ho⟩ | ⟨x13, L13, v, hm, rfl, hv, hr, ho⟩
           ·have HE := zh (HF.out.trans (ay hm))
            have HON := zh (HW.out.on.trans ho)
            clear hp hm ho
            unfold Pan
            go_wp2_with fail
            exact ⟨rfl, PSays.err HE.out HON.out⟩
           ·replace HF := zh (HF.out.trans (aB hm))
            replace HW := zh (HW.out.call HY.out ho hr)
            subst hv
            clear hp hm ho hr HB
            obtain ⟨sE, nE, kE, hE⟩ := HW.out.formE
            subst hE
            obtain ⟨e0, e1, e2, e3, e4, e5, -⟩ := css HW.out.sb
            have c0 : w13.cell? ⟨RES, 0, none⟩ = some (.int .i64 0) := aa HW.out.res (j := 0) rfl
            have f0 : w13.frozen? ⟨RES, 0, none⟩ = false := ab HW.out.res 0
            have c1 : w13.cell? ⟨RES, 1, none⟩ = some (.string ⟨#[]⟩) := aa HW.out.res (j := 1) rfl
            have f1 : w13.frozen? ⟨RES, 1, none⟩ = false := ab HW.out.res 1
            have c2 : w13.cell? ⟨RES, 2, none⟩ = some (.slice none 0 0) := aa HW.out.res (j := 2) rfl
            have f2 : w13.frozen? ⟨RES, 2, none⟩ = false := ab HW.out.res 2
            have c3 : w13.cell? ⟨RES, 3, none⟩ = some (.slice none 0 0) := aa HW.out.res (j := 3) rfl
            have f3 : w13.frozen? ⟨RES, 3, none⟩ = false := ab HW.out.res 3
            have c4 : w13.cell? ⟨RES, 4, none⟩ = some (.slice none 0 0) := aa HW.out.res (j := 4) rfl
            have f4 : w13.frozen? ⟨RES, 4, none⟩ = false := ab HW.out.res 4
            have c5 : w13.cell? ⟨RES, 5, none⟩ = some (.int .i64 0) := aa HW.out.res (j := 5) rfl
            have f5 : w13.frozen? ⟨RES, 5, none⟩ = false := ab HW.out.res 5
            go_wp2_with fail
            refine bodyPost_ret (v := .agg #[.int .i64 6, .string ⟨#[]⟩, .slice sE nE kE, .slice none 0 0, .slice none 0 0, .int .i64 pl]) (by simp [results, Tryz.results84, go_sem, c0, c1, c2, c3, c4, c5]) rfl ?_
            have hq := HW.out.done HY.out HF.out
            rw [HORD.out.1] at hq
            exact hq
    ·replace HF := zh (HF.out.trans (if_pos hq))
     refine (cu rb _ l en _ HW.out.rd hq).mono ?_
     rintro e w5 ⟨rfl, hr, ho⟩
     replace HW := zh (HW.out.call HY.out ho hr)
     clear hr ho hq
     generalize l.tail = L5 at *
     have e0 : w5.cell? ⟨SB, 0, none⟩ = some (.int .i64 0) := aa HW.out.sb (j := 0) rfl
     have g0 : w5.frozen? ⟨SB, 0, none⟩ = false := ab HW.out.sb 0
     go_upto_region 26 with fail
     clear e0 g0
     replace HW := zh (HW.out.store HY.out 0 (.int .i64 5) rfl HW.out.bo HW.out.el)
     generalize (w5.setCell ⟨SB, 0, none⟩ (.int .i64 5)) = w6 at *
     have b0 : w6.cell? ⟨BR, 0, none⟩ = some (.pointer (some ⟨rb, 0, none⟩)) := aa HW.out.br (j := 0) rfl
     go_wp2_with fail
     clear b0
     cases hq : atS L5 0 dK
     ·replace HF := zh (HF.out.trans (if_neg (by rw [hq]; decide)))
      have HAT := zh (dS rb 0 dK L5 en _ HW.out.rd)
      rw [hq] at HAT
      refine HAT.out.mono ?_
      rintro e we ⟨rfl, rfl⟩
      clear hq HAT
      have b0 : w6.cell? ⟨BR, 0, none⟩ = some (.pointer (some ⟨rb, 0, none⟩)) := aa HW.out.br (j := 0) rfl
      have b1 : w6.cell? ⟨BD, 0, none⟩ = some (.int .i64 d) := aa HW.out.bd (j := 0) rfl
      go_wp2_with fail
      refine (cP rb SB BR BD base d en HD0.out HD1.out E HEE.out HLTS.out HNES.out L5 _ HW.out.rd b0 b1 HW.out.big _ _ _ _ _ _ HW.out.sb _ (by simp) HW.out.ex).mono ?_
      rintro e w7 hp
      rcases hp.cases with ⟨er, p, hm, rfl, ho⟩ | ⟨x7, L7, v, hm, rfl, hv, hr, ho⟩
      ·have HE := zh (HF.out.trans (ay hm))
       have HON := zh (On.of_onS HW.out.on ho (fun i hi => by have := HORD.out; dsimp only; omega))
       clear hp hm ho
       unfold Pan
       go_wp2_with fail
       exact ⟨rfl, PSays.err HE.out HON.out⟩
      ·replace HF := zh (HF.out.trans (aB hm))
       clear b0 b1
       obtain ⟨hv, v7, hs, hg⟩ := hv
       subst hv
       replace HW := zh (HW.out.kid HY.out ho hr hs hg)
       clear hp hm ho hr hs hg
       have b0 : w7.cell? ⟨BR, 0, none⟩ = some (.pointer (some ⟨rb, 0, none⟩)) := aa HW.out.br (j := 0) rfl
       go_wp2_with fail
       clear b0
       have HB := zh (ae (Below.refl w7.heap.size w7) (.cells #[.string ⟨#[59]⟩] 9))
       replace HW := zh (HW.out.below HB.out)
       refine (aU rb w7.heap.size dK L7 en _ HW.out.rd (aw _ _ _ _ _ _ rfl rfl)).mono ?_
       rintro e w8 hp
       rcases hp.cases with ⟨er, p, hm, rfl, ho⟩ | ⟨x8, L8, v, hm, rfl, hv, hr, ho⟩
       ·have HE := zh (HF.out.trans (ay hm))
        have HON := zh (HW.out.on.trans ho)
        clear hp hm ho
        unfold Pan
        go_wp2_with fail
        exact ⟨rfl, PSays.err HE.out HON.out⟩
       ·replace HF := zh (HF.out.trans (aB hm))
        replace HW := zh (HW.out.call HY.out ho hr)
        subst hv
        clear hp hm ho hr HB
        obtain ⟨sE, nE, kE, hE⟩ := HW.out.formE
        subst hE
        obtain ⟨e0, e1, e2, e3, e4, e5, -⟩ := css HW.out.sb
        have c0 : w8.cell? ⟨RES, 0, none⟩ = some (.int .i64 0) := aa HW.out.res (j := 0) rfl
        have f0 : w8.frozen? ⟨RES, 0, none⟩ = false := ab HW.out.res 0
        have c1 : w8.cell? ⟨RES, 1, none⟩ = some (.string ⟨#[]⟩) := aa HW.out.res (j := 1) rfl
        have f1 : w8.frozen? ⟨RES, 1, none⟩ = false := ab HW.out.res 1
        have c2 : w8.cell? ⟨RES, 2, none⟩ = some (.slice none 0 0) := aa HW.out.res (j := 2) rfl
        have f2 : w8.frozen? ⟨RES, 2, none⟩ = false := ab HW.out.res 2
        have c3 : w8.cell? ⟨RES, 3, none⟩ = some (.slice none 0 0) := aa HW.out.res (j := 3) rfl
        have f3 : w8.frozen? ⟨RES, 3, none⟩ = false := ab HW.out.res 3
        have c4 : w8.cell? ⟨RES, 4, none⟩ = some (.slice none 0 0) := aa HW.out.res (j := 4) rfl
        have f4 : w8.frozen? ⟨RES, 4, none⟩ = false := ab HW.out.res 4
        have c5 : w8.cell? ⟨RES, 5, none⟩ = some (.int .i64 0) := aa HW.out.res (j := 5) rfl
        have f5 : w8.frozen? ⟨RES, 5, none⟩ = false := ab HW.out.res 5
        go_wp2_with fail
        refine bodyPost_ret (v := .agg #[.int .i64 5, .string ⟨#[]⟩, .slice sE nE kE, .slice none 0 0, .slice none 0 0, .int .i64 pl]) (by simp [results, Tryz.results84, go_sem, c0, c1, c2, c3, c4, c5]) rfl ?_
        have hq := HW.out.done HY.out HF.out
        rw [HORD.out.1] at hq
        exact hq
     ·replace HF := zh (HF.out.trans (if_pos hq))
      have HAT := zh (dS rb 0 dK L5 en _ HW.out.rd)
      rw [hq] at HAT
      refine HAT.out.mono ?_
      rintro e we ⟨rfl, rfl⟩
      clear hq HAT
      have b0 : w6.cell? ⟨BR, 0, none⟩ = some (.pointer (some ⟨rb, 0, none⟩)) := aa HW.out.br (j := 0) rfl
      go_wp2_with fail
      clear b0
      have HB := zh (ae (Below.refl w6.heap.size w6) (.cells #[.string ⟨#[59]⟩] 9))
      replace HW := zh (HW.out.below HB.out)
      refine (aU rb w6.heap.size dK L5 en _ HW.out.rd (aw _ _ _ _ _ _ rfl rfl)).mono ?_
      rintro e w7 hp
      rcases hp.cases with ⟨er, p, hm, rfl, ho⟩ | ⟨x7, L7, v, hm, rfl, hv, hr, ho⟩
      ·have HE := zh (HF.out.trans (ay hm))
       have HON := zh (HW.out.on.trans ho)
       clear hp hm ho
       unfold Pan
       go_wp2_with fail
       exact ⟨rfl, PSays.err HE.out HON.out⟩
      ·replace HF := zh (HF.out.trans (aB hm))
       replace HW := zh (HW.out.call HY.out ho hr)
       subst hv
       clear hp hm ho hr HB
       obtain ⟨e0, e1, e2, e3, e4, e5, -⟩ := css HW.out.sb
       have c0 : w7.cell? ⟨RES, 0, none⟩ = some (.int .i64 0) := aa HW.out.res (j := 0) rfl
       have f0 : w7.frozen? ⟨RES, 0, none⟩ = false := ab HW.out.res 0
       have c1 : w7.cell? ⟨RES, 1, none⟩ = some (.string ⟨#[]⟩) := aa HW.out.res (j := 1) rfl
       have f1 : w7.frozen? ⟨RES, 1, none⟩ = false := ab HW.out.res 1
       have c2 : w7.cell? ⟨RES, 2, none⟩ = some (.slice none 0 0) := aa HW.out.res (j := 2) rfl
       have f2 : w7.frozen? ⟨RES, 2, none⟩ = false := ab HW.out.res 2
       have c3 : w7.cell? ⟨RES, 3, none⟩ = some (.slice none 0 0) := aa HW.out.res (j := 3) rfl
       have f3 : w7.frozen? ⟨RES, 3, none⟩ = false := ab HW.out.res 3
       have c4 : w7.cell? ⟨RES, 4, none⟩ = some (.slice none 0 0) := aa HW.out.res (j := 4) rfl
       have f4 : w7.frozen? ⟨RES, 4, none⟩ = false := ab HW.out.res 4
       have c5 : w7.cell? ⟨RES, 5, none⟩ = some (.int .i64 0) := aa HW.out.res (j := 5) rfl
       have f5 : w7.frozen? ⟨RES, 5, none⟩ = false := ab HW.out.res 5
       go_wp2_with fail
       refine bodyPost_ret (v := .agg #[.int .i64 5, .string ⟨#[]⟩, .slice none 0 0, .slice none 0 0, .slice none 0 0, .int .i64 pl]) (by simp [results, Tryz.results84, go_sem, c0, c1, c2, c3, c4, c5]) rfl ?_
       have hq := HW.out.done HY.out HF.out
       rw [HORD.out.1] at hq
       exact hq
   ·replace HF := zh (HF.out.trans (if_pos hq))
    refine (cu rb _ l en _ HW.out.rd hq).mono ?_
    rintro e w4 ⟨rfl, hr, ho⟩
    replace HW := zh (HW.out.call HY.out ho hr)
    clear hr ho hq
    generalize l.tail = L4 at *
    have b0 : w4.cell? ⟨BR, 0, none⟩ = some (.pointer (some ⟨rb, 0, none⟩)) := aa HW.out.br (j := 0) rfl
    go_wp2_with fail
    clear b0
    refine (fd rb L4 en _ HW.out.rd).mono ?_
    rintro e w5 hp
    rcases hp.cases with ⟨er, p, hm, rfl, ho⟩ | ⟨x5, L5, v, hm, rfl, hv, hr, ho⟩
    ·have HE := zh (HF.out.trans (ay hm))
     have HON := zh (HW.out.on.trans ho)
     clear hp hm ho
     unfold Pan
     go_wp2_with fail
     exact ⟨rfl, PSays.err HE.out HON.out⟩
    ·replace HF := zh (HF.out.trans (aB hm))
     replace HW := zh (HW.out.call HY.out ho hr)
     subst hv
     clear hp hm ho hr
     have e0 : w5.cell? ⟨SB, 0, none⟩ = some (.int .i64 0) := aa HW.out.sb (j := 0) rfl
     have g0 : w5.frozen? ⟨SB, 0, none⟩ = false := ab HW.out.sb 0
     have e1 : w5.cell? ⟨SB, 1, none⟩ = some (.string ⟨#[]⟩) := aa HW.out.sb (j := 1) rfl
     have g1 : w5.frozen? ⟨SB, 1, none⟩ = false := ab HW.out.sb 1
     go_upto_region 18 with fail
     clear e0 g0 e1 g1
     replace HW := zh (HW.out.store HY.out 0 (.int .i64 4) rfl HW.out.bo HW.out.el)
     replace HW := zh (HW.out.store HY.out 1 (.string x5) rfl HW.out.bo HW.out.el)
     generalize ((w5.setCell ⟨SB, 0, none⟩ (.int .i64 4)).setCell ⟨SB, 1, none⟩ (.string x5)) = w6 at *
     have b0 : w6.cell? ⟨BR, 0, none⟩ = some (.pointer (some ⟨rb, 0, none⟩)) := aa HW.out.br (j := 0) rfl
     go_wp2_with fail
     clear b0
     have HB := zh (ae (Below.refl w6.heap.size w6) (.cells #[.string ⟨#[61]⟩] 9))
     replace HW := zh (HW.out.below HB.out)
     refine (aU rb w6.heap.size sEq L5 en _ HW.out.rd (aw _ _ _ _ _ _ rfl rfl)).mono ?_
     rintro e w7 hp
     rcases hp.cases with ⟨er, p, hm, rfl, ho⟩ | ⟨x7, L7, v, hm, rfl, hv, hr, ho⟩
     ·have HE := zh (HF.out.trans (ay hm))
      have HON := zh (HW.out.on.trans ho)
      clear hp hm ho
      unfold Pan
      go_wp2_with fail
      exact ⟨rfl, PSays.err HE.out HON.out⟩
     ·replace HF := zh (HF.out.trans (aB hm))
      replace HW := zh (HW.out.call HY.out ho hr)
      subst hv
      clear hp hm ho hr HB
      have b0 : w7.cell? ⟨BR, 0, none⟩ = some (.pointer (some ⟨rb, 0, none⟩)) := aa HW.out.br (j := 0) rfl
      have b1 : w7.cell? ⟨BD, 0, none⟩ = some (.int .i64 d) := aa HW.out.bd (j := 0) rfl
      go_wp2_with fail
      refine (cP rb SB BR BD base d en HD0.out HD1.out E HEE.out HLTS.out HNES.out L7 _ HW.out.rd b0 b1 HW.out.big _ _ _ _ _ _ HW.out.sb _ (by simp) HW.out.ex).mono ?_
      rintro e w8 hp
      rcases hp.cases with ⟨er, p, hm, rfl, ho⟩ | ⟨x8, L8, v, hm, rfl, hv, hr, ho⟩
      ·have HE := zh (HF.out.trans (ay hm))
       have HON := zh (On.of_onS HW.out.on ho (fun i hi => by have := HORD.out; dsimp only; omega))
       clear hp hm ho
       unfold Pan
       go_wp2_with fail
       exact ⟨rfl, PSays.err HE.out HON.out⟩
      ·replace HF := zh (HF.out.trans (aB hm))
       clear b0 b1
       obtain ⟨hv, v8, hs, hg⟩ := hv
       subst hv
       replace HW := zh (HW.out.kid HY.out ho hr hs hg)
       clear hp hm ho hr hs hg
       have b0 : w8.cell? ⟨BR, 0, none⟩ = some (.pointer (some ⟨rb, 0, none⟩)) := aa HW.out.br (j := 0) rfl
       go_wp2_with fail
       clear b0
       have HB := zh (ae (Below.refl w8.heap.size w8) (.cells #[.string ⟨#[116, 111]⟩] 9))
       replace HW := zh (HW.out.below HB.out)
       refine (aU rb w8.heap.size sTo L8 en _ HW.out.rd (aw _ _ _ _ _ _ rfl rfl)).mono ?_
       rintro e w9 hp
       rcases hp.cases with ⟨er, p, hm, rfl, ho⟩ | ⟨x9, L9, v, hm, rfl, hv, hr, ho⟩
       ·have HE := zh (HF.out.trans (ay hm))
        have HON := zh (HW.out.on.trans ho)
        clear hp hm ho
        unfold Pan
        go_wp2_with fail
        exact ⟨rfl, PSays.err HE.out HON.out⟩
       ·replace HF := zh (HF.out.trans (aB hm))
        replace HW := zh (HW.out.call HY.out ho hr)
        subst hv
        clear hp hm ho hr HB
        have b0 : w9.cell? ⟨BR, 0, none⟩ = some (.pointer (some ⟨rb, 0, none⟩)) := aa HW.out.br (j := 0) rfl
        have b1 : w9.cell? ⟨BD, 0, none⟩ = some (.int .i64 d) := aa HW.out.bd (j := 0) rfl
        go_wp2_with fail
        refine (cP rb SB BR BD base d en HD0.out HD1.out E HEE.out HLTS.out HNES.out L9 _ HW.out.rd b0 b1 HW.out.big _ _ _ _ _ _ HW.out.sb _ (by simp) HW.out.ex).mono ?_
        rintro e w10 hp
        rcases hp.cases with ⟨er, p, hm, rfl, ho⟩ | ⟨x10, L10, v, hm, rfl, hv, hr, ho⟩
        ·have HE := zh (HF.out.trans (ay hm))
         have HON := zh (On.of_onS HW.out.on ho (fun i hi => by have := HORD.out; dsimp only; omega))
         clear hp hm ho
         unfold Pan
         go_wp2_with fail
         exact ⟨rfl, PSays.err HE.out HON.out⟩
        ·replace HF := zh (HF.out.trans (aB hm))
         clear b0 b1
         obtain ⟨hv, v10, hs, hg⟩ := hv
         subst hv
         replace HW := zh (HW.out.kid HY.out ho hr hs hg)
         clear hp hm ho hr hs hg
         have b0 : w10.cell? ⟨BR, 0, none⟩ = some (.pointer (some ⟨rb, 0, none⟩)) := aa HW.out.br (j := 0) rfl
         have b1 : w10.cell? ⟨BD, 0, none⟩ = some (.int .i64 d) := aa HW.out.bd (j := 0) rfl
         go_wp2_with fail
         clear b0 b1
         have HBG := zh HW.out.big
         refine (HBB.out L10 _ HW.out.rd).mono ?_
         rintro e w11 hp
         rcases hp.cases with ⟨er, p, hm, rfl, ho⟩ | ⟨x11, L11, v, hm, rfl, hv, hr, ho⟩
         ·have HE := zh (HF.out.trans (ay hm))
          have HON := zh (HW.out.on.trans ho)
          clear hp hm ho
          unfold Pan
          go_wp2_with fail
          exact ⟨rfl, PSays.err HE.out HON.out⟩
         ·replace HF := zh (HF.out.trans (aB hm))
          replace HW := zh (HW.out.call HY.out ho hr)
          obtain ⟨s11, n11, k11, rfl⟩ := RepSts.form hv
          have HBO := zh (RepSts.mono (S' := bA base) hv fun b (hb : _ ≤ b) => Nat.le_trans HBG.out hb)
          clear hp hm ho hr hv HBG
          have e3 : w11.cell? ⟨SB, 3, none⟩ = some (.slice none 0 0) := aa HW.out.sb (j := 3) rfl
          have g3 : w11.frozen? ⟨SB, 3, none⟩ = false := ab HW.out.sb 3
          go_upto_region 23 with fail
          clear e3 g3
          replace HW := zh (HW.out.store HY.out 3 (.slice s11 n11 k11) rfl HBO.out HW.out.el)
          generalize (w11.setCell ⟨SB, 3, none⟩ (.slice s11 n11 k11)) = w12 at *
          obtain ⟨sE, nE, kE, hE⟩ := HW.out.formE
          subst hE
          obtain ⟨e0, e1, e2, e3, e4, e5, -⟩ := css HW.out.sb
          have c0 : w12.cell? ⟨RES, 0, none⟩ = some (.int .i64 0) := aa HW.out.res (j := 0) rfl
          have f0 : w12.frozen? ⟨RES, 0, none⟩ = false := ab HW.out.res 0
          have c1 : w12.cell? ⟨RES, 1, none⟩ = some (.string ⟨#[]⟩) := aa HW.out.res (j := 1) rfl
          have f1 : w12.frozen? ⟨RES, 1, none⟩ = false := ab HW.out.res 1
          have c2 : w12.cell? ⟨RES, 2, none⟩ = some (.slice none 0 0) := aa HW.out.res (j := 2) rfl
          have f2 : w12.frozen? ⟨RES, 2, none⟩ = false := ab HW.out.res 2
          have c3 : w12.cell? ⟨RES, 3, none⟩ = some (.slice none 0 0) := aa HW.out.res (j := 3) rfl
          have f3 : w12.frozen? ⟨RES, 3, none⟩ = false := ab HW.out.res 3
          have c4 : w12.cell? ⟨RES, 4, none⟩ = some (.slice none 0 0) := aa HW.out.res (j := 4) rfl
          have f4 : w12.frozen? ⟨RES, 4, none⟩ = false := ab HW.out.res 4
          have c5 : w12.cell? ⟨RES, 5, none⟩ = some (.int .i64 0) := aa HW.out.res (j := 5) rfl
          have f5 : w12.frozen? ⟨RES, 5, none⟩ = false := ab HW.out.res 5
          go_wp2_with fail
          refine bodyPost_ret (v := .agg #[.int .i64 4, .string x5, .slice sE nE kE, .slice s11 n11 k11, .slice none 0 0, .int .i64 pl]) (by simp [results, Tryz.results84, go_sem, c0, c1, c2, c3, c4, c5]) rfl ?_
          have hq := HW.out.done HY.out HF.out
          rw [HORD.out.1] at hq
          exact hq
  ·replace HF := zh (HF.out.trans (if_pos hq))
   refine (cu rb _ l en _ HW.out.rd hq).mono ?_
   rintro e w3 ⟨rfl, hr, ho⟩
   replace HW := zh (HW.out.call HY.out ho hr)
   clear hr ho hq
   generalize l.tail = L3 at *
   have e0 : w3.cell? ⟨SB, 0, none⟩ = some (.int .i64 0) := aa HW.out.sb (j := 0) rfl
   have g0 : w3.frozen? ⟨SB, 0, none⟩ = false := ab HW.out.sb 0
   go_upto_region 11 with fail
   clear e0 g0
   replace HW := zh (HW.out.store HY.out 0 (.int .i64 3) rfl HW.out.bo HW.out.el)
   generalize (w3.setCell ⟨SB, 0, none⟩ (.int .i64 3)) = w4 at *
   have b0 : w4.cell? ⟨BR, 0, none⟩ = some (.pointer (some ⟨rb, 0, none⟩)) := aa HW.out.br (j := 0) rfl
   have b1 : w4.cell? ⟨BD, 0, none⟩ = some (.int .i64 d) := aa HW.out.bd (j := 0) rfl
   go_wp2_with fail
   refine (cP rb SB BR BD base d en HD0.out HD1.out E HEE.out HLTS.out HNES.out L3 _ HW.out.rd b0 b1 HW.out.big _ _ _ _ _ _ HW.out.sb _ (by simp) HW.out.ex).mono ?_
   rintro e w5 hp
   rcases hp.cases with ⟨er, p, hm, rfl, ho⟩ | ⟨x5, L5, v, hm, rfl, hv, hr, ho⟩
   ·have HE := zh (HF.out.trans (ay hm))
    have HON := zh (On.of_onS HW.out.on ho (fun i hi => by have := HORD.out; dsimp only; omega))
    clear hp hm ho
    unfold Pan
    go_wp2_with fail
    exact ⟨rfl, PSays.err HE.out HON.out⟩
   ·replace HF := zh (HF.out.trans (aB hm))
    clear b0 b1
    obtain ⟨hv, v5, hs, hg⟩ := hv
    subst hv
    replace HW := zh (HW.out.kid HY.out ho hr hs hg)
    clear hp hm ho hr hs hg
    have b0 : w5.cell? ⟨BR, 0, none⟩ = some (.pointer (some ⟨rb, 0, none⟩)) := aa HW.out.br (j := 0) rfl
    have b1 : w5.cell? ⟨BD, 0, none⟩ = some (.int .i64 d) := aa HW.out.bd (j := 0) rfl
    go_wp2_with fail
    clear b0 b1
    have HBG := zh HW.out.big
    refine (HBB.out L5 _ HW.out.rd).mono ?_
    rintro e w6 hp
    rcases hp.cases with ⟨er, p, hm, rfl, ho⟩ | ⟨x6, L6, v, hm, rfl, hv, hr, ho⟩
    ·have HE := zh (HF.out.trans (ay hm))
     have HON := zh (HW.out.on.trans ho)
     clear hp hm ho
     unfold Pan
     go_wp2_with fail
     exact ⟨rfl, PSays.err HE.out HON.out⟩
    ·replace HF := zh (HF.out.trans (aB hm))
     replace HW := zh (HW.out.call HY.out ho hr)
     obtain ⟨s6, n6, k6, rfl⟩ := RepSts.form hv
     have HBO := zh (RepSts.mono (S' := bA base) hv fun b (hb : _ ≤ b) => Nat.le_trans HBG.out hb)
     clear hp hm ho hr hv HBG
     have e3 : w6.cell? ⟨SB, 3, none⟩ = some (.slice none 0 0) := aa HW.out.sb (j := 3) rfl
     have g3 : w6.frozen? ⟨SB, 3, none⟩ = false := ab HW.out.sb 3
     go_upto_region 13 with fail
     clear e3 g3
     replace HW := zh (HW.out.store HY.out 3 (.slice s6 n6 k6) rfl HBO.out HW.out.el)
     generalize (w6.setCell ⟨SB, 3, none⟩ (.slice s6 n6 k6)) = w7 at *
     have b0 : w7.cell? ⟨BR, 0, none⟩ = some (.pointer (some ⟨rb, 0, none⟩)) := aa HW.out.br (j := 0) rfl
     go_wp2_with fail
     clear b0
     cases hq : atS L6 0 q8
     ·replace HF := zh (HF.out.trans (if_neg (by rw [hq]; decide)))
      refine (b7 rb _ L6 en _ HW.out.rd hq).mono ?_
      rintro e w8 ⟨rfl, hr, ho⟩
      replace HW := zh (HW.out.call HY.out ho hr)
      clear hr ho hq
      obtain ⟨sE, nE, kE, hE⟩ := HW.out.formE
      subst hE
      obtain ⟨e0, e1, e2, e3, e4, e5, -⟩ := css HW.out.sb
      have c0 : w8.cell? ⟨RES, 0, none⟩ = some (.int .i64 0) := aa HW.out.res (j := 0) rfl
      have f0 : w8.frozen? ⟨RES, 0, none⟩ = false := ab HW.out.res 0
      have c1 : w8.cell? ⟨RES, 1, none⟩ = some (.string ⟨#[]⟩) := aa HW.out.res (j := 1) rfl
      have f1 : w8.frozen? ⟨RES, 1, none⟩ = false := ab HW.out.res 1
      have c2 : w8.cell? ⟨RES, 2, none⟩ = some (.slice none 0 0) := aa HW.out.res (j := 2) rfl
      have f2 : w8.frozen? ⟨RES, 2, none⟩ = false := ab HW.out.res 2
      have c3 : w8.cell? ⟨RES, 3, none⟩ = some (.slice none 0 0) := aa HW.out.res (j := 3) rfl
      have f3 : w8.frozen? ⟨RES, 3, none⟩ = false := ab HW.out.res 3
      have c4 : w8.cell? ⟨RES, 4, none⟩ = some (.slice none 0 0) := aa HW.out.res (j := 4) rfl
      have f4 : w8.frozen? ⟨RES, 4, none⟩ = false := ab HW.out.res 4
      have c5 : w8.cell? ⟨RES, 5, none⟩ = some (.int .i64 0) := aa HW.out.res (j := 5) rfl
      have f5 : w8.frozen? ⟨RES, 5, none⟩ = false := ab HW.out.res 5
      go_wp2_with fail
      refine bodyPost_ret (v := .agg #[.int .i64 3, .string ⟨#[]⟩, .slice sE nE kE, .slice s6 n6 k6, .slice none 0 0, .int .i64 pl]) (by simp [results, Tryz.results84, go_sem, c0, c1, c2, c3, c4, c5]) rfl ?_
      have hq := HW.out.done HY.out HF.out
      rw [HORD.out.1] at hq
      exact hq
     ·replace HF := zh (HF.out.trans (if_pos hq))
      refine (cu rb _ L6 en _ HW.out.rd hq).mono ?_
      rintro e w8 ⟨rfl, hr, ho⟩
      replace HW := zh (HW.out.call HY.out ho hr)
      clear hr ho hq
      generalize L6.tail = L8 at *
      have b0 : w8.cell? ⟨BR, 0, none⟩ = some (.pointer (some ⟨rb, 0, none⟩)) := aa HW.out.br (j := 0) rfl
      have b1 : w8.cell? ⟨BD, 0, none⟩ = some (.int .i64 d) := aa HW.out.bd (j := 0) rfl
      go_wp2_with fail
      clear b0 b1
      have HBG := zh HW.out.big
      refine (HBB.out L8 _ HW.out.rd).mono ?_
      rintro e w9 hp
      rcases hp.cases with ⟨er, p, hm, rfl, ho⟩ | ⟨x9, L9, v, hm, rfl, hv, hr, ho⟩
      ·have HE := zh (HF.out.trans (ay hm))
       have HON := zh (HW.out.on.trans ho)
       clear hp hm ho
       unfold Pan
       go_wp2_with fail
       exact ⟨rfl, PSays.err HE.out HON.out⟩
      ·replace HF := zh (HF.out.trans (aB hm))
       replace HW := zh (HW.out.call HY.out ho hr)
       obtain ⟨s9, n9, k9, rfl⟩ := RepSts.form hv
       have HBO := zh (RepSts.mono (S' := bA base) hv fun b (hb : _ ≤ b) => Nat.le_trans HBG.out hb)
       clear hp hm ho hr hv HBG
       have e4 : w9.cell? ⟨SB, 4, none⟩ = some (.slice none 0 0) := aa HW.out.sb (j := 4) rfl
       have g4 : w9.frozen? ⟨SB, 4, none⟩ = false := ab HW.out.sb 4
       go_upto_region 15 with fail
       clear e4 g4
       replace HW := zh (HW.out.store HY.out 4 (.slice s9 n9 k9) rfl HW.out.bo HBO.out)
       generalize (w9.setCell ⟨SB, 4, none⟩ (.slice s9 n9 k9)) = w10 at *
       obtain ⟨sE, nE, kE, hE⟩ := HW.out.formE
       subst hE
       obtain ⟨e0, e1, e2, e3, e4, e5, -⟩ := css HW.out.sb
       have c0 : w10.cell? ⟨RES, 0, none⟩ = some (.int .i64 0) := aa HW.out.res (j := 0) rfl
       have f0 : w10.frozen? ⟨RES, 0, none⟩ = false := ab HW.out.res 0
       have c1 : w10.cell? ⟨RES, 1, none⟩ = some (.string ⟨#[]⟩) := aa HW.out.res (j := 1) rfl
       have f1 : w10.frozen? ⟨RES, 1, none⟩ = false := ab HW.out.res 1
       have c2 : w10.cell? ⟨RES, 2, none⟩ = some (.slice none 0 0) := aa HW.out.res (j := 2) rfl
       have f2 : w10.frozen? ⟨RES, 2, none⟩ = false := ab HW.out.res 2
       have c3 : w10.cell? ⟨RES, 3, none⟩ = some (.slice none 0 0) := aa HW.out.res (j := 3) rfl
       have f3 : w10.frozen? ⟨RES, 3, none⟩ = false := ab HW.out.res 3
       have c4 : w10.cell? ⟨RES, 4, none⟩ = some (.slice none 0 0) := aa HW.out.res (j := 4) rfl
       have f4 : w10.frozen? ⟨RES, 4, none⟩ = false := ab HW.out.res 4
       have c5 : w10.cell? ⟨RES, 5, none⟩ = some (.int .i64 0) := aa HW.out.res (j := 5) rfl
       have f5 : w10.frozen? ⟨RES, 5, none⟩ = false := ab HW.out.res 5
       go_wp2_with fail
       refine bodyPost_ret (v := .agg #[.int .i64 3, .string ⟨#[]⟩, .slice sE nE kE, .slice s6 n6 k6, .slice s9 n9 k9, .int .i64 pl]) (by simp [results, Tryz.results84, go_sem, c0, c1, c2, c3, c4, c5]) rfl ?_
       have hq := HW.out.done HY.out HF.out
       rw [HORD.out.1] at hq
       exact hq
 ·replace HF := zh (HF.out.trans (if_pos hq))
  refine (cu rb _ l en _ HW.out.rd hq).mono ?_
  rintro e w2 ⟨rfl, hr, ho⟩
  replace HW := zh (HW.out.call HY.out ho hr)
  clear hr ho hq
  generalize l.tail = L2 at *
  have b0 : w2.cell? ⟨BR, 0, none⟩ = some (.pointer (some ⟨rb, 0, none⟩)) := aa HW.out.br (j := 0) rfl
  go_wp2_with fail
  clear b0
  refine (fd rb L2 en _ HW.out.rd).mono ?_
  rintro e w3 hp
  rcases hp.cases with ⟨er, p, hm, rfl, ho⟩ | ⟨x3, L3, v, hm, rfl, hv, hr, ho⟩
  ·have HE := zh (HF.out.trans (ay hm))
   have HON := zh (HW.out.on.trans ho)
   clear hp hm ho
   unfold Pan
   go_wp2_with fail
   exact ⟨rfl, PSays.err HE.out HON.out⟩
  ·replace HF := zh (HF.out.trans (aB hm))
   replace HW := zh (HW.out.call HY.out ho hr)
   subst hv
   clear hp hm ho hr
   have e0 : w3.cell? ⟨SB, 0, none⟩ = some (.int .i64 0) := aa HW.out.sb (j := 0) rfl
   have g0 : w3.frozen? ⟨SB, 0, none⟩ = false := ab HW.out.sb 0
   have e1 : w3.cell? ⟨SB, 1, none⟩ = some (.string ⟨#[]⟩) := aa HW.out.sb (j := 1) rfl
   have g1 : w3.frozen? ⟨SB, 1, none⟩ = false := ab HW.out.sb 1
   go_upto_region 7 with fail
   clear e0 g0 e1 g1
   replace HW := zh (HW.out.store HY.out 0 (.int .i64 1) rfl HW.out.bo HW.out.el)
   replace HW := zh (HW.out.store HY.out 1 (.string x3) rfl HW.out.bo HW.out.el)
   generalize ((w3.setCell ⟨SB, 0, none⟩ (.int .i64 1)).setCell ⟨SB, 1, none⟩ (.string x3)) = w4 at *
   have b0 : w4.cell? ⟨BR, 0, none⟩ = some (.pointer (some ⟨rb, 0, none⟩)) := aa HW.out.br (j := 0) rfl
   go_wp2_with fail
   clear b0
   have HB := zh (ae (Below.refl w4.heap.size w4) (.cells #[.string ⟨#[61]⟩] 9))
   replace HW := zh (HW.out.below HB.out)
   refine (aU rb w4.heap.size sEq L3 en _ HW.out.rd (aw _ _ _ _ _ _ rfl rfl)).mono ?_
   rintro e w5 hp
   rcases hp.cases with ⟨er, p, hm, rfl, ho⟩ | ⟨x5, L5, v, hm, rfl, hv, hr, ho⟩
   ·have HE := zh (HF.out.trans (ay hm))
    have HON := zh (HW.out.on.trans ho)
    clear hp hm ho
    unfold Pan
    go_wp2_with fail
    exact ⟨rfl, PSays.err HE.out HON.out⟩
   ·replace HF := zh (HF.out.trans (aB hm))
    replace HW := zh (HW.out.call HY.out ho hr)
    subst hv
    clear hp hm ho hr HB
    have b0 : w5.cell? ⟨BR, 0, none⟩ = some (.pointer (some ⟨rb, 0, none⟩)) := aa HW.out.br (j := 0) rfl
    have b1 : w5.cell? ⟨BD, 0, none⟩ = some (.int .i64 d) := aa HW.out.bd (j := 0) rfl
    go_wp2_with fail
    refine (cP rb SB BR BD base d en HD0.out HD1.out E HEE.out HLTS.out HNES.out L5 _ HW.out.rd b0 b1 HW.out.big _ _ _ _ _ _ HW.out.sb _ (by simp) HW.out.ex).mono ?_
    rintro e w6 hp
    rcases hp.cases with ⟨er, p, hm, rfl, ho⟩ | ⟨x6, L6, v, hm, rfl, hv, hr, ho⟩
    ·have HE := zh (HF.out.trans (ay hm))
     have HON := zh (On.of_onS HW.out.on ho (fun i hi => by have := HORD.out; dsimp only; omega))
     clear hp hm ho
     unfold Pan
     go_wp2_with fail
     exact ⟨rfl, PSays.err HE.out HON.out⟩
    ·replace HF := zh (HF.out.trans (aB hm))
     clear b0 b1
     obtain ⟨hv, v6, hs, hg⟩ := hv
     subst hv
     replace HW := zh (HW.out.kid HY.out ho hr hs hg)
     clear hp hm ho hr hs hg
     have b0 : w6.cell? ⟨BR, 0, none⟩ = some (.pointer (some ⟨rb, 0, none⟩)) := aa HW.out.br (j := 0) rfl
     go_wp2_with fail
     clear b0
     have HB := zh (ae (Below.refl w6.heap.size w6) (.cells #[.string ⟨#[59]⟩] 9))
     replace HW := zh (HW.out.below HB.out)
     refine (aU rb w6.heap.size dK L6 en _ HW.out.rd (aw _ _ _ _ _ _ rfl rfl)).mono ?_
     rintro e w7 hp
     rcases hp.cases with ⟨er, p, hm, rfl, ho⟩ | ⟨x7, L7, v, hm, rfl, hv, hr, ho⟩
     ·have HE := zh (HF.out.trans (ay hm))
      have HON := zh (HW.out.on.trans ho)
      clear hp hm ho
      unfold Pan
      go_wp2_with fail
      exact ⟨rfl, PSays.err HE.out HON.out⟩
     ·replace HF := zh (HF.out.trans (aB hm))
      replace HW := zh (HW.out.call HY.out ho hr)
      subst hv
      clear hp hm ho hr HB
      obtain ⟨sE, nE, kE, hE⟩ := HW.out.formE
      subst hE
      obtain ⟨e0, e1, e2, e3, e4, e5, -⟩ := css HW.out.sb
      have c0 : w7.cell? ⟨RES, 0, none⟩ = some (.int .i64 0) := aa HW.out.res (j := 0) rfl
      have f0 : w7.frozen? ⟨RES, 0, none⟩ = false := ab HW.out.res 0
      have c1 : w7.cell? ⟨RES, 1, none⟩ = some (.string ⟨#[]⟩) := aa HW.out.res (j := 1) rfl
      have f1 : w7.frozen? ⟨RES, 1, none⟩ = false := ab HW.out.res 1
      have c2 : w7.cell? ⟨RES, 2, none⟩ = some (.slice none 0 0) := aa HW.out.res (j := 2) rfl
      have f2 : w7.frozen? ⟨RES, 2, none⟩ = false := ab HW.out.res 2
      have c3 : w7.cell? ⟨RES, 3, none⟩ = some (.slice none 0 0) := aa HW.out.res (j := 3) rfl
      have f3 : w7.frozen? ⟨RES, 3, none⟩ = false := ab HW.out.res 3
      have c4 : w7.cell? ⟨RES, 4, none⟩ = some (.slice none 0 0) := aa HW.out.res (j := 4) rfl
      have f4 : w7.frozen? ⟨RES, 4, none⟩ = false := ab HW.out.res 4
      have c5 : w7.cell? ⟨RES, 5, none⟩ = some (.int .i64 0) := aa HW.out.res (j := 5) rfl
      have f5 : w7.frozen? ⟨RES, 5, none⟩ = false := ab HW.out.res 5
      go_wp2_with fail
      refine bodyPost_ret (v := .agg #[.int .i64 1, .string x3, .slice sE nE kE, .slice none 0 0, .slice none 0 0, .int .i64 pl]) (by simp [results, Tryz.results84, go_sem, c0, c1, c2, c3, c4, c5]) rfl ?_
      have hq := HW.out.done HY.out HF.out
      rw [HORD.out.1] at hq
      exact hq
end
end Go.Proofs.YtjblihabklemfaaGreatDoor
