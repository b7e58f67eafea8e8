/-
  The machine's loop: a rule.
-/
import Derived.Test.YtmdceokmpjcllaaGreatDoorVmU
import Derived.Deep.LoopGhost
namespace Go.Proofs.YtmdceokmpjcllaaGreatDoor
open Go.RowKit
attribute [local go_sem ↓] Go.wp_at_zero Go.wp_at_succ

/-- how often an instruction without gas was done, behind this one -/
def freeOf (op a n : Int) : Int := if op = 1 ∧ 0 < a then 0 else n + 1
/-- an instruction, as it lies at a place of a function's list -/
structure InsAt (w : World) (f : Fr) (op a : Int) : Prop where
  at' : ∃ p, f.pc = Int.ofNat p ∧ ∃ gb off n cap, f.c4 = .slice (some ⟨gb, off, none⟩) n cap ∧ p < n ∧ n < 100000 ∧ w.cell? ⟨gb, off + p * 2, none⟩ = some (.int .i64 op) ∧ w.cell? ⟨gb, off + p * 2 + 1, none⟩ = some (.int .i64 a)
/-- what a step must come to -/
def StepTo (base X : Nat) (w0 : World) (Inv : Nat → Mac → Prop) (Q : Int → Mac → Prop) (g : Nat) (s1 : Mac) (f : Fr) (op a : Int) : Prop :=
  ∀ w, MacAt base w X s1 → Below base w0 w → Calls Tryz.prog 44 #[.pointer (some ⟨X, 0, none⟩), .pointer (some ⟨f.blk, 0, none⟩), .agg #[.int .i64 op, .int .i64 a]] w fun e w' => ∃ (t : Int) (s' : Mac), e = .returned (.int .i64 t) ∧ MacAt base w' X s' ∧ Below base w w' ∧ (t ≠ 0 → Q t s') ∧ (t = 0 → ∃ g', g' < g ∧ Inv g' s')

theorem MacAt.pcTo {base X : Nat} {w : World} {s : Mac} {f : Fr} {r : List Fr} (h : MacAt base w X s) (hs : s.frs = f :: r) (n : Int) : MacAt base (w.setCell ⟨f.blk, 5, none⟩ (.int .i64 n)) X { s with frs := { f with pc := n } :: r } ∧ Below base w (w.setCell ⟨f.blk, 5, none⟩ (.int .i64 n)) :=
  h.goes hs (f' := { f with pc := n }) ⟨(h.top_base hs).1.setPc n, (OnS.refl _ w).set (.inl rfl) 5 _, fun _ hk => .inl hk⟩ rfl
set_option maxRecDepth 100000 in
set_option maxHeartbeats 8000000 in
theorem runs_rule (base X : Nat) (w0 : World) (Inv : Nat → Mac → Prop) (Q : Int → Mac → Prop) (g0 : Nat) (s0 : Mac) (w : World) (h : MacAt base w X s0) (hb : Below base w0 w) (h0 : Inv g0 s0)
    (hend : ∀ g s, Inv g s → s.frs = [] → Q 0 s)
    (hlen : ∀ g s, Inv g s → s.frs.length ≤ 16 ∧ 0 ≤ s.free ∧ s.free < 65536)
    (hins : ∀ g s f r, Inv g s → s.frs = f :: r → ∃ op a, InsAt w0 f op a ∧ (∀ (off gb n cap : Nat), f.c4 = .slice (some ⟨gb, off, none⟩) n cap → gb < base) ∧
      (freeOf op a s.free = 65536 → Q 1 { s with free := 65536, U := s.L }) ∧
      (freeOf op a s.free ≠ 65536 → StepTo base X w0 Inv Q g { s with free := freeOf op a s.free, frs := { f with pc := f.pc + 1 } :: r } f op a)) :
    Calls Tryz.prog 29 #[.pointer (some ⟨X, 0, none⟩)] w fun e w' => ∃ (t : Int) (s' : Mac), e = .returned (.int .i64 t) ∧ MacAt base w' X s' ∧ Below base w w' ∧ Q t s' := by
  have HE := Lib.hid hend
  have HL := Lib.hid hlen
  have HI := Lib.hid hins
  have H0 := Lib.hid h
  have HB := Lib.hid hb
  have HX := Lib.hid h.lt
  clear hend hlen hins hb h
  go_enter Tryz.func29, Tryz.ntmps29
  go_wp2_with fail
  go_loopg [] g0 (fun g W => ∃ s, Inv g s ∧ MacAt base W X s ∧ Below base w W)
  case atStart => exact ⟨s0, h0, H0.out, Below.refl _ _⟩
  case round =>
    obtain ⟨s, hinv, hm, hb⟩ := hrel
    have HM := Lib.hid hm
    have HBW0 := Lib.hid (HB.out.trans hb)
    have HBR := Lib.hid hb
    have HINV := Lib.hid hinv
    cases hfr : s.frs with
    | nil =>
      have HQ := Lib.hid (HE.out _ _ hinv hfr)
      obtain ⟨p, cap, hv⟩ := own_slice hm.own
      have q6 := hm.c6
      rw [hv, hfr] at q6
      clear hm hb hinv hfr hv
      go_wp2_with fail
      go_ret
      exact ⟨0, s, rfl, HM.out, HBR.out, HQ.out⟩
    | cons f r =>
      obtain ⟨op, a, hia, hgb, hq1, hst⟩ := HI.out _ _ f r hinv hfr
      obtain ⟨hl16, hf0, hf1⟩ := HL.out _ _ hinv
      have HFR := Lib.hid hfr
      have HQ1 := Lib.hid hq1
      have HSTEP := Lib.hid hst
      clear hq1 hst hinv
      obtain ⟨pp, hpc, gb, off, n, cap, hc4, hpn, hn, i0, i1⟩ := hia
      have hgbb := hgb _ _ _ _ hc4
      obtain ⟨hft, hfbase⟩ := hm.top_base hfr
      obtain ⟨fg, fcap, hfv, hfgb, hfgl⟩ := hm.own.form (by rw [hfr]; simp)
      have q6 := hm.c6
      rw [hfv, hfr] at q6
      have q5 := hm.c5
      have z5 := hm.fz 5
      have q3 := hm.c3
      have q4 := hm.c4
      have z4 := hm.fz 4
      have qf := hm.own.cells (g := fg) (by rw [hfv]; rfl) r.length (.pointer (some ⟨f.blk, 0, none⟩)) (by rw [hfr, frsV_cons, List.getElem?_append_right (by rw [frsV_len]; exact Nat.le_refl _), frsV_len, Nat.sub_self]; rfl)
      rw [Go.WideShapes.add_plain, Nat.zero_add] at qf
      have qc4 := hft.c4
      rw [hc4] at qc4
      have qpc := hft.pc
      rw [hpc] at qpc
      have j0 := (HBW0.out.cell (p := ⟨gb, off + pp * 2, none⟩) hgbb).trans i0
      have j1 := (HBW0.out.cell (p := ⟨gb, off + pp * 2 + 1, none⟩) hgbb).trans i1
      have HPC := Lib.hid hpc
      have hX := hm.lt
      have hfl := hft.lt
      have hgw := lt_of_cell j0
      have hXf : X ≠ f.blk := fun e => hm.ty.ne hft.ty (by decide) e
      rw [hfr] at hl16
      dsimp only [List.length_cons] at hl16 q6
      generalize hR : r.length = R at *
      have k1 : IntKind.i64.wrap (((R + 1 : Nat) : Int) - 1) = (R : Int) := by rw [IntWalk.i64_in _ (by omega)]; omega
      have k2 : IntKind.i64.wrap (R : Int) = (R : Int) := IntWalk.i64_in _ (by omega)
      have k3 : (0 : Int) ≤ (R : Int) := by omega
      have k4 : (R : Int) < (R : Int) + 1 := by omega
      have k5 : IntKind.i64.wrap (s.free + 1) = s.free + 1 := IntWalk.i64_in _ (by omega)
      have k6 : IntKind.i64.wrap ((pp : Int) + 1) = (pp : Int) + 1 := IntWalk.i64_in _ (by omega)
      have k7 : (0 : Int) ≤ (pp : Int) := by omega
      have k8 : (pp : Int) < (n : Int) := by omega
      clear hm hb hfr hft hfv hc4 hpc i0 i1 hgb hfgb hfgl
      go_upto_region 2 with fail
      go_region
      go_upto_region 3 with fail
      go_region
      have HBW1 : Hid (Below base wr (wr.alloc (.cells #[.int .i64 op, .int .i64 a] 25)).drew.drew) := Lib.hid (((Below.refl base wr).alloc HM.out.base_le _).drew.drew)
      have b0 : (wr.alloc (.cells #[.int .i64 op, .int .i64 a] 25)).drew.drew.cell? ⟨wr.heap.size, 0, none⟩ = some (.int .i64 op) := new_cell wr #[.int .i64 op, .int .i64 a] 25 _ 0 _ rfl rfl
      have b1 : (wr.alloc (.cells #[.int .i64 op, .int .i64 a] 25)).drew.drew.cell? ⟨wr.heap.size, 1, none⟩ = some (.int .i64 a) := new_cell wr #[.int .i64 op, .int .i64 a] 25 _ 1 _ rfl rfl
      have HM1 : Hid (MacAt base (wr.alloc (.cells #[.int .i64 op, .int .i64 a] 25)).drew.drew X s) := Lib.hid (HM.out.later (up_drew (up_drew (up_alloc (Below.refl _ _) _))))
      generalize (wr.alloc (.cells #[.int .i64 op, .int .i64 a] 25)).drew.drew = w1 at *
      generalize hbx : wr.heap.size = bx at *
      have hXb : X ≠ bx := by omega
      have hfb : f.blk ≠ bx := by omega
      have m5 := HM1.out.c5
      have mz5 := HM1.out.fz 5
      have m3 := HM1.out.c3
      have m4 := HM1.out.c4
      have mz4 := HM1.out.fz 4
      have hft := (HM1.out.top_base HFR.out).1
      have mp := hft.pc
      rw [HPC.out] at mp
      obtain ⟨farr, hfo⟩ := hft.obj
      have mzp := frozen_of hfo 5
      rw [show f.pc + 1 = (pp : Int) + 1 by rw [HPC.out]; rfl] at HSTEP
      clear q3 q4 z4 q5 z5 q6 qf qc4 qpc j0 j1 hft hfo
      by_cases hc : op = 1 ∧ 0 < a
      · have HST := Lib.hid (HSTEP.out (by unfold freeOf; rw [if_pos hc]; decide))
        unfold freeOf at HST
        rw [if_pos hc] at HST
        obtain ⟨rfl, hpos⟩ := hc
        have HMW := Lib.hid (((HM1.out.setFree (s.free + 1)).setFree 0).pcTo (f := f) (r := r) HFR.out ((pp : Int) + 1))
        have HBT := Lib.hid (((((HBR.out.trans HBW1.out).setCell (p := ⟨X, 5, none⟩) HM1.out.low (.int .i64 (s.free + 1))).setCell (p := ⟨X, 5, none⟩) HM1.out.low (.int .i64 0))).trans HMW.out.2)
        have HBW := Lib.hid (HB.out.trans HBT.out)
        go_wp2_with fail
        refine (HST.out _ HMW.out.1 HBW.out).mono ?_
        rintro e w2 ⟨t, s2, rfl, hm2, hb2, ht, ht0⟩
        have HM2 := Lib.hid hm2
        have HB2 := Lib.hid (HBT.out.trans hb2)
        have HT := Lib.hid ht
        have HT0 := Lib.hid ht0
        clear hm2 hb2 ht ht0
        by_cases hz : t = 0
        · subst hz
          obtain ⟨g2, hg2, hi2⟩ := HT0.out rfl
          clear HT0 HT
          go_wp2_with fail
          go_roundg g2
          case measure => exact hg2
          case rel => exact ⟨s2, hi2, HM2.out, HB2.out⟩
        · go_wp2_with fail
          go_ret
          exact ⟨t, s2, rfl, HM2.out, HB2.out, HT.out hz⟩
      · by_cases hk : s.free + 1 = 65536
        · have HQ := Lib.hid (HQ1.out (by unfold freeOf; rw [if_neg hc]; exact hk))
          have HMU := Lib.hid ((HM1.out.setFree (s.free + 1)).setU s.L)
          have HBU := Lib.hid (((HBR.out.trans HBW1.out).setCell (p := ⟨X, 5, none⟩) HM1.out.low (.int .i64 (s.free + 1))).setCell (p := ⟨X, 4, none⟩) HM1.out.low (.int .i64 s.L))
          by_cases ho : op = 1
          · have hna : ¬ 0 < a := fun e => hc ⟨ho, e⟩
            subst ho
            go_wp2_with fail
            go_ret
            rw [hk] at HMU HBU
            exact ⟨1, rfl, _, HMU.out, HBU.out, HQ.out⟩
          · go_wp2_with fail
            go_ret
            rw [hk] at HMU HBU
            exact ⟨1, rfl, _, HMU.out, HBU.out, HQ.out⟩
        · have HST := Lib.hid (HSTEP.out (by unfold freeOf; rw [if_neg hc]; exact hk))
          unfold freeOf at HST
          rw [if_neg hc] at HST
          have HMW := Lib.hid ((HM1.out.setFree (s.free + 1)).pcTo (f := f) (r := r) HFR.out ((pp : Int) + 1))
          have HBT := Lib.hid ((((HBR.out.trans HBW1.out).setCell (p := ⟨X, 5, none⟩) HM1.out.low (.int .i64 (s.free + 1)))).trans HMW.out.2)
          have HBW := Lib.hid (HB.out.trans HBT.out)
          by_cases ho : op = 1
          · have hna : ¬ 0 < a := fun e => hc ⟨ho, e⟩
            subst ho
            go_wp2_with fail
            refine (HST.out _ HMW.out.1 HBW.out).mono ?_
            rintro e w2 ⟨t, s2, rfl, hm2, hb2, ht, ht0⟩
            have HM2 := Lib.hid hm2
            have HB2 := Lib.hid (HBT.out.trans hb2)
            have HT := Lib.hid ht
            have HT0 := Lib.hid ht0
            clear hm2 hb2 ht ht0
            by_cases hz : t = 0
            · subst hz
              obtain ⟨g2, hg2, hi2⟩ := HT0.out rfl
              clear HT0 HT
              go_wp2_with fail
              go_roundg g2
              case measure => exact hg2
              case rel => exact ⟨s2, hi2, HM2.out, HB2.out⟩
            · go_wp2_with fail
              go_ret
              exact ⟨t, s2, rfl, HM2.out, HB2.out, HT.out hz⟩
          · go_wp2_with fail
            refine (HST.out _ HMW.out.1 HBW.out).mono ?_
            rintro e w2 ⟨t, s2, rfl, hm2, hb2, ht, ht0⟩
            have HM2 := Lib.hid hm2
            have HB2 := Lib.hid (HBT.out.trans hb2)
            have HT := Lib.hid ht
            have HT0 := Lib.hid ht0
            clear hm2 hb2 ht ht0
            by_cases hz : t = 0
            · subst hz
              obtain ⟨g2, hg2, hi2⟩ := HT0.out rfl
              clear HT0 HT
              go_wp2_with fail
              go_roundg g2
              case measure => exact hg2
              case rel => exact ⟨s2, hi2, HM2.out, HB2.out⟩
            · go_wp2_with fail
              go_ret
              exact ⟨t, s2, rfl, HM2.out, HB2.out, HT.out hz⟩
end Go.Proofs.YtmdceokmpjcllaaGreatDoor
