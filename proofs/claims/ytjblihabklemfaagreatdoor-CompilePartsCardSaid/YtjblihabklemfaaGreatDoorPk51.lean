/-
  CompileGas: part 51 of its proof: see the last text.
-/
import Derived.Test.YtjblihabklemfaaGreatDoorPk49
import Derived.Test.YtjblihabklemfaaGreatDoorPk50
import Derived.Test.YtjblihabklemfaaGreatDoorPk47
set_option maxRecDepth 100000
namespace Go.Proofs.YtjblihabklemfaaGreatDoor
section
open Go.RowKit
theorem uR {l : List Fn} {m : Mdl} (h : dB l = .ok m) : gN (cM l) = true := by
 unfold dB at h
 split at h
 ·cases h
 ·split at h
  ·rename_i q; exact q
  ·cases h
theorem vC {S : Nat → Prop} {W : World} {b off cap : Nat} {l : List Fn} (h : RepFns S W (.slice (some ⟨b, off, none⟩) l.length cap) l) (i : Nat) (hi : i < l.length) : RepFns S W (.slice (some ⟨b, off + i * 5, none⟩) 1 (cap - i)) [l.getD i default] := by
 obtain ⟨cs, ⟨s0, c0, e, h1, h2, h3, h4, h5⟩, h6⟩ := h
 injection e with e1 e2 e3
 subst e1
 subst e3
 obtain ⟨b', off', e4, h7, h8, h9⟩ := h4 (by omega)
 injection e4 with e5
 injection e5 with e6 e7
 subst e6
 subst e7
 refine ⟨fun _ => cs i, ⟨_, cap - i, rfl, by show 1 ≤ cap - i; omega, by omega, (fun h => by cases h), fun _ => ⟨b, off + i * 5, rfl, h7, h8, fun k hk j hj => ?_⟩, fun k hk => h5 i hi⟩, fun k hk => ?_⟩
 ·obtain rfl : k = 0 := by simpa using hk
  rw [Nat.zero_mul, Nat.add_zero]
  exact h9 i hi j hj
 ·obtain rfl : k = 0 := by simpa using hk
  exact h6 i hi
theorem vD {W : World} {a : Option Addr} {n c : Nat} {v : Value} {m : Mdl} (h : RepMdl W (.agg #[.slice a n c, v]) m) : RepCds W (.slice a n c) m.codes := by
 obtain ⟨u0, u1, e, h1, _⟩ := h
 have q := congrArg Array.toList (Value.agg.inj e)
 simp only [List.cons.injEq] at q
 rw [q.1]
 exact h1
theorem vI {W : World} {b off cap : Nat} {l : List Cd} {n : Nat} (hn : l.length = n) (h : RepCds W (.slice (some ⟨b, off, none⟩) n cap) l) (i : Nat) (hi : i < n) : RepMdl W (.agg #[.slice (some ⟨b, off + i * 5, none⟩) 1 (cap - i), .slice none 0 0]) ⟨[l.getD i default], []⟩ := by
 subst hn
 obtain ⟨s0, c0, x0, x1, x2, x3, x4, e, h1, h2, h3, h4, h5, h6⟩ := h
 injection e with e1 e2 e3
 subst e1
 subst e3
 obtain ⟨b', off', e4, h7, h8⟩ := h5 (by omega)
 injection e4 with e5
 injection e5 with e6 e7
 subst e6
 subst e7
 unfold lv at h3
 refine ⟨_, _, rfl, ⟨_, cap - i, fun _ => x0 i, fun _ => x1 i, fun _ => x2 i, fun _ => x3 i, fun _ => x4 i, rfl, by unfold big; show 1 ≤ _; omega, by show 1 ≤ cap - i; omega, by unfold lv; omega, (fun h => by cases h), fun _ => ⟨b, off + i * 5, rfl, h7, fun k hk => ?_⟩, fun k hk => ?_⟩, ⟨none, 0, fun _ => undef, rfl, by unfold big; show 0 ≤ _; omega, Nat.le_refl _, by unfold lv; omega, fun _ => rfl, fun h => absurd h (Nat.lt_irrefl 0), fun k hk => absurd hk (Nat.not_lt_zero k)⟩⟩
 ·obtain rfl : k = 0 := by simpa using hk
  rw [Nat.zero_mul, Nat.add_zero]
  exact h8 i hi
 ·obtain rfl : k = 0 := by simpa using hk
  exact h6 i hi
theorem vE {W : World} {a : Option Addr} {n c : Nat} {l : List Cd} (h : RepCds W (.slice a n c) l) : n ≤ c := by
 obtain ⟨_, _, _, _, _, _, _, e, _, h2, _⟩ := h
 injection e with e1 e2 e3
 rw [e2, e3]
 exact h2
theorem uO {x : Int} (h1 : 0 ≤ x) (h2 : x ≤ 1000000) : IntKind.i64.wrap x = x := by
 simp [IntKind.wrap, IntKind.signed, IntKind.bits]
 omega
def uo (l : List Ins) : Prop := (14 : Int) ∉ eO l
theorem vJ {l : List Ins} (h : ∀ k, k < l.length → (l.getD k default).op ≠ 14) : uo l := fun hm => by
 obtain ⟨x, hx, e⟩ := List.mem_map.1 hm
 obtain ⟨k, hk, rfl⟩ := List.mem_iff_getElem.1 hx
 refine h k hk ?_
 rw [List.getD_eq_getElem?_getD, List.getElem?_eq_getElem hk]
 exact e
set_option maxHeartbeats 8000000 in
theorem uz (s0 : Option Addr) (cap : Nat) (s : List UInt8) (w : World) (hs : SrcAt w s0 s) (hl : s.length ≤ 1152921504606846976) (hc : s.length ≤ cap) (hsig : Signs w) :
    Calls Tryz.prog 6 #[.slice s0 s.length cap] w fun e w' => e = .returned (.bool true) ∧ Below w.heap.size w w' := by
 have HH := zh (pF w hsig)
 have HSG := zh hsig
 have HFR : Hid (∀ W, Below w.heap.size w W → Calls Tryz.prog 9 #[.slice s0 s.length cap] W (iw W (cW s))) := zh (fun W hW => kk s0 cap s W (hs.later hW) hl hc)
 have HGD : Hid (∀ l, cW s = .ok l → du l ≤ 2048 ∧ ft l ∧ (bw l).1 = 0) := zh (fun l h => jI h)
 clear hs hsig
 generalize cW s = R at *
 go_enter Tryz.func6, Tryz.ntmps6
 go_wp2_with fail
 refine HH.out.mono ?_
 rintro e w1 ⟨rfl, hb⟩
 have HB := zh hb
 clear hb HH
 go_wp2_with fail
 refine (HFR.out w1 HB.out).mono ?_
 rintro e w2 ⟨hres, hb⟩
 replace HB := zh (HB.out.trans (hb.mono HB.out.size))
 clear hb HFR
 cases R with
 | error q =>
  obtain ⟨er, pos⟩ := q
  obtain ⟨hne, rfl⟩ := hres
  have hne2 : (er != 0) = true := bne_iff_ne.2 hne
  clear hne
  obtain ⟨m0, hm0⟩ := wY
  have HM0 := zh hm0
  clear hm0
  go_upto_region 3 with fail
  have hbx : Below w2.heap.size w2 (w2.alloc (.cells #[.slice none 0 0] 42)) := ae (Below.refl _ _) _
  replace HB := zh (HB.out.trans (hbx.mono HB.out.size))
  have HPB := zh (ah w2 (.cells #[.slice none 0 0] 42) _ rfl)
  clear hbx
  generalize (w2.alloc (.cells #[.slice none 0 0] 42)) = w3 at *
  generalize w2.heap.size = PB at *
  have HCM := zh (gS [] (.slice none 0 0) w3 (RepFns.nil _ _) (HSG.out.below HB.out HSG.out.lt) (by decide) (fun f hf => by cases hf) (fun h => jl (by rw [du]; decide) (by rw [ft]; trivial) h))
  have p0 : w3.cell? ⟨PB, 0, none⟩ = some (.slice none 0 0) := aa HPB.out (j := 0) rfl
  go_wp2_with fail
  refine HCM.out.mono ?_
  rintro e w4 hq
  unfold d9 at hq
  rw [HM0.out] at hq
  obtain ⟨⟨v, rfl, hrm⟩, hb⟩ := hq
  obtain ⟨v0, v1, rfl, ⟨a0, n0, _, _, _, _, _, rfl, _⟩, ⟨a1, n1, _, rfl, _⟩⟩ := hrm w4 (Stays.refl _ _)
  clear p0
  replace HB := zh (HB.out.trans (hb.mono HB.out.size))
  clear hb
  go_wp2_with fail
  go_ret
  exact ⟨rfl, HB.out.trans ((ae (Below.refl _ _) _).mono HB.out.size)⟩
 | ok l =>
  obtain ⟨g1, g2, g3⟩ := HGD.out l rfl
  have HOK := zh g2
  have HG := zh (And.intro g1 (And.intro (fun f hf => Nat.le_trans ((dF g3).2 f hf).2 (by decide) : ∀ f, f ∈ l → f.params.length ≤ 100000) (jl g1 g2 g3)))
  have HLN := zh (dF g3).1
  have HGL := zh (vd g3)
  clear g1 g2 g3 HGD
  obtain ⟨v, rfl, hrep⟩ := hres
  have HREP := zh hrep
  obtain ⟨cs, ⟨s1, c1, rfl, _⟩, _⟩ := hrep
  go_upto_region 3 with fail
  replace HREP := zh (HREP.out.keep (Stays.of_below (ae (Below.refl w2.heap.size w2) (.cells #[.slice s1 l.length c1] 42))))
  have hbx : Below w2.heap.size w2 (w2.alloc (.cells #[.slice s1 l.length c1] 42)) := ae (Below.refl _ _) _
  replace HB := zh (HB.out.trans (hbx.mono HB.out.size))
  have HPB := zh (ah w2 (.cells #[.slice s1 l.length c1] 42) _ rfl)
  clear hbx
  generalize (w2.alloc (.cells #[.slice s1 l.length c1] 42)) = w3 at *
  generalize w2.heap.size = PB at *
  replace HREP := zh HREP.out.low
  have HCM := zh (gS l (.slice s1 l.length c1) w3 HREP.out (HSG.out.below HB.out HSG.out.lt) HG.out.1 HG.out.2.1 (fun _ => HG.out.2.2))
  have p0 : w3.cell? ⟨PB, 0, none⟩ = some (.slice s1 l.length c1) := aa HPB.out (j := 0) rfl
  go_wp2_with fail
  refine HCM.out.mono ?_
  rintro e w4 hq
  clear p0 HCM
  unfold d9 at hq
  cases hK : dB l with
  | error er =>
   rw [hK] at hq
   obtain ⟨rfl, hb⟩ := hq
   replace HB := zh (HB.out.trans (hb.mono HB.out.size))
   have hne2 : (er != 0) = true := bne_iff_ne.2 (vN hK)
   clear hb hK
   go_wp2_with fail
   go_ret
   exact ⟨rfl, HB.out.trans ((ae (Below.refl _ _) _).mono HB.out.size)⟩
  | ok m =>
   rw [hK] at hq
   obtain ⟨⟨v, rfl, hrm⟩, hb⟩ := hq
   have HRT := zh (uR hK)
   obtain ⟨rfl, _⟩ := xm hK
   clear hK
   replace HB := zh (HB.out.trans (hb.mono HB.out.size))
   replace HPB := zh ((hb.block _ (ad HPB.out)).trans HPB.out)
   replace HREP := zh (HREP.out.keep (Stays.of_lt hb))
   have HB4 := zh hb.size
   clear hb
   have HCL : Hid ((cM l).codes.length = l.length) := zh (by have q := fu l l ([], []); show (a8 l l ([], [])).1.length = l.length; simpa using q)
   have hv : ∃ a0 n0 a1 n1, v = .agg #[.slice a0 l.length n0, .slice a1 (cM l).texts.length n1] := by
    obtain ⟨v0, v1, rfl, ⟨a0, n0, _, _, _, _, _, rfl, _⟩, ⟨a1, n1, _, rfl, _⟩⟩ := hrm w4 (Stays.refl _ _)
    exact ⟨a0, n0, a1, n1, by rw [HCL.out]⟩
   obtain ⟨a0, n0, a1, n1, rfl⟩ := hv
   have HTX : Hid (∀ x, x = (cM l).texts.length → x = 0 → (cM l).texts = []) := zh (fun x e h => List.eq_nil_of_length_eq_zero (e ▸ h))
   have HTB : Hid ((cM l).texts.length ≤ 1152921504606846976) := zh (by obtain ⟨_, _, _, _, ⟨_, _, _, _, hb, _⟩⟩ := hrm w4 (Stays.refl _ _); exact hb)
   generalize (cM l).texts.length = tn at *
   replace HTX := zh (HTX.out tn rfl)
   have HRM := zh (hrm _ (Stays.of_below (ae (Below.refl w4.heap.size w4) (.cells #[.slice a0 l.length n0, .slice a1 tn n1] 27))))
   clear hrm
   go_upto_region 4 with fail
   replace HPB := zh (((ae (Below.refl w4.heap.size w4) (.cells #[.slice a0 l.length n0, .slice a1 tn n1] 27)).block _ (ad HPB.out)).trans HPB.out)
   replace HREP := zh (HREP.out.keep (Stays.of_lt ((ae (Below.refl w4.heap.size w4) (.cells #[.slice a0 l.length n0, .slice a1 tn n1] 27)).mono HB4.out)))
   have hbx : Below w4.heap.size w4 (w4.alloc (.cells #[.slice a0 l.length n0, .slice a1 tn n1] 27)) := ae (Below.refl _ _) _
   replace HB := zh (HB.out.trans (hbx.mono HB.out.size))
   have HMB := zh (ah w4 (.cells #[.slice a0 l.length n0, .slice a1 tn n1] 27) _ rfl)
   clear hbx
   generalize (w4.alloc (.cells #[.slice a0 l.length n0, .slice a1 tn n1] 27)) = w5 at *
   have HB3 : Hid (w3.heap.size ≤ w5.heap.size) := zh (Nat.le_trans HB4.out (Nat.le_of_lt (ad HMB.out)))
   generalize w4.heap.size = MB at *
   obtain ⟨u0, u1, hvv, ⟨b0, m0, k0, k1, k2, k3, k4, hv0, _, _, _, _, hrow, hcd⟩, _⟩ := HRM.out
   have e1 : u0 = .slice a0 l.length n0 := by have q := congrArg Array.toList (Value.agg.inj hvv); simp only [List.cons.injEq] at q; exact q.1.symm
   rw [e1] at hv0
   injection hv0 with e2 e3 e4
   clear e3 e4
   subst e2
   rw [HCL.out] at hrow hcd
   have HROW := zh hrow
   have HCD := zh hcd
   have HCS := zh (vD HRM.out)
   clear hvv hrow hcd e1 HRM
   have HMC : Hid (∀ W, Below w5.heap.size w5 W → W.cell? ⟨MB, 0, none⟩ = some (.slice a0 l.length n0) ∧ W.cell? ⟨PB, 0, none⟩ = some (.slice s1 l.length c1)) := zh (fun W hW => ⟨aa ((hW.block _ (ad HMB.out)).trans HMB.out) (j := 0) rfl, aa ((hW.block _ (ad HPB.out)).trans HPB.out) (j := 0) rfl⟩)
   have HNL := zh (And.intro HLN.out HTB.out)
   have hlen : l.length ≤ 9223372036854775807 := by have := HLN.out; omega
   have htl : tn ≤ 9223372036854775807 := by have := HTB.out; omega
   have HMD : Hid (∀ W, Below w5.heap.size w5 W → W.cell? ⟨MB, 1, none⟩ = some (.slice a1 tn n1)) := zh (fun W hW => aa ((hW.block _ (ad HMB.out)).trans HMB.out) (j := 1) rfl)
   obtain ⟨p0, p1⟩ := HMC.out w5 (Below.refl _ _)
   have p2 := HMD.out w5 (Below.refl _ _)
   by_cases ht0 : tn = 0
   ·subst ht0
    have htx := HTX.out rfl
    have HLAW := zh (HGL.out HRT.out htx)
    clear htx HTX HGL HTB
    go_wp2_with fail
    clear p0 p1 p2
    go_loopg [9] l.length (fun g t9 wr => ∃ i : Nat, i + g = l.length ∧ t9 = .int .i64 (i : Int) ∧ Below w5.heap.size w5 wr ∧ Hid (∀ j, j < i → uo ((cM l).codes.getD j default).ins))
    case atStart => exact ⟨0, Nat.zero_add _, rfl, Below.refl _ _, zh (fun j hj => absurd hj (Nat.not_lt_zero j))⟩
    case round =>
     obtain ⟨wo, hwo⟩ : ∃ x, x = wr := ⟨_, rfl⟩
     subst hwo
     obtain ⟨i, hig, rfl, hb, HNC⟩ := hrel
     have HW := zh hb
     clear hb
     obtain ⟨p0, p1⟩ := HMC.out wo HW.out
     have p2 := HMD.out wo HW.out
     by_cases hlt : i < l.length
     ·obtain ⟨cb, coff, ha, hcb, hcell⟩ := HROW.out (by omega)
      subst ha
      obtain ⟨is0, icap, hk4, hbig, _, _, _, hirow, _⟩ := (HCD.out i hlt).ins
      have hc4 := (hcell i hlt).2.2.2.2
      rw [hk4] at hc4
      have HN1 : Hid (uo ((cM l).codes.getD i default).ins → ∀ j, j < i + 1 → uo ((cM l).codes.getD j default).ins) := zh (fun h j hj => by
        by_cases e : j = i
        · subst e; exact h
        · exact HNC.out j (by omega))
      have HN2 : Hid ((∀ k, k < ((cM l).codes.getD i default).ins.length → (((cM l).codes.getD i default).ins.getD k default).op ≠ 14) → uo ((cM l).codes.getD i default).ins) := zh vJ
      unfold big at hbig
      generalize hIL : ((cM l).codes.getD i default).ins = IL at *
      have HIL := zh hIL
      clear hIL
      have HIR := zh hirow
      have hil : IL.length ≤ 9223372036854775807 := by omega
      have HC4 : Hid (∀ W, Below w5.heap.size w5 W → W.cell? ⟨cb, coff + i * 5 + 4, none⟩ = some (.slice is0 IL.length icap)) := zh (fun W hW => (hW.cell (p := ⟨cb, _, none⟩) hcb).trans hc4)
      clear hcell hc4 hirow hk4 HNC
      have x4 := HC4.out wo HW.out
      go_wp2_with fail
      go_loopg [10] IL.length (fun g t10 wr => ∃ k : Nat, k + g = IL.length ∧ t10 = .int .i64 (k : Int) ∧ Below w5.heap.size w5 wr ∧ Hid (∀ j, j < k → (IL.getD j default).op ≠ 14))
      case atStart => exact ⟨0, Nat.zero_add _, rfl, HW.out, zh (fun j hj => absurd hj (Nat.not_lt_zero j))⟩
      case round =>
       clear p0 p1 p2 x4 HW
       obtain ⟨wq, hwq⟩ : ∃ x, x = wr := ⟨_, rfl⟩
       subst hwq
       obtain ⟨k, hkg, rfl, hb, HND⟩ := hrel
       have HW := zh hb
       clear hb
       obtain ⟨p0, p1⟩ := HMC.out wq HW.out
       have x4 := HC4.out wq HW.out
       by_cases hkl : k < IL.length
       ·obtain ⟨ib, ioff, hi0, hib, hicell⟩ := HIR.out (by omega)
        subst hi0
        have y0 := (HW.out.cell (p := ⟨ib, _, none⟩) hib).trans (hicell k hkl).1
        have y1 := (HW.out.cell (p := ⟨ib, _, none⟩) hib).trans (hicell k hkl).2
        dsimp only at y0 y1
        have HNE : Hid ((IL.getD k default).op ≠ 14 → ∀ j, j < k + 1 → (IL.getD j default).op ≠ 14) := zh (fun h j hj => by
          by_cases e : j = k
          · subst e; exact h
          · exact HND.out j (by omega))
        generalize IL.getD k default = x at *
        obtain ⟨xo, xa⟩ := x
        dsimp only at y0 y1 HNE
        clear hicell HND
        by_cases h1 : xo = 14
        ·subst h1
         go_wp2_with fail
         go_ret
         exact ⟨rfl, HB.out.trans (HW.out.mono HB.out.size)⟩
        ·have h1b : (xo == 14) = false := beq_false_of_ne h1
         have HNF := zh (HNE.out h1)
         clear HNE h1
         go_wp2_with fail
         go_roundg (IL.length - k - 1)
         case measure => omega
         case rel => exact ⟨k + 1, by omega, by go_num, HW.out, HNF⟩
       ·obtain rfl : k = IL.length := by omega
        have HNG : Hid (∀ j, j < i + 1 → uo ((cM l).codes.getD j default).ins) := zh (HN1.out (by first | exact HN2.out HND.out | (rw [HIL.out]; exact HN2.out HND.out)))
        clear HND HN1 HN2
        go_wp2_with fail
        go_roundg (l.length - i - 1)
        case measure => omega
        case rel => exact ⟨i + 1, by omega, by go_num, HW.out, HNG⟩
     ·obtain rfl : i = l.length := by omega
      replace HLAW := zh (HLAW.out (fun j hj => HNC.out j hj))
      clear HNC
      go_wp2_with fail
      go_loopg [11] l.length (fun g t11 wr => ∃ i : Nat, i + g = l.length ∧ t11 = .int .i64 (i : Int) ∧ Below w5.heap.size w5 wr)
      case atStart => exact ⟨0, Nat.zero_add _, rfl, HW.out⟩
      case round =>
       clear p0 p1 p2 HW
       obtain ⟨wq, hwq⟩ : ∃ x, x = wr := ⟨_, rfl⟩
       subst hwq
       obtain ⟨i, hig, rfl, hb⟩ := hrel
       have HW := zh hb
       clear hb
       obtain ⟨p0, p1⟩ := HMC.out wq HW.out
       by_cases hlt2 : i < l.length
       ·obtain ⟨fcs, ⟨fs0, fcap, hfv, _, _, _, hfrow, _⟩, _⟩ := HREP.out
        injection hfv with hf1 hf2 hf3
        clear hf2 hf3
        subst hf1
        obtain ⟨fb, foff, hf0, _, hfb, _⟩ := hfrow (by omega)
        subst hf0
        obtain ⟨cb, coff, ha, hcb, _⟩ := HROW.out (by omega)
        subst ha
        have hmem := dd default hlt2
        have HCP : Hid (∀ W, Below w5.heap.size w5 W → Calls Tryz.prog 11 #[.agg #[.slice (some ⟨fb, foff + i * 5, none⟩) 1 (c1 - i)]] W (d9 [l.getD i default] W)) := zh (fun W hW =>
          gS [l.getD i default] _ W ((vC HREP.out i hlt2).keep (Stays.of_lt (hW.mono HB3.out))).low (HSG.out.below (HB.out.trans (hW.mono HB.out.size)) HSG.out.lt)
            (by have h1 := kz hmem; have h2 := HG.out.1; rw [du, du]; omega) (fun f hf => by rw [List.mem_singleton.1 hf]; exact HG.out.2.1 _ hmem)
            (fun h => jl (by have h1 := kz hmem; have h2 := HG.out.1; rw [du, du]; omega) (by rw [ft, ft]; exact ⟨m8 HOK.out _ hmem, trivial⟩) h))
        have HK1 := zh (HLAW.out i hlt2)
        have HC1 := zh (vI HCL.out HCS.out i hlt2)
        generalize l.getD i default = f at *
        generalize (cM l).codes.getD i default = C at *
        clear hfrow hmem
        go_wp2_with fail
        refine (HCP.out wq HW.out).mono ?_
        rintro e w6 hq
        clear p0 p1 HCP
        unfold d9 at hq
        rw [HK1.out] at hq
        obtain ⟨⟨v, rfl, hrm⟩, hb⟩ := hq
        have hv : ∃ oa on ob om, v = .agg #[.slice oa 1 on, .slice ob 0 om] := by
         obtain ⟨v0, v1, rfl, ⟨a0, n0, _, _, _, _, _, rfl, _⟩, ⟨a1, n1, _, rfl, _⟩⟩ := hrm w6 (Stays.refl _ _)
         exact ⟨_, _, _, _, rfl⟩
        obtain ⟨oa, on, ob, om, rfl⟩ := hv
        have HO := zh (hrm _ (Stays.of_below (ae (Below.refl w6.heap.size w6) (.cells #[.slice oa 1 on, .slice ob 0 om] 27))))
        have HW6 := zh (HW.out.trans (hb.mono HW.out.size))
        clear hb hrm
        go_upto_region 18 with fail
        have HW7 : Hid (Below w5.heap.size w5 (w6.alloc (.cells #[.slice oa 1 on, .slice ob 0 om] 27))) := zh (HW6.out.trans ((ae (Below.refl _ _) _).mono HW6.out.size))
        have HOB := zh (ah w6 (.cells #[.slice oa 1 on, .slice ob 0 om] 27) _ rfl)
        generalize (w6.alloc (.cells #[.slice oa 1 on, .slice ob 0 om] 27)) = w7 at *
        generalize w6.heap.size = XB at *
        have HSM := zh (vt _ _ _ w7.drew (HO.out.later (av (Below.refl _ _))) ((HC1.out.later HW7.out).later (av (Below.refl _ _))))
        obtain ⟨p0, p1⟩ := HMC.out w7 HW7.out
        have z0 : w7.cell? ⟨XB, 0, none⟩ = some (.slice oa 1 on) := aa HOB.out (j := 0) rfl
        have z1 : w7.cell? ⟨XB, 1, none⟩ = some (.slice ob 0 om) := aa HOB.out (j := 1) rfl
        go_upto_region 18 with fail
        have HSL : Hid (IntKind.i64.wrap ((i : Int) + 1) = ((i + 1 : Nat) : Int) ∧ (0 ≤ ((i + 1 : Nat) : Int) ∧ ((i + 1 : Nat) : Int) ≤ (n0 : Int)) ∧ i ≤ (((i + 1 : Nat) : Int)).toNat ∧ ¬ n0 = i ∧ (((i + 1 : Nat) : Int)).toNat - i = 1) := zh (by
          have h1 := vE HCS.out
          have h2 := HLN.out
          refine ⟨?_, by omega, by omega, by omega, by omega⟩
          rw [uO (by omega) (by omega)]
          rfl)
        have hs0 : w7.drew.cell? ⟨XB, 0, none⟩ = some (.slice oa 1 on) ∧ w7.drew.cell? ⟨XB, 1, none⟩ = some (.slice ob 0 om) ∧ w7.drew.cell? ⟨MB, 0, none⟩ = some (.slice (some ⟨cb, coff, none⟩) l.length n0) := ⟨z0, z1, p0⟩
        refine wp_region_held (S := (fun w' : World => w'.cell? ⟨XB, 0, none⟩ = some (.slice oa 1 on) ∧ w'.cell? ⟨XB, 1, none⟩ = some (.slice ob 0 om) ∧ w'.cell? ⟨MB, 0, none⟩ = some (.slice (some ⟨cb, coff, none⟩) l.length n0))) (by kernel_rfl) ?_
        refine tkA 0 ?_
        try go_simp
        refine tkA 1 ?_
        try go_simp
        refine tkA 2 ?_
        try go_simp
        refine tkA 3 ?_
        try go_simp
        refine tkA 4 ?_
        try go_simp
        refine tkA 5 ?_
        try go_simp
        refine tkA 6 ?_
        try go_simp
        refine tkA 7 ?_
        try go_simp
        refine tkA 8 ?_
        try go_simp
        refine tk (v := .slice (some ⟨cb, coff + i * 5, none⟩) 1 (n0 - i)) 9 (fun w hSw => ?_) ?_
        ·go_simp
         rw [HSL.out.1, if_pos HSL.out.2.1, if_pos HSL.out.2.2.1, if_neg HSL.out.2.2.2.1, HSL.out.2.2.2.2]
        try go_simp
        refine tkA 10 ?_
        try go_simp
        refine rd1 11 fun K hK => ?_
        go_simp
        go_at_call 12
        refine HSM.out.mono ?_
        rintro e w8 ⟨rfl, hb⟩
        have HB8 : Hid (Below w7.heap.size w7 w8) := zh ((av (Below.refl _ _)).trans hb)
        clear hb
        go_simp
        refine hK.out _ _ ?_ (fun hHeld => ?_)
        ·exact ⟨aa ((HB8.out.block _ (ad HOB.out)).trans HOB.out) (j := 0) rfl, aa ((HB8.out.block _ (ad HOB.out)).trans HOB.out) (j := 1) rfl, (HMC.out w8 (HW7.out.trans (HB8.out.mono HW7.out.size))).1⟩
        clear hK K
        try go_simp
        refine tkA 12 ?_
        try go_simp
        refine tkA 13 ?_
        try go_simp
        refine wpAnyH_done (by kernel_rfl) ?_ _
        go_wp2_with fail
        go_roundg (l.length - i - 1)
        case measure => omega
        case rel => exact ⟨i + 1, by omega, by go_num, HW7.out.trans (HB8.out.mono HW7.out.size)⟩
       ·obtain rfl : i = l.length := by omega
        go_wp2_with fail
        go_ret
        exact ⟨rfl, HB.out.trans (HW.out.mono HB.out.size)⟩
   ·have ht2 : 0 < tn := Nat.pos_of_ne_zero ht0
    have ht3 : decide ((0 : Int) < (tn : Int)) = true := decide_eq_true (by omega)
    go_wp2_with fail
    go_ret
    exact ⟨rfl, HB.out⟩
end
end Go.Proofs.YtjblihabklemfaaGreatDoor
