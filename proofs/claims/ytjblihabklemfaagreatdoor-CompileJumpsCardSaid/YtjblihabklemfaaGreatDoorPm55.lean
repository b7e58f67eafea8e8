/-
  Compile: part 55 of its proof: see the last text.
-/
import Derived.Test.YtjblihabklemfaaGreatDoorPm52
import Derived.Test.YtjblihabklemfaaGreatDoorPm50
import Derived.Test.YtjblihabklemfaaGreatDoorPm47
set_option maxRecDepth 100000
set_option maxHeartbeats 16000000
namespace Go.Proofs.YtjblihabklemfaaGreatDoor
section
open Go.RowKit
def JOk (m : Mdl) : Prop := (∀ c, c ∈ m.codes → CdIn m.codes.length m.texts.length c) ∧ ∀ i j, i < m.texts.length → j < i → m.texts.getD i [] ≠ m.texts.getD j []
theorem jok {l : List Fn} (h : (bw l).1 = 0) : JOk (cM l) := by
 have q := vc h
 have hl : (cM l).codes.length = l.length := by have q := fu l l ([], []); show (a8 l l ([], [])).1.length = l.length; simpa using q
 unfold JOk
 rw [hl]
 exact q
def tT (c : Cd) (nF tx : Nat) (o : Int) : Int := if o = 15 ∨ o = 16 then c.ins.length else if o = 14 then nF else if o = 5 ∨ o = 6 then c.slots else if o = 4 then tx else 4611686018427387904
theorem vH {c : Cd} {nF tx : Nat} (h : CdIn nF tx c) {x : Ins} (hx : x ∈ c.ins) (h2 : x.op ≠ 2) : 0 ≤ x.a ∧ x.a < tT c nF tx x.op := by
 obtain ⟨h1, h3⟩ := h.1 x hx
 unfold aOk at h1
 unfold tT
 split
 ·rename_i q; rw [if_pos q] at h1; exact ⟨h1.1, h3 q⟩
 rename_i q; rw [if_neg q] at h1
 split
 ·rename_i q; rw [if_pos q] at h1; exact h1
 rename_i q; rw [if_neg q] at h1
 split
 ·rename_i q; rw [if_pos q] at h1; exact h1
 rename_i q; rw [if_neg q] at h1
 split
 ·rename_i q; rw [if_pos q] at h1; exact h1
 rename_i q; rw [if_neg q] at h1
 exact h1.resolve_left h2
theorem vL {l : List Ins} (h : ∃ t, eO l = t ++ [18]) : 0 < l.length ∧ (l.getD (l.length - 1) default).op = 18 := by
 obtain ⟨t, e⟩ := h
 have hl : l.length = t.length + 1 := by
  have := congrArg List.length e
  unfold eO at this
  simpa using this
 refine ⟨by omega, ?_⟩
 have q := congrArg (fun z => z[t.length]?) e
 unfold eO at q
 simp only [List.getElem?_map, List.getElem?_append_right (Nat.le_refl _), Nat.sub_self, List.getElem?_cons_zero, Option.map_eq_some_iff] at q
 obtain ⟨x, hx, ho⟩ := q
 rw [show l.length - 1 = t.length by omega, List.getD_eq_getElem?_getD, hx]
 exact ho
theorem vy : ∀ (x y : List Int), (∀ i, 0 ≤ x.getD i 0 ∧ x.getD i 0 ≤ 255) → (∀ i, 0 ≤ y.getD i 0 ∧ y.getD i 0 ≤ 255) → strOfNums x = strOfNums y → x = y
 | x, y, hx, hy, h => by
  have q := congrArg ByteArray.data h
  unfold strOfNums at q
  have q := congrArg Array.toList q
  change x.map (fun n => UInt8.ofNat n.toNat) = y.map (fun n => UInt8.ofNat n.toNat) at q
  have key : ∀ (x y : List Int), (∀ i, 0 ≤ x.getD i 0 ∧ x.getD i 0 ≤ 255) → (∀ i, 0 ≤ y.getD i 0 ∧ y.getD i 0 ≤ 255) → x.map (fun n => UInt8.ofNat n.toNat) = y.map (fun n => UInt8.ofNat n.toNat) → x = y := fun x => by
   induction x with
   | nil =>
    intro y _ _ h
    cases y with
    | nil => rfl
    | cons _ _ => cases h
   | cons u x ih =>
    intro y hx hy h
    cases y with
    | nil => cases h
    | cons v y =>
     simp only [List.map_cons, List.cons.injEq] at h
     have h0 := hx 0
     have h1 := hy 0
     simp only [List.getD_cons_zero] at h0 h1
     have e := congrArg UInt8.toNat h.1
     simp only [UInt8.toNat_ofNat'] at e
     rw [ih y (fun i => by have := hx (i + 1); simpa using this) (fun i => by have := hy (i + 1); simpa using this) h.2, show u = v by omega]
  exact key x y hx hy q
theorem uZ (s0 : Option Addr) (cap : Nat) (s : List UInt8) (w : World) (hs : SrcAt w s0 s) (hl : s.length ≤ 1152921504606846976) (hc : s.length ≤ cap) (hsig : Signs w) :
    Calls Tryz.prog 3 #[.slice s0 s.length cap] w fun e w' => e = .returned (.bool true) ∧ Below w.heap.size w w' := by
 have HH := zh (pF w hsig)
 have HBD : Hid (∀ W, Below w.heap.size w W → Calls Tryz.prog 8 #[.slice s0 s.length cap] W (eS s W)) := zh (fun W hW => oH s0 cap s W (hs.later hW) hl hc (hsig.below hW hsig.lt))
 have HNN : Hid (∀ er p, jt s = .error (er, p) → er ≠ 0) := zh (fun er p h => vz h)
 have HJ : Hid (∀ m, jt s = .ok m → JOk m) := zh (fun m h => by obtain ⟨l, _, h1, rfl, _⟩ := u7 h; exact jok h1)
 clear hs hsig
 unfold eS at HBD
 generalize jt s = R at *
 go_enter Tryz.func3, Tryz.ntmps3
 go_wp2_with fail
 refine HH.out.mono ?_
 rintro e w1 ⟨rfl, hb⟩
 have HB := zh hb
 clear hb HH
 go_wp2_with fail
 refine (HBD.out w1 HB.out).mono ?_
 rintro e w2 ⟨hres, hb⟩
 replace HB := zh (HB.out.trans (hb.mono HB.out.size))
 clear hb HBD
 cases R with
 | error q =>
  obtain ⟨er, pos⟩ := q
  obtain rfl := hres
  have hne2 : (er != 0) = true := bne_iff_ne.2 (HNN.out er pos rfl)
  clear HNN HJ
  go_upto_region 3 with fail
  have HB2 : Hid (Below w.heap.size w (w2.alloc (.cells #[.slice none 0 0, .slice none 0 0] 27))) := zh (HB.out.trans ((ae (Below.refl _ _) _).mono HB.out.size))
  have HMB := zh (ah w2 (.cells #[.slice none 0 0, .slice none 0 0] 27) _ rfl)
  generalize (w2.alloc (.cells #[.slice none 0 0, .slice none 0 0] 27)) = w3 at *
  generalize w2.heap.size = MB at *
  have p0 : w3.cell? ⟨MB, 0, none⟩ = some (.slice none 0 0) := aa HMB.out (j := 0) rfl
  go_wp2_with fail
  go_ret
  exact ⟨rfl, HB2.out⟩
 | ok m =>
  replace HJ := zh (HJ.out m rfl)
  clear HNN
  obtain ⟨v, rfl, hrm⟩ := hres
  obtain ⟨v0, v1, rfl, ⟨a0, n0, c0, c1, c2, c3, c4, rfl, hbig, _, _, _, hrow, hcd⟩, ⟨a1, n1, tc, rfl, htbig, _, _, _, htrow, htx⟩⟩ := hrm
  unfold big at hbig htbig
  have HROW := zh hrow
  have HCD := zh hcd
  have HTR := zh htrow
  have HTX : Hid (∀ W, Below w2.heap.size w2 W → ∀ i, i < m.texts.length → ∃ S, S = strOfNums (m.texts.getD i []) ∧ (∀ n, (convert 22 9 (tc i)).run Tryz.prog (W.drewN n) = .ok (.string S) (W.drewN n))) :=
   zh (fun W hW i hi => ⟨_, rfl, fun n => uj ((htx i hi).later (cG hW n))⟩)
  have HTI : Hid (∀ i j, i < m.texts.length → j < i → strOfNums (m.texts.getD i []) ≠ strOfNums (m.texts.getD j [])) := zh (fun i j hi hj e => by
    obtain ⟨_, _, _, _, _, _, _, _, r1⟩ := htx i hi
    obtain ⟨_, _, _, _, _, _, _, _, r2⟩ := htx j (by omega)
    exact HJ.out.2 i j hi hj (vy _ _ r1 r2 e))
  have HC : Hid (∀ c, c ∈ m.codes → CdIn m.codes.length m.texts.length c) := zh HJ.out.1
  clear hrow hcd htrow htx HJ
  obtain ⟨cs, ts⟩ := m
  dsimp only at *
  go_upto_region 3 with fail
  have HB2 : Hid (Below w2.heap.size w2 (w2.alloc (.cells #[.slice a0 cs.length n0, .slice a1 ts.length n1] 27))) := zh (ae (Below.refl _ _) _)
  have HMB := zh (ah w2 (.cells #[.slice a0 cs.length n0, .slice a1 ts.length n1] 27) _ rfl)
  generalize (w2.alloc (.cells #[.slice a0 cs.length n0, .slice a1 ts.length n1] 27)) = w3 at *
  have HMB2 : Hid (w3.heap[w2.heap.size]? = some (.cells #[.slice a0 cs.length n0, .slice a1 ts.length n1] 27)) := HMB
  generalize hMBe : w2.heap.size = MB at HMB2 ⊢
  have HMBL : Hid (MB < w3.heap.size) := zh (ad HMB2.out)
  clear HMB hMBe
  have HMC : Hid (∀ W, Below w3.heap.size w3 W → W.cell? ⟨MB, 0, none⟩ = some (.slice a0 cs.length n0) ∧ W.cell? ⟨MB, 1, none⟩ = some (.slice a1 ts.length n1)) :=
   zh (fun W hW => ⟨aa ((hW.block _ HMBL.out).trans HMB2.out) (j := 0) rfl, aa ((hW.block _ HMBL.out).trans HMB2.out) (j := 1) rfl⟩)
  have hlen : cs.length ≤ 9223372036854775807 := by omega
  have htlen : ts.length ≤ 9223372036854775807 := by omega
  obtain ⟨p0, p1⟩ := HMC.out w3 (Below.refl _ _)
  go_wp2_with fail
  clear p0 p1
  go_loopg [7] cs.length (fun g t7 wr => ∃ i : Nat, i + g = cs.length ∧ t7 = .int .i64 (i : Int) ∧ Below w3.heap.size w3 wr)
  case atStart => exact ⟨0, Nat.zero_add _, rfl, Below.refl _ _⟩
  case round =>
   obtain ⟨wo, hwo⟩ : ∃ x, x = wr := ⟨_, rfl⟩
   subst hwo
   obtain ⟨i, hig, rfl, hb⟩ := hrel
   have HW := zh hb
   clear hb
   obtain ⟨p0, p1⟩ := HMC.out wo HW.out
   by_cases hlt : i < cs.length
   ·have hmem := dd default hlt
    obtain ⟨b0, o0, rfl, hb0, hc0⟩ := HROW.out (by omega)
    have hcd := HCD.out i hlt
    have HCI := zh (HC.out _ hmem)
    obtain ⟨z0, z1, z2, z3, z4⟩ := hc0 i hlt
    generalize c0 i = x0 at *
    generalize c1 i = x1 at *
    generalize c2 i = x2 at *
    generalize c3 i = x3 at *
    generalize c4 i = x4 at *
    generalize cs.getD i default = C at *
    obtain ⟨rfl, _, ⟨ps, pc, rfl, hpb, _⟩, rfl, rfl, ⟨is, ic, rfl, hib, _, _, _, hir, _⟩, _, hsl64⟩ := hcd
    unfold big at hib
    unfold i64 at hsl64
    have HWW := zh (HB2.out.trans (HW.out.mono HB2.out.size))
    replace z0 := (HWW.out.cell (p := ⟨b0, _, none⟩) hb0).trans z0
    replace z1 := (HWW.out.cell (p := ⟨b0, _, none⟩) hb0).trans z1
    replace z2 := (HWW.out.cell (p := ⟨b0, _, none⟩) hb0).trans z2
    replace z3 := (HWW.out.cell (p := ⟨b0, _, none⟩) hb0).trans z3
    replace z4 := (HWW.out.cell (p := ⟨b0, _, none⟩) hb0).trans z4
    have HIR := zh hir
    have HLA := zh (vL HCI.out.2)
    have hil : C.ins.length ≤ 9223372036854775807 := by omega
    have g0 := Nat.lt_of_lt_of_le hb0 HWW.out.size
    have g1 := Nat.lt_of_lt_of_le HMBL.out HW.out.size
    have HI5 : Hid (∀ k, k < C.ins.length → ∃ xo xa, C.ins.getD k default = ⟨xo, xa⟩ ∧ (xo ≠ 2 → 0 ≤ xa ∧ xa < tT C cs.length ts.length xo)) := zh (fun k hk => ⟨_, _, rfl, fun h2 => vH HCI.out (dd default hk) h2⟩)
    clear hir hc0 hb0 HCI hmem
    go_upto_region 9 with fail
    have HB3 : Hid (Below wo.heap.size wo (wo.alloc (.cells #[.string C.name, .slice ps C.params.length pc, .int .i64 C.result, .int .i64 C.slots, .slice is C.ins.length ic] 35))) := zh (ae (Below.refl _ _) _)
    have HP : Hid ((wo.alloc (.cells #[.string C.name, .slice ps C.params.length pc, .int .i64 C.result, .int .i64 C.slots, .slice is C.ins.length ic] 35)).heap[wo.heap.size]? = some (.cells #[.string C.name, .slice ps C.params.length pc, .int .i64 C.result, .int .i64 C.slots, .slice is C.ins.length ic] 35)) := zh (ah _ _ _ rfl)
    clear p0 p1 z0 z1 z2 z3 z4
    generalize (wo.alloc (.cells #[.string C.name, .slice ps C.params.length pc, .int .i64 C.result, .int .i64 C.slots, .slice is C.ins.length ic] 35)) = w4 at *
    have HPC : Hid (∀ W, Below w4.heap.size w4 W → W.cell? ⟨wo.heap.size, 3, none⟩ = some (.int .i64 C.slots) ∧ W.cell? ⟨wo.heap.size, 4, none⟩ = some (.slice is C.ins.length ic)) := zh (fun W hW => ⟨aa ((hW.block _ (ad HP.out)).trans HP.out) (j := 3) rfl, aa ((hW.block _ (ad HP.out)).trans HP.out) (j := 4) rfl⟩)
    have HW4 : Hid (Below w3.heap.size w3 w4) := zh (HW.out.trans (HB3.out.mono HW.out.size))
    have HV4 : Hid (Below w2.heap.size w2 w4) := zh (HB2.out.trans (HW4.out.mono HB2.out.size))
    clear g0 g1
    obtain ⟨z3, z4⟩ := HPC.out w4 (Below.refl _ _)
    go_wp2_with fail
    clear z3 z4
    go_loopg [9] C.ins.length (fun g t9 wr => ∃ k : Nat, k + g = C.ins.length ∧ t9 = .int .i64 (k : Int) ∧ Below w4.heap.size w4 wr)
    case atStart => exact ⟨0, Nat.zero_add _, rfl, Below.refl _ _⟩
    case round =>
     obtain ⟨wq, hwq⟩ : ∃ x, x = wr := ⟨_, rfl⟩
     subst hwq
     obtain ⟨k, hkg, rfl, hb⟩ := hrel
     have HX4 := zh hb
     clear hb
     obtain ⟨z3, z4⟩ := HPC.out wq HX4.out
     obtain ⟨p0, p1⟩ := HMC.out wq (HW4.out.trans (HX4.out.mono HW4.out.size))
     by_cases hk : k < C.ins.length
     ·obtain ⟨ib, ioff, rfl, hib2, hic⟩ := HIR.out (by omega)
      have HV := zh (HV4.out.trans (HX4.out.mono HV4.out.size))
      have y0 := (HV.out.cell (p := ⟨ib, _, none⟩) hib2).trans (hic k hk).1
      have y1 := (HV.out.cell (p := ⟨ib, _, none⟩) hib2).trans (hic k hk).2
      obtain ⟨xo, xa, hx, hxb⟩ := HI5.out k hk
      dsimp only at y0 y1
      rw [hx] at y0 y1
      dsimp only at y0 y1
      have HX := zh hxb
      clear hic hx hxb
      by_cases h15 : xo = 15
      ·subst h15
       have hq : 0 ≤ xa ∧ xa < ((C.ins.length : Nat) : Int) := by have := HX.out (by decide); unfold tT at this; simpa using this
       have e1 : decide (xa < 0) = false := decide_eq_false (by omega)
       have e2 : decide (((C.ins.length : Nat) : Int) ≤ xa) = false := decide_eq_false (by omega)
       clear HX hq
       go_wp2_with fail
       go_roundg (C.ins.length - k - 1)
       case measure => omega
       case rel => exact ⟨k + 1, by omega, by go_num, HX4.out⟩
      by_cases h16 : xo = 16
      ·subst h16
       have hq : 0 ≤ xa ∧ xa < ((C.ins.length : Nat) : Int) := by have := HX.out (by decide); unfold tT at this; simpa using this
       have e1 : decide (xa < 0) = false := decide_eq_false (by omega)
       have e2 : decide (((C.ins.length : Nat) : Int) ≤ xa) = false := decide_eq_false (by omega)
       clear HX hq
       go_wp2_with fail
       go_roundg (C.ins.length - k - 1)
       case measure => omega
       case rel => exact ⟨k + 1, by omega, by go_num, HX4.out⟩
      by_cases h14 : xo = 14
      ·subst h14
       have hq : 0 ≤ xa ∧ xa < ((cs.length : Nat) : Int) := by have := HX.out (by decide); unfold tT at this; simpa using this
       have e1 : decide (xa < 0) = false := decide_eq_false (by omega)
       have e2 : decide (((cs.length : Nat) : Int) ≤ xa) = false := decide_eq_false (by omega)
       clear HX hq
       go_wp2_with fail
       go_roundg (C.ins.length - k - 1)
       case measure => omega
       case rel => exact ⟨k + 1, by omega, by go_num, HX4.out⟩
      by_cases h5 : xo = 5
      ·subst h5
       have hq : 0 ≤ xa ∧ xa < C.slots := by have := HX.out (by decide); unfold tT at this; simpa using this
       have e1 : decide (xa < 0) = false := decide_eq_false (by omega)
       have e2 : decide (C.slots ≤ xa) = false := decide_eq_false (by omega)
       clear HX hq
       go_wp2_with fail
       go_roundg (C.ins.length - k - 1)
       case measure => omega
       case rel => exact ⟨k + 1, by omega, by go_num, HX4.out⟩
      by_cases h6 : xo = 6
      ·subst h6
       have hq : 0 ≤ xa ∧ xa < C.slots := by have := HX.out (by decide); unfold tT at this; simpa using this
       have e1 : decide (xa < 0) = false := decide_eq_false (by omega)
       have e2 : decide (C.slots ≤ xa) = false := decide_eq_false (by omega)
       clear HX hq
       go_wp2_with fail
       go_roundg (C.ins.length - k - 1)
       case measure => omega
       case rel => exact ⟨k + 1, by omega, by go_num, HX4.out⟩
      by_cases h4 : xo = 4
      ·subst h4
       have hq : 0 ≤ xa ∧ xa < ((ts.length : Nat) : Int) := by have := HX.out (by decide); unfold tT at this; simpa using this
       have e1 : decide (xa < 0) = false := decide_eq_false (by omega)
       have e2 : decide (((ts.length : Nat) : Int) ≤ xa) = false := decide_eq_false (by omega)
       clear HX hq
       go_wp2_with fail
       go_roundg (C.ins.length - k - 1)
       case measure => omega
       case rel => exact ⟨k + 1, by omega, by go_num, HX4.out⟩
      have n15 : (xo == 15) = false := beq_false_of_ne h15
      have n16 : (xo == 16) = false := beq_false_of_ne h16
      have n14 : (xo == 14) = false := beq_false_of_ne h14
      have n5 : (xo == 5) = false := beq_false_of_ne h5
      have n6 : (xo == 6) = false := beq_false_of_ne h6
      have n4 : (xo == 4) = false := beq_false_of_ne h4
      by_cases h2 : xo = 2
      ·subst h2
       clear HX
       go_wp2_with fail
       go_roundg (C.ins.length - k - 1)
       case measure => omega
       case rel => exact ⟨k + 1, by omega, by go_num, HX4.out⟩
      have n2 : (xo == 2) = false := beq_false_of_ne h2
      have hq : 0 ≤ xa ∧ xa < 4611686018427387904 := by have := HX.out h2; unfold tT at this; rw [if_neg (by omega), if_neg h14, if_neg (by omega), if_neg h4] at this; exact this
      have e1 : decide (xa < 0) = false := decide_eq_false (by omega)
      have e2 : decide ((4611686018427387904 : Int) ≤ xa) = false := decide_eq_false (by omega)
      clear HX hq h2 h15 h16 h14 h5 h6 h4
      go_wp2_with fail
      go_roundg (C.ins.length - k - 1)
      case measure => omega
      case rel => exact ⟨k + 1, by omega, by go_num, HX4.out⟩
     ·obtain rfl : k = C.ins.length := by omega
      obtain ⟨hl0, hl18⟩ := HLA.out
      obtain ⟨ib, ioff, rfl, hib2, hic⟩ := HIR.out hl0
      have HV := zh (HV4.out.trans (HX4.out.mono HV4.out.size))
      have y0 := (HV.out.cell (p := ⟨ib, _, none⟩) hib2).trans (hic (C.ins.length - 1) (by omega)).1
      dsimp only at y0
      rw [hl18] at y0
      clear hic hl18 HLA HI5 HIR hkg
      obtain ⟨n, hn⟩ : ∃ n, C.ins.length = n + 1 := ⟨C.ins.length - 1, by omega⟩
      have HNL := zh hil
      clear hl0 hil hib
      rw [hn, Nat.add_sub_cancel] at y0
      rw [hn] at z4
      have hn9 : n + 1 ≤ 9223372036854775807 := by rw [← hn]; exact HNL.out
      go_wp2_with fail
      go_roundg (cs.length - i - 1)
      case measure => omega
      case rel => exact ⟨i + 1, by omega, by go_num, HW4.out.trans (HX4.out.mono HW4.out.size)⟩
   ·obtain rfl : i = cs.length := by omega
    go_wp2_with fail
    go_loopg [12] ts.length (fun g t12 wr => ∃ i : Nat, i + g = ts.length ∧ t12 = .int .i64 (i : Int) ∧ Below w3.heap.size w3 wr)
    case atStart => exact ⟨0, Nat.zero_add _, rfl, HW.out⟩
    case round =>
     clear p0 p1 HW
     obtain ⟨wq, hwq⟩ : ∃ x, x = wr := ⟨_, rfl⟩
     subst hwq
     obtain ⟨i, hig, rfl, hb⟩ := hrel
     have HW := zh hb
     clear hb
     obtain ⟨p0, p1⟩ := HMC.out wq HW.out
     by_cases hlt2 : i < ts.length
     ·go_wp2_with fail
      clear p0 p1
      go_loopg [13] i (fun g t13 wr => ∃ k : Nat, k + g = i ∧ t13 = .int .i64 (k : Int) ∧ Below w3.heap.size w3 wr)
      case atStart => exact ⟨0, Nat.zero_add _, rfl, HW.out⟩
      case round =>
       obtain ⟨wz, hwz⟩ : ∃ x, x = wr := ⟨_, rfl⟩
       subst hwz
       obtain ⟨k, hkg, rfl, hb⟩ := hrel
       have HZ := zh hb
       clear hb
       obtain ⟨p0, p1⟩ := HMC.out wz HZ.out
       by_cases hk : k < i
       ·obtain ⟨tb, toff, rfl, htb, htc⟩ := HTR.out (by omega)
        have HV := zh (HB2.out.trans (HZ.out.mono HB2.out.size))
        have y0 := (HV.out.cell (p := ⟨tb, _, none⟩) htb).trans (htc i hlt2)
        have y1 := (HV.out.cell (p := ⟨tb, _, none⟩) htb).trans (htc k (by omega))
        obtain ⟨S, hS, q0⟩ := HTX.out wz HV.out i hlt2
        obtain ⟨S2, hS2, q1⟩ := HTX.out wz HV.out k (by omega)
        have hne := HTI.out i k hlt2 hk
        rw [← hS, ← hS2] at hne
        have hb1 : (S.toList == S2.toList) = false := beq_false_of_ne (fun e => hne (ByteArray.ext (Array.ext' (by rw [ByteArray.toList_eq, ByteArray.toList_eq] at e; exact e))))
        clear hS hS2 htc
        generalize tc i = u0 at *
        generalize tc k = u1 at *
        go_upto_region 36 with fail
        go_quiet (fail)
        go_wp2_with fail
        go_roundg (i - k - 1)
        case measure => omega
        case rel => exact ⟨k + 1, by omega, by go_num, cG HZ.out nq⟩
       ·obtain rfl : k = i := by omega
        go_wp2_with fail
        go_roundg (ts.length - k - 1)
        case measure => omega
        case rel => exact ⟨k + 1, by omega, by go_num, HZ.out⟩
     ·obtain rfl : i = ts.length := by omega
      go_wp2_with fail
      go_ret
      exact ⟨rfl, HB.out.trans ((HB2.out.trans (HW.out.mono HB2.out.size)).mono HB.out.size)⟩
end
end Go.Proofs.YtjblihabklemfaaGreatDoor
