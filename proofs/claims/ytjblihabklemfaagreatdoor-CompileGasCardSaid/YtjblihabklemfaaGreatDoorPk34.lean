/-
  CompileGas: part 34 of its proof: see the last text.
-/
import Derived.Test.YtjblihabklemfaaGreatDoorPk27
import Derived.Test.YtjblihabklemfaaGreatDoorPk33
set_option maxRecDepth 100000
namespace Go.Proofs.YtjblihabklemfaaGreatDoor
section
open Go.RowKit
mutual
theorem lG : ∀ x : St, iH x ≤ 2 * szS x
 | .mk op text es body els pos => by
  rw [iH, szS]
  have h1 := gv body
  have h2 := gv els
  split <;> omega
theorem gv : ∀ l : List St, aJ l ≤ 2 * bC l
 | [] => by rw [aJ]; omega
 | x :: l => by
  rw [aJ, bC]
  have h1 := lG x
  have h2 := gv l
  omega
end
theorem iL : ∀ (l : List St) (x : St), aJ (l ++ [x]) = aJ l + iH x
 | [], x => by rw [List.nil_append, aJ, aJ, aJ]; omega
 | y :: l, x => by rw [List.cons_append, aJ, aJ, iL l x]; omega
set_option maxHeartbeats 8000000 in
theorem mu (l : List St) (u : Value) (w : World) (hr : RepSts Any w u l) (hsz : bC l ≤ 40000) (ih : ∀ x, x ∈ l → ∀ (v : Value) (W : World), (RepSts Any W v x.body → Calls Tryz.prog 13 #[v] W (gi (aJ x.body) W)) ∧ (RepSts Any W v x.els → Calls Tryz.prog 13 #[v] W (gi (aJ x.els) W))) : Calls Tryz.prog 13 #[u] w (gi (aJ l) w) := by
 obtain ⟨cs, ⟨s0, kc, rfl, hle, hcm, _, hrow, hszr⟩, hit⟩ := hr
 have HROW := zh hrow
 have HIT := zh hit
 have HIH := zh ih
 have HSZ := zh hsz
 unfold maxLen at hcm
 have hlen : l.length ≤ 9223372036854775807 := by omega
 clear hrow hit ih hszr hle hcm hsz
 go_enter Tryz.func13, Tryz.ntmps13
 go_wp2_with fail
 go_loopg [3, 4] l.length (fun g t3 t4 wr => ∃ i : Nat, i + g = l.length ∧ t3 = .int .i64 ((aJ (l.take i) : Nat) : Int) ∧ t4 = .int .i64 (i : Int) ∧ Below w.heap.size w wr)
 case atStart => exact ⟨0, Nat.zero_add _, by rw [List.take_zero, aJ]; rfl, rfl, Below.refl _ _⟩
 case round =>
  obtain ⟨wo, hwo⟩ : ∃ x, x = wr := ⟨_, rfl⟩
  subst hwo
  obtain ⟨i, hig, rfl, rfl, hb⟩ := hrel
  have HB := zh hb
  clear hb
  by_cases hlt : i < l.length
  ·obtain ⟨kb, koff, hs0, _, hkb, hcell⟩ := HROW.out (by omega)
   subst hs0
   have hrep := (HIT.out i hlt).lies.mono (S' := fun b => b < w.heap.size) (fun _ h => h.2)
   have hmem := dd default hlt
   have HT : Hid (aJ (l.take (i + 1)) = aJ (l.take i) + iH (l.getD i default) ∧ aJ (l.take (i + 1)) ≤ 80000) := zh (by have e := iL (l.take i) (l.getD i default); rw [← cS default l i hlt] at e; have h1 := iE l i hlt; have h2 := gv (l.take i); have h3 := lG (l.getD i default); have h4 := HSZ.out; exact ⟨e, by omega⟩)
   have HI2 := zh (HIH.out _ hmem)
   generalize hx : l.getD i default = x at *
   obtain ⟨op, text, es, body, els, pos⟩ := x
   obtain ⟨ve, vb, vl, hcs, hre, hrb, hrl⟩ := RepSt.parts hrep
   obtain ⟨ecs, ⟨e0, ec, rfl, ele, ecm, _, erow, _⟩, eit⟩ := hre
   have HRB := zh hrb
   have HRL := zh hrl
   obtain ⟨bcs, ⟨b0, bc, rfl, _⟩, _⟩ := hrb
   obtain ⟨lcs, ⟨l0, lc, rfl, _⟩, _⟩ := hrl
   have HEROW := zh erow
   have HEIT := zh eit
   unfold maxLen at ecm
   have helen : es.length ≤ 9223372036854775807 := by omega
   have HC : Hid (∀ W, Below w.heap.size w W → W.cell? ⟨kb, koff + i * 6, none⟩ = some (.int .i64 op) ∧ W.cell? ⟨kb, koff + i * 6 + 2, none⟩ = some (.slice e0 es.length ec) ∧ W.cell? ⟨kb, koff + i * 6 + 3, none⟩ = some (.slice b0 body.length bc) ∧ W.cell? ⟨kb, koff + i * 6 + 4, none⟩ = some (.slice l0 els.length lc)) := zh (fun W hW => by
     have hc6 : ∀ j, j < 6 → W.cell? ⟨kb, koff + i * 6 + j, none⟩ = (cs i)[j]? := fun j hj => (hW.cell (p := ⟨kb, _, none⟩) hkb).trans (hcell i hlt j hj)
     rw [hcs] at hc6
     exact ⟨hc6 0 (by decide), hc6 2 (by decide), hc6 3 (by decide), hc6 4 (by decide)⟩)
   rw [iH] at HT
   clear hrep hcell hcs erow eit ele ecm hx hmem
   have x0 := (HC.out wo HB.out).1
   have q0 : aJ (l.take i) ≤ 80000 := by have := HT.out; omega
   have Q0 := zh q0
   generalize aJ (l.take i) = a at *
   have h63 : (a : Int) + 2 ≤ 9223372036854775807 := by omega
   by_cases h4 : op = 4
   ·have HA : Hid (a + 1 + 1 + aN es + (aJ body + aJ els) = aJ (l.take (i + 1)) ∧ aJ (l.take (i + 1)) ≤ 80000) := zh (by have q := HT.out; rw [if_pos h4] at q; exact ⟨by omega, by omega⟩)
    subst h4
    clear HT
    have x2 := (HC.out wo HB.out).2.1
    go_wp2_with fail
    go_loopg [3, 5] es.length (fun g t3 t5 wq => ∃ k : Nat, k + g = es.length ∧ t3 = .int .i64 ((a + 1 + 1 + aN (es.take k) : Nat) : Int) ∧ t5 = .int .i64 (k : Int) ∧ Below w.heap.size w wq)
    case atStart => exact ⟨0, Nat.zero_add _, by rw [List.take_zero, aN]; go_num, rfl, HB.out⟩
    case round =>
     clear x0 x2 HB
     obtain ⟨wq, hwq⟩ : ∃ x, x = wr := ⟨_, rfl⟩
     subst hwq
     obtain ⟨k, hkg, rfl, rfl, hb⟩ := hrel
     have HB := zh hb
     clear hb
     have x2 := (HC.out wq HB.out).2.1
     by_cases hkl : k < es.length
     ·obtain ⟨eb, eoff, hes0, _, heb, hecell⟩ := HEROW.out (by omega)
      subst hes0
      have hrep := HEIT.out k hkl
      obtain ⟨ko, kn, kt, kss, kl, kcc, kp, hcs⟩ := eu hrep
      rw [hcs] at hrep
      have hc5 : ∀ j, j < 5 → wq.cell? ⟨eb, eoff + k * 5 + j, none⟩ = (ecs k)[j]? := fun j hj => (HB.out.cell (p := ⟨eb, _, none⟩) heb).trans (hecell k hkl j hj)
      rw [hcs] at hc5
      have y0 : wq.cell? ⟨eb, eoff + k * 5, none⟩ = some (.int .i64 ko) := hc5 0 (by decide)
      have y1 : wq.cell? ⟨eb, eoff + k * 5 + 1, none⟩ = some (.int .i64 kn) := hc5 1 (by decide)
      have y2 : wq.cell? ⟨eb, eoff + k * 5 + 2, none⟩ = some (.string kt) := hc5 2 (by decide)
      have y3 : wq.cell? ⟨eb, eoff + k * 5 + 3, none⟩ = some (.slice kss kl kcc) := hc5 3 (by decide)
      have y4 : wq.cell? ⟨eb, eoff + k * 5 + 4, none⟩ = some (.int .i64 kp) := hc5 4 (by decide)
      have HKT : Hid (aN (es.take (k + 1)) = aN (es.take k) + szE (es.getD k default) ∧ aN (es.take (k + 1)) ≤ 80000) := zh (by have e := gF (es.take k) (es.getD k default); rw [← cS default es k hkl] at e; have h1 := dX es k hkl; have h2 := HA.out; exact ⟨e, by omega⟩)
      have HK := zh (iB (es.getD k default) _ wq ((hrep.keep (Stays.of_lt HB.out)).mono (fun _ _ => trivial)) (by have := HKT.out; omega))
      generalize es.getD k default = kx at *
      generalize aN (es.take k) = c at *
      have h64 : ((a + 1 + 1 + c : Nat) : Int) + (szE kx : Int) ≤ 9223372036854775807 := by have := HKT.out; have := Q0.out; omega
      clear hrep hc5 hcs hecell
      go_wp2_with fail
      refine HK.out.mono ?_
      rintro e w9 ⟨rfl, hb⟩
      have HB9 := zh hb
      clear hb
      go_wp2_with fail
      go_roundg (es.length - k - 1)
      case measure => omega
      case rel => exact ⟨k + 1, by omega, by rw [HKT.out.1]; go_num, by go_num, HB.out.trans (HB9.out.mono HB.out.size)⟩
     ·obtain rfl : k = es.length := by omega
      rw [List.take_of_length_le (Nat.le_refl _)]
      go_upto_region 12 with fail
      clear x2
      have HB1 : Hid (∀ W, Below w.heap.size w W → Calls Tryz.prog 13 #[.slice b0 body.length bc] W (gi (aJ body) W)) := zh (fun W hW => (HI2.out _ W).1 ((HRB.out.keep (Stays.of_lt hW)).mono (fun _ _ => trivial)))
      have HB2 : Hid (∀ W, Below w.heap.size w W → Calls Tryz.prog 13 #[.slice l0 els.length lc] W (gi (aJ els) W)) := zh (fun W hW => (HI2.out _ W).2 ((HRL.out.keep (Stays.of_lt hW)).mono (fun _ _ => trivial)))
      have hs0 : Below w.heap.size w wq.drew := HB.out.trans ((av (Below.refl _ _)).mono HB.out.size)
      have HS0 := zh hs0
      refine wp_region_held (S := (fun w9 : World => Below w.heap.size w w9)) (by kernel_rfl) ?_
      refine tk (v := ?_) 0 (fun w hSw => ?_) ?_; rotate_left
      ·obtain ⟨_, _, z3, z4⟩ := HC.out _ hSw; go_simp; try with_reducible rfl
      refine tk (v := ?_) 1 (fun w hSw => ?_) ?_; rotate_left
      ·obtain ⟨_, _, z3, z4⟩ := HC.out _ hSw; go_simp; try with_reducible rfl
      refine tk (v := ?_) 2 (fun w hSw => ?_) ?_; rotate_left
      ·obtain ⟨_, _, z3, z4⟩ := HC.out _ hSw; go_simp; try with_reducible rfl
      refine tk (v := ?_) 3 (fun w hSw => ?_) ?_; rotate_left
      ·obtain ⟨_, _, z3, z4⟩ := HC.out _ hSw; go_simp; try with_reducible rfl
      refine tk (v := ?_) 4 (fun w hSw => ?_) ?_; rotate_left
      ·obtain ⟨_, _, z3, z4⟩ := HC.out _ hSw; go_simp; try with_reducible rfl
      refine tk (v := ?_) 5 (fun w hSw => ?_) ?_; rotate_left
      ·obtain ⟨_, _, z3, z4⟩ := HC.out _ hSw; go_simp; try with_reducible rfl
      refine tk (v := ?_) 8 (fun w hSw => ?_) ?_; rotate_left
      ·obtain ⟨_, _, z3, z4⟩ := HC.out _ hSw; go_simp; try with_reducible rfl
      refine tk (v := ?_) 9 (fun w hSw => ?_) ?_; rotate_left
      ·obtain ⟨_, _, z3, z4⟩ := HC.out _ hSw; go_simp; try with_reducible rfl
      refine tk (v := ?_) 10 (fun w hSw => ?_) ?_; rotate_left
      ·obtain ⟨_, _, z3, z4⟩ := HC.out _ hSw; go_simp; try with_reducible rfl
      refine tk (v := ?_) 11 (fun w hSw => ?_) ?_; rotate_left
      ·obtain ⟨_, _, z3, z4⟩ := HC.out _ hSw; go_simp; try with_reducible rfl
      refine tk (v := ?_) 12 (fun w hSw => ?_) ?_; rotate_left
      ·obtain ⟨_, _, z3, z4⟩ := HC.out _ hSw; go_simp; try with_reducible rfl
      refine rd1 6 fun K hK => ?_
      go_simp
      go_at_call 13
      refine (HB1.out _ HS0.out).mono ?_
      rintro e w8 ⟨rfl, hb⟩
      have HB8 := zh (HS0.out.trans (hb.mono HS0.out.size))
      clear hb
      go_simp
      refine hK.out _ _ ?_ (fun hHeld => ?_)
      ·exact HB8.out
      clear hK K
      try go_simp
      have k1 : ((a + 1 + 1 + aN es : Nat) : Int) + (aJ body : Int) + (aJ els : Int) ≤ 9223372036854775807 := by have := HA.out; omega
      refine tk (v := ?_) 7 (fun w hSw => ?_) ?_; rotate_left
      ·go_simp; try with_reducible rfl
      refine rd1 13 fun K hK => ?_
      go_simp
      go_at_call 13
      refine (HB2.out _ HB8.out).mono ?_
      rintro e w9 ⟨rfl, hb⟩
      have HB9 := zh (HB8.out.trans (hb.mono HB8.out.size))
      clear hb
      go_simp
      refine hK.out _ _ ?_ (fun hHeld2 => ?_)
      ·exact HB9.out
      clear hK K
      try go_simp
      refine tk (v := ?_) 14 (fun w hSw => ?_) ?_; rotate_left
      ·go_simp; try with_reducible rfl
      refine tk (v := ?_) 15 (fun w hSw => ?_) ?_; rotate_left
      ·go_simp; try with_reducible rfl
      refine wpAnyH_done (by kernel_rfl) ?_ _
      go_wp2_with fail
      go_roundg (l.length - i - 1)
      case measure => omega
      case rel => exact ⟨i + 1, by omega, by rw [← HA.out.1]; go_num, by go_num, HB9.out⟩
   ·have HA : Hid (a + 1 + aN es + (aJ body + aJ els) = aJ (l.take (i + 1)) ∧ aJ (l.take (i + 1)) ≤ 80000) := zh (by have q := HT.out; rw [if_neg h4] at q; exact ⟨by omega, by omega⟩)
    have h4b : (op == 4) = false := beq_false_of_ne h4
    clear HT
    have x2 := (HC.out wo HB.out).2.1
    go_wp2_with fail
    go_loopg [3, 5] es.length (fun g t3 t5 wq => ∃ k : Nat, k + g = es.length ∧ t3 = .int .i64 ((a + 1 + aN (es.take k) : Nat) : Int) ∧ t5 = .int .i64 (k : Int) ∧ Below w.heap.size w wq)
    case atStart => exact ⟨0, Nat.zero_add _, by rw [List.take_zero, aN]; go_num, rfl, HB.out⟩
    case round =>
     clear x0 x2 HB
     obtain ⟨wq, hwq⟩ : ∃ x, x = wr := ⟨_, rfl⟩
     subst hwq
     obtain ⟨k, hkg, rfl, rfl, hb⟩ := hrel
     have HB := zh hb
     clear hb
     have x2 := (HC.out wq HB.out).2.1
     by_cases hkl : k < es.length
     ·obtain ⟨eb, eoff, hes0, _, heb, hecell⟩ := HEROW.out (by omega)
      subst hes0
      have hrep := HEIT.out k hkl
      obtain ⟨ko, kn, kt, kss, kl, kcc, kp, hcs⟩ := eu hrep
      rw [hcs] at hrep
      have hc5 : ∀ j, j < 5 → wq.cell? ⟨eb, eoff + k * 5 + j, none⟩ = (ecs k)[j]? := fun j hj => (HB.out.cell (p := ⟨eb, _, none⟩) heb).trans (hecell k hkl j hj)
      rw [hcs] at hc5
      have y0 : wq.cell? ⟨eb, eoff + k * 5, none⟩ = some (.int .i64 ko) := hc5 0 (by decide)
      have y1 : wq.cell? ⟨eb, eoff + k * 5 + 1, none⟩ = some (.int .i64 kn) := hc5 1 (by decide)
      have y2 : wq.cell? ⟨eb, eoff + k * 5 + 2, none⟩ = some (.string kt) := hc5 2 (by decide)
      have y3 : wq.cell? ⟨eb, eoff + k * 5 + 3, none⟩ = some (.slice kss kl kcc) := hc5 3 (by decide)
      have y4 : wq.cell? ⟨eb, eoff + k * 5 + 4, none⟩ = some (.int .i64 kp) := hc5 4 (by decide)
      have HKT : Hid (aN (es.take (k + 1)) = aN (es.take k) + szE (es.getD k default) ∧ aN (es.take (k + 1)) ≤ 80000) := zh (by have e := gF (es.take k) (es.getD k default); rw [← cS default es k hkl] at e; have h1 := dX es k hkl; have h2 := HA.out; exact ⟨e, by omega⟩)
      have HK := zh (iB (es.getD k default) _ wq ((hrep.keep (Stays.of_lt HB.out)).mono (fun _ _ => trivial)) (by have := HKT.out; omega))
      generalize es.getD k default = kx at *
      generalize aN (es.take k) = c at *
      have h64 : ((a + 1 + c : Nat) : Int) + (szE kx : Int) ≤ 9223372036854775807 := by have := HKT.out; have := Q0.out; omega
      clear hrep hc5 hcs hecell
      go_wp2_with fail
      refine HK.out.mono ?_
      rintro e w9 ⟨rfl, hb⟩
      have HB9 := zh hb
      clear hb
      go_wp2_with fail
      go_roundg (es.length - k - 1)
      case measure => omega
      case rel => exact ⟨k + 1, by omega, by rw [HKT.out.1]; go_num, by go_num, HB.out.trans (HB9.out.mono HB.out.size)⟩
     ·obtain rfl : k = es.length := by omega
      rw [List.take_of_length_le (Nat.le_refl _)]
      go_upto_region 12 with fail
      clear x2
      have HB1 : Hid (∀ W, Below w.heap.size w W → Calls Tryz.prog 13 #[.slice b0 body.length bc] W (gi (aJ body) W)) := zh (fun W hW => (HI2.out _ W).1 ((HRB.out.keep (Stays.of_lt hW)).mono (fun _ _ => trivial)))
      have HB2 : Hid (∀ W, Below w.heap.size w W → Calls Tryz.prog 13 #[.slice l0 els.length lc] W (gi (aJ els) W)) := zh (fun W hW => (HI2.out _ W).2 ((HRL.out.keep (Stays.of_lt hW)).mono (fun _ _ => trivial)))
      have hs0 : Below w.heap.size w wq.drew := HB.out.trans ((av (Below.refl _ _)).mono HB.out.size)
      have HS0 := zh hs0
      refine wp_region_held (S := (fun w9 : World => Below w.heap.size w w9)) (by kernel_rfl) ?_
      refine tk (v := ?_) 0 (fun w hSw => ?_) ?_; rotate_left
      ·obtain ⟨_, _, z3, z4⟩ := HC.out _ hSw; go_simp; try with_reducible rfl
      refine tk (v := ?_) 1 (fun w hSw => ?_) ?_; rotate_left
      ·obtain ⟨_, _, z3, z4⟩ := HC.out _ hSw; go_simp; try with_reducible rfl
      refine tk (v := ?_) 2 (fun w hSw => ?_) ?_; rotate_left
      ·obtain ⟨_, _, z3, z4⟩ := HC.out _ hSw; go_simp; try with_reducible rfl
      refine tk (v := ?_) 3 (fun w hSw => ?_) ?_; rotate_left
      ·obtain ⟨_, _, z3, z4⟩ := HC.out _ hSw; go_simp; try with_reducible rfl
      refine tk (v := ?_) 4 (fun w hSw => ?_) ?_; rotate_left
      ·obtain ⟨_, _, z3, z4⟩ := HC.out _ hSw; go_simp; try with_reducible rfl
      refine tk (v := ?_) 5 (fun w hSw => ?_) ?_; rotate_left
      ·obtain ⟨_, _, z3, z4⟩ := HC.out _ hSw; go_simp; try with_reducible rfl
      refine tk (v := ?_) 8 (fun w hSw => ?_) ?_; rotate_left
      ·obtain ⟨_, _, z3, z4⟩ := HC.out _ hSw; go_simp; try with_reducible rfl
      refine tk (v := ?_) 9 (fun w hSw => ?_) ?_; rotate_left
      ·obtain ⟨_, _, z3, z4⟩ := HC.out _ hSw; go_simp; try with_reducible rfl
      refine tk (v := ?_) 10 (fun w hSw => ?_) ?_; rotate_left
      ·obtain ⟨_, _, z3, z4⟩ := HC.out _ hSw; go_simp; try with_reducible rfl
      refine tk (v := ?_) 11 (fun w hSw => ?_) ?_; rotate_left
      ·obtain ⟨_, _, z3, z4⟩ := HC.out _ hSw; go_simp; try with_reducible rfl
      refine tk (v := ?_) 12 (fun w hSw => ?_) ?_; rotate_left
      ·obtain ⟨_, _, z3, z4⟩ := HC.out _ hSw; go_simp; try with_reducible rfl
      refine rd1 6 fun K hK => ?_
      go_simp
      go_at_call 13
      refine (HB1.out _ HS0.out).mono ?_
      rintro e w8 ⟨rfl, hb⟩
      have HB8 := zh (HS0.out.trans (hb.mono HS0.out.size))
      clear hb
      go_simp
      refine hK.out _ _ ?_ (fun hHeld => ?_)
      ·exact HB8.out
      clear hK K
      try go_simp
      have k1 : ((a + 1 + aN es : Nat) : Int) + (aJ body : Int) + (aJ els : Int) ≤ 9223372036854775807 := by have := HA.out; omega
      refine tk (v := ?_) 7 (fun w hSw => ?_) ?_; rotate_left
      ·go_simp; try with_reducible rfl
      refine rd1 13 fun K hK => ?_
      go_simp
      go_at_call 13
      refine (HB2.out _ HB8.out).mono ?_
      rintro e w9 ⟨rfl, hb⟩
      have HB9 := zh (HB8.out.trans (hb.mono HB8.out.size))
      clear hb
      go_simp
      refine hK.out _ _ ?_ (fun hHeld2 => ?_)
      ·exact HB9.out
      clear hK K
      try go_simp
      refine tk (v := ?_) 14 (fun w hSw => ?_) ?_; rotate_left
      ·go_simp; try with_reducible rfl
      refine tk (v := ?_) 15 (fun w hSw => ?_) ?_; rotate_left
      ·go_simp; try with_reducible rfl
      refine wpAnyH_done (by kernel_rfl) ?_ _
      go_wp2_with fail
      go_roundg (l.length - i - 1)
      case measure => omega
      case rel => exact ⟨i + 1, by omega, by rw [← HA.out.1]; go_num, by go_num, HB9.out⟩
  ·obtain rfl : i = l.length := by omega
   rw [List.take_of_length_le (Nat.le_refl _)]
   go_wp2_with fail
   go_ret
   exact ⟨rfl, HB.out⟩
theorem gA : ∀ {l : List St} {x : St}, x ∈ l → szS x ≤ bC l
 | y :: l, x, h => by
  rw [bC]
  rcases List.mem_cons.1 h with rfl | h
  ·omega
  ·have := gA h; omega
theorem ir (l : List St) : ∀ (u : Value) (w : World), RepSts Any w u l → bC l ≤ 40000 → Calls Tryz.prog 13 #[u] w (gi (aJ l) w) := by
 intro u w hr hs
 refine mu l u w hr hs fun x hx v W => ?_
 have hz := gA hx
 have hlt := St.body_lt hx
 obtain ⟨op, text, es, body, els, pos⟩ := x
 rw [szS] at hz
 exact ⟨fun h => ir body v W h (by omega), fun h => ir els v W h (by omega)⟩
termination_by SizeOf.sizeOf l
decreasing_by
 ·exact hlt.1
 ·exact hlt.2
end
end Go.Proofs.YtjblihabklemfaaGreatDoor
