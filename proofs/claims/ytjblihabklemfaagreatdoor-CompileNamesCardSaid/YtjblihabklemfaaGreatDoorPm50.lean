/-
  Compile: part 50 of its proof: see the last text.
-/
import Derived.Test.YtjblihabklemfaaGreatDoorPm18
import Derived.Test.YtjblihabklemfaaGreatDoorPm00
import Derived.Laws.BytesArg
import Derived.Test.YtjblihabklemfaaGreatDoorPm46
import Derived.KernelRfl
set_option maxRecDepth 100000
set_option maxHeartbeats 16000000
namespace Go.Proofs.YtjblihabklemfaaGreatDoor
section
open Go.RowKit
theorem uj {w : World} {v : Value} {l : List Int} (h : RepBytes w v l) : (convert 22 9 v).run Tryz.prog w = .ok (.string (strOfNums l)) w := by
 obtain ⟨s0, cap, rfl, _, _, _, _, hc, _⟩ := h
 by_cases h0 : 0 < l.length
 ·obtain ⟨b, off, rfl, _, hcell⟩ := hc h0
  exact run_convert_bytes_arg w 22 5 (by kernel_rfl) (by kernel_rfl) b off l.length cap l rfl hcell 9 (by kernel_rfl)
 ·obtain rfl : l = [] := List.eq_nil_of_length_eq_zero (by omega)
  show (convert _ _ (.slice s0 0 cap)).run _ w = .ok (.string ByteArray.empty) w
  rw [run_convert_bytes_string w 22 9 5 _ 0 cap (by kernel_rfl) (by kernel_rfl) (by kernel_rfl)]
  cases s0 <;> simp [Conv.bytesToString, loadCells]
  all_goals rfl
theorem uQ (u v : Value) (l : List (List Int)) (w : World) (hu : RepTexts w u l) (hv : RepTexts w v l) :
    Calls Tryz.prog 21 #[u, v] w fun e w' => e = .returned (.bool true) ∧ Below w.heap.size w w' := by
 obtain ⟨s0, ca, c0, rfl, hbig, _, _, _, hr0, ht0⟩ := hu
 obtain ⟨s1, cb, c1, rfl, _, _, _, _, hr1, ht1⟩ := hv
 unfold big at hbig
 have HR0 := zh hr0
 have HR1 := zh hr1
 have HT : Hid (∀ W, Below w.heap.size w W → ∀ i, i < l.length → ∃ S, (∀ n, (convert 22 9 (c0 i)).run Tryz.prog (W.drewN n) = .ok (.string S) (W.drewN n)) ∧ (∀ n, (convert 22 9 (c1 i)).run Tryz.prog (W.drewN n) = .ok (.string S) (W.drewN n))) :=
  zh (fun W hW i hi => ⟨_, fun n => uj ((ht0 i hi).later (cG hW n)), fun n => uj ((ht1 i hi).later (cG hW n))⟩)
 clear hr0 hr1 ht0 ht1
 have hlen : l.length ≤ 9223372036854775807 := by omega
 go_enter Tryz.func21, Tryz.ntmps21
 go_wp2_with fail
 go_loopg [5] l.length (fun g t5 wr => ∃ i : Nat, i + g = l.length ∧ t5 = .int .i64 (i : Int) ∧ Below w.heap.size w wr)
 case atStart => exact ⟨0, Nat.zero_add _, rfl, Below.refl _ _⟩
 case round =>
  obtain ⟨i, hig, rfl, hb⟩ := hrel
  have HB := zh hb
  clear hb
  by_cases hlt : i < l.length
  ·obtain ⟨b0, o0, rfl, hb0, hc0⟩ := HR0.out (by omega)
   obtain ⟨b1, o1, rfl, hb1, hc1⟩ := HR1.out (by omega)
   have x0 := (HB.out.cell (p := ⟨b0, _, none⟩) hb0).trans (hc0 i hlt)
   have x1 := (HB.out.cell (p := ⟨b1, _, none⟩) hb1).trans (hc1 i hlt)
   obtain ⟨S, k0, k1⟩ := HT.out wr HB.out i hlt
   clear hc0 hc1 HT HR0 HR1
   generalize c0 i = y0 at *
   generalize c1 i = y1 at *
   go_upto_region 6 with fail
   go_quiet (fail)
   go_wp2_with fail
   go_roundg (l.length - i - 1)
   case measure => omega
   case rel => exact ⟨i + 1, by omega, by go_num, cG HB.out nq⟩
  ·obtain rfl : i = l.length := by omega
   go_wp2_with fail
   go_ret
   exact ⟨rfl, HB.out⟩
theorem vt (u v : Value) (m : Mdl) (w : World) (hu : RepMdl w u m) (hv : RepMdl w v m) :
    Calls Tryz.prog 12 #[u, v] w fun e w' => e = .returned (.bool true) ∧ Below w.heap.size w w' := by
 obtain ⟨u0, u1, rfl, ⟨s0, ca, x0, x1, x2, x3, x4, rfl, hbig, _, _, _, hr0, hc0⟩, ht0⟩ := hu
 obtain ⟨v0, v1, rfl, ⟨s1, cb, y0, y1, y2, y3, y4, rfl, _, _, _, _, hr1, hc1⟩, ht1⟩ := hv
 unfold big at hbig
 have HT := zh (fun (W : World) (hW : Below w.heap.size w W) => uQ u1 v1 m.texts W (ht0.later hW) (ht1.later hW))
 obtain ⟨ta, tb, tc, rfl, _⟩ := ht0
 obtain ⟨qa, qb, qc, rfl, _⟩ := ht1
 have HR0 := zh hr0
 have HR1 := zh hr1
 have HC0 := zh hc0
 have HC1 := zh hc1
 clear hr0 hr1 hc0 hc1
 obtain ⟨cs, ts⟩ := m
 dsimp only at *
 have hlen : cs.length ≤ 9223372036854775807 := by omega
 go_enter Tryz.func12, Tryz.ntmps12
 go_upto_region 1 with fail
 have HB : Hid (Below w.heap.size w ((w.alloc (.cells #[.slice s0 cs.length ca, .slice ta ts.length tb] 27)).alloc (.cells #[.slice s1 cs.length cb, .slice qa ts.length qb] 27))) := zh (ae (ae (Below.refl _ _) _) _)
 have HX : Hid (((w.alloc (.cells #[.slice s0 cs.length ca, .slice ta ts.length tb] 27)).alloc (.cells #[.slice s1 cs.length cb, .slice qa ts.length qb] 27)).heap[w.heap.size]? = some (.cells #[.slice s0 cs.length ca, .slice ta ts.length tb] 27)) := zh (au _ _ _ _ (ah _ _ _ rfl))
 have HY : Hid (((w.alloc (.cells #[.slice s0 cs.length ca, .slice ta ts.length tb] 27)).alloc (.cells #[.slice s1 cs.length cb, .slice qa ts.length qb] 27)).heap[w.heap.size + 1]? = some (.cells #[.slice s1 cs.length cb, .slice qa ts.length qb] 27)) := zh (ah _ _ _ (by rw [ag]))
 generalize ((w.alloc (.cells #[.slice s0 cs.length ca, .slice ta ts.length tb] 27)).alloc (.cells #[.slice s1 cs.length cb, .slice qa ts.length qb] 27)) = w1 at *
 generalize w.heap.size + 1 = YB at *
 have HL : Hid (w.heap.size < w1.heap.size ∧ YB < w1.heap.size) := zh ⟨ad HX.out, ad HY.out⟩
 have HMC : Hid (∀ W, Below w1.heap.size w1 W → (W.cell? ⟨w.heap.size, 0, none⟩ = some (.slice s0 cs.length ca) ∧ W.cell? ⟨w.heap.size, 1, none⟩ = some (.slice ta ts.length tb)) ∧ W.cell? ⟨YB, 0, none⟩ = some (.slice s1 cs.length cb) ∧ W.cell? ⟨YB, 1, none⟩ = some (.slice qa ts.length qb)) :=
  zh (fun W hW => ⟨⟨aa ((hW.block _ HL.out.1).trans HX.out) (j := 0) rfl, aa ((hW.block _ HL.out.1).trans HX.out) (j := 1) rfl⟩, aa ((hW.block _ HL.out.2).trans HY.out) (j := 0) rfl, aa ((hW.block _ HL.out.2).trans HY.out) (j := 1) rfl⟩)
 obtain ⟨⟨p0, p1⟩, p2, p3⟩ := HMC.out w1 (Below.refl _ _)
 go_wp2_with fail
 refine (HT.out w1 HB.out).mono ?_
 rintro e w2 ⟨rfl, hb⟩
 clear p0 p1 p2 p3
 have HB2 := zh hb
 clear hb HT
 obtain ⟨⟨p0, p1⟩, p2, p3⟩ := HMC.out w2 HB2.out
 go_wp2_with fail
 clear p0 p1 p2 p3
 go_loopg [5] cs.length (fun g t5 wr => ∃ i : Nat, i + g = cs.length ∧ t5 = .int .i64 (i : Int) ∧ Below w1.heap.size w1 wr)
 case atStart => exact ⟨0, Nat.zero_add _, rfl, HB2.out⟩
 case round =>
  obtain ⟨wo, hwo⟩ : ∃ x, x = wr := ⟨_, rfl⟩
  subst hwo
  obtain ⟨i, hig, rfl, hb⟩ := hrel
  have HW := zh hb
  clear hb
  obtain ⟨⟨p0, p1⟩, p2, p3⟩ := HMC.out wo HW.out
  by_cases hlt : i < cs.length
  ·obtain ⟨b0, o0, rfl, hb0, hc0⟩ := HR0.out (by omega)
   obtain ⟨b1, o1, rfl, hb1, hc1⟩ := HR1.out (by omega)
   have hc := HC0.out i hlt
   have hd := HC1.out i hlt
   obtain ⟨z0, z1, z2, z3, z4⟩ := hc0 i hlt
   obtain ⟨k0, k1, k2, k3, k4⟩ := hc1 i hlt
   generalize x0 i = a0 at *
   generalize x1 i = a1 at *
   generalize x2 i = a2 at *
   generalize x3 i = a3 at *
   generalize x4 i = a4 at *
   generalize y0 i = d0 at *
   generalize y1 i = d1 at *
   generalize y2 i = d2 at *
   generalize y3 i = d3 at *
   generalize y4 i = d4 at *
   generalize cs.getD i default = C at *
   obtain ⟨rfl, _, ⟨ps, pc, rfl, hpb, _, _, _, hpr, _⟩, rfl, rfl, ⟨is, ic, rfl, hib, _, _, _, hir, _⟩, _, _⟩ := hc
   obtain ⟨rfl, _, ⟨qs, pd, rfl, _, _, _, _, hqr, _⟩, rfl, rfl, ⟨js, id, rfl, _, _, _, _, hjr, _⟩, _, _⟩ := hd
   unfold big at hpb hib
   have HWW := zh (HB.out.trans (HW.out.mono HB.out.size))
   replace z0 := (HWW.out.cell (p := ⟨b0, _, none⟩) hb0).trans z0
   replace z1 := (HWW.out.cell (p := ⟨b0, _, none⟩) hb0).trans z1
   replace z2 := (HWW.out.cell (p := ⟨b0, _, none⟩) hb0).trans z2
   replace z3 := (HWW.out.cell (p := ⟨b0, _, none⟩) hb0).trans z3
   replace z4 := (HWW.out.cell (p := ⟨b0, _, none⟩) hb0).trans z4
   replace k0 := (HWW.out.cell (p := ⟨b1, _, none⟩) hb1).trans k0
   replace k1 := (HWW.out.cell (p := ⟨b1, _, none⟩) hb1).trans k1
   replace k2 := (HWW.out.cell (p := ⟨b1, _, none⟩) hb1).trans k2
   replace k3 := (HWW.out.cell (p := ⟨b1, _, none⟩) hb1).trans k3
   replace k4 := (HWW.out.cell (p := ⟨b1, _, none⟩) hb1).trans k4
   have HPR := zh hpr
   have HQR := zh hqr
   have HIR := zh hir
   have HJR := zh hjr
   have hpl : C.params.length ≤ 9223372036854775807 := by omega
   have hil : C.ins.length ≤ 9223372036854775807 := by omega
   have HBO := zh (And.intro (Nat.lt_of_lt_of_le hb0 HWW.out.size) (Nat.lt_of_lt_of_le hb1 HWW.out.size))
   have g0 := HBO.out.1
   have g1 := HBO.out.2
   have g2 := Nat.lt_of_lt_of_le HL.out.1 HW.out.size
   have g3 := Nat.lt_of_lt_of_le HL.out.2 HW.out.size
   clear hpr hqr hir hjr hc0 hc1 hb0 hb1
   go_upto_region 8 with fail
   have HB3 : Hid (Below wo.heap.size wo ((wo.alloc (.cells #[.string C.name, .slice ps C.params.length pc, .int .i64 C.result, .int .i64 C.slots, .slice is C.ins.length ic] 35)).alloc (.cells #[.string C.name, .slice qs C.params.length pd, .int .i64 C.result, .int .i64 C.slots, .slice js C.ins.length id] 35))) := zh (ae (ae (Below.refl _ _) _) _)
   have HP : Hid (((wo.alloc (.cells #[.string C.name, .slice ps C.params.length pc, .int .i64 C.result, .int .i64 C.slots, .slice is C.ins.length ic] 35)).alloc (.cells #[.string C.name, .slice qs C.params.length pd, .int .i64 C.result, .int .i64 C.slots, .slice js C.ins.length id] 35)).heap[wo.heap.size]? = some (.cells #[.string C.name, .slice ps C.params.length pc, .int .i64 C.result, .int .i64 C.slots, .slice is C.ins.length ic] 35)) := zh (au _ _ _ _ (ah _ _ _ rfl))
   have HQ : Hid (((wo.alloc (.cells #[.string C.name, .slice ps C.params.length pc, .int .i64 C.result, .int .i64 C.slots, .slice is C.ins.length ic] 35)).alloc (.cells #[.string C.name, .slice qs C.params.length pd, .int .i64 C.result, .int .i64 C.slots, .slice js C.ins.length id] 35)).heap[wo.heap.size + 1]? = some (.cells #[.string C.name, .slice qs C.params.length pd, .int .i64 C.result, .int .i64 C.slots, .slice js C.ins.length id] 35)) := zh (ah _ _ _ (by rw [ag]))
   clear p0 p1 p2 p3 z0 z1 z2 z3 z4 k0 k1 k2 k3 k4
   generalize ((wo.alloc (.cells #[.string C.name, .slice ps C.params.length pc, .int .i64 C.result, .int .i64 C.slots, .slice is C.ins.length ic] 35)).alloc (.cells #[.string C.name, .slice qs C.params.length pd, .int .i64 C.result, .int .i64 C.slots, .slice js C.ins.length id] 35)) = w3 at *
   have HPL : Hid (wo.heap.size < w3.heap.size ∧ wo.heap.size + 1 < w3.heap.size) := zh ⟨ad HP.out, ad HQ.out⟩
   have HPC : Hid (∀ W, Below w3.heap.size w3 W → (W.cell? ⟨wo.heap.size, 0, none⟩ = some (.string C.name) ∧ W.cell? ⟨wo.heap.size, 1, none⟩ = some (.slice ps C.params.length pc) ∧ W.cell? ⟨wo.heap.size, 2, none⟩ = some (.int .i64 C.result) ∧ W.cell? ⟨wo.heap.size, 3, none⟩ = some (.int .i64 C.slots) ∧ W.cell? ⟨wo.heap.size, 4, none⟩ = some (.slice is C.ins.length ic)) ∧
       (W.cell? ⟨wo.heap.size + 1, 0, none⟩ = some (.string C.name) ∧ W.cell? ⟨wo.heap.size + 1, 1, none⟩ = some (.slice qs C.params.length pd) ∧ W.cell? ⟨wo.heap.size + 1, 2, none⟩ = some (.int .i64 C.result) ∧ W.cell? ⟨wo.heap.size + 1, 3, none⟩ = some (.int .i64 C.slots) ∧ W.cell? ⟨wo.heap.size + 1, 4, none⟩ = some (.slice js C.ins.length id))) :=
    zh (fun W hW => by
      have e1 := (hW.block _ HPL.out.1).trans HP.out
      have e2 := (hW.block _ HPL.out.2).trans HQ.out
      exact ⟨⟨aa e1 rfl, aa e1 rfl, aa e1 rfl, aa e1 rfl, aa e1 rfl⟩, aa e2 rfl, aa e2 rfl, aa e2 rfl, aa e2 rfl, aa e2 rfl⟩)
   generalize wo.heap.size + 1 = QB at *
   obtain ⟨⟨z0, z1, z2, z3, z4⟩, k0, k1, k2, k3, k4⟩ := HPC.out w3 (Below.refl _ _)
   clear g0 g1 g2 g3
   go_wp2_with fail
   clear z0 z1 z2 z3 z4 k0 k1 k2 k3 k4
   have HWP : Hid (Below w.heap.size w w3) := zh (HWW.out.trans (HB3.out.mono HWW.out.size))
   have HWL : Hid (Below w1.heap.size w1 w3) := zh (HW.out.trans (HB3.out.mono HW.out.size))
   go_loopg [8] C.params.length (fun g t8 wr => ∃ k : Nat, k + g = C.params.length ∧ t8 = .int .i64 (k : Int) ∧ Below w3.heap.size w3 wr)
   case atStart => exact ⟨0, Nat.zero_add _, rfl, Below.refl _ _⟩
   case round =>
    obtain ⟨wq, hwq⟩ : ∃ x, x = wr := ⟨_, rfl⟩
    subst hwq
    obtain ⟨k, hkg, rfl, hb⟩ := hrel
    have HX := zh hb
    clear hb
    obtain ⟨⟨z0, z1, z2, z3, z4⟩, k0, k1, k2, k3, k4⟩ := HPC.out wq HX.out
    by_cases hk : k < C.params.length
    ·obtain ⟨pb, po, rfl, hpb, hpc⟩ := HPR.out (by omega)
     obtain ⟨qb', qo, rfl, hqb, hqc⟩ := HQR.out (by omega)
     have HW4 := zh (HWP.out.trans (HX.out.mono HWP.out.size))
     have y0 := (HW4.out.cell (p := ⟨pb, _, none⟩) hpb).trans (hpc k hk)
     have y1 := (HW4.out.cell (p := ⟨qb', _, none⟩) hqb).trans (hqc k hk)
     dsimp only at y0 y1
     generalize C.params.getD k 0 = a at *
     clear hpc hqc
     go_upto_region 13 with fail
     go_quiet (fail)
     go_wp2_with fail
     go_roundg (C.params.length - k - 1)
     case measure => omega
     case rel => exact ⟨k + 1, by omega, by go_num, cG HX.out nq⟩
    ·obtain rfl : k = C.params.length := by omega
     go_wp2_with fail
     clear z0 z1 z2 z3 z4 k0 k1 k2 k3 k4
     go_loopg [9] C.ins.length (fun g t9 wr => ∃ k : Nat, k + g = C.ins.length ∧ t9 = .int .i64 (k : Int) ∧ Below w3.heap.size w3 wr)
     case atStart => exact ⟨0, Nat.zero_add _, rfl, HX.out⟩
     case round =>
      obtain ⟨wz, hwz⟩ : ∃ x, x = wr := ⟨_, rfl⟩
      subst hwz
      obtain ⟨k, hkg, rfl, hb⟩ := hrel
      have HX := zh hb
      clear hb
      obtain ⟨⟨z0, z1, z2, z3, z4⟩, k0, k1, k2, k3, k4⟩ := HPC.out wz HX.out
      by_cases hk : k < C.ins.length
      ·obtain ⟨pb, po, rfl, hpb, hpc⟩ := HIR.out (by omega)
       obtain ⟨qb', qo, rfl, hqb, hqc⟩ := HJR.out (by omega)
       have HW4 := zh (HWP.out.trans (HX.out.mono HWP.out.size))
       have y0 := (HW4.out.cell (p := ⟨pb, _, none⟩) hpb).trans (hpc k hk).1
       have y1 := (HW4.out.cell (p := ⟨pb, _, none⟩) hpb).trans (hpc k hk).2
       have y2 := (HW4.out.cell (p := ⟨qb', _, none⟩) hqb).trans (hqc k hk).1
       have y3 := (HW4.out.cell (p := ⟨qb', _, none⟩) hqb).trans (hqc k hk).2
       dsimp only at y0 y1 y2 y3
       generalize (C.ins.getD k default).op = a at *
       generalize (C.ins.getD k default).a = b at *
       clear hpc hqc
       go_upto_region 18 with fail
       go_quiet (fail)
       go_wp2_with fail
       go_roundg (C.ins.length - k - 1)
       case measure => omega
       case rel => exact ⟨k + 1, by omega, by go_num, cG HX.out nq⟩
      ·obtain rfl : k = C.ins.length := by omega
       go_wp2_with fail
       go_roundg (cs.length - i - 1)
       case measure => omega
       case rel => exact ⟨i + 1, by omega, by go_num, HWL.out.trans (HX.out.mono HWL.out.size)⟩
  ·obtain rfl : i = cs.length := by omega
   go_wp2_with fail
   go_ret
   exact ⟨rfl, HB.out.trans (HW.out.mono HB.out.size)⟩
end
section
open Go.RowKit
theorem uU (en : Int) : ∀ (f : Nat) (acc : List Fn), NoNil (eD en f acc)
 | 0, acc => dD acc
 | f + 1, acc => fun l er pos e => by
  unfold eD at e
  split at e
  ·cases e
  ·exact ((qi en).bind fun x => uU en f (acc ++ [x])) _ _ _ e
theorem vq {s : List UInt8} {er p : Int} (h : dk s = .error (er, p)) : er ≠ 0 := by
 unfold dk at h
 split at h
 ·rename_i q
  cases h
  exact oK q
 ·split at h
  ·rename_i q
   cases h
   exact uU _ _ _ _ _ _ q
  ·cases h
theorem vn {s : List UInt8} {er p : Int} (h : cW s = .error (er, p)) : er ≠ 0 := by
 unfold cW at h
 split at h
 ·rename_i q
  cases h
  exact vq q
 ·split at h
  ·rename_i q
   injection h with h
   rw [h] at q
   exact q
  ·cases h
theorem vN {l : List Fn} {er : Int} (h : dB l = .error er) : er ≠ 0 := by
 unfold dB at h
 split at h
 ·rename_i q
  injection h with h
  rw [← h]; exact q
 ·split at h
  ·cases h
  ·injection h with h
   rw [← h]; decide
theorem xm {l : List Fn} {m : Mdl} (h : dB l = .ok m) : m = cM l ∧ (bw l).1 = 0 := by
 unfold dB at h
 split at h
 ·cases h
 ·rename_i q
  split at h
  ·injection h with h
   exact ⟨h.symm, by simpa using q⟩
  ·cases h
theorem wY : ∃ m, dB [] = .ok m := by
 have h : (match dB [] with | .ok _ => true | .error _ => false) = true := by kernel_rfl
 cases e : dB [] with
 | ok m => exact ⟨m, rfl⟩
 | error er => rw [e] at h; cases h
theorem vz {s : List UInt8} {er p : Int} (h : jt s = .error (er, p)) : er ≠ 0 := by
 unfold jt at h
 split at h
 ·rename_i q
  cases h
  exact vn q
 ·split at h
  ·rename_i q
   cases h
   exact vN q
  ·cases h
theorem u7 {s : List UInt8} {m : Mdl} (h : jt s = .ok m) : ∃ l, cW s = .ok l ∧ (bw l).1 = 0 ∧ m = cM l ∧ gN (cM l) = true := by
 unfold jt at h
 split at h
 ·cases h
 ·rename_i l hl
  split at h
  ·cases h
  ·rename_i m' hm
   cases h
   unfold dB at hm
   split at hm
   ·cases hm
   ·rename_i q
    split at hm
    ·rename_i q2
     cases hm
     exact ⟨l, hl, by simpa using q, rfl, q2⟩
    ·cases hm
end
end Go.Proofs.YtjblihabklemfaaGreatDoor
