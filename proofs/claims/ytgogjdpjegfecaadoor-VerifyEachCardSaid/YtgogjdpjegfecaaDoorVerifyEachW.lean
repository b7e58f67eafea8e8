/-
  The walk of VerifyEach.
-/
import Derived.Test.YtgogjdpjegfecaaDoorVerifyEachP
import Derived.Test.YtgogjdpjegfecaaDoorVerifyFallsW
import Derived.Test.YtgogjdpjegfecaaDoorAppendAny
namespace Go.Proofs.YtgogjdpjegfecaaDoor
open Go.RowKit
attribute [local go_sem ↓] Go.wp_at_zero Go.wp_at_succ

/-- the first i instructions call nobody, and have no texts -/
def Quiet (c : Cd) (i : Nat) : Prop := ∀ j, j < i → (c.ins.getD j default).op ≠ 14 ∧ (c.ins.getD j default).op ≠ 4
theorem Quiet.zero (c : Cd) : Quiet c 0 := fun j hj => absurd hj (by omega)
theorem Quiet.succ {c : Cd} {i : Nat} (h : Quiet c i) (h1 : (c.ins.getD i default).op ≠ 14) (h2 : (c.ins.getD i default).op ≠ 4) : Quiet c (i + 1) := fun j hj => by
  by_cases e : j = i
  · subst e; exact ⟨h1, h2⟩
  · exact h j (by omega)
/-- the first k instructions do not call number n -/
def NoCall (n : Int) (d : Cd) (k : Nat) : Prop := ∀ j, j < k → ¬ ((d.ins.getD j default).op = 14 ∧ (d.ins.getD j default).a = n)
theorem NoCall.zero (n : Int) (d : Cd) : NoCall n d 0 := fun j hj => absurd hj (by omega)
theorem NoCall.succ {n : Int} {d : Cd} {k : Nat} (h : NoCall n d k) (h1 : ¬ ((d.ins.getD k default).op = 14 ∧ (d.ins.getD k default).a = n)) : NoCall n d (k + 1) := fun j hj => by
  by_cases e : j = k
  · subst e; exact h1
  · exact h j (by omega)
/-- the first i functions have other names, and do not call number n -/
def Apart (m : Mdl) (c : Cd) (i : Nat) : Prop := ∀ j, j < i → (m.codes.getD j default).name ≠ c.name ∧ NoCall m.codes.length (m.codes.getD j default) (m.codes.getD j default).ins.length
theorem Apart.zero (m : Mdl) (c : Cd) : Apart m c 0 := fun j hj => absurd hj (by omega)
theorem Apart.succ {m : Mdl} {c : Cd} {i : Nat} (h : Apart m c i) (h1 : (m.codes.getD i default).name ≠ c.name) (h2 : NoCall m.codes.length (m.codes.getD i default) (m.codes.getD i default).ins.length) : Apart m c (i + 1) := fun j hj => by
  by_cases e : j = i
  · subst e; exact ⟨h1, h2⟩
  · exact h j (by omega)

theorem news_of {W : World} {g : Nat} {arr : Array Value} {t : TypeId} {fz : Nat × Nat} (h : W.heap[g]? = some (.cells arr t fz)) {s1 : Option Addr} (hs : s1 = some ⟨g, 0, none⟩) : ∀ ad, s1 = some ad → ∀ j u, arr.toList[j]? = some u → W.cell? (ad.add j) = some u := by
  intro ad ha j u hj
  rw [hs] at ha
  injection ha with ha
  subst ha
  rw [Go.WideShapes.add_plain, Nat.zero_add]
  simp [World.cell?, h]
  simpa using hj
theorem cdsV_congr {c0 c1 c2 c3 c4 d0 d1 d2 d3 d4 : Nat → Value} (n : Nat) (h : ∀ i, i < n → c0 i = d0 i ∧ c1 i = d1 i ∧ c2 i = d2 i ∧ c3 i = d3 i ∧ c4 i = d4 i) : cdsV c0 c1 c2 c3 c4 n = cdsV d0 d1 d2 d3 d4 n := by
  induction n with
  | zero => rfl
  | succ n ih =>
    obtain ⟨h0, h1, h2, h3, h4⟩ := h n (by omega)
    rw [cdsV_succ, cdsV_succ, ih (fun i hi => h i (by omega)), h0, h1, h2, h3, h4]
theorem rep_more {W : World} {base g cap k n : Nat} {u1 y0 y1 y2 y3 y4 : Value} {xs : List Value} {c0 c1 c2 c3 c4 : Nat → Value} {m : Mdl} {c : Cd} (h : W.ownsRow base 30 5 (.slice (some ⟨g, 0, none⟩) k cap) k xs) (hk : k = n + 1) (hx : xs = cdsV c0 c1 c2 c3 c4 n ++ [y0, y1, y2, y3, y4])
    (hn : n = m.codes.length) (hb : n < 64) (hc : ∀ i, i < n → RepCd W (c0 i) (c1 i) (c2 i) (c3 i) (c4 i) (m.codes.getD i default)) (hcc : RepCd W y0 y1 y2 y3 y4 c) (ht : RepTexts W u1 m.texts) :
    RepMdl W (.agg #[.slice (some ⟨g, 0, none⟩) k cap, u1]) (m.more c) := by
  subst hk
  have hlen : (m.more c).codes.length = n + 1 := by simp [Mdl.more, hn]
  have hx2 : xs = cdsV (fun i => if i = n then y0 else c0 i) (fun i => if i = n then y1 else c1 i) (fun i => if i = n then y2 else c2 i) (fun i => if i = n then y3 else c3 i) (fun i => if i = n then y4 else c4 i) (n + 1) := by
    rw [hx, cdsV_succ]
    simp only [if_true]
    rw [cdsV_congr (d0 := fun i => if i = n then y0 else c0 i) (d1 := fun i => if i = n then y1 else c1 i) (d2 := fun i => if i = n then y2 else c2 i) (d3 := fun i => if i = n then y3 else c3 i) (d4 := fun i => if i = n then y4 else c4 i) n (fun i hi => ⟨(if_neg (Nat.ne_of_lt hi)).symm, (if_neg (Nat.ne_of_lt hi)).symm, (if_neg (Nat.ne_of_lt hi)).symm, (if_neg (Nat.ne_of_lt hi)).symm, (if_neg (Nat.ne_of_lt hi)).symm⟩)]
  rw [hx2] at h
  obtain ⟨h1, ⟨arr, h2⟩, h3, h4, h5⟩ := own_row h
  unfold maxLen at h5
  refine ⟨_, _, rfl, ⟨some ⟨g, 0, none⟩, cap, (fun i => if i = n then y0 else c0 i), (fun i => if i = n then y1 else c1 i), (fun i => if i = n then y2 else c2 i), (fun i => if i = n then y3 else c3 i), (fun i => if i = n then y4 else c4 i), by rw [hlen], (by rw [hlen]; unfold big; omega), by rw [hlen]; exact h4, by unfold capOk; omega, fun e => (by cases e), fun _ => ⟨g, 0, rfl, lt_of_block h2, fun i hi => ?_⟩, fun i hi => ?_⟩, ht⟩
  · rw [hlen] at hi
    simpa using h3 i hi
  · rw [hlen] at hi
    by_cases e : i = n
    · subst e
      simp only [if_true]
      have : (m.more c).codes.getD i default = c := by simp [Mdl.more, List.getD_eq_getElem?_getD, hn]
      rw [this]
      exact hcc
    · simp only [if_neg e]
      have : (m.more c).codes.getD i default = m.codes.getD i default := by
        have hlt : i < m.codes.length := by omega
        simp [Mdl.more, List.getD_eq_getElem?_getD, List.getElem?_append_left hlt]
      rw [this]
      exact hc i (by omega)

set_option maxRecDepth 100000 in
set_option maxHeartbeats 8000000 in
theorem each_any {v0 v1 x0 x1 x2 x3 x4 : Value} {m : Mdl} {c : Cd} (w : World) (hm : RepMdl w (.agg #[v0, v1]) m) (hc : RepCd w x0 x1 x2 x3 x4 c) (hsg : Signs w) : Calls Tryd.prog 3 #[.agg #[v0, v1], .agg #[x0, x1, x2, x3, x4]] w fun x w' => x = .returned (.bool true) ∧ Below w.heap.size w w' := by
  have HG := Lib.hid hsg
  have HM := Lib.hid hm
  have HCD := Lib.hid hc
  obtain ⟨u0, u1, hag, h0, h1⟩ := hm
  simp only [Value.agg.injEq, Array.mk.injEq, List.cons.injEq, and_true] at hag
  obtain ⟨rfl, rfl⟩ := hag
  obtain ⟨s0, cap0, c0, c1, c2, c3, c4, rfl, n0, l0, k0, nn0, r0, rc⟩ := h0
  have HTX := Lib.hid h1
  obtain ⟨s1, cap1, d0, rfl, n1, l1, k1, nn1, r1, rt⟩ := h1
  obtain ⟨hnm, hnl, hpr, hrs, hsl, hin, _, _⟩ := hc
  obtain ⟨sp, cp, rfl, bp, lp, kp, np, rp, _⟩ := hpr
  obtain ⟨si, ci, rfl, bi, li, ki, ni, ri, ai⟩ := hin
  subst hnm hrs hsl
  unfold big at n0 n1 bp bi hnl
  have HR0 := Lib.hid r0
  have HC := Lib.hid rc
  have HRI := Lib.hid ri
  have HAI := Lib.hid ai
  have NN0 : Hid (s0 = none → m.codes.length = 0 ∧ cap0 = 0) := Lib.hid (fun h => by have := nn0 h; omega)
  clear r0 r1 rc rt nn0 nn1 ri ai rp np ni kp ki
  go_enter Tryd.func3, Tryd.ntmps3
  go_wp2_with fail
  have hb0 : Below w.heap.size w ((w.alloc (Obj.cells #[Value.slice s0 m.codes.length cap0, Value.slice s1 m.texts.length cap1] 25)).alloc (Obj.cells #[.string c.name, .slice sp c.params.length cp, .int .i64 c.result, .int .i64 c.slots, .slice si c.ins.length ci] 30)) := up_alloc (up_alloc (Below.refl _ _) _) _
  refine (head_any _ (hsg.below hb0)).mono ?_
  rintro x w1 ⟨rfl, hb1⟩
  have HB1 := Lib.hid (up_trans hb0 hb1)
  have z1 := hb1.size
  rw [size_alloc, size_alloc] at z1
  have q0 := (up_cell hb1 w.heap.size 0 (by rw [size_alloc, size_alloc]; omega)).trans (old_cell _ (new_cell _ _ _ _ _ _ rfl rfl))
  have q1 := (up_cell hb1 w.heap.size 1 (by rw [size_alloc, size_alloc]; omega)).trans (old_cell _ (new_cell _ _ _ _ _ _ rfl rfl))
  have p0 := (up_cell hb1 (w.heap.size + 1) 0 (by rw [size_alloc, size_alloc]; omega)).trans (new_cell _ _ _ _ _ _ (size_alloc _ _) rfl)
  have p1 := (up_cell hb1 (w.heap.size + 1) 1 (by rw [size_alloc, size_alloc]; omega)).trans (new_cell _ _ _ _ _ _ (size_alloc _ _) rfl)
  have p2 := (up_cell hb1 (w.heap.size + 1) 2 (by rw [size_alloc, size_alloc]; omega)).trans (new_cell _ _ _ _ _ _ (size_alloc _ _) rfl)
  have p3 := (up_cell hb1 (w.heap.size + 1) 3 (by rw [size_alloc, size_alloc]; omega)).trans (new_cell _ _ _ _ _ _ (size_alloc _ _) rfl)
  have p4 := (up_cell hb1 (w.heap.size + 1) 4 (by rw [size_alloc, size_alloc]; omega)).trans (new_cell _ _ _ _ _ _ (size_alloc _ _) rfl)
  clear hsg hb0 hb1
  go_wp2_with fail
  refine (great_any (HM.out.later HB1.out)).mono ?_
  rintro x w2 ⟨gr, rfl, hb2⟩
  have HB2 := Lib.hid (up_trans HB1.out hb2)
  have z2 := hb2.size
  have r0 := (up_cell hb2 _ _ (by omega)).trans q0
  have r1 := (up_cell hb2 _ _ (by omega)).trans q1
  have t0 := (up_cell hb2 _ _ (by omega)).trans p0
  have t1 := (up_cell hb2 _ _ (by omega)).trans p1
  have t2 := (up_cell hb2 _ _ (by omega)).trans p2
  have t3 := (up_cell hb2 _ _ (by omega)).trans p3
  have t4 := (up_cell hb2 _ _ (by omega)).trans p4
  clear q0 q1 p0 p1 p2 p3 p4 hb2
  cases gr
  rotate_left 1
  · go_wp2_with fail
    go_ret
    exact ⟨rfl, HB2.out⟩
  by_cases hl1 : 1000 < c.ins.length
  · have hd : (1000 : Int) < (c.ins.length : Int) := by omega
    go_wp2_with fail
    go_ret
    exact ⟨rfl, HB2.out⟩
  by_cases hl2 : 64 ≤ m.codes.length
  · have hd : ¬ (1000 : Int) < (c.ins.length : Int) := by omega
    have hd2 : (64 : Int) ≤ (m.codes.length : Int) := by omega
    go_wp2_with fail
    go_ret
    exact ⟨rfl, HB2.out⟩
  go_wp2_with fail
  go_loopw [6] (fun s6 wr => ∃ i nd : Nat, i ≤ c.ins.length ∧ s6 = .int .i64 i ∧ Quiet c i ∧ wr = w2.drewN nd) (fun s6 _ => c.ins.length - (intOf s6).toNat)
  case atStart => exact ⟨0, 0, Nat.zero_le _, rfl, Quiet.zero _, rfl⟩
  case round =>
    obtain ⟨i, ne, hi, rfl, hq, rfl⟩ := hrel
    by_cases hlt : i < c.ins.length
    · obtain ⟨b, off, hsi, hbl, hrow⟩ := HRI.out (by omega)
      subst hsi
      obtain ⟨a0, a1⟩ := hrow i hlt
      have y0 := (up_cell HB2.out _ _ hbl).trans a0
      have y1 := (up_cell HB2.out _ _ hbl).trans a1
      dsimp only at y0 y1
      clear a0 a1 hrow
      generalize hop : (c.ins.getD i default).op = op at *
      by_cases h14 : op = 14
      · have hd : (op == 14) = true := by simp [h14]
        go_wp2_with fail
        go_ret
        exact ⟨rfl, up_drewN HB2.out _⟩
      by_cases h4 : op = 4
      · have hd : (op == 14) = false := by simp [h14]
        have hd2 : (op == 4) = true := by simp [h4]
        go_wp2_with fail
        go_ret
        exact ⟨rfl, up_drewN HB2.out _⟩
      have hd : (op == 14) = false := by simp [h14]
      have hd2 : (op == 4) = false := by simp [h4]
      have HQ := Lib.hid (hq.succ (by rw [hop]; exact h14) (by rw [hop]; exact h4))
      clear hop h14 h4
      go_wp2_with fail
      go_roundw
      case rel => exact ⟨i + 1, _, by omega, by go_num, HQ.out, rfl⟩
      case measure => simp [intOf]; omega
    · have hie : i = c.ins.length := by omega
      subst hie
      have HQ := Lib.hid hq
      clear hlt hq
      go_wp2_with fail
      go_loopw [7, 8] (fun s7 s8 wr => ∃ (i n : Nat), i ≤ m.codes.length ∧ s7 = .int .i64 i ∧ Apart m c i ∧ wr = w2.drewN n) (fun s7 s8 _ => m.codes.length - (intOf s7).toNat)
      case atStart => exact ⟨0, ne, Nat.zero_le _, rfl, Apart.zero _ _, rfl⟩
      case round =>
        obtain ⟨i, nd, hi2, rfl, hap, rfl⟩ := hrel
        by_cases hlt : i < m.codes.length
        · obtain ⟨b, off, hs0, hbl, hrow⟩ := HR0.out (by omega)
          subst hs0
          obtain ⟨a0, a1, a2, a3, a4⟩ := hrow i hlt
          have hcd := HC.out i hlt
          have hnm := hcd.name
          have hnl2 := hcd.nameLen
          obtain ⟨sj, cj, e4, bj, _, _, _, rj, _⟩ := hcd.ins
          rw [hnm] at a0
          rw [e4] at a4
          unfold big at bj hnl2
          have y0 := (up_cell HB2.out _ _ hbl).trans a0
          have y4 := (up_cell HB2.out _ _ hbl).trans a4
          have HRJ := Lib.hid rj
          have HAP := Lib.hid hap
          clear a0 a1 a2 a3 a4 hrow hcd hnm e4 rj hap
          generalize hD : m.codes.getD i default = D at *
          have HD := Lib.hid hD
          clear hD
          cases hname : (D.name.toList == c.name.toList)
          rotate_left 1
          · go_wp2_with fail
            go_quiet (fail)
            go_wp2_with fail
            go_ret
            exact ⟨rfl, by first | exact up_drewN HB2.out _ | exact up_drewN (up_drewN HB2.out _) _⟩
          have HNE : Hid (D.name ≠ c.name) := Lib.hid (fun e => by rw [e] at hname; simp at hname)
          go_wp2_with fail
          go_quiet (fail)
          go_wp2_with fail
          clear hname
          go_loopw [8] (fun s8 wr => ∃ (k n : Nat), k ≤ D.ins.length ∧ s8 = .int .i64 k ∧ NoCall m.codes.length D k ∧ wr = w2.drewN n) (fun s8 _ => D.ins.length - (intOf s8).toNat)
          case atStart => exact ⟨0, _, Nat.zero_le _, rfl, NoCall.zero _ _, by first | rfl | exact World.drewN_drewN ..⟩
          case round =>
            obtain ⟨k, n2, hk, rfl, hno, rfl⟩ := hrel
            by_cases hkl : k < D.ins.length
            · obtain ⟨bb, oo, hsj, hbbl, hrow⟩ := HRJ.out (by omega)
              subst hsj
              obtain ⟨a0, a1⟩ := hrow k hkl
              have g0 := (up_cell HB2.out _ _ hbbl).trans a0
              have g1 := (up_cell HB2.out _ _ hbbl).trans a1
              dsimp only at g0 g1
              clear a0 a1 hrow
              generalize hop : (D.ins.getD k default).op = op at *
              generalize hoa : (D.ins.getD k default).a = oa at *
              have HNO := Lib.hid (hno.succ (k := k))
              clear hno
              by_cases h14 : op = 14
              · have hd : (op == 14) = true := by simp [h14]
                by_cases hal : oa = (m.codes.length : Int)
                · have hd2 : (oa == (m.codes.length : Int)) = true := by simp [hal]
                  clear hop hoa h14 hal
                  go_wp2_with fail
                  go_quiet (fail)
                  go_wp2_with fail
                  go_ret
                  exact ⟨rfl, by first | exact up_drewN HB2.out _ | exact up_drewN (up_drewN HB2.out _) _⟩
                · have hd2 : (oa == (m.codes.length : Int)) = false := by simp [hal]
                  have HNO2 := Lib.hid (HNO.out (by rw [hoa]; exact fun h => hal h.2))
                  clear hop hoa h14 hal
                  go_wp2_with fail
                  go_quiet (fail)
                  go_wp2_with fail
                  go_roundw
                  case rel => exact ⟨k + 1, _, by omega, by go_num, HNO2.out, rfl⟩
                  case measure => simp [intOf]; omega
              · have hd : (op == 14) = false := by simp [h14]
                have HNO2 := Lib.hid (HNO.out (by rw [hop]; exact fun h => h14 h.1))
                clear hop hoa h14
                go_wp2_with fail
                go_quiet (fail)
                go_wp2_with fail
                go_roundw
                case rel => exact ⟨k + 1, _, by omega, by go_num, HNO2.out, rfl⟩
                case measure => simp [intOf]; omega
            · have hke : k = D.ins.length := by omega
              have HNO := Lib.hid (hke ▸ hno)
              have HAP2 : Hid (Apart m c (i + 1)) := Lib.hid (HAP.out.succ (by rw [HD.out]; exact HNE.out) (by rw [HD.out]; exact HNO.out))
              subst hke
              clear hno hkl
              go_wp2_with fail
              go_roundw
              case rel => exact ⟨i + 1, _, by omega, by go_num, HAP2.out, rfl⟩
              case measure => simp [intOf]; omega
        · have hie : i = m.codes.length := by omega
          subst hie
          have HAP := Lib.hid hap
          have HBD := Lib.hid (up_drewN HB2.out nd)
          clear hlt hap hi2
          go_wp2_with fail
          have HU1 := Lib.hid (up_alloc HBD.out (Obj.cells #[.string c.name, .slice sp c.params.length cp, .int .i64 c.result, .int .i64 c.slots, .slice si c.ins.length ci] 30))
          refine (check_any _ ⟨[c], []⟩ _ ⟨_, _, rfl, codes_one (new_cell _ _ _ _ _ _ rfl rfl) (new_cell _ _ _ _ _ _ rfl rfl) (new_cell _ _ _ _ _ _ rfl rfl) (new_cell _ _ _ _ _ _ rfl rfl) (new_cell _ _ _ _ _ _ rfl rfl) (HCD.out.later HU1.out), texts_nil _⟩ (HG.out.below HU1.out)).mono ?_
          rintro e w3 ⟨x, rfl, hx, hb3⟩
          have HX := Lib.hid hx
          have HB3 := Lib.hid (up_trans HU1.out hb3)
          have zz3 := hb3.size
          rw [size_alloc] at zz3
          have e0 := (up_cell hb3 _ _ (by rw [size_alloc]; show _ < w2.heap.size + 1; omega)).trans (old_cell _ r0)
          have e1 := (up_cell hb3 _ _ (by rw [size_alloc]; show _ < w2.heap.size + 1; omega)).trans (old_cell _ r1)
          have f0 := (up_cell hb3 _ _ (by rw [size_alloc]; show _ < w2.heap.size + 1; omega)).trans (old_cell _ t0)
          have f1 := (up_cell hb3 _ _ (by rw [size_alloc]; show _ < w2.heap.size + 1; omega)).trans (old_cell _ t1)
          have f2 := (up_cell hb3 _ _ (by rw [size_alloc]; show _ < w2.heap.size + 1; omega)).trans (old_cell _ t2)
          have f3 := (up_cell hb3 _ _ (by rw [size_alloc]; show _ < w2.heap.size + 1; omega)).trans (old_cell _ t3)
          have f4 := (up_cell hb3 _ _ (by rw [size_alloc]; show _ < w2.heap.size + 1; omega)).trans (old_cell _ t4)
          clear hx hb3 r0 r1 t0 t1 t2 t3 t4
          go_wp2_with fail
          refine (check_any _ _ _ (HM.out.later HB3.out) (HG.out.below HB3.out)).mono ?_
          rintro e w4 ⟨y, rfl, hy, hb4⟩
          have HY := Lib.hid hy
          have HB4 := Lib.hid (up_trans HB3.out hb4)
          have zz4 := hb4.size
          have zw : (w2.drewN nd).heap.size = w2.heap.size := rfl
          rw [zw] at zz3
          have r0 := (up_cell hb4 _ _ (by omega)).trans e0
          have r1 := (up_cell hb4 _ _ (by omega)).trans e1
          have t0 := (up_cell hb4 _ _ (by omega)).trans f0
          have t1 := (up_cell hb4 _ _ (by omega)).trans f1
          have t2 := (up_cell hb4 _ _ (by omega)).trans f2
          have t3 := (up_cell hb4 _ _ (by omega)).trans f3
          have t4 := (up_cell hb4 _ _ (by omega)).trans f4
          clear zw hy hb4 e0 e1 f0 f1 f2 f3 f4
          by_cases hx1 : x = 111
          · have hd : (x == 111) = true := by simp [hx1]
            go_wp2_with fail
            go_ret
            exact ⟨rfl, HB4.out⟩
          by_cases hy1 : y = 111
          · have hd : (x == 111) = false := by simp [hx1]
            have hd2 : (y == 111) = true := by simp [hy1]
            go_wp2_with fail
            go_ret
            exact ⟨rfl, HB4.out⟩
          have hd : (x == 111) = false := by simp [hx1]
          have hd2 : (y == 111) = false := by simp [hy1]
          have HX1 := Lib.hid hx1
          have HY1 := Lib.hid hy1
          clear hx1 hy1
          obtain ⟨i0, hi0, hz0, hz1, hz2⟩ := infoCd
          have HI0 := Lib.hid hi0
          have HONE := Lib.hid (cds_one HC.out)
          have HONC : Hid (∀ u ∈ ([.string c.name, .slice sp c.params.length cp, .int .i64 c.result, .int .i64 c.slots, .slice si c.ins.length ci] : List Value), u.oneCell' = true) := Lib.hid (fun u hu => by
            simp at hu
            rcases hu with rfl | rfl | rfl | rfl | rfl <;> rfl)
          have HNEWS : Hid (∀ W, Below w4.heap.size w4 W → ∀ ad, s0 = some ad → ∀ j u, (cdsV c0 c1 c2 c3 c4 m.codes.length)[j]? = some u → W.cell? (ad.add j) = some u) := Lib.hid (fun W hW ad ha j u hj => by
            obtain ⟨i, hi, _⟩ := cdsV_some hj
            obtain ⟨b, off, hs, _⟩ := HR0.out (by omega)
            rw [hs] at ha
            injection ha with ha
            subst ha
            exact cds_news (hs ▸ HR0.out) (HB4.out.trans (hW.mono HB4.out.size)) j u hj)
          have HK := Lib.hid (fun W (hW : Below w4.heap.size w4 W) => And.intro ((up_cell hW _ _ (by omega)).trans r0) (And.intro ((up_cell hW _ _ (by omega)).trans r1) (And.intro ((up_cell hW _ _ (by omega)).trans t0) (And.intro ((up_cell hW _ _ (by omega)).trans t1) (And.intro ((up_cell hW _ _ (by omega)).trans t2) (And.intro ((up_cell hW _ _ (by omega)).trans t3) ((up_cell hW _ _ (by omega)).trans t4)))))))
          clear hi0
          go_upto_region 23 with fail
          go_cut [11] (fun s11 wx => ∃ z : Int, s11 = .int .i64 z ∧ CheckIs (m.more c) z ∧ Below w4.heap.size w4 wx)
          case first =>
            go_region_held3 (fun w' => w'.cell? ⟨w.heap.size, 0, none⟩ = some (.slice s0 m.codes.length cap0) ∧ w'.cell? ⟨w.heap.size, 1, none⟩ = some (.slice s1 m.texts.length cap1) ∧ w'.cell? ⟨w.heap.size + 1, 0, none⟩ = some (.string c.name) ∧ w'.cell? ⟨w.heap.size + 1, 1, none⟩ = some (.slice sp c.params.length cp) ∧ w'.cell? ⟨w.heap.size + 1, 2, none⟩ = some (.int .i64 c.result) ∧ w'.cell? ⟨w.heap.size + 1, 3, none⟩ = some (.int .i64 c.slots) ∧ w'.cell? ⟨w.heap.size + 1, 4, none⟩ = some (.slice si c.ins.length ci))
              (first
                | exact HK.out _ hB7
                | exact HK.out _ hB6
                | exact HK.out _ hB5
                | exact HK.out _ (by repeat (first | exact hB6 | exact hB5 | exact Below.refl _ _ | refine up_drew ?_ | refine up_alloc ?_ _)))
              ((first | (go_at_call 9; (with_reducible refine (check_any _ (m.more c) _ (rep_more hown6 (n := m.codes.length) rfl rfl rfl (by omega) (fun i hi => (HC.out i hi).later (HB4.out.trans (hB6.mono HB4.out.size))) (HCD.out.later (HB4.out.trans (hB6.mono HB4.out.size))) (HTX.out.later (HB4.out.trans (hB6.mono HB4.out.size)))) (HG.out.below (HB4.out.trans (hB6.mono HB4.out.size)))).mono ?_); rintro e w7 ⟨z, rfl, hz, hb7⟩; have hB7 := hB6.trans (hb7.mono hB6.size); have HZ := Lib.hid hz; clear hz hb7) | (refine step_append_any (by rfl) _ _ _ (by rfl) w4.heap.size 30 i0 _ 5 80 Tryd.underlying22 HI0.out hz0 hz1 hz2 rfl (by omega) (w4.heap.size) 0 0 [] (by rfl) (own_empty (new_heap _ _ _ rfl) (Nat.le_refl _)) s0 m.codes.length cap0 (cdsV c0 c1 c2 c3 c4 m.codes.length) (by rfl) NN0.out (cdsV_len _ _ _ _ _ _) (HNEWS.out _ (by repeat (first | exact Below.refl _ _ | refine up_drew ?_ | refine up_alloc ?_ _))) HONE.out (by unfold maxLen; omega) (by omega) (by simp <;> omega) ?_; intro gg cap w5 hown5 hgrow5; have hB5 := grown_keep (w3 := w4) (g := w4.heap.size) hgrow5 (by repeat (first | exact Below.refl _ _ | refine up_drew ?_ | refine up_alloc ?_ _)) (by omega); have zz5 := hB5.size) | (refine step_append_any (by rfl) _ _ _ (by rfl) w4.heap.size 30 i0 _ 5 80 Tryd.underlying22 HI0.out hz0 hz1 hz2 rfl (by omega) (w4.heap.size) 0 0 [] (by rfl) (own_old (Nat.le_refl _) (new_heap _ _ _ rfl) _) s0 m.codes.length cap0 (cdsV c0 c1 c2 c3 c4 m.codes.length) (by rfl) NN0.out (cdsV_len _ _ _ _ _ _) (HNEWS.out _ (by repeat (first | exact Below.refl _ _ | refine up_drew ?_ | refine up_alloc ?_ _))) HONE.out (by unfold maxLen; omega) (by omega) (by simp <;> omega) ?_; intro gg cap w5 hown5 hgrow5; have hB5 := grown_keep (w3 := w4) (g := w4.heap.size) hgrow5 (by repeat (first | exact Below.refl _ _ | refine up_drew ?_ | refine up_alloc ?_ _)) (by omega); have zz5 := hB5.size; have HCB := Lib.hid (grown_heap (g := w4.heap.size) (b := w4.heap.size + 1) hgrow5 (by omega) (new_heap _ _ _ (by simp)))) | (refine step_append_any (by rfl) _ _ _ (by rfl) w4.heap.size 30 i0 _ 5 80 Tryd.underlying22 HI0.out hz0 hz1 hz2 rfl (by omega) (w4.heap.size + 1) 0 0 [] (by rfl) (own_empty (new_heap _ _ _ (by simp)) (by omega)) s0 m.codes.length cap0 (cdsV c0 c1 c2 c3 c4 m.codes.length) (by rfl) NN0.out (cdsV_len _ _ _ _ _ _) (HNEWS.out _ (by repeat (first | exact Below.refl _ _ | refine up_drew ?_ | refine up_alloc ?_ _))) HONE.out (by unfold maxLen; omega) (by omega) (by simp <;> omega) ?_; intro gg cap w5 hown5 hgrow5; have hB5 := grown_keep (w3 := w4) (g := w4.heap.size + 1) hgrow5 (by repeat (first | exact Below.refl _ _ | refine up_drew ?_ | refine up_alloc ?_ _)) (by omega); have zz5 := hB5.size; have HCB := Lib.hid (grown_heap (g := w4.heap.size + 1) (b := w4.heap.size) hgrow5 (by omega) (ad_heap _ (new_heap _ _ _ rfl)))) | (refine step_append_any (by rfl) _ _ _ (by rfl) w4.heap.size 30 i0 _ 5 80 Tryd.underlying22 HI0.out hz0 hz1 hz2 rfl (by omega) gg _ cap (cdsV c0 c1 c2 c3 c4 m.codes.length) (by rfl) (by rw [Nat.zero_add, List.nil_append] at hown5; (try rw [Nat.zero_add]); exact (hown5.alloc _).drew) (some ⟨w5.heap.size, 0, none⟩) 1 1 [.string c.name, .slice sp c.params.length cp, .int .i64 c.result, .int .i64 c.slots, .slice si c.ins.length ci] (by rfl) (fun e => by cases e) rfl (news_of (new_heap _ _ _ rfl) rfl) HONC.out (by unfold maxLen; omega) (by omega) (by (try simp) <;> (try omega)) ?_; intro g6 cap6 w6 hown6 hgrow6; (try simp only [Nat.zero_add] at hown6); have hB6 := grown_keep (w3 := w4) (g := gg) hgrow6 (by repeat (first | exact hB5 | refine up_drew ?_ | refine up_alloc ?_ _)) (hown5.lt gg rfl).1) | (refine step_append_any (by rfl) _ _ _ (by rfl) w4.heap.size 30 i0 _ 5 80 Tryd.underlying22 HI0.out hz0 hz1 hz2 rfl (by omega) gg _ cap (cdsV c0 c1 c2 c3 c4 m.codes.length) (by rfl) (by rw [Nat.zero_add, List.nil_append] at hown5; (try rw [Nat.zero_add]); exact hown5) (some ⟨w4.heap.size + 1, 0, none⟩) 1 1 [.string c.name, .slice sp c.params.length cp, .int .i64 c.result, .int .i64 c.slots, .slice si c.ins.length ci] (by rfl) (fun e => by cases e) rfl (news_of HCB.out rfl) HONC.out (by unfold maxLen; omega) (by omega) (by (try simp) <;> (try omega)) ?_; intro g6 cap6 w6 hown6 hgrow6; (try simp only [Nat.zero_add] at hown6); have hB6 := grown_keep (w3 := w4) (g := gg) hgrow6 hB5 (hown5.lt gg rfl).1) | (refine step_append_any (by rfl) _ _ _ (by rfl) w4.heap.size 30 i0 _ 5 80 Tryd.underlying22 HI0.out hz0 hz1 hz2 rfl (by omega) gg _ cap (cdsV c0 c1 c2 c3 c4 m.codes.length) (by rfl) (by rw [Nat.zero_add, List.nil_append] at hown5; (try rw [Nat.zero_add]); exact hown5) (some ⟨w4.heap.size, 0, none⟩) 1 1 [.string c.name, .slice sp c.params.length cp, .int .i64 c.result, .int .i64 c.slots, .slice si c.ins.length ci] (by rfl) (fun e => by cases e) rfl (news_of HCB.out rfl) HONC.out (by unfold maxLen; omega) (by omega) (by (try simp) <;> (try omega)) ?_; intro g6 cap6 w6 hown6 hgrow6; (try simp only [Nat.zero_add] at hown6); have hB6 := grown_keep (w3 := w4) (g := gg) hgrow6 hB5 (hown5.lt gg rfl).1)))
            all_goals go_wp2_with fail
            all_goals go_meet
            all_goals exact ⟨z, rfl, HZ.out, hB7⟩
          case rest =>
            obtain ⟨z, rfl, hz, hbz⟩ := hcut
            have HF := Lib.hid (each_law HX.out HY.out hz HX1.out HY1.out (by omega) HQ.out (fun i hi => (HAP.out i hi).1) (fun i hi k hk => (HAP.out i hi).2 k hk))
            have HBZ := Lib.hid (HB4.out.trans (hbz.mono HB4.out.size))
            have hf := HF.out
            clear hz hbz
            cases hzx : (z == 0)
            all_goals
              cases hxx : (x == 0)
              all_goals
                cases hyy : (y == 0)
                all_goals
                  rw [hzx, hxx, hyy] at hf
                  first
                    | (cases hf; done)
                    | (clear hf
                       go_wp2_with fail
                       go_ret
                       exact ⟨rfl, HBZ.out⟩)
end Go.Proofs.YtgogjdpjegfecaaDoor
