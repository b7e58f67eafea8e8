/-
  How much of a program there is: the walks.
-/
import Derived.Test.YtpiamiaigjlafaaTyPlP
import Derived.Test.YtpiamiaigjlafaaTyHead
import Derived.IntWalk
namespace Go.Proofs.Ytpiamiaigjlafaa
open Go.RowKit

theorem ex_of {S : Nat → Prop} {w : World} {op num pos : Int} {text : ByteArray} {u : Value} {x : Ex} (h : RepEx S w [.int .i64 op, .int .i64 num, .string text, u, .int .i64 pos] x) : ∃ ks, x = .mk op num text ks pos ∧ RepExs S w u ks := by
  obtain ⟨op', num', text', ks, pos'⟩ := x
  obtain ⟨v, e, hk⟩ := h.kids
  simp only [List.cons.injEq, Value.int.injEq, Value.string.injEq, true_and, and_true] at e
  obtain ⟨rfl, rfl, rfl, rfl, rfl⟩ := e
  exact ⟨ks, rfl, hk⟩
theorem ex_form {S : Nat → Prop} {w : World} {cs : List Value} {x : Ex} (h : RepEx S w cs x) : ∃ op num text s n c pos, cs = [.int .i64 op, .int .i64 num, .string text, .slice s n c, .int .i64 pos] := by
  obtain ⟨op, num, text, v, pos, e, s, n, c, rfl⟩ := h.form
  exact ⟨op, num, text, s, n, c, pos, e⟩
theorem exMG_at (most n : Int) (l : List Ex) (i : Nat) (hi : i < l.length) (h : n ≤ most) : exMG most n (l.drop i) = exMG most (n + exMN (most - n) (l.getD i default).kids) (l.drop (i + 1)) := by
  rw [List.drop_eq_getElem_cons hi, exMG, if_pos h, exMK_eq, List.getD_eq_getElem?_getD, List.getElem?_eq_getElem hi]
  rfl
theorem exMG_end (most n : Int) (l : List Ex) (i : Nat) (hi : l.length ≤ i ∨ most < n) : exMG most n (l.drop i) = n := by
  rcases hi with hi | hi
  · rw [List.drop_eq_nil_of_le hi, exMG]
  · cases l.drop i with
    | nil => rw [exMG]
    | cons x r => rw [exMG, if_neg (by omega)]
theorem Ex.kids_lt {s : Ex} {l : List Ex} (h : s ∈ l) : SizeOf.sizeOf s.kids < SizeOf.sizeOf l := by
  have := List.sizeOf_lt_of_mem h
  obtain ⟨op, num, text, ks, pos⟩ := s
  simp only [Ex.kids]
  simp at this
  omega
set_option maxRecDepth 100000 in
set_option maxHeartbeats 4000000 in
theorem exprs_step (l : List Ex) (ih : ∀ s, s ∈ l → ∀ (w : World) (u : Value) (m : Int), 0 ≤ m → m ≤ 5000 → RepExs Any w u s.kids → Calls Try.prog 28 #[u, .int .i64 m] w fun e w' => e = .returned (.int .i64 (exMN m s.kids)) ∧ w = w') (w : World) (u : Value) (m : Int) (h0 : 0 ≤ m) (h1 : m ≤ 5000) (hr : RepExs Any w u l) :
    Calls Try.prog 28 #[u, .int .i64 m] w fun e w' => e = .returned (.int .i64 (exMN m l)) ∧ w = w' := by
  obtain ⟨cs, ⟨s0, cap, rfl, hle, hcm, _, hrow, hsz⟩, hit⟩ := hr
  have HIH := Lib.hid ih
  have HROW := Lib.hid hrow
  have HIT := Lib.hid hit
  unfold maxLen at hcm
  have hlen : l.length ≤ 9223372036854775807 := by omega
  have HAT := Lib.hid (exMG_at m)
  have HEND := Lib.hid (exMG_end m)
  have g0 : 0 ≤ min (l.length : Int) (m + 1) := by omega
  have g1 : min (l.length : Int) (m + 1) ≤ m + 1 := by omega
  generalize hR : exMN m l = R
  have HR := Lib.hid (show R = min (exMG m (min (l.length : Int) (m + 1)) (l.drop 0)) (m + 1) from hR.symm)
  clear ih hrow hit hsz hR hcm hle
  go_enter Try.func28, Try.ntmps28
  go_wp2_with fail
  generalize min (l.length : Int) (m + 1) = N0 at *
  go_loop [5, 6] (fun t5 t6 => ∃ (i : Nat) (n : Int), i ≤ l.length ∧ t5 = .int .i64 n ∧ t6 = .int .i64 (i : Int) ∧ 0 ≤ n ∧ n ≤ m + 1 ∧ R = min (exMG m n (l.drop i)) (m + 1)) (fun _ t6 => l.length - (intOf t6).toNat)
  case atStart => exact ⟨0, N0, Nat.zero_le _, rfl, rfl, g0, g1, HR.out⟩
  case round =>
    obtain ⟨i, n, hi, rfl, rfl, hn0, hn1, hR⟩ := hrel
    have HRR := Lib.hid hR
    clear hR g0 g1
    by_cases hlt : i < l.length ∧ n ≤ m
    · obtain ⟨hlt, hnm⟩ := hlt
      obtain ⟨b, off, hs0, _, hbl, hcell⟩ := HROW.out (by omega)
      subst hs0
      have hrep := HIT.out i hlt
      obtain ⟨op, num, text, s1, n1, c1, pos, hcs⟩ := ex_form hrep
      rw [hcs] at hrep
      have hc5 : ∀ j, j < 5 → w.cell? ⟨b, off + i * 5 + j, none⟩ = (cs i)[j]? := fun j hj => hcell i hlt j hj
      rw [hcs] at hc5
      have x3 : w.cell? ⟨b, off + i * 5 + 3, none⟩ = some (.slice s1 n1 c1) := hc5 3 (by decide)
      obtain ⟨ks, hs, hks⟩ := ex_of hrep
      have hmem : l.getD i default ∈ l := by rw [List.getD_eq_getElem?_getD, List.getElem?_eq_getElem hlt]; exact List.getElem_mem hlt
      have hih := HIH.out _ hmem w (.slice s1 n1 c1) (m - n) (by omega) (by omega)
      have hat := HAT.out n l i hlt hnm
      rw [hs] at hih hat
      simp only [Ex.kids] at hih hat
      have HC := Lib.hid (hih hks)
      have hv := exMN_nn (m - n) ks
      have hv0 := exMN_ge (most := m - n) (by omega) ks
      replace HRR := Lib.hid (HRR.out.trans (by rw [hat]))
      generalize exMN (m - n) ks = V at *
      clear hrep hc5 hcs hcell hih hks hs hat hmem
      go_wp2_with fail
      refine HC.out.mono ?_
      rintro e w' ⟨rfl, rfl⟩
      go_wp2_with fail
      go_round
      case rel => exact ⟨i + 1, n + V, by omega, rfl, by go_num, by omega, by omega, HRR.out⟩
      case measure => simp [intOf]; omega
    · have hd : (i = l.length ∧ n ≤ m) ∨ (i < l.length ∧ m < n) ∨ (i = l.length ∧ m < n) := by omega
      have HV := Lib.hid (HRR.out.trans (by rw [HEND.out n l i (by omega)]))
      clear hlt
      rcases hd with ⟨hd, hx⟩ | ⟨hd, hx⟩ | ⟨hd, hx⟩
      all_goals
        first
          | (obtain rfl := hd)
          | skip
        go_wp2_with fail
        go_ret
        exact ⟨by rw [HV.out]; rfl, rfl⟩
/-- exprs: whatever the row -/
theorem exprs_any (l : List Ex) (w : World) (u : Value) (m : Int) (h0 : 0 ≤ m) (h1 : m ≤ 5000) (hr : RepExs Any w u l) :
    Calls Try.prog 28 #[u, .int .i64 m] w fun e w' => e = .returned (.int .i64 (exMN m l)) ∧ w = w' :=
  exprs_step l (fun s _ w u m h0 h1 h => exprs_any s.kids w u m h0 h1 h) w u m h0 h1 hr
termination_by SizeOf.sizeOf l
decreasing_by exact Ex.kids_lt (by assumption)
theorem stMG_at (most n : Int) (l : List St) (i : Nat) (hi : i < l.length) (h : n ≤ most) : stMG most n (l.drop i) = stMG most (n + (stMN (most - n) (l.getD i default).body + stMN (most - n) (l.getD i default).els + exMN (most - n) (l.getD i default).exprs)) (l.drop (i + 1)) := by
  rw [List.drop_eq_getElem_cons hi, stMG, if_pos h, stMK_eq, List.getD_eq_getElem?_getD, List.getElem?_eq_getElem hi]
  rfl
theorem stMG_end (most n : Int) (l : List St) (i : Nat) (hi : l.length ≤ i ∨ most < n) : stMG most n (l.drop i) = n := by
  rcases hi with hi | hi
  · rw [List.drop_eq_nil_of_le hi, stMG]
  · cases l.drop i with
    | nil => rw [stMG]
    | cons x r => rw [stMG, if_neg (by omega)]
/-- so many: nothing but draws -/
def Counts (W : World) (n : Int) (e : Ending) (w' : World) : Prop := e = .returned (.int .i64 n) ∧ ∃ k, w' = W.drewN k
theorem drewN_stays (w : World) (n : Nat) : Stays Any w (w.drewN n) := Stays.of_below (up_drewN (Below.refl _ _) n)
set_option maxRecDepth 100000 in
set_option maxHeartbeats 4000000 in
theorem parts_step (l : List St) (ih : ∀ s, s ∈ l → ∀ (w : World) (u : Value) (m : Int), 0 ≤ m → m ≤ 5000 → (RepSts Any w u s.body → Calls Try.prog 16 #[u, .int .i64 m] w (Counts w (stMN m s.body))) ∧ (RepSts Any w u s.els → Calls Try.prog 16 #[u, .int .i64 m] w (Counts w (stMN m s.els)))) (w : World) (u : Value) (m : Int) (h0 : 0 ≤ m) (h1 : m ≤ 5000) (hr : RepSts Any w u l) :
    Calls Try.prog 16 #[u, .int .i64 m] w (Counts w (stMN m l)) := by
  obtain ⟨cs, ⟨s0, cap, rfl, hle, hcm, _, hrow, hsz⟩, hit⟩ := hr
  have HIH := Lib.hid ih
  have HROW := Lib.hid hrow
  have HIT := Lib.hid hit
  unfold maxLen at hcm
  have hlen : l.length ≤ 9223372036854775807 := by omega
  have HAT := Lib.hid (stMG_at m)
  have HEND := Lib.hid (stMG_end m)
  generalize hR : stMN m l = R
  have HR := Lib.hid (show R = min (stMG m (l.length : Int) (l.drop 0)) (m + 1) from hR.symm)
  clear ih hrow hit hsz hR hcm hle
  go_enter Try.func16, Try.ntmps16
  go_wp2_with fail
  go_loopw [5, 6] (fun t5 t6 wr => ∃ (i k : Nat) (n : Int), i ≤ l.length ∧ t5 = .int .i64 n ∧ t6 = .int .i64 (i : Int) ∧ 0 ≤ n ∧ R = min (stMG m n (l.drop i)) (m + 1) ∧ wr = w.drewN k) (fun _ t6 _ => l.length - (intOf t6).toNat)
  case atStart => exact ⟨0, 0, _, Nat.zero_le _, rfl, rfl, by omega, HR.out, rfl⟩
  case round =>
    obtain ⟨i, k, n, hi, rfl, rfl, hn0, hR, hwr⟩ := hrel
    have HRR := Lib.hid hR
    have HWR := Lib.hid hwr
    clear hR hwr
    by_cases hlt : i < l.length ∧ n ≤ m
    · obtain ⟨hlt, hnm⟩ := hlt
      obtain ⟨b, off, hs0, _, hbl, hcell⟩ := HROW.out (by omega)
      subst hs0
      have hrep := HIT.out i hlt
      obtain ⟨op, text, s1, n1, c1, s2, n2, c2, s3, n3, c3, pos, hcs⟩ := st_form hrep
      rw [hcs] at hrep
      have hc6 : ∀ j, j < 6 → wr.cell? ⟨b, off + i * 6 + j, none⟩ = (cs i)[j]? := fun j hj => (by rw [HWR.out]; exact hcell i hlt j hj)
      rw [hcs] at hc6
      have x2 : wr.cell? ⟨b, off + i * 6 + 2, none⟩ = some (.slice s1 n1 c1) := hc6 2 (by decide)
      have x3 : wr.cell? ⟨b, off + i * 6 + 3, none⟩ = some (.slice s2 n2 c2) := hc6 3 (by decide)
      have x4 : wr.cell? ⟨b, off + i * 6 + 4, none⟩ = some (.slice s3 n3 c3) := hc6 4 (by decide)
      obtain ⟨es, body, els, hs, hes, hbo, hels⟩ := st_of hrep
      have hmem : l.getD i default ∈ l := by rw [List.getD_eq_getElem?_getD, List.getElem?_eq_getElem hlt]; exact List.getElem_mem hlt
      have hih := fun W u => HIH.out _ hmem W u (m - n) (by omega) (by omega)
      have hat := HAT.out n l i hlt hnm
      rw [hs] at hih hat
      simp only [St.body, St.els, St.exprs] at hih hat
      have HB : Hid (∀ q, Calls Try.prog 16 #[.slice s2 n2 c2, .int .i64 (m - n)] (wr.drewN q) fun e w' => e = .returned (.int .i64 (stMN (m - n) body)) ∧ ∃ z, w' = (wr.drewN q).drewN z) := Lib.hid (fun q => (hih _ _).1 (hbo.keep (by rw [HWR.out, World.drewN_drewN]; exact drewN_stays _ _)))
      have HL : Hid (∀ q, Calls Try.prog 16 #[.slice s3 n3 c3, .int .i64 (m - n)] (wr.drewN q) fun e w' => e = .returned (.int .i64 (stMN (m - n) els)) ∧ ∃ z, w' = (wr.drewN q).drewN z) := Lib.hid (fun q => (hih _ _).2 (hels.keep (by rw [HWR.out, World.drewN_drewN]; exact drewN_stays _ _)))
      have HX : Hid (∀ q, Calls Try.prog 28 #[.slice s1 n1 c1, .int .i64 (m - n)] (wr.drewN q) fun e w' => e = .returned (.int .i64 (exMN (m - n) es)) ∧ w' = wr.drewN q) := Lib.hid (fun q => (exprs_any es _ _ _ (by omega) (by omega) (hes.keep (by rw [HWR.out, World.drewN_drewN]; exact drewN_stays _ _))).mono fun _ _ h => ⟨h.1, h.2.symm⟩)
      have v1 := stMN_nn (m - n) body
      have v2 := stMN_nn (m - n) els
      have v3 := exMN_nn (m - n) es
      have u1 := stMN_ge (most := m - n) (by omega) body
      have u2 := stMN_ge (most := m - n) (by omega) els
      have u3 := exMN_ge (most := m - n) (by omega) es
      replace HRR := Lib.hid (HRR.out.trans (by rw [hat]))
      generalize stMN (m - n) body = V1 at *
      generalize stMN (m - n) els = V2 at *
      generalize exMN (m - n) es = V3 at *
      replace HRR : Hid (R = min (stMG m (n + V1 + V2 + V3) (l.drop (i + 1))) (m + 1)) := Lib.hid (HRR.out.trans (by rw [show n + (V1 + V2 + V3) = n + V1 + V2 + V3 by omega]))
      have HNN : Hid (0 ≤ n + V1 + V2 + V3 ∧ i + 1 ≤ l.length) := Lib.hid ⟨by omega, by omega⟩
      clear hrep hc6 hcs hcell hih hbo hels hes hs hat hmem
      go_wp2_with fail
      have w1 : IntKind.i64.wrap (m - n) = m - n := IntWalk.i64_in _ (by omega)
      have w2 : IntKind.i64.wrap (n + V1) = n + V1 := IntWalk.i64_in _ (by omega)
      have w3 : IntKind.i64.wrap (n + V1 + V2) = n + V1 + V2 := IntWalk.i64_in _ (by omega)
      have w4 : IntKind.i64.wrap (n + V1 + V2 + V3) = n + V1 + V2 + V3 := IntWalk.i64_in _ (by omega)
      go_quiet (first | (go_at_call 28; with_reducible exact Calls.quiet_of_same (HX.out _)) | (go_at_call 16; with_reducible exact Calls.quiet_of (HB.out _)) | (go_at_call 16; with_reducible exact Calls.quiet_of (HL.out _)))
      clear w1 w2 w3 w4
      go_wp2_with fail
      go_roundw
      case rel => exact ⟨i + 1, _, n + V1 + V2 + V3, HNN.out.2, rfl, by go_num, HNN.out.1, HRR.out, by rw [HWR.out, World.drewN_drewN]⟩
      case measure => simp [intOf]; omega
    · have hd : (i = l.length ∧ n ≤ m) ∨ (i < l.length ∧ m < n) ∨ (i = l.length ∧ m < n) := by omega
      have HV := Lib.hid (HRR.out.trans (by rw [HEND.out n l i (by omega)]))
      clear hlt
      rcases hd with ⟨hd, hx⟩ | ⟨hd, hx⟩ | ⟨hd, hx⟩
      all_goals
        first
          | (obtain rfl := hd)
          | skip
        go_wp2_with fail
        go_ret
        exact ⟨by rw [HV.out]; rfl, k, HWR.out⟩
/-- parts: whatever the block -/
theorem parts_any (l : List St) (w : World) (u : Value) (m : Int) (h0 : 0 ≤ m) (h1 : m ≤ 5000) (hr : RepSts Any w u l) :
    Calls Try.prog 16 #[u, .int .i64 m] w (Counts w (stMN m l)) :=
  parts_step l (fun s _ w u m h0 h1 => ⟨fun h => parts_any s.body w u m h0 h1 h, fun h => parts_any s.els w u m h0 h1 h⟩) w u m h0 h1 hr
termination_by SizeOf.sizeOf l
decreasing_by
  · exact (St.body_lt (by assumption)).1
  · exact (St.body_lt (by assumption)).2
theorem fnMG_at (n : Int) (l : List Fn) (i : Nat) (hi : i < l.length) (h : n ≤ 5000) : fnMG n (l.drop i) = fnMG (n + 1 + min ((l.getD i default).params.length : Int) 5000 + stMN 5000 (l.getD i default).body) (l.drop (i + 1)) := by
  rw [List.drop_eq_getElem_cons hi, fnMG, if_pos h, List.getD_eq_getElem?_getD, List.getElem?_eq_getElem hi]
  rfl
theorem fnMG_end (n : Int) (l : List Fn) (i : Nat) (hi : l.length ≤ i ∨ 5000 < n) : fnMG n (l.drop i) = n := by
  rcases hi with hi | hi
  · rw [List.drop_eq_nil_of_le hi, fnMG]
  · cases l.drop i with
    | nil => rw [fnMG]
    | cons x r => rw [fnMG, if_neg (by omega)]
set_option maxRecDepth 100000 in
set_option maxHeartbeats 4000000 in
/-- Great: whatever the program -/
theorem great_any (l : List Fn) (w : World) (u : Value) (hr : RepFns Any w u l) :
    Calls Try.prog 11 #[.agg #[u]] w fun e w' => e = .returned (.bool (greatB l)) ∧ Below w.heap.size w w' := by
  obtain ⟨cs, ⟨s0, cap, rfl, hle, hcm, _, hrow, hsz⟩, hit⟩ := hr
  have HROW := Lib.hid hrow
  have HIT := Lib.hid hit
  unfold maxLen at hcm
  have hlen : l.length ≤ 9223372036854775807 := by omega
  have HAT := Lib.hid fnMG_at
  have HEND := Lib.hid fnMG_end
  generalize hR : greatB l = R
  have HR := Lib.hid (show R = (decide (200 < l.length) || decide (5000 < fnMG 0 (l.drop 0))) from hR.symm)
  clear hrow hit hsz hR hcm hle
  by_cases h200 : (200 : Int) < (l.length : Int)
  · have HV : Hid (R = true) := Lib.hid (by rw [HR.out, decide_eq_true (by omega)]; rfl)
    go_enter Try.func11, Try.ntmps11
    go_wp2_with fail
    go_ret
    exact ⟨by rw [HV.out]; rfl, up_alloc (Below.refl _ _) _⟩
  replace HR : Hid (R = decide (5000 < fnMG 0 (l.drop 0))) := Lib.hid (by rw [HR.out, decide_eq_false (show ¬ 200 < l.length by omega), Bool.false_or])
  go_enter Try.func11, Try.ntmps11
  go_wp2_with fail
  have HB1 : Hid (Below w.heap.size w (w.alloc (.cells #[.slice s0 l.length cap] 26))) := Lib.hid (up_alloc (Below.refl _ _) _)
  have HPB : Hid ((w.alloc (.cells #[.slice s0 l.length cap] 26)).heap[w.heap.size]? = some (.cells #[.slice s0 l.length cap] 26 (0, 0))) := Lib.hid (new_heap _ _ _ rfl)
  generalize (w.alloc (.cells #[.slice s0 l.length cap] 26)) = w1 at *
  have HST : Hid (Stays Any w w1) := Lib.hid (Stays.of_below HB1.out)
  generalize hPB : w.heap.size = PB at *
  have HPE := Lib.hid hPB
  clear hPB
  go_loopw [3, 4] (fun t3 t4 wr => ∃ (i k : Nat) (n : Int), i ≤ l.length ∧ t3 = .int .i64 n ∧ t4 = .int .i64 (i : Int) ∧ 0 ≤ n ∧ R = decide (5000 < fnMG n (l.drop i)) ∧ wr = w1.drewN k) (fun _ t4 _ => l.length - (intOf t4).toNat)
  case atStart => exact ⟨0, 0, 0, Nat.zero_le _, rfl, rfl, by omega, HR.out, rfl⟩
  case round =>
    obtain ⟨i, k, n, hi, rfl, rfl, hn0, hR, hwr⟩ := hrel
    have HRR := Lib.hid hR
    have HWR := Lib.hid hwr
    have p0 : wr.cell? ⟨PB, 0, none⟩ = some (.slice s0 l.length cap) := by rw [hwr]; exact cell_of HPB.out (j := 0) rfl
    clear hR hwr
    by_cases hlt : i < l.length ∧ n ≤ 5000
    · obtain ⟨hlt, hnm⟩ := hlt
      obtain ⟨b, off, hs0, _, hbl, hcell⟩ := HROW.out (by omega)
      subst hs0
      have hrep := HIT.out i hlt
      obtain ⟨nm, s1, n1, c1, rs, s2, n2, c2, pos, hcs⟩ := fn_form hrep
      have hc5 : ∀ j, j < 5 → wr.cell? ⟨b, off + i * 5 + j, none⟩ = (cs i)[j]? := fun j hj => (by rw [HWR.out]; exact (HST.out.cell trivial (by rw [HPE.out]; exact hbl) _).trans (hcell i hlt j hj))
      rw [hcs] at hc5
      have x1 : wr.cell? ⟨b, off + i * 5 + 1, none⟩ = some (.slice s1 n1 c1) := hc5 1 (by decide)
      have x3 : wr.cell? ⟨b, off + i * 5 + 3, none⟩ = some (.slice s2 n2 c2) := hc5 3 (by decide)
      obtain ⟨vp, vb, e, hps, hbo⟩ := hrep
      rw [hcs] at e
      simp only [List.cons.injEq, and_true] at e
      obtain ⟨_, e1, _, e3, _⟩ := e
      subst e1 e3
      obtain rfl : n1 = (l.getD i default).params.length := by obtain ⟨_, ⟨_, _, e, _⟩, _⟩ := hps; injection e
      have hpl : (l.getD i default).params.length ≤ 9223372036854775807 := by obtain ⟨_, ⟨_, _, _, h1, h2, _⟩, _⟩ := hps; unfold maxLen at h2; omega
      have hat := HAT.out n l i hlt hnm
      have HB : Hid (∀ q, Calls Try.prog 16 #[.slice s2 n2 c2, .int .i64 5000] (wr.drewN q) fun e w' => e = .returned (.int .i64 (stMN 5000 (l.getD i default).body)) ∧ ∃ z, w' = (wr.drewN q).drewN z) :=
        Lib.hid (fun q => parts_any _ _ _ 5000 (by decide) (by decide) (hbo.keep (by rw [HWR.out, World.drewN_drewN]; exact HST.out.trans (drewN_stays _ _))))
      have v1 := stMN_nn 5000 (l.getD i default).body
      have u1 := stMN_ge (most := 5000) (by omega) (l.getD i default).body
      generalize stMN 5000 (l.getD i default).body = V1 at *
      generalize (l.getD i default).params.length = M at *
      have z1 : min (M : Int) 5000 ≤ 5000 := by omega
      have z0 : 0 ≤ min (M : Int) 5000 := by omega
      replace HRR : Hid (R = decide (5000 < fnMG (n + 1 + min (M : Int) 5000 + V1) (l.drop (i + 1)))) := Lib.hid (HRR.out.trans (by rw [hat]))
      have HNN : Hid (0 ≤ n + 1 + min (M : Int) 5000 + V1 ∧ i + 1 ≤ l.length) := Lib.hid ⟨by omega, by omega⟩
      clear hc5 hcs hcell hbo hps hat
      go_wp2_with fail
      have w2 : IntKind.i64.wrap (n + 1) = n + 1 := IntWalk.i64_in _ (by omega)
      have w3 : IntKind.i64.wrap (n + 1 + min (M : Int) 5000) = n + 1 + min (M : Int) 5000 := IntWalk.i64_in _ (by omega)
      have w4 : IntKind.i64.wrap (n + 1 + min (M : Int) 5000 + V1) = n + 1 + min (M : Int) 5000 + V1 := IntWalk.i64_in _ (by omega)
      go_quiet ((go_at_call 16; with_reducible exact Calls.quiet_of (HB.out _)))
      clear w2 w3 w4
      go_wp2_with fail
      go_roundw
      case rel => exact ⟨i + 1, _, n + 1 + min (M : Int) 5000 + V1, HNN.out.2, rfl, by go_num, HNN.out.1, HRR.out, by rw [HWR.out, World.drewN_drewN]⟩
      case measure => simp [intOf]; omega
    · have hd : (i = l.length ∧ n ≤ 5000) ∨ (i < l.length ∧ 5000 < n) ∨ (i = l.length ∧ 5000 < n) := by omega
      have HV := Lib.hid (HRR.out.trans (by rw [HEND.out n l i (by omega)]))
      have HB2 : Hid (Below PB w wr) := Lib.hid (by rw [HWR.out, ← HPE.out]; exact up_drewN (by rw [HPE.out]; exact HB1.out) _)
      clear hlt
      rcases hd with ⟨hd, hx⟩ | ⟨hd, hx⟩ | ⟨hd, hx⟩
      all_goals
        first
          | (obtain rfl := hd)
          | skip
        go_wp2_with fail
        go_ret
        exact ⟨by first | (rw [HV.out]; rfl) | (rw [HV.out, decide_eq_true hx]; rfl), by rw [HPE.out]; exact HB2.out⟩
end Go.Proofs.Ytpiamiaigjlafaa
