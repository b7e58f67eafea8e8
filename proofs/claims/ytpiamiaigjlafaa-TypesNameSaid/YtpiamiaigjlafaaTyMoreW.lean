/-
  The walk through TypesMore.
-/
import Derived.Test.YtpiamiaigjlafaaTyJoin
import Derived.Test.YtpiamiaigjlafaaTyMono
import Derived.Lib.SlicesS
namespace Go.Proofs.Ytpiamiaigjlafaa
open Go.RowKit

/-- what Front told: an error, or a right program that lies there -/
def FrIs (r : Except (Int × Int) (List Fn)) (er : Int) (W : World) (v : Value) : Prop := er ≠ 0 ∨ (er = 0 ∧ ∃ l, r = .ok l ∧ RepFns Any W v l)
theorem FrIs.below {r : Except (Int × Int) (List Fn)} {er : Int} {W W' : World} {v : Value} (h : FrIs r er W v) (hb : Below W.heap.size W W') : FrIs r er W' v := by
  rcases h with h | ⟨h0, l, h1, h2⟩
  · exact .inl h
  · exact .inr ⟨h0, l, h1, h2.keep (Stays.of_below hb)⟩
theorem front_form {w w' : World} {r : Except (Int × Int) (List Fn)} {e : Ending} (h : ParseSays w r e w') : ∃ s n c er p, e = .returned (.tuple #[.agg #[.slice s n c], .int .i64 er, .int .i64 p]) ∧ Below w.heap.size w w' ∧ FrIs r er w' (.slice s n c) := by
  obtain ⟨h, hb⟩ := h
  cases r with
  | error er =>
    obtain ⟨er, p⟩ := er
    obtain ⟨h1, rfl⟩ := h
    exact ⟨none, 0, 0, er, p, rfl, hb, .inl h1⟩
  | ok l =>
    obtain ⟨v, rfl, hr⟩ := h
    obtain ⟨s, n, c, rfl⟩ : ∃ s n c, v = .slice s n c := by
      obtain ⟨cs, ⟨a, b, e, _⟩, _⟩ := hr
      exact ⟨_, _, _, e⟩
    exact ⟨s, n, c, 0, 0, rfl, hb, .inr ⟨rfl, l, rfl, hr.mono (fun _ _ => trivial)⟩⟩
theorem front_right {s : List UInt8} {l : List Fn} (h : frontT s = .ok l) : (checkC l).1 = 0 := by
  unfold frontT at h
  split at h
  · cases h
  · split at h
    · cases h
    · rename_i g
      injection h with h
      subst h
      simpa using g
theorem front_few {s : List UInt8} {l : List Fn} (h : frontT s = .ok l) : ∀ f, f ∈ l → f.params.length ≤ 2049 := by
  unfold frontT at h
  split at h
  · cases h
  · rename_i q
    split at h
    · cases h
    · injection h with h
      subst h
      exact parse_few q
theorem own_keep_ne {W : World} {base e sz n cap g b j : Nat} {xs : List Value} {u : Value} (h : W.ownsRow base e sz (.slice (some ⟨g, 0, none⟩) n cap) n xs) (hb : b ≠ g) : (W.setCell ⟨b, j, none⟩ u).ownsRow base e sz (.slice (some ⟨g, 0, none⟩) n cap) n xs := by
  refine ⟨h.1, ?_⟩
  rcases h.2 with q | ⟨g', cap', cur, q1, q2, q3, q4⟩
  · exact .inl q
  · have hg : g' = g := by injection q1 with q1; injection q1 with q1; injection q1 with q1; exact q1.symm
    exact .inr ⟨g', cap', cur, q1, q2, (setCell_heap _ _ _ _ (by rw [hg]; exact hb.symm)).trans q3, q4⟩
theorem fn_cell {S : Nat → Prop} {w : World} {g n cap : Nat} {l : List Fn} (h : RepFns S w (.slice (some ⟨g, 0, none⟩) n cap) l) (i : Nat) (hi : i < l.length) : w.cell? ⟨g, i * 5, none⟩ = some (.string (l.getD i default).name) := by
  obtain ⟨cs, ⟨s0, c0, e, _, _, _, hrow, _⟩, hit⟩ := h
  injection e with e1 e2 e3
  subst e1
  obtain ⟨b, off, e, _, _, hc⟩ := hrow (by omega)
  injection e with e
  injection e with e4 e5
  subst e4 e5
  have q := hc i hi 0 (by decide)
  obtain ⟨vp, vb, e, _⟩ := hit i hi
  rw [Nat.zero_add, Nat.add_zero, e] at q
  exact q
theorem below_drewN {n : Nat} {a b : World} (h : Below n a b) (k : Nat) : Below n a (b.drewN k) := ⟨h.os, h.tape, h.output, h.size, h.block⟩
theorem step_new {l : List Fn} {k : Nat} {x1 x2 : ByteArray} {P : Prop} (h2 : (l.getD k default).name = x2) (h : false = true ↔ P ∨ ∃ k2, k2 < k ∧ x1 = (l.getD k2 default).name) :
    (x1.toList == x2.toList) = true ↔ P ∨ ∃ k2, k2 < k + 1 ∧ x1 = (l.getD k2 default).name := by
  rw [Lib.bytes_beq_iff]
  constructor
  · intro e
    exact .inr ⟨k, Nat.lt_succ_self _, by rw [h2, e]⟩
  · rintro (q | ⟨k2, hk, e⟩)
    · exact absurd (h.2 (.inl q)) (by decide)
    · by_cases hkk : k2 = k
      · subst hkk
        rw [← h2, e]
      · exact absurd (h.2 (.inr ⟨k2, by omega, e⟩)) (by decide)
theorem step_old {l : List Fn} {k : Nat} {x1 : ByteArray} {P : Prop} (h : True ↔ P ∨ ∃ k2, k2 < k ∧ x1 = (l.getD k2 default).name) : true = true ↔ P ∨ ∃ k2, k2 < k + 1 ∧ x1 = (l.getD k2 default).name :=
  ⟨fun _ => (h.1 trivial).imp id (fun ⟨k2, hk, e⟩ => ⟨k2, by omega, e⟩), fun _ => rfl⟩
theorem step_end {l : List Fn} {k : Nat} {b : Bool} (h : b = true ↔ (∃ j k2, k2 < j ∧ j < k ∧ (l.getD j default).name = (l.getD k2 default).name) ∨ ∃ k2, k2 < k ∧ (l.getD k default).name = (l.getD k2 default).name) : b = true ↔ ∃ j k2, k2 < j ∧ j < k + 1 ∧ (l.getD j default).name = (l.getD k2 default).name := by
  refine h.trans ⟨?_, ?_⟩
  · rintro (⟨j, k2, h1, h2, e⟩ | ⟨k2, h1, e⟩)
    · exact ⟨j, k2, h1, by omega, e⟩
    · exact ⟨k, k2, h1, Nat.lt_succ_self _, e⟩
  · rintro ⟨j, k2, h1, h2, e⟩
    by_cases hj : j = k
    · subst hj
      exact .inr ⟨k2, h1, e⟩
    · exact .inl ⟨j, k2, h1, by omega, e⟩
theorem apart_iff : ∀ (l : List Fn), apartB (l.map (·.name)) = true ↔ ¬ ∃ j k, k < j ∧ j < l.length ∧ (l.getD j default).name = (l.getD k default).name
  | [] => ⟨fun _ ⟨j, _, _, h, _⟩ => absurd h (Nat.not_lt_zero _), fun _ => rfl⟩
  | f :: l => by
    rw [List.map_cons, apartB, Bool.and_eq_true, apart_iff l, Bool.not_eq_true', List.any_eq_false]
    constructor
    · rintro ⟨h1, h2⟩ ⟨j, k, hkj, hj, e⟩
      cases j with
      | zero => exact absurd hkj (Nat.not_lt_zero _)
      | succ j =>
        have hj2 : j < l.length := by simpa using hj
        cases k with
        | zero =>
          refine h1 (l.getD j default).name (List.mem_map.2 ⟨l.getD j default, ?_, rfl⟩) (decide_eq_true e)
          rw [List.getD_eq_getElem?_getD, List.getElem?_eq_getElem hj2]
          exact List.getElem_mem hj2
        | succ k => exact h2 ⟨j, k, by omega, hj2, e⟩
    · intro h
      refine ⟨fun x hx hxe => ?_, fun ⟨j, k, hkj, hj, e⟩ => h ⟨j + 1, k + 1, by omega, by simpa using hj, e⟩⟩
      obtain ⟨y, hy, rfl⟩ := List.mem_map.1 hx
      obtain ⟨j, hj, rfl⟩ := List.getElem_of_mem hy
      refine h ⟨j + 1, 0, Nat.succ_pos _, by simpa using hj, ?_⟩
      have := of_decide_eq_true hxe
      show (l.getD j default).name = f.name
      rw [List.getD_eq_getElem?_getD, List.getElem?_eq_getElem hj]
      exact this
set_option maxRecDepth 100000 in
set_option maxHeartbeats 8000000 in
theorem more_any (a0 b0 : Option Addr) (capA capB : Nat) (s t : List UInt8) (w : World) (hs : SrcAt w a0 s) (ht : SrcAt w b0 t) (hsl : s.length ≤ 1152921504606846976) (htl : t.length ≤ 1152921504606846976) (hsc : s.length ≤ capA) (htc : t.length ≤ capB) :
    Calls Try.prog 3 #[.slice a0 s.length capA, .slice b0 t.length capB] w fun e w' => e = .returned (.bool true) ∧ Below w.heap.size w w' := by
  have HFA := Lib.hid (fun W (hW : Below w.heap.size w W) => front_any a0 capA s W (hs.later hW) hsl hsc)
  have HFB := Lib.hid (fun W (hW : Below w.heap.size w W) => front_any b0 capB t W (ht.later hW) htl htc)
  clear hs ht
  go_enter Try.func3, Try.ntmps3
  go_wp2_with fail
  refine (head_any _).mono ?_
  rintro e w1 ⟨rfl, hb1⟩
  have HB1 := Lib.hid hb1
  clear hb1
  go_wp2_with fail
  refine (HFA.out _ HB1.out).mono ?_
  intro e w2 hres
  obtain ⟨sv, nv, cv, e1, p1, rfl, hb2, hc1⟩ := front_form hres
  have HC1 := Lib.hid hc1
  have HB2 := Lib.hid (HB1.out.trans (hb2.mono HB1.out.size))
  clear hres hb2 hc1
  go_upto_region 3 with fail
  have hb3 : Below w2.heap.size w2 (w2.alloc (.cells #[.slice sv nv cv] 26)) := up_alloc (Below.refl _ _) _
  have HPB : Hid ((w2.alloc (.cells #[.slice sv nv cv] 26)).heap[w2.heap.size]? = some (.cells #[.slice sv nv cv] 26 (0, 0))) := Lib.hid (new_heap _ _ _ rfl)
  have HR1 := Lib.hid (HC1.out.below hb3)
  have HB3 := Lib.hid (HB2.out.trans (hb3.mono HB2.out.size))
  clear hb3 HC1
  generalize (w2.alloc (.cells #[.slice sv nv cv] 26)) = w3 at *
  generalize w2.heap.size = PB at *
  go_wp2_with fail
  refine (HFB.out _ HB3.out).mono ?_
  intro e w4 hres
  obtain ⟨su, nu, cu, e2, p2, rfl, hb4, hc2⟩ := front_form hres
  have HC2 := Lib.hid hc2
  have HB4 := Lib.hid (HB3.out.trans (hb4.mono HB3.out.size))
  replace HPB := Lib.hid ((hb4.block _ (lt_block HPB.out)).trans HPB.out)
  replace HR1 := Lib.hid (HR1.out.below hb4)
  clear hres hb4 hc2
  go_upto_region 4 with fail
  have hb5 : Below w4.heap.size w4 (w4.alloc (.cells #[.slice su nu cu] 26)) := up_alloc (Below.refl _ _) _
  have HQB : Hid ((w4.alloc (.cells #[.slice su nu cu] 26)).heap[w4.heap.size]? = some (.cells #[.slice su nu cu] 26 (0, 0))) := Lib.hid (new_heap _ _ _ rfl)
  have HR2 := Lib.hid (HC2.out.below hb5)
  have HB5 := Lib.hid (HB4.out.trans (hb5.mono HB4.out.size))
  replace HPB := Lib.hid ((hb5.block _ (lt_block HPB.out)).trans HPB.out)
  replace HR1 := Lib.hid (HR1.out.below hb5)
  clear hb5 HC2
  generalize (w4.alloc (.cells #[.slice su nu cu] 26)) = w5 at *
  generalize w4.heap.size = QB at *
  by_cases hz1 : e1 ≠ 0
  · have hd1 : (e1 == 0) = false := beq_false_of_ne hz1
    go_wp2_with fail
    exact bodyPost_ret (v := .bool true) (by simp [results, Try.results3, go_sem]) rfl ⟨rfl, HB5.out⟩
  have hz1 : e1 = 0 := by simpa using hz1
  subst hz1
  by_cases hz2 : e2 ≠ 0
  · have hd2 : (e2 == 0) = false := beq_false_of_ne hz2
    go_wp2_with fail
    exact bodyPost_ret (v := .bool true) (by simp [results, Try.results3, go_sem]) rfl ⟨rfl, HB5.out⟩
  have hz2 : e2 = 0 := by simpa using hz2
  subst hz2
  obtain ⟨p, hfp, hrp⟩ : ∃ l, frontT s = .ok l ∧ RepFns Any w5 (.slice sv nv cv) l := HR1.out.elim (fun h => absurd rfl h) (fun h => h.2)
  obtain ⟨q, hfq, hrq⟩ : ∃ l, frontT t = .ok l ∧ RepFns Any w5 (.slice su nu cu) l := HR2.out.elim (fun h => absurd rfl h) (fun h => h.2)
  have HCP := Lib.hid (front_right hfp)
  have HCQ := Lib.hid (front_right hfq)
  have HML := Lib.hid (more_law HCP.out HCQ.out)
  have hp64 := (check_zero HCP.out).1
  have hq64 := (check_zero HCQ.out).1
  have HFEW : Hid (∀ f, f ∈ p ++ q → f.params.length ≤ 100000) := Lib.hid (fun f hf => (List.mem_append.1 hf).elim (fun h => Nat.le_trans (front_few hfp f h) (by decide)) (fun h => Nat.le_trans (front_few hfq f h) (by decide)))
  obtain ⟨cs1, hrow1, hit1⟩ := hrp
  obtain ⟨cs2, hrow2, hit2⟩ := hrq
  obtain rfl : nv = p.length := by obtain ⟨_, _, e, _⟩ := hrow1; injection e
  obtain rfl : nu = q.length := by obtain ⟨_, _, e, _⟩ := hrow2; injection e
  have HN1 : Hid (sv = none → p.length = 0 ∧ cv = 0) := Lib.hid (fun e => by obtain ⟨_, _, e2, hle, _, hn, _⟩ := hrow1; injection e2 with e3 _ e4; subst e3 e4; have := hn e; exact ⟨by omega, this⟩)
  have HN2 : Hid (su = none → q.length = 0 ∧ cu = 0) := Lib.hid (fun e => by obtain ⟨_, _, e2, hle, _, hn, _⟩ := hrow2; injection e2 with e3 _ e4; subst e3 e4; have := hn e; exact ⟨by omega, this⟩)
  have HROW1 := Lib.hid hrow1
  have HROW2 := Lib.hid hrow2
  have HIT1 := Lib.hid hit1
  have HIT2 := Lib.hid hit2
  have HO1 := Lib.hid (fn_one hit1)
  have HO2 := Lib.hid (fn_one hit2)
  obtain ⟨_, _, _, _, _, _, _, hl1⟩ := hrow1
  obtain ⟨_, _, _, _, _, _, _, hl2⟩ := hrow2
  have HL1 := Lib.hid hl1
  have HL2 := Lib.hid hl2
  have H64 := Lib.hid (And.intro hp64 hq64)
  clear hfp hfq hit1 hit2 hl1 hl2 HR1 HR2 hp64 hq64 HFA HFB
  obtain ⟨inf, hi0, hi1, hi2, hi3⟩ := infoFn
  have HINF := Lib.hid (And.intro hi0 (And.intro hi1 (And.intro hi2 hi3)))
  clear hi0 hi1 hi2 hi3
  go_upto_region 6 with fail
  obtain ⟨N5, hN5⟩ : ∃ N, N = w5.heap.size := ⟨_, rfl⟩
  have HN5 := Lib.hid hN5
  clear hN5
  have HSW : Hid (w5.cell? ⟨PB, 0, none⟩ = some (.slice sv p.length cv) ∧ w5.cell? ⟨QB, 0, none⟩ = some (.slice su q.length cu)) := Lib.hid ⟨cell_of HPB.out (j := 0) rfl, cell_of HQB.out (j := 0) rfl⟩
  have hs0 : w5.drew.cell? ⟨PB, 0, none⟩ = some (.slice sv p.length cv) ∧ w5.drew.cell? ⟨QB, 0, none⟩ = some (.slice su q.length cu) := HSW.out
  go_cut [12] from 38 to 46 (fun s12 wx => ∃ AB g cap, s12 = .pointer (some ⟨AB, 0, none⟩) ∧ Below w5.heap.size w5 wx ∧ wx.heap[AB]? = some (.cells #[.slice (some ⟨g, 0, none⟩) (p.length + q.length) cap] 26 (0, 0)) ∧ RepFns Any wx (.slice (some ⟨g, 0, none⟩) (p.length + q.length) cap) (p ++ q))
  case first =>
    refine wp_region_held (S := (fun w' : World => w'.cell? ⟨PB, 0, none⟩ = some (.slice sv p.length cv) ∧ w'.cell? ⟨QB, 0, none⟩ = some (.slice su q.length cu))) (by kernel_rfl) ?_
    refine wpAnyH_take (i := 1) (v := ?_) rfl (by kernel_rfl) (by kernel_rfl) (by kernel_rfl) (fun _ _ _ h => h) (Or.inl ⟨by rfl, ?_⟩) (by assumption) ?_
    rotate_left 1
    · (intro w hSw; (try dsimp only at hSw); go_simp; try with_reducible rfl)
    try simp only [Act.put, List.setIfInBounds_toArray, List.set_cons_zero, List.set_cons_succ, List.getElem_toArray, List.getElem_cons_zero, List.getElem_cons_succ]
    refine wpAnyH_take (i := 2) (v := ?_) rfl (by kernel_rfl) (by kernel_rfl) (by kernel_rfl) (fun _ _ _ h => h) (Or.inl ⟨by rfl, ?_⟩) (by assumption) ?_
    rotate_left 1
    · (intro w hSw; (try dsimp only at hSw); go_simp; try with_reducible rfl)
    try simp only [Act.put, List.setIfInBounds_toArray, List.set_cons_zero, List.set_cons_succ, List.getElem_toArray, List.getElem_cons_zero, List.getElem_cons_succ]
    refine wpAnyH_take (i := 4) (v := ?_) rfl (by kernel_rfl) (by kernel_rfl) (by kernel_rfl) (fun _ _ _ h => h) (Or.inl ⟨by rfl, ?_⟩) (by assumption) ?_
    rotate_left 1
    · (intro w hSw; (try dsimp only at hSw); go_simp; try with_reducible rfl)
    try simp only [Act.put, List.setIfInBounds_toArray, List.set_cons_zero, List.set_cons_succ, List.getElem_toArray, List.getElem_cons_zero, List.getElem_cons_succ]
    refine wpAnyH_take (i := 5) (v := ?_) rfl (by kernel_rfl) (by kernel_rfl) (by kernel_rfl) (fun _ _ _ h => h) (Or.inl ⟨by rfl, ?_⟩) (by assumption) ?_
    rotate_left 1
    · (intro w hSw; (try dsimp only at hSw); go_simp; try with_reducible rfl)
    try simp only [Act.put, List.setIfInBounds_toArray, List.set_cons_zero, List.set_cons_succ, List.getElem_toArray, List.getElem_cons_zero, List.getElem_cons_succ]
    clear hs0
    have HBA0 : Hid (Below w5.heap.size w5 w5.drew) := Lib.hid (up_drew (Below.refl _ _))
    refine wpAnyH_ready (rs := [0, 8]) (by kernel_rfl) (by simp) ?_
    refine (AllReadyH.cons rfl (fun K hK => ?_) (AllReadyH.cons rfl (fun K hK => ?_) AllReadyH.nil))
    · go_simp
      have HBA1 : Hid (Below w5.heap.size w5 (w5.drew.alloc (.cells #[] 34))) := Lib.hid (up_alloc HBA0.out _)
      have HOWN : Hid ((w5.drew.alloc (.cells #[] 34)).ownsRow N5 34 5 (.slice (some ⟨w5.heap.size, 0, none⟩) 0 0) 0 []) := Lib.hid (own_empty (new_heap _ _ _ rfl) (by rw [HN5.out]; omega))
      refine hK.out _ _ ?_ (fun hHeld => ?_)
      · have q := HSW.out
        exact ⟨(HBA1.out.cell (lt_of_cell q.1)).trans q.1, (HBA1.out.cell (lt_of_cell q.2)).trans q.2⟩
      clear hK K
      try simp only [Act.put, List.setIfInBounds_toArray, List.set_cons_zero, List.set_cons_succ, List.getElem_toArray, List.getElem_cons_zero, List.getElem_cons_succ]
      refine wpAnyH_ready (rs := [3, 8]) (by kernel_rfl) (by simp) ?_
      refine (AllReadyH.cons rfl (fun K hK => ?_) (AllReadyH.cons rfl (fun K hK => ?_) AllReadyH.nil))
      · have hown := HOWN.out
        refine step_append_any rfl _ _ _ rfl N5 34 inf _ 5 80 (by kernel_rfl) HINF.out.1 HINF.out.2.1 HINF.out.2.2.1 HINF.out.2.2.2 rfl (by decide) _ _ _ _ rfl hown _ _ _ (flat cs1 p.length) rfl HN1.out (flat_len HL1.out) (row_news (by decide) (HROW1.out.keep (Stays.of_below HBA1.out))) HO1.out (by have := H64.out; unfold maxLen; omega) (by have := H64.out; omega) (by rw [HN5.out]; exact HBA1.out.size) (fun g1 cap1 wA hown2 hg2 => ?_)
        have HBA2 : Hid (Below w5.heap.size w5 wA) := Lib.hid (grown_keep hg2 HBA1.out (by have q := (own_block hown rfl).1; rw [HN5.out] at q; exact q))
        try simp only [Nat.zero_add, List.nil_append] at hown2
        replace HOWN := Lib.hid hown2
        clear hown hown2 hg2
        refine hK.out _ _ ?_ (fun hHeld => ?_)
        · have q := HSW.out
          exact ⟨(HBA2.out.cell (lt_of_cell q.1)).trans q.1, (HBA2.out.cell (lt_of_cell q.2)).trans q.2⟩
        clear hK K
        try simp only [Act.put, List.setIfInBounds_toArray, List.set_cons_zero, List.set_cons_succ, List.getElem_toArray, List.getElem_cons_zero, List.getElem_cons_succ]
        try simp only [Nat.zero_add]
        refine wpAnyH_ready (rs := [6, 8]) (by kernel_rfl) (by simp) ?_
        refine (AllReadyH.cons rfl (fun K hK => ?_) (AllReadyH.cons rfl (fun K hK => ?_) AllReadyH.nil))
        · have hown := HOWN.out
          refine step_append_any rfl _ _ _ rfl N5 34 inf _ 5 80 (by kernel_rfl) HINF.out.1 HINF.out.2.1 HINF.out.2.2.1 HINF.out.2.2.2 rfl (by decide) _ _ _ _ rfl hown _ _ _ (flat cs2 q.length) rfl HN2.out (flat_len HL2.out) (row_news (by decide) (HROW2.out.keep (Stays.of_below HBA2.out))) HO2.out (by have := H64.out; unfold maxLen; omega) (by have := H64.out; omega) (by rw [HN5.out]; exact HBA2.out.size) (fun g2 cap2 wB hown2 hg2 => ?_)
          have HBA3 : Hid (Below w5.heap.size w5 wB) := Lib.hid (grown_keep hg2 HBA2.out (by have q := (own_block hown rfl).1; rw [HN5.out] at q; exact q))
          try simp only [Nat.zero_add, List.nil_append] at hown2
          replace HOWN := Lib.hid hown2
          clear hown hown2 hg2
          refine hK.out _ _ ?_ (fun hHeld => ?_)
          · have q := HSW.out
            exact ⟨(HBA3.out.cell (lt_of_cell q.1)).trans q.1, (HBA3.out.cell (lt_of_cell q.2)).trans q.2⟩
          clear hK K
          try simp only [Act.put, List.setIfInBounds_toArray, List.set_cons_zero, List.set_cons_succ, List.getElem_toArray, List.getElem_cons_zero, List.getElem_cons_succ]
          try simp only [Nat.zero_add]
          refine wpAnyH_take (i := 7) (v := ?_) rfl (by kernel_rfl) (by kernel_rfl) (by kernel_rfl) (fun _ _ _ h => h) (Or.inl ⟨by rfl, ?_⟩) (by assumption) ?_
          rotate_left 1
          · (intro w hSw; (try dsimp only at hSw); go_simp; try with_reducible rfl)
          try simp only [Act.put, List.setIfInBounds_toArray, List.set_cons_zero, List.set_cons_succ, List.getElem_toArray, List.getElem_cons_zero, List.getElem_cons_succ]
          refine wpAnyH_ready (rs := [8]) (by kernel_rfl) (by simp) ?_
          refine (AllReadyH.cons rfl (fun K hK => ?_) AllReadyH.nil)
          go_simp
          have HBA4 : Hid (Below w5.heap.size w5 (wB.alloc (.cells #[.slice none 0 0] 26))) := Lib.hid (up_alloc HBA3.out _)
          have HBOX : Hid ((wB.alloc (.cells #[.slice none 0 0] 26)).heap[wB.heap.size]? = some (.cells #[.slice none 0 0] 26 (0, 0))) := Lib.hid (new_heap _ _ _ rfl)
          have HBZ := Lib.hid HBA3.out.size
          replace HOWN := Lib.hid (own_below HOWN.out (up_alloc (Below.refl _ _) _ : Below wB.heap.size wB (wB.alloc (.cells #[.slice none 0 0] 26))))
          refine hK.out _ _ ?_ (fun hHeld => ?_)
          · have q := HSW.out
            exact ⟨(HBA4.out.cell (lt_of_cell q.1)).trans q.1, (HBA4.out.cell (lt_of_cell q.2)).trans q.2⟩
          clear hK K
          try simp only [Act.put, List.setIfInBounds_toArray, List.set_cons_zero, List.set_cons_succ, List.getElem_toArray, List.getElem_cons_zero, List.getElem_cons_succ]
          obtain ⟨W9, hW9⟩ : ∃ W9, W9 = (wB.alloc (.cells #[.slice none 0 0] 26)) := ⟨_, rfl⟩
          have f1 : Below N5 w5 W9 := by rw [hW9, HN5.out]; exact HBA4.out
          have f2 : W9.heap[wB.heap.size]? = some (.cells #[.slice none 0 0] 26 (0, 0)) := by
            have q := HBOX.out
            rw [hW9]
            exact q
          have f3 : W9.ownsRow N5 34 5 (.slice (some ⟨g2, 0, none⟩) (p.length + q.length) cap2) (p.length + q.length) (flat cs1 p.length ++ flat cs2 q.length) := by rw [hW9]; exact HOWN.out
          have f4 : N5 ≤ wB.heap.size := by rw [HN5.out]; exact HBZ.out
          revert f1 f2 f3 f4
          rw [← hW9]
          clear hW9
          generalize wB.heap.size = AB
          intro f1 f2 f3 f4
          clear HBA0 HBA1 HBA2 HBA3 HBA4 HBOX HOWN
          have z0 : W9.cell? ⟨AB, 0, none⟩ = some (.slice none 0 0) := cell_of f2 (j := 0) rfl
          have y0 : W9.frozen? ⟨AB, 0, none⟩ = false := frozen_of f2 0
          have F1 := Lib.hid f1
          have F2 := Lib.hid f2
          have F3 := Lib.hid f3
          have F4 := Lib.hid f4
          clear f1 f2 f3 f4
          refine wpAnyH_ready (rs := [9]) (by kernel_rfl) (by simp) ?_
          refine (AllReadyH.cons rfl (fun K hK => ?_) AllReadyH.nil)
          go_simp
          have HBN : Hid (Below w5.heap.size w5 (W9.setCell ⟨AB, 0, none⟩ (.slice (some ⟨g2, 0, none⟩) (p.length + q.length) cap2))) := Lib.hid (by rw [← HN5.out]; exact F1.out.setCell (p := ⟨AB, 0, none⟩) F4.out _)
          have F2N : Hid ((W9.setCell ⟨AB, 0, none⟩ (.slice (some ⟨g2, 0, none⟩) (p.length + q.length) cap2)).heap[AB]? = some (.cells #[(.slice (some ⟨g2, 0, none⟩) (p.length + q.length) cap2)] 26 (0, 0))) := Lib.hid (setCell_obj F2.out 0 _)
          have F3N : Hid ((W9.setCell ⟨AB, 0, none⟩ (.slice (some ⟨g2, 0, none⟩) (p.length + q.length) cap2)).ownsRow N5 34 5 (.slice (some ⟨g2, 0, none⟩) (p.length + q.length) cap2) (p.length + q.length) (flat cs1 p.length ++ flat cs2 q.length)) := Lib.hid (own_keep_ne F3.out (own_ne F3.out F2.out (by decide)))
          refine hK.out _ _ ?_ (fun hHeld => ?_)
          · have q := HSW.out
            exact ⟨(HBN.out.cell (lt_of_cell q.1)).trans q.1, (HBN.out.cell (lt_of_cell q.2)).trans q.2⟩
          clear hK K z0 y0
          try simp only [Act.put, List.setIfInBounds_toArray, List.set_cons_zero, List.set_cons_succ, List.getElem_toArray, List.getElem_cons_zero, List.getElem_cons_succ]
          refine wpAnyH_done (by kernel_rfl) ?_ _
          go_wp2_with fail
          go_meet
          refine ⟨AB, g2, cap2, rfl, HBN.out, F2N.out, fns_own F3N.out HL1.out HL2.out (fun i hi => (HIT1.out i hi).keep (Stays.of_below HBN.out)) (fun i hi => (HIT2.out i hi).keep (Stays.of_below HBN.out))⟩
        go_simp
        have HBA3 : Hid (Below w5.heap.size w5 (wA.alloc (.cells #[.slice none 0 0] 26))) := Lib.hid (up_alloc HBA2.out _)
        have HBOX : Hid ((wA.alloc (.cells #[.slice none 0 0] 26)).heap[wA.heap.size]? = some (.cells #[.slice none 0 0] 26 (0, 0))) := Lib.hid (new_heap _ _ _ rfl)
        have HBZ := Lib.hid HBA2.out.size
        replace HOWN := Lib.hid (own_below HOWN.out (up_alloc (Below.refl _ _) _ : Below wA.heap.size wA (wA.alloc (.cells #[.slice none 0 0] 26))))
        refine hK.out _ _ ?_ (fun hHeld => ?_)
        · have q := HSW.out
          exact ⟨(HBA3.out.cell (lt_of_cell q.1)).trans q.1, (HBA3.out.cell (lt_of_cell q.2)).trans q.2⟩
        clear hK K
        try simp only [Act.put, List.setIfInBounds_toArray, List.set_cons_zero, List.set_cons_succ, List.getElem_toArray, List.getElem_cons_zero, List.getElem_cons_succ]
        refine wpAnyH_ready (rs := [6]) (by kernel_rfl) (by simp) ?_
        refine (AllReadyH.cons rfl (fun K hK => ?_) AllReadyH.nil)
        have hown := HOWN.out
        refine step_append_any rfl _ _ _ rfl N5 34 inf _ 5 80 (by kernel_rfl) HINF.out.1 HINF.out.2.1 HINF.out.2.2.1 HINF.out.2.2.2 rfl (by decide) _ _ _ _ rfl hown _ _ _ (flat cs2 q.length) rfl HN2.out (flat_len HL2.out) (row_news (by decide) (HROW2.out.keep (Stays.of_below HBA3.out))) HO2.out (by have := H64.out; unfold maxLen; omega) (by have := H64.out; omega) (by rw [HN5.out]; exact HBA3.out.size) (fun g2 cap2 wB hown2 hg2 => ?_)
        have HBA4 : Hid (Below w5.heap.size w5 wB) := Lib.hid (grown_keep hg2 HBA3.out (by have q := (own_block hown rfl).1; rw [HN5.out] at q; exact q))
        replace HBOX := Lib.hid (grown_heap hg2 (own_ne hown HBOX.out (by decide)) HBOX.out)
        try simp only [Nat.zero_add, List.nil_append] at hown2
        replace HOWN := Lib.hid hown2
        clear hown hown2 hg2
        refine hK.out _ _ ?_ (fun hHeld => ?_)
        · have q := HSW.out
          exact ⟨(HBA4.out.cell (lt_of_cell q.1)).trans q.1, (HBA4.out.cell (lt_of_cell q.2)).trans q.2⟩
        clear hK K
        try simp only [Act.put, List.setIfInBounds_toArray, List.set_cons_zero, List.set_cons_succ, List.getElem_toArray, List.getElem_cons_zero, List.getElem_cons_succ]
        try simp only [Nat.zero_add]
        refine wpAnyH_take (i := 7) (v := ?_) rfl (by kernel_rfl) (by kernel_rfl) (by kernel_rfl) (fun _ _ _ h => h) (Or.inl ⟨by rfl, ?_⟩) (by assumption) ?_
        rotate_left 1
        · (intro w hSw; (try dsimp only at hSw); go_simp; try with_reducible rfl)
        try simp only [Act.put, List.setIfInBounds_toArray, List.set_cons_zero, List.set_cons_succ, List.getElem_toArray, List.getElem_cons_zero, List.getElem_cons_succ]
        obtain ⟨W9, hW9⟩ : ∃ W9, W9 = wB := ⟨_, rfl⟩
        have f1 : Below N5 w5 W9 := by rw [hW9, HN5.out]; exact HBA4.out
        have f2 : W9.heap[wA.heap.size]? = some (.cells #[.slice none 0 0] 26 (0, 0)) := by
          have q := HBOX.out
          rw [hW9]
          exact q
        have f3 : W9.ownsRow N5 34 5 (.slice (some ⟨g2, 0, none⟩) (p.length + q.length) cap2) (p.length + q.length) (flat cs1 p.length ++ flat cs2 q.length) := by rw [hW9]; exact HOWN.out
        have f4 : N5 ≤ wA.heap.size := by rw [HN5.out]; exact HBZ.out
        revert f1 f2 f3 f4
        rw [← hW9]
        clear hW9
        generalize wA.heap.size = AB
        intro f1 f2 f3 f4
        clear HBA0 HBA1 HBA2 HBA3 HBA4 HBOX HOWN
        have z0 : W9.cell? ⟨AB, 0, none⟩ = some (.slice none 0 0) := cell_of f2 (j := 0) rfl
        have y0 : W9.frozen? ⟨AB, 0, none⟩ = false := frozen_of f2 0
        have F1 := Lib.hid f1
        have F2 := Lib.hid f2
        have F3 := Lib.hid f3
        have F4 := Lib.hid f4
        clear f1 f2 f3 f4
        refine wpAnyH_ready (rs := [9]) (by kernel_rfl) (by simp) ?_
        refine (AllReadyH.cons rfl (fun K hK => ?_) AllReadyH.nil)
        go_simp
        have HBN : Hid (Below w5.heap.size w5 (W9.setCell ⟨AB, 0, none⟩ (.slice (some ⟨g2, 0, none⟩) (p.length + q.length) cap2))) := Lib.hid (by rw [← HN5.out]; exact F1.out.setCell (p := ⟨AB, 0, none⟩) F4.out _)
        have F2N : Hid ((W9.setCell ⟨AB, 0, none⟩ (.slice (some ⟨g2, 0, none⟩) (p.length + q.length) cap2)).heap[AB]? = some (.cells #[(.slice (some ⟨g2, 0, none⟩) (p.length + q.length) cap2)] 26 (0, 0))) := Lib.hid (setCell_obj F2.out 0 _)
        have F3N : Hid ((W9.setCell ⟨AB, 0, none⟩ (.slice (some ⟨g2, 0, none⟩) (p.length + q.length) cap2)).ownsRow N5 34 5 (.slice (some ⟨g2, 0, none⟩) (p.length + q.length) cap2) (p.length + q.length) (flat cs1 p.length ++ flat cs2 q.length)) := Lib.hid (own_keep_ne F3.out (own_ne F3.out F2.out (by decide)))
        refine hK.out _ _ ?_ (fun hHeld => ?_)
        · have q := HSW.out
          exact ⟨(HBN.out.cell (lt_of_cell q.1)).trans q.1, (HBN.out.cell (lt_of_cell q.2)).trans q.2⟩
        clear hK K z0 y0
        try simp only [Act.put, List.setIfInBounds_toArray, List.set_cons_zero, List.set_cons_succ, List.getElem_toArray, List.getElem_cons_zero, List.getElem_cons_succ]
        refine wpAnyH_done (by kernel_rfl) ?_ _
        go_wp2_with fail
        go_meet
        refine ⟨AB, g2, cap2, rfl, HBN.out, F2N.out, fns_own F3N.out HL1.out HL2.out (fun i hi => (HIT1.out i hi).keep (Stays.of_below HBN.out)) (fun i hi => (HIT2.out i hi).keep (Stays.of_below HBN.out))⟩
      go_simp
      have HBA2 : Hid (Below w5.heap.size w5 ((w5.drew.alloc (.cells #[] 34)).alloc (.cells #[.slice none 0 0] 26))) := Lib.hid (up_alloc HBA1.out _)
      have HBOX : Hid (((w5.drew.alloc (.cells #[] 34)).alloc (.cells #[.slice none 0 0] 26)).heap[(w5.drew.alloc (.cells #[] 34)).heap.size]? = some (.cells #[.slice none 0 0] 26 (0, 0))) := Lib.hid (new_heap _ _ _ rfl)
      have HBZ := Lib.hid HBA1.out.size
      replace HOWN := Lib.hid (own_below HOWN.out (up_alloc (Below.refl _ _) _ : Below (w5.drew.alloc (.cells #[] 34)).heap.size (w5.drew.alloc (.cells #[] 34)) ((w5.drew.alloc (.cells #[] 34)).alloc (.cells #[.slice none 0 0] 26))))
      refine hK.out _ _ ?_ (fun hHeld => ?_)
      · have q := HSW.out
        exact ⟨(HBA2.out.cell (lt_of_cell q.1)).trans q.1, (HBA2.out.cell (lt_of_cell q.2)).trans q.2⟩
      clear hK K
      try simp only [Act.put, List.setIfInBounds_toArray, List.set_cons_zero, List.set_cons_succ, List.getElem_toArray, List.getElem_cons_zero, List.getElem_cons_succ]
      refine wpAnyH_ready (rs := [3]) (by kernel_rfl) (by simp) ?_
      refine (AllReadyH.cons rfl (fun K hK => ?_) AllReadyH.nil)
      have hown := HOWN.out
      refine step_append_any rfl _ _ _ rfl N5 34 inf _ 5 80 (by kernel_rfl) HINF.out.1 HINF.out.2.1 HINF.out.2.2.1 HINF.out.2.2.2 rfl (by decide) _ _ _ _ rfl hown _ _ _ (flat cs1 p.length) rfl HN1.out (flat_len HL1.out) (row_news (by decide) (HROW1.out.keep (Stays.of_below HBA2.out))) HO1.out (by have := H64.out; unfold maxLen; omega) (by have := H64.out; omega) (by rw [HN5.out]; exact HBA2.out.size) (fun g1 cap1 wA hown2 hg2 => ?_)
      have HBA3 : Hid (Below w5.heap.size w5 wA) := Lib.hid (grown_keep hg2 HBA2.out (by have q := (own_block hown rfl).1; rw [HN5.out] at q; exact q))
      replace HBOX := Lib.hid (grown_heap hg2 (own_ne hown HBOX.out (by decide)) HBOX.out)
      try simp only [Nat.zero_add, List.nil_append] at hown2
      replace HOWN := Lib.hid hown2
      clear hown hown2 hg2
      refine hK.out _ _ ?_ (fun hHeld => ?_)
      · have q := HSW.out
        exact ⟨(HBA3.out.cell (lt_of_cell q.1)).trans q.1, (HBA3.out.cell (lt_of_cell q.2)).trans q.2⟩
      clear hK K
      try simp only [Act.put, List.setIfInBounds_toArray, List.set_cons_zero, List.set_cons_succ, List.getElem_toArray, List.getElem_cons_zero, List.getElem_cons_succ]
      try simp only [Nat.zero_add]
      refine wpAnyH_ready (rs := [6]) (by kernel_rfl) (by simp) ?_
      refine (AllReadyH.cons rfl (fun K hK => ?_) AllReadyH.nil)
      have hown := HOWN.out
      refine step_append_any rfl _ _ _ rfl N5 34 inf _ 5 80 (by kernel_rfl) HINF.out.1 HINF.out.2.1 HINF.out.2.2.1 HINF.out.2.2.2 rfl (by decide) _ _ _ _ rfl hown _ _ _ (flat cs2 q.length) rfl HN2.out (flat_len HL2.out) (row_news (by decide) (HROW2.out.keep (Stays.of_below HBA3.out))) HO2.out (by have := H64.out; unfold maxLen; omega) (by have := H64.out; omega) (by rw [HN5.out]; exact HBA3.out.size) (fun g2 cap2 wB hown2 hg2 => ?_)
      have HBA4 : Hid (Below w5.heap.size w5 wB) := Lib.hid (grown_keep hg2 HBA3.out (by have q := (own_block hown rfl).1; rw [HN5.out] at q; exact q))
      replace HBOX := Lib.hid (grown_heap hg2 (own_ne hown HBOX.out (by decide)) HBOX.out)
      try simp only [Nat.zero_add, List.nil_append] at hown2
      replace HOWN := Lib.hid hown2
      clear hown hown2 hg2
      refine hK.out _ _ ?_ (fun hHeld => ?_)
      · have q := HSW.out
        exact ⟨(HBA4.out.cell (lt_of_cell q.1)).trans q.1, (HBA4.out.cell (lt_of_cell q.2)).trans q.2⟩
      clear hK K
      try simp only [Act.put, List.setIfInBounds_toArray, List.set_cons_zero, List.set_cons_succ, List.getElem_toArray, List.getElem_cons_zero, List.getElem_cons_succ]
      try simp only [Nat.zero_add]
      refine wpAnyH_take (i := 7) (v := ?_) rfl (by kernel_rfl) (by kernel_rfl) (by kernel_rfl) (fun _ _ _ h => h) (Or.inl ⟨by rfl, ?_⟩) (by assumption) ?_
      rotate_left 1
      · (intro w hSw; (try dsimp only at hSw); go_simp; try with_reducible rfl)
      try simp only [Act.put, List.setIfInBounds_toArray, List.set_cons_zero, List.set_cons_succ, List.getElem_toArray, List.getElem_cons_zero, List.getElem_cons_succ]
      obtain ⟨W9, hW9⟩ : ∃ W9, W9 = wB := ⟨_, rfl⟩
      have f1 : Below N5 w5 W9 := by rw [hW9, HN5.out]; exact HBA4.out
      have f2 : W9.heap[w5.heap.size + 1]? = some (.cells #[.slice none 0 0] 26 (0, 0)) := by
        have q := HBOX.out
        simp only [size_alloc] at q
        rw [hW9]
        exact q
      have f3 : W9.ownsRow N5 34 5 (.slice (some ⟨g2, 0, none⟩) (p.length + q.length) cap2) (p.length + q.length) (flat cs1 p.length ++ flat cs2 q.length) := by rw [hW9]; exact HOWN.out
      have f4 : N5 ≤ w5.heap.size + 1 := by rw [HN5.out]; omega
      revert f1 f2 f3 f4
      rw [← hW9]
      clear hW9
      generalize w5.heap.size + 1 = AB
      intro f1 f2 f3 f4
      clear HBA0 HBA1 HBA2 HBA3 HBA4 HBOX HOWN
      have z0 : W9.cell? ⟨AB, 0, none⟩ = some (.slice none 0 0) := cell_of f2 (j := 0) rfl
      have y0 : W9.frozen? ⟨AB, 0, none⟩ = false := frozen_of f2 0
      have F1 := Lib.hid f1
      have F2 := Lib.hid f2
      have F3 := Lib.hid f3
      have F4 := Lib.hid f4
      clear f1 f2 f3 f4
      refine wpAnyH_ready (rs := [9]) (by kernel_rfl) (by simp) ?_
      refine (AllReadyH.cons rfl (fun K hK => ?_) AllReadyH.nil)
      go_simp
      have HBN : Hid (Below w5.heap.size w5 (W9.setCell ⟨AB, 0, none⟩ (.slice (some ⟨g2, 0, none⟩) (p.length + q.length) cap2))) := Lib.hid (by rw [← HN5.out]; exact F1.out.setCell (p := ⟨AB, 0, none⟩) F4.out _)
      have F2N : Hid ((W9.setCell ⟨AB, 0, none⟩ (.slice (some ⟨g2, 0, none⟩) (p.length + q.length) cap2)).heap[AB]? = some (.cells #[(.slice (some ⟨g2, 0, none⟩) (p.length + q.length) cap2)] 26 (0, 0))) := Lib.hid (setCell_obj F2.out 0 _)
      have F3N : Hid ((W9.setCell ⟨AB, 0, none⟩ (.slice (some ⟨g2, 0, none⟩) (p.length + q.length) cap2)).ownsRow N5 34 5 (.slice (some ⟨g2, 0, none⟩) (p.length + q.length) cap2) (p.length + q.length) (flat cs1 p.length ++ flat cs2 q.length)) := Lib.hid (own_keep_ne F3.out (own_ne F3.out F2.out (by decide)))
      refine hK.out _ _ ?_ (fun hHeld => ?_)
      · have q := HSW.out
        exact ⟨(HBN.out.cell (lt_of_cell q.1)).trans q.1, (HBN.out.cell (lt_of_cell q.2)).trans q.2⟩
      clear hK K z0 y0
      try simp only [Act.put, List.setIfInBounds_toArray, List.set_cons_zero, List.set_cons_succ, List.getElem_toArray, List.getElem_cons_zero, List.getElem_cons_succ]
      refine wpAnyH_done (by kernel_rfl) ?_ _
      go_wp2_with fail
      go_meet
      refine ⟨AB, g2, cap2, rfl, HBN.out, F2N.out, fns_own F3N.out HL1.out HL2.out (fun i hi => (HIT1.out i hi).keep (Stays.of_below HBN.out)) (fun i hi => (HIT2.out i hi).keep (Stays.of_below HBN.out))⟩
    go_simp
    have HBA1 : Hid (Below w5.heap.size w5 (w5.drew.alloc (.cells #[.slice none 0 0] 26))) := Lib.hid (up_alloc HBA0.out _)
    have HBOX : Hid ((w5.drew.alloc (.cells #[.slice none 0 0] 26)).heap[w5.drew.heap.size]? = some (.cells #[.slice none 0 0] 26 (0, 0))) := Lib.hid (new_heap _ _ _ rfl)
    have HBZ := Lib.hid HBA0.out.size
    refine hK.out _ _ ?_ (fun hHeld => ?_)
    · have q := HSW.out
      exact ⟨(HBA1.out.cell (lt_of_cell q.1)).trans q.1, (HBA1.out.cell (lt_of_cell q.2)).trans q.2⟩
    clear hK K
    try simp only [Act.put, List.setIfInBounds_toArray, List.set_cons_zero, List.set_cons_succ, List.getElem_toArray, List.getElem_cons_zero, List.getElem_cons_succ]
    refine wpAnyH_ready (rs := [0]) (by kernel_rfl) (by simp) ?_
    refine (AllReadyH.cons rfl (fun K hK => ?_) AllReadyH.nil)
    go_simp
    have HBA2 : Hid (Below w5.heap.size w5 ((w5.drew.alloc (.cells #[.slice none 0 0] 26)).alloc (.cells #[] 34))) := Lib.hid (up_alloc HBA1.out _)
    replace HBOX : Hid (((w5.drew.alloc (.cells #[.slice none 0 0] 26)).alloc (.cells #[] 34)).heap[_]? = _) := Lib.hid (old_heap _ _ _ _ HBOX.out)
    have HOWN : Hid (((w5.drew.alloc (.cells #[.slice none 0 0] 26)).alloc (.cells #[] 34)).ownsRow N5 34 5 (.slice (some ⟨w5.heap.size + 1, 0, none⟩) 0 0) 0 []) := Lib.hid (own_empty (new_heap _ _ _ (by rw [size_alloc]; rfl)) (by rw [HN5.out]; omega))
    refine hK.out _ _ ?_ (fun hHeld => ?_)
    · have q := HSW.out
      exact ⟨(HBA2.out.cell (lt_of_cell q.1)).trans q.1, (HBA2.out.cell (lt_of_cell q.2)).trans q.2⟩
    clear hK K
    try simp only [Act.put, List.setIfInBounds_toArray, List.set_cons_zero, List.set_cons_succ, List.getElem_toArray, List.getElem_cons_zero, List.getElem_cons_succ]
    refine wpAnyH_ready (rs := [3]) (by kernel_rfl) (by simp) ?_
    refine (AllReadyH.cons rfl (fun K hK => ?_) AllReadyH.nil)
    have hown := HOWN.out
    refine step_append_any rfl _ _ _ rfl N5 34 inf _ 5 80 (by kernel_rfl) HINF.out.1 HINF.out.2.1 HINF.out.2.2.1 HINF.out.2.2.2 rfl (by decide) _ _ _ _ rfl hown _ _ _ (flat cs1 p.length) rfl HN1.out (flat_len HL1.out) (row_news (by decide) (HROW1.out.keep (Stays.of_below HBA2.out))) HO1.out (by have := H64.out; unfold maxLen; omega) (by have := H64.out; omega) (by rw [HN5.out]; exact HBA2.out.size) (fun g1 cap1 wA hown2 hg2 => ?_)
    have HBA3 : Hid (Below w5.heap.size w5 wA) := Lib.hid (grown_keep hg2 HBA2.out (by have q := (own_block hown rfl).1; rw [HN5.out] at q; exact q))
    replace HBOX := Lib.hid (grown_heap hg2 (own_ne hown HBOX.out (by decide)) HBOX.out)
    try simp only [Nat.zero_add, List.nil_append] at hown2
    replace HOWN := Lib.hid hown2
    clear hown hown2 hg2
    refine hK.out _ _ ?_ (fun hHeld => ?_)
    · have q := HSW.out
      exact ⟨(HBA3.out.cell (lt_of_cell q.1)).trans q.1, (HBA3.out.cell (lt_of_cell q.2)).trans q.2⟩
    clear hK K
    try simp only [Act.put, List.setIfInBounds_toArray, List.set_cons_zero, List.set_cons_succ, List.getElem_toArray, List.getElem_cons_zero, List.getElem_cons_succ]
    try simp only [Nat.zero_add]
    refine wpAnyH_ready (rs := [6]) (by kernel_rfl) (by simp) ?_
    refine (AllReadyH.cons rfl (fun K hK => ?_) AllReadyH.nil)
    have hown := HOWN.out
    refine step_append_any rfl _ _ _ rfl N5 34 inf _ 5 80 (by kernel_rfl) HINF.out.1 HINF.out.2.1 HINF.out.2.2.1 HINF.out.2.2.2 rfl (by decide) _ _ _ _ rfl hown _ _ _ (flat cs2 q.length) rfl HN2.out (flat_len HL2.out) (row_news (by decide) (HROW2.out.keep (Stays.of_below HBA3.out))) HO2.out (by have := H64.out; unfold maxLen; omega) (by have := H64.out; omega) (by rw [HN5.out]; exact HBA3.out.size) (fun g2 cap2 wB hown2 hg2 => ?_)
    have HBA4 : Hid (Below w5.heap.size w5 wB) := Lib.hid (grown_keep hg2 HBA3.out (by have q := (own_block hown rfl).1; rw [HN5.out] at q; exact q))
    replace HBOX := Lib.hid (grown_heap hg2 (own_ne hown HBOX.out (by decide)) HBOX.out)
    try simp only [Nat.zero_add, List.nil_append] at hown2
    replace HOWN := Lib.hid hown2
    clear hown hown2 hg2
    refine hK.out _ _ ?_ (fun hHeld => ?_)
    · have q := HSW.out
      exact ⟨(HBA4.out.cell (lt_of_cell q.1)).trans q.1, (HBA4.out.cell (lt_of_cell q.2)).trans q.2⟩
    clear hK K
    try simp only [Act.put, List.setIfInBounds_toArray, List.set_cons_zero, List.set_cons_succ, List.getElem_toArray, List.getElem_cons_zero, List.getElem_cons_succ]
    try simp only [Nat.zero_add]
    refine wpAnyH_take (i := 7) (v := ?_) rfl (by kernel_rfl) (by kernel_rfl) (by kernel_rfl) (fun _ _ _ h => h) (Or.inl ⟨by rfl, ?_⟩) (by assumption) ?_
    rotate_left 1
    · (intro w hSw; (try dsimp only at hSw); go_simp; try with_reducible rfl)
    try simp only [Act.put, List.setIfInBounds_toArray, List.set_cons_zero, List.set_cons_succ, List.getElem_toArray, List.getElem_cons_zero, List.getElem_cons_succ]
    obtain ⟨W9, hW9⟩ : ∃ W9, W9 = wB := ⟨_, rfl⟩
    have f1 : Below N5 w5 W9 := by rw [hW9, HN5.out]; exact HBA4.out
    have f2 : W9.heap[w5.heap.size]? = some (.cells #[.slice none 0 0] 26 (0, 0)) := by
      have q := HBOX.out
      rw [hW9]
      exact q
    have f3 : W9.ownsRow N5 34 5 (.slice (some ⟨g2, 0, none⟩) (p.length + q.length) cap2) (p.length + q.length) (flat cs1 p.length ++ flat cs2 q.length) := by rw [hW9]; exact HOWN.out
    have f4 : N5 ≤ w5.heap.size := by rw [HN5.out]; omega
    revert f1 f2 f3 f4
    rw [← hW9]
    clear hW9
    generalize w5.heap.size = AB
    intro f1 f2 f3 f4
    clear HBA0 HBA1 HBA2 HBA3 HBA4 HBOX HOWN
    have z0 : W9.cell? ⟨AB, 0, none⟩ = some (.slice none 0 0) := cell_of f2 (j := 0) rfl
    have y0 : W9.frozen? ⟨AB, 0, none⟩ = false := frozen_of f2 0
    have F1 := Lib.hid f1
    have F2 := Lib.hid f2
    have F3 := Lib.hid f3
    have F4 := Lib.hid f4
    clear f1 f2 f3 f4
    refine wpAnyH_ready (rs := [9]) (by kernel_rfl) (by simp) ?_
    refine (AllReadyH.cons rfl (fun K hK => ?_) AllReadyH.nil)
    go_simp
    have HBN : Hid (Below w5.heap.size w5 (W9.setCell ⟨AB, 0, none⟩ (.slice (some ⟨g2, 0, none⟩) (p.length + q.length) cap2))) := Lib.hid (by rw [← HN5.out]; exact F1.out.setCell (p := ⟨AB, 0, none⟩) F4.out _)
    have F2N : Hid ((W9.setCell ⟨AB, 0, none⟩ (.slice (some ⟨g2, 0, none⟩) (p.length + q.length) cap2)).heap[AB]? = some (.cells #[(.slice (some ⟨g2, 0, none⟩) (p.length + q.length) cap2)] 26 (0, 0))) := Lib.hid (setCell_obj F2.out 0 _)
    have F3N : Hid ((W9.setCell ⟨AB, 0, none⟩ (.slice (some ⟨g2, 0, none⟩) (p.length + q.length) cap2)).ownsRow N5 34 5 (.slice (some ⟨g2, 0, none⟩) (p.length + q.length) cap2) (p.length + q.length) (flat cs1 p.length ++ flat cs2 q.length)) := Lib.hid (own_keep_ne F3.out (own_ne F3.out F2.out (by decide)))
    refine hK.out _ _ ?_ (fun hHeld => ?_)
    · have q := HSW.out
      exact ⟨(HBN.out.cell (lt_of_cell q.1)).trans q.1, (HBN.out.cell (lt_of_cell q.2)).trans q.2⟩
    clear hK K z0 y0
    try simp only [Act.put, List.setIfInBounds_toArray, List.set_cons_zero, List.set_cons_succ, List.getElem_toArray, List.getElem_cons_zero, List.getElem_cons_succ]
    refine wpAnyH_done (by kernel_rfl) ?_ _
    go_wp2_with fail
    go_meet
    refine ⟨AB, g2, cap2, rfl, HBN.out, F2N.out, fns_own F3N.out HL1.out HL2.out (fun i hi => (HIT1.out i hi).keep (Stays.of_below HBN.out)) (fun i hi => (HIT2.out i hi).keep (Stays.of_below HBN.out))⟩
  case rest =>
    obtain ⟨AB, g, cap, rfl, hbx, hab, hrep⟩ := hcut
    obtain ⟨l, hlq⟩ : ∃ l, l = p ++ q := ⟨_, rfl⟩
    rw [← hlq] at hrep HFEW HML
    have hlen : p.length + q.length = l.length := by rw [hlq, List.length_append]
    rw [hlen] at hab hrep
    have HB6 := Lib.hid (HB5.out.trans (hbx.mono HB5.out.size))
    have HAB := Lib.hid hab
    have HREP := Lib.hid hrep
    have hl128 : l.length ≤ 128 := by have := H64.out; omega
    clear hbx hab hrep hlq hlen HROW1 HROW2 HIT1 HIT2 HO1 HO2 HL1 HL2 HN1 HN2 HSW hs0 HPB HQB H64 HINF HCP HCQ HN5 HB1 HB2 HB3 HB4 HB5
    have HCELL : Hid (∀ i, i < l.length → wc.cell? ⟨g, i * 5, none⟩ = some (.string (l.getD i default).name)) := Lib.hid (fun i hi => fn_cell HREP.out i hi)
    have hgl : 0 < l.length → g < wc.heap.size := fun h => lt_of_cell (HCELL.out 0 h)
    have hal : AB < wc.heap.size := lt_block HAB.out
    have HGA := Lib.hid (And.intro hgl hal)
    clear hgl hal
    go_wp2_with fail
    go_loopg [13, 14] l.length (fun gk t13 t14 wr => ∃ (i : Nat) (b : Bool), i + gk = l.length ∧ t13 = .bool b ∧ t14 = .int .i64 (i : Int) ∧ (b = true ↔ ∃ j k, k < j ∧ j < i ∧ (l.getD j default).name = (l.getD k default).name) ∧ Below wc.heap.size wc wr)
    case atStart => exact ⟨0, false, Nat.zero_add _, rfl, rfl, ⟨fun h => (by cases h), fun ⟨j, k, _, h, _⟩ => absurd h (Nat.not_lt_zero _)⟩, Below.refl _ _⟩
    case round =>
      obtain ⟨i, b, hig, rfl, rfl, hbi, hbw⟩ := hrel
      have HBI := Lib.hid hbi
      have HBW := Lib.hid hbw
      clear hbi hbw
      have a0 : wr.cell? ⟨AB, 0, none⟩ = some (.slice (some ⟨g, 0, none⟩) l.length cap) := (HBW.out.cell (p := ⟨AB, 0, none⟩) HGA.out.2).trans (cell_of HAB.out (j := 0) rfl)
      by_cases hil : i < l.length
      · have g1 : (i : Int) < (l.length : Int) := by omega
        go_upto_region 11 with fail
        clear a0
        go_wp2_with fail
        go_loopg [13, 15] i (fun gk t13 t15 wr => ∃ (k : Nat) (b : Bool), k + gk = i ∧ t13 = .bool b ∧ t15 = .int .i64 (k : Int) ∧ (b = true ↔ (∃ j k, k < j ∧ j < i ∧ (l.getD j default).name = (l.getD k default).name) ∨ ∃ k2, k2 < k ∧ (l.getD i default).name = (l.getD k2 default).name) ∧ Below wc.heap.size wc wr)
        case atStart => exact ⟨0, b, Nat.zero_add _, rfl, rfl, HBI.out.trans ⟨fun h => .inl h, fun h => h.elim id (fun ⟨_, h, _⟩ => absurd h (Nat.not_lt_zero _))⟩, HBW.out⟩
        case round =>
          obtain ⟨k, b2, hkg, rfl, rfl, hbk, hbw⟩ := hrel
          have HBK := Lib.hid hbk
          have HBV := Lib.hid hbw
          clear hbk hbw
          by_cases hki : k < i
          · have g2 : (k : Int) < (i : Int) := by omega
            have g3 : (k : Int) < (l.length : Int) := by omega
            have g4 : (0 : Int) ≤ (i : Int) := by omega
            have g5 : (0 : Int) ≤ (k : Int) := by omega
            have a0 : wr.cell? ⟨AB, 0, none⟩ = some (.slice (some ⟨g, 0, none⟩) l.length cap) := (HBV.out.cell (p := ⟨AB, 0, none⟩) HGA.out.2).trans (cell_of HAB.out (j := 0) rfl)
            have c1 : wr.cell? ⟨g, i * 5, none⟩ = some (.string (l.getD i default).name) := (HBV.out.cell (p := ⟨g, i * 5, none⟩) (HGA.out.1 (by omega))).trans (HCELL.out i hil)
            have c2 : wr.cell? ⟨g, k * 5, none⟩ = some (.string (l.getD k default).name) := (HBV.out.cell (p := ⟨g, k * 5, none⟩) (HGA.out.1 (by omega))).trans (HCELL.out k (by omega))
            generalize hn1 : (l.getD i default).name = x1 at *
            generalize hn2 : (l.getD k default).name = x2 at *
            go_upto_region 14 with fail
            cases b2
            · go_quiet (fail)
              go_wp2_with fail
              go_roundg (i - k - 1)
              case measure => omega
              case rel => exact ⟨k + 1, _, by omega, rfl, rfl, step_new hn2 HBK.out, below_drewN HBV.out _⟩
            go_quiet (fail)
            go_wp2_with fail
            go_roundg (i - k - 1)
            case measure => omega
            case rel => exact ⟨k + 1, true, by omega, rfl, rfl, step_old HBK.out, below_drewN HBV.out _⟩
          obtain rfl : k = i := by omega
          have g2 : ¬ (k : Int) < (k : Int) := by omega
          go_wp2_with fail
          go_roundg (l.length - k - 1)
          case measure => omega
          case rel => exact ⟨k + 1, b2, by omega, rfl, rfl, step_end HBK.out, HBV.out⟩
      obtain rfl : i = l.length := by omega
      have g1 : ¬ (l.length : Int) < (l.length : Int) := by omega
      have HDU : Hid (b = true ↔ ¬ apartB (l.map (·.name)) = true) := Lib.hid (HBI.out.trans ((not_congr (apart_iff l)).trans Classical.not_not).symm)
      have HCK := Lib.hid (check_ck l HFEW.out wr _ (HREP.out.keep (Stays.of_below HBW.out)))
      have HB7 := Lib.hid (HB6.out.trans (HBW.out.mono HB6.out.size))
      have hml := HML.out
      generalize checkC l = q at *
      obtain ⟨ce, ca⟩ := q
      dsimp only at HCK hml
      go_upto_region 15 with fail
      have a1 : wr.cell? ⟨AB, 0, none⟩ = some (.slice (some ⟨g, 0, none⟩) l.length cap) := (HBW.out.cell (p := ⟨AB, 0, none⟩) HGA.out.2).trans (cell_of HAB.out (j := 0) rfl)
      go_wp2_with fail
      refine HCK.out.mono ?_
      rintro e w8 ⟨rfl, hb8⟩
      have a2 : w8.cell? ⟨AB, 0, none⟩ = some (.slice (some ⟨g, 0, none⟩) l.length cap) := (hb8.cell (p := ⟨AB, 0, none⟩) (lt_of_cell a1)).trans a1
      have HB8 := Lib.hid (HB7.out.trans (hb8.mono HB7.out.size))
      clear hb8 a0 a1
      by_cases h64 : 64 < l.length
      · rw [if_pos h64] at hml
        subst hml
        have g2 : (64 : Int) < (l.length : Int) := by omega
        go_wp2_with fail
        exact bodyPost_ret (v := .bool true) (by simp [results, Try.results3, go_sem]) rfl ⟨rfl, HB8.out⟩
      rw [if_neg h64] at hml
      have g2 : ¬ (64 : Int) < (l.length : Int) := by omega
      obtain ⟨hm1, hm2⟩ := hml
      rcases hm2 with hm2 | hm2
      · subst hm2
        have hb0 : b = false := by cases b; rfl; exact absurd (hm1.1 rfl) (HDU.out.1 rfl)
        subst hb0
        clear hm1
        go_wp2_with fail
        exact bodyPost_ret (v := .bool true) (by simp [results, Try.results3, go_sem]) rfl ⟨rfl, HB8.out⟩
      subst hm2
      have hb0 : b = true := HDU.out.2 (fun h => absurd (hm1.2 h) (by decide))
      subst hb0
      clear hm1
      go_wp2_with fail
      exact bodyPost_ret (v := .bool true) (by simp [results, Try.results3, go_sem]) rfl ⟨rfl, HB8.out⟩
end Go.Proofs.Ytpiamiaigjlafaa
