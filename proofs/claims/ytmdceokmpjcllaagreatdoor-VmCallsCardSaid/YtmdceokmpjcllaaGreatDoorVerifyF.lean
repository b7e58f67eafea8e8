/-
  What an instruction does to a state: calls and returns, and all arms.
-/
import Derived.Test.YtmdceokmpjcllaaGreatDoorVerifyE
namespace Go.Proofs.YtmdceokmpjcllaaGreatDoor
open Go.RowKit
attribute [local go_sem ↓] Go.wp_at_zero Go.wp_at_succ

set_option maxRecDepth 100000 in
set_option maxHeartbeats 1000000 in
theorem does_call (k : Nat) (s : Sta) (c : Cd) (m : Mdl) (a : Int) (v0 v1 v2 v3 v4 vm : Value) (B w : World) (h : StAt w k s.st s.sl) (hlen : s.st.length ≤ 900000)
    (hm : RepMdl B vm m) (hB : Below B.heap.size B w) (hkB : B.heap.size ≤ k) :
    Calls Tryz.prog 56 #[.pointer (some ⟨k, 0, none⟩), .agg #[v0, v1, v2, v3, v4], vm, .agg #[.int .i64 14, .int .i64 a]] w (Says k w (doesS c m ⟨14, a⟩ s)) := by
  obtain ⟨st, sl⟩ := s
  dsimp only at h hlen ⊢
  have HW := Lib.hid h
  have hkl : k < w.heap.size := by obtain ⟨⟨_, q⟩, _⟩ := h; exact lt_of_block q
  obtain ⟨u0, u1, rfl, hcs, _⟩ := hm
  obtain ⟨s0, cap, c0, c1, c2, c3, c4, rfl, hbig, hcap, _, _, hrow, hcd⟩ := hcs
  have hk1 : w.heap.size + 1 ≠ k := by omega
  have hk2 : w.heap.size + 1 + 1 ≠ k := by omega
  have HR : Hid (doesS c m ⟨14, a⟩ ⟨st, sl⟩ = callS m a ⟨st, sl⟩) := Lib.hid rfl
  have HD := Lib.hid hcd
  have HX := Lib.hid hrow
  have HB := Lib.hid hB
  have HB3 := Lib.hid (hB.trans ((up3 (w := w) (.cells #[v0, v1, v2, v3, v4] 30) (.cells #[.slice s0 m.codes.length cap, u1] 43) (.cells #[.int .i64 14, .int .i64 a] 25)).mono hB.size))
  clear h hcd hrow hB
  generalize doesS c m ⟨14, a⟩ ⟨st, sl⟩ = r at *
  cases hq : inB a m.codes.length
  · replace hr : r = none := by rw [HR.out, callS, hq]; rfl
    have HI := Lib.hid (fun W => (show Calls Tryz.prog 58 #[.int .i64 a, .int .i64 m.codes.length] W fun e w' => e = .returned (.bool false) ∧ w' = W from by rw [← hq]; exact in_any a m.codes.length W))
    subst hr
    clear HR hq HD HX HB HB3
    generalize m.codes.length = ncd at *
    go_enter Tryz.func56, Tryz.ntmps56
    go_wp2_with fail
    refine (HI.out _).mono ?_
    rintro e w0 ⟨rfl, rfl⟩
    go_wp2_with fail
    go_ret
    exact ⟨rfl, On.of_below (up3 _ _ _), fun s e => by cases e⟩
  · have hbd : 0 ≤ a ∧ a < m.codes.length := by simpa [inB] using hq
    obtain ⟨n, rfl⟩ := Int.eq_ofNat_of_zero_le hbd.1
    have hn : n < m.codes.length := by omega
    have HI := Lib.hid (fun W => (show Calls Tryz.prog 58 #[.int .i64 (n : Int), .int .i64 m.codes.length] W fun e w' => e = .returned (.bool true) ∧ w' = W from by rw [← hq]; exact in_any _ m.codes.length W))
    have hr := HR.out
    unfold callS at hr
    rw [if_pos hq, Int.toNat_natCast] at hr
    have hd := HD.out n hn
    generalize m.codes.getD n default = d at *
    obtain ⟨b, off, rfl, hbl, hx⟩ := HX.out (by omega)
    obtain ⟨x0, x1, x2, x3, x4⟩ := hx n hn
    have Q1 := Lib.hid (fun (W : World) (hW : Below w.heap.size w W) => pop_any k st d.params sl (c1 n) W (HW.out.below hW) (hd.params.later (HB.out.trans (hW.mono HB.out.size))).tys)
    have P1 := Lib.hid (fun (W : World) (st' : List Int) (t : Int) (hs : StAt W k st' sl) (hl : st'.length ≤ 900000) (ht : i64 t) => push_any k st' sl t W hs hl ht)
    have hres := hd.result
    rw [hres] at x2
    have ht64 := hd.r1
    have HL := Lib.hid (popTo_len st d.params)
    have HP1 := Lib.hid (fun (e : popOk st d.params = true) => popTo_some (s := ⟨st, sl⟩) e)
    have HP2 := Lib.hid (fun (e : popOk st d.params = false) => popTo_none (s := ⟨st, sl⟩) e)
    generalize d.params = ps at *
    generalize d.result = t at *
    have HRR := Lib.hid hr
    clear HR hq HD HX hx hd hres x0 x3 x4 hr
    generalize m.codes.length = ncd at *
    have hn1 : (n : Int) < (ncd : Int) := by omega
    have hn0 : (0 : Int) ≤ (n : Int) := by omega
    have y1 : ((((w.alloc (.cells #[v0, v1, v2, v3, v4] 30)).alloc (.cells #[.slice (some ⟨b, off, none⟩) ncd cap, u1] 43)).alloc (.cells #[.int .i64 14, .int .i64 (n : Int)] 25)).cell? ⟨b, off + n * 5 + 1, none⟩ = some (c1 n)) := (up_cell HB3.out _ _ hbl).trans x1
    go_enter Tryz.func56, Tryz.ntmps56
    go_wp2_with fail
    refine (HI.out _).mono ?_
    rintro e w0 ⟨rfl, rfl⟩
    go_wp2_with fail
    refine (Q1.out _ (up3 _ _ _)).mono ?_
    rintro e w1 ⟨rfl, hon, hst⟩
    have HB1 := Lib.hid (hon.base HB3.out hkB)
    have z2 := (up_cell HB1.out _ _ hbl).trans x2
    have p1 : w1.cell? ⟨w.heap.size + 1, 0, none⟩ = some (.slice (some ⟨b, off, none⟩) ncd cap) := box2 hon hk1 0 _ rfl
    have p2 : w1.cell? ⟨w.heap.size + 1 + 1, 1, none⟩ = some (.int .i64 (n : Int)) := box3 hon hk2 1 _ rfl
    have HON := Lib.hid hon
    have HST := Lib.hid hst
    have HBL := Lib.hid hbl
    clear x1 x2 y1 hon hst hbd hbl
    cases hpo : popOk st ps
    · have hr := HRR.out
      rw [HP2.out hpo] at hr
      replace hr : r = none := hr
      subst hr
      clear HRR hpo
      go_wp2_with fail
      go_ret
      exact ⟨rfl, (On.of_below (up3 _ _ _)).trans HON.out, fun s e => by cases e⟩
    · have hr := HRR.out
      rw [HP1.out hpo] at hr
      replace hr : r = some (if t = 0 then ⟨popTo st ps, sl⟩ else pushS t ⟨popTo st ps, sl⟩) := hr
      clear HRR hpo
      have hl2 : (popTo st ps).length ≤ 900000 := Nat.le_trans HL.out hlen
      generalize popTo st ps = st' at *
      by_cases ht : t = 0
      · replace hr : r = some ⟨st', sl⟩ := by rw [hr]; simp [ht]
        subst hr
        subst ht
        go_wp2_with fail
        go_ret
        exact ⟨rfl, (On.of_below (up3 _ _ _)).trans HON.out, fun s e => by injection e with e; subst e; exact HST.out⟩
      · replace hr : r = some ⟨st' ++ [t], sl⟩ := by rw [hr]; simp [ht, pushS]
        subst hr
        have hd0 : (t == 0) = false := by simp [ht]
        go_wp2_with fail
        refine (P1.out _ _ t HST.out hl2 ht64).mono ?_
        rintro e w2 ⟨rfl, hst2, hon2⟩
        go_wp2_with fail
        go_ret
        exact ⟨rfl, ((On.of_below (up3 _ _ _)).trans HON.out).trans hon2, fun s e => by injection e with e; subst e; exact hst2⟩

theorem StAt.len {w : World} {k : Nat} {st : List Int} {sl : Nat → Int} (h : StAt w k st sl) : ∃ s0 cap, w.cell? ⟨k, 0, none⟩ = some (.slice s0 st.length cap) := by
  obtain ⟨sv, hc, s0, cap, rfl, h2, h3, _⟩ := h.top
  exact ⟨s0, cap, hc⟩

set_option maxRecDepth 100000 in
set_option maxHeartbeats 1000000 in
theorem does_ret (k : Nat) (s : Sta) (c : Cd) (m : Mdl) (a : Int) (v0 v1 v2 v3 v4 vm : Value) (w : World) (h : StAt w k s.st s.sl)
    (hc : RepCd w v0 v1 v2 v3 v4 c) (hm : RepMdl w vm m) :
    Calls Tryz.prog 56 #[.pointer (some ⟨k, 0, none⟩), .agg #[v0, v1, v2, v3, v4], vm, .agg #[.int .i64 18, .int .i64 a]] w (Says k w (doesS c m ⟨18, a⟩ s)) := by
  obtain ⟨st, sl⟩ := s
  dsimp only at h ⊢
  have HW := Lib.hid h
  have hkl : k < w.heap.size := by obtain ⟨⟨_, q⟩, _⟩ := h; exact lt_of_block q
  obtain ⟨u0, u1, rfl, _, _⟩ := hm
  obtain ⟨n1, n2, n3, rfl, n4, n5, n6, n7⟩ := hc
  clear n1 n2 n3 n4 n5 n6 n7
  have hr : doesS c m ⟨18, a⟩ ⟨st, sl⟩ = retS c ⟨st, sl⟩ := rfl
  unfold retS at hr
  have Q1 := Lib.hid (fun (W : World) (vw : Value) (want : List Int) (hW : Below w.heap.size w W) (hv : TysAt W vw want) => pop_any k st want sl vw W (HW.out.below hW) hv)
  generalize doesS c m ⟨18, a⟩ ⟨st, sl⟩ = r at *
  generalize c.result = t at *
  clear h
  by_cases ht : t = 0
  · subst ht
    obtain ⟨s0, cap, hc0⟩ := HW.out.len
    have b2 : (((w.alloc (.cells #[v0, v1, .int .i64 0, v3, v4] 30)).alloc (.cells #[u0, u1] 43)).alloc (.cells #[.int .i64 18, .int .i64 a] 25)).cell? ⟨k, 0, none⟩ = some (.slice s0 st.length cap) := old_cell _ (old_cell _ (old_cell _ hc0))
    replace hr : r = if st.length = 0 then some ⟨st, sl⟩ else none := by rw [hr]; simp
    by_cases h0 : st.length = 0
    · rw [if_pos h0] at hr
      subst hr
      have g0 : ((st.length : Int) == 0) = true := by simp [h0]
      go_enter Tryz.func56, Tryz.ntmps56
      go_wp2_with fail
      go_ret
      exact ⟨rfl, On.of_below (up3 _ _ _), fun s e => by injection e with e; subst e; exact HW.out.below (up3 _ _ _)⟩
    · rw [if_neg h0] at hr
      subst hr
      have g0 : ((st.length : Int) == 0) = false := by simp [h0]
      go_enter Tryz.func56, Tryz.ntmps56
      go_wp2_with fail
      go_ret
      exact ⟨rfl, On.of_below (up3 _ _ _), fun s e => by cases e⟩
  · rw [if_neg ht] at hr
    have hd0 : (t == 0) = false := by simp [ht]
    have HP1 := Lib.hid (fun (e : popOk st [t] = true) => popTo_some (s := ⟨st, sl⟩) e)
    have HP2 := Lib.hid (fun (e : popOk st [t] = false) => popTo_none (s := ⟨st, sl⟩) e)
    have HRR := Lib.hid hr
    clear hr
    go_enter Tryz.func56, Tryz.ntmps56
    go_wp2_with fail
    refine (Q1.out _ _ [t] (up4 _ _ _ _) (tys_one _ _ _ _ (size3 _ _ _ _))).mono ?_
    rintro e w1 ⟨rfl, hon, hst⟩
    have hr := HRR.out
    cases hpo : popOk st [t]
    · rw [HP2.out hpo] at hr
      replace hr : r = none := hr
      subst hr
      clear HRR
      go_wp2_with fail
      go_ret
      exact ⟨rfl, (On.of_below (up4 _ _ _ _)).trans hon, fun s e => by cases e⟩
    · rw [HP1.out hpo] at hr
      dsimp only [Option.bind] at hr
      obtain ⟨s0, cap, hc0⟩ := hst.len
      generalize popTo st [t] = st' at *
      have HS := Lib.hid hst
      clear HRR hst
      by_cases h0 : st'.length = 0
      · rw [if_pos h0] at hr
        subst hr
        have g0 : ((st'.length : Int) == 0) = true := by simp [h0]
        go_wp2_with fail
        go_ret
        exact ⟨rfl, (On.of_below (up4 _ _ _ _)).trans hon, fun s e => by injection e with e; subst e; exact HS.out⟩
      · rw [if_neg h0] at hr
        subst hr
        have g0 : ((st'.length : Int) == 0) = false := by simp [h0]
        go_wp2_with fail
        go_ret
        exact ⟨rfl, (On.of_below (up4 _ _ _ _)).trans hon, fun s e => by cases e⟩

/-- what an instruction does to a state -/
theorem does_any (k : Nat) (s : Sta) (c : Cd) (m : Mdl) (i : Ins) (v0 v1 v2 v3 v4 vm : Value) (B w : World) (h : StAt w k s.st s.sl) (hlen : s.st.length ≤ 900000)
    (hc : RepCd B v0 v1 v2 v3 v4 c) (hm : RepMdl B vm m) (hsl : c.slots ≤ 256) (hsg : Signs B) (hB : Below B.heap.size B w) (hkB : B.heap.size ≤ k) :
    Calls Tryz.prog 56 #[.pointer (some ⟨k, 0, none⟩), .agg #[v0, v1, v2, v3, v4], vm, .agg #[.int .i64 i.op, .int .i64 i.a]] w (Says k w (doesS c m i s)) := by
  obtain ⟨op, a⟩ := i
  have hm' := hm.later hB
  have hc' := hc.later hB
  have hsg' := hsg.below hB
  by_cases h1 : op = 1
  · subst h1; exact does_gas k s c m a v0 v1 v2 v3 v4 vm w h hm'
  by_cases h2 : op = 2 ∨ op = 3 ∨ op = 4 ∨ op = 5 ∨ op = 6 ∨ op = 17
  · exact does_moves k s c m op a v0 v1 v2 v3 v4 vm w h hlen hc' hm' hsl h2
  by_cases h3 : op = 7
  · subst h3; exact does_two k s c m a v0 v1 v2 v3 v4 vm B w h hlen hm' hsg hB hkB
  by_cases h4 : op = 8
  · subst h4
    by_cases n1 : signS a = ⟨#[45]⟩
    · exact does_one_neg k s c m a v0 v1 v2 v3 v4 vm w h hlen hm' hsg' n1
    by_cases n2 : signS a = ⟨#[33]⟩
    · exact does_one_not k s c m a v0 v1 v2 v3 v4 vm w h hlen hm' hsg' n2
    · exact does_one_no k s c m a v0 v1 v2 v3 v4 vm w hm' hsg' n1 n2
  by_cases h5 : op = 9
  · subst h5; exact does_get k s c m a v0 v1 v2 v3 v4 vm w h hlen hm'
  by_cases h6 : op = 10
  · subst h6; exact does_has k s c m a v0 v1 v2 v3 v4 vm w h hlen hm'
  by_cases h7 : op = 11
  · subst h7; exact does_len k s c m a v0 v1 v2 v3 v4 vm w h hlen hm'
  by_cases h8 : op = 12
  · subst h8; exact does_put k s c m a v0 v1 v2 v3 v4 vm w h hm'
  by_cases h9 : op = 13
  · subst h9; exact does_del k s c m a v0 v1 v2 v3 v4 vm w h hm'
  by_cases h10 : op = 14
  · subst h10; exact does_call k s c m a v0 v1 v2 v3 v4 vm B w h hlen hm hB hkB
  by_cases h11 : op = 16
  · subst h11; exact does_unless k s c m a v0 v1 v2 v3 v4 vm w h hm'
  by_cases h12 : op = 18
  · subst h12; exact does_ret k s c m a v0 v1 v2 v3 v4 vm w h hc' hm'
  · exact does_other k s c m op a v0 v1 v2 v3 v4 vm w h hm' (by omega)
end Go.Proofs.YtmdceokmpjcllaaGreatDoor
