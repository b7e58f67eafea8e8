/-
  What an instruction that moves things does to a state.
-/
import Derived.Test.YtmdceokmpjcllaaGreatDoorVerifyMw
namespace Go.Proofs.YtmdceokmpjcllaaGreatDoor
open Go.RowKit
attribute [local go_sem ↓] Go.wp_at_zero Go.wp_at_succ

set_option maxRecDepth 100000 in
set_option maxHeartbeats 1000000 in
theorem moves_any (k : Nat) (s : Sta) (c : Cd) (m : Mdl) (i : Ins) (v0 v1 v2 v3 v4 vm : Value) (w : World) (h : StAt w k s.st s.sl) (hlen : s.st.length ≤ 900000)
    (hc : RepCd w v0 v1 v2 v3 v4 c) (hm : RepMdl w vm m) (hsl : c.slots ≤ 256) :
    Calls Tryz.prog 88 #[.pointer (some ⟨k, 0, none⟩), .agg #[v0, v1, v2, v3, v4], vm, .agg #[.int .i64 i.op, .int .i64 i.a]] w (Says k w (movesS c.slots m.texts.length i s)) := by
  obtain ⟨op, a⟩ := i
  have O6 := Lib.hid (fun (_ : op = 6) => moves_store k s c m a v0 v1 v2 v3 v4 vm w h hlen hc hm hsl)
  obtain ⟨st, sl⟩ := s
  dsimp only at h hlen ⊢
  have HW := Lib.hid h
  have hkl : k < w.heap.size := by obtain ⟨⟨_, q⟩, _⟩ := h; exact lt_of_block q
  obtain ⟨_, _, _, _, rfl, _, _, _⟩ := hc
  obtain ⟨u0, u1, rfl, _, hmt⟩ := hm
  obtain ⟨s1, cap1, d0, rfl, n1, _, _, _, _⟩ := hmt
  have hk0 : w.heap.size ≠ k := by omega
  have hk1 : w.heap.size + 1 ≠ k := by omega
  have hk2 : w.heap.size + 1 + 1 ≠ k := by omega
  have P1 := Lib.hid (fun (W : World) (t : Int) (hW : Below w.heap.size w W) (ht : i64 t) => push_any k st sl t W (HW.out.below hW) hlen ht)
  clear h
  generalize c.slots = nsl at *
  generalize m.texts.length = ntx at *
  by_cases o2 : op = 2
  · subst o2
    rw [show movesS nsl ntx ⟨2, a⟩ ⟨st, sl⟩ = some ⟨st ++ [1], sl⟩ from rfl]
    go_enter Tryz.func88, Tryz.ntmps88
    go_wp2_with fail
    refine (P1.out _ 1 (up_alloc (up_alloc (up_alloc (Below.refl _ _) _) _) _) (by constructor <;> decide)).mono ?_
    rintro e w1 ⟨rfl, hst, hon⟩
    go_wp2_with fail
    go_ret
    exact ⟨rfl, (On.of_below (up_alloc (up_alloc (up_alloc (Below.refl _ _) _) _) _)).trans hon, fun s e => by injection e with e; subst e; exact hst⟩
  by_cases o3 : op = 3
  · subst o3
    have HR : Hid (∀ x, inB a 2 = x → movesS nsl ntx ⟨3, a⟩ ⟨st, sl⟩ = if x then some ⟨st ++ [2], sl⟩ else none) := Lib.hid (fun x hx => by subst hx; rfl)
    clear o2
    generalize movesS nsl ntx ⟨3, a⟩ ⟨st, sl⟩ = r at *
    go_enter Tryz.func88, Tryz.ntmps88
    go_wp2_with fail
    refine (P1.out _ 2 (up_alloc (up_alloc (up_alloc (Below.refl _ _) _) _) _) (by constructor <;> decide)).mono ?_
    rintro e w1 ⟨rfl, hst, hon⟩
    have q1 : w1.cell? ⟨w.heap.size + 1 + 1, 1, none⟩ = some (.int .i64 a) := box3 hon hk2 1 _ rfl
    go_wp2_with fail
    refine (in_any _ _ _).mono ?_
    rintro e w2 ⟨rfl, rfl⟩
    have hr := HR.out _ rfl
    generalize inB a 2 = q at *
    subst hr
    cases q
    · go_wp2_with fail
      go_ret
      exact ⟨rfl, (On.of_below (up_alloc (up_alloc (up_alloc (Below.refl _ _) _) _) _)).trans hon, fun s e => by cases e⟩
    · go_wp2_with fail
      go_ret
      exact ⟨rfl, (On.of_below (up_alloc (up_alloc (up_alloc (Below.refl _ _) _) _) _)).trans hon, fun s e => by injection e with e; subst e; exact hst⟩
  by_cases o4 : op = 4
  · subst o4
    have HR : Hid (∀ x, inB a ntx = x → movesS nsl ntx ⟨4, a⟩ ⟨st, sl⟩ = if x then some ⟨st ++ [3], sl⟩ else none) := Lib.hid (fun x hx => by subst hx; rfl)
    clear o2 o3
    generalize movesS nsl ntx ⟨4, a⟩ ⟨st, sl⟩ = r at *
    go_enter Tryz.func88, Tryz.ntmps88
    go_wp2_with fail
    refine (P1.out _ 3 (up_alloc (up_alloc (up_alloc (Below.refl _ _) _) _) _) (by constructor <;> decide)).mono ?_
    rintro e w1 ⟨rfl, hst, hon⟩
    have q1 : w1.cell? ⟨w.heap.size + 1 + 1, 1, none⟩ = some (.int .i64 a) := box3 hon hk2 1 _ rfl
    have q2 : w1.cell? ⟨w.heap.size + 1, 1, none⟩ = some (.slice s1 ntx cap1) := box2 hon hk1 1 _ rfl
    go_wp2_with fail
    refine (in_any _ _ _).mono ?_
    rintro e w2 ⟨rfl, rfl⟩
    have hr := HR.out _ rfl
    generalize inB a ntx = q at *
    subst hr
    cases q
    · go_wp2_with fail
      go_ret
      exact ⟨rfl, (On.of_below (up_alloc (up_alloc (up_alloc (Below.refl _ _) _) _) _)).trans hon, fun s e => by cases e⟩
    · go_wp2_with fail
      go_ret
      exact ⟨rfl, (On.of_below (up_alloc (up_alloc (up_alloc (Below.refl _ _) _) _) _)).trans hon, fun s e => by injection e with e; subst e; exact hst⟩
  by_cases o5 : op = 5
  · subst o5
    have HR : Hid (∀ x, inB a nsl = x → ∀ y, (sl a.toNat != 0) = y → movesS nsl ntx ⟨5, a⟩ ⟨st, sl⟩ = if x && y then some ⟨st ++ [sl a.toNat], sl⟩ else none) := Lib.hid (fun x hx y hy => by subst hx; subst hy; rfl)
    clear o2 o3 o4
    generalize movesS nsl ntx ⟨5, a⟩ ⟨st, sl⟩ = r at *
    have b1 : (((w.alloc (.cells #[.string c.name, v1, .int .i64 c.result, .int .i64 nsl, v4] 30)).alloc (.cells #[u0, .slice s1 ntx cap1] 43)).alloc (.cells #[.int .i64 5, .int .i64 a] 25)).cell? ⟨w.heap.size, 3, none⟩ = some (.int .i64 nsl) := old_cell _ (old_cell _ (new_cell _ _ _ _ _ _ rfl rfl))
    have b3 : (((w.alloc (.cells #[.string c.name, v1, .int .i64 c.result, .int .i64 nsl, v4] 30)).alloc (.cells #[u0, .slice s1 ntx cap1] 43)).alloc (.cells #[.int .i64 5, .int .i64 a] 25)).cell? ⟨w.heap.size + 1 + 1, 1, none⟩ = some (.int .i64 a) := new_cell _ _ _ _ _ _ (by rw [size_alloc, size_alloc]) rfl
    cases hq : inB a nsl
    · have HI := Lib.hid (fun W => (show Calls Tryz.prog 58 #[.int .i64 a, .int .i64 nsl] W fun e w' => e = .returned (.bool false) ∧ w' = W from by rw [← hq]; exact in_any a nsl W))
      have hr := HR.out _ hq _ rfl
      clear hq HR
      simp only [Bool.false_and] at hr
      subst hr
      go_enter Tryz.func88, Tryz.ntmps88
      go_wp2_with fail
      go_big_quiet (first | (go_at_call 58; exact Calls.quiet_of_same ((HI.out _).mono fun _ _ h => h)))
      go_wp2_with fail
      go_ret
      exact ⟨rfl, (On.of_below (up_alloc (up_alloc (up_alloc (Below.refl _ _) _) _) _)).drewN _, fun s e => by cases e⟩
    · have HI := Lib.hid (fun W => (show Calls Tryz.prog 58 #[.int .i64 a, .int .i64 nsl] W fun e w' => e = .returned (.bool true) ∧ w' = W from by rw [← hq]; exact in_any a nsl W))
      have hbd : 0 ≤ a ∧ a < nsl := by simpa [inB] using hq
      obtain ⟨n, rfl⟩ := Int.eq_ofNat_of_zero_le hbd.1
      have hn : n < 256 := by omega
      have hn1 : (n : Int) < 256 := by omega
      have hn0 : (0 : Int) ≤ (n : Int) := by omega
      have hr := HR.out _ hq
      simp only [Int.toNat_natCast] at hr
      obtain ⟨hc1, h64⟩ := HW.out.slot n hn
      have b2 : (((w.alloc (.cells #[.string c.name, v1, .int .i64 c.result, .int .i64 nsl, v4] 30)).alloc (.cells #[u0, .slice s1 ntx cap1] 43)).alloc (.cells #[.int .i64 5, .int .i64 (n : Int)] 25)).cell? ⟨k, 1 + n, none⟩ = some (.int .i64 (sl n)) := old_cell _ (old_cell _ (old_cell _ hc1))
      clear hq HR hbd hc1
      obtain ⟨x, hxe⟩ : ∃ x, sl n = x := ⟨_, rfl⟩
      rw [hxe] at h64 b2 hr
      have HXE := Lib.hid hxe
      clear hxe
      by_cases hx : x = 0
      · have hr2 := hr false (by simp [hx])
        subst hx
        simp only [Bool.and_false] at hr2
        clear hr
        subst hr2
        go_enter Tryz.func88, Tryz.ntmps88
        go_wp2_with fail
        go_big_quiet (first | (go_at_call 58; exact Calls.quiet_of_same ((HI.out _).mono fun _ _ h => h)))
        go_wp2_with fail
        go_ret
        exact ⟨rfl, (On.of_below (up_alloc (up_alloc (up_alloc (Below.refl _ _) _) _) _)).drewN _, fun s e => by cases e⟩
      · have hr2 := hr true (by simp [hx])
        simp only [Bool.and_true, if_true] at hr2
        clear hr
        subst hr2
        have hd : (x != 0) = true := by simp [hx]
        go_enter Tryz.func88, Tryz.ntmps88
        go_wp2_with fail
        go_region_held3 (fun w' => w'.cell? ⟨w.heap.size + 1 + 1, 1, none⟩ = some (.int .i64 (n : Int)) ∧ w'.cell? ⟨w.heap.size, 3, none⟩ = some (.int .i64 nsl) ∧ w'.cell? ⟨k, 1 + n, none⟩ = some (.int .i64 x)) (first | exact ⟨b3, b1, b2⟩ | exact ⟨q3, q1, q2⟩) (first | (go_at_call 58; refine (HI.out _).mono ?_; rintro e w2 ⟨rfl, rfl⟩) | (go_at_call 91; refine (P1.out _ x (up_drew (up_alloc (up_alloc (up_alloc (Below.refl _ _) _) _) _)) h64).mono ?_; rintro e w1 ⟨rfl, hst, hon⟩; obtain ⟨hcl, hsz⟩ := hon.cells; have q3 := (hon.cells.1 _ 1 hk2 (lt_of_cell b3)).trans b3; have q1 := (hon.cells.1 _ 3 hk0 (lt_of_cell b1)).trans b1; have q2 := (hst.slot n hn).1; rw [HXE.out] at q2))
        go_wp2_with fail
        go_ret
        exact ⟨rfl, (On.of_below (up_drew (up_alloc (up_alloc (up_alloc (Below.refl _ _) _) _) _))).trans hon, fun s e => by injection e with e; subst e; exact hst⟩
  by_cases o6 : op = 6
  · subst o6
    exact O6.out rfl
  · have hr : movesS nsl ntx ⟨op, a⟩ ⟨st, sl⟩ = if 1 ≤ st.length then some ⟨st.take (st.length - 1), sl⟩ else none := by simp [movesS, o2, o3, o4, o5, o6]
    have T1 := Lib.hid (fun (W : World) (hW : Below w.heap.size w W) => top_any k st sl 1 W (HW.out.below hW) (by omega))
    generalize movesS nsl ntx ⟨op, a⟩ ⟨st, sl⟩ = r at *
    have HR := Lib.hid hr
    clear hr
    go_enter Tryz.func88, Tryz.ntmps88
    go_wp2_with fail
    refine (T1.out _ (up_alloc (up_alloc (up_alloc (Below.refl _ _) _) _) _)).mono ?_
    rintro e w1 ⟨hon, hif⟩
    by_cases h1 : 1 ≤ st.length
    · rw [if_pos h1] at hif
      obtain ⟨v, rfl, hv, hst⟩ := hif
      have hr := HR.out
      rw [if_pos h1] at hr
      subst hr
      clear HR
      go_wp2_with fail
      go_ret
      exact ⟨rfl, (On.of_below (up_alloc (up_alloc (up_alloc (Below.refl _ _) _) _) _)).trans hon, fun s e => by injection e with e; subst e; exact hst⟩
    · rw [if_neg h1] at hif
      obtain ⟨rfl, hst⟩ := hif
      have hr := HR.out
      rw [if_neg h1] at hr
      subst hr
      clear HR
      go_wp2_with fail
      go_ret
      exact ⟨rfl, (On.of_below (up_alloc (up_alloc (up_alloc (Below.refl _ _) _) _) _)).trans hon, fun s e => by cases e⟩
end Go.Proofs.YtmdceokmpjcllaaGreatDoor
