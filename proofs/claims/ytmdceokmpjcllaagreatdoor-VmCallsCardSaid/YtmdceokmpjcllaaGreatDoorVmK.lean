/-
  Run: what it comes to, by what the machine comes to.
-/
import Derived.Test.YtmdceokmpjcllaaGreatDoorVmJ
import Derived.Test.YtmdceokmpjcllaaGreatDoorVmR
import Derived.Test.YtmdceokmpjcllaaGreatDoorVerifyK
namespace Go.Proofs.YtmdceokmpjcllaaGreatDoor
open Go.RowKit
attribute [local go_sem ↓] Go.wp_at_zero Go.wp_at_succ

theorem mac_new {base X : Nat} {W : World} {m0 m1 j : Value} {L : Int} (h : W.heap[X]? = some (.cells #[m0, m1, j, .int .i64 L, .int .i64 0, .int .i64 0, .slice none 0 0, .int .i64 0, .int .i64 0, .slice none 0 0] 76 (0, 0))) (hb : base ≤ X) :
    MacAt base W X ⟨m0, m1, j, L, 0, 0, .slice none 0 0, [], .int .i64 0, .int .i64 0, .slice none 0 0⟩ :=
  ⟨hb, ⟨_, h⟩, cell_of' h 0 rfl, cell_of' h 1 rfl, cell_of' h 2 rfl, cell_of' h 3 rfl, cell_of' h 4 rfl, cell_of' h 5 rfl, cell_of' h 6 rfl, cell_of' h 7 rfl, cell_of' h 8 rfl, cell_of' h 9 rfl, ⟨rfl, .inl ⟨rfl, rfl⟩⟩, trivial, by simp⟩
/-- five stores, one behind the other -/
def five (w : World) (k : Nat) (a b c d e : Value) : World := ((((w.setCell ⟨k, 0, none⟩ a).setCell ⟨k, 1, none⟩ b).setCell ⟨k, 2, none⟩ c).setCell ⟨k, 3, none⟩ d).setCell ⟨k, 4, none⟩ e
theorem set_heap {w : World} {k j : Nat} {arr : Array Value} {t : TypeId} {fz : Nat × Nat} {u : Value} (h : w.heap[k]? = some (.cells arr t fz)) : (w.setCell ⟨k, j, none⟩ u).heap[k]? = some (.cells (arr.setIfInBounds j u) t fz) := by
  show (w.heap.modify k _)[k]? = _
  rw [Array.getElem?_modify, if_pos rfl, h]
  rfl
theorem five_heap {w : World} {k : Nat} {a0 b0 c0 d0 e0 : Value} {t : TypeId} {fz : Nat × Nat} (h : w.heap[k]? = some (.cells #[a0, b0, c0, d0, e0] t fz)) (a b c d e : Value) : (five w k a b c d e).heap[k]? = some (.cells #[a, b, c, d, e] t fz) :=
  set_heap (set_heap (set_heap (set_heap (set_heap h))))
theorem five_below {B : Nat} {a0 w : World} {k : Nat} (h : Below B a0 w) (hk : B ≤ k) (a b c d e : Value) : Below B a0 (five w k a b c d e) :=
  ((((h.setCell (p := ⟨k, 0, none⟩) hk a).setCell (p := ⟨k, 1, none⟩) hk b).setCell (p := ⟨k, 2, none⟩) hk c).setCell (p := ⟨k, 3, none⟩) hk d).setCell (p := ⟨k, 4, none⟩) hk e
/-- what Run answers -/
def outV (t : Int) (s : Mac) : Value := if t = 0 then .agg #[s.b0, s.b1, s.b2, .int .i64 0, .int .i64 s.U] else .agg #[.int .i64 0, .int .i64 0, .slice none 0 0, .int .i64 t, .int .i64 s.U]

set_option maxRecDepth 100000 in
set_option maxHeartbeats 8000000 in
theorem run_rule (gb go n cap : Nat) (pt : Option Addr) (nt kt : Nat) (m : Mdl) (nm : ByteArray) (p1 : Option Addr) (k1 : Nat) (r : Int) (p4 : Option Addr) (n4 k4 : Nat) (jb : Nat) (limit : Int) (w : World)
    (hm : RepMdl w (.agg #[.slice (some ⟨gb, go, none⟩) n cap, .slice pt nt kt]) m) (hgood : ∀ x, CheckIs m x → x = 0) (hsg : Signs w) (hn : 0 < n) (hc : CdAt w gb go nm p1 0 k1 r p4 n4 k4) (hj : w.cell? ⟨jb, 1, none⟩ = some (.slice none 0 0)) (hlim : i64 limit)
    (Q : Int → Mac → Prop)
    (hruns : ∀ base W0 X f v W, w.heap.size ≤ base → Below w.heap.size w W0 → Below base W0 W → MacAt base W X ⟨.slice (some ⟨gb, go, none⟩) n cap, .slice pt nt kt, .pointer (some ⟨jb, 0, none⟩), newL limit, 0, 0, v, [f], .int .i64 0, .int .i64 0, .slice none 0 0⟩ → Begun f nm p1 0 k1 r p4 n4 k4 →
      Calls Tryz.prog 29 #[.pointer (some ⟨X, 0, none⟩)] W fun e w' => ∃ (t : Int) (s' : Mac), e = .returned (.int .i64 t) ∧ MacAt base w' X s' ∧ Below base W w' ∧ Q t s')
    (hval : ∀ s', Q 0 s' → ∃ ty z p l c, s'.b0 = .int .i64 ty ∧ s'.b1 = .int .i64 z ∧ s'.b2 = .slice p l c) :
    Calls Tryz.prog 10 #[.agg #[.slice (some ⟨gb, go, none⟩) n cap, .slice pt nt kt], .string nm, .slice none 0 0, .pointer (some ⟨jb, 0, none⟩), .int .i64 limit] w fun e w' => Below w.heap.size w w' ∧ ∃ t s', Q t s' ∧ e = .returned (outV t s') := by
  have HCK := Lib.hid (fun W (hW : Below w.heap.size w W) => check_any _ m W (hm.later hW) (hsg.below hW))
  have HGD := Lib.hid hgood
  have HPL := Lib.hid (fun nb W (hW : Below w.heap.size w W) (h : W.cell? ⟨nb, 0, none⟩ = some (.string nm)) => place_first nm gb go n cap nb p1 0 k1 r p4 n4 k4 W hn (hc.up hW (lt_of_cell hc.c0)) h)
  have HNEW := Lib.hid (fun w => new_any limit w hlim)
  have HJ := Lib.hid hj
  have HC := Lib.hid hc
  have HR := Lib.hid hruns
  have HV := Lib.hid hval
  have d1 := hc.c1
  have hgl := lt_of_cell d1
  have hjl := lt_of_cell hj
  clear hm hgood hsg hc hj hlim hruns hval
  generalize newL limit = L at *
  go_enter Tryz.func10, Tryz.ntmps10
  go_upto_region 2 with fail
  have hbA : Below w.heap.size w ((((w.alloc (.cells #[.slice (some ⟨gb, go, none⟩) n cap, .slice pt nt kt] 43)).alloc (.cells #[.string nm] 9)).alloc (.cells #[.int .i64 0, .int .i64 0, .slice none 0 0, .int .i64 0, .int .i64 0] 38)).alloc (.cells #[.int .i64 0, .int .i64 0, .slice none 0 0, .int .i64 7, .int .i64 0] 38)) := up_alloc (up_alloc (up_alloc (up_alloc (Below.refl w.heap.size w) _) _) _) _
  have a0 : ((((w.alloc (.cells #[.slice (some ⟨gb, go, none⟩) n cap, .slice pt nt kt] 43)).alloc (.cells #[.string nm] 9)).alloc (.cells #[.int .i64 0, .int .i64 0, .slice none 0 0, .int .i64 0, .int .i64 0] 38)).alloc (.cells #[.int .i64 0, .int .i64 0, .slice none 0 0, .int .i64 7, .int .i64 0] 38)).cell? ⟨w.heap.size, 0, none⟩ = some (.slice (some ⟨gb, go, none⟩) n cap) := old_cell _ (old_cell _ (old_cell _ (new_cell _ _ _ _ _ _ rfl rfl)))
  have a1 : ((((w.alloc (.cells #[.slice (some ⟨gb, go, none⟩) n cap, .slice pt nt kt] 43)).alloc (.cells #[.string nm] 9)).alloc (.cells #[.int .i64 0, .int .i64 0, .slice none 0 0, .int .i64 0, .int .i64 0] 38)).alloc (.cells #[.int .i64 0, .int .i64 0, .slice none 0 0, .int .i64 7, .int .i64 0] 38)).cell? ⟨w.heap.size, 1, none⟩ = some (.slice pt nt kt) := old_cell _ (old_cell _ (old_cell _ (new_cell _ _ _ _ _ _ rfl rfl)))
  have a2 : ((((w.alloc (.cells #[.slice (some ⟨gb, go, none⟩) n cap, .slice pt nt kt] 43)).alloc (.cells #[.string nm] 9)).alloc (.cells #[.int .i64 0, .int .i64 0, .slice none 0 0, .int .i64 0, .int .i64 0] 38)).alloc (.cells #[.int .i64 0, .int .i64 0, .slice none 0 0, .int .i64 7, .int .i64 0] 38)).cell? ⟨w.heap.size + 1, 0, none⟩ = some (.string nm) := old_cell _ (old_cell _ (new_cell _ _ _ _ _ _ (size_alloc _ _) rfl))
  have HRB : Hid (((((w.alloc (.cells #[.slice (some ⟨gb, go, none⟩) n cap, .slice pt nt kt] 43)).alloc (.cells #[.string nm] 9)).alloc (.cells #[.int .i64 0, .int .i64 0, .slice none 0 0, .int .i64 0, .int .i64 0] 38)).alloc (.cells #[.int .i64 0, .int .i64 0, .slice none 0 0, .int .i64 7, .int .i64 0] 38)).heap[w.heap.size + 1 + 1]? = some (.cells #[.int .i64 0, .int .i64 0, .slice none 0 0, .int .i64 0, .int .i64 0] 38 (0, 0))) := Lib.hid (old_heap _ _ _ _ (new_heap _ _ _ (by simp only [size_alloc])))
  have hsz : ((((w.alloc (.cells #[.slice (some ⟨gb, go, none⟩) n cap, .slice pt nt kt] 43)).alloc (.cells #[.string nm] 9)).alloc (.cells #[.int .i64 0, .int .i64 0, .slice none 0 0, .int .i64 0, .int .i64 0] 38)).alloc (.cells #[.int .i64 0, .int .i64 0, .slice none 0 0, .int .i64 7, .int .i64 0] 38)).heap.size = w.heap.size + 1 + 1 + 1 + 1 := by simp only [size_alloc]
  generalize ((((w.alloc (.cells #[.slice (some ⟨gb, go, none⟩) n cap, .slice pt nt kt] 43)).alloc (.cells #[.string nm] 9)).alloc (.cells #[.int .i64 0, .int .i64 0, .slice none 0 0, .int .i64 0, .int .i64 0] 38)).alloc (.cells #[.int .i64 0, .int .i64 0, .slice none 0 0, .int .i64 7, .int .i64 0] 38)) = wA at *
  generalize hmb : w.heap.size = mb at *
  have HMB := Lib.hid hmb
  have HBA := Lib.hid hbA
  have jA := (hbA.cell (p := ⟨jb, 1, none⟩) hjl).trans HJ.out
  clear hbA
  go_wp2_with fail
  refine (HPL.out _ _ HBA.out a2).mono ?_
  rintro e w1 ⟨rfl, hb1⟩
  have b0 := (hb1.cell (p := ⟨mb, 0, none⟩) (by show mb < _; rw [hsz]; omega)).trans a0
  have b1 := (hb1.cell (p := ⟨mb, 1, none⟩) (by show mb < _; rw [hsz]; omega)).trans a1
  have HRB1 := Lib.hid ((hb1.block (mb + 1 + 1) (by rw [hsz]; omega)).trans HRB.out)
  have HB1 := Lib.hid (HBA.out.trans (hb1.mono (by rw [hsz]; omega)))
  have hs1 := hb1.size
  rw [hsz] at hs1
  clear hb1 a0 a1 a2 hsz jA
  go_wp2_with fail
  refine (HCK.out _ HB1.out).mono ?_
  rintro e w2 ⟨x, rfl, hx, hb2⟩
  obtain rfl := HGD.out _ hx
  have c0 := (hb2.cell (p := ⟨mb, 0, none⟩) (by show mb < _; omega)).trans b0
  have c1 := (hb2.cell (p := ⟨mb, 1, none⟩) (by show mb < _; omega)).trans b1
  have HRB2 := Lib.hid ((hb2.block (mb + 1 + 1) (by omega)).trans HRB1.out)
  have HB2 := Lib.hid (HB1.out.trans (hb2.mono (by omega)))
  have hs2 := hb2.size
  have e1 := (HB2.out.cell (p := ⟨gb, go + 1, none⟩) hgl).trans d1
  clear hb2 b0 b1 hx
  go_wp2_with fail
  go_loopw [49] (fun s49 wr => s49 = .int .i64 0 ∧ wr = w2) (fun _ _ => 0)
  case atStart => exact ⟨rfl, rfl⟩
  case round =>
    obtain ⟨rfl, rfl⟩ := hrel
    go_upto_region 11 with fail
    refine wp_region_split (S := (fun w' => w'.cell? ⟨mb, 0, none⟩ = some (.slice (some ⟨gb, go, none⟩) n cap) ∧ w'.cell? ⟨mb, 1, none⟩ = some (.slice pt nt kt))) 4 (by kernel_rfl) (by kernel_rfl) (by (first | exact ⟨c0, c1⟩ | exact ⟨x0, x1⟩)) (fun hHeld => ?_)
    simp only [List.take_succ_cons, List.take_zero, List.drop_succ_cons, List.drop_zero]
    refine wpAnyH_take (i := 0) (v := ?_) rfl (by kernel_rfl) (by kernel_rfl) (by kernel_rfl) (fun _ _ _ h => h) (Or.inl ⟨by rfl, ?_⟩) (by assumption) ?_
    rotate_left 1
    · (intro w hSw; (try dsimp only at hSw); go_simp; try with_reducible rfl)
    try simp only [Act.put, List.setIfInBounds_toArray, List.set_cons_zero, List.set_cons_succ, List.getElem_toArray, List.getElem_cons_zero]
    refine wpAnyH_take (i := 1) (v := ?_) rfl (by kernel_rfl) (by kernel_rfl) (by kernel_rfl) (fun _ _ _ h => h) (Or.inl ⟨by rfl, ?_⟩) (by assumption) ?_
    rotate_left 1
    · (intro w hSw; (try dsimp only at hSw); go_simp; try with_reducible rfl)
    try simp only [Act.put, List.setIfInBounds_toArray, List.set_cons_zero, List.set_cons_succ, List.getElem_toArray, List.getElem_cons_zero, List.getElem_cons_succ]
    refine wpAnyH_take (i := 2) (v := ?_) rfl (by kernel_rfl) (by kernel_rfl) (by kernel_rfl) (fun _ _ _ h => h) (Or.inl ⟨by rfl, ?_⟩) (by assumption) ?_
    rotate_left 1
    · (intro w hSw; (try dsimp only at hSw); go_simp; try with_reducible rfl)
    try simp only [Act.put, List.setIfInBounds_toArray, List.set_cons_zero, List.set_cons_succ, List.getElem_toArray, List.getElem_cons_zero, List.getElem_cons_succ]
    refine wpAnyH_ready (rs := [3]) (by kernel_rfl) (by simp) ?_
    refine AllReadyH.cons rfl (fun K hK => ?_) AllReadyH.nil
    go_simp
    go_at_call 26
    refine (HNEW.out _).mono ?_
    rintro e w3 ⟨rfl, hb3⟩
    have hb3' : Below wr.heap.size wr w3 := up_trans (up_drew (Below.refl _ _)) hb3
    have x0 := (hb3'.cell (p := ⟨mb, 0, none⟩) (by show mb < _; omega)).trans c0
    have x1 := (hb3'.cell (p := ⟨mb, 1, none⟩) (by show mb < _; omega)).trans c1
    have HRB3 := Lib.hid ((hb3'.block (mb + 1 + 1) (by omega)).trans HRB2.out)
    have HB3 := Lib.hid (HB2.out.trans (hb3'.mono (by omega)))
    have hs3 := hb3'.size
    clear hb3 hb3'
    go_simp
    refine hK.out _ _ ?_ (fun hHeld => ?_)
    · (try dsimp only); (first | exact ⟨c0, c1⟩ | exact ⟨x0, x1⟩)
    clear hK K
    try simp only [Act.put, List.setIfInBounds_toArray, List.set_cons_zero, List.set_cons_succ, List.getElem_toArray, List.getElem_cons_zero, List.getElem_cons_succ]
    refine wpAnyH_done (by kernel_rfl) ?_ _
    dsimp only [TailQ]
    have j3 := (HB3.out.cell (p := ⟨jb, 1, none⟩) hjl).trans HJ.out
    clear c0 c1 x0 x1 e1
    have HX := Lib.hid (mac_new (base := w3.heap.size) (new_heap w3 (.cells #[.slice (some ⟨gb, go, none⟩) n cap, .slice pt nt kt, .pointer (some ⟨jb, 0, none⟩), .int .i64 L, .int .i64 0, .int .i64 0, .slice none 0 0, .int .i64 0, .int .i64 0, .slice none 0 0] 76) w3.heap.size rfl) (Nat.le_refl _))
    have j4 := old_cell (.cells #[.slice (some ⟨gb, go, none⟩) n cap, .slice pt nt kt, .pointer (some ⟨jb, 0, none⟩), .int .i64 L, .int .i64 0, .int .i64 0, .slice none 0 0, .int .i64 0, .int .i64 0, .slice none 0 0] 76) j3
    have HB4 := Lib.hid (HB3.out.alloc (by omega) (.cells #[.slice (some ⟨gb, go, none⟩) n cap, .slice pt nt kt, .pointer (some ⟨jb, 0, none⟩), .int .i64 L, .int .i64 0, .int .i64 0, .slice none 0 0, .int .i64 0, .int .i64 0, .slice none 0 0] 76))
    have HMK := Lib.hid (mark_nil jb _ j4)
    have HEN : Hid (Calls Tryz.prog 28 #[.pointer (some ⟨w3.heap.size, 0, none⟩), .int .i64 0, .slice none 0 0] _ _) := Lib.hid (menter w3.heap.size w3.heap.size gb go n cap 0 _ nm p1 0 k1 r p4 n4 k4 _ HX.out (show (0 : Nat) < 16 by decide) rfl hn (by rw [Nat.zero_mul, Nat.add_zero]; exact HC.out.up HB4.out hgl))
    have HBX := Lib.hid ((Below.refl w3.heap.size w3).alloc (Nat.le_refl _) (.cells #[.slice (some ⟨gb, go, none⟩) n cap, .slice pt nt kt, .pointer (some ⟨jb, 0, none⟩), .int .i64 L, .int .i64 0, .int .i64 0, .slice none 0 0, .int .i64 0, .int .i64 0, .slice none 0 0] 76))
    go_wp2_with fail
    refine HMK.out.mono ?_
    rintro e w4 ⟨rfl, rfl⟩
    go_wp2_with fail
    refine HEN.out.mono ?_
    rintro e w5 ⟨rfl, f, v, hm5, hb5, hbg⟩
    have hX5 := hm5.lt
    have HRU := Lib.hid (HR.out w3.heap.size _ w3.heap.size f v w5 (by omega) HB4.out hb5 hm5 hbg)
    have HB5 := Lib.hid (HBX.out.trans hb5)
    clear hm5 hb5 hbg j3 j4 HMK HEN HX
    go_wp2_with fail
    refine HRU.out.mono ?_
    rintro e w6 ⟨t, s6, rfl, hm6, hb6, hq⟩
    have HB6 := Lib.hid (HB5.out.trans hb6)
    have hz6 := (HB6.out.block (mb + 1 + 1) (by omega)).trans HRB3.out
    have j6 := (HB6.out.cell (p := ⟨jb, 1, none⟩) (by show jb < _; omega)).trans ((HB3.out.cell (p := ⟨jb, 1, none⟩) hjl).trans HJ.out)
    have HB7 := Lib.hid (HB3.out.trans (HB6.out.mono (by omega)))
    have HQ := Lib.hid hq
    have HM6 := Lib.hid hm6
    have u4 := hm6.c4
    have u7 := hm6.c7
    have u8 := hm6.c8
    have u9 := hm6.c9
    have n0 := cell_of' hz6 0 (u := .int .i64 0) rfl
    have n1 := cell_of' hz6 1 (u := .int .i64 0) rfl
    have n2 := cell_of' hz6 2 (u := .slice none 0 0) rfl
    have n3 := cell_of' hz6 3 (u := .int .i64 0) rfl
    have n4' := cell_of' hz6 4 (u := .int .i64 0) rfl
    have f0 := frozen_of hz6 0
    have f1 := frozen_of hz6 1
    have f2 := frozen_of hz6 2
    have f3 := frozen_of hz6 3
    have f4 := frozen_of hz6 4
    have HZ6 := Lib.hid hz6
    clear hm6 hb6 hq hz6
    by_cases ht : t = 0
    · subst ht
      obtain ⟨ty, z, p, l, c, e7, e8, e9⟩ := HV.out _ HQ.out
      rw [e7] at u7
      rw [e8] at u8
      rw [e9] at u9
      go_upto_region 18 with fail
      go_region
      have h8 := five_heap HZ6.out (.int .i64 ty) (.int .i64 z) (.slice p l c) (.int .i64 0) (.int .i64 s6.U)
      have HB8 := Lib.hid (five_below HB7.out (k := mb + 1 + 1) (by have := HMB.out; omega) (.int .i64 ty) (.int .i64 z) (.slice p l c) (.int .i64 0) (.int .i64 s6.U))
      unfold five at h8 HB8
      generalize (((((w6.setCell ⟨mb + 1 + 1, 0, none⟩ (.int .i64 ty)).setCell ⟨mb + 1 + 1, 1, none⟩ (.int .i64 z)).setCell ⟨mb + 1 + 1, 2, none⟩ (.slice p l c)).setCell ⟨mb + 1 + 1, 3, none⟩ (.int .i64 0)).setCell ⟨mb + 1 + 1, 4, none⟩ (.int .i64 s6.U)) = w8 at *
      have HB9 := Lib.hid HB8.out.drew
      have h9 : w8.drew.heap[mb + 1 + 1]? = _ := h8
      generalize w8.drew = w9 at *
      have y0 := cell_of' h9 0 (u := .int .i64 ty) rfl
      have y1 := cell_of' h9 1 (u := .int .i64 z) rfl
      have y2 := cell_of' h9 2 (u := .slice p l c) rfl
      have y3 := cell_of' h9 3 (u := .int .i64 0) rfl
      have y4 := cell_of' h9 4 (u := .int .i64 s6.U) rfl
      clear h8 h9 n0 n1 n2 n3 n4' f0 f1 f2 f3 f4 u4 u7 u8 u9
      go_wp2_with fail
      refine bodyPost_ret (v := .agg #[.int .i64 ty, .int .i64 z, .slice p l c, .int .i64 0, .int .i64 s6.U]) (by simp [results, Tryz.results10, go_sem, y0, y1, y2, y3, y4]) rfl ?_
      rw [HMB.out]
      refine ⟨HB9.out, 0, s6, HQ.out, ?_⟩
      rw [outV, if_pos rfl, e7, e8, e9]
    · have HU := Lib.hid (undo_nil jb w6 j6)
      go_wp2_with fail
      refine HU.out.mono ?_
      rintro e w7 ⟨rfl, rfl⟩
      go_wp2_with fail
      have h8 := five_heap HZ6.out (.int .i64 0) (.int .i64 0) (.slice none 0 0) (.int .i64 t) (.int .i64 s6.U)
      have HB8 := Lib.hid (five_below HB7.out (k := mb + 1 + 1) (by have := HMB.out; omega) (.int .i64 0) (.int .i64 0) (.slice none 0 0) (.int .i64 t) (.int .i64 s6.U))
      unfold five at h8 HB8
      generalize (((((w6.setCell ⟨mb + 1 + 1, 0, none⟩ (.int .i64 0)).setCell ⟨mb + 1 + 1, 1, none⟩ (.int .i64 0)).setCell ⟨mb + 1 + 1, 2, none⟩ (.slice none 0 0)).setCell ⟨mb + 1 + 1, 3, none⟩ (.int .i64 t)).setCell ⟨mb + 1 + 1, 4, none⟩ (.int .i64 s6.U)) = w8 at *
      have HB9 := HB8
      have h9 := h8
      have y0 := cell_of' h9 0 (u := .int .i64 0) rfl
      have y1 := cell_of' h9 1 (u := .int .i64 0) rfl
      have y2 := cell_of' h9 2 (u := .slice none 0 0) rfl
      have y3 := cell_of' h9 3 (u := .int .i64 t) rfl
      have y4 := cell_of' h9 4 (u := .int .i64 s6.U) rfl
      clear h8 h9 n0 n1 n2 n3 n4' f0 f1 f2 f3 f4 u4 u7 u8 u9
      refine bodyPost_ret (v := .agg #[.int .i64 0, .int .i64 0, .slice none 0 0, .int .i64 t, .int .i64 s6.U]) (by simp [results, Tryz.results10, go_sem, y0, y1, y2, y3, y4]) rfl ?_
      rw [HMB.out]
      refine ⟨HB9.out, t, s6, HQ.out, ?_⟩
      rw [outV, if_neg ht]
end Go.Proofs.YtmdceokmpjcllaaGreatDoor
