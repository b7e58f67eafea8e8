/-
  Journals of nothing; where a function's name is.
-/
import Derived.Test.YtmdceokmpjcllaaGreatDoorVmS
import Derived.Deep.LoopGhost
namespace Go.Proofs.YtmdceokmpjcllaaGreatDoor
open Go.RowKit
attribute [local go_sem ↓] Go.wp_at_zero Go.wp_at_succ

set_option maxRecDepth 100000 in
set_option maxHeartbeats 4000000 in
theorem size_nil (w : World) : Calls Tryz.prog 43 #[.slice none 0 0] w fun e w' => e = .returned (.int .i64 0) ∧ w = w' := by
  go_enter Tryz.func43, Tryz.ntmps43
  go_wp2_with fail
  go_loopw [3, 11] (fun s4 s11 wr => s4 = .int .i64 0 ∧ s11 = .int .i64 0 ∧ wr = w) (fun _ _ _ => 0)
  case atStart => exact ⟨rfl, rfl, rfl⟩
  case round =>
    obtain ⟨rfl, rfl, rfl⟩ := hrel
    go_wp2_with fail
    go_ret
    exact ⟨rfl, rfl⟩
set_option maxRecDepth 100000 in
set_option maxHeartbeats 4000000 in
theorem right_nil (w : World) : Calls Tryz.prog 21 #[.slice none 0 0] w fun e w' => e = .returned (.bool true) ∧ w = w' := by
  have HS := Lib.hid size_nil
  go_enter Tryz.func21, Tryz.ntmps21
  go_wp2_with fail
  go_loopw [7] (fun s7 wr => s7 = .int .i64 0 ∧ wr = w) (fun _ _ => 0)
  case atStart => exact ⟨rfl, rfl⟩
  case round =>
    obtain ⟨rfl, rfl⟩ := hrel
    go_wp2_with fail
    refine (HS.out _).mono ?_
    rintro e w1 ⟨rfl, rfl⟩
    go_wp2_with fail
    go_ret
    exact ⟨rfl, rfl⟩
set_option maxRecDepth 100000 in
set_option maxHeartbeats 4000000 in
theorem new_nil (w : World) : Calls Tryz.prog 9 #[.slice none 0 0] w fun e w' => e = .returned (.pointer (some ⟨w.heap.size, 0, none⟩)) ∧ w' = w.alloc (.cells #[.slice none 0 0, .slice none 0 0] 63) := by
  have HS := Lib.hid right_nil
  go_enter Tryz.func9, Tryz.ntmps9
  go_wp2_with fail
  refine (HS.out _).mono ?_
  rintro e w1 ⟨rfl, rfl⟩
  go_wp2_with fail
  go_loopw [13] (fun s13 wr => s13 = .int .i64 0 ∧ wr = w.alloc (.cells #[.slice none 0 0, .slice none 0 0] 63)) (fun _ _ => 0)
  case atStart => exact ⟨rfl, rfl⟩
  case round =>
    obtain ⟨rfl, rfl⟩ := hrel
    go_wp2_with fail
    go_ret
    exact ⟨rfl, rfl⟩
set_option maxRecDepth 100000 in
set_option maxHeartbeats 4000000 in
theorem mark_nil (jb : Nat) (w : World) (h : w.cell? ⟨jb, 1, none⟩ = some (.slice none 0 0)) : Calls Tryz.prog 27 #[.pointer (some ⟨jb, 0, none⟩)] w fun e w' => e = .returned (.int .i64 0) ∧ w = w' := by
  go_enter Tryz.func27, Tryz.ntmps27
  go_wp2_with fail
  go_ret
  exact ⟨rfl, rfl⟩
set_option maxRecDepth 100000 in
set_option maxHeartbeats 4000000 in
theorem undo_nil (jb : Nat) (w : World) (h : w.cell? ⟨jb, 1, none⟩ = some (.slice none 0 0)) : Calls Tryz.prog 30 #[.pointer (some ⟨jb, 0, none⟩), .int .i64 0] w fun e w' => e = .returned (.int .i64 0) ∧ w = w' := by
  go_enter Tryz.func30, Tryz.ntmps30
  go_wp2_with fail
  go_loopw [5] (fun s5 wr => s5 = .int .i64 0 ∧ wr = w) (fun _ _ => 0)
  case atStart => exact ⟨rfl, rfl⟩
  case round =>
    obtain ⟨rfl, rfl⟩ := hrel
    go_wp2_with fail
    go_ret
    exact ⟨rfl, rfl⟩
theorem CdAt.up {w w' : World} {base gb o : Nat} {nm : ByteArray} {p1 : Option Addr} {n1 k1 : Nat} {r : Int} {p4 : Option Addr} {n4 k4 : Nat} (h : CdAt w gb o nm p1 n1 k1 r p4 n4 k4) (hb : Below base w w') (hg : gb < base) : CdAt w' gb o nm p1 n1 k1 r p4 n4 k4 :=
  ⟨(hb.cell (p := ⟨gb, _, none⟩) hg).trans h.c0, (hb.cell (p := ⟨gb, _, none⟩) hg).trans h.c1, (hb.cell (p := ⟨gb, _, none⟩) hg).trans h.c2, (hb.cell (p := ⟨gb, _, none⟩) hg).trans h.c3, (hb.cell (p := ⟨gb, _, none⟩) hg).trans h.c4⟩
/-- is it this name? -/
theorem isname_any (nm nm2 : ByteArray) (v1 v2 v3 v4 : Value) (nb : Nat) (w : World) (h : w.cell? ⟨nb, 0, none⟩ = some (.string nm2)) : Calls Tryz.prog 24 #[.agg #[.string nm, v1, v2, v3, v4], .pointer (some ⟨nb, 0, none⟩)] w fun e w' => e = .returned (.bool (nm.toList == nm2.toList)) ∧ Below w.heap.size w w' := by
  have hlt := lt_of_cell h
  go_enter Tryz.func24, Tryz.ntmps24
  go_wp2_with fail
  go_ret
  exact ⟨rfl, up_alloc (Below.refl _ _) _⟩
set_option maxRecDepth 100000 in
set_option maxHeartbeats 4000000 in
/-- the first function's name -/
theorem place_first (nm : ByteArray) (gb go n cap nb : Nat) (p1 : Option Addr) (n1 k1 : Nat) (r : Int) (p4 : Option Addr) (n4 k4 : Nat) (w : World) (hn : 0 < n) (hc : CdAt w gb go nm p1 n1 k1 r p4 n4 k4) (h : w.cell? ⟨nb, 0, none⟩ = some (.string nm)) :
    Calls Tryz.prog 23 #[.slice (some ⟨gb, go, none⟩) n cap, .func (.func 24) #[] #[.pointer (some ⟨nb, 0, none⟩)]] w fun e w' => e = .returned (.int .i64 0) ∧ Below w.heap.size w w' := by
  have HC := Lib.hid (fun v1 v2 v3 v4 => isname_any nm nm v1 v2 v3 v4 nb w h)
  rw [show (nm.toList == nm.toList) = true by simp] at HC
  have hcf : ∀ args W, Sem.run Tryz.prog (callFunc 24 args) W = .ok (.enter 24 args) W := fun _ _ => Tryz.call24 _ _
  obtain ⟨c0, c1, c2, c3, c4⟩ := hc
  clear h
  go_enter Tryz.func23, Tryz.ntmps23
  go_wp2_with fail
  go_loopw [8] (fun s8 wr => s8 = .int .i64 0 ∧ wr = w) (fun _ _ => 0)
  case atStart => exact ⟨rfl, rfl⟩
  case round =>
    obtain ⟨rfl, rfl⟩ := hrel
    go_wp2_with fail
    refine (HC.out _ _ _ _).mono ?_
    rintro e w1 ⟨rfl, hb⟩
    have HB := Lib.hid hb
    clear hb
    go_wp2_with fail
    go_ret
    exact ⟨rfl, HB.out⟩
set_option maxRecDepth 100000 in
set_option maxHeartbeats 4000000 in
/-- the only function's name is another one -/
theorem place_none (nm nm2 : ByteArray) (hne : (nm.toList == nm2.toList) = false) (gb go cap nb : Nat) (p1 : Option Addr) (n1 k1 : Nat) (r : Int) (p4 : Option Addr) (n4 k4 : Nat) (w : World) (hc : CdAt w gb go nm p1 n1 k1 r p4 n4 k4) (h : w.cell? ⟨nb, 0, none⟩ = some (.string nm2)) :
    Calls Tryz.prog 23 #[.slice (some ⟨gb, go, none⟩) 1 cap, .func (.func 24) #[] #[.pointer (some ⟨nb, 0, none⟩)]] w fun e w' => e = .returned (.int .i64 (-1)) ∧ Below w.heap.size w w' := by
  have HC := Lib.hid (fun v1 v2 v3 v4 => isname_any nm nm2 v1 v2 v3 v4 nb w h)
  rw [hne] at HC
  have hcf : ∀ args W, Sem.run Tryz.prog (callFunc 24 args) W = .ok (.enter 24 args) W := fun _ _ => Tryz.call24 _ _
  obtain ⟨c0, c1, c2, c3, c4⟩ := hc
  clear h
  go_enter Tryz.func23, Tryz.ntmps23
  go_wp2_with fail
  go_loopg [8] 1 (fun g s8 wr => (g = 1 ∧ s8 = .int .i64 0 ∧ wr = w) ∨ (g = 0 ∧ s8 = .int .i64 1 ∧ Below w.heap.size w wr))
  case atStart => exact .inl ⟨rfl, rfl, rfl⟩
  case round =>
    rcases hrel with ⟨rfl, rfl, rfl⟩ | ⟨rfl, rfl, hb⟩
    · go_wp2_with fail
      refine (HC.out _ _ _ _).mono ?_
      rintro e w1 ⟨rfl, hb⟩
      have HB := Lib.hid hb
      clear hb
      go_wp2_with fail
      go_roundg 0
      case measure => exact Nat.zero_lt_one
      case rel => exact .inr ⟨rfl, rfl, HB.out⟩
    · have HB := Lib.hid hb
      clear hb
      go_wp2_with fail
      go_ret
      exact ⟨rfl, HB.out⟩
end Go.Proofs.YtmdceokmpjcllaaGreatDoor
