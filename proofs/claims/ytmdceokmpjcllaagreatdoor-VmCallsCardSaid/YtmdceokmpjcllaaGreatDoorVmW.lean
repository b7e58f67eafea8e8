/-
  What a step does: a sum, a return.
-/
import Derived.Test.YtmdceokmpjcllaaGreatDoorVmU
namespace Go.Proofs.YtmdceokmpjcllaaGreatDoor
open Go.RowKit
attribute [local go_sem ↓] Go.wp_at_zero Go.wp_at_succ

set_option maxRecDepth 100000 in
set_option maxHeartbeats 4000000 in
theorem step_sum (base X : Nat) (s : Mac) (f : Fr) (r : List Fr) (st : List Vl) (x y : Int) (p1 p2 : Option Addr) (l1 l2 k1 k2 : Nat) (w : World) (h : MacAt base w X s) (hsg : Signs w) (hs : s.frs = f :: r) (hst : f.st = st ++ [⟨.int .i64 1, .int .i64 x, .slice p1 l1 k1⟩, ⟨.int .i64 1, .int .i64 y, .slice p2 l2 k2⟩]) (hl : f.st.length < 900000)
    (hx : 0 ≤ x) (hy : 0 ≤ y) (hxy : x + y ≤ 9223372036854775807) :
    Calls Tryz.prog 44 #[.pointer (some ⟨X, 0, none⟩), .pointer (some ⟨f.blk, 0, none⟩), .agg #[.int .i64 7, .int .i64 1]] w fun e w' => e = .returned (.int .i64 0) ∧ ∃ sv, MacAt base w' X { s with frs := { f with stack := sv, st := st ++ [⟨.int .i64 1, .int .i64 (x + y), .slice none 0 0⟩] } :: r } ∧ Below base w w' := by
  have hft := (h.top_base hs).1
  have HSG := Lib.hid (fun W (hW : Below w.heap.size w W) => sign_any 1 W (hsg.below hW))
  rw [show signS 1 = ⟨#[43]⟩ by rfl] at HSG
  have HP := Lib.hid (fun W (hW : Below w.heap.size w W) => mtwo (.pointer (some ⟨X, 0, none⟩)) f st x y p1 p2 l1 l2 k1 k2 W (hft.later hW) hst hl hx hy hxy)
  have HF := Lib.hid (fun (w1 w2 : World) f' (hb : Below w.heap.size w w1) (hg : FrGoes f f' w1 w2) (hbk : f'.blk = f.blk) => h.goes hs (hg.from hb) hbk)
  clear h hs hl hft hst hsg hx hy hxy
  generalize x + y = z at *
  go_enter Tryz.func44, Tryz.ntmps44
  go_wp2_with fail
  refine (HSG.out _ (up_alloc (Below.refl _ _) _)).mono ?_
  rintro e w1 ⟨rfl, rfl⟩
  go_wp2_with fail
  refine (HP.out _ (up_alloc (Below.refl _ _) _)).mono ?_
  rintro e w2 ⟨rfl, sv, hg⟩
  have HG := Lib.hid (HF.out _ _ _ (up_alloc (Below.refl _ _) _) hg rfl)
  clear hg
  go_wp2_with fail
  go_ret
  exact ⟨rfl, sv, HG.out⟩
set_option maxRecDepth 100000 in
set_option maxHeartbeats 4000000 in
theorem step_ret_last (base X : Nat) (s : Mac) (f : Fr) (st : List Vl) (ty n : Int) (p : Option Addr) (l c : Nat) (r a : Int) (w : World) (h : MacAt base w X s) (hs : s.frs = [f]) (hst : f.st = st ++ [⟨.int .i64 ty, .int .i64 n, .slice p l c⟩]) (hl : f.st.length < 1000000) (hr : f.c2 = .int .i64 r) (hr0 : r ≠ 0) :
    Calls Tryz.prog 44 #[.pointer (some ⟨X, 0, none⟩), .pointer (some ⟨f.blk, 0, none⟩), .agg #[.int .i64 18, .int .i64 a]] w fun e w' => e = .returned (.int .i64 0) ∧ Below base w w' ∧ ∃ fv, MacAt base w' X { s with fv := fv, frs := [], b0 := .int .i64 ty, b1 := .int .i64 n, b2 := .slice p l c } := by
  have HL := Lib.hid (fun W (hW : Below w.heap.size w W) => mleave_last base X s f st ty n p l c r W (h.later hW) hs hst hl hr hr0)
  have HBL := Lib.hid h.base_le
  clear h hs hst hl hr hr0
  go_enter Tryz.func44, Tryz.ntmps44
  go_wp2_with fail
  refine (HL.out _ (up_alloc (Below.refl _ _) _)).mono ?_
  rintro e w1 ⟨rfl, hb, hm⟩
  have HM := Lib.hid hm
  have HB := Lib.hid (((Below.refl w.heap.size w).alloc (Nat.le_refl _) (.cells #[.int .i64 18, .int .i64 a] 25)).mono HBL.out |>.trans hb)
  clear hm hb
  go_wp2_with fail
  go_ret
  exact ⟨rfl, HB.out, HM.out⟩
set_option maxRecDepth 100000 in
set_option maxHeartbeats 4000000 in
theorem step_ret_more (base X : Nat) (s : Mac) (f : Fr) (g : Fr) (rest : List Fr) (st : List Vl) (ty n : Int) (p : Option Addr) (l c : Nat) (r a : Int) (w : World) (h : MacAt base w X s) (hs : s.frs = f :: g :: rest) (hrest : rest.length < 100) (hgl : g.st.length < 900000) (hst : f.st = st ++ [⟨.int .i64 ty, .int .i64 n, .slice p l c⟩]) (hl : f.st.length < 1000000) (hr : f.c2 = .int .i64 r) (hr0 : r ≠ 0) :
    Calls Tryz.prog 44 #[.pointer (some ⟨X, 0, none⟩), .pointer (some ⟨f.blk, 0, none⟩), .agg #[.int .i64 18, .int .i64 a]] w fun e w' => e = .returned (.int .i64 0) ∧ Below base w w' ∧ ∃ fv gv, MacAt base w' X { s with fv := fv, frs := { g with stack := gv, st := g.st ++ [⟨.int .i64 ty, .int .i64 n, .slice p l c⟩] } :: rest } := by
  have HL := Lib.hid (fun W (hW : Below w.heap.size w W) => mleave_more base X s f g rest st ty n p l c r W (h.later hW) hs hrest hgl hst hl hr hr0)
  have HBL := Lib.hid h.base_le
  clear h hs hst hl hr hr0
  go_enter Tryz.func44, Tryz.ntmps44
  go_wp2_with fail
  refine (HL.out _ (up_alloc (Below.refl _ _) _)).mono ?_
  rintro e w1 ⟨rfl, hb, hm⟩
  have HM := Lib.hid hm
  have HB := Lib.hid (((Below.refl w.heap.size w).alloc (Nat.le_refl _) (.cells #[.int .i64 18, .int .i64 a] 25)).mono HBL.out |>.trans hb)
  clear hm hb
  go_wp2_with fail
  go_ret
  exact ⟨rfl, HB.out, HM.out⟩
end Go.Proofs.YtmdceokmpjcllaaGreatDoor
