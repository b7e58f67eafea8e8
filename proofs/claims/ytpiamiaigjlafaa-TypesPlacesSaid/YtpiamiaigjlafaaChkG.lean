/-
  What a statement asks in turn: the function values whose order is fixed.
-/
import Derived.Test.YtpiamiaigjlafaaChkB
import Derived.Shelf.Abstract
namespace Go.Proofs.Ytpiamiaigjlafaa
open Go.RowKit

set_option maxRecDepth 100000 in
set_option maxHeartbeats 2000000 in
theorem clo_1 {W0 : World} {P : Nat} {fe fa : Int} (h : W0.heap[P]? = some (.cells #[.int .i64 fe, .int .i64 fa] 58 (0, 0))) : FnTells W0 (.func (.func 57) #[] #[.pointer (some ⟨P, 0, none⟩)]) (fe, fa) := by
  refine ⟨_, _, rfl, enters_of Try.func57 (by kernel_rfl) rfl, fun W hW => ?_⟩
  have HP := Lib.hid ((hW.block _ (lt_block h)).trans h)
  have hl0 := lt_block HP.out
  have f0 : W.cell? ⟨P, 0, none⟩ = some (.int .i64 fe) := cell_of HP.out (j := 0) rfl
  have f1 : W.cell? ⟨P, 1, none⟩ = some (.int .i64 fa) := cell_of HP.out (j := 1) rfl
  go_enter Try.func57, Try.ntmps57
  go_wp2_with fail
  refine bodyPost_ret (v := .agg #[.int .i64 fe, .int .i64 fa]) (by simp [results, Try.results57, go_sem]) rfl ⟨rfl, ?_⟩
  repeat (first | assumption | exact Below.refl _ _ | refine Below.setCell ?_ (Nat.le_refl _) _ | refine Below.alloc ?_ (Nat.le_refl _) _)

set_option maxRecDepth 100000 in
set_option maxHeartbeats 2000000 in
theorem clo_13 {W0 : World} {P : Nat} {fe fa : Int} (h : W0.heap[P]? = some (.cells #[.int .i64 fe, .int .i64 fa] 58 (0, 0))) : FnTells W0 (.func (.func 72) #[] #[.pointer (some ⟨P, 0, none⟩)]) (fe, fa) := by
  refine ⟨_, _, rfl, enters_of Try.func72 (by kernel_rfl) rfl, fun W hW => ?_⟩
  have HP := Lib.hid ((hW.block _ (lt_block h)).trans h)
  have hl0 := lt_block HP.out
  have f0 : W.cell? ⟨P, 0, none⟩ = some (.int .i64 fe) := cell_of HP.out (j := 0) rfl
  have f1 : W.cell? ⟨P, 1, none⟩ = some (.int .i64 fa) := cell_of HP.out (j := 1) rfl
  go_enter Try.func72, Try.ntmps72
  go_wp2_with fail
  refine bodyPost_ret (v := .agg #[.int .i64 fe, .int .i64 fa]) (by simp [results, Try.results72, go_sem]) rfl ⟨rfl, ?_⟩
  repeat (first | assumption | exact Below.refl _ _ | refine Below.setCell ?_ (Nat.le_refl _) _ | refine Below.alloc ?_ (Nat.le_refl _) _)

set_option maxRecDepth 100000 in
set_option maxHeartbeats 2000000 in
theorem clo_15 {W0 : World} {P : Nat} {fe fa : Int} (h : W0.heap[P]? = some (.cells #[.int .i64 fe, .int .i64 fa] 58 (0, 0))) : FnTells W0 (.func (.func 74) #[] #[.pointer (some ⟨P, 0, none⟩)]) (fe, fa) := by
  refine ⟨_, _, rfl, enters_of Try.func74 (by kernel_rfl) rfl, fun W hW => ?_⟩
  have HP := Lib.hid ((hW.block _ (lt_block h)).trans h)
  have hl0 := lt_block HP.out
  have f0 : W.cell? ⟨P, 0, none⟩ = some (.int .i64 fe) := cell_of HP.out (j := 0) rfl
  have f1 : W.cell? ⟨P, 1, none⟩ = some (.int .i64 fa) := cell_of HP.out (j := 1) rfl
  go_enter Try.func74, Try.ntmps74
  go_wp2_with fail
  refine bodyPost_ret (v := .agg #[.int .i64 fe, .int .i64 fa]) (by simp [results, Try.results74, go_sem]) rfl ⟨rfl, ?_⟩
  repeat (first | assumption | exact Below.refl _ _ | refine Below.setCell ?_ (Nat.le_refl _) _ | refine Below.alloc ?_ (Nat.le_refl _) _)

set_option maxRecDepth 100000 in
set_option maxHeartbeats 2000000 in
theorem clo_3 {W0 : World} {BP SP : Nat} {b : Bool} {op pos : Int} {text : ByteArray} {s1 s2 s3 : Option Addr} {n1 c1 n2 c2 n3 c3 : Nat} (h : W0.heap[BP]? = some (.cells #[.bool b] 4 (0, 0))) (hs : W0.heap[SP]? = some (.cells #[.int .i64 op, .string text, .slice s1 n1 c1, .slice s2 n2 c2, .slice s3 n3 c3, .int .i64 pos] 46 (0, 0))) : FnTells W0 (.func (.func 59) #[] #[.pointer (some ⟨BP, 0, none⟩), .pointer (some ⟨SP, 0, none⟩)]) (noC (!b) 53 pos) := by
  refine ⟨_, _, rfl, enters_of Try.func59 (by kernel_rfl) rfl, fun W hW => ?_⟩
  have HP := Lib.hid ((hW.block _ (lt_block h)).trans h)
  have hl0 := lt_block HP.out
  have HS := Lib.hid ((hW.block _ (lt_block hs)).trans hs)
  have hl1 := lt_block HS.out
  have f0 : W.cell? ⟨BP, 0, none⟩ = some (.bool b) := cell_of HP.out (j := 0) rfl
  have f5 : W.cell? ⟨SP, 5, none⟩ = some (.int .i64 pos) := cell_of HS.out (j := 5) rfl
  have HN := Lib.hid (no_any (!b) 53 pos)
  generalize noC (!b) 53 pos = q at *
  obtain ⟨fe, fa⟩ := q
  have HB : Hid (Below W.heap.size W (W.alloc (.cells #[.int .i64 0, .int .i64 0] 58))) := Lib.hid (up_alloc (Below.refl _ _) _)
  have HZ : Hid ((W.alloc (.cells #[.int .i64 0, .int .i64 0] 58)).heap[W.heap.size]? = some (.cells #[.int .i64 0, .int .i64 0] 58 (0, 0))) := Lib.hid (new_heap _ _ _ rfl)
  go_enter Try.func59, Try.ntmps59
  go_wp2_with fail
  refine (HN.out _).mono ?_
  rintro e w2 ⟨rfl, hb2⟩
  have HZ2 := Lib.hid ((hb2.block _ (lt_block HZ.out)).trans HZ.out)
  have HB2 := Lib.hid (up_trans HB.out hb2)
  clear hb2
  unfold fltV
  dsimp only
  have r0 : w2.cell? ⟨W.heap.size, 0, none⟩ = some (.int .i64 0) := cell_of HZ2.out (j := 0) rfl
  have r1 : w2.cell? ⟨W.heap.size, 1, none⟩ = some (.int .i64 0) := cell_of HZ2.out (j := 1) rfl
  have k0 : w2.frozen? ⟨W.heap.size, 0, none⟩ = false := frozen_of HZ2.out 0
  have k1 : w2.frozen? ⟨W.heap.size, 1, none⟩ = false := frozen_of HZ2.out 1
  go_wp2_with fail
  refine bodyPost_ret (v := .agg #[.int .i64 fe, .int .i64 fa]) (by simp [results, Try.results59, go_sem, r0, r1]) rfl ⟨rfl, ?_⟩
  exact (HB2.out.setCell (p := ⟨W.heap.size, 0, none⟩) (Nat.le_refl _) _).setCell (p := ⟨W.heap.size, 1, none⟩) (Nat.le_refl _) _

set_option maxRecDepth 100000 in
set_option maxHeartbeats 2000000 in
theorem clo_11 {W0 : World} {BP SP : Nat} {b : Bool} {op pos : Int} {text : ByteArray} {s1 s2 s3 : Option Addr} {n1 c1 n2 c2 n3 c3 : Nat} (h : W0.heap[BP]? = some (.cells #[.bool b] 4 (0, 0))) (hs : W0.heap[SP]? = some (.cells #[.int .i64 op, .string text, .slice s1 n1 c1, .slice s2 n2 c2, .slice s3 n3 c3, .int .i64 pos] 46 (0, 0))) : FnTells W0 (.func (.func 70) #[] #[.pointer (some ⟨BP, 0, none⟩), .pointer (some ⟨SP, 0, none⟩)]) (noC (!b) 53 pos) := by
  refine ⟨_, _, rfl, enters_of Try.func70 (by kernel_rfl) rfl, fun W hW => ?_⟩
  have HP := Lib.hid ((hW.block _ (lt_block h)).trans h)
  have hl0 := lt_block HP.out
  have HS := Lib.hid ((hW.block _ (lt_block hs)).trans hs)
  have hl1 := lt_block HS.out
  have f0 : W.cell? ⟨BP, 0, none⟩ = some (.bool b) := cell_of HP.out (j := 0) rfl
  have f5 : W.cell? ⟨SP, 5, none⟩ = some (.int .i64 pos) := cell_of HS.out (j := 5) rfl
  have HN := Lib.hid (no_any (!b) 53 pos)
  generalize noC (!b) 53 pos = q at *
  obtain ⟨fe, fa⟩ := q
  have HB : Hid (Below W.heap.size W (W.alloc (.cells #[.int .i64 0, .int .i64 0] 58))) := Lib.hid (up_alloc (Below.refl _ _) _)
  have HZ : Hid ((W.alloc (.cells #[.int .i64 0, .int .i64 0] 58)).heap[W.heap.size]? = some (.cells #[.int .i64 0, .int .i64 0] 58 (0, 0))) := Lib.hid (new_heap _ _ _ rfl)
  go_enter Try.func70, Try.ntmps70
  go_wp2_with fail
  refine (HN.out _).mono ?_
  rintro e w2 ⟨rfl, hb2⟩
  have HZ2 := Lib.hid ((hb2.block _ (lt_block HZ.out)).trans HZ.out)
  have HB2 := Lib.hid (up_trans HB.out hb2)
  clear hb2
  unfold fltV
  dsimp only
  have r0 : w2.cell? ⟨W.heap.size, 0, none⟩ = some (.int .i64 0) := cell_of HZ2.out (j := 0) rfl
  have r1 : w2.cell? ⟨W.heap.size, 1, none⟩ = some (.int .i64 0) := cell_of HZ2.out (j := 1) rfl
  have k0 : w2.frozen? ⟨W.heap.size, 0, none⟩ = false := frozen_of HZ2.out 0
  have k1 : w2.frozen? ⟨W.heap.size, 1, none⟩ = false := frozen_of HZ2.out 1
  go_wp2_with fail
  refine bodyPost_ret (v := .agg #[.int .i64 fe, .int .i64 fa]) (by simp [results, Try.results70, go_sem, r0, r1]) rfl ⟨rfl, ?_⟩
  exact (HB2.out.setCell (p := ⟨W.heap.size, 0, none⟩) (Nat.le_refl _) _).setCell (p := ⟨W.heap.size, 1, none⟩) (Nat.le_refl _) _

set_option maxRecDepth 100000 in
set_option maxHeartbeats 2000000 in
theorem clo_4 {W0 : World} {BP SP : Nat} {b : Bool} {op pos : Int} {text : ByteArray} {s1 s2 s3 : Option Addr} {n1 c1 n2 c2 n3 c3 : Nat} (h : W0.heap[BP]? = some (.cells #[.bool b] 4 (0, 0))) (hs : W0.heap[SP]? = some (.cells #[.int .i64 op, .string text, .slice s1 n1 c1, .slice s2 n2 c2, .slice s3 n3 c3, .int .i64 pos] 46 (0, 0))) : FnTells W0 (.func (.func 61) #[] #[.pointer (some ⟨BP, 0, none⟩), .pointer (some ⟨SP, 0, none⟩)]) (noC (b) 52 pos) := by
  refine ⟨_, _, rfl, enters_of Try.func61 (by kernel_rfl) rfl, fun W hW => ?_⟩
  have HP := Lib.hid ((hW.block _ (lt_block h)).trans h)
  have hl0 := lt_block HP.out
  have HS := Lib.hid ((hW.block _ (lt_block hs)).trans hs)
  have hl1 := lt_block HS.out
  have f0 : W.cell? ⟨BP, 0, none⟩ = some (.bool b) := cell_of HP.out (j := 0) rfl
  have f5 : W.cell? ⟨SP, 5, none⟩ = some (.int .i64 pos) := cell_of HS.out (j := 5) rfl
  have HN := Lib.hid (no_any (b) 52 pos)
  generalize noC (b) 52 pos = q at *
  obtain ⟨fe, fa⟩ := q
  have HB : Hid (Below W.heap.size W (W.alloc (.cells #[.int .i64 0, .int .i64 0] 58))) := Lib.hid (up_alloc (Below.refl _ _) _)
  have HZ : Hid ((W.alloc (.cells #[.int .i64 0, .int .i64 0] 58)).heap[W.heap.size]? = some (.cells #[.int .i64 0, .int .i64 0] 58 (0, 0))) := Lib.hid (new_heap _ _ _ rfl)
  go_enter Try.func61, Try.ntmps61
  go_wp2_with fail
  refine (HN.out _).mono ?_
  rintro e w2 ⟨rfl, hb2⟩
  have HZ2 := Lib.hid ((hb2.block _ (lt_block HZ.out)).trans HZ.out)
  have HB2 := Lib.hid (up_trans HB.out hb2)
  clear hb2
  unfold fltV
  dsimp only
  have r0 : w2.cell? ⟨W.heap.size, 0, none⟩ = some (.int .i64 0) := cell_of HZ2.out (j := 0) rfl
  have r1 : w2.cell? ⟨W.heap.size, 1, none⟩ = some (.int .i64 0) := cell_of HZ2.out (j := 1) rfl
  have k0 : w2.frozen? ⟨W.heap.size, 0, none⟩ = false := frozen_of HZ2.out 0
  have k1 : w2.frozen? ⟨W.heap.size, 1, none⟩ = false := frozen_of HZ2.out 1
  go_wp2_with fail
  refine bodyPost_ret (v := .agg #[.int .i64 fe, .int .i64 fa]) (by simp [results, Try.results61, go_sem, r0, r1]) rfl ⟨rfl, ?_⟩
  exact (HB2.out.setCell (p := ⟨W.heap.size, 0, none⟩) (Nat.le_refl _) _).setCell (p := ⟨W.heap.size, 1, none⟩) (Nat.le_refl _) _

set_option maxRecDepth 100000 in
set_option maxHeartbeats 2000000 in
theorem clo_5 {W0 : World} {NP SP : Nat} {nt : Int} {b : Bool} {op pos : Int} {text : ByteArray} {s1 s2 s3 : Option Addr} {n1 c1 n2 c2 n3 c3 : Nat} (h : W0.heap[NP]? = some (.cells #[.int .i64 nt, .bool b] 75 (0, 0))) (hs : W0.heap[SP]? = some (.cells #[.int .i64 op, .string text, .slice s1 n1 c1, .slice s2 n2 c2, .slice s3 n3 c3, .int .i64 pos] 46 (0, 0))) : FnTells W0 (.func (.func 62) #[] #[.pointer (some ⟨NP, 0, none⟩), .pointer (some ⟨SP, 0, none⟩)]) (noC (!b) 51 pos) := by
  refine ⟨_, _, rfl, enters_of Try.func62 (by kernel_rfl) rfl, fun W hW => ?_⟩
  have HP := Lib.hid ((hW.block _ (lt_block h)).trans h)
  have hl0 := lt_block HP.out
  have HS := Lib.hid ((hW.block _ (lt_block hs)).trans hs)
  have hl1 := lt_block HS.out
  have f1 : W.cell? ⟨NP, 1, none⟩ = some (.bool b) := cell_of HP.out (j := 1) rfl
  have f5 : W.cell? ⟨SP, 5, none⟩ = some (.int .i64 pos) := cell_of HS.out (j := 5) rfl
  have HN := Lib.hid (no_any (!b) 51 pos)
  generalize noC (!b) 51 pos = q at *
  obtain ⟨fe, fa⟩ := q
  have HB : Hid (Below W.heap.size W (W.alloc (.cells #[.int .i64 0, .int .i64 0] 58))) := Lib.hid (up_alloc (Below.refl _ _) _)
  have HZ : Hid ((W.alloc (.cells #[.int .i64 0, .int .i64 0] 58)).heap[W.heap.size]? = some (.cells #[.int .i64 0, .int .i64 0] 58 (0, 0))) := Lib.hid (new_heap _ _ _ rfl)
  go_enter Try.func62, Try.ntmps62
  go_wp2_with fail
  refine (HN.out _).mono ?_
  rintro e w2 ⟨rfl, hb2⟩
  have HZ2 := Lib.hid ((hb2.block _ (lt_block HZ.out)).trans HZ.out)
  have HB2 := Lib.hid (up_trans HB.out hb2)
  clear hb2
  unfold fltV
  dsimp only
  have r0 : w2.cell? ⟨W.heap.size, 0, none⟩ = some (.int .i64 0) := cell_of HZ2.out (j := 0) rfl
  have r1 : w2.cell? ⟨W.heap.size, 1, none⟩ = some (.int .i64 0) := cell_of HZ2.out (j := 1) rfl
  have k0 : w2.frozen? ⟨W.heap.size, 0, none⟩ = false := frozen_of HZ2.out 0
  have k1 : w2.frozen? ⟨W.heap.size, 1, none⟩ = false := frozen_of HZ2.out 1
  go_wp2_with fail
  refine bodyPost_ret (v := .agg #[.int .i64 fe, .int .i64 fa]) (by simp [results, Try.results62, go_sem, r0, r1]) rfl ⟨rfl, ?_⟩
  exact (HB2.out.setCell (p := ⟨W.heap.size, 0, none⟩) (Nat.le_refl _) _).setCell (p := ⟨W.heap.size, 1, none⟩) (Nat.le_refl _) _

set_option maxRecDepth 100000 in
set_option maxHeartbeats 2000000 in
theorem clo_8 {W0 : World} {cb : Nat} {F : Funs} {res : Int} {v : View} {vr CP SP VP : Nat} {op pos : Int} {text : ByteArray} {s1 s2 s3 : Option Addr} {n1 c1 n2 c2 n3 c3 : Nat} {l : List St} (hl : ∀ x, x ∈ l → StCk cb F res x) (hx : CtxAt W0 cb F res vr v) (hr : RepSts Any W0 (.slice s2 n2 c2) l) (hc : W0.heap[CP]? = some (.cells #[.pointer (some ⟨cb, 0, none⟩)] 52 (0, 0))) (hs : W0.heap[SP]? = some (.cells #[.int .i64 op, .string text, .slice s1 n1 c1, .slice s2 n2 c2, .slice s3 n3 c3, .int .i64 pos] 46 (0, 0))) (hv : W0.heap[VP]? = some (.cells #[.map (some vr)] 73 (0, 0))) : FnTells W0 (.func (.func 66) #[] #[.pointer (some ⟨CP, 0, none⟩), .pointer (some ⟨SP, 0, none⟩), .pointer (some ⟨VP, 0, none⟩)]) (blockC F res l v) := by
  refine ⟨_, _, rfl, enters_of Try.func66 (by kernel_rfl) rfl, fun W hW => ?_⟩
  have HC := Lib.hid ((hW.block _ (lt_block hc)).trans hc)
  have hl0 := lt_block HC.out
  have HS := Lib.hid ((hW.block _ (lt_block hs)).trans hs)
  have hl1 := lt_block HS.out
  have HV := Lib.hid ((hW.block _ (lt_block hv)).trans hv)
  have hl2 := lt_block HV.out
  have p0 : W.cell? ⟨CP, 0, none⟩ = some (.pointer (some ⟨cb, 0, none⟩)) := cell_of HC.out (j := 0) rfl
  have p1 : W.cell? ⟨SP, 3, none⟩ = some (.slice s2 n2 c2) := cell_of HS.out (j := 3) rfl
  have p2 : W.cell? ⟨VP, 0, none⟩ = some (.map (some vr)) := cell_of HV.out (j := 0) rfl
  have HB : Hid (Below W.heap.size W (W.alloc (.cells #[.int .i64 0, .int .i64 0] 58))) := Lib.hid (up_alloc (Below.refl _ _) _)
  have HZ : Hid ((W.alloc (.cells #[.int .i64 0, .int .i64 0] 58)).heap[W.heap.size]? = some (.cells #[.int .i64 0, .int .i64 0] 58 (0, 0))) := Lib.hid (new_heap _ _ _ rfl)
  have hW2 := hW.trans (HB.out.mono hW.size)
  have HN := Lib.hid (block_ck cb F res l hl v vr _ _ (hx.below hW2) (hr.keep (Stays.of_below hW2)))
  generalize blockC F res l v = q at *
  obtain ⟨fe, fa⟩ := q
  go_enter Try.func66, Try.ntmps66
  go_wp2_with fail
  refine HN.out.mono ?_
  rintro e w2 ⟨rfl, hb2⟩
  have HZ2 := Lib.hid ((hb2.block _ (lt_block HZ.out)).trans HZ.out)
  have HB2 := Lib.hid (up_trans HB.out hb2)
  clear hb2
  unfold fltV
  dsimp only
  have r0 : w2.cell? ⟨W.heap.size, 0, none⟩ = some (.int .i64 0) := cell_of HZ2.out (j := 0) rfl
  have r1 : w2.cell? ⟨W.heap.size, 1, none⟩ = some (.int .i64 0) := cell_of HZ2.out (j := 1) rfl
  have k0 : w2.frozen? ⟨W.heap.size, 0, none⟩ = false := frozen_of HZ2.out 0
  have k1 : w2.frozen? ⟨W.heap.size, 1, none⟩ = false := frozen_of HZ2.out 1
  go_wp2_with fail
  refine bodyPost_ret (v := .agg #[.int .i64 fe, .int .i64 fa]) (by simp [results, Try.results66, go_sem, r0, r1]) rfl ⟨rfl, ?_⟩
  exact (HB2.out.setCell (p := ⟨W.heap.size, 0, none⟩) (Nat.le_refl _) _).setCell (p := ⟨W.heap.size, 1, none⟩) (Nat.le_refl _) _

set_option maxRecDepth 100000 in
set_option maxHeartbeats 2000000 in
theorem clo_9 {W0 : World} {cb : Nat} {F : Funs} {res : Int} {v : View} {vr CP SP VP : Nat} {op pos : Int} {text : ByteArray} {s1 s2 s3 : Option Addr} {n1 c1 n2 c2 n3 c3 : Nat} {l : List St} (hl : ∀ x, x ∈ l → StCk cb F res x) (hx : CtxAt W0 cb F res vr v) (hr : RepSts Any W0 (.slice s3 n3 c3) l) (hc : W0.heap[CP]? = some (.cells #[.pointer (some ⟨cb, 0, none⟩)] 52 (0, 0))) (hs : W0.heap[SP]? = some (.cells #[.int .i64 op, .string text, .slice s1 n1 c1, .slice s2 n2 c2, .slice s3 n3 c3, .int .i64 pos] 46 (0, 0))) (hv : W0.heap[VP]? = some (.cells #[.map (some vr)] 73 (0, 0))) : FnTells W0 (.func (.func 67) #[] #[.pointer (some ⟨CP, 0, none⟩), .pointer (some ⟨SP, 0, none⟩), .pointer (some ⟨VP, 0, none⟩)]) (blockC F res l v) := by
  refine ⟨_, _, rfl, enters_of Try.func67 (by kernel_rfl) rfl, fun W hW => ?_⟩
  have HC := Lib.hid ((hW.block _ (lt_block hc)).trans hc)
  have hl0 := lt_block HC.out
  have HS := Lib.hid ((hW.block _ (lt_block hs)).trans hs)
  have hl1 := lt_block HS.out
  have HV := Lib.hid ((hW.block _ (lt_block hv)).trans hv)
  have hl2 := lt_block HV.out
  have p0 : W.cell? ⟨CP, 0, none⟩ = some (.pointer (some ⟨cb, 0, none⟩)) := cell_of HC.out (j := 0) rfl
  have p1 : W.cell? ⟨SP, 4, none⟩ = some (.slice s3 n3 c3) := cell_of HS.out (j := 4) rfl
  have p2 : W.cell? ⟨VP, 0, none⟩ = some (.map (some vr)) := cell_of HV.out (j := 0) rfl
  have HB : Hid (Below W.heap.size W (W.alloc (.cells #[.int .i64 0, .int .i64 0] 58))) := Lib.hid (up_alloc (Below.refl _ _) _)
  have HZ : Hid ((W.alloc (.cells #[.int .i64 0, .int .i64 0] 58)).heap[W.heap.size]? = some (.cells #[.int .i64 0, .int .i64 0] 58 (0, 0))) := Lib.hid (new_heap _ _ _ rfl)
  have hW2 := hW.trans (HB.out.mono hW.size)
  have HN := Lib.hid (block_ck cb F res l hl v vr _ _ (hx.below hW2) (hr.keep (Stays.of_below hW2)))
  generalize blockC F res l v = q at *
  obtain ⟨fe, fa⟩ := q
  go_enter Try.func67, Try.ntmps67
  go_wp2_with fail
  refine HN.out.mono ?_
  rintro e w2 ⟨rfl, hb2⟩
  have HZ2 := Lib.hid ((hb2.block _ (lt_block HZ.out)).trans HZ.out)
  have HB2 := Lib.hid (up_trans HB.out hb2)
  clear hb2
  unfold fltV
  dsimp only
  have r0 : w2.cell? ⟨W.heap.size, 0, none⟩ = some (.int .i64 0) := cell_of HZ2.out (j := 0) rfl
  have r1 : w2.cell? ⟨W.heap.size, 1, none⟩ = some (.int .i64 0) := cell_of HZ2.out (j := 1) rfl
  have k0 : w2.frozen? ⟨W.heap.size, 0, none⟩ = false := frozen_of HZ2.out 0
  have k1 : w2.frozen? ⟨W.heap.size, 1, none⟩ = false := frozen_of HZ2.out 1
  go_wp2_with fail
  refine bodyPost_ret (v := .agg #[.int .i64 fe, .int .i64 fa]) (by simp [results, Try.results67, go_sem, r0, r1]) rfl ⟨rfl, ?_⟩
  exact (HB2.out.setCell (p := ⟨W.heap.size, 0, none⟩) (Nat.le_refl _) _).setCell (p := ⟨W.heap.size, 1, none⟩) (Nat.le_refl _) _

set_option maxRecDepth 100000 in
set_option maxHeartbeats 2000000 in
theorem clo_10 {W0 : World} {cb : Nat} {F : Funs} {res : Int} {v : View} {vr CP SP VP : Nat} {op pos : Int} {text : ByteArray} {s1 s2 s3 : Option Addr} {n1 c1 n2 c2 n3 c3 : Nat} {l : List Ex} (hl : ∀ x, x ∈ l → ExCk cb F res x) (hlen : l.length ≤ 2) (hx : CtxAt W0 cb F res vr v) (hr : RepExs Any W0 (.slice s1 n1 c1) l) (hc : W0.heap[CP]? = some (.cells #[.pointer (some ⟨cb, 0, none⟩)] 52 (0, 0))) (hs : W0.heap[SP]? = some (.cells #[.int .i64 op, .string text, .slice s1 n1 c1, .slice s2 n2 c2, .slice s3 n3 c3, .int .i64 pos] 46 (0, 0))) (hv : W0.heap[VP]? = some (.cells #[.map (some vr)] 73 (0, 0))) : FnTells W0 (.func (.func 68) #[] #[.pointer (some ⟨CP, 0, none⟩), .pointer (some ⟨SP, 0, none⟩), .pointer (some ⟨VP, 0, none⟩)]) (allC F v l [1, 1]) := by
  refine ⟨_, _, rfl, enters_of Try.func68 (by kernel_rfl) rfl, fun W hW => ?_⟩
  have HC := Lib.hid ((hW.block _ (lt_block hc)).trans hc)
  have hl0 := lt_block HC.out
  have HS := Lib.hid ((hW.block _ (lt_block hs)).trans hs)
  have hl1 := lt_block HS.out
  have HV := Lib.hid ((hW.block _ (lt_block hv)).trans hv)
  have hl2 := lt_block HV.out
  have p0 : W.cell? ⟨CP, 0, none⟩ = some (.pointer (some ⟨cb, 0, none⟩)) := cell_of HC.out (j := 0) rfl
  have p1 : W.cell? ⟨SP, 2, none⟩ = some (.slice s1 n1 c1) := cell_of HS.out (j := 2) rfl
  have p2 : W.cell? ⟨VP, 0, none⟩ = some (.map (some vr)) := cell_of HV.out (j := 0) rfl
  have HB : Hid (Below W.heap.size W ((W.alloc (.cells #[.int .i64 0, .int .i64 0] 58)).alloc (.cells #[.int .i64 1, .int .i64 1] 31))) := Lib.hid (up_alloc (up_alloc (Below.refl _ _) _) _)
  have HZ : Hid (((W.alloc (.cells #[.int .i64 0, .int .i64 0] 58)).alloc (.cells #[.int .i64 1, .int .i64 1] 31)).heap[W.heap.size]? = some (.cells #[.int .i64 0, .int .i64 0] 58 (0, 0))) := Lib.hid (old_heap _ _ _ _ (new_heap _ _ _ rfl))
  have hW2 := hW.trans (HB.out.mono hW.size)
  have HTY : Hid (TysAt ((W.alloc (.cells #[.int .i64 0, .int .i64 0] 58)).alloc (.cells #[.int .i64 1, .int .i64 1] 31)) (.slice (some ⟨(W.alloc (.cells #[.int .i64 0, .int .i64 0] 58)).heap.size, 0, none⟩) 2 2) [1, 1]) := Lib.hid ⟨_, 2, rfl, by show (2:Nat) ≤ 1000000; decide, fun _ => ⟨_, 0, rfl, by rw [size_alloc (W.alloc (.cells #[.int .i64 0, .int .i64 0] 58))]; exact Nat.lt_succ_self _, fun i hi => by
      rw [Nat.zero_add]
      have hi2 : i < 2 := hi
      rcases (show i = 0 ∨ i = 1 by omega) with rfl | rfl
      · exact new_cell _ _ _ _ _ _ rfl rfl
      · exact new_cell _ _ _ _ _ _ rfl rfl⟩⟩
  have HN := Lib.hid (all_ck cb F res l hl v vr _ (.slice s1 n1 c1) _ [1, 1] (hx.below hW2) (hr.keep (Stays.of_below hW2)) HTY.out hlen)
  generalize allC F v l [1, 1] = q at *
  obtain ⟨fe, fa⟩ := q
  rw [size_alloc] at HN
  go_enter Try.func68, Try.ntmps68
  go_wp2_with fail
  refine HN.out.mono ?_
  rintro e w2 ⟨rfl, hb2⟩
  have HZ2 := Lib.hid ((hb2.block _ (lt_block HZ.out)).trans HZ.out)
  have HB2 := Lib.hid (up_trans HB.out hb2)
  clear hb2
  unfold fltV
  dsimp only
  have r0 : w2.cell? ⟨W.heap.size, 0, none⟩ = some (.int .i64 0) := cell_of HZ2.out (j := 0) rfl
  have r1 : w2.cell? ⟨W.heap.size, 1, none⟩ = some (.int .i64 0) := cell_of HZ2.out (j := 1) rfl
  have k0 : w2.frozen? ⟨W.heap.size, 0, none⟩ = false := frozen_of HZ2.out 0
  have k1 : w2.frozen? ⟨W.heap.size, 1, none⟩ = false := frozen_of HZ2.out 1
  go_wp2_with fail
  refine bodyPost_ret (v := .agg #[.int .i64 fe, .int .i64 fa]) (by simp [results, Try.results68, go_sem, r0, r1]) rfl ⟨rfl, ?_⟩
  exact (HB2.out.setCell (p := ⟨W.heap.size, 0, none⟩) (Nat.le_refl _) _).setCell (p := ⟨W.heap.size, 1, none⟩) (Nat.le_refl _) _
end Go.Proofs.Ytpiamiaigjlafaa
