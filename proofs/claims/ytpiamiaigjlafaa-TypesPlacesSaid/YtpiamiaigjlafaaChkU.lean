/-
  What is wrong with a function: its function values.
-/
import Derived.Test.YtpiamiaigjlafaaChkN
import Derived.Test.YtpiamiaigjlafaaChkW
namespace Go.Proofs.Ytpiamiaigjlafaa
open Go.RowKit

set_option maxRecDepth 100000 in
set_option maxHeartbeats 4000000 in
theorem fclo_1 {W0 : World} {cb : Nat} {F : Funs} {res : Int} {v : View} {vr CP FP VP : Nat} {nm : ByteArray} {rs pos : Int} {s1 s2 : Option Addr} {n1 c1 n2 c2 : Nat} {l : List St} (hl : ∀ x, x ∈ l → StCk cb F res x) (hx : CtxAt W0 cb F res vr v) (hr : RepSts Any W0 (.slice s2 n2 c2) l) (hc : W0.heap[CP]? = some (.cells #[.pointer (some ⟨cb, 0, none⟩)] 52 (0, 0))) (hf : W0.heap[FP]? = some (.cells #[.string nm, .slice s1 n1 c1, .int .i64 rs, .slice s2 n2 c2, .int .i64 pos] 34 (0, 0))) (hv : W0.heap[VP]? = some (.cells #[.map (some vr)] 73 (0, 0))) : FnTells W0 (.func (.func 23) #[] #[.pointer (some ⟨CP, 0, none⟩), .pointer (some ⟨FP, 0, none⟩), .pointer (some ⟨VP, 0, none⟩)]) (blockC F res l v) := by
  refine ⟨_, _, rfl, enters_of Try.func23 (by kernel_rfl) rfl, fun W hW => ?_⟩
  have HC := Lib.hid ((hW.block _ (lt_block hc)).trans hc)
  have hl0 := lt_block HC.out
  have HF := Lib.hid ((hW.block _ (lt_block hf)).trans hf)
  have hl1 := lt_block HF.out
  have HV := Lib.hid ((hW.block _ (lt_block hv)).trans hv)
  have hl2 := lt_block HV.out
  have p0 : W.cell? ⟨CP, 0, none⟩ = some (.pointer (some ⟨cb, 0, none⟩)) := cell_of HC.out (j := 0) rfl
  have p1 : W.cell? ⟨FP, 3, none⟩ = some (.slice s2 n2 c2) := cell_of HF.out (j := 3) rfl
  have p2 : W.cell? ⟨VP, 0, none⟩ = some (.map (some vr)) := cell_of HV.out (j := 0) rfl
  have HB : Hid (Below W.heap.size W (W.alloc (.cells #[.int .i64 0, .int .i64 0] 58))) := Lib.hid (up_alloc (Below.refl _ _) _)
  have HZ : Hid ((W.alloc (.cells #[.int .i64 0, .int .i64 0] 58)).heap[W.heap.size]? = some (.cells #[.int .i64 0, .int .i64 0] 58 (0, 0))) := Lib.hid (new_heap _ _ _ rfl)
  have hW2 := hW.trans (HB.out.mono hW.size)
  have HN := Lib.hid (block_ck cb F res l hl v vr _ _ (hx.below hW2) (hr.keep (Stays.of_below hW2)))
  generalize blockC F res l v = q at *
  obtain ⟨fe, fa⟩ := q
  go_enter Try.func23, Try.ntmps23
  go_wp2_with fail
  refine HN.out.mono ?_
  rintro e w2 ⟨rfl, hb2⟩
  have HZ2 := Lib.hid ((hb2.block _ (lt_block HZ.out)).trans HZ.out)
  have HB2 := Lib.hid (up_trans HB.out hb2)
  clear hb2
  unfold fltV
  dsimp only
  have r0 : w2.cell? ⟨W.heap.size, 0, none⟩ = some (.int .i64 0) := cell_of HZ2.out (j := 0) rfl
  have r1 : w2.cell? ⟨W.heap.size, 1, none⟩ = some (.int .i64 0) := cell_of HZ2.out (j := 1) rfl
  have k0 : w2.frozen? ⟨W.heap.size, 0, none⟩ = false := frozen_of HZ2.out 0
  have k1 : w2.frozen? ⟨W.heap.size, 1, none⟩ = false := frozen_of HZ2.out 1
  go_wp2_with fail
  refine bodyPost_ret (v := .agg #[.int .i64 fe, .int .i64 fa]) (by simp [results, Try.results23, go_sem, r0, r1]) rfl ⟨rfl, ?_⟩
  exact (HB2.out.setCell (p := ⟨W.heap.size, 0, none⟩) (Nat.le_refl _) _).setCell (p := ⟨W.heap.size, 1, none⟩) (Nat.le_refl _) _
set_option maxRecDepth 100000 in
set_option maxHeartbeats 4000000 in
theorem fclo_2z {W0 : World} {FP : Nat} {nm : ByteArray} {rs pos : Int} {s1 s2 : Option Addr} {n1 c1 n2 c2 : Nat} (hf : W0.heap[FP]? = some (.cells #[.string nm, .slice s1 n1 c1, .int .i64 rs, .slice s2 n2 c2, .int .i64 pos] 34 (0, 0))) (hrs : (rs == 0) = true) : FnTells W0 (.func (.func 25) #[] #[.pointer (some ⟨FP, 0, none⟩)]) (noC true 54 pos) := by
  refine ⟨_, _, rfl, enters_of Try.func25 (by kernel_rfl) rfl, fun W hW => ?_⟩
  have HF := Lib.hid ((hW.block _ (lt_block hf)).trans hf)
  have hl0 := lt_block HF.out
  have HN := Lib.hid (no_any (true) 54 pos)
  generalize noC (true) 54 pos = q at *
  obtain ⟨fe, fa⟩ := q
  have hbD : Below W.heap.size W (W.alloc (.cells #[.int .i64 0, .int .i64 0] 58)) := up_alloc (Below.refl _ _) _
  have HZ : Hid ((W.alloc (.cells #[.int .i64 0, .int .i64 0] 58)).heap[W.heap.size]? = some (.cells #[.int .i64 0, .int .i64 0] 58 (0, 0))) := Lib.hid (new_heap _ _ _ rfl)
  have HSW : Hid (W.cell? ⟨FP, 2, none⟩ = some (.int .i64 rs) ∧ W.cell? ⟨FP, 3, none⟩ = some (.slice s2 n2 c2) ∧ W.cell? ⟨FP, 4, none⟩ = some (.int .i64 pos)) := Lib.hid ⟨cell_of HF.out (j := 2) rfl, cell_of HF.out (j := 3) rfl, cell_of HF.out (j := 4) rfl⟩
  have HLW : Hid (FP < W.heap.size ∧ FP < W.heap.size ∧ FP < W.heap.size) := Lib.hid ⟨hl0, hl0, hl0⟩
  go_enter Try.func25, Try.ntmps25
  go_upto_region 1 with fail
  have HB := Lib.hid hbD
  have HS0 : Hid ((W.alloc (.cells #[.int .i64 0, .int .i64 0] 58)).drew.cell? ⟨FP, 2, none⟩ = some (.int .i64 rs) ∧ (W.alloc (.cells #[.int .i64 0, .int .i64 0] 58)).drew.cell? ⟨FP, 3, none⟩ = some (.slice s2 n2 c2) ∧ (W.alloc (.cells #[.int .i64 0, .int .i64 0] 58)).drew.cell? ⟨FP, 4, none⟩ = some (.int .i64 pos)) := Lib.hid ⟨(hbD.cell (p := ⟨FP, 2, none⟩) HLW.out.1).trans HSW.out.1, (hbD.cell (p := ⟨FP, 3, none⟩) HLW.out.2.1).trans HSW.out.2.1, (hbD.cell (p := ⟨FP, 4, none⟩) HLW.out.2.2).trans HSW.out.2.2⟩
  have HSZ : Hid (W.heap.size < (W.alloc (.cells #[.int .i64 0, .int .i64 0] 58)).heap.size) := Lib.hid (lt_block HZ.out)
  clear hbD
  generalize (W.alloc (.cells #[.int .i64 0, .int .i64 0] 58)) = w1 at *
  have hs0 := HS0.out
  refine wp_region_split (S := (fun w' : World => w'.cell? ⟨FP, 2, none⟩ = some (.int .i64 rs) ∧ w'.cell? ⟨FP, 3, none⟩ = some (.slice s2 n2 c2) ∧ w'.cell? ⟨FP, 4, none⟩ = some (.int .i64 pos))) 11 (by kernel_rfl) (by kernel_rfl) (by exact HS0.out) (fun hHeld => ?_)
  simp only [List.take_succ_cons, List.take_zero, List.drop_succ_cons, List.drop_zero]
  refine wpAnyH_take (i := 0) (v := ?_) rfl (by kernel_rfl) (by kernel_rfl) (by kernel_rfl) (fun _ _ _ h => h) (Or.inl ⟨by rfl, ?_⟩) (by assumption) ?_
  rotate_left 1
  · (intro w hSw; (try dsimp only at hSw); go_simp; try with_reducible rfl)
  try simp only [Act.put, List.setIfInBounds_toArray, List.set_cons_zero, List.set_cons_succ, List.getElem_toArray, List.getElem_cons_zero]
  refine wpAnyH_take (i := 1) (v := ?_) rfl (by kernel_rfl) (by kernel_rfl) (by kernel_rfl) (fun _ _ _ h => h) (Or.inl ⟨by rfl, ?_⟩) (by assumption) ?_
  rotate_left 1
  · (intro w hSw; (try dsimp only at hSw); go_simp; try with_reducible rfl)
  try simp only [Act.put, List.setIfInBounds_toArray, List.set_cons_zero, List.set_cons_succ, List.getElem_toArray, List.getElem_cons_zero, List.getElem_cons_succ]
  refine wpAnyH_take (i := 2) (v := ?_) rfl (by kernel_rfl) (by kernel_rfl) (by kernel_rfl) (fun _ _ _ h => h) (Or.inl ⟨by rfl, ?_⟩) (by assumption) ?_
  rotate_left 1
  · (intro w hSw; (try dsimp only at hSw); go_simp; try with_reducible rfl)
  try simp only [Act.put, List.setIfInBounds_toArray, List.set_cons_zero, List.set_cons_succ, List.getElem_toArray, List.getElem_cons_zero, List.getElem_cons_succ]
  refine wpAnyH_take (i := 3) (v := ?_) rfl (by kernel_rfl) (by kernel_rfl) (by kernel_rfl) (fun _ _ _ h => h) (Or.inl ⟨by rfl, ?_⟩) (by assumption) ?_
  rotate_left 1
  · (intro w hSw; (try dsimp only at hSw); go_simp; try with_reducible rfl)
  try simp only [Act.put, List.setIfInBounds_toArray, List.set_cons_zero, List.set_cons_succ, List.getElem_toArray, List.getElem_cons_zero, List.getElem_cons_succ]
  refine wpAnyH_take (i := 4) rfl (by kernel_rfl) (by kernel_rfl) (by kernel_rfl) (fun _ _ _ h => h) (Or.inr ⟨by rfl, rfl⟩) (by assumption) ?_
  try simp only [Act.put, List.setIfInBounds_toArray, List.set_cons_zero, List.set_cons_succ, List.getElem_toArray, List.getElem_cons_zero, List.getElem_cons_succ]
  refine wpAnyH_take (i := 5) rfl (by kernel_rfl) (by kernel_rfl) (by kernel_rfl) (fun _ _ _ h => h) (Or.inr ⟨by rfl, rfl⟩) (by assumption) ?_
  try simp only [Act.put, List.setIfInBounds_toArray, List.set_cons_zero, List.set_cons_succ, List.getElem_toArray, List.getElem_cons_zero, List.getElem_cons_succ]
  refine wpAnyH_take (i := 6) rfl (by kernel_rfl) (by kernel_rfl) (by kernel_rfl) (fun _ _ _ h => h) (Or.inr ⟨by rfl, rfl⟩) (by assumption) ?_
  try simp only [Act.put, List.setIfInBounds_toArray, List.set_cons_zero, List.set_cons_succ, List.getElem_toArray, List.getElem_cons_zero, List.getElem_cons_succ]
  refine wpAnyH_take (i := 7) (v := ?_) rfl (by kernel_rfl) (by kernel_rfl) (by kernel_rfl) (fun _ _ _ h => h) (Or.inl ⟨by rfl, ?_⟩) (by assumption) ?_
  rotate_left 1
  · (intro w hSw; (try dsimp only at hSw); go_simp; try with_reducible rfl)
  try simp only [Act.put, List.setIfInBounds_toArray, List.set_cons_zero, List.set_cons_succ, List.getElem_toArray, List.getElem_cons_zero, List.getElem_cons_succ]
  refine wpAnyH_take (i := 8) (v := ?_) rfl (by kernel_rfl) (by kernel_rfl) (by kernel_rfl) (fun _ _ _ h => h) (Or.inl ⟨by rfl, ?_⟩) (by assumption) ?_
  rotate_left 1
  · (intro w hSw; (try dsimp only at hSw); go_simp; try with_reducible rfl)
  try simp only [Act.put, List.setIfInBounds_toArray, List.set_cons_zero, List.set_cons_succ, List.getElem_toArray, List.getElem_cons_zero, List.getElem_cons_succ]
  refine wpAnyH_take (i := 9) (v := ?_) rfl (by kernel_rfl) (by kernel_rfl) (by kernel_rfl) (fun _ _ _ h => h) (Or.inl ⟨by rfl, ?_⟩) (by assumption) ?_
  rotate_left 1
  · (intro w hSw; (try dsimp only at hSw); go_simp; try with_reducible rfl)
  try simp only [Act.put, List.setIfInBounds_toArray, List.set_cons_zero, List.set_cons_succ, List.getElem_toArray, List.getElem_cons_zero, List.getElem_cons_succ]
  refine wpAnyH_ready (rs := [10]) (by kernel_rfl) (by simp) ?_
  refine (AllReadyH.cons rfl (fun K hK => ?_) AllReadyH.nil)
  go_simp
  go_at_call 26
  refine (HN.out _).mono ?_
  rintro e w2 ⟨rfl, hb2⟩
  have hb2' : Below w1.heap.size w1 w2 := up_trans (up_drew (Below.refl _ _)) hb2
  have HZ2 := Lib.hid ((hb2'.block _ (lt_block HZ.out)).trans HZ.out)
  have HB2 := Lib.hid (up_trans HB.out hb2')
  have HS5 : Hid (w2.cell? ⟨FP, 2, none⟩ = some (.int .i64 rs) ∧ w2.cell? ⟨FP, 3, none⟩ = some (.slice s2 n2 c2) ∧ w2.cell? ⟨FP, 4, none⟩ = some (.int .i64 pos)) := Lib.hid ⟨(hb2'.cell (p := ⟨FP, 2, none⟩) (Nat.lt_trans HLW.out.1 HSZ.out)).trans HS0.out.1, (hb2'.cell (p := ⟨FP, 3, none⟩) (Nat.lt_trans HLW.out.2.1 HSZ.out)).trans HS0.out.2.1, (hb2'.cell (p := ⟨FP, 4, none⟩) (Nat.lt_trans HLW.out.2.2 HSZ.out)).trans HS0.out.2.2⟩
  clear hb2 hb2' hs0
  unfold fltV
  dsimp only
  go_simp
  refine hK.out _ _ ?_ (fun hHeld => ?_)
  · (try dsimp only)
    exact HS5.out
  clear hK K
  try simp only [Act.put, List.setIfInBounds_toArray, List.set_cons_zero, List.set_cons_succ, List.getElem_toArray, List.getElem_cons_zero, List.getElem_cons_succ]
  refine wpAnyH_done (by kernel_rfl) ?_ _
  dsimp only [TailQ]
  have r0 : w2.cell? ⟨W.heap.size, 0, none⟩ = some (.int .i64 0) := cell_of HZ2.out (j := 0) rfl
  have r1 : w2.cell? ⟨W.heap.size, 1, none⟩ = some (.int .i64 0) := cell_of HZ2.out (j := 1) rfl
  have k0 : w2.frozen? ⟨W.heap.size, 0, none⟩ = false := frozen_of HZ2.out 0
  have k1 : w2.frozen? ⟨W.heap.size, 1, none⟩ = false := frozen_of HZ2.out 1
  go_wp2_with fail
  refine bodyPost_ret (v := .agg #[.int .i64 fe, .int .i64 fa]) (by simp [results, Try.results25, go_sem, r0, r1]) rfl ⟨rfl, ?_⟩
  exact (HB2.out.setCell (p := ⟨W.heap.size, 0, none⟩) (Nat.le_refl _) _).setCell (p := ⟨W.heap.size, 1, none⟩) (Nat.le_refl _) _
set_option maxRecDepth 100000 in
set_option maxHeartbeats 4000000 in
theorem fclo_2n {W0 : World} {FP : Nat} {nm : ByteArray} {rs pos : Int} {s1 s2 : Option Addr} {n1 c1 n2 c2 : Nat} {l : List St} (hr : RepSts Any W0 (.slice s2 n2 c2) l) (hf : W0.heap[FP]? = some (.cells #[.string nm, .slice s1 n1 c1, .int .i64 rs, .slice s2 n2 c2, .int .i64 pos] 34 (0, 0))) (hrs : (rs == 0) = false) : FnTells W0 (.func (.func 25) #[] #[.pointer (some ⟨FP, 0, none⟩)]) (noC (endsC l) 54 pos) := by
  have HEN := Lib.hid (fun W1 (h1 : Below W0.heap.size W0 W1) => ends_any l W1 _ (hr.keep (Stays.of_below h1)))
  generalize endsC l = z at *
  refine ⟨_, _, rfl, enters_of Try.func25 (by kernel_rfl) rfl, fun W hW => ?_⟩
  have HF := Lib.hid ((hW.block _ (lt_block hf)).trans hf)
  have hl0 := lt_block HF.out
  have HN := Lib.hid (no_any (z) 54 pos)
  generalize noC (z) 54 pos = q at *
  obtain ⟨fe, fa⟩ := q
  have hbD : Below W.heap.size W (W.alloc (.cells #[.int .i64 0, .int .i64 0] 58)) := up_alloc (Below.refl _ _) _
  have HZ : Hid ((W.alloc (.cells #[.int .i64 0, .int .i64 0] 58)).heap[W.heap.size]? = some (.cells #[.int .i64 0, .int .i64 0] 58 (0, 0))) := Lib.hid (new_heap _ _ _ rfl)
  have HSW : Hid (W.cell? ⟨FP, 2, none⟩ = some (.int .i64 rs) ∧ W.cell? ⟨FP, 3, none⟩ = some (.slice s2 n2 c2) ∧ W.cell? ⟨FP, 4, none⟩ = some (.int .i64 pos)) := Lib.hid ⟨cell_of HF.out (j := 2) rfl, cell_of HF.out (j := 3) rfl, cell_of HF.out (j := 4) rfl⟩
  have HLW : Hid (FP < W.heap.size ∧ FP < W.heap.size ∧ FP < W.heap.size) := Lib.hid ⟨hl0, hl0, hl0⟩
  go_enter Try.func25, Try.ntmps25
  go_upto_region 1 with fail
  have HB := Lib.hid hbD
  have HS0 : Hid ((W.alloc (.cells #[.int .i64 0, .int .i64 0] 58)).drew.cell? ⟨FP, 2, none⟩ = some (.int .i64 rs) ∧ (W.alloc (.cells #[.int .i64 0, .int .i64 0] 58)).drew.cell? ⟨FP, 3, none⟩ = some (.slice s2 n2 c2) ∧ (W.alloc (.cells #[.int .i64 0, .int .i64 0] 58)).drew.cell? ⟨FP, 4, none⟩ = some (.int .i64 pos)) := Lib.hid ⟨(hbD.cell (p := ⟨FP, 2, none⟩) HLW.out.1).trans HSW.out.1, (hbD.cell (p := ⟨FP, 3, none⟩) HLW.out.2.1).trans HSW.out.2.1, (hbD.cell (p := ⟨FP, 4, none⟩) HLW.out.2.2).trans HSW.out.2.2⟩
  have HSZ : Hid (W.heap.size < (W.alloc (.cells #[.int .i64 0, .int .i64 0] 58)).heap.size) := Lib.hid (lt_block HZ.out)
  clear hbD
  generalize (W.alloc (.cells #[.int .i64 0, .int .i64 0] 58)) = w1 at *
  have hs0 := HS0.out
  refine wp_region_split (S := (fun w' : World => w'.cell? ⟨FP, 2, none⟩ = some (.int .i64 rs) ∧ w'.cell? ⟨FP, 3, none⟩ = some (.slice s2 n2 c2) ∧ w'.cell? ⟨FP, 4, none⟩ = some (.int .i64 pos))) 11 (by kernel_rfl) (by kernel_rfl) (by exact HS0.out) (fun hHeld => ?_)
  simp only [List.take_succ_cons, List.take_zero, List.drop_succ_cons, List.drop_zero]
  refine wpAnyH_take (i := 0) (v := ?_) rfl (by kernel_rfl) (by kernel_rfl) (by kernel_rfl) (fun _ _ _ h => h) (Or.inl ⟨by rfl, ?_⟩) (by assumption) ?_
  rotate_left 1
  · (intro w hSw; (try dsimp only at hSw); go_simp; try with_reducible rfl)
  try simp only [Act.put, List.setIfInBounds_toArray, List.set_cons_zero, List.set_cons_succ, List.getElem_toArray, List.getElem_cons_zero]
  refine wpAnyH_take (i := 1) (v := ?_) rfl (by kernel_rfl) (by kernel_rfl) (by kernel_rfl) (fun _ _ _ h => h) (Or.inl ⟨by rfl, ?_⟩) (by assumption) ?_
  rotate_left 1
  · (intro w hSw; (try dsimp only at hSw); go_simp; try with_reducible rfl)
  try simp only [Act.put, List.setIfInBounds_toArray, List.set_cons_zero, List.set_cons_succ, List.getElem_toArray, List.getElem_cons_zero, List.getElem_cons_succ]
  refine wpAnyH_take (i := 2) (v := ?_) rfl (by kernel_rfl) (by kernel_rfl) (by kernel_rfl) (fun _ _ _ h => h) (Or.inl ⟨by rfl, ?_⟩) (by assumption) ?_
  rotate_left 1
  · (intro w hSw; (try dsimp only at hSw); go_simp; try with_reducible rfl)
  try simp only [Act.put, List.setIfInBounds_toArray, List.set_cons_zero, List.set_cons_succ, List.getElem_toArray, List.getElem_cons_zero, List.getElem_cons_succ]
  refine wpAnyH_take (i := 3) (v := ?_) rfl (by kernel_rfl) (by kernel_rfl) (by kernel_rfl) (fun _ _ _ h => h) (Or.inl ⟨by rfl, ?_⟩) (by assumption) ?_
  rotate_left 1
  · (intro w hSw; (try dsimp only at hSw); go_simp; try with_reducible rfl)
  try simp only [Act.put, List.setIfInBounds_toArray, List.set_cons_zero, List.set_cons_succ, List.getElem_toArray, List.getElem_cons_zero, List.getElem_cons_succ]
  refine wpAnyH_take (i := 4) (v := ?_) rfl (by kernel_rfl) (by kernel_rfl) (by kernel_rfl) (fun _ _ _ h => h) (Or.inl ⟨by rfl, ?_⟩) (by assumption) ?_
  rotate_left 1
  · (intro w hSw; (try dsimp only at hSw); go_simp; try with_reducible rfl)
  try simp only [Act.put, List.setIfInBounds_toArray, List.set_cons_zero, List.set_cons_succ, List.getElem_toArray, List.getElem_cons_zero, List.getElem_cons_succ]
  refine wpAnyH_take (i := 5) (v := ?_) rfl (by kernel_rfl) (by kernel_rfl) (by kernel_rfl) (fun _ _ _ h => h) (Or.inl ⟨by rfl, ?_⟩) (by assumption) ?_
  rotate_left 1
  · (intro w hSw; (try dsimp only at hSw); go_simp; try with_reducible rfl)
  try simp only [Act.put, List.setIfInBounds_toArray, List.set_cons_zero, List.set_cons_succ, List.getElem_toArray, List.getElem_cons_zero, List.getElem_cons_succ]
  refine wpAnyH_take (i := 8) (v := ?_) rfl (by kernel_rfl) (by kernel_rfl) (by kernel_rfl) (fun _ _ _ h => h) (Or.inl ⟨by rfl, ?_⟩) (by assumption) ?_
  rotate_left 1
  · (intro w hSw; (try dsimp only at hSw); go_simp; try with_reducible rfl)
  try simp only [Act.put, List.setIfInBounds_toArray, List.set_cons_zero, List.set_cons_succ, List.getElem_toArray, List.getElem_cons_zero, List.getElem_cons_succ]
  refine wpAnyH_take (i := 9) (v := ?_) rfl (by kernel_rfl) (by kernel_rfl) (by kernel_rfl) (fun _ _ _ h => h) (Or.inl ⟨by rfl, ?_⟩) (by assumption) ?_
  rotate_left 1
  · (intro w hSw; (try dsimp only at hSw); go_simp; try with_reducible rfl)
  try simp only [Act.put, List.setIfInBounds_toArray, List.set_cons_zero, List.set_cons_succ, List.getElem_toArray, List.getElem_cons_zero, List.getElem_cons_succ]
  refine wpAnyH_ready (rs := [6]) (by kernel_rfl) (by simp) ?_
  refine (AllReadyH.cons rfl (fun K hK => ?_) AllReadyH.nil)
  go_simp
  go_at_call 27
  refine (HEN.out _ (hW.trans ((up_trans HB.out (up_drew (Below.refl _ _))).mono hW.size))).mono ?_
  rintro e w2 ⟨rfl, hb2⟩
  have hb2' : Below w1.heap.size w1 w2 := up_trans (up_drew (Below.refl _ _)) hb2
  have HZ2 := Lib.hid ((hb2'.block _ (lt_block HZ.out)).trans HZ.out)
  have HB2 := Lib.hid (up_trans HB.out hb2')
  have HS5 : Hid (w2.cell? ⟨FP, 2, none⟩ = some (.int .i64 rs) ∧ w2.cell? ⟨FP, 3, none⟩ = some (.slice s2 n2 c2) ∧ w2.cell? ⟨FP, 4, none⟩ = some (.int .i64 pos)) := Lib.hid ⟨(hb2'.cell (p := ⟨FP, 2, none⟩) (Nat.lt_trans HLW.out.1 HSZ.out)).trans HS0.out.1, (hb2'.cell (p := ⟨FP, 3, none⟩) (Nat.lt_trans HLW.out.2.1 HSZ.out)).trans HS0.out.2.1, (hb2'.cell (p := ⟨FP, 4, none⟩) (Nat.lt_trans HLW.out.2.2 HSZ.out)).trans HS0.out.2.2⟩
  clear hb2 hb2' hs0
  go_simp
  refine hK.out _ _ ?_ (fun hHeld => ?_)
  · (try dsimp only)
    exact HS5.out
  clear hK K
  try simp only [Act.put, List.setIfInBounds_toArray, List.set_cons_zero, List.set_cons_succ, List.getElem_toArray, List.getElem_cons_zero, List.getElem_cons_succ]
  refine wpAnyH_take (i := 7) (v := ?_) rfl (by kernel_rfl) (by kernel_rfl) (by kernel_rfl) (fun _ _ _ h => h) (Or.inl ⟨by rfl, ?_⟩) (by assumption) ?_
  rotate_left 1
  · (intro w hSw; (try dsimp only at hSw); go_simp; try with_reducible rfl)
  try simp only [Act.put, List.setIfInBounds_toArray, List.set_cons_zero, List.set_cons_succ, List.getElem_toArray, List.getElem_cons_zero, List.getElem_cons_succ]
  refine wpAnyH_ready (rs := [10]) (by kernel_rfl) (by simp) ?_
  refine (AllReadyH.cons rfl (fun K hK => ?_) AllReadyH.nil)
  go_simp
  go_at_call 26
  refine (HN.out _).mono ?_
  rintro e w3 ⟨rfl, hb3⟩
  have HZ3 := Lib.hid ((hb3.block _ (lt_block HZ2.out)).trans HZ2.out)
  have HB3 := Lib.hid (up_trans HB2.out hb3)
  have HS6 : Hid (w3.cell? ⟨FP, 2, none⟩ = some (.int .i64 rs) ∧ w3.cell? ⟨FP, 3, none⟩ = some (.slice s2 n2 c2) ∧ w3.cell? ⟨FP, 4, none⟩ = some (.int .i64 pos)) := Lib.hid ⟨(hb3.cell (p := ⟨FP, 2, none⟩) (lt_of_cell HS5.out.1)).trans HS5.out.1, (hb3.cell (p := ⟨FP, 3, none⟩) (lt_of_cell HS5.out.2.1)).trans HS5.out.2.1, (hb3.cell (p := ⟨FP, 4, none⟩) (lt_of_cell HS5.out.2.2)).trans HS5.out.2.2⟩
  clear hb3
  unfold fltV
  dsimp only
  go_simp
  refine hK.out _ _ ?_ (fun hHeld => ?_)
  · (try dsimp only)
    exact HS6.out
  clear hK K
  try simp only [Act.put, List.setIfInBounds_toArray, List.set_cons_zero, List.set_cons_succ, List.getElem_toArray, List.getElem_cons_zero, List.getElem_cons_succ]
  refine wpAnyH_done (by kernel_rfl) ?_ _
  dsimp only [TailQ]
  have r0 : w3.cell? ⟨W.heap.size, 0, none⟩ = some (.int .i64 0) := cell_of HZ3.out (j := 0) rfl
  have r1 : w3.cell? ⟨W.heap.size, 1, none⟩ = some (.int .i64 0) := cell_of HZ3.out (j := 1) rfl
  have k0 : w3.frozen? ⟨W.heap.size, 0, none⟩ = false := frozen_of HZ3.out 0
  have k1 : w3.frozen? ⟨W.heap.size, 1, none⟩ = false := frozen_of HZ3.out 1
  go_wp2_with fail
  refine bodyPost_ret (v := .agg #[.int .i64 fe, .int .i64 fa]) (by simp [results, Try.results25, go_sem, r0, r1]) rfl ⟨rfl, ?_⟩
  exact (HB3.out.setCell (p := ⟨W.heap.size, 0, none⟩) (Nat.le_refl _) _).setCell (p := ⟨W.heap.size, 1, none⟩) (Nat.le_refl _) _
theorem fclo_2 {W0 : World} {FP : Nat} {nm : ByteArray} {rs pos : Int} {s1 s2 : Option Addr} {n1 c1 n2 c2 : Nat} {l : List St} (hr : RepSts Any W0 (.slice s2 n2 c2) l) (hf : W0.heap[FP]? = some (.cells #[.string nm, .slice s1 n1 c1, .int .i64 rs, .slice s2 n2 c2, .int .i64 pos] 34 (0, 0))) : FnTells W0 (.func (.func 25) #[] #[.pointer (some ⟨FP, 0, none⟩)]) (noC (rs == 0 || endsC l) 54 pos) := by
  cases h : (rs == 0)
  · exact fclo_2n hr hf h
  · exact fclo_2z hf h
/-- the boxes of function's parameters, its result and the view's variable -/
structure BoxF (W : World) (cb vr CP FP RB VB : Nat) (cells : Array Value) : Prop where
  c : W.heap[CP]? = some (.cells #[.pointer (some ⟨cb, 0, none⟩)] 52 (0, 0))
  f : W.heap[FP]? = some (.cells cells 34 (0, 0))
  r : W.heap[RB]? = some (.cells #[.int .i64 0, .int .i64 0] 58 (0, 0))
  v : W.heap[VB]? = some (.cells #[.map (some vr)] 73 (0, 0))
theorem BoxF.keep {W W' : World} {k cb vr CP FP RB VB : Nat} {cells : Array Value} (h : BoxF W cb vr CP FP RB VB cells) (hb : On k W W') (hk : CP ≠ k ∧ FP ≠ k ∧ RB ≠ k ∧ VB ≠ k) : BoxF W' cb vr CP FP RB VB cells :=
  ⟨hb.obj hk.1 h.c, hb.obj hk.2.1 h.f, hb.obj hk.2.2.1 h.r, hb.obj hk.2.2.2 h.v⟩
theorem BoxF.below {W W' : World} {cb vr CP FP RB VB : Nat} {cells : Array Value} (h : BoxF W cb vr CP FP RB VB cells) (hb : Below W.heap.size W W') : BoxF W' cb vr CP FP RB VB cells :=
  ⟨(hb.block _ (lt_block h.c)).trans h.c, (hb.block _ (lt_block h.f)).trans h.f, (hb.block _ (lt_block h.r)).trans h.r, (hb.block _ (lt_block h.v)).trans h.v⟩
theorem On.set_new {k : Nat} {a b : World} (h : On k a b) {p : Addr} (hp : a.heap.size ≤ p.block) (u : Value) : On k a (b.setCell p u) :=
  ⟨h.os, h.tape, h.output, by simpa [World.setCell] using h.size, fun i hi hne => (Below.heap_setCell b p u i (fun e => by omega)).trans (h.block i hi hne)⟩
theorem put_new {α : Type} (m : List (ByteArray × α)) (k : ByteArray) (x : α) (h : lookL m k = none) : (putL m k x).length = m.length + 1 := by
  induction m with
  | nil => rfl
  | cons p m ih =>
    unfold lookL at h
    unfold putL
    by_cases e : p.1 = k
    · rw [if_pos e] at h; cases h
    · rw [if_neg e] at h
      rw [if_neg e, List.length_cons, ih h, List.length_cons]
theorem len_view {w : World} {r : Nat} {v : View} (h : ViewAt w r v) : (Builtin.len_ #[73] 3 #[.map (some r)]).run Try.prog w = .ok (.int .i64 (v.length : Int)) w := by
  obtain ⟨es, c, h1, h2⟩ := h
  rw [run_len_map w 73 3 r es c (by kernel_rfl) h1]
  have q := congrArg List.length h2
  simp at q
  rw [q]
  rfl
theorem pars_at (pos : Int) (l : List (ByteArray × Int)) (i : Nat) (hi : i < l.length) (v : View) : paramsC pos (l.drop i) v = if (lookL v (l.getD i default).1).isSome then ((53, pos), v) else if (l.getD i default).2 < 1 ∨ 3 < (l.getD i default).2 then ((51, pos), v) else paramsC pos (l.drop (i + 1)) (putL v (l.getD i default).1 ((l.getD i default).2, false)) := by
  rw [List.drop_eq_getElem_cons hi, paramsC, List.getD_eq_getElem?_getD, List.getElem?_eq_getElem hi]
  rfl
theorem func_bad {F : Funs} {f : Fn} {v : View} {q : Flt} (h : paramsC f.pos f.params [] = (q, v)) (hq : ¬ q.1 = 0) : funcC F f = q := by
  unfold funcC
  rw [h]
  simp [hq]
theorem func_res {F : Funs} {f : Fn} {v : View} (h : paramsC f.pos f.params [] = (okF, v)) (hq : f.result < 0 ∨ 3 < f.result) : funcC F f = (51, f.pos) := by
  unfold funcC
  rw [h]
  simp [hq, okF]
theorem func_many {F : Funs} {f : Fn} {v : View} (h : paramsC f.pos f.params [] = (okF, v)) (hq : ¬ (f.result < 0 ∨ 3 < f.result)) (hm : 16 < f.params.length ∨ 64 < wrap64 (f.params.length + namedC 0 f.body)) : funcC F f = (2, f.pos) := by
  unfold funcC
  rw [h]
  simp only [okF, ne_eq, not_true, if_false]
  rw [if_neg hq, if_pos hm]
theorem func_ok {F : Funs} {f : Fn} {v : View} (h : paramsC f.pos f.params [] = (okF, v)) (hq : ¬ (f.result < 0 ∨ 3 < f.result)) (hm : ¬ (16 < f.params.length ∨ 64 < wrap64 (f.params.length + namedC 0 f.body))) : funcC F f = firstF [blockC F f.result f.body v, noC (f.result == 0 || endsC f.body) 54 f.pos] := by
  unfold funcC
  rw [h]
  simp only [okF, ne_eq, not_true, if_false]
  rw [if_neg hq, if_neg hm]
  unfold firstF firstF firstF
  rw [or_ok (noC_clean _ _ _ (by decide))]
set_option maxRecDepth 100000 in
set_option maxHeartbeats 4000000 in
theorem func_ck (cb N fr : Nat) (F : Funs) (hF : ∀ p, p ∈ F → p.2.params.length ≤ 100000) (m : List (ByteArray × Value)) (f : Fn) (w : World) (res0 : Int) (hN : N ≤ cb) (hfr : fr ≠ cb) (hob : w.heap[cb]? = some (.cells #[.map (some fr), .int .i64 res0] 55 (0, 0))) (hm : MapAt w fr m) (hfun : ∀ W, Stays (fun b => b < N) w W → FunR W m F) (nm : ByteArray) (s1 : Option Addr) (n1 c1 : Nat) (rs : Int) (s2 : Option Addr) (n2 c2 : Nat) (pos : Int) (hr : RepFn (fun b => b < N) w [.string nm, .slice s1 n1 c1, .int .i64 rs, .slice s2 n2 c2, .int .i64 pos] f) : Calls Try.prog 15 #[.pointer (some ⟨cb, 0, none⟩), .agg #[.string nm, .slice s1 n1 c1, .int .i64 rs, .slice s2 n2 c2, .int .i64 pos]] w fun e w' => e = .returned (fltV (funcC F f)) ∧ On cb w w' ∧ ∃ res2, w'.heap[cb]? = some (.cells #[.map (some fr), .int .i64 res2] 55 (0, 0)) := by
  obtain ⟨vp, vb, hcs, hpa, hbo⟩ := hr
  simp only [List.cons.injEq, Value.int.injEq, Value.string.injEq, true_and, and_true] at hcs
  obtain ⟨rfl, rfl, rfl, rfl, rfl⟩ := hcs
  obtain ⟨cs, ⟨s0, cap, hv0, hle, hcm, _, hrow, hsz⟩, hit⟩ := hpa
  injection hv0 with ha hb2 hc2
  subst ha hb2 hc2
  have HROW := Lib.hid hrow
  have HIT := Lib.hid hit
  have HCM := Lib.hid (And.intro hle hcm)
  have HBO := Lib.hid hbo
  have HOB := Lib.hid hob
  have HM := Lib.hid hm
  have HFN := Lib.hid hfun
  have HN0 := Lib.hid (And.intro hN hfr)
  have hcbl := lt_block hob
  have HF := Lib.hid hF
  generalize hC : funcC F f = C
  have HC := Lib.hid hC.symm
  obtain ⟨PC, hPC⟩ : ∃ PC, PC = paramsC f.pos f.params [] := ⟨_, rfl⟩
  have HPC := Lib.hid hPC
  have HB : Hid (Below w.heap.size w (((((w.alloc (.cells #[.pointer (some ⟨cb, 0, none⟩)] 52)).alloc (.cells #[.string f.name, .slice s1 f.params.length c1, .int .i64 f.result, .slice s2 n2 c2, .int .i64 f.pos] 34)).alloc (.cells #[.int .i64 0, .int .i64 0] 58)).alloc (.map #[] 0)).alloc (.cells #[.map (some (w.heap.size + 3))] 73))) := Lib.hid (up_alloc (up_alloc (up_alloc (up_alloc (up_alloc (Below.refl _ _) _) _) _) _) _)
  have HBX : Hid (BoxF (((((w.alloc (.cells #[.pointer (some ⟨cb, 0, none⟩)] 52)).alloc (.cells #[.string f.name, .slice s1 f.params.length c1, .int .i64 f.result, .slice s2 n2 c2, .int .i64 f.pos] 34)).alloc (.cells #[.int .i64 0, .int .i64 0] 58)).alloc (.map #[] 0)).alloc (.cells #[.map (some (w.heap.size + 3))] 73)) cb (w.heap.size + 3) w.heap.size (w.heap.size + 1) (w.heap.size + 2) (w.heap.size + 4) #[.string f.name, .slice s1 f.params.length c1, .int .i64 f.result, .slice s2 n2 c2, .int .i64 f.pos]) := Lib.hid ⟨old_heap _ _ _ _ (old_heap _ _ _ _ (old_heap _ _ _ _ (old_heap _ _ _ _ (new_heap _ _ _ rfl)))), old_heap _ _ _ _ (old_heap _ _ _ _ (old_heap _ _ _ _ (new_heap _ _ _ (size_alloc _ _)))), old_heap _ _ _ _ (old_heap _ _ _ _ (new_heap _ _ _ (by rw [size_alloc, size_alloc]))), new_heap _ _ _ (by rw [size_alloc, size_alloc, size_alloc, size_alloc])⟩
  have HV : Hid (ViewAt (((((w.alloc (.cells #[.pointer (some ⟨cb, 0, none⟩)] 52)).alloc (.cells #[.string f.name, .slice s1 f.params.length c1, .int .i64 f.result, .slice s2 n2 c2, .int .i64 f.pos] 34)).alloc (.cells #[.int .i64 0, .int .i64 0] 58)).alloc (.map #[] 0)).alloc (.cells #[.map (some (w.heap.size + 3))] 73)) (w.heap.size + 3) []) := Lib.hid ⟨#[], 0, old_heap _ _ _ _ (new_heap _ _ _ (by rw [size_alloc, size_alloc, size_alloc])), rfl⟩
  clear hrow hit hsz hle hcm hbo hob hm hfun hN hfr hC hF hPC
  have hmm := @run_makeMap Try.prog
  have HCB := Lib.hid hcbl
  have HML := Lib.hid HM.out.lt
  clear hcbl
  go_enter Try.func15, Try.ntmps15
  go_upto_region 2 with fail
  clear hmm
  generalize (((((w.alloc (.cells #[.pointer (some ⟨cb, 0, none⟩)] 52)).alloc (.cells #[.string f.name, .slice s1 f.params.length c1, .int .i64 f.result, .slice s2 n2 c2, .int .i64 f.pos] 34)).alloc (.cells #[.int .i64 0, .int .i64 0] 58)).alloc (.map #[] 0)).alloc (.cells #[.map (some (w.heap.size + 3))] 73)) = w1 at *
  generalize hVB : w.heap.size + 4 = VB at *
  generalize hVR : w.heap.size + 3 = VR at *
  generalize hRB : w.heap.size + 2 = RB at *
  generalize hFP : w.heap.size + 1 = FP at *
  generalize hCP : w.heap.size = CP at *
  have HAD := Lib.hid (And.intro hCP (And.intro hFP (And.intro hRB (And.intro hVR hVB))))
  clear hVB hVR hRB hFP hCP
  have f1 : w1.cell? ⟨FP, 1, none⟩ = some (.slice s1 f.params.length c1) := cell_of HBX.out.f (j := 1) rfl
  go_wp2_with fail
  clear f1
  go_loopg [14] f.params.length (fun g t14 wr => ∃ (i : Nat) (v : View), i + g = f.params.length ∧ t14 = .int .i64 (i : Int) ∧ PC = paramsC f.pos (f.params.drop i) v ∧ v.length = i ∧ ViewAt wr VR v ∧ Below CP w wr ∧ BoxF wr cb VR CP FP RB VB #[.string f.name, .slice s1 f.params.length c1, .int .i64 f.result, .slice s2 n2 c2, .int .i64 f.pos])
  case atStart => exact ⟨0, [], Nat.zero_add _, rfl, HPC.out, rfl, HV.out, HB.out, HBX.out⟩
  case round =>
    obtain ⟨i, v, hig, rfl, hpc, hvl, hv, hb, hbx⟩ := hrel
    have HCR : Hid (cb ≠ RB) := Lib.hid (by have := HCB.out; have := HAD.out; omega)
    have HRB : Hid (CP ≤ RB) := Lib.hid (by have := HAD.out; omega)
    have HPCI := Lib.hid hpc
    have HVL := Lib.hid hvl
    have HVI := Lib.hid hv
    clear HBX HB HV
    have HB := Lib.hid hb
    have HBX := Lib.hid hbx
    clear hpc hvl hv hb hbx
    by_cases hil : i < f.params.length
    · obtain ⟨hle2, hcm2⟩ := HCM.out
      unfold maxLen at hcm2
      have g1 : (i : Int) < (f.params.length : Int) := by omega
      have g3 : (0 : Int) ≤ (i : Int) := by omega
      obtain ⟨b, off, hs0, hSb, hbl, hcell⟩ := HROW.out (by omega)
      subst hs0
      have hrep := HIT.out i hil
      unfold RepPa at hrep
      have hc2 : ∀ j, j < 2 → wr.cell? ⟨b, off + i * 2 + j, none⟩ = (cs i)[j]? := fun j hj => (HB.out.cell (p := ⟨b, _, none⟩) hbl).trans (hcell i hil j hj)
      rw [hrep] at hc2
      have HAT := Lib.hid (HPCI.out.trans (pars_at f.pos f.params i hil v))
      generalize f.params.getD i default = q at *
      obtain ⟨pn, pt⟩ := q
      dsimp only at HAT hc2
      have x0 : wr.cell? ⟨b, off + i * 2, none⟩ = some (.string pn) := hc2 0 (by decide)
      have x1 : wr.cell? ⟨b, off + i * 2 + 1, none⟩ = some (.int .i64 pt) := hc2 1 (by decide)
      have v0 : (wr.alloc (.cells #[.string pn, .int .i64 pt] 50)).cell? ⟨VB, 0, none⟩ = some (.map (some VR)) := old_cell _ (cell_of HBX.out.v (j := 0) rfl)
      have hlk := look_view (HVI.out.below (up_alloc (Below.refl _ _) (.cells #[.string pn, .int .i64 pt] 50))) pn
      generalize hnm : (lookL v pn).getD (0, false) = nv at *
      generalize his : (lookL v pn).isSome = is at *
      obtain ⟨nt, nf⟩ := nv
      unfold nmV at hlk
      dsimp only at hlk
      clear hc2 hrep hcell
      go_upto_region 6 with fail
      have hb3 : Below wr.heap.size wr ((wr.alloc (.cells #[.string pn, .int .i64 pt] 50)).alloc (.cells #[.int .i64 nt, .bool nf] 75)) := up_alloc (up_alloc (Below.refl _ _) _) _
      have HPB : Hid (((wr.alloc (.cells #[.string pn, .int .i64 pt] 50)).alloc (.cells #[.int .i64 nt, .bool nf] 75)).heap[wr.heap.size]? = some (.cells #[.string pn, .int .i64 pt] 50 (0, 0))) := Lib.hid (old_heap _ _ _ _ (new_heap _ _ _ rfl))
      have HBX0 := HBX
      replace HBX := Lib.hid (HBX.out.below hb3)
      replace HVI := Lib.hid (HVI.out.below hb3)
      replace HB := Lib.hid (HB.out.trans (hb3.mono (Nat.le_of_lt (lt_block HBX0.out.c))))
      clear HBX0 hb3 hlk x0 x1 v0
      generalize ((wr.alloc (.cells #[.string pn, .int .i64 pt] 50)).alloc (.cells #[.int .i64 nt, .bool nf] 75)) = w3 at *
      generalize wr.heap.size = PB at *
      cases is
      · have y0 : w3.cell? ⟨PB, 0, none⟩ = some (.string pn) := cell_of HPB.out (j := 0) rfl
        have y1 : w3.cell? ⟨PB, 1, none⟩ = some (.int .i64 pt) := cell_of HPB.out (j := 1) rfl
        replace HAT := Lib.hid (HAT.out.trans (if_neg (by simp)))
        by_cases ht : pt < 1 ∨ 3 < pt
        · have HCE := Lib.hid (HC.out.trans (func_bad (q := (51, f.pos)) (v := v) (HPC.out.symm.trans (HAT.out.trans (if_pos ht))) (by simp)))
          have f4 : w3.cell? ⟨FP, 4, none⟩ = some (.int .i64 f.pos) := cell_of HBX.out.f (j := 4) rfl
          have r0 : w3.cell? ⟨RB, 0, none⟩ = some (.int .i64 0) := cell_of HBX.out.r (j := 0) rfl
          have r1 : w3.cell? ⟨RB, 1, none⟩ = some (.int .i64 0) := cell_of HBX.out.r (j := 1) rfl
          have k0 : w3.frozen? ⟨RB, 0, none⟩ = false := frozen_of HBX.out.r 0
          have k1 : w3.frozen? ⟨RB, 1, none⟩ = false := frozen_of HBX.out.r 1
          rcases ht with ht | ht
          · go_wp2_with fail
            have hfin : On cb w _ := On.of_below (by rw [HAD.out.1]; exact (HB.out.setCell (p := ⟨RB, 0, none⟩) HRB.out (.int .i64 51)).setCell (p := ⟨RB, 1, none⟩) HRB.out (.int .i64 f.pos))
            refine bodyPost_ret (v := .agg #[.int .i64 51, .int .i64 f.pos]) (by simp [results, Try.results15, go_sem, r0, r1]) rfl ⟨by rw [HCE.out]; rfl, hfin, res0, ?_⟩
            exact (setCell_heap _ _ _ _ HCR.out).trans ((setCell_heap _ _ _ _ HCR.out).trans ((HB.out.block _ HCB.out).trans HOB.out))
          have ht2 : ¬ pt < 1 := by omega
          go_wp2_with fail
          have hfin : On cb w _ := On.of_below (by rw [HAD.out.1]; exact (HB.out.setCell (p := ⟨RB, 0, none⟩) HRB.out (.int .i64 51)).setCell (p := ⟨RB, 1, none⟩) HRB.out (.int .i64 f.pos))
          refine bodyPost_ret (v := .agg #[.int .i64 51, .int .i64 f.pos]) (by simp [results, Try.results15, go_sem, r0, r1]) rfl ⟨by rw [HCE.out]; rfl, hfin, res0, ?_⟩
          exact (setCell_heap _ _ _ _ HCR.out).trans ((setCell_heap _ _ _ _ HCR.out).trans ((HB.out.block _ HCB.out).trans HOB.out))
        replace HAT := Lib.hid (HAT.out.trans (if_neg ht))
        have ht1 : ¬ pt < 1 := fun q => ht (Or.inl q)
        have ht2 : ¬ 3 < pt := fun q => ht (Or.inr q)
        clear ht
        have v0 : w3.cell? ⟨VB, 0, none⟩ = some (.map (some VR)) := cell_of HBX.out.v (j := 0) rfl
        have hp := run_putS HVI.out und_view und_str pn (nmV (pt, false))
        have HPV := Lib.hid (put_view HVI.out pn (pt, false))
        have HPO := Lib.hid (putW_on w3 VR pn (nmV (pt, false)))
        unfold nmV at hp HPV HPO
        dsimp only at hp HPV HPO
        go_wp2_with fail
        go_roundg (f.params.length - i - 1)
        case measure => omega
        case rel => exact ⟨i + 1, _, by omega, rfl, HAT.out, by rw [put_new _ _ _ (by cases q : lookL v pn; rfl; rw [q] at his; cases his), HVL.out], HPV.out, by have q := HPO.out.base (B := w) (by rw [HAD.out.1]; exact HB.out) (by have := HAD.out; omega); rw [HAD.out.1] at q; exact q, HBX.out.keep HPO.out (by have := HAD.out; omega)⟩
      have HCE := Lib.hid (HC.out.trans (func_bad (q := (53, f.pos)) (v := v) (HPC.out.symm.trans (HAT.out.trans (if_pos rfl))) (by simp)))
      have f4 : w3.cell? ⟨FP, 4, none⟩ = some (.int .i64 f.pos) := cell_of HBX.out.f (j := 4) rfl
      have r0 : w3.cell? ⟨RB, 0, none⟩ = some (.int .i64 0) := cell_of HBX.out.r (j := 0) rfl
      have r1 : w3.cell? ⟨RB, 1, none⟩ = some (.int .i64 0) := cell_of HBX.out.r (j := 1) rfl
      have k0 : w3.frozen? ⟨RB, 0, none⟩ = false := frozen_of HBX.out.r 0
      have k1 : w3.frozen? ⟨RB, 1, none⟩ = false := frozen_of HBX.out.r 1
      go_wp2_with fail
      have hfin : On cb w _ := On.of_below (by rw [HAD.out.1]; exact (HB.out.setCell (p := ⟨RB, 0, none⟩) HRB.out (.int .i64 53)).setCell (p := ⟨RB, 1, none⟩) HRB.out (.int .i64 f.pos))
      refine bodyPost_ret (v := .agg #[.int .i64 53, .int .i64 f.pos]) (by simp [results, Try.results15, go_sem, r0, r1]) rfl ⟨by rw [HCE.out]; rfl, hfin, res0, ?_⟩
      exact (setCell_heap _ _ _ _ HCR.out).trans ((setCell_heap _ _ _ _ HCR.out).trans ((HB.out.block _ HCB.out).trans HOB.out))
    obtain rfl : i = f.params.length := by omega
    have g1 : ¬ (f.params.length : Int) < (f.params.length : Int) := by omega
    replace HPCI := Lib.hid (HPC.out.symm.trans (HPCI.out.trans (by rw [List.drop_eq_nil_of_le (Nat.le_refl _), paramsC] : _ = (okF, v))))
    have f2 : wr.cell? ⟨FP, 2, none⟩ = some (.int .i64 f.result) := cell_of HBX.out.f (j := 2) rfl
    by_cases hr : f.result < 0 ∨ 3 < f.result
    · have HCE := Lib.hid (HC.out.trans (func_res HPCI.out hr))
      have f4 : wr.cell? ⟨FP, 4, none⟩ = some (.int .i64 f.pos) := cell_of HBX.out.f (j := 4) rfl
      have r0 : wr.cell? ⟨RB, 0, none⟩ = some (.int .i64 0) := cell_of HBX.out.r (j := 0) rfl
      have r1 : wr.cell? ⟨RB, 1, none⟩ = some (.int .i64 0) := cell_of HBX.out.r (j := 1) rfl
      have k0 : wr.frozen? ⟨RB, 0, none⟩ = false := frozen_of HBX.out.r 0
      have k1 : wr.frozen? ⟨RB, 1, none⟩ = false := frozen_of HBX.out.r 1
      rcases hr with hr | hr
      · go_wp2_with fail
        have hfin : On cb w _ := On.of_below (by rw [HAD.out.1]; exact (HB.out.setCell (p := ⟨RB, 0, none⟩) HRB.out (.int .i64 51)).setCell (p := ⟨RB, 1, none⟩) HRB.out (.int .i64 f.pos))
        refine bodyPost_ret (v := .agg #[.int .i64 51, .int .i64 f.pos]) (by simp [results, Try.results15, go_sem, r0, r1]) rfl ⟨by rw [HCE.out]; rfl, hfin, res0, ?_⟩
        exact (setCell_heap _ _ _ _ HCR.out).trans ((setCell_heap _ _ _ _ HCR.out).trans ((HB.out.block _ HCB.out).trans HOB.out))
      have hr2 : ¬ f.result < 0 := by omega
      go_wp2_with fail
      have hfin : On cb w _ := On.of_below (by rw [HAD.out.1]; exact (HB.out.setCell (p := ⟨RB, 0, none⟩) HRB.out (.int .i64 51)).setCell (p := ⟨RB, 1, none⟩) HRB.out (.int .i64 f.pos))
      refine bodyPost_ret (v := .agg #[.int .i64 51, .int .i64 f.pos]) (by simp [results, Try.results15, go_sem, r0, r1]) rfl ⟨by rw [HCE.out]; rfl, hfin, res0, ?_⟩
      exact (setCell_heap _ _ _ _ HCR.out).trans ((setCell_heap _ _ _ _ HCR.out).trans ((HB.out.block _ HCB.out).trans HOB.out))
    have HR := Lib.hid hr
    have hr1 : ¬ f.result < 0 := fun q => hr (Or.inl q)
    have hr2 : ¬ 3 < f.result := fun q => hr (Or.inr q)
    clear hr
    have v0 : wr.cell? ⟨VB, 0, none⟩ = some (.map (some VR)) := cell_of HBX.out.v (j := 0) rfl
    have hlen := len_view HVI.out
    rw [HVL.out] at hlen
    by_cases h16 : (16 : Int) < (f.params.length : Int)
    · have HCE := Lib.hid (HC.out.trans (func_many HPCI.out HR.out (Or.inl (by omega))))
      have f4 : wr.cell? ⟨FP, 4, none⟩ = some (.int .i64 f.pos) := cell_of HBX.out.f (j := 4) rfl
      have r0 : wr.cell? ⟨RB, 0, none⟩ = some (.int .i64 0) := cell_of HBX.out.r (j := 0) rfl
      have r1 : wr.cell? ⟨RB, 1, none⟩ = some (.int .i64 0) := cell_of HBX.out.r (j := 1) rfl
      have k0 : wr.frozen? ⟨RB, 0, none⟩ = false := frozen_of HBX.out.r 0
      have k1 : wr.frozen? ⟨RB, 1, none⟩ = false := frozen_of HBX.out.r 1
      go_wp2_with fail
      have hfin : On cb w _ := On.of_below (by rw [HAD.out.1]; exact (HB.out.setCell (p := ⟨RB, 0, none⟩) HRB.out (.int .i64 2)).setCell (p := ⟨RB, 1, none⟩) HRB.out (.int .i64 f.pos))
      refine bodyPost_ret (v := .agg #[.int .i64 2, .int .i64 f.pos]) (by simp [results, Try.results15, go_sem, r0, r1]) rfl ⟨by rw [HCE.out]; rfl, hfin, res0, ?_⟩
      exact (setCell_heap _ _ _ _ HCR.out).trans ((setCell_heap _ _ _ _ HCR.out).trans ((HB.out.block _ HCB.out).trans HOB.out))
    have f3 : wr.cell? ⟨FP, 3, none⟩ = some (.slice s2 n2 c2) := cell_of HBX.out.f (j := 3) rfl
    have HST : Hid (Stays (fun b => b < N) w wr) := Lib.hid (Stays.of_below (by rw [HAD.out.1]; exact HB.out))
    have HNA := Lib.hid (named_any f.body wr _ ((HBO.out.keep HST.out).mono (fun _ _ => trivial)))
    have H16 := Lib.hid h16
    generalize hz : namedC 0 f.body = z at *
    have HZ := Lib.hid hz
    clear hz
    go_wp2_with fail
    refine HNA.out.mono ?_
    rintro e w4 ⟨rfl, hb4⟩
    have HBX0 := HBX
    replace HBX := Lib.hid (HBX.out.below hb4)
    replace HVI := Lib.hid (HVI.out.below hb4)
    replace HB := Lib.hid (HB.out.trans (hb4.mono (Nat.le_of_lt (lt_block HBX0.out.c))))
    clear HBX0 hb4 hlen v0 f3 f2 HST
    by_cases h64 : (64 : Int) < wrap64 ((f.params.length : Int) + z)
    · have HCE := Lib.hid (HC.out.trans (func_many HPCI.out HR.out (Or.inr (by rw [HZ.out]; exact h64))))
      have f4 : w4.cell? ⟨FP, 4, none⟩ = some (.int .i64 f.pos) := cell_of HBX.out.f (j := 4) rfl
      have r0 : w4.cell? ⟨RB, 0, none⟩ = some (.int .i64 0) := cell_of HBX.out.r (j := 0) rfl
      have r1 : w4.cell? ⟨RB, 1, none⟩ = some (.int .i64 0) := cell_of HBX.out.r (j := 1) rfl
      have k0 : w4.frozen? ⟨RB, 0, none⟩ = false := frozen_of HBX.out.r 0
      have k1 : w4.frozen? ⟨RB, 1, none⟩ = false := frozen_of HBX.out.r 1
      go_wp2_with fail
      have hfin : On cb w _ := On.of_below (by rw [HAD.out.1]; exact (HB.out.setCell (p := ⟨RB, 0, none⟩) HRB.out (.int .i64 2)).setCell (p := ⟨RB, 1, none⟩) HRB.out (.int .i64 f.pos))
      refine bodyPost_ret (v := .agg #[.int .i64 2, .int .i64 f.pos]) (by simp [results, Try.results15, go_sem, r0, r1]) rfl ⟨by rw [HCE.out]; rfl, hfin, res0, ?_⟩
      exact (setCell_heap _ _ _ _ HCR.out).trans ((setCell_heap _ _ _ _ HCR.out).trans ((HB.out.block _ HCB.out).trans HOB.out))
    replace HC := Lib.hid (HC.out.trans (func_ok HPCI.out HR.out (by rw [HZ.out]; exact fun q => q.elim (fun q => by have := H16.out; omega) h64)))
    have f2 : w4.cell? ⟨FP, 2, none⟩ = some (.int .i64 f.result) := cell_of HBX.out.f (j := 2) rfl
    have c0 : w4.cell? ⟨CP, 0, none⟩ = some (.pointer (some ⟨cb, 0, none⟩)) := cell_of HBX.out.c (j := 0) rfl
    have HO4 := Lib.hid ((HB.out.block _ HCB.out).trans HOB.out)
    have o1 : w4.cell? ⟨cb, 1, none⟩ = some (.int .i64 res0) := cell_of HO4.out (j := 1) rfl
    have k1 : w4.frozen? ⟨cb, 1, none⟩ = false := frozen_of HO4.out 1
    go_upto_region 19 with fail
    have HO5 : Hid ((w4.setCell ⟨cb, 1, none⟩ (.int .i64 f.result)).heap[cb]? = some (.cells #[.map (some fr), .int .i64 f.result] 55 (0, 0))) := Lib.hid (setCell_obj HO4.out 1 _)
    have HON : Hid (On cb w (w4.setCell ⟨cb, 1, none⟩ (.int .i64 f.result))) := Lib.hid ((On.of_below (by rw [HAD.out.1]; exact HB.out)).set 1 _)
    have HBX5 : Hid (BoxF (w4.setCell ⟨cb, 1, none⟩ (.int .i64 f.result)) cb VR CP FP RB VB _) := Lib.hid (HBX.out.keep ((On.refl cb w4).set 1 _) (by have := HCB.out; have := HAD.out; omega))
    have HV5 : Hid (ViewAt (w4.setCell ⟨cb, 1, none⟩ (.int .i64 f.result)) VR v) := Lib.hid (view_set HVI.out HO4.out 1 _)
    clear f2 c0 o1 k1 HBX HVI HB HO4
    generalize (w4.setCell ⟨cb, 1, none⟩ (.int .i64 f.result)) = w5 at *
    have HST : Hid (Stays (fun b => b < N) w w5) := Lib.hid (Stays.of_ne HON.out (fun q => absurd HN0.out.1 (Nat.not_le_of_lt q)))
    have HCX : Hid (CtxAt w5 cb F f.result VR v) := Lib.hid ⟨⟨fr, HO5.out, m, HM.out.keep (HON.out.block _ (by rw [HAD.out.1]; exact HML.out) (fun e => HN0.out.2 (by injection e))), HFN.out _ HST.out⟩, HV5.out⟩
    have HFNS := Lib.hid (fns2 (fclo_1 (fun x _ => stmt_ck cb F f.result HF.out x) HCX.out ((HBO.out.keep HST.out).mono (fun _ _ => trivial)) HBX5.out.c HBX5.out.f HBX5.out.v) (fclo_2 ((HBO.out.keep HST.out).mono (fun _ _ => trivial)) HBX5.out.f) w5 (Below.refl _ _) 80)
    generalize hq : firstF [blockC F f.result f.body v, noC (f.result == 0 || endsC f.body) 54 f.pos] = q at *
    obtain ⟨fe, fa⟩ := q
    have HFC := Lib.hid (first_ck _ _ _ HFNS.out)
    rw [hq] at HFC
    clear hq HFNS
    unfold fltV at HFC
    dsimp only at HFC
    go_wp2_with fail
    refine HFC.out.mono ?_
    rintro e w6 ⟨rfl, hb6⟩
    have hb6' : Below w5.heap.size w5 w6 := up_trans (up_alloc (Below.refl _ _) _) hb6
    have HBX := Lib.hid (HBX5.out.below hb6')
    have HON6 := Lib.hid (HON.out.trans (On.of_below hb6' : On cb w5 w6))
    have HO6 := Lib.hid ((hb6'.block _ (lt_block HO5.out)).trans HO5.out)
    clear hb6 hb6'
    have r0 : w6.cell? ⟨RB, 0, none⟩ = some (.int .i64 0) := cell_of HBX.out.r (j := 0) rfl
    have r1 : w6.cell? ⟨RB, 1, none⟩ = some (.int .i64 0) := cell_of HBX.out.r (j := 1) rfl
    have k0 : w6.frozen? ⟨RB, 0, none⟩ = false := frozen_of HBX.out.r 0
    have k1 : w6.frozen? ⟨RB, 1, none⟩ = false := frozen_of HBX.out.r 1
    go_wp2_with fail
    refine bodyPost_ret (v := .agg #[.int .i64 fe, .int .i64 fa]) (by simp [results, Try.results15, go_sem, r0, r1]) rfl ⟨by rw [HC.out]; rfl, (HON6.out.set_new (p := ⟨RB, 0, none⟩) (by rw [HAD.out.1]; exact HRB.out) _).set_new (p := ⟨RB, 1, none⟩) (by rw [HAD.out.1]; exact HRB.out) _, f.result, ?_⟩
    exact (setCell_heap _ _ _ _ HCR.out).trans ((setCell_heap _ _ _ _ HCR.out).trans HO6.out)
end Go.Proofs.Ytpiamiaigjlafaa
