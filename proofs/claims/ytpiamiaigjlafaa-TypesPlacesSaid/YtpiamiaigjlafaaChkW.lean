/-
  What stands behind a statement, and what is wrong with it..
-/
import Derived.Test.YtpiamiaigjlafaaChkH
namespace Go.Proofs.Ytpiamiaigjlafaa
open Go.RowKit

/-- the boxes of stmt's parameters and its result -/
structure BoxA (W : World) (cb vr CP SP VP RB : Nat) (cells : Array Value) : Prop where
  c : W.heap[CP]? = some (.cells #[.pointer (some ⟨cb, 0, none⟩)] 52 (0, 0))
  s : W.heap[SP]? = some (.cells cells 46 (0, 0))
  v : W.heap[VP]? = some (.cells #[.map (some vr)] 73 (0, 0))
  r : W.heap[RB]? = some (.cells #[.int .i64 0, .int .i64 0] 58 (0, 0))
theorem BoxA.below {W W' : World} {cb vr CP SP VP RB : Nat} {cells : Array Value} (h : BoxA W cb vr CP SP VP RB cells) (hb : Below W.heap.size W W') : BoxA W' cb vr CP SP VP RB cells :=
  ⟨(hb.block _ (lt_block h.c)).trans h.c, (hb.block _ (lt_block h.s)).trans h.s, (hb.block _ (lt_block h.v)).trans h.v, (hb.block _ (lt_block h.r)).trans h.r⟩
theorem BoxA.set {W : World} {cb vr CP SP VP RB : Nat} {cells : Array Value} (h : BoxA W cb vr CP SP VP RB cells) (FP j : Nat) (u : Value) (hn : CP ≠ FP ∧ SP ≠ FP ∧ VP ≠ FP ∧ RB ≠ FP) : BoxA (W.setCell ⟨FP, j, none⟩ u) cb vr CP SP VP RB cells :=
  ⟨(setCell_heap _ _ _ _ hn.1).trans h.c, (setCell_heap _ _ _ _ hn.2.1).trans h.s, (setCell_heap _ _ _ _ hn.2.2.1).trans h.v, (setCell_heap _ _ _ _ hn.2.2.2).trans h.r⟩
def S8 (VP vr CP cb SP xb xoff n1 c1 : Nat) (xop xnum : Int) (xt : ByteArray) (xs : Option Addr) (xn xc : Nat) (xpos : Int) (W : World) : Prop :=
  W.cell? ⟨VP, 0, none⟩ = some (.map (some vr)) ∧ W.cell? ⟨CP, 0, none⟩ = some (.pointer (some ⟨cb, 0, none⟩)) ∧ W.cell? ⟨SP, 2, none⟩ = some (.slice (some ⟨xb, xoff, none⟩) n1 c1) ∧ W.cell? ⟨xb, xoff, none⟩ = some (.int .i64 xop) ∧ W.cell? ⟨xb, xoff + 1, none⟩ = some (.int .i64 xnum) ∧ W.cell? ⟨xb, xoff + 2, none⟩ = some (.string xt) ∧ W.cell? ⟨xb, xoff + 3, none⟩ = some (.slice xs xn xc) ∧ W.cell? ⟨xb, xoff + 4, none⟩ = some (.int .i64 xpos)
theorem S8.below {VP vr CP cb SP xb xoff n1 c1 : Nat} {xop xnum : Int} {xt : ByteArray} {xs : Option Addr} {xn xc : Nat} {xpos : Int} {W W' : World} (h : S8 VP vr CP cb SP xb xoff n1 c1 xop xnum xt xs xn xc xpos W) (hb : Below W.heap.size W W') : S8 VP vr CP cb SP xb xoff n1 c1 xop xnum xt xs xn xc xpos W' := by
  obtain ⟨a, b, c, d, e, f, g, h⟩ := h
  exact ⟨(hb.cell (lt_of_cell a)).trans a, (hb.cell (lt_of_cell b)).trans b, (hb.cell (lt_of_cell c)).trans c, (hb.cell (lt_of_cell d)).trans d, (hb.cell (lt_of_cell e)).trans e, (hb.cell (lt_of_cell f)).trans f, (hb.cell (lt_of_cell g)).trans g, (hb.cell (lt_of_cell h)).trans h⟩
/-- what stands behind all orders is shown once -/
theorem shared {P : Prop} {G : Nat → Nat → World → Prop} (T : Nat → Nat → World → Prop) (h1 : (∀ a b w, T a b w → G a b w) → P) (h2 : ∀ a b w, T a b w → G a b w) : P := h1 h2
theorem fns3 {w : World} {x y z : Value} {f g h : Flt} (hx : FnTells w x f) (hy : FnTells w y g) (hz : FnTells w z h) (W : World) (hb : Below w.heap.size w W) (t : TypeId) : FnsAt (W.alloc (.cells #[x, y, z] t)) (.slice (some ⟨W.heap.size, 0, none⟩) 3 3) [f, g, h] := by
  have hb2 : Below w.heap.size w (W.alloc (.cells #[x, y, z] t)) := hb.trans ((up_alloc (Below.refl W.heap.size W) _).mono hb.size)
  refine ⟨W.heap.size, 0, 3, rfl, by rw [size_alloc]; exact Nat.lt_succ_self _, by show (3 : Nat) ≤ 1000; decide, fun i hi => ?_⟩
  have hi3 : i < 3 := hi
  rw [Nat.zero_add]
  rcases (show i = 0 ∨ i = 1 ∨ i = 2 by omega) with rfl | rfl | rfl
  · exact ⟨x, new_cell _ _ _ _ _ _ rfl rfl, hx.below hb2⟩
  · exact ⟨y, new_cell _ _ _ _ _ _ rfl rfl, hy.below hb2⟩
  · exact ⟨z, new_cell _ _ _ _ _ _ rfl rfl, hz.below hb2⟩
theorem fns2 {w : World} {x y : Value} {f g : Flt} (hx : FnTells w x f) (hy : FnTells w y g) (W : World) (hb : Below w.heap.size w W) (t : TypeId) : FnsAt (W.alloc (.cells #[x, y] t)) (.slice (some ⟨W.heap.size, 0, none⟩) 2 2) [f, g] := by
  have hb2 : Below w.heap.size w (W.alloc (.cells #[x, y] t)) := hb.trans ((up_alloc (Below.refl W.heap.size W) _).mono hb.size)
  refine ⟨W.heap.size, 0, 2, rfl, by rw [size_alloc]; exact Nat.lt_succ_self _, by show (2 : Nat) ≤ 1000; decide, fun i hi => ?_⟩
  have hi2 : i < 2 := hi
  rw [Nat.zero_add]
  rcases (show i = 0 ∨ i = 1 by omega) with rfl | rfl
  · exact ⟨x, new_cell _ _ _ _ _ _ rfl rfl, hx.below hb2⟩
  · exact ⟨y, new_cell _ _ _ _ _ _ rfl rfl, hy.below hb2⟩
theorem or_ok {h : Flt} (hc : h.1 = 0 → h = okF) : orF h okF = h := by
  unfold orF
  split
  · rfl
  · rename_i g
    exact (hc (by simpa using g)).symm
theorem block_clean (F : Funs) (res : Int) (l : List St) (v : View) : (blockC F res l v).1 = 0 → blockC F res l v = okF := by
  induction l generalizing v with
  | nil => intro _; rw [blockC]
  | cons s l ih =>
    rw [blockC]
    split
    · rename_i g; intro h; exact absurd h g
    · exact ih _
theorem st_bad (F : Funs) (res op : Int) (text : ByteArray) (es : List Ex) (body els : List St) (pos : Int) (v : View) (h : shapedC (.mk op text es body els pos) = false) : stmtC F res (.mk op text es body els pos) v = (v, (51, pos)) := by
  rw [stmtC, if_pos h]
theorem st_3 (F : Funs) (res : Int) (text : ByteArray) (es : List Ex) (body els : List St) (pos : Int) (v : View) (h : shapedC (.mk 3 text es body els pos) = true) : stmtC F res (.mk 3 text es body els pos) v = (v, firstF [mustC F v (es.headD default) 2, blockC F res body v, blockC F res els v]) := by
  rw [stmtC, if_neg (by rw [h]; simp)]
  unfold firstF firstF firstF firstF
  rw [or_ok (block_clean F res els v)]
  rfl
theorem must_clean (F : Funs) (v : View) (x : Ex) (t : Int) : (mustC F v x t).1 = 0 → mustC F v x t = okF := by
  unfold mustC mustOf
  split
  · rename_i g; intro h; exact absurd h g
  · unfold noC
    split
    · intro _; rfl
    · intro h; exact absurd h (by simp)
theorem st_4 (F : Funs) (res : Int) (text : ByteArray) (es : List Ex) (body els : List St) (pos : Int) (v : View) (is : Bool) (hi : (lookL v text).isSome = is) (h : shapedC (.mk 4 text es body els pos) = true) : stmtC F res (.mk 4 text es body els pos) v = (v, firstF [allC F v es [1, 1], noC (!is) 53 pos, blockC F res body (putL v text (1, true))]) := by
  rw [stmtC, if_neg (by rw [h]; simp), hi]
  unfold firstF firstF firstF firstF
  rw [or_ok (block_clean F res body _)]
  rfl
theorem st_2 (F : Funs) (res : Int) (text : ByteArray) (es : List Ex) (body els : List St) (pos : Int) (v : View) (is : Bool) (nt : Int) (nf : Bool) (hi : (lookL v text).isSome = is) (hn : (lookL v text).getD (0, false) = (nt, nf)) (h : shapedC (.mk 2 text es body els pos) = true) : stmtC F res (.mk 2 text es body els pos) v = (v, firstF [noC is 52 pos, noC (!nf) 51 pos, mustC F v (es.headD default) nt]) := by
  rw [stmtC, if_neg (by rw [h]; simp), hi, hn]
  unfold firstF firstF firstF firstF
  rw [or_ok (must_clean F v _ nt)]
  rfl
theorem noC_clean (b : Bool) (e p : Int) (he : ¬ e = 0) : (noC b e p).1 = 0 → noC b e p = okF := by
  unfold noC
  split
  · intro _; rfl
  · intro h; exact absurd h he
theorem st_8 (F : Funs) (res : Int) (text : ByteArray) (es : List Ex) (body els : List St) (pos : Int) (v : View) (h : shapedC (.mk 8 text es body els pos) = true) : stmtC F res (.mk 8 text es body els pos) v = (v, firstF [(exprC F v (es.headD default)).2, noC ((es.headD default).op == 5) 51 (es.headD default).pos]) := by
  rw [stmtC, if_neg (by rw [h]; simp)]
  unfold firstF firstF firstF
  rw [or_ok (noC_clean _ _ _ (by decide))]
  rfl
theorem shape_le {op : Int} {n b o : Nat} (h : shapeB op n b o = true) : n ≤ 2 := by
  unfold shapeB at h
  repeat' split at h
  all_goals (simp at h; try omega)
theorem st_else (F : Funs) (res op : Int) (text : ByteArray) (es : List Ex) (body els : List St) (pos : Int) (v : View) (h1 : ¬ op = 1) (h2 : ¬ op = 2) (h3 : ¬ op = 3) (h4 : ¬ op = 4) (h5 : ¬ op = 5) (h8 : ¬ op = 8) (h : shapedC (.mk op text es body els pos) = true) : stmtC F res (.mk op text es body els pos) v = (v, allC F v es [3, 3]) := by
  rw [stmtC, if_neg (by rw [h]; simp)]
  simp only [h1, h2, h3, h4, h5, h8, if_false]
theorem st_5a (F : Funs) (res : Int) (text : ByteArray) (es : List Ex) (body els : List St) (pos : Int) (v : View) (hl : es.length = 0) (h : shapedC (.mk 5 text es body els pos) = true) : stmtC F res (.mk 5 text es body els pos) v = (v, noC (res == 0) 51 pos) := by
  rw [stmtC, if_neg (by rw [h]; simp)]
  simp [hl]
theorem st_5b (F : Funs) (res : Int) (text : ByteArray) (es : List Ex) (body els : List St) (pos : Int) (v : View) (hl : ¬ es.length = 0) (h : shapedC (.mk 5 text es body els pos) = true) : stmtC F res (.mk 5 text es body els pos) v = (v, firstF [(exprC F v (es.headD default)).2, noC ((exprC F v (es.headD default)).1 == res && (exprC F v (es.headD default)).1 != 0) 51 (es.headD default).pos]) := by
  rw [stmtC, if_neg (by rw [h]; simp)]
  unfold firstF firstF firstF
  rw [or_ok (noC_clean _ _ _ (by decide))]
  simp [hl]
theorem st_1 (F : Funs) (res : Int) (text : ByteArray) (es : List Ex) (body els : List St) (pos : Int) (v : View) (is : Bool) (hi : (lookL v text).isSome = is) (h : shapedC (.mk 1 text es body els pos) = true) : stmtC F res (.mk 1 text es body els pos) v = (putL v text ((exprC F v (es.headD default)).1, false), firstF [(exprC F v (es.headD default)).2, noC ((exprC F v (es.headD default)).1 != 0) 51 (es.headD default).pos, noC (!is) 53 pos]) := by
  rw [stmtC, if_neg (by rw [h]; simp), hi]
  unfold firstF firstF firstF firstF
  rw [or_ok (noC_clean _ _ _ (by decide))]
  rfl
set_option maxRecDepth 100000 in
set_option maxHeartbeats 8000000 in
theorem stmt_step (cb : Nat) (F : Funs) (res : Int) (hx : ∀ x, ExCk cb F res x) (op' : Int) (text' : ByteArray) (es : List Ex) (body els : List St) (pos' : Int) (hsb : ∀ x, x ∈ body → StCk cb F res x) (hse : ∀ x, x ∈ els → StCk cb F res x) : StCk cb F res (.mk op' text' es body els pos') := by
  intro v vr w op text s1 n1 c1 s2 n2 c2 s3 n3 c3 pos h hr
  obtain ⟨ve, vb, vl, e, he, hb, hle⟩ := hr.parts
  simp only [List.cons.injEq, Value.int.injEq, Value.string.injEq, true_and, and_true] at e
  obtain ⟨rfl, rfl, rfl, rfl, rfl, rfl⟩ := e
  have hn1 : n1 = es.length := by obtain ⟨_, ⟨_, _, e, _⟩, _⟩ := he; injection e
  have hn2 : n2 = body.length := by obtain ⟨_, ⟨_, _, e, _⟩, _⟩ := hb; injection e
  have hn3 : n3 = els.length := by obtain ⟨_, ⟨_, _, e, _⟩, _⟩ := hle; injection e
  have HCT := Lib.hid h
  have HEX := Lib.hid hx
  have HSB := Lib.hid hsb
  have HSE := Lib.hid hse
  have HES := Lib.hid he
  have HBO := Lib.hid hb
  have HEL := Lib.hid hle
  generalize hC : stmtC F res (.mk op text es body els pos) v = C
  have HSH : Hid (shapedC (.mk op text es body els pos) = shapeB op n1 n2 n3) := Lib.hid (by rw [shaped_is, hn1, hn2, hn3]; rfl)
  have HC := Lib.hid hC.symm
  have HN := Lib.hid (And.intro hn1 (And.intro hn2 hn3))
  clear h hr hx hsb hse he hb hle hC hn1 hn2 hn3
  have HB : Hid (Below w.heap.size w ((((w.alloc (.cells #[.pointer (some ⟨cb, 0, none⟩)] 52)).alloc (.cells #[.int .i64 op, .string text, .slice s1 n1 c1, .slice s2 n2 c2, .slice s3 n3 c3, .int .i64 pos] 46)).alloc (.cells #[.map (some vr)] 73)).alloc (.cells #[.int .i64 0, .int .i64 0] 58))) := Lib.hid (up_alloc (up_alloc (up_alloc (up_alloc (Below.refl _ _) _) _) _) _)
  have HBX : Hid (BoxA ((((w.alloc (.cells #[.pointer (some ⟨cb, 0, none⟩)] 52)).alloc (.cells #[.int .i64 op, .string text, .slice s1 n1 c1, .slice s2 n2 c2, .slice s3 n3 c3, .int .i64 pos] 46)).alloc (.cells #[.map (some vr)] 73)).alloc (.cells #[.int .i64 0, .int .i64 0] 58)) cb vr w.heap.size (w.heap.size + 1) (w.heap.size + 2) (w.heap.size + 3) #[.int .i64 op, .string text, .slice s1 n1 c1, .slice s2 n2 c2, .slice s3 n3 c3, .int .i64 pos]) := Lib.hid ⟨old_heap _ _ _ _ (old_heap _ _ _ _ (old_heap _ _ _ _ (new_heap _ _ _ rfl))), old_heap _ _ _ _ (old_heap _ _ _ _ (new_heap _ _ _ (size_alloc _ _))), old_heap _ _ _ _ (new_heap _ _ _ (by rw [size_alloc, size_alloc])), new_heap _ _ _ (by rw [size_alloc, size_alloc, size_alloc])⟩
  go_enter Try.func39, Try.ntmps39
  go_upto_region 1 with fail
  generalize ((((w.alloc (.cells #[.pointer (some ⟨cb, 0, none⟩)] 52)).alloc (.cells #[.int .i64 op, .string text, .slice s1 n1 c1, .slice s2 n2 c2, .slice s3 n3 c3, .int .i64 pos] 46)).alloc (.cells #[.map (some vr)] 73)).alloc (.cells #[.int .i64 0, .int .i64 0] 58)) = w1 at *
  generalize hRB : w.heap.size + 3 = RB at *
  generalize hVP : w.heap.size + 2 = VP at *
  generalize hSP : w.heap.size + 1 = SP at *
  generalize hCP : w.heap.size = CP at *
  have HXR : Hid (w.heap.size = CP ∧ CP < RB ∧ CP ≤ RB) := Lib.hid ⟨hCP, by omega, by omega⟩
  have HNE : Hid (¬ RB = CP ∧ ¬ RB = SP ∧ ¬ RB = VP) := Lib.hid ⟨by omega, by omega, by omega⟩
  clear hRB hVP hSP hCP
  have s0 : w1.cell? ⟨SP, 0, none⟩ = some (.int .i64 op) := cell_of HBX.out.s (j := 0) rfl
  have q1 : w1.cell? ⟨SP, 1, none⟩ = some (.string text) := cell_of HBX.out.s (j := 1) rfl
  have q2 : w1.cell? ⟨SP, 2, none⟩ = some (.slice s1 n1 c1) := cell_of HBX.out.s (j := 2) rfl
  have q3 : w1.cell? ⟨SP, 3, none⟩ = some (.slice s2 n2 c2) := cell_of HBX.out.s (j := 3) rfl
  have s4 : w1.cell? ⟨SP, 4, none⟩ = some (.slice s3 n3 c3) := cell_of HBX.out.s (j := 4) rfl
  have s5 : w1.cell? ⟨SP, 5, none⟩ = some (.int .i64 pos) := cell_of HBX.out.s (j := 5) rfl
  go_wp2_with fail
  refine (shaped_any op pos text s1 s2 s3 n1 n2 n3 c1 c2 c3 _).mono ?_
  rintro e w2 ⟨rfl, hb2⟩
  clear s0 q1 q2 q3 s4 s5
  have HB0 := HBX
  replace HBX := Lib.hid (HBX.out.below hb2)
  replace HB := Lib.hid (HB.out.trans (hb2.mono (Nat.le_of_lt (lt_block HB0.out.c))))
  clear HB0
  clear hb2
  generalize hsh : shapeB op n1 n2 n3 = sh at *
  cases sh
  · have HE := Lib.hid (HC.out.trans (st_bad F res op text es body els pos v HSH.out))
    have s5 : w2.cell? ⟨SP, 5, none⟩ = some (.int .i64 pos) := cell_of HBX.out.s (j := 5) rfl
    have v0 : w2.cell? ⟨VP, 0, none⟩ = some (.map (some vr)) := cell_of HBX.out.v (j := 0) rfl
    have r0 : w2.cell? ⟨RB, 0, none⟩ = some (.int .i64 0) := cell_of HBX.out.r (j := 0) rfl
    have r1 : w2.cell? ⟨RB, 1, none⟩ = some (.int .i64 0) := cell_of HBX.out.r (j := 1) rfl
    have k0 : w2.frozen? ⟨RB, 0, none⟩ = false := frozen_of HBX.out.r 0
    have k1 : w2.frozen? ⟨RB, 1, none⟩ = false := frozen_of HBX.out.r 1
    go_upto_region 2 with fail
    go_region
    go_wp2_with fail
    have hfin := (HB.out.setCell (p := ⟨RB, 0, none⟩) HXR.out.2.2 (.int .i64 51)).setCell (p := ⟨RB, 1, none⟩) HXR.out.2.2 (.int .i64 pos)
    rw [← HXR.out.1] at hfin
    replace hfin := hfin.drew
    refine bodyPost_ret (v := .tuple #[.map (some vr), .agg #[.int .i64 51, .int .i64 pos]]) (by simp [results, Try.results39, go_sem, r0, r1]) rfl ⟨vr, by rw [HE.out]; rfl, ?_, hfin⟩
    rw [HE.out]
    exact HCT.out.view.below hfin
  have q1 : w2.cell? ⟨SP, 1, none⟩ = some (.string text) := cell_of HBX.out.s (j := 1) rfl
  have v0 : w2.cell? ⟨VP, 0, none⟩ = some (.map (some vr)) := cell_of HBX.out.v (j := 0) rfl
  have hlk := look_view (HCT.out.view.below (by rw [HXR.out.1]; exact HB.out)) text
  generalize hnm : (lookL v text).getD (0, false) = nm at *
  generalize his : (lookL v text).isSome = is at *
  obtain ⟨nt, nf⟩ := nm
  unfold nmV at hlk
  dsimp only at hlk
  go_upto_region 4 with fail
  have hb3 : Below w2.heap.size w2 ((w2.alloc (.cells #[.int .i64 nt, .bool nf] 75)).alloc (.cells #[.bool is] 4)) := up_alloc (up_alloc (Below.refl _ _) _) _
  have HNB : Hid (((w2.alloc (.cells #[.int .i64 nt, .bool nf] 75)).alloc (.cells #[.bool is] 4)).heap[w2.heap.size]? = some (.cells #[.int .i64 nt, .bool nf] 75 (0, 0))) := Lib.hid (old_heap _ _ _ _ (new_heap _ _ _ rfl))
  have HTB : Hid (((w2.alloc (.cells #[.int .i64 nt, .bool nf] 75)).alloc (.cells #[.bool is] 4)).heap[w2.heap.size + 1]? = some (.cells #[.bool is] 4 (0, 0))) := Lib.hid (new_heap _ _ _ (size_alloc _ _))
  have HB0 := HBX
  replace HBX := Lib.hid (HBX.out.below hb3)
  replace HB := Lib.hid (HB.out.trans (hb3.mono (Nat.le_of_lt (lt_block HB0.out.c))))
  clear HB0
  clear hb3 hlk q1 v0
  generalize ((w2.alloc (.cells #[.int .i64 nt, .bool nf] 75)).alloc (.cells #[.bool is] 4)) = w3 at *
  generalize w2.heap.size + 1 = TB at *
  generalize w2.heap.size = NB at *
  have HCX := Lib.hid (HCT.out.below (by rw [HXR.out.1]; exact HB.out))
  have HST : Hid (Stays Any w w3) := Lib.hid (Stays.of_below (by rw [HXR.out.1]; exact HB.out))
  by_cases h3 : op = 3
  · subst h3
    have s0 : w3.cell? ⟨SP, 0, none⟩ = some (.int .i64 3) := cell_of HBX.out.s (j := 0) rfl
    have hn0 : 0 < n1 := by have q : (n1 == 1) = true := hsh; have := eq_of_beq q; omega
    go_upto_region 13 with fail
    clear s0
    have HE := Lib.hid (HC.out.trans (st_3 F res text es body els pos v HSH.out))
    have HFN := Lib.hid (fns3 (clo_7 HCX.out HBX.out.c HBX.out.v (by rw [← HN.out.1]; exact hn0) (HES.out.keep HST.out) (HEX.out _) HBX.out.s) (clo_8 HSB.out HCX.out (HBO.out.keep HST.out) HBX.out.c HBX.out.s HBX.out.v) (clo_9 HSE.out HCX.out (HEL.out.keep HST.out) HBX.out.c HBX.out.s HBX.out.v) w3.drew (Below.refl _ _).drew 80)
    generalize hq : firstF [mustC F v (es.headD default) 2, blockC F res body v, blockC F res els v] = q at *
    obtain ⟨fe, fa⟩ := q
    have HFC := Lib.hid (first_ck _ _ _ HFN.out)
    rw [hq] at HFC
    clear hq HFN
    unfold fltV at HFC
    dsimp only at HFC
    have HS0 : Hid (w3.drew.cell? ⟨VP, 0, none⟩ = some (.map (some vr))) := Lib.hid (cell_of HBX.out.v (j := 0) rfl)
    have hs0 := HS0.out
    refine wp_region_split (S := (fun w' : World => w'.cell? ⟨VP, 0, none⟩ = some (.map (some vr)))) 6 (by kernel_rfl) (by kernel_rfl) (by exact HS0.out) (fun hHeld => ?_)
    simp only [List.take_succ_cons, List.take_zero, List.drop_succ_cons, List.drop_zero]
    refine wpAnyH_take (i := 0) (v := ?_) rfl (by kernel_rfl) (by kernel_rfl) (by kernel_rfl) (fun _ _ _ h => h) (Or.inl ⟨by rfl, ?_⟩) (by assumption) ?_
    rotate_left 1
    · (intro w hSw; (try dsimp only at hSw); go_simp; try with_reducible rfl)
    try simp only [Act.put, List.setIfInBounds_toArray, List.set_cons_zero, List.set_cons_succ, List.getElem_toArray, List.getElem_cons_zero]
    refine wpAnyH_take (i := 1) (v := ?_) rfl (by kernel_rfl) (by kernel_rfl) (by kernel_rfl) (fun _ _ _ h => h) (Or.inl ⟨by rfl, ?_⟩) (by assumption) ?_
    rotate_left 1
    · (intro w hSw; (try dsimp only at hSw); go_simp; try with_reducible rfl)
    try simp only [Act.put, List.setIfInBounds_toArray, List.set_cons_zero, List.set_cons_succ, List.getElem_toArray, List.getElem_cons_zero, List.getElem_cons_succ]
    refine wpAnyH_take (i := 2) (v := ?_) rfl (by kernel_rfl) (by kernel_rfl) (by kernel_rfl) (fun _ _ _ h => h) (Or.inl ⟨by rfl, ?_⟩) (by assumption) ?_
    rotate_left 1
    · (intro w hSw; (try dsimp only at hSw); go_simp; try with_reducible rfl)
    try simp only [Act.put, List.setIfInBounds_toArray, List.set_cons_zero, List.set_cons_succ, List.getElem_toArray, List.getElem_cons_zero, List.getElem_cons_succ]
    refine wpAnyH_take (i := 3) (v := ?_) rfl (by kernel_rfl) (by kernel_rfl) (by kernel_rfl) (fun _ _ _ h => h) (Or.inl ⟨by rfl, ?_⟩) (by assumption) ?_
    rotate_left 1
    · (intro w hSw; (try dsimp only at hSw); go_simp; try with_reducible rfl)
    try simp only [Act.put, List.setIfInBounds_toArray, List.set_cons_zero, List.set_cons_succ, List.getElem_toArray, List.getElem_cons_zero, List.getElem_cons_succ]
    refine wpAnyH_ready (rs := [4]) (by kernel_rfl) (by simp) ?_
    refine (AllReadyH.cons rfl (fun K hK => ?_) AllReadyH.nil)
    go_simp
    refine hK.out _ _ ?_ (fun hHeld => ?_)
    · (try dsimp only)
      exact old_cell _ HS0.out
    clear hK K
    try simp only [Act.put, List.setIfInBounds_toArray, List.set_cons_zero, List.set_cons_succ, List.getElem_toArray, List.getElem_cons_zero, List.getElem_cons_succ]
    refine wpAnyH_ready (rs := [5]) (by kernel_rfl) (by simp) ?_
    refine (AllReadyH.cons rfl (fun K hK => ?_) AllReadyH.nil)
    go_simp
    go_at_call 22
    refine HFC.out.mono ?_
    rintro e w5 ⟨rfl, hb5⟩
    have hb5' : Below w3.heap.size w3 w5 := up_trans (up_alloc (up_drew (Below.refl _ _)) _) hb5
    have HB0 := HBX
    replace HBX := Lib.hid (HBX.out.below hb5')
    replace HB := Lib.hid (HB.out.trans (hb5'.mono (Nat.le_of_lt (lt_block HB0.out.c))))
    clear HB0
    have HS5 : Hid (w5.cell? ⟨VP, 0, none⟩ = some (.map (some vr))) := Lib.hid (cell_of HBX.out.v (j := 0) rfl)
    clear hb5 hb5' hs0
    go_simp
    refine hK.out _ _ ?_ (fun hHeld => ?_)
    · (try dsimp only)
      exact HS5.out
    clear hK K
    try simp only [Act.put, List.setIfInBounds_toArray, List.set_cons_zero, List.set_cons_succ, List.getElem_toArray, List.getElem_cons_zero, List.getElem_cons_succ]
    refine wpAnyH_done (by kernel_rfl) ?_ _
    dsimp only [TailQ]
    have r0 : w5.cell? ⟨RB, 0, none⟩ = some (.int .i64 0) := cell_of HBX.out.r (j := 0) rfl
    have r1 : w5.cell? ⟨RB, 1, none⟩ = some (.int .i64 0) := cell_of HBX.out.r (j := 1) rfl
    have k0 : w5.frozen? ⟨RB, 0, none⟩ = false := frozen_of HBX.out.r 0
    have k1 : w5.frozen? ⟨RB, 1, none⟩ = false := frozen_of HBX.out.r 1
    go_wp2_with fail
    have hfin := (HB.out.setCell (p := ⟨RB, 0, none⟩) HXR.out.2.2 (.int .i64 fe)).setCell (p := ⟨RB, 1, none⟩) HXR.out.2.2 (.int .i64 fa)
    rw [← HXR.out.1] at hfin
    refine bodyPost_ret (v := .tuple #[.map (some vr), .agg #[.int .i64 fe, .int .i64 fa]]) (by simp [results, Try.results39, go_sem, r0, r1]) rfl ⟨vr, by rw [HE.out]; rfl, ?_, hfin⟩
    rw [HE.out]
    exact HCT.out.view.below hfin
  by_cases h4 : op = 4
  · subst h4
    have s0 : w3.cell? ⟨SP, 0, none⟩ = some (.int .i64 4) := cell_of HBX.out.s (j := 0) rfl
    have hn2 : n1 = 2 := by have q : (n1 == 2 && n3 == 0) = true := hsh; rw [Bool.and_eq_true] at q; exact eq_of_beq q.1
    go_upto_region 15 with fail
    clear s0
    have HE := Lib.hid (HC.out.trans (st_4 F res text es body els pos v is his HSH.out))
    have HFN := Lib.hid (fns3 (clo_10 (fun x _ => HEX.out x) (by rw [← HN.out.1]; omega) HCX.out (HES.out.keep HST.out) HBX.out.c HBX.out.s HBX.out.v) (clo_11 HTB.out HBX.out.s) (clo_12 HCX.out HBX.out.c HBX.out.v HSB.out (HBO.out.keep HST.out) HBX.out.s) w3.drew (Below.refl _ _).drew 80)
    generalize hq : firstF [allC F v es [1, 1], noC (!is) 53 pos, blockC F res body (putL v text (1, true))] = q at *
    obtain ⟨fe, fa⟩ := q
    have HFC := Lib.hid (first_ck _ _ _ HFN.out)
    rw [hq] at HFC
    clear hq HFN
    unfold fltV at HFC
    dsimp only at HFC
    have HS0 : Hid (w3.drew.cell? ⟨VP, 0, none⟩ = some (.map (some vr))) := Lib.hid (cell_of HBX.out.v (j := 0) rfl)
    have hs0 := HS0.out
    refine wp_region_split (S := (fun w' : World => w'.cell? ⟨VP, 0, none⟩ = some (.map (some vr)))) 6 (by kernel_rfl) (by kernel_rfl) (by exact HS0.out) (fun hHeld => ?_)
    simp only [List.take_succ_cons, List.take_zero, List.drop_succ_cons, List.drop_zero]
    refine wpAnyH_take (i := 0) (v := ?_) rfl (by kernel_rfl) (by kernel_rfl) (by kernel_rfl) (fun _ _ _ h => h) (Or.inl ⟨by rfl, ?_⟩) (by assumption) ?_
    rotate_left 1
    · (intro w hSw; (try dsimp only at hSw); go_simp; try with_reducible rfl)
    try simp only [Act.put, List.setIfInBounds_toArray, List.set_cons_zero, List.set_cons_succ, List.getElem_toArray, List.getElem_cons_zero]
    refine wpAnyH_take (i := 1) (v := ?_) rfl (by kernel_rfl) (by kernel_rfl) (by kernel_rfl) (fun _ _ _ h => h) (Or.inl ⟨by rfl, ?_⟩) (by assumption) ?_
    rotate_left 1
    · (intro w hSw; (try dsimp only at hSw); go_simp; try with_reducible rfl)
    try simp only [Act.put, List.setIfInBounds_toArray, List.set_cons_zero, List.set_cons_succ, List.getElem_toArray, List.getElem_cons_zero, List.getElem_cons_succ]
    refine wpAnyH_take (i := 2) (v := ?_) rfl (by kernel_rfl) (by kernel_rfl) (by kernel_rfl) (fun _ _ _ h => h) (Or.inl ⟨by rfl, ?_⟩) (by assumption) ?_
    rotate_left 1
    · (intro w hSw; (try dsimp only at hSw); go_simp; try with_reducible rfl)
    try simp only [Act.put, List.setIfInBounds_toArray, List.set_cons_zero, List.set_cons_succ, List.getElem_toArray, List.getElem_cons_zero, List.getElem_cons_succ]
    refine wpAnyH_take (i := 3) (v := ?_) rfl (by kernel_rfl) (by kernel_rfl) (by kernel_rfl) (fun _ _ _ h => h) (Or.inl ⟨by rfl, ?_⟩) (by assumption) ?_
    rotate_left 1
    · (intro w hSw; (try dsimp only at hSw); go_simp; try with_reducible rfl)
    try simp only [Act.put, List.setIfInBounds_toArray, List.set_cons_zero, List.set_cons_succ, List.getElem_toArray, List.getElem_cons_zero, List.getElem_cons_succ]
    refine wpAnyH_ready (rs := [4]) (by kernel_rfl) (by simp) ?_
    refine (AllReadyH.cons rfl (fun K hK => ?_) AllReadyH.nil)
    go_simp
    refine hK.out _ _ ?_ (fun hHeld => ?_)
    · (try dsimp only)
      exact old_cell _ HS0.out
    clear hK K
    try simp only [Act.put, List.setIfInBounds_toArray, List.set_cons_zero, List.set_cons_succ, List.getElem_toArray, List.getElem_cons_zero, List.getElem_cons_succ]
    refine wpAnyH_ready (rs := [5]) (by kernel_rfl) (by simp) ?_
    refine (AllReadyH.cons rfl (fun K hK => ?_) AllReadyH.nil)
    go_simp
    go_at_call 22
    refine HFC.out.mono ?_
    rintro e w5 ⟨rfl, hb5⟩
    have hb5' : Below w3.heap.size w3 w5 := up_trans (up_alloc (up_drew (Below.refl _ _)) _) hb5
    have HB0 := HBX
    replace HBX := Lib.hid (HBX.out.below hb5')
    replace HB := Lib.hid (HB.out.trans (hb5'.mono (Nat.le_of_lt (lt_block HB0.out.c))))
    clear HB0
    have HS5 : Hid (w5.cell? ⟨VP, 0, none⟩ = some (.map (some vr))) := Lib.hid (cell_of HBX.out.v (j := 0) rfl)
    clear hb5 hb5' hs0
    go_simp
    refine hK.out _ _ ?_ (fun hHeld => ?_)
    · (try dsimp only)
      exact HS5.out
    clear hK K
    try simp only [Act.put, List.setIfInBounds_toArray, List.set_cons_zero, List.set_cons_succ, List.getElem_toArray, List.getElem_cons_zero, List.getElem_cons_succ]
    refine wpAnyH_done (by kernel_rfl) ?_ _
    dsimp only [TailQ]
    have r0 : w5.cell? ⟨RB, 0, none⟩ = some (.int .i64 0) := cell_of HBX.out.r (j := 0) rfl
    have r1 : w5.cell? ⟨RB, 1, none⟩ = some (.int .i64 0) := cell_of HBX.out.r (j := 1) rfl
    have k0 : w5.frozen? ⟨RB, 0, none⟩ = false := frozen_of HBX.out.r 0
    have k1 : w5.frozen? ⟨RB, 1, none⟩ = false := frozen_of HBX.out.r 1
    go_wp2_with fail
    have hfin := (HB.out.setCell (p := ⟨RB, 0, none⟩) HXR.out.2.2 (.int .i64 fe)).setCell (p := ⟨RB, 1, none⟩) HXR.out.2.2 (.int .i64 fa)
    rw [← HXR.out.1] at hfin
    refine bodyPost_ret (v := .tuple #[.map (some vr), .agg #[.int .i64 fe, .int .i64 fa]]) (by simp [results, Try.results39, go_sem, r0, r1]) rfl ⟨vr, by rw [HE.out]; rfl, ?_, hfin⟩
    rw [HE.out]
    exact HCT.out.view.below hfin
  by_cases h2 : op = 2
  · subst h2
    have s0 : w3.cell? ⟨SP, 0, none⟩ = some (.int .i64 2) := cell_of HBX.out.s (j := 0) rfl
    have q1 : w3.cell? ⟨SP, 1, none⟩ = some (.string text) := cell_of HBX.out.s (j := 1) rfl
    have v0 : w3.cell? ⟨VP, 0, none⟩ = some (.map (some vr)) := cell_of HBX.out.v (j := 0) rfl
    have hn0 : 0 < n1 := by have q : (n1 == 1 && n2 == 0 && n3 == 0) = true := hsh; rw [Bool.and_eq_true, Bool.and_eq_true] at q; have := eq_of_beq q.1.1; omega
    have hlk := look_view HCX.out.view text
    rw [hnm, his] at hlk
    unfold nmV at hlk
    dsimp only at hlk
    go_upto_region 11 with fail
    have hb4 : Below w3.heap.size w3 ((w3.alloc (.cells #[.int .i64 nt, .bool nf] 75)).alloc (.cells #[.bool is] 4)) := up_alloc (up_alloc (Below.refl _ _) _) _
    have HNM : Hid (((w3.alloc (.cells #[.int .i64 nt, .bool nf] 75)).alloc (.cells #[.bool is] 4)).heap[w3.heap.size]? = some (.cells #[.int .i64 nt, .bool nf] 75 (0, 0))) := Lib.hid (old_heap _ _ _ _ (new_heap _ _ _ rfl))
    have HTM : Hid (((w3.alloc (.cells #[.int .i64 nt, .bool nf] 75)).alloc (.cells #[.bool is] 4)).heap[w3.heap.size + 1]? = some (.cells #[.bool is] 4 (0, 0))) := Lib.hid (new_heap _ _ _ (size_alloc _ _))
    have HB0 := HBX
    replace HBX := Lib.hid (HBX.out.below hb4)
    replace HB := Lib.hid (HB.out.trans (hb4.mono (Nat.le_of_lt (lt_block HB0.out.c))))
    clear HB0
    clear hb4 hlk q1 v0 s0 HNB HTB HCX HST
    generalize ((w3.alloc (.cells #[.int .i64 nt, .bool nf] 75)).alloc (.cells #[.bool is] 4)) = w4 at *
    generalize w3.heap.size + 1 = TM at *
    generalize w3.heap.size = NM at *
    have HCX := Lib.hid (HCT.out.below (by rw [HXR.out.1]; exact HB.out))
    have HST : Hid (Stays Any w w4) := Lib.hid (Stays.of_below (by rw [HXR.out.1]; exact HB.out))
    have HE := Lib.hid (HC.out.trans (st_2 F res text es body els pos v is nt nf his hnm HSH.out))
    have HFN := Lib.hid (fns3 (clo_4 HTM.out HBX.out.s) (clo_5 HNM.out HBX.out.s) (clo_6 HCX.out HBX.out.c HBX.out.v (by rw [← HN.out.1]; exact hn0) (HES.out.keep HST.out) (HEX.out _) HBX.out.s HNM.out) w4.drew (Below.refl _ _).drew 80)
    generalize hq : firstF [noC is 52 pos, noC (!nf) 51 pos, mustC F v (es.headD default) nt] = q at *
    obtain ⟨fe, fa⟩ := q
    have HFC := Lib.hid (first_ck _ _ _ HFN.out)
    rw [hq] at HFC
    clear hq HFN
    unfold fltV at HFC
    dsimp only at HFC
    have HS0 : Hid (w4.drew.cell? ⟨VP, 0, none⟩ = some (.map (some vr))) := Lib.hid (cell_of HBX.out.v (j := 0) rfl)
    have hs0 := HS0.out
    refine wp_region_split (S := (fun w' : World => w'.cell? ⟨VP, 0, none⟩ = some (.map (some vr)))) 6 (by kernel_rfl) (by kernel_rfl) (by exact HS0.out) (fun hHeld => ?_)
    simp only [List.take_succ_cons, List.take_zero, List.drop_succ_cons, List.drop_zero]
    refine wpAnyH_take (i := 0) (v := ?_) rfl (by kernel_rfl) (by kernel_rfl) (by kernel_rfl) (fun _ _ _ h => h) (Or.inl ⟨by rfl, ?_⟩) (by assumption) ?_
    rotate_left 1
    · (intro w hSw; (try dsimp only at hSw); go_simp; try with_reducible rfl)
    try simp only [Act.put, List.setIfInBounds_toArray, List.set_cons_zero, List.set_cons_succ, List.getElem_toArray, List.getElem_cons_zero]
    refine wpAnyH_take (i := 1) (v := ?_) rfl (by kernel_rfl) (by kernel_rfl) (by kernel_rfl) (fun _ _ _ h => h) (Or.inl ⟨by rfl, ?_⟩) (by assumption) ?_
    rotate_left 1
    · (intro w hSw; (try dsimp only at hSw); go_simp; try with_reducible rfl)
    try simp only [Act.put, List.setIfInBounds_toArray, List.set_cons_zero, List.set_cons_succ, List.getElem_toArray, List.getElem_cons_zero, List.getElem_cons_succ]
    refine wpAnyH_take (i := 2) (v := ?_) rfl (by kernel_rfl) (by kernel_rfl) (by kernel_rfl) (fun _ _ _ h => h) (Or.inl ⟨by rfl, ?_⟩) (by assumption) ?_
    rotate_left 1
    · (intro w hSw; (try dsimp only at hSw); go_simp; try with_reducible rfl)
    try simp only [Act.put, List.setIfInBounds_toArray, List.set_cons_zero, List.set_cons_succ, List.getElem_toArray, List.getElem_cons_zero, List.getElem_cons_succ]
    refine wpAnyH_take (i := 3) (v := ?_) rfl (by kernel_rfl) (by kernel_rfl) (by kernel_rfl) (fun _ _ _ h => h) (Or.inl ⟨by rfl, ?_⟩) (by assumption) ?_
    rotate_left 1
    · (intro w hSw; (try dsimp only at hSw); go_simp; try with_reducible rfl)
    try simp only [Act.put, List.setIfInBounds_toArray, List.set_cons_zero, List.set_cons_succ, List.getElem_toArray, List.getElem_cons_zero, List.getElem_cons_succ]
    refine wpAnyH_ready (rs := [4]) (by kernel_rfl) (by simp) ?_
    refine (AllReadyH.cons rfl (fun K hK => ?_) AllReadyH.nil)
    go_simp
    refine hK.out _ _ ?_ (fun hHeld => ?_)
    · (try dsimp only)
      exact old_cell _ HS0.out
    clear hK K
    try simp only [Act.put, List.setIfInBounds_toArray, List.set_cons_zero, List.set_cons_succ, List.getElem_toArray, List.getElem_cons_zero, List.getElem_cons_succ]
    refine wpAnyH_ready (rs := [5]) (by kernel_rfl) (by simp) ?_
    refine (AllReadyH.cons rfl (fun K hK => ?_) AllReadyH.nil)
    go_simp
    go_at_call 22
    refine HFC.out.mono ?_
    rintro e w5 ⟨rfl, hb5⟩
    have hb5' : Below w4.heap.size w4 w5 := up_trans (up_alloc (up_drew (Below.refl _ _)) _) hb5
    have HB0 := HBX
    replace HBX := Lib.hid (HBX.out.below hb5')
    replace HB := Lib.hid (HB.out.trans (hb5'.mono (Nat.le_of_lt (lt_block HB0.out.c))))
    clear HB0
    have HS5 : Hid (w5.cell? ⟨VP, 0, none⟩ = some (.map (some vr))) := Lib.hid (cell_of HBX.out.v (j := 0) rfl)
    clear hb5 hb5' hs0
    go_simp
    refine hK.out _ _ ?_ (fun hHeld => ?_)
    · (try dsimp only)
      exact HS5.out
    clear hK K
    try simp only [Act.put, List.setIfInBounds_toArray, List.set_cons_zero, List.set_cons_succ, List.getElem_toArray, List.getElem_cons_zero, List.getElem_cons_succ]
    refine wpAnyH_done (by kernel_rfl) ?_ _
    dsimp only [TailQ]
    have r0 : w5.cell? ⟨RB, 0, none⟩ = some (.int .i64 0) := cell_of HBX.out.r (j := 0) rfl
    have r1 : w5.cell? ⟨RB, 1, none⟩ = some (.int .i64 0) := cell_of HBX.out.r (j := 1) rfl
    have k0 : w5.frozen? ⟨RB, 0, none⟩ = false := frozen_of HBX.out.r 0
    have k1 : w5.frozen? ⟨RB, 1, none⟩ = false := frozen_of HBX.out.r 1
    go_wp2_with fail
    have hfin := (HB.out.setCell (p := ⟨RB, 0, none⟩) HXR.out.2.2 (.int .i64 fe)).setCell (p := ⟨RB, 1, none⟩) HXR.out.2.2 (.int .i64 fa)
    rw [← HXR.out.1] at hfin
    refine bodyPost_ret (v := .tuple #[.map (some vr), .agg #[.int .i64 fe, .int .i64 fa]]) (by simp [results, Try.results39, go_sem, r0, r1]) rfl ⟨vr, by rw [HE.out]; rfl, ?_, hfin⟩
    rw [HE.out]
    exact HCT.out.view.below hfin
  by_cases h1 : op = 1
  · subst h1
    replace HC := Lib.hid (HC.out.trans (st_1 F res text es body els pos v is his HSH.out))
    have hn0 : 0 < n1 := by have q : (n1 == 1 && n2 == 0 && n3 == 0) = true := hsh; rw [Bool.and_eq_true, Bool.and_eq_true] at q; have := eq_of_beq q.1.1; omega
    have s0 : w3.cell? ⟨SP, 0, none⟩ = some (.int .i64 1) := cell_of HBX.out.s (j := 0) rfl
    go_upto_region 6 with fail
    clear s0
    have HCPL : Hid (CP < w3.heap.size ∧ SP < w3.heap.size ∧ VP < w3.heap.size ∧ RB < w3.heap.size) := Lib.hid ⟨lt_block HBX.out.c, lt_block HBX.out.s, lt_block HBX.out.v, lt_block HBX.out.r⟩
    obtain ⟨xb, xoff, xop, xnum, xt, xs, xn, xc, xpos, rfl, hn1, hbl, y0, y1, y2, y3, y4, hrep⟩ := first_cells (HES.out.keep HST.out) (by rw [← HN.out.1]; exact hn0)
    have HXP : Hid ((es.headD default).pos = xpos ∧ (es.headD default).op = xop) := Lib.hid (by obtain ⟨_, e, _⟩ := rep_parts hrep; rw [e]; exact ⟨rfl, rfl⟩)
    have gn0 : (0 : Int) < (n1 : Int) := by omega
    have HCK := Lib.hid (fun W1 (h1 : Below w3.heap.size w3 W1) => HEX.out (es.headD default) v vr W1 xop xnum xpos xt xs xn xc (HCX.out.below h1) (hrep.keep (Stays.of_below h1)))
    have HSW : Hid (S8 VP vr CP cb SP xb xoff n1 c1 xop xnum xt xs xn xc xpos w3) := Lib.hid ⟨cell_of HBX.out.v (j := 0) rfl, cell_of HBX.out.c (j := 0) rfl, cell_of HBX.out.s (j := 2) rfl, y0, y1, y2, y3, y4⟩
    clear hrep y0 y1 y2 y3 y4
    generalize exprC F v (es.headD default) = xr at *
    obtain ⟨t, fe, fa⟩ := xr
    unfold fltV at HCK
    dsimp only at HCK HC
    apply shared (fun TP FP w8 => Below w3.heap.size w3 w8 ∧ w8.heap[TP]? = some (.cells #[.int .i64 t] 31 (0, 0)) ∧ w8.heap[FP]? = some (.cells #[.int .i64 fe, .int .i64 fa] 58 (0, 0)) ∧ w3.heap.size ≤ TP ∧ w3.heap.size ≤ FP ∧ ¬ TP = FP)
    intro HL
    have hs0 : S8 VP vr CP cb SP xb xoff n1 c1 xop xnum xt xs xn xc xpos w3.drew := HSW.out.below (up_drew (Below.refl _ _))
    refine wp_region_held (S := S8 VP vr CP cb SP xb xoff n1 c1 xop xnum xt xs xn xc xpos) (by kernel_rfl) ?_
    refine wpAnyH_take (i := 0) (v := ?_) rfl (by kernel_rfl) (by kernel_rfl) (by kernel_rfl) (fun _ _ _ h => h) (Or.inl ⟨by rfl, ?_⟩) (by assumption) ?_
    rotate_left 1
    · (intro w hSw; unfold S8 at hSw; go_simp; try with_reducible rfl)
    try simp only [Act.put, List.setIfInBounds_toArray, List.set_cons_zero, List.set_cons_succ, List.getElem_toArray, List.getElem_cons_zero]
    refine wpAnyH_take (i := 1) (v := ?_) rfl (by kernel_rfl) (by kernel_rfl) (by kernel_rfl) (fun _ _ _ h => h) (Or.inl ⟨by rfl, ?_⟩) (by assumption) ?_
    rotate_left 1
    · (intro w hSw; unfold S8 at hSw; go_simp; try with_reducible rfl)
    try simp only [Act.put, List.setIfInBounds_toArray, List.set_cons_zero, List.set_cons_succ, List.getElem_toArray, List.getElem_cons_zero, List.getElem_cons_succ]
    refine wpAnyH_take (i := 2) (v := ?_) rfl (by kernel_rfl) (by kernel_rfl) (by kernel_rfl) (fun _ _ _ h => h) (Or.inl ⟨by rfl, ?_⟩) (by assumption) ?_
    rotate_left 1
    · (intro w hSw; unfold S8 at hSw; go_simp; try with_reducible rfl)
    try simp only [Act.put, List.setIfInBounds_toArray, List.set_cons_zero, List.set_cons_succ, List.getElem_toArray, List.getElem_cons_zero, List.getElem_cons_succ]
    refine wpAnyH_take (i := 3) (v := ?_) rfl (by kernel_rfl) (by kernel_rfl) (by kernel_rfl) (fun _ _ _ h => h) (Or.inl ⟨by rfl, ?_⟩) (by assumption) ?_
    rotate_left 1
    · (intro w hSw; unfold S8 at hSw; go_simp; try with_reducible rfl)
    try simp only [Act.put, List.setIfInBounds_toArray, List.set_cons_zero, List.set_cons_succ, List.getElem_toArray, List.getElem_cons_zero, List.getElem_cons_succ]
    refine wpAnyH_take (i := 4) (v := ?_) rfl (by kernel_rfl) (by kernel_rfl) (by kernel_rfl) (fun _ _ _ h => h) (Or.inl ⟨by rfl, ?_⟩) (by assumption) ?_
    rotate_left 1
    · (intro w hSw; unfold S8 at hSw; go_simp; try with_reducible rfl)
    try simp only [Act.put, List.setIfInBounds_toArray, List.set_cons_zero, List.set_cons_succ, List.getElem_toArray, List.getElem_cons_zero, List.getElem_cons_succ]
    refine wpAnyH_take (i := 5) (v := ?_) rfl (by kernel_rfl) (by kernel_rfl) (by kernel_rfl) (fun _ _ _ h => h) (Or.inl ⟨by rfl, ?_⟩) (by assumption) ?_
    rotate_left 1
    · (intro w hSw; unfold S8 at hSw; go_simp; try with_reducible rfl)
    try simp only [Act.put, List.setIfInBounds_toArray, List.set_cons_zero, List.set_cons_succ, List.getElem_toArray, List.getElem_cons_zero, List.getElem_cons_succ]
    have HBA0 : Hid (Below w3.heap.size w3 w3.drew) := Lib.hid (up_drew (Below.refl _ _))
    refine wpAnyH_ready (rs := [6, 10, 11]) (by kernel_rfl) (by simp) ?_
    refine (AllReadyH.cons rfl (fun K hK => ?_) (AllReadyH.cons rfl (fun K hK => ?_) (AllReadyH.cons rfl (fun K hK => ?_) AllReadyH.nil)))
    · go_simp
      go_at_call 56
      refine (HCK.out _ HBA0.out).mono ?_
      rintro e w5 ⟨rfl, hb5⟩
      have HBA1 := Lib.hid (HBA0.out.trans (hb5.mono HBA0.out.size))
      have HSZ := Lib.hid hb5.size
      clear hb5 hs0
      go_simp
      refine hK.out _ _ ?_ (fun hHeld => ?_)
      · exact HSW.out.below HBA1.out
      clear hK K
      try simp only [Act.put, List.setIfInBounds_toArray, List.set_cons_zero, List.set_cons_succ, List.getElem_toArray, List.getElem_cons_zero, List.getElem_cons_succ]
      refine wpAnyH_take (i := 7) (v := ?_) rfl (by kernel_rfl) (by kernel_rfl) (by kernel_rfl) (fun _ _ _ h => h) (Or.inl ⟨by rfl, ?_⟩) (by assumption) ?_
      rotate_left 1
      · (intro w hSw; unfold S8 at hSw; go_simp; try with_reducible rfl)
      try simp only [Act.put, List.setIfInBounds_toArray, List.set_cons_zero, List.set_cons_succ, List.getElem_toArray, List.getElem_cons_zero, List.getElem_cons_succ]
      refine wpAnyH_take (i := 8) (v := ?_) rfl (by kernel_rfl) (by kernel_rfl) (by kernel_rfl) (fun _ _ _ h => h) (Or.inl ⟨by rfl, ?_⟩) (by assumption) ?_
      rotate_left 1
      · (intro w hSw; unfold S8 at hSw; go_simp; try with_reducible rfl)
      try simp only [Act.put, List.setIfInBounds_toArray, List.set_cons_zero, List.set_cons_succ, List.getElem_toArray, List.getElem_cons_zero, List.getElem_cons_succ]
      refine wpAnyH_take (i := 9) (v := ?_) rfl (by kernel_rfl) (by kernel_rfl) (by kernel_rfl) (fun _ _ _ h => h) (Or.inl ⟨by rfl, ?_⟩) (by assumption) ?_
      rotate_left 1
      · (intro w hSw; unfold S8 at hSw; go_simp; try with_reducible rfl)
      try simp only [Act.put, List.setIfInBounds_toArray, List.set_cons_zero, List.set_cons_succ, List.getElem_toArray, List.getElem_cons_zero, List.getElem_cons_succ]
      refine wpAnyH_ready (rs := [10, 11]) (by kernel_rfl) (by simp) ?_
      refine (AllReadyH.cons rfl (fun K hK => ?_) (AllReadyH.cons rfl (fun K hK => ?_) AllReadyH.nil))
      · go_simp
        have HBA2 : Hid (Below w3.heap.size w3 (w5.alloc (.cells #[.int .i64 0] 31))) := Lib.hid (up_alloc HBA1.out _)
        have HKt : Hid ((w5.alloc (.cells #[.int .i64 0] 31)).heap[w5.heap.size]? = some (.cells #[.int .i64 0] 31 (0, 0))) := Lib.hid (new_heap _ _ _ rfl)
        refine hK.out _ _ ?_ (fun hHeld => ?_)
        · exact HSW.out.below HBA2.out
        clear hK K
        try simp only [Act.put, List.setIfInBounds_toArray, List.set_cons_zero, List.set_cons_succ, List.getElem_toArray, List.getElem_cons_zero, List.getElem_cons_succ]
        refine wpAnyH_ready (rs := [11]) (by kernel_rfl) (by simp) ?_
        refine (AllReadyH.cons rfl (fun K hK => ?_) AllReadyH.nil)
        go_simp
        have HBA3 : Hid (Below w3.heap.size w3 ((w5.alloc (.cells #[.int .i64 0] 31)).alloc (.cells #[.int .i64 0, .int .i64 0] 58))) := Lib.hid (up_alloc HBA2.out _)
        have HKf : Hid (((w5.alloc (.cells #[.int .i64 0] 31)).alloc (.cells #[.int .i64 0, .int .i64 0] 58)).heap[(w5.alloc (.cells #[.int .i64 0] 31)).heap.size]? = some (.cells #[.int .i64 0, .int .i64 0] 58 (0, 0))) := Lib.hid (new_heap _ _ _ rfl)
        replace HKt : Hid (((w5.alloc (.cells #[.int .i64 0] 31)).alloc (.cells #[.int .i64 0, .int .i64 0] 58)).heap[_]? = _) := Lib.hid (old_heap _ _ _ _ HKt.out)
        refine hK.out _ _ ?_ (fun hHeld => ?_)
        · exact HSW.out.below HBA3.out
        clear hK K
        try simp only [Act.put, List.setIfInBounds_toArray, List.set_cons_zero, List.set_cons_succ, List.getElem_toArray, List.getElem_cons_zero, List.getElem_cons_succ]
        obtain ⟨N3, hN3⟩ : ∃ N, N = w3.heap.size := ⟨_, rfl⟩
        have hs5 : w3.heap.size ≤ w5.heap.size := HBA1.out.size
        have f1 : Below N3 w3 ((w5.alloc (.cells #[.int .i64 0] 31)).alloc (.cells #[.int .i64 0, .int .i64 0] 58)) := by rw [hN3]; exact HBA3.out
        have f2 : ((w5.alloc (.cells #[.int .i64 0] 31)).alloc (.cells #[.int .i64 0, .int .i64 0] 58)).heap[w5.heap.size]? = some (.cells #[.int .i64 0] 31 (0, 0)) := by
          have q := HKt.out
          exact q
        have f3 : ((w5.alloc (.cells #[.int .i64 0] 31)).alloc (.cells #[.int .i64 0, .int .i64 0] 58)).heap[w5.heap.size + 1]? = some (.cells #[.int .i64 0, .int .i64 0] 58 (0, 0)) := by
          have q := HKf.out
          rw [size_alloc] at q
          exact q
        have f4 : N3 ≤ w5.heap.size ∧ N3 ≤ w5.heap.size + 1 ∧ ¬ w5.heap.size = w5.heap.size + 1 := by omega
        revert f1 f2 f3 f4
        generalize ((w5.alloc (.cells #[.int .i64 0] 31)).alloc (.cells #[.int .i64 0, .int .i64 0] 58)) = w6
        generalize w5.heap.size + 1 = FP
        generalize w5.heap.size = TP
        intro f1 f2 f3 f4
        rw [hN3] at f1 f4
        have HF1 := Lib.hid f1
        have HF2 := Lib.hid f2
        have HF3 := Lib.hid f3
        have HF4 := Lib.hid f4
        clear f1 f2 f3 f4 hN3 hs5 HKt HKf
        have z0 : w6.cell? ⟨TP, 0, none⟩ = some (.int .i64 0) := cell_of HF2.out (j := 0) rfl
        have y0 : w6.frozen? ⟨TP, 0, none⟩ = false := frozen_of HF2.out 0
        refine wpAnyH_ready (rs := [12]) (by kernel_rfl) (by simp) ?_
        refine (AllReadyH.cons rfl (fun K hK => ?_) AllReadyH.nil)
        go_simp
        have HG1 : Hid (Below w3.heap.size w3 (w6.setCell ⟨TP, 0, none⟩ (.int .i64 t))) := Lib.hid (HF1.out.setCell (p := ⟨TP, 0, none⟩) HF4.out.1 _)
        have HG2 : Hid ((w6.setCell ⟨TP, 0, none⟩ (.int .i64 t)).heap[TP]? = some (.cells #[.int .i64 t] 31 (0, 0))) := Lib.hid (setCell_obj HF2.out 0 _)
        have HG3 : Hid ((w6.setCell ⟨TP, 0, none⟩ (.int .i64 t)).heap[FP]? = some (.cells #[.int .i64 0, .int .i64 0] 58 (0, 0))) := Lib.hid ((setCell_heap _ _ _ _ (fun e => HF4.out.2.2 e.symm)).trans HF3.out)
        refine hK.out _ _ ?_ (fun hHeld => ?_)
        · exact HSW.out.below HG1.out
        clear hK K
        try simp only [Act.put, List.setIfInBounds_toArray, List.set_cons_zero, List.set_cons_succ, List.getElem_toArray, List.getElem_cons_zero, List.getElem_cons_succ]
        clear z0 y0 HF1 HF2 HF3
        generalize (w6.setCell ⟨TP, 0, none⟩ (.int .i64 t)) = w7 at *
        have z0 : w7.cell? ⟨FP, 0, none⟩ = some (.int .i64 0) := cell_of HG3.out (j := 0) rfl
        have z1 : w7.cell? ⟨FP, 1, none⟩ = some (.int .i64 0) := cell_of HG3.out (j := 1) rfl
        have y0 : w7.frozen? ⟨FP, 0, none⟩ = false := frozen_of HG3.out 0
        have y1 : w7.frozen? ⟨FP, 1, none⟩ = false := frozen_of HG3.out 1
        refine wpAnyH_ready (rs := [13]) (by kernel_rfl) (by simp) ?_
        refine (AllReadyH.cons rfl (fun K hK => ?_) AllReadyH.nil)
        go_simp
        have HH1 := ((HG1.out.setCell (p := ⟨FP, 0, none⟩) HF4.out.2.1 (.int .i64 fe)).setCell (p := ⟨FP, 1, none⟩) HF4.out.2.1 (.int .i64 fa))
        refine hK.out _ _ ?_ (fun hHeld => ?_)
        · exact HSW.out.below HH1
        clear hK K
        try simp only [Act.put, List.setIfInBounds_toArray, List.set_cons_zero, List.set_cons_succ, List.getElem_toArray, List.getElem_cons_zero, List.getElem_cons_succ]
        refine wpAnyH_done (by kernel_rfl) ?_ _
        exact HL TP FP _ ⟨HH1, (setCell_heap _ _ _ _ HF4.out.2.2).trans ((setCell_heap _ _ _ _ HF4.out.2.2).trans HG2.out), setCell_obj (setCell_obj HG3.out 0 _) 1 _, HF4.out⟩
      go_simp
      have HBA2 : Hid (Below w3.heap.size w3 (w5.alloc (.cells #[.int .i64 0, .int .i64 0] 58))) := Lib.hid (up_alloc HBA1.out _)
      have HKf : Hid ((w5.alloc (.cells #[.int .i64 0, .int .i64 0] 58)).heap[w5.heap.size]? = some (.cells #[.int .i64 0, .int .i64 0] 58 (0, 0))) := Lib.hid (new_heap _ _ _ rfl)
      refine hK.out _ _ ?_ (fun hHeld => ?_)
      · exact HSW.out.below HBA2.out
      clear hK K
      try simp only [Act.put, List.setIfInBounds_toArray, List.set_cons_zero, List.set_cons_succ, List.getElem_toArray, List.getElem_cons_zero, List.getElem_cons_succ]
      refine wpAnyH_ready (rs := [10]) (by kernel_rfl) (by simp) ?_
      refine (AllReadyH.cons rfl (fun K hK => ?_) AllReadyH.nil)
      go_simp
      have HBA3 : Hid (Below w3.heap.size w3 ((w5.alloc (.cells #[.int .i64 0, .int .i64 0] 58)).alloc (.cells #[.int .i64 0] 31))) := Lib.hid (up_alloc HBA2.out _)
      have HKt : Hid (((w5.alloc (.cells #[.int .i64 0, .int .i64 0] 58)).alloc (.cells #[.int .i64 0] 31)).heap[(w5.alloc (.cells #[.int .i64 0, .int .i64 0] 58)).heap.size]? = some (.cells #[.int .i64 0] 31 (0, 0))) := Lib.hid (new_heap _ _ _ rfl)
      replace HKf : Hid (((w5.alloc (.cells #[.int .i64 0, .int .i64 0] 58)).alloc (.cells #[.int .i64 0] 31)).heap[_]? = _) := Lib.hid (old_heap _ _ _ _ HKf.out)
      refine hK.out _ _ ?_ (fun hHeld => ?_)
      · exact HSW.out.below HBA3.out
      clear hK K
      try simp only [Act.put, List.setIfInBounds_toArray, List.set_cons_zero, List.set_cons_succ, List.getElem_toArray, List.getElem_cons_zero, List.getElem_cons_succ]
      obtain ⟨N3, hN3⟩ : ∃ N, N = w3.heap.size := ⟨_, rfl⟩
      have hs5 : w3.heap.size ≤ w5.heap.size := HBA1.out.size
      have f1 : Below N3 w3 ((w5.alloc (.cells #[.int .i64 0, .int .i64 0] 58)).alloc (.cells #[.int .i64 0] 31)) := by rw [hN3]; exact HBA3.out
      have f2 : ((w5.alloc (.cells #[.int .i64 0, .int .i64 0] 58)).alloc (.cells #[.int .i64 0] 31)).heap[w5.heap.size + 1]? = some (.cells #[.int .i64 0] 31 (0, 0)) := by
        have q := HKt.out
        rw [size_alloc] at q
        exact q
      have f3 : ((w5.alloc (.cells #[.int .i64 0, .int .i64 0] 58)).alloc (.cells #[.int .i64 0] 31)).heap[w5.heap.size]? = some (.cells #[.int .i64 0, .int .i64 0] 58 (0, 0)) := by
        have q := HKf.out
        exact q
      have f4 : N3 ≤ w5.heap.size + 1 ∧ N3 ≤ w5.heap.size ∧ ¬ w5.heap.size + 1 = w5.heap.size := by omega
      revert f1 f2 f3 f4
      generalize ((w5.alloc (.cells #[.int .i64 0, .int .i64 0] 58)).alloc (.cells #[.int .i64 0] 31)) = w6
      generalize w5.heap.size + 1 = TP
      generalize w5.heap.size = FP
      intro f1 f2 f3 f4
      rw [hN3] at f1 f4
      have HF1 := Lib.hid f1
      have HF2 := Lib.hid f2
      have HF3 := Lib.hid f3
      have HF4 := Lib.hid f4
      clear f1 f2 f3 f4 hN3 hs5 HKt HKf
      have z0 : w6.cell? ⟨TP, 0, none⟩ = some (.int .i64 0) := cell_of HF2.out (j := 0) rfl
      have y0 : w6.frozen? ⟨TP, 0, none⟩ = false := frozen_of HF2.out 0
      refine wpAnyH_ready (rs := [12]) (by kernel_rfl) (by simp) ?_
      refine (AllReadyH.cons rfl (fun K hK => ?_) AllReadyH.nil)
      go_simp
      have HG1 : Hid (Below w3.heap.size w3 (w6.setCell ⟨TP, 0, none⟩ (.int .i64 t))) := Lib.hid (HF1.out.setCell (p := ⟨TP, 0, none⟩) HF4.out.1 _)
      have HG2 : Hid ((w6.setCell ⟨TP, 0, none⟩ (.int .i64 t)).heap[TP]? = some (.cells #[.int .i64 t] 31 (0, 0))) := Lib.hid (setCell_obj HF2.out 0 _)
      have HG3 : Hid ((w6.setCell ⟨TP, 0, none⟩ (.int .i64 t)).heap[FP]? = some (.cells #[.int .i64 0, .int .i64 0] 58 (0, 0))) := Lib.hid ((setCell_heap _ _ _ _ (fun e => HF4.out.2.2 e.symm)).trans HF3.out)
      refine hK.out _ _ ?_ (fun hHeld => ?_)
      · exact HSW.out.below HG1.out
      clear hK K
      try simp only [Act.put, List.setIfInBounds_toArray, List.set_cons_zero, List.set_cons_succ, List.getElem_toArray, List.getElem_cons_zero, List.getElem_cons_succ]
      clear z0 y0 HF1 HF2 HF3
      generalize (w6.setCell ⟨TP, 0, none⟩ (.int .i64 t)) = w7 at *
      have z0 : w7.cell? ⟨FP, 0, none⟩ = some (.int .i64 0) := cell_of HG3.out (j := 0) rfl
      have z1 : w7.cell? ⟨FP, 1, none⟩ = some (.int .i64 0) := cell_of HG3.out (j := 1) rfl
      have y0 : w7.frozen? ⟨FP, 0, none⟩ = false := frozen_of HG3.out 0
      have y1 : w7.frozen? ⟨FP, 1, none⟩ = false := frozen_of HG3.out 1
      refine wpAnyH_ready (rs := [13]) (by kernel_rfl) (by simp) ?_
      refine (AllReadyH.cons rfl (fun K hK => ?_) AllReadyH.nil)
      go_simp
      have HH1 := ((HG1.out.setCell (p := ⟨FP, 0, none⟩) HF4.out.2.1 (.int .i64 fe)).setCell (p := ⟨FP, 1, none⟩) HF4.out.2.1 (.int .i64 fa))
      refine hK.out _ _ ?_ (fun hHeld => ?_)
      · exact HSW.out.below HH1
      clear hK K
      try simp only [Act.put, List.setIfInBounds_toArray, List.set_cons_zero, List.set_cons_succ, List.getElem_toArray, List.getElem_cons_zero, List.getElem_cons_succ]
      refine wpAnyH_done (by kernel_rfl) ?_ _
      exact HL TP FP _ ⟨HH1, (setCell_heap _ _ _ _ HF4.out.2.2).trans ((setCell_heap _ _ _ _ HF4.out.2.2).trans HG2.out), setCell_obj (setCell_obj HG3.out 0 _) 1 _, HF4.out⟩
    · go_simp
      have HBA1 : Hid (Below w3.heap.size w3 (w3.drew.alloc (.cells #[.int .i64 0] 31))) := Lib.hid (up_alloc HBA0.out _)
      have HKt : Hid ((w3.drew.alloc (.cells #[.int .i64 0] 31)).heap[w3.drew.heap.size]? = some (.cells #[.int .i64 0] 31 (0, 0))) := Lib.hid (new_heap _ _ _ rfl)
      clear hs0
      refine hK.out _ _ ?_ (fun hHeld => ?_)
      · exact HSW.out.below HBA1.out
      clear hK K
      try simp only [Act.put, List.setIfInBounds_toArray, List.set_cons_zero, List.set_cons_succ, List.getElem_toArray, List.getElem_cons_zero, List.getElem_cons_succ]
      refine wpAnyH_ready (rs := [6, 11]) (by kernel_rfl) (by simp) ?_
      refine (AllReadyH.cons rfl (fun K hK => ?_) (AllReadyH.cons rfl (fun K hK => ?_) AllReadyH.nil))
      · go_simp
        go_at_call 56
        refine (HCK.out _ HBA1.out).mono ?_
        rintro e w5 ⟨rfl, hb5⟩
        have HBA2 := Lib.hid (HBA1.out.trans (hb5.mono HBA1.out.size))
        replace HKt := Lib.hid ((hb5.block _ (lt_block HKt.out)).trans HKt.out)
        have HSZ := Lib.hid hb5.size
        clear hb5
        go_simp
        refine hK.out _ _ ?_ (fun hHeld => ?_)
        · exact HSW.out.below HBA2.out
        clear hK K
        try simp only [Act.put, List.setIfInBounds_toArray, List.set_cons_zero, List.set_cons_succ, List.getElem_toArray, List.getElem_cons_zero, List.getElem_cons_succ]
        refine wpAnyH_take (i := 7) (v := ?_) rfl (by kernel_rfl) (by kernel_rfl) (by kernel_rfl) (fun _ _ _ h => h) (Or.inl ⟨by rfl, ?_⟩) (by assumption) ?_
        rotate_left 1
        · (intro w hSw; unfold S8 at hSw; go_simp; try with_reducible rfl)
        try simp only [Act.put, List.setIfInBounds_toArray, List.set_cons_zero, List.set_cons_succ, List.getElem_toArray, List.getElem_cons_zero, List.getElem_cons_succ]
        refine wpAnyH_take (i := 8) (v := ?_) rfl (by kernel_rfl) (by kernel_rfl) (by kernel_rfl) (fun _ _ _ h => h) (Or.inl ⟨by rfl, ?_⟩) (by assumption) ?_
        rotate_left 1
        · (intro w hSw; unfold S8 at hSw; go_simp; try with_reducible rfl)
        try simp only [Act.put, List.setIfInBounds_toArray, List.set_cons_zero, List.set_cons_succ, List.getElem_toArray, List.getElem_cons_zero, List.getElem_cons_succ]
        refine wpAnyH_take (i := 9) (v := ?_) rfl (by kernel_rfl) (by kernel_rfl) (by kernel_rfl) (fun _ _ _ h => h) (Or.inl ⟨by rfl, ?_⟩) (by assumption) ?_
        rotate_left 1
        · (intro w hSw; unfold S8 at hSw; go_simp; try with_reducible rfl)
        try simp only [Act.put, List.setIfInBounds_toArray, List.set_cons_zero, List.set_cons_succ, List.getElem_toArray, List.getElem_cons_zero, List.getElem_cons_succ]
        refine wpAnyH_ready (rs := [11]) (by kernel_rfl) (by simp) ?_
        refine (AllReadyH.cons rfl (fun K hK => ?_) AllReadyH.nil)
        go_simp
        have HBA3 : Hid (Below w3.heap.size w3 (w5.alloc (.cells #[.int .i64 0, .int .i64 0] 58))) := Lib.hid (up_alloc HBA2.out _)
        have HKf : Hid ((w5.alloc (.cells #[.int .i64 0, .int .i64 0] 58)).heap[w5.heap.size]? = some (.cells #[.int .i64 0, .int .i64 0] 58 (0, 0))) := Lib.hid (new_heap _ _ _ rfl)
        replace HKt : Hid ((w5.alloc (.cells #[.int .i64 0, .int .i64 0] 58)).heap[_]? = _) := Lib.hid (old_heap _ _ _ _ HKt.out)
        refine hK.out _ _ ?_ (fun hHeld => ?_)
        · exact HSW.out.below HBA3.out
        clear hK K
        try simp only [Act.put, List.setIfInBounds_toArray, List.set_cons_zero, List.set_cons_succ, List.getElem_toArray, List.getElem_cons_zero, List.getElem_cons_succ]
        obtain ⟨N3, hN3⟩ : ∃ N, N = w3.heap.size := ⟨_, rfl⟩
        have hs5 : w3.heap.size ≤ w5.heap.size := HBA2.out.size
        have hsz : w3.heap.size + 1 ≤ w5.heap.size := by have q := HSZ.out; rw [size_alloc] at q; exact q
        have f1 : Below N3 w3 (w5.alloc (.cells #[.int .i64 0, .int .i64 0] 58)) := by rw [hN3]; exact HBA3.out
        have f2 : (w5.alloc (.cells #[.int .i64 0, .int .i64 0] 58)).heap[w3.heap.size]? = some (.cells #[.int .i64 0] 31 (0, 0)) := by
          have q := HKt.out
          exact q
        have f3 : (w5.alloc (.cells #[.int .i64 0, .int .i64 0] 58)).heap[w5.heap.size]? = some (.cells #[.int .i64 0, .int .i64 0] 58 (0, 0)) := by
          have q := HKf.out
          exact q
        have f4 : N3 ≤ w3.heap.size ∧ N3 ≤ w5.heap.size ∧ ¬ w3.heap.size = w5.heap.size := by omega
        revert f1 f2 f3 f4
        generalize (w5.alloc (.cells #[.int .i64 0, .int .i64 0] 58)) = w6
        generalize w3.heap.size = TP
        generalize w5.heap.size = FP
        intro f1 f2 f3 f4
        rw [hN3] at f1 f4
        have HF1 := Lib.hid f1
        have HF2 := Lib.hid f2
        have HF3 := Lib.hid f3
        have HF4 := Lib.hid f4
        clear f1 f2 f3 f4 hN3 hs5 hsz HKt HKf
        have z0 : w6.cell? ⟨TP, 0, none⟩ = some (.int .i64 0) := cell_of HF2.out (j := 0) rfl
        have y0 : w6.frozen? ⟨TP, 0, none⟩ = false := frozen_of HF2.out 0
        refine wpAnyH_ready (rs := [12]) (by kernel_rfl) (by simp) ?_
        refine (AllReadyH.cons rfl (fun K hK => ?_) AllReadyH.nil)
        go_simp
        have HG1 : Hid (Below w3.heap.size w3 (w6.setCell ⟨TP, 0, none⟩ (.int .i64 t))) := Lib.hid (HF1.out.setCell (p := ⟨TP, 0, none⟩) HF4.out.1 _)
        have HG2 : Hid ((w6.setCell ⟨TP, 0, none⟩ (.int .i64 t)).heap[TP]? = some (.cells #[.int .i64 t] 31 (0, 0))) := Lib.hid (setCell_obj HF2.out 0 _)
        have HG3 : Hid ((w6.setCell ⟨TP, 0, none⟩ (.int .i64 t)).heap[FP]? = some (.cells #[.int .i64 0, .int .i64 0] 58 (0, 0))) := Lib.hid ((setCell_heap _ _ _ _ (fun e => HF4.out.2.2 e.symm)).trans HF3.out)
        refine hK.out _ _ ?_ (fun hHeld => ?_)
        · exact HSW.out.below HG1.out
        clear hK K
        try simp only [Act.put, List.setIfInBounds_toArray, List.set_cons_zero, List.set_cons_succ, List.getElem_toArray, List.getElem_cons_zero, List.getElem_cons_succ]
        clear z0 y0 HF1 HF2 HF3
        generalize (w6.setCell ⟨TP, 0, none⟩ (.int .i64 t)) = w7 at *
        have z0 : w7.cell? ⟨FP, 0, none⟩ = some (.int .i64 0) := cell_of HG3.out (j := 0) rfl
        have z1 : w7.cell? ⟨FP, 1, none⟩ = some (.int .i64 0) := cell_of HG3.out (j := 1) rfl
        have y0 : w7.frozen? ⟨FP, 0, none⟩ = false := frozen_of HG3.out 0
        have y1 : w7.frozen? ⟨FP, 1, none⟩ = false := frozen_of HG3.out 1
        refine wpAnyH_ready (rs := [13]) (by kernel_rfl) (by simp) ?_
        refine (AllReadyH.cons rfl (fun K hK => ?_) AllReadyH.nil)
        go_simp
        have HH1 := ((HG1.out.setCell (p := ⟨FP, 0, none⟩) HF4.out.2.1 (.int .i64 fe)).setCell (p := ⟨FP, 1, none⟩) HF4.out.2.1 (.int .i64 fa))
        refine hK.out _ _ ?_ (fun hHeld => ?_)
        · exact HSW.out.below HH1
        clear hK K
        try simp only [Act.put, List.setIfInBounds_toArray, List.set_cons_zero, List.set_cons_succ, List.getElem_toArray, List.getElem_cons_zero, List.getElem_cons_succ]
        refine wpAnyH_done (by kernel_rfl) ?_ _
        exact HL TP FP _ ⟨HH1, (setCell_heap _ _ _ _ HF4.out.2.2).trans ((setCell_heap _ _ _ _ HF4.out.2.2).trans HG2.out), setCell_obj (setCell_obj HG3.out 0 _) 1 _, HF4.out⟩
      go_simp
      have HBA2 : Hid (Below w3.heap.size w3 ((w3.drew.alloc (.cells #[.int .i64 0] 31)).alloc (.cells #[.int .i64 0, .int .i64 0] 58))) := Lib.hid (up_alloc HBA1.out _)
      have HKf : Hid (((w3.drew.alloc (.cells #[.int .i64 0] 31)).alloc (.cells #[.int .i64 0, .int .i64 0] 58)).heap[(w3.drew.alloc (.cells #[.int .i64 0] 31)).heap.size]? = some (.cells #[.int .i64 0, .int .i64 0] 58 (0, 0))) := Lib.hid (new_heap _ _ _ rfl)
      replace HKt : Hid (((w3.drew.alloc (.cells #[.int .i64 0] 31)).alloc (.cells #[.int .i64 0, .int .i64 0] 58)).heap[_]? = _) := Lib.hid (old_heap _ _ _ _ HKt.out)
      refine hK.out _ _ ?_ (fun hHeld => ?_)
      · exact HSW.out.below HBA2.out
      clear hK K
      try simp only [Act.put, List.setIfInBounds_toArray, List.set_cons_zero, List.set_cons_succ, List.getElem_toArray, List.getElem_cons_zero, List.getElem_cons_succ]
      refine wpAnyH_ready (rs := [6]) (by kernel_rfl) (by simp) ?_
      refine (AllReadyH.cons rfl (fun K hK => ?_) AllReadyH.nil)
      go_simp
      go_at_call 56
      refine (HCK.out _ HBA2.out).mono ?_
      rintro e w5 ⟨rfl, hb5⟩
      have HBA3 := Lib.hid (HBA2.out.trans (hb5.mono HBA2.out.size))
      replace HKt := Lib.hid ((hb5.block _ (lt_block HKt.out)).trans HKt.out)
      replace HKf := Lib.hid ((hb5.block _ (lt_block HKf.out)).trans HKf.out)
      have HSZ := Lib.hid hb5.size
      clear hb5
      go_simp
      refine hK.out _ _ ?_ (fun hHeld => ?_)
      · exact HSW.out.below HBA3.out
      clear hK K
      try simp only [Act.put, List.setIfInBounds_toArray, List.set_cons_zero, List.set_cons_succ, List.getElem_toArray, List.getElem_cons_zero, List.getElem_cons_succ]
      refine wpAnyH_take (i := 7) (v := ?_) rfl (by kernel_rfl) (by kernel_rfl) (by kernel_rfl) (fun _ _ _ h => h) (Or.inl ⟨by rfl, ?_⟩) (by assumption) ?_
      rotate_left 1
      · (intro w hSw; unfold S8 at hSw; go_simp; try with_reducible rfl)
      try simp only [Act.put, List.setIfInBounds_toArray, List.set_cons_zero, List.set_cons_succ, List.getElem_toArray, List.getElem_cons_zero, List.getElem_cons_succ]
      refine wpAnyH_take (i := 8) (v := ?_) rfl (by kernel_rfl) (by kernel_rfl) (by kernel_rfl) (fun _ _ _ h => h) (Or.inl ⟨by rfl, ?_⟩) (by assumption) ?_
      rotate_left 1
      · (intro w hSw; unfold S8 at hSw; go_simp; try with_reducible rfl)
      try simp only [Act.put, List.setIfInBounds_toArray, List.set_cons_zero, List.set_cons_succ, List.getElem_toArray, List.getElem_cons_zero, List.getElem_cons_succ]
      refine wpAnyH_take (i := 9) (v := ?_) rfl (by kernel_rfl) (by kernel_rfl) (by kernel_rfl) (fun _ _ _ h => h) (Or.inl ⟨by rfl, ?_⟩) (by assumption) ?_
      rotate_left 1
      · (intro w hSw; unfold S8 at hSw; go_simp; try with_reducible rfl)
      try simp only [Act.put, List.setIfInBounds_toArray, List.set_cons_zero, List.set_cons_succ, List.getElem_toArray, List.getElem_cons_zero, List.getElem_cons_succ]
      obtain ⟨N3, hN3⟩ : ∃ N, N = w3.heap.size := ⟨_, rfl⟩
      have hs5 : w3.heap.size ≤ w5.heap.size := HBA3.out.size
      have f1 : Below N3 w3 w5 := by rw [hN3]; exact HBA3.out
      have f2 : w5.heap[w3.heap.size]? = some (.cells #[.int .i64 0] 31 (0, 0)) := by
        have q := HKt.out
        exact q
      have f3 : w5.heap[w3.heap.size + 1]? = some (.cells #[.int .i64 0, .int .i64 0] 58 (0, 0)) := by
        have q := HKf.out
        rw [size_alloc] at q
        exact q
      have f4 : N3 ≤ w3.heap.size ∧ N3 ≤ w3.heap.size + 1 ∧ ¬ w3.heap.size = w3.heap.size + 1 := by omega
      revert f1 f2 f3 f4
      generalize w5 = w6
      generalize w3.heap.size + 1 = FP
      generalize w3.heap.size = TP
      intro f1 f2 f3 f4
      rw [hN3] at f1 f4
      have HF1 := Lib.hid f1
      have HF2 := Lib.hid f2
      have HF3 := Lib.hid f3
      have HF4 := Lib.hid f4
      clear f1 f2 f3 f4 hN3 hs5 HKt HKf
      have z0 : w6.cell? ⟨TP, 0, none⟩ = some (.int .i64 0) := cell_of HF2.out (j := 0) rfl
      have y0 : w6.frozen? ⟨TP, 0, none⟩ = false := frozen_of HF2.out 0
      refine wpAnyH_ready (rs := [12]) (by kernel_rfl) (by simp) ?_
      refine (AllReadyH.cons rfl (fun K hK => ?_) AllReadyH.nil)
      go_simp
      have HG1 : Hid (Below w3.heap.size w3 (w6.setCell ⟨TP, 0, none⟩ (.int .i64 t))) := Lib.hid (HF1.out.setCell (p := ⟨TP, 0, none⟩) HF4.out.1 _)
      have HG2 : Hid ((w6.setCell ⟨TP, 0, none⟩ (.int .i64 t)).heap[TP]? = some (.cells #[.int .i64 t] 31 (0, 0))) := Lib.hid (setCell_obj HF2.out 0 _)
      have HG3 : Hid ((w6.setCell ⟨TP, 0, none⟩ (.int .i64 t)).heap[FP]? = some (.cells #[.int .i64 0, .int .i64 0] 58 (0, 0))) := Lib.hid ((setCell_heap _ _ _ _ (fun e => HF4.out.2.2 e.symm)).trans HF3.out)
      refine hK.out _ _ ?_ (fun hHeld => ?_)
      · exact HSW.out.below HG1.out
      clear hK K
      try simp only [Act.put, List.setIfInBounds_toArray, List.set_cons_zero, List.set_cons_succ, List.getElem_toArray, List.getElem_cons_zero, List.getElem_cons_succ]
      clear z0 y0 HF1 HF2 HF3
      generalize (w6.setCell ⟨TP, 0, none⟩ (.int .i64 t)) = w7 at *
      have z0 : w7.cell? ⟨FP, 0, none⟩ = some (.int .i64 0) := cell_of HG3.out (j := 0) rfl
      have z1 : w7.cell? ⟨FP, 1, none⟩ = some (.int .i64 0) := cell_of HG3.out (j := 1) rfl
      have y0 : w7.frozen? ⟨FP, 0, none⟩ = false := frozen_of HG3.out 0
      have y1 : w7.frozen? ⟨FP, 1, none⟩ = false := frozen_of HG3.out 1
      refine wpAnyH_ready (rs := [13]) (by kernel_rfl) (by simp) ?_
      refine (AllReadyH.cons rfl (fun K hK => ?_) AllReadyH.nil)
      go_simp
      have HH1 := ((HG1.out.setCell (p := ⟨FP, 0, none⟩) HF4.out.2.1 (.int .i64 fe)).setCell (p := ⟨FP, 1, none⟩) HF4.out.2.1 (.int .i64 fa))
      refine hK.out _ _ ?_ (fun hHeld => ?_)
      · exact HSW.out.below HH1
      clear hK K
      try simp only [Act.put, List.setIfInBounds_toArray, List.set_cons_zero, List.set_cons_succ, List.getElem_toArray, List.getElem_cons_zero, List.getElem_cons_succ]
      refine wpAnyH_done (by kernel_rfl) ?_ _
      exact HL TP FP _ ⟨HH1, (setCell_heap _ _ _ _ HF4.out.2.2).trans ((setCell_heap _ _ _ _ HF4.out.2.2).trans HG2.out), setCell_obj (setCell_obj HG3.out 0 _) 1 _, HF4.out⟩
    go_simp
    have HBA1 : Hid (Below w3.heap.size w3 (w3.drew.alloc (.cells #[.int .i64 0, .int .i64 0] 58))) := Lib.hid (up_alloc HBA0.out _)
    have HKf : Hid ((w3.drew.alloc (.cells #[.int .i64 0, .int .i64 0] 58)).heap[w3.drew.heap.size]? = some (.cells #[.int .i64 0, .int .i64 0] 58 (0, 0))) := Lib.hid (new_heap _ _ _ rfl)
    clear hs0
    refine hK.out _ _ ?_ (fun hHeld => ?_)
    · exact HSW.out.below HBA1.out
    clear hK K
    try simp only [Act.put, List.setIfInBounds_toArray, List.set_cons_zero, List.set_cons_succ, List.getElem_toArray, List.getElem_cons_zero, List.getElem_cons_succ]
    refine wpAnyH_ready (rs := [6, 10]) (by kernel_rfl) (by simp) ?_
    refine (AllReadyH.cons rfl (fun K hK => ?_) (AllReadyH.cons rfl (fun K hK => ?_) AllReadyH.nil))
    · go_simp
      go_at_call 56
      refine (HCK.out _ HBA1.out).mono ?_
      rintro e w5 ⟨rfl, hb5⟩
      have HBA2 := Lib.hid (HBA1.out.trans (hb5.mono HBA1.out.size))
      replace HKf := Lib.hid ((hb5.block _ (lt_block HKf.out)).trans HKf.out)
      have HSZ := Lib.hid hb5.size
      clear hb5
      go_simp
      refine hK.out _ _ ?_ (fun hHeld => ?_)
      · exact HSW.out.below HBA2.out
      clear hK K
      try simp only [Act.put, List.setIfInBounds_toArray, List.set_cons_zero, List.set_cons_succ, List.getElem_toArray, List.getElem_cons_zero, List.getElem_cons_succ]
      refine wpAnyH_take (i := 7) (v := ?_) rfl (by kernel_rfl) (by kernel_rfl) (by kernel_rfl) (fun _ _ _ h => h) (Or.inl ⟨by rfl, ?_⟩) (by assumption) ?_
      rotate_left 1
      · (intro w hSw; unfold S8 at hSw; go_simp; try with_reducible rfl)
      try simp only [Act.put, List.setIfInBounds_toArray, List.set_cons_zero, List.set_cons_succ, List.getElem_toArray, List.getElem_cons_zero, List.getElem_cons_succ]
      refine wpAnyH_take (i := 8) (v := ?_) rfl (by kernel_rfl) (by kernel_rfl) (by kernel_rfl) (fun _ _ _ h => h) (Or.inl ⟨by rfl, ?_⟩) (by assumption) ?_
      rotate_left 1
      · (intro w hSw; unfold S8 at hSw; go_simp; try with_reducible rfl)
      try simp only [Act.put, List.setIfInBounds_toArray, List.set_cons_zero, List.set_cons_succ, List.getElem_toArray, List.getElem_cons_zero, List.getElem_cons_succ]
      refine wpAnyH_take (i := 9) (v := ?_) rfl (by kernel_rfl) (by kernel_rfl) (by kernel_rfl) (fun _ _ _ h => h) (Or.inl ⟨by rfl, ?_⟩) (by assumption) ?_
      rotate_left 1
      · (intro w hSw; unfold S8 at hSw; go_simp; try with_reducible rfl)
      try simp only [Act.put, List.setIfInBounds_toArray, List.set_cons_zero, List.set_cons_succ, List.getElem_toArray, List.getElem_cons_zero, List.getElem_cons_succ]
      refine wpAnyH_ready (rs := [10]) (by kernel_rfl) (by simp) ?_
      refine (AllReadyH.cons rfl (fun K hK => ?_) AllReadyH.nil)
      go_simp
      have HBA3 : Hid (Below w3.heap.size w3 (w5.alloc (.cells #[.int .i64 0] 31))) := Lib.hid (up_alloc HBA2.out _)
      have HKt : Hid ((w5.alloc (.cells #[.int .i64 0] 31)).heap[w5.heap.size]? = some (.cells #[.int .i64 0] 31 (0, 0))) := Lib.hid (new_heap _ _ _ rfl)
      replace HKf : Hid ((w5.alloc (.cells #[.int .i64 0] 31)).heap[_]? = _) := Lib.hid (old_heap _ _ _ _ HKf.out)
      refine hK.out _ _ ?_ (fun hHeld => ?_)
      · exact HSW.out.below HBA3.out
      clear hK K
      try simp only [Act.put, List.setIfInBounds_toArray, List.set_cons_zero, List.set_cons_succ, List.getElem_toArray, List.getElem_cons_zero, List.getElem_cons_succ]
      obtain ⟨N3, hN3⟩ : ∃ N, N = w3.heap.size := ⟨_, rfl⟩
      have hs5 : w3.heap.size ≤ w5.heap.size := HBA2.out.size
      have hsz : w3.heap.size + 1 ≤ w5.heap.size := by have q := HSZ.out; rw [size_alloc] at q; exact q
      have f1 : Below N3 w3 (w5.alloc (.cells #[.int .i64 0] 31)) := by rw [hN3]; exact HBA3.out
      have f2 : (w5.alloc (.cells #[.int .i64 0] 31)).heap[w5.heap.size]? = some (.cells #[.int .i64 0] 31 (0, 0)) := by
        have q := HKt.out
        exact q
      have f3 : (w5.alloc (.cells #[.int .i64 0] 31)).heap[w3.heap.size]? = some (.cells #[.int .i64 0, .int .i64 0] 58 (0, 0)) := by
        have q := HKf.out
        exact q
      have f4 : N3 ≤ w5.heap.size ∧ N3 ≤ w3.heap.size ∧ ¬ w5.heap.size = w3.heap.size := by omega
      revert f1 f2 f3 f4
      generalize (w5.alloc (.cells #[.int .i64 0] 31)) = w6
      generalize w5.heap.size = TP
      generalize w3.heap.size = FP
      intro f1 f2 f3 f4
      rw [hN3] at f1 f4
      have HF1 := Lib.hid f1
      have HF2 := Lib.hid f2
      have HF3 := Lib.hid f3
      have HF4 := Lib.hid f4
      clear f1 f2 f3 f4 hN3 hs5 hsz HKt HKf
      have z0 : w6.cell? ⟨TP, 0, none⟩ = some (.int .i64 0) := cell_of HF2.out (j := 0) rfl
      have y0 : w6.frozen? ⟨TP, 0, none⟩ = false := frozen_of HF2.out 0
      refine wpAnyH_ready (rs := [12]) (by kernel_rfl) (by simp) ?_
      refine (AllReadyH.cons rfl (fun K hK => ?_) AllReadyH.nil)
      go_simp
      have HG1 : Hid (Below w3.heap.size w3 (w6.setCell ⟨TP, 0, none⟩ (.int .i64 t))) := Lib.hid (HF1.out.setCell (p := ⟨TP, 0, none⟩) HF4.out.1 _)
      have HG2 : Hid ((w6.setCell ⟨TP, 0, none⟩ (.int .i64 t)).heap[TP]? = some (.cells #[.int .i64 t] 31 (0, 0))) := Lib.hid (setCell_obj HF2.out 0 _)
      have HG3 : Hid ((w6.setCell ⟨TP, 0, none⟩ (.int .i64 t)).heap[FP]? = some (.cells #[.int .i64 0, .int .i64 0] 58 (0, 0))) := Lib.hid ((setCell_heap _ _ _ _ (fun e => HF4.out.2.2 e.symm)).trans HF3.out)
      refine hK.out _ _ ?_ (fun hHeld => ?_)
      · exact HSW.out.below HG1.out
      clear hK K
      try simp only [Act.put, List.setIfInBounds_toArray, List.set_cons_zero, List.set_cons_succ, List.getElem_toArray, List.getElem_cons_zero, List.getElem_cons_succ]
      clear z0 y0 HF1 HF2 HF3
      generalize (w6.setCell ⟨TP, 0, none⟩ (.int .i64 t)) = w7 at *
      have z0 : w7.cell? ⟨FP, 0, none⟩ = some (.int .i64 0) := cell_of HG3.out (j := 0) rfl
      have z1 : w7.cell? ⟨FP, 1, none⟩ = some (.int .i64 0) := cell_of HG3.out (j := 1) rfl
      have y0 : w7.frozen? ⟨FP, 0, none⟩ = false := frozen_of HG3.out 0
      have y1 : w7.frozen? ⟨FP, 1, none⟩ = false := frozen_of HG3.out 1
      refine wpAnyH_ready (rs := [13]) (by kernel_rfl) (by simp) ?_
      refine (AllReadyH.cons rfl (fun K hK => ?_) AllReadyH.nil)
      go_simp
      have HH1 := ((HG1.out.setCell (p := ⟨FP, 0, none⟩) HF4.out.2.1 (.int .i64 fe)).setCell (p := ⟨FP, 1, none⟩) HF4.out.2.1 (.int .i64 fa))
      refine hK.out _ _ ?_ (fun hHeld => ?_)
      · exact HSW.out.below HH1
      clear hK K
      try simp only [Act.put, List.setIfInBounds_toArray, List.set_cons_zero, List.set_cons_succ, List.getElem_toArray, List.getElem_cons_zero, List.getElem_cons_succ]
      refine wpAnyH_done (by kernel_rfl) ?_ _
      exact HL TP FP _ ⟨HH1, (setCell_heap _ _ _ _ HF4.out.2.2).trans ((setCell_heap _ _ _ _ HF4.out.2.2).trans HG2.out), setCell_obj (setCell_obj HG3.out 0 _) 1 _, HF4.out⟩
    go_simp
    have HBA2 : Hid (Below w3.heap.size w3 ((w3.drew.alloc (.cells #[.int .i64 0, .int .i64 0] 58)).alloc (.cells #[.int .i64 0] 31))) := Lib.hid (up_alloc HBA1.out _)
    have HKt : Hid (((w3.drew.alloc (.cells #[.int .i64 0, .int .i64 0] 58)).alloc (.cells #[.int .i64 0] 31)).heap[(w3.drew.alloc (.cells #[.int .i64 0, .int .i64 0] 58)).heap.size]? = some (.cells #[.int .i64 0] 31 (0, 0))) := Lib.hid (new_heap _ _ _ rfl)
    replace HKf : Hid (((w3.drew.alloc (.cells #[.int .i64 0, .int .i64 0] 58)).alloc (.cells #[.int .i64 0] 31)).heap[_]? = _) := Lib.hid (old_heap _ _ _ _ HKf.out)
    refine hK.out _ _ ?_ (fun hHeld => ?_)
    · exact HSW.out.below HBA2.out
    clear hK K
    try simp only [Act.put, List.setIfInBounds_toArray, List.set_cons_zero, List.set_cons_succ, List.getElem_toArray, List.getElem_cons_zero, List.getElem_cons_succ]
    refine wpAnyH_ready (rs := [6]) (by kernel_rfl) (by simp) ?_
    refine (AllReadyH.cons rfl (fun K hK => ?_) AllReadyH.nil)
    go_simp
    go_at_call 56
    refine (HCK.out _ HBA2.out).mono ?_
    rintro e w5 ⟨rfl, hb5⟩
    have HBA3 := Lib.hid (HBA2.out.trans (hb5.mono HBA2.out.size))
    replace HKf := Lib.hid ((hb5.block _ (lt_block HKf.out)).trans HKf.out)
    replace HKt := Lib.hid ((hb5.block _ (lt_block HKt.out)).trans HKt.out)
    have HSZ := Lib.hid hb5.size
    clear hb5
    go_simp
    refine hK.out _ _ ?_ (fun hHeld => ?_)
    · exact HSW.out.below HBA3.out
    clear hK K
    try simp only [Act.put, List.setIfInBounds_toArray, List.set_cons_zero, List.set_cons_succ, List.getElem_toArray, List.getElem_cons_zero, List.getElem_cons_succ]
    refine wpAnyH_take (i := 7) (v := ?_) rfl (by kernel_rfl) (by kernel_rfl) (by kernel_rfl) (fun _ _ _ h => h) (Or.inl ⟨by rfl, ?_⟩) (by assumption) ?_
    rotate_left 1
    · (intro w hSw; unfold S8 at hSw; go_simp; try with_reducible rfl)
    try simp only [Act.put, List.setIfInBounds_toArray, List.set_cons_zero, List.set_cons_succ, List.getElem_toArray, List.getElem_cons_zero, List.getElem_cons_succ]
    refine wpAnyH_take (i := 8) (v := ?_) rfl (by kernel_rfl) (by kernel_rfl) (by kernel_rfl) (fun _ _ _ h => h) (Or.inl ⟨by rfl, ?_⟩) (by assumption) ?_
    rotate_left 1
    · (intro w hSw; unfold S8 at hSw; go_simp; try with_reducible rfl)
    try simp only [Act.put, List.setIfInBounds_toArray, List.set_cons_zero, List.set_cons_succ, List.getElem_toArray, List.getElem_cons_zero, List.getElem_cons_succ]
    refine wpAnyH_take (i := 9) (v := ?_) rfl (by kernel_rfl) (by kernel_rfl) (by kernel_rfl) (fun _ _ _ h => h) (Or.inl ⟨by rfl, ?_⟩) (by assumption) ?_
    rotate_left 1
    · (intro w hSw; unfold S8 at hSw; go_simp; try with_reducible rfl)
    try simp only [Act.put, List.setIfInBounds_toArray, List.set_cons_zero, List.set_cons_succ, List.getElem_toArray, List.getElem_cons_zero, List.getElem_cons_succ]
    obtain ⟨N3, hN3⟩ : ∃ N, N = w3.heap.size := ⟨_, rfl⟩
    have hs5 : w3.heap.size ≤ w5.heap.size := HBA3.out.size
    have f1 : Below N3 w3 w5 := by rw [hN3]; exact HBA3.out
    have f2 : w5.heap[w3.heap.size + 1]? = some (.cells #[.int .i64 0] 31 (0, 0)) := by
      have q := HKt.out
      rw [size_alloc] at q
      exact q
    have f3 : w5.heap[w3.heap.size]? = some (.cells #[.int .i64 0, .int .i64 0] 58 (0, 0)) := by
      have q := HKf.out
      exact q
    have f4 : N3 ≤ w3.heap.size + 1 ∧ N3 ≤ w3.heap.size ∧ ¬ w3.heap.size + 1 = w3.heap.size := by omega
    revert f1 f2 f3 f4
    generalize w5 = w6
    generalize w3.heap.size + 1 = TP
    generalize w3.heap.size = FP
    intro f1 f2 f3 f4
    rw [hN3] at f1 f4
    have HF1 := Lib.hid f1
    have HF2 := Lib.hid f2
    have HF3 := Lib.hid f3
    have HF4 := Lib.hid f4
    clear f1 f2 f3 f4 hN3 hs5 HKt HKf
    have z0 : w6.cell? ⟨TP, 0, none⟩ = some (.int .i64 0) := cell_of HF2.out (j := 0) rfl
    have y0 : w6.frozen? ⟨TP, 0, none⟩ = false := frozen_of HF2.out 0
    refine wpAnyH_ready (rs := [12]) (by kernel_rfl) (by simp) ?_
    refine (AllReadyH.cons rfl (fun K hK => ?_) AllReadyH.nil)
    go_simp
    have HG1 : Hid (Below w3.heap.size w3 (w6.setCell ⟨TP, 0, none⟩ (.int .i64 t))) := Lib.hid (HF1.out.setCell (p := ⟨TP, 0, none⟩) HF4.out.1 _)
    have HG2 : Hid ((w6.setCell ⟨TP, 0, none⟩ (.int .i64 t)).heap[TP]? = some (.cells #[.int .i64 t] 31 (0, 0))) := Lib.hid (setCell_obj HF2.out 0 _)
    have HG3 : Hid ((w6.setCell ⟨TP, 0, none⟩ (.int .i64 t)).heap[FP]? = some (.cells #[.int .i64 0, .int .i64 0] 58 (0, 0))) := Lib.hid ((setCell_heap _ _ _ _ (fun e => HF4.out.2.2 e.symm)).trans HF3.out)
    refine hK.out _ _ ?_ (fun hHeld => ?_)
    · exact HSW.out.below HG1.out
    clear hK K
    try simp only [Act.put, List.setIfInBounds_toArray, List.set_cons_zero, List.set_cons_succ, List.getElem_toArray, List.getElem_cons_zero, List.getElem_cons_succ]
    clear z0 y0 HF1 HF2 HF3
    generalize (w6.setCell ⟨TP, 0, none⟩ (.int .i64 t)) = w7 at *
    have z0 : w7.cell? ⟨FP, 0, none⟩ = some (.int .i64 0) := cell_of HG3.out (j := 0) rfl
    have z1 : w7.cell? ⟨FP, 1, none⟩ = some (.int .i64 0) := cell_of HG3.out (j := 1) rfl
    have y0 : w7.frozen? ⟨FP, 0, none⟩ = false := frozen_of HG3.out 0
    have y1 : w7.frozen? ⟨FP, 1, none⟩ = false := frozen_of HG3.out 1
    refine wpAnyH_ready (rs := [13]) (by kernel_rfl) (by simp) ?_
    refine (AllReadyH.cons rfl (fun K hK => ?_) AllReadyH.nil)
    go_simp
    have HH1 := ((HG1.out.setCell (p := ⟨FP, 0, none⟩) HF4.out.2.1 (.int .i64 fe)).setCell (p := ⟨FP, 1, none⟩) HF4.out.2.1 (.int .i64 fa))
    refine hK.out _ _ ?_ (fun hHeld => ?_)
    · exact HSW.out.below HH1
    clear hK K
    try simp only [Act.put, List.setIfInBounds_toArray, List.set_cons_zero, List.set_cons_succ, List.getElem_toArray, List.getElem_cons_zero, List.getElem_cons_succ]
    refine wpAnyH_done (by kernel_rfl) ?_ _
    exact HL TP FP _ ⟨HH1, (setCell_heap _ _ _ _ HF4.out.2.2).trans ((setCell_heap _ _ _ _ HF4.out.2.2).trans HG2.out), setCell_obj (setCell_obj HG3.out 0 _) 1 _, HF4.out⟩
    rintro TP FP w8 ⟨hh1, hh2, hh3, hh4⟩
    have HH2 := Lib.hid hh2
    have HH3 := Lib.hid hh3
    have HF4 := Lib.hid hh4
    have HTB1 := Lib.hid ((hh1.block _ (lt_block HTB.out)).trans HTB.out)
    have HB0 := HBX
    replace HBX := Lib.hid (HBX.out.below hh1)
    replace HB := Lib.hid (HB.out.trans (hh1.mono (Nat.le_of_lt (lt_block HB0.out.c))))
    clear HB0
    have HLE : Hid ((CP ≤ TP ∧ CP ≤ FP) ∧ (CP ≠ FP ∧ SP ≠ FP ∧ VP ≠ FP ∧ RB ≠ FP) ∧ RB ≠ TP ∧ ¬ TP = FP) := Lib.hid (by have q := HCPL.out; omega)
    clear HSW HNB HTB HCX HST HCK hh1 hh2 hh3 hh4
    have HCX := Lib.hid (HCT.out.below (by rw [HXR.out.1]; exact HB.out))
    have HST : Hid (Stays Any w w8) := Lib.hid (Stays.of_below (by rw [HXR.out.1]; exact HB.out))
    go_upto_region 7 with fail
    have HFN := Lib.hid (fns3 (clo_1 HH3.out) (clo_2 (by rw [← HN.out.1]; exact hn0) (HES.out.keep HST.out) HH2.out HBX.out.s) (clo_3 HTB1.out HBX.out.s) w8 (Below.refl _ _) 80)
    generalize hq : firstF [(fe, fa), noC (t != 0) 51 (es.headD default).pos, noC (!is) 53 pos] = q at *
    obtain ⟨ge, ga⟩ := q
    have HFC := Lib.hid (first_ck _ _ _ HFN.out)
    rw [hq] at HFC
    clear hq HFN
    unfold fltV at HFC
    dsimp only at HFC
    go_wp2_with fail
    refine HFC.out.mono ?_
    rintro e w9 ⟨rfl, hb9⟩
    have hb9' : Below w8.heap.size w8 w9 := up_trans (up_alloc (Below.refl _ _) _) hb9
    have HB0 := HBX
    replace HBX := Lib.hid (HBX.out.below hb9')
    replace HB := Lib.hid (HB.out.trans (hb9'.mono (Nat.le_of_lt (lt_block HB0.out.c))))
    clear HB0
    have HJ2 := Lib.hid ((hb9'.block _ (lt_block HH2.out)).trans HH2.out)
    have HJ3 := Lib.hid ((hb9'.block _ (lt_block HH3.out)).trans HH3.out)
    clear hb9 hb9' HH2 HH3
    have z0 : w9.cell? ⟨FP, 0, none⟩ = some (.int .i64 fe) := cell_of HJ3.out (j := 0) rfl
    have z1 : w9.cell? ⟨FP, 1, none⟩ = some (.int .i64 fa) := cell_of HJ3.out (j := 1) rfl
    have y0 : w9.frozen? ⟨FP, 0, none⟩ = false := frozen_of HJ3.out 0
    have y1 : w9.frozen? ⟨FP, 1, none⟩ = false := frozen_of HJ3.out 1
    go_upto_region 8 with fail
    have HJ4 : Hid (((w9.setCell ⟨FP, 0, none⟩ (.int .i64 ge)).setCell ⟨FP, 1, none⟩ (.int .i64 ga)).heap[TP]? = some (.cells #[.int .i64 t] 31 (0, 0))) := Lib.hid ((setCell_heap _ _ _ _ HLE.out.2.2.2).trans ((setCell_heap _ _ _ _ HLE.out.2.2.2).trans HJ2.out))
    have HJ5 : Hid (((w9.setCell ⟨FP, 0, none⟩ (.int .i64 ge)).setCell ⟨FP, 1, none⟩ (.int .i64 ga)).heap[FP]? = some (.cells #[.int .i64 ge, .int .i64 ga] 58 (0, 0))) := Lib.hid (setCell_obj (setCell_obj HJ3.out 0 _) 1 _)
    have HBY : Hid (BoxA ((w9.setCell ⟨FP, 0, none⟩ (.int .i64 ge)).setCell ⟨FP, 1, none⟩ (.int .i64 ga)) cb vr CP SP VP RB _) := Lib.hid ((HBX.out.set FP 0 _ HLE.out.2.1).set FP 1 _ HLE.out.2.1)
    have HBZ : Hid (Below CP w ((w9.setCell ⟨FP, 0, none⟩ (.int .i64 ge)).setCell ⟨FP, 1, none⟩ (.int .i64 ga))) := Lib.hid ((HB.out.setCell (p := ⟨FP, 0, none⟩) HLE.out.1.2 _).setCell (p := ⟨FP, 1, none⟩) HLE.out.1.2 _)
    clear z0 z1 y0 y1 HBX HB HJ2 HJ3 HCX HST HTB1
    generalize ((w9.setCell ⟨FP, 0, none⟩ (.int .i64 ge)).setCell ⟨FP, 1, none⟩ (.int .i64 ga)) = w10 at *
    have HCX := Lib.hid (HCT.out.below (by rw [HXR.out.1]; exact HBZ.out))
    have HWC := Lib.hid (fun W (hW : Below w10.heap.size w10 W) => with_any vr v text t false W (HCX.out.view.below hW))
    have HSX : Hid (w10.cell? ⟨VP, 0, none⟩ = some (.map (some vr)) ∧ w10.cell? ⟨SP, 1, none⟩ = some (.string text) ∧ w10.cell? ⟨TP, 0, none⟩ = some (.int .i64 t) ∧ w10.cell? ⟨FP, 0, none⟩ = some (.int .i64 ge) ∧ w10.cell? ⟨FP, 1, none⟩ = some (.int .i64 ga)) := Lib.hid ⟨cell_of HBY.out.v (j := 0) rfl, cell_of HBY.out.s (j := 1) rfl, cell_of HJ4.out (j := 0) rfl, cell_of HJ5.out (j := 0) rfl, cell_of HJ5.out (j := 1) rfl⟩
    have HSD : Hid (w10.drew.cell? ⟨VP, 0, none⟩ = some (.map (some vr)) ∧ w10.drew.cell? ⟨SP, 1, none⟩ = some (.string text) ∧ w10.drew.cell? ⟨TP, 0, none⟩ = some (.int .i64 t) ∧ w10.drew.cell? ⟨FP, 0, none⟩ = some (.int .i64 ge) ∧ w10.drew.cell? ⟨FP, 1, none⟩ = some (.int .i64 ga)) := Lib.hid HSX.out
    have hsd := HSD.out
    refine wp_region_held (S := (fun w' : World => w'.cell? ⟨VP, 0, none⟩ = some (.map (some vr)) ∧ w'.cell? ⟨SP, 1, none⟩ = some (.string text) ∧ w'.cell? ⟨TP, 0, none⟩ = some (.int .i64 t) ∧ w'.cell? ⟨FP, 0, none⟩ = some (.int .i64 ge) ∧ w'.cell? ⟨FP, 1, none⟩ = some (.int .i64 ga))) (by kernel_rfl) ?_
    refine wpAnyH_take (i := 0) (v := ?_) rfl (by kernel_rfl) (by kernel_rfl) (by kernel_rfl) (fun _ _ _ h => h) (Or.inl ⟨by rfl, ?_⟩) (by assumption) ?_
    rotate_left 1
    · (intro w hSw; (try dsimp only at hSw); go_simp; try with_reducible rfl)
    try simp only [Act.put, List.setIfInBounds_toArray, List.set_cons_zero, List.set_cons_succ, List.getElem_toArray, List.getElem_cons_zero]
    refine wpAnyH_take (i := 1) (v := ?_) rfl (by kernel_rfl) (by kernel_rfl) (by kernel_rfl) (fun _ _ _ h => h) (Or.inl ⟨by rfl, ?_⟩) (by assumption) ?_
    rotate_left 1
    · (intro w hSw; (try dsimp only at hSw); go_simp; try with_reducible rfl)
    try simp only [Act.put, List.setIfInBounds_toArray, List.set_cons_zero, List.set_cons_succ, List.getElem_toArray, List.getElem_cons_zero, List.getElem_cons_succ]
    refine wpAnyH_take (i := 2) (v := ?_) rfl (by kernel_rfl) (by kernel_rfl) (by kernel_rfl) (fun _ _ _ h => h) (Or.inl ⟨by rfl, ?_⟩) (by assumption) ?_
    rotate_left 1
    · (intro w hSw; (try dsimp only at hSw); go_simp; try with_reducible rfl)
    try simp only [Act.put, List.setIfInBounds_toArray, List.set_cons_zero, List.set_cons_succ, List.getElem_toArray, List.getElem_cons_zero, List.getElem_cons_succ]
    refine wpAnyH_take (i := 3) (v := ?_) rfl (by kernel_rfl) (by kernel_rfl) (by kernel_rfl) (fun _ _ _ h => h) (Or.inl ⟨by rfl, ?_⟩) (by assumption) ?_
    rotate_left 1
    · (intro w hSw; (try dsimp only at hSw); go_simp; try with_reducible rfl)
    try simp only [Act.put, List.setIfInBounds_toArray, List.set_cons_zero, List.set_cons_succ, List.getElem_toArray, List.getElem_cons_zero, List.getElem_cons_succ]
    refine wpAnyH_take (i := 4) (v := ?_) rfl (by kernel_rfl) (by kernel_rfl) (by kernel_rfl) (fun _ _ _ h => h) (Or.inl ⟨by rfl, ?_⟩) (by assumption) ?_
    rotate_left 1
    · (intro w hSw; (try dsimp only at hSw); go_simp; try with_reducible rfl)
    try simp only [Act.put, List.setIfInBounds_toArray, List.set_cons_zero, List.set_cons_succ, List.getElem_toArray, List.getElem_cons_zero, List.getElem_cons_succ]
    refine wpAnyH_take (i := 6) (v := ?_) rfl (by kernel_rfl) (by kernel_rfl) (by kernel_rfl) (fun _ _ _ h => h) (Or.inl ⟨by rfl, ?_⟩) (by assumption) ?_
    rotate_left 1
    · (intro w hSw; (try dsimp only at hSw); go_simp; try with_reducible rfl)
    try simp only [Act.put, List.setIfInBounds_toArray, List.set_cons_zero, List.set_cons_succ, List.getElem_toArray, List.getElem_cons_zero, List.getElem_cons_succ]
    clear hsd
    refine wpAnyH_ready (rs := [5]) (by kernel_rfl) (by simp) ?_
    refine (AllReadyH.cons rfl (fun K hK => ?_) AllReadyH.nil)
    go_simp
    go_at_call 60
    refine (HWC.out _ (up_drew (Below.refl _ _))).mono ?_
    rintro e w11 ⟨r2, rfl, hv2, hb11⟩
    have HB11 : Hid (Below w10.heap.size w10 w11) := Lib.hid (up_trans (up_drew (Below.refl _ _)) hb11)
    have HV2 := Lib.hid hv2
    have HBQ := Lib.hid (HBY.out.below HB11.out)
    clear hb11 hv2
    go_simp
    refine hK.out _ _ ?_ (fun hHeld => ?_)
    · (try dsimp only)
      have q := HSX.out
      exact ⟨(HB11.out.cell (lt_of_cell q.1)).trans q.1, (HB11.out.cell (lt_of_cell q.2.1)).trans q.2.1, (HB11.out.cell (lt_of_cell q.2.2.1)).trans q.2.2.1, (HB11.out.cell (lt_of_cell q.2.2.2.1)).trans q.2.2.2.1, (HB11.out.cell (lt_of_cell q.2.2.2.2)).trans q.2.2.2.2⟩
    clear hK K
    try simp only [Act.put, List.setIfInBounds_toArray, List.set_cons_zero, List.set_cons_succ, List.getElem_toArray, List.getElem_cons_zero, List.getElem_cons_succ]
    refine wpAnyH_ready (rs := [7]) (by kernel_rfl) (by simp) ?_
    refine (AllReadyH.cons rfl (fun K hK => ?_) AllReadyH.nil)
    go_simp
    refine hK.out _ _ ?_ (fun hHeld => ?_)
    · (try dsimp only)
      have q := HSX.out
      exact ⟨(HB11.out.cell (lt_of_cell q.1)).trans q.1, (HB11.out.cell (lt_of_cell q.2.1)).trans q.2.1, (HB11.out.cell (lt_of_cell q.2.2.1)).trans q.2.2.1, (HB11.out.cell (lt_of_cell q.2.2.2.1)).trans q.2.2.2.1, (HB11.out.cell (lt_of_cell q.2.2.2.2)).trans q.2.2.2.2⟩
    clear hK K
    try simp only [Act.put, List.setIfInBounds_toArray, List.set_cons_zero, List.set_cons_succ, List.getElem_toArray, List.getElem_cons_zero, List.getElem_cons_succ]
    have r0 : w11.cell? ⟨RB, 0, none⟩ = some (.int .i64 0) := cell_of HBQ.out.r (j := 0) rfl
    have r1 : w11.cell? ⟨RB, 1, none⟩ = some (.int .i64 0) := cell_of HBQ.out.r (j := 1) rfl
    have k0 : w11.frozen? ⟨RB, 0, none⟩ = false := frozen_of HBQ.out.r 0
    have k1 : w11.frozen? ⟨RB, 1, none⟩ = false := frozen_of HBQ.out.r 1
    refine wpAnyH_ready (rs := [8]) (by kernel_rfl) (by simp) ?_
    refine (AllReadyH.cons rfl (fun K hK => ?_) AllReadyH.nil)
    go_simp
    refine hK.out _ _ ?_ (fun hHeld => ?_)
    · (try dsimp only)
      have q := HSX.out
      exact ⟨(cell_set_ne _ _ (Or.inl HNE.out.2.2)).trans ((cell_set_ne _ _ (Or.inl HNE.out.2.2)).trans ((HB11.out.cell (lt_of_cell q.1)).trans q.1)), (cell_set_ne _ _ (Or.inl HNE.out.2.1)).trans ((cell_set_ne _ _ (Or.inl HNE.out.2.1)).trans ((HB11.out.cell (lt_of_cell q.2.1)).trans q.2.1)), (cell_set_ne _ _ (Or.inl HLE.out.2.2.1)).trans ((cell_set_ne _ _ (Or.inl HLE.out.2.2.1)).trans ((HB11.out.cell (lt_of_cell q.2.2.1)).trans q.2.2.1)), (cell_set_ne _ _ (Or.inl HLE.out.2.1.2.2.2)).trans ((cell_set_ne _ _ (Or.inl HLE.out.2.1.2.2.2)).trans ((HB11.out.cell (lt_of_cell q.2.2.2.1)).trans q.2.2.2.1)), (cell_set_ne _ _ (Or.inl HLE.out.2.1.2.2.2)).trans ((cell_set_ne _ _ (Or.inl HLE.out.2.1.2.2.2)).trans ((HB11.out.cell (lt_of_cell q.2.2.2.2)).trans q.2.2.2.2))⟩
    clear hK K
    try simp only [Act.put, List.setIfInBounds_toArray, List.set_cons_zero, List.set_cons_succ, List.getElem_toArray, List.getElem_cons_zero, List.getElem_cons_succ]
    refine wpAnyH_done (by kernel_rfl) ?_ _
    go_wp2_with fail
    have hfin := ((HBZ.out.trans (HB11.out.mono (Nat.le_of_lt (lt_block HBY.out.c)))).setCell (p := ⟨RB, 0, none⟩) HXR.out.2.2 (.int .i64 ge)).setCell (p := ⟨RB, 1, none⟩) HXR.out.2.2 (.int .i64 ga)
    rw [← HXR.out.1] at hfin
    refine bodyPost_ret (v := .tuple #[.map (some r2), .agg #[.int .i64 ge, .int .i64 ga]]) (by simp [results, Try.results39, go_sem, r0, r1]) rfl ⟨r2, by rw [HC.out]; rfl, ?_, hfin⟩
    rw [HC.out]
    exact view_set (view_set HV2.out HBQ.out.r 0 _) (setCell_obj HBQ.out.r 0 _) 1 _
  by_cases h8 : op = 8
  · subst h8
    replace HC := Lib.hid (HC.out.trans (st_8 F res text es body els pos v HSH.out))
    have hn0 : 0 < n1 := by have q : (n1 == 1 && n2 == 0 && n3 == 0) = true := hsh; rw [Bool.and_eq_true, Bool.and_eq_true] at q; have := eq_of_beq q.1.1; omega
    have s0 : w3.cell? ⟨SP, 0, none⟩ = some (.int .i64 8) := cell_of HBX.out.s (j := 0) rfl
    go_upto_region 22 with fail
    clear s0
    obtain ⟨xb, xoff, xop, xnum, xt, xs, xn, xc, xpos, rfl, hn1, hbl, y0, y1, y2, y3, y4, hrep⟩ := first_cells (HES.out.keep HST.out) (by rw [← HN.out.1]; exact hn0)
    have HXP : Hid ((es.headD default).pos = xpos ∧ (es.headD default).op = xop) := Lib.hid (by obtain ⟨_, e, _⟩ := rep_parts hrep; rw [e]; exact ⟨rfl, rfl⟩)
    have gn0 : (0 : Int) < (n1 : Int) := by omega
    have HCK := Lib.hid (fun W1 (h1 : Below w3.heap.size w3 W1) => HEX.out (es.headD default) v vr W1 xop xnum xpos xt xs xn xc (HCX.out.below h1) (hrep.keep (Stays.of_below h1)))
    have HSW : Hid (S8 VP vr CP cb SP xb xoff n1 c1 xop xnum xt xs xn xc xpos w3) := Lib.hid ⟨cell_of HBX.out.v (j := 0) rfl, cell_of HBX.out.c (j := 0) rfl, cell_of HBX.out.s (j := 2) rfl, y0, y1, y2, y3, y4⟩
    clear hrep y0 y1 y2 y3 y4
    generalize exprC F v (es.headD default) = xr at *
    obtain ⟨t, fe, fa⟩ := xr
    unfold fltV at HCK
    dsimp only at HCK HC
    have hs0 : S8 VP vr CP cb SP xb xoff n1 c1 xop xnum xt xs xn xc xpos w3.drew := HSW.out.below (up_drew (Below.refl _ _))
    refine wp_region_held (S := S8 VP vr CP cb SP xb xoff n1 c1 xop xnum xt xs xn xc xpos) (by kernel_rfl) ?_
    refine wpAnyH_take (i := 0) (v := ?_) rfl (by kernel_rfl) (by kernel_rfl) (by kernel_rfl) (fun _ _ _ h => h) (Or.inl ⟨by rfl, ?_⟩) (by assumption) ?_
    rotate_left 1
    · (intro w hSw; unfold S8 at hSw; go_simp; try with_reducible rfl)
    try simp only [Act.put, List.setIfInBounds_toArray, List.set_cons_zero, List.set_cons_succ, List.getElem_toArray, List.getElem_cons_zero]
    refine wpAnyH_take (i := 1) (v := ?_) rfl (by kernel_rfl) (by kernel_rfl) (by kernel_rfl) (fun _ _ _ h => h) (Or.inl ⟨by rfl, ?_⟩) (by assumption) ?_
    rotate_left 1
    · (intro w hSw; unfold S8 at hSw; go_simp; try with_reducible rfl)
    try simp only [Act.put, List.setIfInBounds_toArray, List.set_cons_zero, List.set_cons_succ, List.getElem_toArray, List.getElem_cons_zero, List.getElem_cons_succ]
    refine wpAnyH_take (i := 2) (v := ?_) rfl (by kernel_rfl) (by kernel_rfl) (by kernel_rfl) (fun _ _ _ h => h) (Or.inl ⟨by rfl, ?_⟩) (by assumption) ?_
    rotate_left 1
    · (intro w hSw; unfold S8 at hSw; go_simp; try with_reducible rfl)
    try simp only [Act.put, List.setIfInBounds_toArray, List.set_cons_zero, List.set_cons_succ, List.getElem_toArray, List.getElem_cons_zero, List.getElem_cons_succ]
    refine wpAnyH_take (i := 3) (v := ?_) rfl (by kernel_rfl) (by kernel_rfl) (by kernel_rfl) (fun _ _ _ h => h) (Or.inl ⟨by rfl, ?_⟩) (by assumption) ?_
    rotate_left 1
    · (intro w hSw; unfold S8 at hSw; go_simp; try with_reducible rfl)
    try simp only [Act.put, List.setIfInBounds_toArray, List.set_cons_zero, List.set_cons_succ, List.getElem_toArray, List.getElem_cons_zero, List.getElem_cons_succ]
    refine wpAnyH_take (i := 4) (v := ?_) rfl (by kernel_rfl) (by kernel_rfl) (by kernel_rfl) (fun _ _ _ h => h) (Or.inl ⟨by rfl, ?_⟩) (by assumption) ?_
    rotate_left 1
    · (intro w hSw; unfold S8 at hSw; go_simp; try with_reducible rfl)
    try simp only [Act.put, List.setIfInBounds_toArray, List.set_cons_zero, List.set_cons_succ, List.getElem_toArray, List.getElem_cons_zero, List.getElem_cons_succ]
    refine wpAnyH_take (i := 5) (v := ?_) rfl (by kernel_rfl) (by kernel_rfl) (by kernel_rfl) (fun _ _ _ h => h) (Or.inl ⟨by rfl, ?_⟩) (by assumption) ?_
    rotate_left 1
    · (intro w hSw; unfold S8 at hSw; go_simp; try with_reducible rfl)
    try simp only [Act.put, List.setIfInBounds_toArray, List.set_cons_zero, List.set_cons_succ, List.getElem_toArray, List.getElem_cons_zero, List.getElem_cons_succ]
    have HBA0 : Hid (Below w3.heap.size w3 w3.drew) := Lib.hid (up_drew (Below.refl _ _))
    refine wpAnyH_ready (rs := [6, 10]) (by kernel_rfl) (by simp) ?_
    refine (AllReadyH.cons rfl (fun K hK => ?_) (AllReadyH.cons rfl (fun K hK => ?_) AllReadyH.nil))
    · go_simp
      go_at_call 56
      refine (HCK.out _ HBA0.out).mono ?_
      rintro e w5 ⟨rfl, hb5⟩
      have HBA1 := Lib.hid (HBA0.out.trans (hb5.mono HBA0.out.size))
      clear hb5 hs0
      go_simp
      refine hK.out _ _ ?_ (fun hHeld => ?_)
      · exact HSW.out.below HBA1.out
      clear hK K
      try simp only [Act.put, List.setIfInBounds_toArray, List.set_cons_zero, List.set_cons_succ, List.getElem_toArray, List.getElem_cons_zero, List.getElem_cons_succ]
      refine wpAnyH_take (i := 7) (v := ?_) rfl (by kernel_rfl) (by kernel_rfl) (by kernel_rfl) (fun _ _ _ h => h) (Or.inl ⟨by rfl, ?_⟩) (by assumption) ?_
      rotate_left 1
      · (intro w hSw; unfold S8 at hSw; go_simp; try with_reducible rfl)
      try simp only [Act.put, List.setIfInBounds_toArray, List.set_cons_zero, List.set_cons_succ, List.getElem_toArray, List.getElem_cons_zero, List.getElem_cons_succ]
      refine wpAnyH_take (i := 8) (v := ?_) rfl (by kernel_rfl) (by kernel_rfl) (by kernel_rfl) (fun _ _ _ h => h) (Or.inl ⟨by rfl, ?_⟩) (by assumption) ?_
      rotate_left 1
      · (intro w hSw; unfold S8 at hSw; go_simp; try with_reducible rfl)
      try simp only [Act.put, List.setIfInBounds_toArray, List.set_cons_zero, List.set_cons_succ, List.getElem_toArray, List.getElem_cons_zero, List.getElem_cons_succ]
      refine wpAnyH_take (i := 9) (v := ?_) rfl (by kernel_rfl) (by kernel_rfl) (by kernel_rfl) (fun _ _ _ h => h) (Or.inl ⟨by rfl, ?_⟩) (by assumption) ?_
      rotate_left 1
      · (intro w hSw; unfold S8 at hSw; go_simp; try with_reducible rfl)
      try simp only [Act.put, List.setIfInBounds_toArray, List.set_cons_zero, List.set_cons_succ, List.getElem_toArray, List.getElem_cons_zero, List.getElem_cons_succ]
      refine wpAnyH_ready (rs := [10]) (by kernel_rfl) (by simp) ?_
      refine (AllReadyH.cons rfl (fun K hK => ?_) AllReadyH.nil)
      go_simp
      have HBA2 : Hid (Below w3.heap.size w3 (w5.alloc (.cells #[.int .i64 0, .int .i64 0] 58))) := Lib.hid (up_alloc HBA1.out _)
      have HKf : Hid ((w5.alloc (.cells #[.int .i64 0, .int .i64 0] 58)).heap[w5.heap.size]? = some (.cells #[.int .i64 0, .int .i64 0] 58 (0, 0))) := Lib.hid (new_heap _ _ _ rfl)
      refine hK.out _ _ ?_ (fun hHeld => ?_)
      · exact HSW.out.below HBA2.out
      clear hK K
      try simp only [Act.put, List.setIfInBounds_toArray, List.set_cons_zero, List.set_cons_succ, List.getElem_toArray, List.getElem_cons_zero, List.getElem_cons_succ]
      refine wpAnyH_take (i := 11) (v := ?_) rfl (by kernel_rfl) (by kernel_rfl) (by kernel_rfl) (fun _ _ _ h => h) (Or.inl ⟨by rfl, ?_⟩) (by assumption) ?_
      rotate_left 1
      · (intro w hSw; unfold S8 at hSw; go_simp; try with_reducible rfl)
      try simp only [Act.put, List.setIfInBounds_toArray, List.set_cons_zero, List.set_cons_succ, List.getElem_toArray, List.getElem_cons_zero, List.getElem_cons_succ]
      have HBF : Hid (Below w3.heap.size w3 (w5.alloc (.cells #[.int .i64 fe, .int .i64 fa] 58))) := Lib.hid (up_alloc HBA1.out _)
      have HKF : Hid ((w5.alloc (.cells #[.int .i64 fe, .int .i64 fa] 58)).heap[(w5.heap.size)]? = some (.cells #[.int .i64 fe, .int .i64 fa] 58 (0, 0))) := Lib.hid (new_heap _ _ _ rfl)
      refine wpAnyH_ready (rs := [12]) (by kernel_rfl) (by simp) ?_
      refine (AllReadyH.cons rfl (fun K hK => ?_) AllReadyH.nil)
      go_simp
      refine hK.out _ _ ?_ (fun hHeld => ?_)
      · exact HSW.out.below HBF.out
      clear hK K
      try simp only [Act.put, List.setIfInBounds_toArray, List.set_cons_zero, List.set_cons_succ, List.getElem_toArray, List.getElem_cons_zero, List.getElem_cons_succ]
      refine wpAnyH_done (by kernel_rfl) ?_ _
      have HB0 := HBX
      replace HBX := Lib.hid (HBX.out.below HBF.out)
      replace HB := Lib.hid (HB.out.trans (HBF.out.mono (Nat.le_of_lt (lt_block HB0.out.c))))
      clear HB0
      clear HSW HNB HTB HCX HST HCK
      generalize (w5.alloc (.cells #[.int .i64 fe, .int .i64 fa] 58)) = w6 at *
      have HCX := Lib.hid (HCT.out.below (by rw [HXR.out.1]; exact HB.out))
      have HST : Hid (Stays Any w w6) := Lib.hid (Stays.of_below (by rw [HXR.out.1]; exact HB.out))
      go_upto_region 23 with fail
      have HE := Lib.hid (HC.out.trans (rfl))
      have HFN := Lib.hid (fns2 (clo_15 HKF.out) (clo_16 (by rw [← HN.out.1]; exact hn0) (HES.out.keep HST.out) HBX.out.s) w6.drew (Below.refl _ _).drew 80)
      generalize hq : firstF [(fe, fa), noC ((es.headD default).op == 5) 51 (es.headD default).pos] = q at *
      obtain ⟨fe, fa⟩ := q
      have HFC := Lib.hid (first_ck _ _ _ HFN.out)
      rw [hq] at HFC
      clear hq HFN
      unfold fltV at HFC
      dsimp only at HFC
      have HS0 : Hid (w6.drew.cell? ⟨VP, 0, none⟩ = some (.map (some vr))) := Lib.hid (cell_of HBX.out.v (j := 0) rfl)
      have hs0 := HS0.out
      refine wp_region_split (S := (fun w' : World => w'.cell? ⟨VP, 0, none⟩ = some (.map (some vr)))) 5 (by kernel_rfl) (by kernel_rfl) (by exact HS0.out) (fun hHeld => ?_)
      simp only [List.take_succ_cons, List.take_zero, List.drop_succ_cons, List.drop_zero]
      refine wpAnyH_take (i := 0) (v := ?_) rfl (by kernel_rfl) (by kernel_rfl) (by kernel_rfl) (fun _ _ _ h => h) (Or.inl ⟨by rfl, ?_⟩) (by assumption) ?_
      rotate_left 1
      · (intro w hSw; (try dsimp only at hSw); go_simp; try with_reducible rfl)
      try simp only [Act.put, List.setIfInBounds_toArray, List.set_cons_zero, List.set_cons_succ, List.getElem_toArray, List.getElem_cons_zero]
      refine wpAnyH_take (i := 1) (v := ?_) rfl (by kernel_rfl) (by kernel_rfl) (by kernel_rfl) (fun _ _ _ h => h) (Or.inl ⟨by rfl, ?_⟩) (by assumption) ?_
      rotate_left 1
      · (intro w hSw; (try dsimp only at hSw); go_simp; try with_reducible rfl)
      try simp only [Act.put, List.setIfInBounds_toArray, List.set_cons_zero, List.set_cons_succ, List.getElem_toArray, List.getElem_cons_zero, List.getElem_cons_succ]
      refine wpAnyH_take (i := 2) (v := ?_) rfl (by kernel_rfl) (by kernel_rfl) (by kernel_rfl) (fun _ _ _ h => h) (Or.inl ⟨by rfl, ?_⟩) (by assumption) ?_
      rotate_left 1
      · (intro w hSw; (try dsimp only at hSw); go_simp; try with_reducible rfl)
      try simp only [Act.put, List.setIfInBounds_toArray, List.set_cons_zero, List.set_cons_succ, List.getElem_toArray, List.getElem_cons_zero, List.getElem_cons_succ]
      refine wpAnyH_ready (rs := [3]) (by kernel_rfl) (by simp) ?_
      refine (AllReadyH.cons rfl (fun K hK => ?_) AllReadyH.nil)
      go_simp
      refine hK.out _ _ ?_ (fun hHeld => ?_)
      · (try dsimp only)
        exact old_cell _ HS0.out
      clear hK K
      try simp only [Act.put, List.setIfInBounds_toArray, List.set_cons_zero, List.set_cons_succ, List.getElem_toArray, List.getElem_cons_zero, List.getElem_cons_succ]
      refine wpAnyH_ready (rs := [4]) (by kernel_rfl) (by simp) ?_
      refine (AllReadyH.cons rfl (fun K hK => ?_) AllReadyH.nil)
      go_simp
      go_at_call 22
      refine HFC.out.mono ?_
      rintro e w5 ⟨rfl, hb5⟩
      have hb5' : Below w6.heap.size w6 w5 := up_trans (up_alloc (up_drew (Below.refl _ _)) _) hb5
      have HB0 := HBX
      replace HBX := Lib.hid (HBX.out.below hb5')
      replace HB := Lib.hid (HB.out.trans (hb5'.mono (Nat.le_of_lt (lt_block HB0.out.c))))
      clear HB0
      have HS5 : Hid (w5.cell? ⟨VP, 0, none⟩ = some (.map (some vr))) := Lib.hid (cell_of HBX.out.v (j := 0) rfl)
      clear hb5 hb5' hs0
      go_simp
      refine hK.out _ _ ?_ (fun hHeld => ?_)
      · (try dsimp only)
        exact HS5.out
      clear hK K
      try simp only [Act.put, List.setIfInBounds_toArray, List.set_cons_zero, List.set_cons_succ, List.getElem_toArray, List.getElem_cons_zero, List.getElem_cons_succ]
      refine wpAnyH_done (by kernel_rfl) ?_ _
      dsimp only [TailQ]
      have r0 : w5.cell? ⟨RB, 0, none⟩ = some (.int .i64 0) := cell_of HBX.out.r (j := 0) rfl
      have r1 : w5.cell? ⟨RB, 1, none⟩ = some (.int .i64 0) := cell_of HBX.out.r (j := 1) rfl
      have k0 : w5.frozen? ⟨RB, 0, none⟩ = false := frozen_of HBX.out.r 0
      have k1 : w5.frozen? ⟨RB, 1, none⟩ = false := frozen_of HBX.out.r 1
      go_wp2_with fail
      have hfin := (HB.out.setCell (p := ⟨RB, 0, none⟩) HXR.out.2.2 (.int .i64 fe)).setCell (p := ⟨RB, 1, none⟩) HXR.out.2.2 (.int .i64 fa)
      rw [← HXR.out.1] at hfin
      refine bodyPost_ret (v := .tuple #[.map (some vr), .agg #[.int .i64 fe, .int .i64 fa]]) (by simp [results, Try.results39, go_sem, r0, r1]) rfl ⟨vr, by rw [HE.out]; rfl, ?_, hfin⟩
      rw [HE.out]
      exact HCT.out.view.below hfin
    go_simp
    have HBA1 : Hid (Below w3.heap.size w3 (w3.drew.alloc (.cells #[.int .i64 0, .int .i64 0] 58))) := Lib.hid (up_alloc HBA0.out _)
    have HKf : Hid ((w3.drew.alloc (.cells #[.int .i64 0, .int .i64 0] 58)).heap[w3.drew.heap.size]? = some (.cells #[.int .i64 0, .int .i64 0] 58 (0, 0))) := Lib.hid (new_heap _ _ _ rfl)
    clear hs0
    refine hK.out _ _ ?_ (fun hHeld => ?_)
    · exact HSW.out.below HBA1.out
    clear hK K
    try simp only [Act.put, List.setIfInBounds_toArray, List.set_cons_zero, List.set_cons_succ, List.getElem_toArray, List.getElem_cons_zero, List.getElem_cons_succ]
    refine wpAnyH_ready (rs := [6]) (by kernel_rfl) (by simp) ?_
    refine (AllReadyH.cons rfl (fun K hK => ?_) AllReadyH.nil)
    go_simp
    go_at_call 56
    refine (HCK.out _ HBA1.out).mono ?_
    rintro e w5 ⟨rfl, hb5⟩
    have HBA2 := Lib.hid (HBA1.out.trans (hb5.mono HBA1.out.size))
    replace HKf := Lib.hid ((hb5.block _ (lt_block HKf.out)).trans HKf.out)
    clear hb5
    go_simp
    refine hK.out _ _ ?_ (fun hHeld => ?_)
    · exact HSW.out.below HBA2.out
    clear hK K
    try simp only [Act.put, List.setIfInBounds_toArray, List.set_cons_zero, List.set_cons_succ, List.getElem_toArray, List.getElem_cons_zero, List.getElem_cons_succ]
    refine wpAnyH_take (i := 7) (v := ?_) rfl (by kernel_rfl) (by kernel_rfl) (by kernel_rfl) (fun _ _ _ h => h) (Or.inl ⟨by rfl, ?_⟩) (by assumption) ?_
    rotate_left 1
    · (intro w hSw; unfold S8 at hSw; go_simp; try with_reducible rfl)
    try simp only [Act.put, List.setIfInBounds_toArray, List.set_cons_zero, List.set_cons_succ, List.getElem_toArray, List.getElem_cons_zero, List.getElem_cons_succ]
    refine wpAnyH_take (i := 8) (v := ?_) rfl (by kernel_rfl) (by kernel_rfl) (by kernel_rfl) (fun _ _ _ h => h) (Or.inl ⟨by rfl, ?_⟩) (by assumption) ?_
    rotate_left 1
    · (intro w hSw; unfold S8 at hSw; go_simp; try with_reducible rfl)
    try simp only [Act.put, List.setIfInBounds_toArray, List.set_cons_zero, List.set_cons_succ, List.getElem_toArray, List.getElem_cons_zero, List.getElem_cons_succ]
    refine wpAnyH_take (i := 9) (v := ?_) rfl (by kernel_rfl) (by kernel_rfl) (by kernel_rfl) (fun _ _ _ h => h) (Or.inl ⟨by rfl, ?_⟩) (by assumption) ?_
    rotate_left 1
    · (intro w hSw; unfold S8 at hSw; go_simp; try with_reducible rfl)
    try simp only [Act.put, List.setIfInBounds_toArray, List.set_cons_zero, List.set_cons_succ, List.getElem_toArray, List.getElem_cons_zero, List.getElem_cons_succ]
    refine wpAnyH_take (i := 11) (v := ?_) rfl (by kernel_rfl) (by kernel_rfl) (by kernel_rfl) (fun _ _ _ h => h) (Or.inl ⟨by rfl, ?_⟩) (by assumption) ?_
    rotate_left 1
    · (intro w hSw; unfold S8 at hSw; go_simp; try with_reducible rfl)
    try simp only [Act.put, List.setIfInBounds_toArray, List.set_cons_zero, List.set_cons_succ, List.getElem_toArray, List.getElem_cons_zero, List.getElem_cons_succ]
    have hlf : w3.heap.size ≤ (w3.heap.size) := Nat.le_refl _
    have z0 : w5.cell? ⟨(w3.heap.size), 0, none⟩ = some (.int .i64 0) := cell_of HKf.out (j := 0) rfl
    have z1 : w5.cell? ⟨(w3.heap.size), 1, none⟩ = some (.int .i64 0) := cell_of HKf.out (j := 1) rfl
    have y0 : w5.frozen? ⟨(w3.heap.size), 0, none⟩ = false := frozen_of HKf.out 0
    have y1 : w5.frozen? ⟨(w3.heap.size), 1, none⟩ = false := frozen_of HKf.out 1
    have HBF : Hid (Below w3.heap.size w3 ((w5.setCell ⟨(w3.heap.size), 0, none⟩ (.int .i64 fe)).setCell ⟨(w3.heap.size), 1, none⟩ (.int .i64 fa))) := Lib.hid ((HBA2.out.setCell (p := ⟨(w3.heap.size), 0, none⟩) hlf _).setCell (p := ⟨(w3.heap.size), 1, none⟩) hlf _)
    have HKF : Hid (((w5.setCell ⟨(w3.heap.size), 0, none⟩ (.int .i64 fe)).setCell ⟨(w3.heap.size), 1, none⟩ (.int .i64 fa)).heap[(w3.heap.size)]? = some (.cells #[.int .i64 fe, .int .i64 fa] 58 (0, 0))) := Lib.hid (setCell_obj (setCell_obj HKf.out 0 _) 1 _)
    refine wpAnyH_ready (rs := [12]) (by kernel_rfl) (by simp) ?_
    refine (AllReadyH.cons rfl (fun K hK => ?_) AllReadyH.nil)
    go_simp
    refine hK.out _ _ ?_ (fun hHeld => ?_)
    · exact HSW.out.below HBF.out
    clear hK K
    try simp only [Act.put, List.setIfInBounds_toArray, List.set_cons_zero, List.set_cons_succ, List.getElem_toArray, List.getElem_cons_zero, List.getElem_cons_succ]
    refine wpAnyH_done (by kernel_rfl) ?_ _
    clear z0 z1 y0 y1 hlf
    have HB0 := HBX
    replace HBX := Lib.hid (HBX.out.below HBF.out)
    replace HB := Lib.hid (HB.out.trans (HBF.out.mono (Nat.le_of_lt (lt_block HB0.out.c))))
    clear HB0
    clear HSW HNB HTB HCX HST HCK
    generalize ((w5.setCell ⟨(w3.heap.size), 0, none⟩ (.int .i64 fe)).setCell ⟨(w3.heap.size), 1, none⟩ (.int .i64 fa)) = w6 at *
    have HCX := Lib.hid (HCT.out.below (by rw [HXR.out.1]; exact HB.out))
    have HST : Hid (Stays Any w w6) := Lib.hid (Stays.of_below (by rw [HXR.out.1]; exact HB.out))
    go_upto_region 23 with fail
    have HE := Lib.hid (HC.out.trans (rfl))
    have HFN := Lib.hid (fns2 (clo_15 HKF.out) (clo_16 (by rw [← HN.out.1]; exact hn0) (HES.out.keep HST.out) HBX.out.s) w6.drew (Below.refl _ _).drew 80)
    generalize hq : firstF [(fe, fa), noC ((es.headD default).op == 5) 51 (es.headD default).pos] = q at *
    obtain ⟨fe, fa⟩ := q
    have HFC := Lib.hid (first_ck _ _ _ HFN.out)
    rw [hq] at HFC
    clear hq HFN
    unfold fltV at HFC
    dsimp only at HFC
    have HS0 : Hid (w6.drew.cell? ⟨VP, 0, none⟩ = some (.map (some vr))) := Lib.hid (cell_of HBX.out.v (j := 0) rfl)
    have hs0 := HS0.out
    refine wp_region_split (S := (fun w' : World => w'.cell? ⟨VP, 0, none⟩ = some (.map (some vr)))) 5 (by kernel_rfl) (by kernel_rfl) (by exact HS0.out) (fun hHeld => ?_)
    simp only [List.take_succ_cons, List.take_zero, List.drop_succ_cons, List.drop_zero]
    refine wpAnyH_take (i := 0) (v := ?_) rfl (by kernel_rfl) (by kernel_rfl) (by kernel_rfl) (fun _ _ _ h => h) (Or.inl ⟨by rfl, ?_⟩) (by assumption) ?_
    rotate_left 1
    · (intro w hSw; (try dsimp only at hSw); go_simp; try with_reducible rfl)
    try simp only [Act.put, List.setIfInBounds_toArray, List.set_cons_zero, List.set_cons_succ, List.getElem_toArray, List.getElem_cons_zero]
    refine wpAnyH_take (i := 1) (v := ?_) rfl (by kernel_rfl) (by kernel_rfl) (by kernel_rfl) (fun _ _ _ h => h) (Or.inl ⟨by rfl, ?_⟩) (by assumption) ?_
    rotate_left 1
    · (intro w hSw; (try dsimp only at hSw); go_simp; try with_reducible rfl)
    try simp only [Act.put, List.setIfInBounds_toArray, List.set_cons_zero, List.set_cons_succ, List.getElem_toArray, List.getElem_cons_zero, List.getElem_cons_succ]
    refine wpAnyH_take (i := 2) (v := ?_) rfl (by kernel_rfl) (by kernel_rfl) (by kernel_rfl) (fun _ _ _ h => h) (Or.inl ⟨by rfl, ?_⟩) (by assumption) ?_
    rotate_left 1
    · (intro w hSw; (try dsimp only at hSw); go_simp; try with_reducible rfl)
    try simp only [Act.put, List.setIfInBounds_toArray, List.set_cons_zero, List.set_cons_succ, List.getElem_toArray, List.getElem_cons_zero, List.getElem_cons_succ]
    refine wpAnyH_ready (rs := [3]) (by kernel_rfl) (by simp) ?_
    refine (AllReadyH.cons rfl (fun K hK => ?_) AllReadyH.nil)
    go_simp
    refine hK.out _ _ ?_ (fun hHeld => ?_)
    · (try dsimp only)
      exact old_cell _ HS0.out
    clear hK K
    try simp only [Act.put, List.setIfInBounds_toArray, List.set_cons_zero, List.set_cons_succ, List.getElem_toArray, List.getElem_cons_zero, List.getElem_cons_succ]
    refine wpAnyH_ready (rs := [4]) (by kernel_rfl) (by simp) ?_
    refine (AllReadyH.cons rfl (fun K hK => ?_) AllReadyH.nil)
    go_simp
    go_at_call 22
    refine HFC.out.mono ?_
    rintro e w5 ⟨rfl, hb5⟩
    have hb5' : Below w6.heap.size w6 w5 := up_trans (up_alloc (up_drew (Below.refl _ _)) _) hb5
    have HB0 := HBX
    replace HBX := Lib.hid (HBX.out.below hb5')
    replace HB := Lib.hid (HB.out.trans (hb5'.mono (Nat.le_of_lt (lt_block HB0.out.c))))
    clear HB0
    have HS5 : Hid (w5.cell? ⟨VP, 0, none⟩ = some (.map (some vr))) := Lib.hid (cell_of HBX.out.v (j := 0) rfl)
    clear hb5 hb5' hs0
    go_simp
    refine hK.out _ _ ?_ (fun hHeld => ?_)
    · (try dsimp only)
      exact HS5.out
    clear hK K
    try simp only [Act.put, List.setIfInBounds_toArray, List.set_cons_zero, List.set_cons_succ, List.getElem_toArray, List.getElem_cons_zero, List.getElem_cons_succ]
    refine wpAnyH_done (by kernel_rfl) ?_ _
    dsimp only [TailQ]
    have r0 : w5.cell? ⟨RB, 0, none⟩ = some (.int .i64 0) := cell_of HBX.out.r (j := 0) rfl
    have r1 : w5.cell? ⟨RB, 1, none⟩ = some (.int .i64 0) := cell_of HBX.out.r (j := 1) rfl
    have k0 : w5.frozen? ⟨RB, 0, none⟩ = false := frozen_of HBX.out.r 0
    have k1 : w5.frozen? ⟨RB, 1, none⟩ = false := frozen_of HBX.out.r 1
    go_wp2_with fail
    have hfin := (HB.out.setCell (p := ⟨RB, 0, none⟩) HXR.out.2.2 (.int .i64 fe)).setCell (p := ⟨RB, 1, none⟩) HXR.out.2.2 (.int .i64 fa)
    rw [← HXR.out.1] at hfin
    refine bodyPost_ret (v := .tuple #[.map (some vr), .agg #[.int .i64 fe, .int .i64 fa]]) (by simp [results, Try.results39, go_sem, r0, r1]) rfl ⟨vr, by rw [HE.out]; rfl, ?_, hfin⟩
    rw [HE.out]
    exact HCT.out.view.below hfin
  by_cases h5 : op = 5
  · subst h5
    by_cases hz : n1 = 0
    · subst hz
      have HE := Lib.hid (HC.out.trans (st_5a F res text es body els pos v HN.out.1.symm HSH.out))
      obtain ⟨frr, hob, _⟩ := HCX.out.obj
      have s0 : w3.cell? ⟨SP, 0, none⟩ = some (.int .i64 5) := cell_of HBX.out.s (j := 0) rfl
      have q2 : w3.cell? ⟨SP, 2, none⟩ = some (.slice s1 0 c1) := cell_of HBX.out.s (j := 2) rfl
      have HFC := Lib.hid (no_any (res == 0) 51 pos w3.drew)
      generalize noC (res == 0) 51 pos = q at *
      obtain ⟨fe, fa⟩ := q
      unfold fltV at HFC
      dsimp only at HFC
      go_upto_region 18 with fail
      clear s0 q2
      have HSW : Hid (w3.cell? ⟨VP, 0, none⟩ = some (.map (some vr)) ∧ w3.cell? ⟨CP, 0, none⟩ = some (.pointer (some ⟨cb, 0, none⟩)) ∧ w3.cell? ⟨cb, 1, none⟩ = some (.int .i64 res) ∧ w3.cell? ⟨SP, 5, none⟩ = some (.int .i64 pos)) := Lib.hid ⟨cell_of HBX.out.v (j := 0) rfl, cell_of HBX.out.c (j := 0) rfl, cell_of hob (j := 1) rfl, cell_of HBX.out.s (j := 5) rfl⟩
      have HS0 : Hid (w3.drew.cell? ⟨VP, 0, none⟩ = some (.map (some vr)) ∧ w3.drew.cell? ⟨CP, 0, none⟩ = some (.pointer (some ⟨cb, 0, none⟩)) ∧ w3.drew.cell? ⟨cb, 1, none⟩ = some (.int .i64 res) ∧ w3.drew.cell? ⟨SP, 5, none⟩ = some (.int .i64 pos)) := Lib.hid HSW.out
      have hs0 := HS0.out
      refine wp_region_split (S := (fun w' : World => w'.cell? ⟨VP, 0, none⟩ = some (.map (some vr)) ∧ w'.cell? ⟨CP, 0, none⟩ = some (.pointer (some ⟨cb, 0, none⟩)) ∧ w'.cell? ⟨cb, 1, none⟩ = some (.int .i64 res) ∧ w'.cell? ⟨SP, 5, none⟩ = some (.int .i64 pos))) 9 (by kernel_rfl) (by kernel_rfl) (by exact HS0.out) (fun hHeld => ?_)
      simp only [List.take_succ_cons, List.take_zero, List.drop_succ_cons, List.drop_zero]
      refine wpAnyH_take (i := 0) (v := ?_) rfl (by kernel_rfl) (by kernel_rfl) (by kernel_rfl) (fun _ _ _ h => h) (Or.inl ⟨by rfl, ?_⟩) (by assumption) ?_
      rotate_left 1
      · (intro w hSw; (try dsimp only at hSw); go_simp; try with_reducible rfl)
      try simp only [Act.put, List.setIfInBounds_toArray, List.set_cons_zero, List.set_cons_succ, List.getElem_toArray, List.getElem_cons_zero]
      refine wpAnyH_take (i := 1) (v := ?_) rfl (by kernel_rfl) (by kernel_rfl) (by kernel_rfl) (fun _ _ _ h => h) (Or.inl ⟨by rfl, ?_⟩) (by assumption) ?_
      rotate_left 1
      · (intro w hSw; (try dsimp only at hSw); go_simp; try with_reducible rfl)
      try simp only [Act.put, List.setIfInBounds_toArray, List.set_cons_zero, List.set_cons_succ, List.getElem_toArray, List.getElem_cons_zero, List.getElem_cons_succ]
      refine wpAnyH_take (i := 2) (v := ?_) rfl (by kernel_rfl) (by kernel_rfl) (by kernel_rfl) (fun _ _ _ h => h) (Or.inl ⟨by rfl, ?_⟩) (by assumption) ?_
      rotate_left 1
      · (intro w hSw; (try dsimp only at hSw); go_simp; try with_reducible rfl)
      try simp only [Act.put, List.setIfInBounds_toArray, List.set_cons_zero, List.set_cons_succ, List.getElem_toArray, List.getElem_cons_zero, List.getElem_cons_succ]
      refine wpAnyH_take (i := 3) (v := ?_) rfl (by kernel_rfl) (by kernel_rfl) (by kernel_rfl) (fun _ _ _ h => h) (Or.inl ⟨by rfl, ?_⟩) (by assumption) ?_
      rotate_left 1
      · (intro w hSw; (try dsimp only at hSw); go_simp; try with_reducible rfl)
      try simp only [Act.put, List.setIfInBounds_toArray, List.set_cons_zero, List.set_cons_succ, List.getElem_toArray, List.getElem_cons_zero, List.getElem_cons_succ]
      refine wpAnyH_take (i := 4) (v := ?_) rfl (by kernel_rfl) (by kernel_rfl) (by kernel_rfl) (fun _ _ _ h => h) (Or.inl ⟨by rfl, ?_⟩) (by assumption) ?_
      rotate_left 1
      · (intro w hSw; (try dsimp only at hSw); go_simp; try with_reducible rfl)
      try simp only [Act.put, List.setIfInBounds_toArray, List.set_cons_zero, List.set_cons_succ, List.getElem_toArray, List.getElem_cons_zero, List.getElem_cons_succ]
      refine wpAnyH_take (i := 5) (v := ?_) rfl (by kernel_rfl) (by kernel_rfl) (by kernel_rfl) (fun _ _ _ h => h) (Or.inl ⟨by rfl, ?_⟩) (by assumption) ?_
      rotate_left 1
      · (intro w hSw; (try dsimp only at hSw); go_simp; try with_reducible rfl)
      try simp only [Act.put, List.setIfInBounds_toArray, List.set_cons_zero, List.set_cons_succ, List.getElem_toArray, List.getElem_cons_zero, List.getElem_cons_succ]
      refine wpAnyH_take (i := 6) (v := ?_) rfl (by kernel_rfl) (by kernel_rfl) (by kernel_rfl) (fun _ _ _ h => h) (Or.inl ⟨by rfl, ?_⟩) (by assumption) ?_
      rotate_left 1
      · (intro w hSw; (try dsimp only at hSw); go_simp; try with_reducible rfl)
      try simp only [Act.put, List.setIfInBounds_toArray, List.set_cons_zero, List.set_cons_succ, List.getElem_toArray, List.getElem_cons_zero, List.getElem_cons_succ]
      refine wpAnyH_take (i := 7) (v := ?_) rfl (by kernel_rfl) (by kernel_rfl) (by kernel_rfl) (fun _ _ _ h => h) (Or.inl ⟨by rfl, ?_⟩) (by assumption) ?_
      rotate_left 1
      · (intro w hSw; (try dsimp only at hSw); go_simp; try with_reducible rfl)
      try simp only [Act.put, List.setIfInBounds_toArray, List.set_cons_zero, List.set_cons_succ, List.getElem_toArray, List.getElem_cons_zero, List.getElem_cons_succ]
      refine wpAnyH_ready (rs := [8]) (by kernel_rfl) (by simp) ?_
      refine (AllReadyH.cons rfl (fun K hK => ?_) AllReadyH.nil)
      go_simp
      go_at_call 26
      refine HFC.out.mono ?_
      rintro e w5 ⟨rfl, hb5⟩
      have hb5' : Below w3.heap.size w3 w5 := up_trans (up_drew (Below.refl _ _)) hb5
      have HS5 : Hid (w5.cell? ⟨VP, 0, none⟩ = some (.map (some vr)) ∧ w5.cell? ⟨CP, 0, none⟩ = some (.pointer (some ⟨cb, 0, none⟩)) ∧ w5.cell? ⟨cb, 1, none⟩ = some (.int .i64 res) ∧ w5.cell? ⟨SP, 5, none⟩ = some (.int .i64 pos)) := Lib.hid ⟨(hb5'.cell (p := ⟨VP, 0, none⟩) (lt_of_cell HSW.out.1)).trans HSW.out.1, (hb5'.cell (p := ⟨CP, 0, none⟩) (lt_of_cell HSW.out.2.1)).trans HSW.out.2.1, (hb5'.cell (p := ⟨cb, 1, none⟩) (lt_of_cell HSW.out.2.2.1)).trans HSW.out.2.2.1, (hb5'.cell (p := ⟨SP, 5, none⟩) (lt_of_cell HSW.out.2.2.2)).trans HSW.out.2.2.2⟩
      have HB0 := HBX
      replace HBX := Lib.hid (HBX.out.below hb5')
      replace HB := Lib.hid (HB.out.trans (hb5'.mono (Nat.le_of_lt (lt_block HB0.out.c))))
      clear HB0
      clear hb5 hb5' hs0
      go_simp
      refine hK.out _ _ ?_ (fun hHeld => ?_)
      · (try dsimp only)
        exact HS5.out
      clear hK K
      try simp only [Act.put, List.setIfInBounds_toArray, List.set_cons_zero, List.set_cons_succ, List.getElem_toArray, List.getElem_cons_zero, List.getElem_cons_succ]
      refine wpAnyH_done (by kernel_rfl) ?_ _
      dsimp only [TailQ]
      have r0 : w5.cell? ⟨RB, 0, none⟩ = some (.int .i64 0) := cell_of HBX.out.r (j := 0) rfl
      have r1 : w5.cell? ⟨RB, 1, none⟩ = some (.int .i64 0) := cell_of HBX.out.r (j := 1) rfl
      have k0 : w5.frozen? ⟨RB, 0, none⟩ = false := frozen_of HBX.out.r 0
      have k1 : w5.frozen? ⟨RB, 1, none⟩ = false := frozen_of HBX.out.r 1
      go_wp2_with fail
      have hfin := (HB.out.setCell (p := ⟨RB, 0, none⟩) HXR.out.2.2 (.int .i64 fe)).setCell (p := ⟨RB, 1, none⟩) HXR.out.2.2 (.int .i64 fa)
      rw [← HXR.out.1] at hfin
      refine bodyPost_ret (v := .tuple #[.map (some vr), .agg #[.int .i64 fe, .int .i64 fa]]) (by simp [results, Try.results39, go_sem, r0, r1]) rfl ⟨vr, by rw [HE.out]; rfl, ?_, hfin⟩
      rw [HE.out]
      exact HCT.out.view.below hfin
    replace HC := Lib.hid (HC.out.trans (st_5b F res text es body els pos v (by rw [← HN.out.1]; exact hz) HSH.out))
    have hn0 : 0 < n1 := by omega
    have s0 : w3.cell? ⟨SP, 0, none⟩ = some (.int .i64 5) := cell_of HBX.out.s (j := 0) rfl
    have q2 : w3.cell? ⟨SP, 2, none⟩ = some (.slice s1 n1 c1) := cell_of HBX.out.s (j := 2) rfl
    go_upto_region 19 with fail
    clear s0 q2
    have HCPL : Hid (CP < w3.heap.size ∧ SP < w3.heap.size ∧ VP < w3.heap.size ∧ RB < w3.heap.size) := Lib.hid ⟨lt_block HBX.out.c, lt_block HBX.out.s, lt_block HBX.out.v, lt_block HBX.out.r⟩
    obtain ⟨xb, xoff, xop, xnum, xt, xs, xn, xc, xpos, rfl, hn1, hbl, y0, y1, y2, y3, y4, hrep⟩ := first_cells (HES.out.keep HST.out) (by rw [← HN.out.1]; exact hn0)
    have HXP : Hid ((es.headD default).pos = xpos ∧ (es.headD default).op = xop) := Lib.hid (by obtain ⟨_, e, _⟩ := rep_parts hrep; rw [e]; exact ⟨rfl, rfl⟩)
    have gn0 : (0 : Int) < (n1 : Int) := by omega
    have HCK := Lib.hid (fun W1 (h1 : Below w3.heap.size w3 W1) => HEX.out (es.headD default) v vr W1 xop xnum xpos xt xs xn xc (HCX.out.below h1) (hrep.keep (Stays.of_below h1)))
    have HSW : Hid (S8 VP vr CP cb SP xb xoff n1 c1 xop xnum xt xs xn xc xpos w3) := Lib.hid ⟨cell_of HBX.out.v (j := 0) rfl, cell_of HBX.out.c (j := 0) rfl, cell_of HBX.out.s (j := 2) rfl, y0, y1, y2, y3, y4⟩
    clear hrep y0 y1 y2 y3 y4
    generalize exprC F v (es.headD default) = xr at *
    obtain ⟨t, fe, fa⟩ := xr
    unfold fltV at HCK
    dsimp only at HCK HC
    apply shared (fun TP FP w8 => Below w3.heap.size w3 w8 ∧ w8.heap[TP]? = some (.cells #[.int .i64 t] 31 (0, 0)) ∧ w8.heap[FP]? = some (.cells #[.int .i64 fe, .int .i64 fa] 58 (0, 0)) ∧ w3.heap.size ≤ TP ∧ w3.heap.size ≤ FP ∧ ¬ TP = FP)
    intro HL
    have hs0 : S8 VP vr CP cb SP xb xoff n1 c1 xop xnum xt xs xn xc xpos w3.drew := HSW.out.below (up_drew (Below.refl _ _))
    refine wp_region_held (S := S8 VP vr CP cb SP xb xoff n1 c1 xop xnum xt xs xn xc xpos) (by kernel_rfl) ?_
    refine wpAnyH_take (i := 0) (v := ?_) rfl (by kernel_rfl) (by kernel_rfl) (by kernel_rfl) (fun _ _ _ h => h) (Or.inl ⟨by rfl, ?_⟩) (by assumption) ?_
    rotate_left 1
    · (intro w hSw; unfold S8 at hSw; go_simp; try with_reducible rfl)
    try simp only [Act.put, List.setIfInBounds_toArray, List.set_cons_zero, List.set_cons_succ, List.getElem_toArray, List.getElem_cons_zero]
    refine wpAnyH_take (i := 1) (v := ?_) rfl (by kernel_rfl) (by kernel_rfl) (by kernel_rfl) (fun _ _ _ h => h) (Or.inl ⟨by rfl, ?_⟩) (by assumption) ?_
    rotate_left 1
    · (intro w hSw; unfold S8 at hSw; go_simp; try with_reducible rfl)
    try simp only [Act.put, List.setIfInBounds_toArray, List.set_cons_zero, List.set_cons_succ, List.getElem_toArray, List.getElem_cons_zero, List.getElem_cons_succ]
    refine wpAnyH_take (i := 2) (v := ?_) rfl (by kernel_rfl) (by kernel_rfl) (by kernel_rfl) (fun _ _ _ h => h) (Or.inl ⟨by rfl, ?_⟩) (by assumption) ?_
    rotate_left 1
    · (intro w hSw; unfold S8 at hSw; go_simp; try with_reducible rfl)
    try simp only [Act.put, List.setIfInBounds_toArray, List.set_cons_zero, List.set_cons_succ, List.getElem_toArray, List.getElem_cons_zero, List.getElem_cons_succ]
    refine wpAnyH_take (i := 3) (v := ?_) rfl (by kernel_rfl) (by kernel_rfl) (by kernel_rfl) (fun _ _ _ h => h) (Or.inl ⟨by rfl, ?_⟩) (by assumption) ?_
    rotate_left 1
    · (intro w hSw; unfold S8 at hSw; go_simp; try with_reducible rfl)
    try simp only [Act.put, List.setIfInBounds_toArray, List.set_cons_zero, List.set_cons_succ, List.getElem_toArray, List.getElem_cons_zero, List.getElem_cons_succ]
    refine wpAnyH_take (i := 4) (v := ?_) rfl (by kernel_rfl) (by kernel_rfl) (by kernel_rfl) (fun _ _ _ h => h) (Or.inl ⟨by rfl, ?_⟩) (by assumption) ?_
    rotate_left 1
    · (intro w hSw; unfold S8 at hSw; go_simp; try with_reducible rfl)
    try simp only [Act.put, List.setIfInBounds_toArray, List.set_cons_zero, List.set_cons_succ, List.getElem_toArray, List.getElem_cons_zero, List.getElem_cons_succ]
    refine wpAnyH_take (i := 5) (v := ?_) rfl (by kernel_rfl) (by kernel_rfl) (by kernel_rfl) (fun _ _ _ h => h) (Or.inl ⟨by rfl, ?_⟩) (by assumption) ?_
    rotate_left 1
    · (intro w hSw; unfold S8 at hSw; go_simp; try with_reducible rfl)
    try simp only [Act.put, List.setIfInBounds_toArray, List.set_cons_zero, List.set_cons_succ, List.getElem_toArray, List.getElem_cons_zero, List.getElem_cons_succ]
    have HBA0 : Hid (Below w3.heap.size w3 w3.drew) := Lib.hid (up_drew (Below.refl _ _))
    refine wpAnyH_ready (rs := [6, 10, 11]) (by kernel_rfl) (by simp) ?_
    refine (AllReadyH.cons rfl (fun K hK => ?_) (AllReadyH.cons rfl (fun K hK => ?_) (AllReadyH.cons rfl (fun K hK => ?_) AllReadyH.nil)))
    · go_simp
      go_at_call 56
      refine (HCK.out _ HBA0.out).mono ?_
      rintro e w5 ⟨rfl, hb5⟩
      have HBA1 := Lib.hid (HBA0.out.trans (hb5.mono HBA0.out.size))
      have HSZ := Lib.hid hb5.size
      clear hb5 hs0
      go_simp
      refine hK.out _ _ ?_ (fun hHeld => ?_)
      · exact HSW.out.below HBA1.out
      clear hK K
      try simp only [Act.put, List.setIfInBounds_toArray, List.set_cons_zero, List.set_cons_succ, List.getElem_toArray, List.getElem_cons_zero, List.getElem_cons_succ]
      refine wpAnyH_take (i := 7) (v := ?_) rfl (by kernel_rfl) (by kernel_rfl) (by kernel_rfl) (fun _ _ _ h => h) (Or.inl ⟨by rfl, ?_⟩) (by assumption) ?_
      rotate_left 1
      · (intro w hSw; unfold S8 at hSw; go_simp; try with_reducible rfl)
      try simp only [Act.put, List.setIfInBounds_toArray, List.set_cons_zero, List.set_cons_succ, List.getElem_toArray, List.getElem_cons_zero, List.getElem_cons_succ]
      refine wpAnyH_take (i := 8) (v := ?_) rfl (by kernel_rfl) (by kernel_rfl) (by kernel_rfl) (fun _ _ _ h => h) (Or.inl ⟨by rfl, ?_⟩) (by assumption) ?_
      rotate_left 1
      · (intro w hSw; unfold S8 at hSw; go_simp; try with_reducible rfl)
      try simp only [Act.put, List.setIfInBounds_toArray, List.set_cons_zero, List.set_cons_succ, List.getElem_toArray, List.getElem_cons_zero, List.getElem_cons_succ]
      refine wpAnyH_take (i := 9) (v := ?_) rfl (by kernel_rfl) (by kernel_rfl) (by kernel_rfl) (fun _ _ _ h => h) (Or.inl ⟨by rfl, ?_⟩) (by assumption) ?_
      rotate_left 1
      · (intro w hSw; unfold S8 at hSw; go_simp; try with_reducible rfl)
      try simp only [Act.put, List.setIfInBounds_toArray, List.set_cons_zero, List.set_cons_succ, List.getElem_toArray, List.getElem_cons_zero, List.getElem_cons_succ]
      refine wpAnyH_ready (rs := [10, 11]) (by kernel_rfl) (by simp) ?_
      refine (AllReadyH.cons rfl (fun K hK => ?_) (AllReadyH.cons rfl (fun K hK => ?_) AllReadyH.nil))
      · go_simp
        have HBA2 : Hid (Below w3.heap.size w3 (w5.alloc (.cells #[.int .i64 0] 31))) := Lib.hid (up_alloc HBA1.out _)
        have HKt : Hid ((w5.alloc (.cells #[.int .i64 0] 31)).heap[w5.heap.size]? = some (.cells #[.int .i64 0] 31 (0, 0))) := Lib.hid (new_heap _ _ _ rfl)
        refine hK.out _ _ ?_ (fun hHeld => ?_)
        · exact HSW.out.below HBA2.out
        clear hK K
        try simp only [Act.put, List.setIfInBounds_toArray, List.set_cons_zero, List.set_cons_succ, List.getElem_toArray, List.getElem_cons_zero, List.getElem_cons_succ]
        refine wpAnyH_ready (rs := [11]) (by kernel_rfl) (by simp) ?_
        refine (AllReadyH.cons rfl (fun K hK => ?_) AllReadyH.nil)
        go_simp
        have HBA3 : Hid (Below w3.heap.size w3 ((w5.alloc (.cells #[.int .i64 0] 31)).alloc (.cells #[.int .i64 0, .int .i64 0] 58))) := Lib.hid (up_alloc HBA2.out _)
        have HKf : Hid (((w5.alloc (.cells #[.int .i64 0] 31)).alloc (.cells #[.int .i64 0, .int .i64 0] 58)).heap[(w5.alloc (.cells #[.int .i64 0] 31)).heap.size]? = some (.cells #[.int .i64 0, .int .i64 0] 58 (0, 0))) := Lib.hid (new_heap _ _ _ rfl)
        replace HKt : Hid (((w5.alloc (.cells #[.int .i64 0] 31)).alloc (.cells #[.int .i64 0, .int .i64 0] 58)).heap[_]? = _) := Lib.hid (old_heap _ _ _ _ HKt.out)
        refine hK.out _ _ ?_ (fun hHeld => ?_)
        · exact HSW.out.below HBA3.out
        clear hK K
        try simp only [Act.put, List.setIfInBounds_toArray, List.set_cons_zero, List.set_cons_succ, List.getElem_toArray, List.getElem_cons_zero, List.getElem_cons_succ]
        obtain ⟨N3, hN3⟩ : ∃ N, N = w3.heap.size := ⟨_, rfl⟩
        have hs5 : w3.heap.size ≤ w5.heap.size := HBA1.out.size
        have f1 : Below N3 w3 ((w5.alloc (.cells #[.int .i64 0] 31)).alloc (.cells #[.int .i64 0, .int .i64 0] 58)) := by rw [hN3]; exact HBA3.out
        have f2 : ((w5.alloc (.cells #[.int .i64 0] 31)).alloc (.cells #[.int .i64 0, .int .i64 0] 58)).heap[w5.heap.size]? = some (.cells #[.int .i64 0] 31 (0, 0)) := by
          have q := HKt.out
          exact q
        have f3 : ((w5.alloc (.cells #[.int .i64 0] 31)).alloc (.cells #[.int .i64 0, .int .i64 0] 58)).heap[w5.heap.size + 1]? = some (.cells #[.int .i64 0, .int .i64 0] 58 (0, 0)) := by
          have q := HKf.out
          rw [size_alloc] at q
          exact q
        have f4 : N3 ≤ w5.heap.size ∧ N3 ≤ w5.heap.size + 1 ∧ ¬ w5.heap.size = w5.heap.size + 1 := by omega
        revert f1 f2 f3 f4
        generalize ((w5.alloc (.cells #[.int .i64 0] 31)).alloc (.cells #[.int .i64 0, .int .i64 0] 58)) = w6
        generalize w5.heap.size + 1 = FP
        generalize w5.heap.size = TP
        intro f1 f2 f3 f4
        rw [hN3] at f1 f4
        have HF1 := Lib.hid f1
        have HF2 := Lib.hid f2
        have HF3 := Lib.hid f3
        have HF4 := Lib.hid f4
        clear f1 f2 f3 f4 hN3 hs5 HKt HKf
        have z0 : w6.cell? ⟨TP, 0, none⟩ = some (.int .i64 0) := cell_of HF2.out (j := 0) rfl
        have y0 : w6.frozen? ⟨TP, 0, none⟩ = false := frozen_of HF2.out 0
        refine wpAnyH_ready (rs := [12]) (by kernel_rfl) (by simp) ?_
        refine (AllReadyH.cons rfl (fun K hK => ?_) AllReadyH.nil)
        go_simp
        have HG1 : Hid (Below w3.heap.size w3 (w6.setCell ⟨TP, 0, none⟩ (.int .i64 t))) := Lib.hid (HF1.out.setCell (p := ⟨TP, 0, none⟩) HF4.out.1 _)
        have HG2 : Hid ((w6.setCell ⟨TP, 0, none⟩ (.int .i64 t)).heap[TP]? = some (.cells #[.int .i64 t] 31 (0, 0))) := Lib.hid (setCell_obj HF2.out 0 _)
        have HG3 : Hid ((w6.setCell ⟨TP, 0, none⟩ (.int .i64 t)).heap[FP]? = some (.cells #[.int .i64 0, .int .i64 0] 58 (0, 0))) := Lib.hid ((setCell_heap _ _ _ _ (fun e => HF4.out.2.2 e.symm)).trans HF3.out)
        refine hK.out _ _ ?_ (fun hHeld => ?_)
        · exact HSW.out.below HG1.out
        clear hK K
        try simp only [Act.put, List.setIfInBounds_toArray, List.set_cons_zero, List.set_cons_succ, List.getElem_toArray, List.getElem_cons_zero, List.getElem_cons_succ]
        clear z0 y0 HF1 HF2 HF3
        generalize (w6.setCell ⟨TP, 0, none⟩ (.int .i64 t)) = w7 at *
        have z0 : w7.cell? ⟨FP, 0, none⟩ = some (.int .i64 0) := cell_of HG3.out (j := 0) rfl
        have z1 : w7.cell? ⟨FP, 1, none⟩ = some (.int .i64 0) := cell_of HG3.out (j := 1) rfl
        have y0 : w7.frozen? ⟨FP, 0, none⟩ = false := frozen_of HG3.out 0
        have y1 : w7.frozen? ⟨FP, 1, none⟩ = false := frozen_of HG3.out 1
        refine wpAnyH_ready (rs := [13]) (by kernel_rfl) (by simp) ?_
        refine (AllReadyH.cons rfl (fun K hK => ?_) AllReadyH.nil)
        go_simp
        have HH1 := ((HG1.out.setCell (p := ⟨FP, 0, none⟩) HF4.out.2.1 (.int .i64 fe)).setCell (p := ⟨FP, 1, none⟩) HF4.out.2.1 (.int .i64 fa))
        refine hK.out _ _ ?_ (fun hHeld => ?_)
        · exact HSW.out.below HH1
        clear hK K
        try simp only [Act.put, List.setIfInBounds_toArray, List.set_cons_zero, List.set_cons_succ, List.getElem_toArray, List.getElem_cons_zero, List.getElem_cons_succ]
        refine wpAnyH_done (by kernel_rfl) ?_ _
        exact HL TP FP _ ⟨HH1, (setCell_heap _ _ _ _ HF4.out.2.2).trans ((setCell_heap _ _ _ _ HF4.out.2.2).trans HG2.out), setCell_obj (setCell_obj HG3.out 0 _) 1 _, HF4.out⟩
      go_simp
      have HBA2 : Hid (Below w3.heap.size w3 (w5.alloc (.cells #[.int .i64 0, .int .i64 0] 58))) := Lib.hid (up_alloc HBA1.out _)
      have HKf : Hid ((w5.alloc (.cells #[.int .i64 0, .int .i64 0] 58)).heap[w5.heap.size]? = some (.cells #[.int .i64 0, .int .i64 0] 58 (0, 0))) := Lib.hid (new_heap _ _ _ rfl)
      refine hK.out _ _ ?_ (fun hHeld => ?_)
      · exact HSW.out.below HBA2.out
      clear hK K
      try simp only [Act.put, List.setIfInBounds_toArray, List.set_cons_zero, List.set_cons_succ, List.getElem_toArray, List.getElem_cons_zero, List.getElem_cons_succ]
      refine wpAnyH_ready (rs := [10]) (by kernel_rfl) (by simp) ?_
      refine (AllReadyH.cons rfl (fun K hK => ?_) AllReadyH.nil)
      go_simp
      have HBA3 : Hid (Below w3.heap.size w3 ((w5.alloc (.cells #[.int .i64 0, .int .i64 0] 58)).alloc (.cells #[.int .i64 0] 31))) := Lib.hid (up_alloc HBA2.out _)
      have HKt : Hid (((w5.alloc (.cells #[.int .i64 0, .int .i64 0] 58)).alloc (.cells #[.int .i64 0] 31)).heap[(w5.alloc (.cells #[.int .i64 0, .int .i64 0] 58)).heap.size]? = some (.cells #[.int .i64 0] 31 (0, 0))) := Lib.hid (new_heap _ _ _ rfl)
      replace HKf : Hid (((w5.alloc (.cells #[.int .i64 0, .int .i64 0] 58)).alloc (.cells #[.int .i64 0] 31)).heap[_]? = _) := Lib.hid (old_heap _ _ _ _ HKf.out)
      refine hK.out _ _ ?_ (fun hHeld => ?_)
      · exact HSW.out.below HBA3.out
      clear hK K
      try simp only [Act.put, List.setIfInBounds_toArray, List.set_cons_zero, List.set_cons_succ, List.getElem_toArray, List.getElem_cons_zero, List.getElem_cons_succ]
      obtain ⟨N3, hN3⟩ : ∃ N, N = w3.heap.size := ⟨_, rfl⟩
      have hs5 : w3.heap.size ≤ w5.heap.size := HBA1.out.size
      have f1 : Below N3 w3 ((w5.alloc (.cells #[.int .i64 0, .int .i64 0] 58)).alloc (.cells #[.int .i64 0] 31)) := by rw [hN3]; exact HBA3.out
      have f2 : ((w5.alloc (.cells #[.int .i64 0, .int .i64 0] 58)).alloc (.cells #[.int .i64 0] 31)).heap[w5.heap.size + 1]? = some (.cells #[.int .i64 0] 31 (0, 0)) := by
        have q := HKt.out
        rw [size_alloc] at q
        exact q
      have f3 : ((w5.alloc (.cells #[.int .i64 0, .int .i64 0] 58)).alloc (.cells #[.int .i64 0] 31)).heap[w5.heap.size]? = some (.cells #[.int .i64 0, .int .i64 0] 58 (0, 0)) := by
        have q := HKf.out
        exact q
      have f4 : N3 ≤ w5.heap.size + 1 ∧ N3 ≤ w5.heap.size ∧ ¬ w5.heap.size + 1 = w5.heap.size := by omega
      revert f1 f2 f3 f4
      generalize ((w5.alloc (.cells #[.int .i64 0, .int .i64 0] 58)).alloc (.cells #[.int .i64 0] 31)) = w6
      generalize w5.heap.size + 1 = TP
      generalize w5.heap.size = FP
      intro f1 f2 f3 f4
      rw [hN3] at f1 f4
      have HF1 := Lib.hid f1
      have HF2 := Lib.hid f2
      have HF3 := Lib.hid f3
      have HF4 := Lib.hid f4
      clear f1 f2 f3 f4 hN3 hs5 HKt HKf
      have z0 : w6.cell? ⟨TP, 0, none⟩ = some (.int .i64 0) := cell_of HF2.out (j := 0) rfl
      have y0 : w6.frozen? ⟨TP, 0, none⟩ = false := frozen_of HF2.out 0
      refine wpAnyH_ready (rs := [12]) (by kernel_rfl) (by simp) ?_
      refine (AllReadyH.cons rfl (fun K hK => ?_) AllReadyH.nil)
      go_simp
      have HG1 : Hid (Below w3.heap.size w3 (w6.setCell ⟨TP, 0, none⟩ (.int .i64 t))) := Lib.hid (HF1.out.setCell (p := ⟨TP, 0, none⟩) HF4.out.1 _)
      have HG2 : Hid ((w6.setCell ⟨TP, 0, none⟩ (.int .i64 t)).heap[TP]? = some (.cells #[.int .i64 t] 31 (0, 0))) := Lib.hid (setCell_obj HF2.out 0 _)
      have HG3 : Hid ((w6.setCell ⟨TP, 0, none⟩ (.int .i64 t)).heap[FP]? = some (.cells #[.int .i64 0, .int .i64 0] 58 (0, 0))) := Lib.hid ((setCell_heap _ _ _ _ (fun e => HF4.out.2.2 e.symm)).trans HF3.out)
      refine hK.out _ _ ?_ (fun hHeld => ?_)
      · exact HSW.out.below HG1.out
      clear hK K
      try simp only [Act.put, List.setIfInBounds_toArray, List.set_cons_zero, List.set_cons_succ, List.getElem_toArray, List.getElem_cons_zero, List.getElem_cons_succ]
      clear z0 y0 HF1 HF2 HF3
      generalize (w6.setCell ⟨TP, 0, none⟩ (.int .i64 t)) = w7 at *
      have z0 : w7.cell? ⟨FP, 0, none⟩ = some (.int .i64 0) := cell_of HG3.out (j := 0) rfl
      have z1 : w7.cell? ⟨FP, 1, none⟩ = some (.int .i64 0) := cell_of HG3.out (j := 1) rfl
      have y0 : w7.frozen? ⟨FP, 0, none⟩ = false := frozen_of HG3.out 0
      have y1 : w7.frozen? ⟨FP, 1, none⟩ = false := frozen_of HG3.out 1
      refine wpAnyH_ready (rs := [13]) (by kernel_rfl) (by simp) ?_
      refine (AllReadyH.cons rfl (fun K hK => ?_) AllReadyH.nil)
      go_simp
      have HH1 := ((HG1.out.setCell (p := ⟨FP, 0, none⟩) HF4.out.2.1 (.int .i64 fe)).setCell (p := ⟨FP, 1, none⟩) HF4.out.2.1 (.int .i64 fa))
      refine hK.out _ _ ?_ (fun hHeld => ?_)
      · exact HSW.out.below HH1
      clear hK K
      try simp only [Act.put, List.setIfInBounds_toArray, List.set_cons_zero, List.set_cons_succ, List.getElem_toArray, List.getElem_cons_zero, List.getElem_cons_succ]
      refine wpAnyH_done (by kernel_rfl) ?_ _
      exact HL TP FP _ ⟨HH1, (setCell_heap _ _ _ _ HF4.out.2.2).trans ((setCell_heap _ _ _ _ HF4.out.2.2).trans HG2.out), setCell_obj (setCell_obj HG3.out 0 _) 1 _, HF4.out⟩
    · go_simp
      have HBA1 : Hid (Below w3.heap.size w3 (w3.drew.alloc (.cells #[.int .i64 0] 31))) := Lib.hid (up_alloc HBA0.out _)
      have HKt : Hid ((w3.drew.alloc (.cells #[.int .i64 0] 31)).heap[w3.drew.heap.size]? = some (.cells #[.int .i64 0] 31 (0, 0))) := Lib.hid (new_heap _ _ _ rfl)
      clear hs0
      refine hK.out _ _ ?_ (fun hHeld => ?_)
      · exact HSW.out.below HBA1.out
      clear hK K
      try simp only [Act.put, List.setIfInBounds_toArray, List.set_cons_zero, List.set_cons_succ, List.getElem_toArray, List.getElem_cons_zero, List.getElem_cons_succ]
      refine wpAnyH_ready (rs := [6, 11]) (by kernel_rfl) (by simp) ?_
      refine (AllReadyH.cons rfl (fun K hK => ?_) (AllReadyH.cons rfl (fun K hK => ?_) AllReadyH.nil))
      · go_simp
        go_at_call 56
        refine (HCK.out _ HBA1.out).mono ?_
        rintro e w5 ⟨rfl, hb5⟩
        have HBA2 := Lib.hid (HBA1.out.trans (hb5.mono HBA1.out.size))
        replace HKt := Lib.hid ((hb5.block _ (lt_block HKt.out)).trans HKt.out)
        have HSZ := Lib.hid hb5.size
        clear hb5
        go_simp
        refine hK.out _ _ ?_ (fun hHeld => ?_)
        · exact HSW.out.below HBA2.out
        clear hK K
        try simp only [Act.put, List.setIfInBounds_toArray, List.set_cons_zero, List.set_cons_succ, List.getElem_toArray, List.getElem_cons_zero, List.getElem_cons_succ]
        refine wpAnyH_take (i := 7) (v := ?_) rfl (by kernel_rfl) (by kernel_rfl) (by kernel_rfl) (fun _ _ _ h => h) (Or.inl ⟨by rfl, ?_⟩) (by assumption) ?_
        rotate_left 1
        · (intro w hSw; unfold S8 at hSw; go_simp; try with_reducible rfl)
        try simp only [Act.put, List.setIfInBounds_toArray, List.set_cons_zero, List.set_cons_succ, List.getElem_toArray, List.getElem_cons_zero, List.getElem_cons_succ]
        refine wpAnyH_take (i := 8) (v := ?_) rfl (by kernel_rfl) (by kernel_rfl) (by kernel_rfl) (fun _ _ _ h => h) (Or.inl ⟨by rfl, ?_⟩) (by assumption) ?_
        rotate_left 1
        · (intro w hSw; unfold S8 at hSw; go_simp; try with_reducible rfl)
        try simp only [Act.put, List.setIfInBounds_toArray, List.set_cons_zero, List.set_cons_succ, List.getElem_toArray, List.getElem_cons_zero, List.getElem_cons_succ]
        refine wpAnyH_take (i := 9) (v := ?_) rfl (by kernel_rfl) (by kernel_rfl) (by kernel_rfl) (fun _ _ _ h => h) (Or.inl ⟨by rfl, ?_⟩) (by assumption) ?_
        rotate_left 1
        · (intro w hSw; unfold S8 at hSw; go_simp; try with_reducible rfl)
        try simp only [Act.put, List.setIfInBounds_toArray, List.set_cons_zero, List.set_cons_succ, List.getElem_toArray, List.getElem_cons_zero, List.getElem_cons_succ]
        refine wpAnyH_ready (rs := [11]) (by kernel_rfl) (by simp) ?_
        refine (AllReadyH.cons rfl (fun K hK => ?_) AllReadyH.nil)
        go_simp
        have HBA3 : Hid (Below w3.heap.size w3 (w5.alloc (.cells #[.int .i64 0, .int .i64 0] 58))) := Lib.hid (up_alloc HBA2.out _)
        have HKf : Hid ((w5.alloc (.cells #[.int .i64 0, .int .i64 0] 58)).heap[w5.heap.size]? = some (.cells #[.int .i64 0, .int .i64 0] 58 (0, 0))) := Lib.hid (new_heap _ _ _ rfl)
        replace HKt : Hid ((w5.alloc (.cells #[.int .i64 0, .int .i64 0] 58)).heap[_]? = _) := Lib.hid (old_heap _ _ _ _ HKt.out)
        refine hK.out _ _ ?_ (fun hHeld => ?_)
        · exact HSW.out.below HBA3.out
        clear hK K
        try simp only [Act.put, List.setIfInBounds_toArray, List.set_cons_zero, List.set_cons_succ, List.getElem_toArray, List.getElem_cons_zero, List.getElem_cons_succ]
        obtain ⟨N3, hN3⟩ : ∃ N, N = w3.heap.size := ⟨_, rfl⟩
        have hs5 : w3.heap.size ≤ w5.heap.size := HBA2.out.size
        have hsz : w3.heap.size + 1 ≤ w5.heap.size := by have q := HSZ.out; rw [size_alloc] at q; exact q
        have f1 : Below N3 w3 (w5.alloc (.cells #[.int .i64 0, .int .i64 0] 58)) := by rw [hN3]; exact HBA3.out
        have f2 : (w5.alloc (.cells #[.int .i64 0, .int .i64 0] 58)).heap[w3.heap.size]? = some (.cells #[.int .i64 0] 31 (0, 0)) := by
          have q := HKt.out
          exact q
        have f3 : (w5.alloc (.cells #[.int .i64 0, .int .i64 0] 58)).heap[w5.heap.size]? = some (.cells #[.int .i64 0, .int .i64 0] 58 (0, 0)) := by
          have q := HKf.out
          exact q
        have f4 : N3 ≤ w3.heap.size ∧ N3 ≤ w5.heap.size ∧ ¬ w3.heap.size = w5.heap.size := by omega
        revert f1 f2 f3 f4
        generalize (w5.alloc (.cells #[.int .i64 0, .int .i64 0] 58)) = w6
        generalize w3.heap.size = TP
        generalize w5.heap.size = FP
        intro f1 f2 f3 f4
        rw [hN3] at f1 f4
        have HF1 := Lib.hid f1
        have HF2 := Lib.hid f2
        have HF3 := Lib.hid f3
        have HF4 := Lib.hid f4
        clear f1 f2 f3 f4 hN3 hs5 hsz HKt HKf
        have z0 : w6.cell? ⟨TP, 0, none⟩ = some (.int .i64 0) := cell_of HF2.out (j := 0) rfl
        have y0 : w6.frozen? ⟨TP, 0, none⟩ = false := frozen_of HF2.out 0
        refine wpAnyH_ready (rs := [12]) (by kernel_rfl) (by simp) ?_
        refine (AllReadyH.cons rfl (fun K hK => ?_) AllReadyH.nil)
        go_simp
        have HG1 : Hid (Below w3.heap.size w3 (w6.setCell ⟨TP, 0, none⟩ (.int .i64 t))) := Lib.hid (HF1.out.setCell (p := ⟨TP, 0, none⟩) HF4.out.1 _)
        have HG2 : Hid ((w6.setCell ⟨TP, 0, none⟩ (.int .i64 t)).heap[TP]? = some (.cells #[.int .i64 t] 31 (0, 0))) := Lib.hid (setCell_obj HF2.out 0 _)
        have HG3 : Hid ((w6.setCell ⟨TP, 0, none⟩ (.int .i64 t)).heap[FP]? = some (.cells #[.int .i64 0, .int .i64 0] 58 (0, 0))) := Lib.hid ((setCell_heap _ _ _ _ (fun e => HF4.out.2.2 e.symm)).trans HF3.out)
        refine hK.out _ _ ?_ (fun hHeld => ?_)
        · exact HSW.out.below HG1.out
        clear hK K
        try simp only [Act.put, List.setIfInBounds_toArray, List.set_cons_zero, List.set_cons_succ, List.getElem_toArray, List.getElem_cons_zero, List.getElem_cons_succ]
        clear z0 y0 HF1 HF2 HF3
        generalize (w6.setCell ⟨TP, 0, none⟩ (.int .i64 t)) = w7 at *
        have z0 : w7.cell? ⟨FP, 0, none⟩ = some (.int .i64 0) := cell_of HG3.out (j := 0) rfl
        have z1 : w7.cell? ⟨FP, 1, none⟩ = some (.int .i64 0) := cell_of HG3.out (j := 1) rfl
        have y0 : w7.frozen? ⟨FP, 0, none⟩ = false := frozen_of HG3.out 0
        have y1 : w7.frozen? ⟨FP, 1, none⟩ = false := frozen_of HG3.out 1
        refine wpAnyH_ready (rs := [13]) (by kernel_rfl) (by simp) ?_
        refine (AllReadyH.cons rfl (fun K hK => ?_) AllReadyH.nil)
        go_simp
        have HH1 := ((HG1.out.setCell (p := ⟨FP, 0, none⟩) HF4.out.2.1 (.int .i64 fe)).setCell (p := ⟨FP, 1, none⟩) HF4.out.2.1 (.int .i64 fa))
        refine hK.out _ _ ?_ (fun hHeld => ?_)
        · exact HSW.out.below HH1
        clear hK K
        try simp only [Act.put, List.setIfInBounds_toArray, List.set_cons_zero, List.set_cons_succ, List.getElem_toArray, List.getElem_cons_zero, List.getElem_cons_succ]
        refine wpAnyH_done (by kernel_rfl) ?_ _
        exact HL TP FP _ ⟨HH1, (setCell_heap _ _ _ _ HF4.out.2.2).trans ((setCell_heap _ _ _ _ HF4.out.2.2).trans HG2.out), setCell_obj (setCell_obj HG3.out 0 _) 1 _, HF4.out⟩
      go_simp
      have HBA2 : Hid (Below w3.heap.size w3 ((w3.drew.alloc (.cells #[.int .i64 0] 31)).alloc (.cells #[.int .i64 0, .int .i64 0] 58))) := Lib.hid (up_alloc HBA1.out _)
      have HKf : Hid (((w3.drew.alloc (.cells #[.int .i64 0] 31)).alloc (.cells #[.int .i64 0, .int .i64 0] 58)).heap[(w3.drew.alloc (.cells #[.int .i64 0] 31)).heap.size]? = some (.cells #[.int .i64 0, .int .i64 0] 58 (0, 0))) := Lib.hid (new_heap _ _ _ rfl)
      replace HKt : Hid (((w3.drew.alloc (.cells #[.int .i64 0] 31)).alloc (.cells #[.int .i64 0, .int .i64 0] 58)).heap[_]? = _) := Lib.hid (old_heap _ _ _ _ HKt.out)
      refine hK.out _ _ ?_ (fun hHeld => ?_)
      · exact HSW.out.below HBA2.out
      clear hK K
      try simp only [Act.put, List.setIfInBounds_toArray, List.set_cons_zero, List.set_cons_succ, List.getElem_toArray, List.getElem_cons_zero, List.getElem_cons_succ]
      refine wpAnyH_ready (rs := [6]) (by kernel_rfl) (by simp) ?_
      refine (AllReadyH.cons rfl (fun K hK => ?_) AllReadyH.nil)
      go_simp
      go_at_call 56
      refine (HCK.out _ HBA2.out).mono ?_
      rintro e w5 ⟨rfl, hb5⟩
      have HBA3 := Lib.hid (HBA2.out.trans (hb5.mono HBA2.out.size))
      replace HKt := Lib.hid ((hb5.block _ (lt_block HKt.out)).trans HKt.out)
      replace HKf := Lib.hid ((hb5.block _ (lt_block HKf.out)).trans HKf.out)
      have HSZ := Lib.hid hb5.size
      clear hb5
      go_simp
      refine hK.out _ _ ?_ (fun hHeld => ?_)
      · exact HSW.out.below HBA3.out
      clear hK K
      try simp only [Act.put, List.setIfInBounds_toArray, List.set_cons_zero, List.set_cons_succ, List.getElem_toArray, List.getElem_cons_zero, List.getElem_cons_succ]
      refine wpAnyH_take (i := 7) (v := ?_) rfl (by kernel_rfl) (by kernel_rfl) (by kernel_rfl) (fun _ _ _ h => h) (Or.inl ⟨by rfl, ?_⟩) (by assumption) ?_
      rotate_left 1
      · (intro w hSw; unfold S8 at hSw; go_simp; try with_reducible rfl)
      try simp only [Act.put, List.setIfInBounds_toArray, List.set_cons_zero, List.set_cons_succ, List.getElem_toArray, List.getElem_cons_zero, List.getElem_cons_succ]
      refine wpAnyH_take (i := 8) (v := ?_) rfl (by kernel_rfl) (by kernel_rfl) (by kernel_rfl) (fun _ _ _ h => h) (Or.inl ⟨by rfl, ?_⟩) (by assumption) ?_
      rotate_left 1
      · (intro w hSw; unfold S8 at hSw; go_simp; try with_reducible rfl)
      try simp only [Act.put, List.setIfInBounds_toArray, List.set_cons_zero, List.set_cons_succ, List.getElem_toArray, List.getElem_cons_zero, List.getElem_cons_succ]
      refine wpAnyH_take (i := 9) (v := ?_) rfl (by kernel_rfl) (by kernel_rfl) (by kernel_rfl) (fun _ _ _ h => h) (Or.inl ⟨by rfl, ?_⟩) (by assumption) ?_
      rotate_left 1
      · (intro w hSw; unfold S8 at hSw; go_simp; try with_reducible rfl)
      try simp only [Act.put, List.setIfInBounds_toArray, List.set_cons_zero, List.set_cons_succ, List.getElem_toArray, List.getElem_cons_zero, List.getElem_cons_succ]
      obtain ⟨N3, hN3⟩ : ∃ N, N = w3.heap.size := ⟨_, rfl⟩
      have hs5 : w3.heap.size ≤ w5.heap.size := HBA3.out.size
      have f1 : Below N3 w3 w5 := by rw [hN3]; exact HBA3.out
      have f2 : w5.heap[w3.heap.size]? = some (.cells #[.int .i64 0] 31 (0, 0)) := by
        have q := HKt.out
        exact q
      have f3 : w5.heap[w3.heap.size + 1]? = some (.cells #[.int .i64 0, .int .i64 0] 58 (0, 0)) := by
        have q := HKf.out
        rw [size_alloc] at q
        exact q
      have f4 : N3 ≤ w3.heap.size ∧ N3 ≤ w3.heap.size + 1 ∧ ¬ w3.heap.size = w3.heap.size + 1 := by omega
      revert f1 f2 f3 f4
      generalize w5 = w6
      generalize w3.heap.size + 1 = FP
      generalize w3.heap.size = TP
      intro f1 f2 f3 f4
      rw [hN3] at f1 f4
      have HF1 := Lib.hid f1
      have HF2 := Lib.hid f2
      have HF3 := Lib.hid f3
      have HF4 := Lib.hid f4
      clear f1 f2 f3 f4 hN3 hs5 HKt HKf
      have z0 : w6.cell? ⟨TP, 0, none⟩ = some (.int .i64 0) := cell_of HF2.out (j := 0) rfl
      have y0 : w6.frozen? ⟨TP, 0, none⟩ = false := frozen_of HF2.out 0
      refine wpAnyH_ready (rs := [12]) (by kernel_rfl) (by simp) ?_
      refine (AllReadyH.cons rfl (fun K hK => ?_) AllReadyH.nil)
      go_simp
      have HG1 : Hid (Below w3.heap.size w3 (w6.setCell ⟨TP, 0, none⟩ (.int .i64 t))) := Lib.hid (HF1.out.setCell (p := ⟨TP, 0, none⟩) HF4.out.1 _)
      have HG2 : Hid ((w6.setCell ⟨TP, 0, none⟩ (.int .i64 t)).heap[TP]? = some (.cells #[.int .i64 t] 31 (0, 0))) := Lib.hid (setCell_obj HF2.out 0 _)
      have HG3 : Hid ((w6.setCell ⟨TP, 0, none⟩ (.int .i64 t)).heap[FP]? = some (.cells #[.int .i64 0, .int .i64 0] 58 (0, 0))) := Lib.hid ((setCell_heap _ _ _ _ (fun e => HF4.out.2.2 e.symm)).trans HF3.out)
      refine hK.out _ _ ?_ (fun hHeld => ?_)
      · exact HSW.out.below HG1.out
      clear hK K
      try simp only [Act.put, List.setIfInBounds_toArray, List.set_cons_zero, List.set_cons_succ, List.getElem_toArray, List.getElem_cons_zero, List.getElem_cons_succ]
      clear z0 y0 HF1 HF2 HF3
      generalize (w6.setCell ⟨TP, 0, none⟩ (.int .i64 t)) = w7 at *
      have z0 : w7.cell? ⟨FP, 0, none⟩ = some (.int .i64 0) := cell_of HG3.out (j := 0) rfl
      have z1 : w7.cell? ⟨FP, 1, none⟩ = some (.int .i64 0) := cell_of HG3.out (j := 1) rfl
      have y0 : w7.frozen? ⟨FP, 0, none⟩ = false := frozen_of HG3.out 0
      have y1 : w7.frozen? ⟨FP, 1, none⟩ = false := frozen_of HG3.out 1
      refine wpAnyH_ready (rs := [13]) (by kernel_rfl) (by simp) ?_
      refine (AllReadyH.cons rfl (fun K hK => ?_) AllReadyH.nil)
      go_simp
      have HH1 := ((HG1.out.setCell (p := ⟨FP, 0, none⟩) HF4.out.2.1 (.int .i64 fe)).setCell (p := ⟨FP, 1, none⟩) HF4.out.2.1 (.int .i64 fa))
      refine hK.out _ _ ?_ (fun hHeld => ?_)
      · exact HSW.out.below HH1
      clear hK K
      try simp only [Act.put, List.setIfInBounds_toArray, List.set_cons_zero, List.set_cons_succ, List.getElem_toArray, List.getElem_cons_zero, List.getElem_cons_succ]
      refine wpAnyH_done (by kernel_rfl) ?_ _
      exact HL TP FP _ ⟨HH1, (setCell_heap _ _ _ _ HF4.out.2.2).trans ((setCell_heap _ _ _ _ HF4.out.2.2).trans HG2.out), setCell_obj (setCell_obj HG3.out 0 _) 1 _, HF4.out⟩
    go_simp
    have HBA1 : Hid (Below w3.heap.size w3 (w3.drew.alloc (.cells #[.int .i64 0, .int .i64 0] 58))) := Lib.hid (up_alloc HBA0.out _)
    have HKf : Hid ((w3.drew.alloc (.cells #[.int .i64 0, .int .i64 0] 58)).heap[w3.drew.heap.size]? = some (.cells #[.int .i64 0, .int .i64 0] 58 (0, 0))) := Lib.hid (new_heap _ _ _ rfl)
    clear hs0
    refine hK.out _ _ ?_ (fun hHeld => ?_)
    · exact HSW.out.below HBA1.out
    clear hK K
    try simp only [Act.put, List.setIfInBounds_toArray, List.set_cons_zero, List.set_cons_succ, List.getElem_toArray, List.getElem_cons_zero, List.getElem_cons_succ]
    refine wpAnyH_ready (rs := [6, 10]) (by kernel_rfl) (by simp) ?_
    refine (AllReadyH.cons rfl (fun K hK => ?_) (AllReadyH.cons rfl (fun K hK => ?_) AllReadyH.nil))
    · go_simp
      go_at_call 56
      refine (HCK.out _ HBA1.out).mono ?_
      rintro e w5 ⟨rfl, hb5⟩
      have HBA2 := Lib.hid (HBA1.out.trans (hb5.mono HBA1.out.size))
      replace HKf := Lib.hid ((hb5.block _ (lt_block HKf.out)).trans HKf.out)
      have HSZ := Lib.hid hb5.size
      clear hb5
      go_simp
      refine hK.out _ _ ?_ (fun hHeld => ?_)
      · exact HSW.out.below HBA2.out
      clear hK K
      try simp only [Act.put, List.setIfInBounds_toArray, List.set_cons_zero, List.set_cons_succ, List.getElem_toArray, List.getElem_cons_zero, List.getElem_cons_succ]
      refine wpAnyH_take (i := 7) (v := ?_) rfl (by kernel_rfl) (by kernel_rfl) (by kernel_rfl) (fun _ _ _ h => h) (Or.inl ⟨by rfl, ?_⟩) (by assumption) ?_
      rotate_left 1
      · (intro w hSw; unfold S8 at hSw; go_simp; try with_reducible rfl)
      try simp only [Act.put, List.setIfInBounds_toArray, List.set_cons_zero, List.set_cons_succ, List.getElem_toArray, List.getElem_cons_zero, List.getElem_cons_succ]
      refine wpAnyH_take (i := 8) (v := ?_) rfl (by kernel_rfl) (by kernel_rfl) (by kernel_rfl) (fun _ _ _ h => h) (Or.inl ⟨by rfl, ?_⟩) (by assumption) ?_
      rotate_left 1
      · (intro w hSw; unfold S8 at hSw; go_simp; try with_reducible rfl)
      try simp only [Act.put, List.setIfInBounds_toArray, List.set_cons_zero, List.set_cons_succ, List.getElem_toArray, List.getElem_cons_zero, List.getElem_cons_succ]
      refine wpAnyH_take (i := 9) (v := ?_) rfl (by kernel_rfl) (by kernel_rfl) (by kernel_rfl) (fun _ _ _ h => h) (Or.inl ⟨by rfl, ?_⟩) (by assumption) ?_
      rotate_left 1
      · (intro w hSw; unfold S8 at hSw; go_simp; try with_reducible rfl)
      try simp only [Act.put, List.setIfInBounds_toArray, List.set_cons_zero, List.set_cons_succ, List.getElem_toArray, List.getElem_cons_zero, List.getElem_cons_succ]
      refine wpAnyH_ready (rs := [10]) (by kernel_rfl) (by simp) ?_
      refine (AllReadyH.cons rfl (fun K hK => ?_) AllReadyH.nil)
      go_simp
      have HBA3 : Hid (Below w3.heap.size w3 (w5.alloc (.cells #[.int .i64 0] 31))) := Lib.hid (up_alloc HBA2.out _)
      have HKt : Hid ((w5.alloc (.cells #[.int .i64 0] 31)).heap[w5.heap.size]? = some (.cells #[.int .i64 0] 31 (0, 0))) := Lib.hid (new_heap _ _ _ rfl)
      replace HKf : Hid ((w5.alloc (.cells #[.int .i64 0] 31)).heap[_]? = _) := Lib.hid (old_heap _ _ _ _ HKf.out)
      refine hK.out _ _ ?_ (fun hHeld => ?_)
      · exact HSW.out.below HBA3.out
      clear hK K
      try simp only [Act.put, List.setIfInBounds_toArray, List.set_cons_zero, List.set_cons_succ, List.getElem_toArray, List.getElem_cons_zero, List.getElem_cons_succ]
      obtain ⟨N3, hN3⟩ : ∃ N, N = w3.heap.size := ⟨_, rfl⟩
      have hs5 : w3.heap.size ≤ w5.heap.size := HBA2.out.size
      have hsz : w3.heap.size + 1 ≤ w5.heap.size := by have q := HSZ.out; rw [size_alloc] at q; exact q
      have f1 : Below N3 w3 (w5.alloc (.cells #[.int .i64 0] 31)) := by rw [hN3]; exact HBA3.out
      have f2 : (w5.alloc (.cells #[.int .i64 0] 31)).heap[w5.heap.size]? = some (.cells #[.int .i64 0] 31 (0, 0)) := by
        have q := HKt.out
        exact q
      have f3 : (w5.alloc (.cells #[.int .i64 0] 31)).heap[w3.heap.size]? = some (.cells #[.int .i64 0, .int .i64 0] 58 (0, 0)) := by
        have q := HKf.out
        exact q
      have f4 : N3 ≤ w5.heap.size ∧ N3 ≤ w3.heap.size ∧ ¬ w5.heap.size = w3.heap.size := by omega
      revert f1 f2 f3 f4
      generalize (w5.alloc (.cells #[.int .i64 0] 31)) = w6
      generalize w5.heap.size = TP
      generalize w3.heap.size = FP
      intro f1 f2 f3 f4
      rw [hN3] at f1 f4
      have HF1 := Lib.hid f1
      have HF2 := Lib.hid f2
      have HF3 := Lib.hid f3
      have HF4 := Lib.hid f4
      clear f1 f2 f3 f4 hN3 hs5 hsz HKt HKf
      have z0 : w6.cell? ⟨TP, 0, none⟩ = some (.int .i64 0) := cell_of HF2.out (j := 0) rfl
      have y0 : w6.frozen? ⟨TP, 0, none⟩ = false := frozen_of HF2.out 0
      refine wpAnyH_ready (rs := [12]) (by kernel_rfl) (by simp) ?_
      refine (AllReadyH.cons rfl (fun K hK => ?_) AllReadyH.nil)
      go_simp
      have HG1 : Hid (Below w3.heap.size w3 (w6.setCell ⟨TP, 0, none⟩ (.int .i64 t))) := Lib.hid (HF1.out.setCell (p := ⟨TP, 0, none⟩) HF4.out.1 _)
      have HG2 : Hid ((w6.setCell ⟨TP, 0, none⟩ (.int .i64 t)).heap[TP]? = some (.cells #[.int .i64 t] 31 (0, 0))) := Lib.hid (setCell_obj HF2.out 0 _)
      have HG3 : Hid ((w6.setCell ⟨TP, 0, none⟩ (.int .i64 t)).heap[FP]? = some (.cells #[.int .i64 0, .int .i64 0] 58 (0, 0))) := Lib.hid ((setCell_heap _ _ _ _ (fun e => HF4.out.2.2 e.symm)).trans HF3.out)
      refine hK.out _ _ ?_ (fun hHeld => ?_)
      · exact HSW.out.below HG1.out
      clear hK K
      try simp only [Act.put, List.setIfInBounds_toArray, List.set_cons_zero, List.set_cons_succ, List.getElem_toArray, List.getElem_cons_zero, List.getElem_cons_succ]
      clear z0 y0 HF1 HF2 HF3
      generalize (w6.setCell ⟨TP, 0, none⟩ (.int .i64 t)) = w7 at *
      have z0 : w7.cell? ⟨FP, 0, none⟩ = some (.int .i64 0) := cell_of HG3.out (j := 0) rfl
      have z1 : w7.cell? ⟨FP, 1, none⟩ = some (.int .i64 0) := cell_of HG3.out (j := 1) rfl
      have y0 : w7.frozen? ⟨FP, 0, none⟩ = false := frozen_of HG3.out 0
      have y1 : w7.frozen? ⟨FP, 1, none⟩ = false := frozen_of HG3.out 1
      refine wpAnyH_ready (rs := [13]) (by kernel_rfl) (by simp) ?_
      refine (AllReadyH.cons rfl (fun K hK => ?_) AllReadyH.nil)
      go_simp
      have HH1 := ((HG1.out.setCell (p := ⟨FP, 0, none⟩) HF4.out.2.1 (.int .i64 fe)).setCell (p := ⟨FP, 1, none⟩) HF4.out.2.1 (.int .i64 fa))
      refine hK.out _ _ ?_ (fun hHeld => ?_)
      · exact HSW.out.below HH1
      clear hK K
      try simp only [Act.put, List.setIfInBounds_toArray, List.set_cons_zero, List.set_cons_succ, List.getElem_toArray, List.getElem_cons_zero, List.getElem_cons_succ]
      refine wpAnyH_done (by kernel_rfl) ?_ _
      exact HL TP FP _ ⟨HH1, (setCell_heap _ _ _ _ HF4.out.2.2).trans ((setCell_heap _ _ _ _ HF4.out.2.2).trans HG2.out), setCell_obj (setCell_obj HG3.out 0 _) 1 _, HF4.out⟩
    go_simp
    have HBA2 : Hid (Below w3.heap.size w3 ((w3.drew.alloc (.cells #[.int .i64 0, .int .i64 0] 58)).alloc (.cells #[.int .i64 0] 31))) := Lib.hid (up_alloc HBA1.out _)
    have HKt : Hid (((w3.drew.alloc (.cells #[.int .i64 0, .int .i64 0] 58)).alloc (.cells #[.int .i64 0] 31)).heap[(w3.drew.alloc (.cells #[.int .i64 0, .int .i64 0] 58)).heap.size]? = some (.cells #[.int .i64 0] 31 (0, 0))) := Lib.hid (new_heap _ _ _ rfl)
    replace HKf : Hid (((w3.drew.alloc (.cells #[.int .i64 0, .int .i64 0] 58)).alloc (.cells #[.int .i64 0] 31)).heap[_]? = _) := Lib.hid (old_heap _ _ _ _ HKf.out)
    refine hK.out _ _ ?_ (fun hHeld => ?_)
    · exact HSW.out.below HBA2.out
    clear hK K
    try simp only [Act.put, List.setIfInBounds_toArray, List.set_cons_zero, List.set_cons_succ, List.getElem_toArray, List.getElem_cons_zero, List.getElem_cons_succ]
    refine wpAnyH_ready (rs := [6]) (by kernel_rfl) (by simp) ?_
    refine (AllReadyH.cons rfl (fun K hK => ?_) AllReadyH.nil)
    go_simp
    go_at_call 56
    refine (HCK.out _ HBA2.out).mono ?_
    rintro e w5 ⟨rfl, hb5⟩
    have HBA3 := Lib.hid (HBA2.out.trans (hb5.mono HBA2.out.size))
    replace HKf := Lib.hid ((hb5.block _ (lt_block HKf.out)).trans HKf.out)
    replace HKt := Lib.hid ((hb5.block _ (lt_block HKt.out)).trans HKt.out)
    have HSZ := Lib.hid hb5.size
    clear hb5
    go_simp
    refine hK.out _ _ ?_ (fun hHeld => ?_)
    · exact HSW.out.below HBA3.out
    clear hK K
    try simp only [Act.put, List.setIfInBounds_toArray, List.set_cons_zero, List.set_cons_succ, List.getElem_toArray, List.getElem_cons_zero, List.getElem_cons_succ]
    refine wpAnyH_take (i := 7) (v := ?_) rfl (by kernel_rfl) (by kernel_rfl) (by kernel_rfl) (fun _ _ _ h => h) (Or.inl ⟨by rfl, ?_⟩) (by assumption) ?_
    rotate_left 1
    · (intro w hSw; unfold S8 at hSw; go_simp; try with_reducible rfl)
    try simp only [Act.put, List.setIfInBounds_toArray, List.set_cons_zero, List.set_cons_succ, List.getElem_toArray, List.getElem_cons_zero, List.getElem_cons_succ]
    refine wpAnyH_take (i := 8) (v := ?_) rfl (by kernel_rfl) (by kernel_rfl) (by kernel_rfl) (fun _ _ _ h => h) (Or.inl ⟨by rfl, ?_⟩) (by assumption) ?_
    rotate_left 1
    · (intro w hSw; unfold S8 at hSw; go_simp; try with_reducible rfl)
    try simp only [Act.put, List.setIfInBounds_toArray, List.set_cons_zero, List.set_cons_succ, List.getElem_toArray, List.getElem_cons_zero, List.getElem_cons_succ]
    refine wpAnyH_take (i := 9) (v := ?_) rfl (by kernel_rfl) (by kernel_rfl) (by kernel_rfl) (fun _ _ _ h => h) (Or.inl ⟨by rfl, ?_⟩) (by assumption) ?_
    rotate_left 1
    · (intro w hSw; unfold S8 at hSw; go_simp; try with_reducible rfl)
    try simp only [Act.put, List.setIfInBounds_toArray, List.set_cons_zero, List.set_cons_succ, List.getElem_toArray, List.getElem_cons_zero, List.getElem_cons_succ]
    obtain ⟨N3, hN3⟩ : ∃ N, N = w3.heap.size := ⟨_, rfl⟩
    have hs5 : w3.heap.size ≤ w5.heap.size := HBA3.out.size
    have f1 : Below N3 w3 w5 := by rw [hN3]; exact HBA3.out
    have f2 : w5.heap[w3.heap.size + 1]? = some (.cells #[.int .i64 0] 31 (0, 0)) := by
      have q := HKt.out
      rw [size_alloc] at q
      exact q
    have f3 : w5.heap[w3.heap.size]? = some (.cells #[.int .i64 0, .int .i64 0] 58 (0, 0)) := by
      have q := HKf.out
      exact q
    have f4 : N3 ≤ w3.heap.size + 1 ∧ N3 ≤ w3.heap.size ∧ ¬ w3.heap.size + 1 = w3.heap.size := by omega
    revert f1 f2 f3 f4
    generalize w5 = w6
    generalize w3.heap.size + 1 = TP
    generalize w3.heap.size = FP
    intro f1 f2 f3 f4
    rw [hN3] at f1 f4
    have HF1 := Lib.hid f1
    have HF2 := Lib.hid f2
    have HF3 := Lib.hid f3
    have HF4 := Lib.hid f4
    clear f1 f2 f3 f4 hN3 hs5 HKt HKf
    have z0 : w6.cell? ⟨TP, 0, none⟩ = some (.int .i64 0) := cell_of HF2.out (j := 0) rfl
    have y0 : w6.frozen? ⟨TP, 0, none⟩ = false := frozen_of HF2.out 0
    refine wpAnyH_ready (rs := [12]) (by kernel_rfl) (by simp) ?_
    refine (AllReadyH.cons rfl (fun K hK => ?_) AllReadyH.nil)
    go_simp
    have HG1 : Hid (Below w3.heap.size w3 (w6.setCell ⟨TP, 0, none⟩ (.int .i64 t))) := Lib.hid (HF1.out.setCell (p := ⟨TP, 0, none⟩) HF4.out.1 _)
    have HG2 : Hid ((w6.setCell ⟨TP, 0, none⟩ (.int .i64 t)).heap[TP]? = some (.cells #[.int .i64 t] 31 (0, 0))) := Lib.hid (setCell_obj HF2.out 0 _)
    have HG3 : Hid ((w6.setCell ⟨TP, 0, none⟩ (.int .i64 t)).heap[FP]? = some (.cells #[.int .i64 0, .int .i64 0] 58 (0, 0))) := Lib.hid ((setCell_heap _ _ _ _ (fun e => HF4.out.2.2 e.symm)).trans HF3.out)
    refine hK.out _ _ ?_ (fun hHeld => ?_)
    · exact HSW.out.below HG1.out
    clear hK K
    try simp only [Act.put, List.setIfInBounds_toArray, List.set_cons_zero, List.set_cons_succ, List.getElem_toArray, List.getElem_cons_zero, List.getElem_cons_succ]
    clear z0 y0 HF1 HF2 HF3
    generalize (w6.setCell ⟨TP, 0, none⟩ (.int .i64 t)) = w7 at *
    have z0 : w7.cell? ⟨FP, 0, none⟩ = some (.int .i64 0) := cell_of HG3.out (j := 0) rfl
    have z1 : w7.cell? ⟨FP, 1, none⟩ = some (.int .i64 0) := cell_of HG3.out (j := 1) rfl
    have y0 : w7.frozen? ⟨FP, 0, none⟩ = false := frozen_of HG3.out 0
    have y1 : w7.frozen? ⟨FP, 1, none⟩ = false := frozen_of HG3.out 1
    refine wpAnyH_ready (rs := [13]) (by kernel_rfl) (by simp) ?_
    refine (AllReadyH.cons rfl (fun K hK => ?_) AllReadyH.nil)
    go_simp
    have HH1 := ((HG1.out.setCell (p := ⟨FP, 0, none⟩) HF4.out.2.1 (.int .i64 fe)).setCell (p := ⟨FP, 1, none⟩) HF4.out.2.1 (.int .i64 fa))
    refine hK.out _ _ ?_ (fun hHeld => ?_)
    · exact HSW.out.below HH1
    clear hK K
    try simp only [Act.put, List.setIfInBounds_toArray, List.set_cons_zero, List.set_cons_succ, List.getElem_toArray, List.getElem_cons_zero, List.getElem_cons_succ]
    refine wpAnyH_done (by kernel_rfl) ?_ _
    exact HL TP FP _ ⟨HH1, (setCell_heap _ _ _ _ HF4.out.2.2).trans ((setCell_heap _ _ _ _ HF4.out.2.2).trans HG2.out), setCell_obj (setCell_obj HG3.out 0 _) 1 _, HF4.out⟩
    rintro TP FP w8 ⟨hh1, hh2, hh3, hh4⟩
    have HH2 := Lib.hid hh2
    have HH3 := Lib.hid hh3
    have HF4 := Lib.hid hh4
    have HTB1 := Lib.hid ((hh1.block _ (lt_block HTB.out)).trans HTB.out)
    have HB0 := HBX
    replace HBX := Lib.hid (HBX.out.below hh1)
    replace HB := Lib.hid (HB.out.trans (hh1.mono (Nat.le_of_lt (lt_block HB0.out.c))))
    clear HB0
    have HLE : Hid ((CP ≤ TP ∧ CP ≤ FP) ∧ (CP ≠ FP ∧ SP ≠ FP ∧ VP ≠ FP ∧ RB ≠ FP) ∧ RB ≠ TP ∧ ¬ TP = FP) := Lib.hid (by have q := HCPL.out; omega)
    clear HSW HNB HTB HCX HST HCK hh1 hh2 hh3 hh4
    have HCX := Lib.hid (HCT.out.below (by rw [HXR.out.1]; exact HB.out))
    have HST : Hid (Stays Any w w8) := Lib.hid (Stays.of_below (by rw [HXR.out.1]; exact HB.out))
    go_upto_region 20 with fail
    have HE := Lib.hid (HC.out.trans (rfl))
    have HFN := Lib.hid (fns2 (clo_13 HH3.out) (clo_14 HCX.out HBX.out.c (by rw [← HN.out.1]; exact hn0) (HES.out.keep HST.out) HH2.out HBX.out.s) w8.drew (Below.refl _ _).drew 80)
    generalize hq : firstF [(fe, fa), noC (t == res && t != 0) 51 (es.headD default).pos] = q at *
    obtain ⟨fe, fa⟩ := q
    have HFC := Lib.hid (first_ck _ _ _ HFN.out)
    rw [hq] at HFC
    clear hq HFN
    unfold fltV at HFC
    dsimp only at HFC
    have HS0 : Hid (w8.drew.cell? ⟨VP, 0, none⟩ = some (.map (some vr))) := Lib.hid (cell_of HBX.out.v (j := 0) rfl)
    have hs0 := HS0.out
    refine wp_region_split (S := (fun w' : World => w'.cell? ⟨VP, 0, none⟩ = some (.map (some vr)))) 5 (by kernel_rfl) (by kernel_rfl) (by exact HS0.out) (fun hHeld => ?_)
    simp only [List.take_succ_cons, List.take_zero, List.drop_succ_cons, List.drop_zero]
    refine wpAnyH_take (i := 0) (v := ?_) rfl (by kernel_rfl) (by kernel_rfl) (by kernel_rfl) (fun _ _ _ h => h) (Or.inl ⟨by rfl, ?_⟩) (by assumption) ?_
    rotate_left 1
    · (intro w hSw; (try dsimp only at hSw); go_simp; try with_reducible rfl)
    try simp only [Act.put, List.setIfInBounds_toArray, List.set_cons_zero, List.set_cons_succ, List.getElem_toArray, List.getElem_cons_zero]
    refine wpAnyH_take (i := 1) (v := ?_) rfl (by kernel_rfl) (by kernel_rfl) (by kernel_rfl) (fun _ _ _ h => h) (Or.inl ⟨by rfl, ?_⟩) (by assumption) ?_
    rotate_left 1
    · (intro w hSw; (try dsimp only at hSw); go_simp; try with_reducible rfl)
    try simp only [Act.put, List.setIfInBounds_toArray, List.set_cons_zero, List.set_cons_succ, List.getElem_toArray, List.getElem_cons_zero, List.getElem_cons_succ]
    refine wpAnyH_take (i := 2) (v := ?_) rfl (by kernel_rfl) (by kernel_rfl) (by kernel_rfl) (fun _ _ _ h => h) (Or.inl ⟨by rfl, ?_⟩) (by assumption) ?_
    rotate_left 1
    · (intro w hSw; (try dsimp only at hSw); go_simp; try with_reducible rfl)
    try simp only [Act.put, List.setIfInBounds_toArray, List.set_cons_zero, List.set_cons_succ, List.getElem_toArray, List.getElem_cons_zero, List.getElem_cons_succ]
    refine wpAnyH_ready (rs := [3]) (by kernel_rfl) (by simp) ?_
    refine (AllReadyH.cons rfl (fun K hK => ?_) AllReadyH.nil)
    go_simp
    refine hK.out _ _ ?_ (fun hHeld => ?_)
    · (try dsimp only)
      exact old_cell _ HS0.out
    clear hK K
    try simp only [Act.put, List.setIfInBounds_toArray, List.set_cons_zero, List.set_cons_succ, List.getElem_toArray, List.getElem_cons_zero, List.getElem_cons_succ]
    refine wpAnyH_ready (rs := [4]) (by kernel_rfl) (by simp) ?_
    refine (AllReadyH.cons rfl (fun K hK => ?_) AllReadyH.nil)
    go_simp
    go_at_call 22
    refine HFC.out.mono ?_
    rintro e w5 ⟨rfl, hb5⟩
    have hb5' : Below w8.heap.size w8 w5 := up_trans (up_alloc (up_drew (Below.refl _ _)) _) hb5
    have HB0 := HBX
    replace HBX := Lib.hid (HBX.out.below hb5')
    replace HB := Lib.hid (HB.out.trans (hb5'.mono (Nat.le_of_lt (lt_block HB0.out.c))))
    clear HB0
    have HS5 : Hid (w5.cell? ⟨VP, 0, none⟩ = some (.map (some vr))) := Lib.hid (cell_of HBX.out.v (j := 0) rfl)
    clear hb5 hb5' hs0
    go_simp
    refine hK.out _ _ ?_ (fun hHeld => ?_)
    · (try dsimp only)
      exact HS5.out
    clear hK K
    try simp only [Act.put, List.setIfInBounds_toArray, List.set_cons_zero, List.set_cons_succ, List.getElem_toArray, List.getElem_cons_zero, List.getElem_cons_succ]
    refine wpAnyH_done (by kernel_rfl) ?_ _
    dsimp only [TailQ]
    have r0 : w5.cell? ⟨RB, 0, none⟩ = some (.int .i64 0) := cell_of HBX.out.r (j := 0) rfl
    have r1 : w5.cell? ⟨RB, 1, none⟩ = some (.int .i64 0) := cell_of HBX.out.r (j := 1) rfl
    have k0 : w5.frozen? ⟨RB, 0, none⟩ = false := frozen_of HBX.out.r 0
    have k1 : w5.frozen? ⟨RB, 1, none⟩ = false := frozen_of HBX.out.r 1
    go_wp2_with fail
    have hfin := (HB.out.setCell (p := ⟨RB, 0, none⟩) HXR.out.2.2 (.int .i64 fe)).setCell (p := ⟨RB, 1, none⟩) HXR.out.2.2 (.int .i64 fa)
    rw [← HXR.out.1] at hfin
    refine bodyPost_ret (v := .tuple #[.map (some vr), .agg #[.int .i64 fe, .int .i64 fa]]) (by simp [results, Try.results39, go_sem, r0, r1]) rfl ⟨vr, by rw [HE.out]; rfl, ?_, hfin⟩
    rw [HE.out]
    exact HCT.out.view.below hfin
  have hn2 : n1 ≤ 2 := shape_le hsh
  have HE := Lib.hid (HC.out.trans (st_else F res op text es body els pos v h1 h2 h3 h4 h5 h8 HSH.out))
  have s0 : w3.cell? ⟨SP, 0, none⟩ = some (.int .i64 op) := cell_of HBX.out.s (j := 0) rfl
  go_upto_region 24 with fail
  clear s0
  have hbD : Below w3.heap.size w3 (w3.drew.alloc (.cells #[.int .i64 3, .int .i64 3] 31)) := up_alloc (up_drew (Below.refl _ _)) _
  have HTY : Hid (TysAt (w3.drew.alloc (.cells #[.int .i64 3, .int .i64 3] 31)) (.slice (some ⟨w3.drew.heap.size, 0, none⟩) 2 2) [3, 3]) := Lib.hid ⟨_, 2, rfl, by show (2:Nat) ≤ 1000000; decide, fun _ => ⟨_, 0, rfl, by rw [size_alloc]; exact Nat.lt_succ_self _, fun i hi => by
      rw [Nat.zero_add]
      have hi2 : i < 2 := hi
      rcases (show i = 0 ∨ i = 1 by omega) with rfl | rfl
      · exact new_cell _ _ _ _ _ _ rfl rfl
      · exact new_cell _ _ _ _ _ _ rfl rfl⟩⟩
  have HFC := Lib.hid (all_ck cb F res es (fun x _ => HEX.out x) v vr _ (.slice s1 n1 c1) _ [3, 3] (HCX.out.below hbD) ((HES.out.keep HST.out).keep (Stays.of_below hbD)) HTY.out (by rw [← HN.out.1]; exact hn2))
  clear hbD
  generalize allC F v es [3, 3] = q at *
  obtain ⟨fe, fa⟩ := q
  unfold fltV at HFC
  dsimp only at HFC
  have HSW : Hid (w3.cell? ⟨VP, 0, none⟩ = some (.map (some vr)) ∧ w3.cell? ⟨CP, 0, none⟩ = some (.pointer (some ⟨cb, 0, none⟩)) ∧ w3.cell? ⟨SP, 2, none⟩ = some (.slice s1 n1 c1)) := Lib.hid ⟨cell_of HBX.out.v (j := 0) rfl, cell_of HBX.out.c (j := 0) rfl, cell_of HBX.out.s (j := 2) rfl⟩
  have HS0 : Hid (w3.drew.cell? ⟨VP, 0, none⟩ = some (.map (some vr)) ∧ w3.drew.cell? ⟨CP, 0, none⟩ = some (.pointer (some ⟨cb, 0, none⟩)) ∧ w3.drew.cell? ⟨SP, 2, none⟩ = some (.slice s1 n1 c1)) := Lib.hid HSW.out
  have hs0 := HS0.out
  refine wp_region_split (S := (fun w' : World => w'.cell? ⟨VP, 0, none⟩ = some (.map (some vr)) ∧ w'.cell? ⟨CP, 0, none⟩ = some (.pointer (some ⟨cb, 0, none⟩)) ∧ w'.cell? ⟨SP, 2, none⟩ = some (.slice s1 n1 c1))) 7 (by kernel_rfl) (by kernel_rfl) (by exact HS0.out) (fun hHeld => ?_)
  simp only [List.take_succ_cons, List.take_zero, List.drop_succ_cons, List.drop_zero]
  refine wpAnyH_take (i := 0) (v := ?_) rfl (by kernel_rfl) (by kernel_rfl) (by kernel_rfl) (fun _ _ _ h => h) (Or.inl ⟨by rfl, ?_⟩) (by assumption) ?_
  rotate_left 1
  · (intro w hSw; (try dsimp only at hSw); go_simp; try with_reducible rfl)
  try simp only [Act.put, List.setIfInBounds_toArray, List.set_cons_zero, List.set_cons_succ, List.getElem_toArray, List.getElem_cons_zero]
  refine wpAnyH_take (i := 1) (v := ?_) rfl (by kernel_rfl) (by kernel_rfl) (by kernel_rfl) (fun _ _ _ h => h) (Or.inl ⟨by rfl, ?_⟩) (by assumption) ?_
  rotate_left 1
  · (intro w hSw; (try dsimp only at hSw); go_simp; try with_reducible rfl)
  try simp only [Act.put, List.setIfInBounds_toArray, List.set_cons_zero, List.set_cons_succ, List.getElem_toArray, List.getElem_cons_zero, List.getElem_cons_succ]
  refine wpAnyH_take (i := 2) (v := ?_) rfl (by kernel_rfl) (by kernel_rfl) (by kernel_rfl) (fun _ _ _ h => h) (Or.inl ⟨by rfl, ?_⟩) (by assumption) ?_
  rotate_left 1
  · (intro w hSw; (try dsimp only at hSw); go_simp; try with_reducible rfl)
  try simp only [Act.put, List.setIfInBounds_toArray, List.set_cons_zero, List.set_cons_succ, List.getElem_toArray, List.getElem_cons_zero, List.getElem_cons_succ]
  refine wpAnyH_take (i := 3) (v := ?_) rfl (by kernel_rfl) (by kernel_rfl) (by kernel_rfl) (fun _ _ _ h => h) (Or.inl ⟨by rfl, ?_⟩) (by assumption) ?_
  rotate_left 1
  · (intro w hSw; (try dsimp only at hSw); go_simp; try with_reducible rfl)
  try simp only [Act.put, List.setIfInBounds_toArray, List.set_cons_zero, List.set_cons_succ, List.getElem_toArray, List.getElem_cons_zero, List.getElem_cons_succ]
  refine wpAnyH_take (i := 4) (v := ?_) rfl (by kernel_rfl) (by kernel_rfl) (by kernel_rfl) (fun _ _ _ h => h) (Or.inl ⟨by rfl, ?_⟩) (by assumption) ?_
  rotate_left 1
  · (intro w hSw; (try dsimp only at hSw); go_simp; try with_reducible rfl)
  try simp only [Act.put, List.setIfInBounds_toArray, List.set_cons_zero, List.set_cons_succ, List.getElem_toArray, List.getElem_cons_zero, List.getElem_cons_succ]
  refine wpAnyH_ready (rs := [5]) (by kernel_rfl) (by simp) ?_
  refine (AllReadyH.cons rfl (fun K hK => ?_) AllReadyH.nil)
  go_simp
  refine hK.out _ _ ?_ (fun hHeld => ?_)
  · (try dsimp only)
    exact ⟨old_cell _ HS0.out.1, old_cell _ HS0.out.2.1, old_cell _ HS0.out.2.2⟩
  clear hK K
  try simp only [Act.put, List.setIfInBounds_toArray, List.set_cons_zero, List.set_cons_succ, List.getElem_toArray, List.getElem_cons_zero, List.getElem_cons_succ]
  refine wpAnyH_ready (rs := [6]) (by kernel_rfl) (by simp) ?_
  refine (AllReadyH.cons rfl (fun K hK => ?_) AllReadyH.nil)
  go_simp
  go_at_call 69
  refine HFC.out.mono ?_
  rintro e w5 ⟨rfl, hb5⟩
  have hb5' : Below w3.heap.size w3 w5 := up_trans (up_alloc (up_drew (Below.refl _ _)) _) hb5
  have HS5 : Hid (w5.cell? ⟨VP, 0, none⟩ = some (.map (some vr)) ∧ w5.cell? ⟨CP, 0, none⟩ = some (.pointer (some ⟨cb, 0, none⟩)) ∧ w5.cell? ⟨SP, 2, none⟩ = some (.slice s1 n1 c1)) := Lib.hid ⟨(hb5'.cell (p := ⟨VP, 0, none⟩) (lt_of_cell HSW.out.1)).trans HSW.out.1, (hb5'.cell (p := ⟨CP, 0, none⟩) (lt_of_cell HSW.out.2.1)).trans HSW.out.2.1, (hb5'.cell (p := ⟨SP, 2, none⟩) (lt_of_cell HSW.out.2.2)).trans HSW.out.2.2⟩
  have HB0 := HBX
  replace HBX := Lib.hid (HBX.out.below hb5')
  replace HB := Lib.hid (HB.out.trans (hb5'.mono (Nat.le_of_lt (lt_block HB0.out.c))))
  clear HB0
  clear hb5 hb5' hs0
  go_simp
  refine hK.out _ _ ?_ (fun hHeld => ?_)
  · (try dsimp only)
    exact HS5.out
  clear hK K
  try simp only [Act.put, List.setIfInBounds_toArray, List.set_cons_zero, List.set_cons_succ, List.getElem_toArray, List.getElem_cons_zero, List.getElem_cons_succ]
  refine wpAnyH_done (by kernel_rfl) ?_ _
  dsimp only [TailQ]
  have r0 : w5.cell? ⟨RB, 0, none⟩ = some (.int .i64 0) := cell_of HBX.out.r (j := 0) rfl
  have r1 : w5.cell? ⟨RB, 1, none⟩ = some (.int .i64 0) := cell_of HBX.out.r (j := 1) rfl
  have k0 : w5.frozen? ⟨RB, 0, none⟩ = false := frozen_of HBX.out.r 0
  have k1 : w5.frozen? ⟨RB, 1, none⟩ = false := frozen_of HBX.out.r 1
  go_wp2_with fail
  have hfin := (HB.out.setCell (p := ⟨RB, 0, none⟩) HXR.out.2.2 (.int .i64 fe)).setCell (p := ⟨RB, 1, none⟩) HXR.out.2.2 (.int .i64 fa)
  rw [← HXR.out.1] at hfin
  refine bodyPost_ret (v := .tuple #[.map (some vr), .agg #[.int .i64 fe, .int .i64 fa]]) (by simp [results, Try.results39, go_sem, r0, r1]) rfl ⟨vr, by rw [HE.out]; rfl, ?_, hfin⟩
  rw [HE.out]
  exact HCT.out.view.below hfin
/-- stmt: what the plain words say, whatever the statement -/
theorem stmt_ck (cb : Nat) (F : Funs) (res : Int) (hF : ∀ p, p ∈ F → p.2.params.length ≤ 100000) : ∀ x, StCk cb F res x
  | .mk op text es body els pos => stmt_step cb F res (expr_ck cb F res hF) op text es body els pos (fun x hx => by
      have := List.sizeOf_lt_of_mem hx
      exact stmt_ck cb F res hF x) (fun x hx => by
      have := List.sizeOf_lt_of_mem hx
      exact stmt_ck cb F res hF x)
termination_by x => SizeOf.sizeOf x
decreasing_by
  all_goals (simp_wf; omega)
end Go.Proofs.Ytpiamiaigjlafaa
