/-
  A program without its places: the walks.
-/
import Derived.Test.YtpiamiaigjlafaaTyPlG
namespace Go.Proofs.Ytpiamiaigjlafaa
open Go.RowKit

/-- an expression without its places came back -/
def StillSays (w : World) (op num : Int) (text : ByteArray) (ks : List Ex) (e : Ending) (w' : World) : Prop :=
  ∃ s n c, e = .returned (.agg #[.int .i64 op, .int .i64 num, .string text, .slice s n c, .int .i64 0]) ∧ RepEx (From w.heap.size) w' [.int .i64 op, .int .i64 num, .string text, .slice s n c, .int .i64 0] (.mk op num text (stillEs ks) 0) ∧ Below w.heap.size w w'
theorem take_map {α β : Type} (f : α → β) (d : α) (l : List α) (i : Nat) (h : i < l.length) : (l.take i).map f ++ [f (l.getD i d)] = (l.take (i + 1)).map f := by
  rw [List.take_succ_eq_append_getElem h, List.map_append, List.getD_eq_getElem?_getD, List.getElem?_eq_getElem h]
  rfl
theorem Stays.of_lt {w w' : World} {n : Nat} (h : Below n w w') : Stays (fun b => b < n) w w' := ⟨h.size, fun b hb _ => h.block b hb⟩
/-- what is known on the way through still -/
structure StW1 (w W : World) (v : Value) (acc : List Ex) (op num : Int) (text : ByteArray) (s0 : Option Addr) (n cap : Nat) : Prop where
  b : Below w.heap.size w W
  x : W.heap[w.heap.size]? = some (.cells #[.int .i64 op, .int .i64 num, .string text, .slice s0 n cap, .int .i64 0] 44 (0, 0))
  r : W.heap[w.heap.size + 1]? = some (.cells #[.int .i64 0, .int .i64 0, .string ⟨#[]⟩, .slice none 0 0, .int .i64 0] 44 (0, 0))
  gr : GrowOf exK (w.heap.size + 2) 44 5 W v acc
section
variable {w W W' : World} {v : Value} {acc : List Ex} {op num : Int} {text : ByteArray} {s0 : Option Addr} {n cap : Nat}
theorem StW1.form (h : StW1 w W v acc op num text s0 n cap) : ∃ s c, v = .slice s acc.length c := by
  obtain ⟨cs, ho, _⟩ := h.gr
  obtain ⟨s0, cap, h1, _⟩ := own_form ho
  exact ⟨s0, cap, h1⟩
theorem StW1.below (h : StW1 w W v acc op num text s0 n cap) (hb : Below W.heap.size W W') : StW1 w W' v acc op num text s0 n cap :=
  ⟨h.b.trans (hb.mono h.b.size), (hb.block _ (lt_block h.x)).trans h.x, (hb.block _ (lt_block h.r)).trans h.r, h.gr.keep (Stays.of_below hb)⟩
theorem StW1.push {W9 : World} {g cap' : Nat} {new : List Value} {y : Ex} {cs : Nat → List Value} (h : StW1 w W v acc op num text s0 n cap) (hit : Items exK (w.heap.size + 2) 5 W v acc cs) (hn : new.length = 5) (hy : RepEx (fun b => w.heap.size + 2 ≤ b ∧ v.ownBlock ≠ some b) W new y)
    (hg : W.grownBy W9 v.ownBlock) (hgl : v.ownBlock = some g ∨ g = W.heap.size) (hown : W9.ownsRow (w.heap.size + 2) 44 5 (.slice (some ⟨g, 0, none⟩) (acc.length + 1) cap') (acc.length + 1) (flat cs acc.length ++ new)) :
    StW1 w W9 (.slice (some ⟨g, 0, none⟩) (acc.length + 1) cap') (acc ++ [y]) op num text s0 n cap := by
  have hlow : ∀ b, v.ownBlock = some b → w.heap.size + 2 ≤ b := fun b hb => by
    obtain ⟨cs', ho, _⟩ := h.gr
    exact (own_block ho hb).1
  exact ⟨h.b.grown hg h.b.size (fun k e => by have := hlow k e; omega), (hg.block _ (lt_block h.x) (fun e => by have := hlow _ e.symm; omega)).trans h.x, (hg.block _ (lt_block h.r) (fun e => by have := hlow _ e.symm; omega)).trans h.r, GrowOf.push hit hn hy hg hgl hown⟩
end
set_option maxRecDepth 100000 in
set_option maxHeartbeats 4000000 in
theorem still_step (ks : List Ex) (hsm : ks.length ≤ 5000) (ih : ∀ x, x ∈ ks → ∀ (w : World) (op num pos : Int) (text : ByteArray) (u : Value) (ks' : List Ex), x = .mk op num text ks' pos → RepExs Any w u ks' → Calls Try.prog 17 #[.agg #[.int .i64 op, .int .i64 num, .string text, u, .int .i64 pos]] w (StillSays w op num text ks'))
    (w : World) (op num pos : Int) (text : ByteArray) (u : Value) (hr : RepExs Any w u ks) :
    Calls Try.prog 17 #[.agg #[.int .i64 op, .int .i64 num, .string text, u, .int .i64 pos]] w (StillSays w op num text ks) := by
  obtain ⟨cs, ⟨s0, cap, rfl, hle, hcm, _, hrow, hsz⟩, hit⟩ := hr
  have HIH := Lib.hid ih
  have HROW := Lib.hid hrow
  have HIT : Hid (∀ i, i < ks.length → RepEx (fun b => b < w.heap.size) w (cs i) (ks.getD i default)) := Lib.hid (fun i hi => (hit i hi).lies.mono (fun _ h => h.2))
  have HI := Lib.hid infoEx
  clear ih hrow hit hsz hcm hle
  go_enter Try.func17, Try.ntmps17
  go_wp2_with fail
  have HB1 : Hid (Below w.heap.size w ((w.alloc (.cells #[.int .i64 op, .int .i64 num, .string text, .slice s0 ks.length cap, .int .i64 0] 44)).alloc (.cells #[.int .i64 0, .int .i64 0, .string ⟨#[]⟩, .slice none 0 0, .int .i64 0] 44))) := Lib.hid (up_alloc (up_alloc (Below.refl _ _) _) _)
  have HXB : Hid (((w.alloc (.cells #[.int .i64 op, .int .i64 num, .string text, .slice s0 ks.length cap, .int .i64 0] 44)).alloc (.cells #[.int .i64 0, .int .i64 0, .string ⟨#[]⟩, .slice none 0 0, .int .i64 0] 44)).heap[w.heap.size]? = some (.cells #[.int .i64 op, .int .i64 num, .string text, .slice s0 ks.length cap, .int .i64 0] 44 (0, 0))) := Lib.hid (old_heap _ _ _ _ (new_heap _ _ _ rfl))
  have HRB : Hid (((w.alloc (.cells #[.int .i64 op, .int .i64 num, .string text, .slice s0 ks.length cap, .int .i64 0] 44)).alloc (.cells #[.int .i64 0, .int .i64 0, .string ⟨#[]⟩, .slice none 0 0, .int .i64 0] 44)).heap[w.heap.size + 1]? = some (.cells #[.int .i64 0, .int .i64 0, .string ⟨#[]⟩, .slice none 0 0, .int .i64 0] 44 (0, 0))) := Lib.hid (new_heap _ _ _ (size_alloc _ _))
  generalize ((w.alloc (.cells #[.int .i64 op, .int .i64 num, .string text, .slice s0 ks.length cap, .int .i64 0] 44)).alloc (.cells #[.int .i64 0, .int .i64 0, .string ⟨#[]⟩, .slice none 0 0, .int .i64 0] 44)) = w1 at *
  have hlen : ks.length ≤ 9223372036854775807 := Nat.le_trans hsm (by decide)
  go_loopg [3, 4] ks.length (fun g t3 t4 wr => ∃ acc : List Ex, acc.length + g = ks.length ∧ t4 = .int .i64 (acc.length : Int) ∧ acc = (ks.take acc.length).map stillE ∧ StW1 w wr t3 acc op num text s0 ks.length cap)
  case atStart => exact ⟨[], Nat.zero_add _, rfl, rfl, HB1.out, HXB.out, HRB.out, GrowOf.nil⟩
  case round =>
    clear HB1 HXB HRB
    obtain ⟨acc, hig, rfl, hacc, hst⟩ := hrel
    have HACC := Lib.hid hacc
    clear hacc
    have HW := Lib.hid hst
    have p3 : wr.cell? ⟨w.heap.size, 3, none⟩ = some (.slice s0 ks.length cap) := cell_of hst.x (j := 3) rfl
    obtain ⟨sv, cv, rfl⟩ := hst.form
    clear hst
    by_cases hlt : acc.length < ks.length
    · obtain ⟨b, off, hs0, _, hbl, hcell⟩ := HROW.out (by omega)
      subst hs0
      have hrep := HIT.out acc.length hlt
      obtain ⟨kop, knum, ktext, s1, n1, c1, kpos, hcs⟩ := ex_form hrep
      rw [hcs] at hrep
      have hc5 : ∀ j, j < 5 → wr.cell? ⟨b, off + acc.length * 5 + j, none⟩ = (cs acc.length)[j]? := fun j hj => (HW.out.b.cell (p := ⟨b, _, none⟩) hbl).trans (hcell acc.length hlt j hj)
      rw [hcs] at hc5
      have x0 : wr.cell? ⟨b, off + acc.length * 5, none⟩ = some (.int .i64 kop) := hc5 0 (by decide)
      have x1 : wr.cell? ⟨b, off + acc.length * 5 + 1, none⟩ = some (.int .i64 knum) := hc5 1 (by decide)
      have x2 : wr.cell? ⟨b, off + acc.length * 5 + 2, none⟩ = some (.string ktext) := hc5 2 (by decide)
      have x3 : wr.cell? ⟨b, off + acc.length * 5 + 3, none⟩ = some (.slice s1 n1 c1) := hc5 3 (by decide)
      have x4 : wr.cell? ⟨b, off + acc.length * 5 + 4, none⟩ = some (.int .i64 kpos) := hc5 4 (by decide)
      have hrep2 := hrep.keep (Stays.of_lt HW.out.b)
      obtain ⟨kks, hks, hkr⟩ := ex_of hrep2
      have hmem : ks.getD acc.length default ∈ ks := by rw [List.getD_eq_getElem?_getD, List.getElem?_eq_getElem hlt]; exact List.getElem_mem hlt
      have HC := Lib.hid (HIH.out _ hmem wr kop knum kpos ktext (.slice s1 n1 c1) kks hks (hkr.mono (fun _ _ => trivial)))
      have HY0 : Hid (acc ++ [stillE (ks.getD acc.length default)] = (ks.take (acc.length + 1)).map stillE) := Lib.hid (by rw [← take_map stillE default ks _ hlt, ← HACC.out])
      have HY9 := Lib.hid (by rw [hks, stillE] at HY0; exact HY0.out)
      clear hrep hrep2 hc5 hcs hcell hkr hks hmem
      go_wp2_with fail
      refine HC.out.mono ?_
      rintro e w4 ⟨s4, n4, c4, rfl, hrep4, hb4⟩
      have HREP := Lib.hid hrep4
      have HB5 := Lib.hid (up_trans hb4 (up_alloc (Below.refl w4.heap.size w4) (.cells #[.int .i64 kop, .int .i64 knum, .string ktext, .slice s4 n4 c4, .int .i64 0] 44)))
      have HW4 := Lib.hid (HW.out.below HB5.out)
      obtain ⟨cs5, hown, hit5⟩ := HW4.out.gr
      have HOWN := Lib.hid hown
      have HIT5 := Lib.hid hit5
      have HOLD : Hid (∀ b, (Value.slice sv acc.length cv).ownBlock = some b → b < wr.heap.size) := Lib.hid (fun b hb => by
        obtain ⟨cs', ho', _⟩ := HW.out.gr
        exact (own_block ho' hb).2)
      have HSZ : Hid (w.heap.size + 2 ≤ wr.heap.size) := Lib.hid (lt_block HW.out.r)
      have HY := Lib.hid ((HREP.out.keep (Stays.of_below (up_alloc (Below.refl w4.heap.size w4) (.cells #[.int .i64 kop, .int .i64 knum, .string ktext, .slice s4 n4 c4, .int .i64 0] 44)))).mono (S' := fun b => w.heap.size + 2 ≤ b ∧ (Value.slice sv acc.length cv).ownBlock ≠ some b) fun b (hb : wr.heap.size ≤ b) => ⟨Nat.le_trans HSZ.out hb, fun e => absurd (HOLD.out b e) (by omega)⟩)
      clear hrep4 hb4 hown hit5
      go_wp2_with (refine wpList_append_lies _ rfl _ _ _ rfl (w.heap.size + 2) 44 HI.out.choose _ 5 64 Try.underlying42 HI.out.choose_spec.1 HI.out.choose_spec.2.1 HI.out.choose_spec.2.2.1 HI.out.choose_spec.2.2.2 rfl (by decide) _ acc.length (flat cs5 acc.length) rfl HOWN.out ⟨w4.heap.size, 0, none⟩ 1 1 [.int .i64 kop, .int .i64 knum, .string ktext, .slice s4 n4 c4, .int .i64 0] rfl rfl (by intro j u hj; rw [Go.WideShapes.add_plain, Nat.zero_add]; exact new_cell _ _ _ _ _ _ rfl (by simpa using hj)) (by intro u hu; simp at hu; rcases hu with rfl | rfl | rfl | rfl | rfl <;> rfl) (by decide) (by unfold maxLen; omega) (by omega) (by rw [size_alloc]; have := HSZ.out; have := HB5.out.size; rw [size_alloc] at this; omega) _ rfl ?_; intro g9 cp9 w9 hown9 hgrow9 hgl9 hlt9; have HPU := Lib.hid (HW4.out.push HIT5.out rfl HY.out hgrow9 hgl9 hown9); clear hown9 hgrow9 hgl9 hlt9)
      go_roundg (ks.length - acc.length - 1)
      case measure => omega
      case rel => exact ⟨_, by simp; omega, by simp, by rw [List.length_append]; exact HY9.out, HPU.out⟩
    · have hend : acc.length = ks.length := by omega
      have HEND : Hid (acc = ks.map stillE) := Lib.hid (by have q := HACC.out; rw [hend, List.take_of_length_le (Nat.le_refl _)] at q; exact q)
      have f3 : wr.frozen? ⟨w.heap.size, 3, none⟩ = false := frozen_of HW.out.x 3
      rw [hend]
      go_upto_region 8 with fail
      have HXB : Hid ((wr.setCell ⟨w.heap.size, 3, none⟩ (.slice sv ks.length cv)).heap[w.heap.size]? = some (.cells #[.int .i64 op, .int .i64 num, .string text, .slice sv ks.length cv, .int .i64 0] 44 (0, 0))) := Lib.hid (setCell_obj HW.out.x 3 _)
      have HRB : Hid ((wr.setCell ⟨w.heap.size, 3, none⟩ (.slice sv ks.length cv)).heap[w.heap.size + 1]? = some (.cells #[.int .i64 0, .int .i64 0, .string ⟨#[]⟩, .slice none 0 0, .int .i64 0] 44 (0, 0))) := Lib.hid ((setCell_heap _ _ _ _ (by show w.heap.size + 1 ≠ w.heap.size; omega)).trans HW.out.r)
      have HGR := Lib.hid (HW.out.gr.keep (Stays.of_on ((On.refl w.heap.size wr).set 3 (.slice sv ks.length cv)) (by omega)))
      have HB6 : Hid (Below w.heap.size w (wr.setCell ⟨w.heap.size, 3, none⟩ (.slice sv ks.length cv))) := Lib.hid (up_set HW.out.b (p := ⟨w.heap.size, 3, none⟩) (Nat.le_refl _) _)
      clear p3 f3
      generalize (wr.setCell ⟨w.heap.size, 3, none⟩ (.slice sv ks.length cv)) = w6 at *
      have x0 : w6.cell? ⟨w.heap.size, 0, none⟩ = some (.int .i64 op) := cell_of HXB.out (j := 0) rfl
      have x1 : w6.cell? ⟨w.heap.size, 1, none⟩ = some (.int .i64 num) := cell_of HXB.out (j := 1) rfl
      have x2 : w6.cell? ⟨w.heap.size, 2, none⟩ = some (.string text) := cell_of HXB.out (j := 2) rfl
      have x3 : w6.cell? ⟨w.heap.size, 3, none⟩ = some (.slice sv ks.length cv) := cell_of HXB.out (j := 3) rfl
      have x4 : w6.cell? ⟨w.heap.size, 4, none⟩ = some (.int .i64 0) := cell_of HXB.out (j := 4) rfl
      have r0 : w6.cell? ⟨w.heap.size + 1, 0, none⟩ = some (.int .i64 0) := cell_of HRB.out (j := 0) rfl
      have r1 : w6.cell? ⟨w.heap.size + 1, 1, none⟩ = some (.int .i64 0) := cell_of HRB.out (j := 1) rfl
      have r2 : w6.cell? ⟨w.heap.size + 1, 2, none⟩ = some (.string ⟨#[]⟩) := cell_of HRB.out (j := 2) rfl
      have r3 : w6.cell? ⟨w.heap.size + 1, 3, none⟩ = some (.slice none 0 0) := cell_of HRB.out (j := 3) rfl
      have r4 : w6.cell? ⟨w.heap.size + 1, 4, none⟩ = some (.int .i64 0) := cell_of HRB.out (j := 4) rfl
      have f0 : w6.frozen? ⟨w.heap.size + 1, 0, none⟩ = false := frozen_of HRB.out 0
      have f1 : w6.frozen? ⟨w.heap.size + 1, 1, none⟩ = false := frozen_of HRB.out 1
      have f2 : w6.frozen? ⟨w.heap.size + 1, 2, none⟩ = false := frozen_of HRB.out 2
      have f3 : w6.frozen? ⟨w.heap.size + 1, 3, none⟩ = false := frozen_of HRB.out 3
      have f4 : w6.frozen? ⟨w.heap.size + 1, 4, none⟩ = false := frozen_of HRB.out 4
      go_wp2_with fail
      have hon : On (w.heap.size + 1) w6 (set5 w6 (w.heap.size + 1) (.int .i64 op) (.int .i64 num) (.string text) (.slice sv ks.length cv) (.int .i64 0)) := (On.refl _ _).set5 _ _ _ _ _
      obtain ⟨cr, hrow, hit⟩ := (HGR.out.keep (Stays.of_on hon (by omega))).row
      refine bodyPost_ret (v := .agg #[.int .i64 op, .int .i64 num, .string text, .slice sv ks.length cv, .int .i64 0]) (by simp [results, Try.results17, go_sem, r0, r1, r2, r3, r4]) rfl ?_
      refine ⟨sv, ks.length, cv, rfl, (RepEx.of (S := From (w.heap.size + 2)) ⟨cr, ?_, ?_⟩).down (by omega), hon.base HB6.out (by omega)⟩
      · rw [stillEs_map, ← HEND.out, ← hend]; rw [← hend] at hrow; exact hrow
      · rw [stillEs_map, ← HEND.out]; exact hit
theorem exSmall_len {b : Nat} {op num pos : Int} {text : ByteArray} {ks : List Ex} (h : exSmall b (.mk op num text ks pos)) : ks.length ≤ b ∧ exsSmall b ks := by rw [exSmall] at h; exact h
/-- still: whatever the expression -/
theorem still_any (ks : List Ex) (hsm : ks.length ≤ 5000) (hall : exsSmall 5000 ks) (w : World) (op num pos : Int) (text : ByteArray) (u : Value) (hr : RepExs Any w u ks) :
    Calls Try.prog 17 #[.agg #[.int .i64 op, .int .i64 num, .string text, u, .int .i64 pos]] w (StillSays w op num text ks) :=
  still_step ks hsm (fun x hx w op num pos text u ks' e h => still_any ks' (exSmall_len (e ▸ exsSmall_at hall x hx)).1 (exSmall_len (e ▸ exsSmall_at hall x hx)).2 w op num pos text u h) w op num pos text u hr
termination_by SizeOf.sizeOf ks
decreasing_by
  have := List.sizeOf_lt_of_mem (by assumption : x ∈ ks)
  subst e
  simp at this
  omega
/-- the same of a row of statements -/
def StillsSays (w : World) (l : List St) (e : Ending) (w' : World) : Prop :=
  ∃ s c, e = .returned (.slice s l.length c) ∧ RepSts (From w.heap.size) w' (.slice s l.length c) (stillSs l) ∧ Below w.heap.size w w'
theorem GrowOf.keep_lt {α : Type} [Inhabited α] {K : Kind α} {base e sz : Nat} {w w' : World} {v : Value} {xs : List α} (h : GrowOf K base e sz w v xs) (hs : Below w.heap.size w w') : GrowOf K base e sz w' v xs := h.keep (Stays.of_below hs)
structure StW2 (w W : World) (v : Value) (acc : List St) : Prop where
  b : Below w.heap.size w W
  gr : GrowOf stK w.heap.size 46 6 W v acc
section
variable {w W W' : World} {v : Value} {acc : List St}
theorem StW2.form (h : StW2 w W v acc) : ∃ s c, v = .slice s acc.length c := by
  obtain ⟨cs, ho, _⟩ := h.gr
  obtain ⟨s0, cap, h1, _⟩ := own_form ho
  exact ⟨s0, cap, h1⟩
theorem StW2.below (h : StW2 w W v acc) (hb : Below W.heap.size W W') : StW2 w W' v acc := ⟨h.b.trans (hb.mono h.b.size), h.gr.keep (Stays.of_below hb)⟩
theorem StW2.push {W9 : World} {g cap' : Nat} {new : List Value} {y : St} {cs : Nat → List Value} (h : StW2 w W v acc) (hit : Items stK w.heap.size 6 W v acc cs) (hn : new.length = 6) (hy : RepSt (fun b => w.heap.size ≤ b ∧ v.ownBlock ≠ some b) W new y)
    (hg : W.grownBy W9 v.ownBlock) (hgl : v.ownBlock = some g ∨ g = W.heap.size) (hown : W9.ownsRow w.heap.size 46 6 (.slice (some ⟨g, 0, none⟩) (acc.length + 1) cap') (acc.length + 1) (flat cs acc.length ++ new)) :
    StW2 w W9 (.slice (some ⟨g, 0, none⟩) (acc.length + 1) cap') (acc ++ [y]) :=
  ⟨h.b.grown hg h.b.size (fun k e => by
    obtain ⟨cs', ho, _⟩ := h.gr
    exact (own_block ho e).1), GrowOf.push hit hn hy hg hgl hown⟩
end
/-- what is known on the way through the expressions of a statement -/
structure StW3 (w1 W : World) (v : Value) (acc : List Ex) (sbk : Nat) (o : Obj) : Prop where
  b : Below w1.heap.size w1 W
  x : W.heap[sbk]? = some o
  lt : sbk < w1.heap.size
  gr : GrowOf exK w1.heap.size 44 5 W v acc
section
variable {w1 W W' : World} {v : Value} {acc : List Ex} {sbk : Nat} {o : Obj}
theorem StW3.form (h : StW3 w1 W v acc sbk o) : ∃ s c, v = .slice s acc.length c := by
  obtain ⟨cs, ho, _⟩ := h.gr
  obtain ⟨s0, cap, h1, _⟩ := own_form ho
  exact ⟨s0, cap, h1⟩
theorem StW3.below (h : StW3 w1 W v acc sbk o) (hb : Below W.heap.size W W') : StW3 w1 W' v acc sbk o := ⟨h.b.trans (hb.mono h.b.size), (hb.block _ (lt_block h.x)).trans h.x, h.lt, h.gr.keep (Stays.of_below hb)⟩
theorem StW3.push {W9 : World} {g cap' : Nat} {new : List Value} {y : Ex} {cs : Nat → List Value} (h : StW3 w1 W v acc sbk o) (hit : Items exK w1.heap.size 5 W v acc cs) (hn : new.length = 5) (hy : RepEx (fun b => w1.heap.size ≤ b ∧ v.ownBlock ≠ some b) W new y)
    (hg : W.grownBy W9 v.ownBlock) (hgl : v.ownBlock = some g ∨ g = W.heap.size) (hown : W9.ownsRow w1.heap.size 44 5 (.slice (some ⟨g, 0, none⟩) (acc.length + 1) cap') (acc.length + 1) (flat cs acc.length ++ new)) :
    StW3 w1 W9 (.slice (some ⟨g, 0, none⟩) (acc.length + 1) cap') (acc ++ [y]) sbk o := by
  have hlow : ∀ b, v.ownBlock = some b → w1.heap.size ≤ b := fun b hb => by
    obtain ⟨cs', ho, _⟩ := h.gr
    exact (own_block ho hb).1
  exact ⟨h.b.grown hg h.b.size hlow, (hg.block _ (lt_block h.x) (fun e => by have := hlow _ e.symm; have := h.lt; omega)).trans h.x, h.lt, GrowOf.push hit hn hy hg hgl hown⟩
end
theorem sts_len {S : Nat → Prop} {w : World} {s0 : Option Addr} {n c : Nat} {l : List St} (h : RepSts S w (.slice s0 n c) l) : n = l.length := by
  obtain ⟨_, ⟨_, _, e, _⟩, _⟩ := h
  injection e
theorem exs_len {S : Nat → Prop} {w : World} {s0 : Option Addr} {n c : Nat} {l : List Ex} (h : RepExs S w (.slice s0 n c) l) : n = l.length := by
  obtain ⟨_, ⟨_, _, e, _⟩, _⟩ := h
  injection e
theorem exs_grow {base : Nat} {w : World} {v : Value} {l : List Ex} (h : GrowOf exK base 44 5 w v l) : RepExs (From base) w v l := h.row
theorem sts_mono {S S' : Nat → Prop} {w : World} {v : Value} {l : List St} (h : RepSts S w v l) (hb : ∀ b, S b → S' b) : RepSts S' w v l := h.mono hb
set_option maxRecDepth 100000 in
set_option maxHeartbeats 8000000 in
theorem stills_step (l : List St) (hsm : l.length ≤ 5000) (hall : stsSmall 5000 l) (ih : ∀ s, s ∈ l → ∀ (w : World) (u : Value), (RepSts Any w u s.body → Calls Try.prog 12 #[u] w (StillsSays w s.body)) ∧ (RepSts Any w u s.els → Calls Try.prog 12 #[u] w (StillsSays w s.els)))
    (w : World) (u : Value) (hr : RepSts Any w u l) : Calls Try.prog 12 #[u] w (StillsSays w l) := by
  obtain ⟨cs, ⟨s0, cap, rfl, hle, hcm, _, hrow, hsz⟩, hit⟩ := hr
  have HIH := Lib.hid ih
  have HROW := Lib.hid hrow
  have HIT : Hid (∀ i, i < l.length → RepSt (fun b => b < w.heap.size) w (cs i) (l.getD i default)) := Lib.hid (fun i hi => (hit i hi).lies.mono (fun _ h => h.2))
  have HI := Lib.hid infoEx
  have HIS := Lib.hid infoSt
  have HALL := Lib.hid hall
  have hlen : l.length ≤ 9223372036854775807 := Nat.le_trans hsm (by decide)
  clear ih hrow hit hsz hcm hle hall
  go_enter Try.func12, Try.ntmps12
  go_wp2_with fail
  go_loopg [3, 4] l.length (fun g t3 t4 wr => ∃ acc : List St, acc.length + g = l.length ∧ t4 = .int .i64 (acc.length : Int) ∧ acc = (l.take acc.length).map stillS ∧ StW2 w wr t3 acc)
  case atStart => exact ⟨[], Nat.zero_add _, rfl, rfl, Below.refl _ _, GrowOf.nil⟩
  case round =>
    obtain ⟨wo, rfl⟩ : ∃ wo : World, wo = wr := ⟨_, rfl⟩
    obtain ⟨acc, hig, rfl, hacc, hst⟩ := hrel
    have HACC := Lib.hid hacc
    have HW := Lib.hid hst
    obtain ⟨sv, cv, rfl⟩ := hst.form
    clear hacc hst
    by_cases hlt : acc.length < l.length
    · obtain ⟨b, off, hs0, _, hbl, hcell⟩ := HROW.out (by omega)
      subst hs0
      have hrep := HIT.out acc.length hlt
      obtain ⟨op, text, s1, n1, c1, s2, n2, c2, s3, n3, c3, pos, hcs⟩ := st_form hrep
      rw [hcs] at hrep
      have hc6 : ∀ j, j < 6 → wo.cell? ⟨b, off + acc.length * 6 + j, none⟩ = (cs acc.length)[j]? := fun j hj => (HW.out.b.cell (p := ⟨b, _, none⟩) hbl).trans (hcell acc.length hlt j hj)
      rw [hcs] at hc6
      have x0 : wo.cell? ⟨b, off + acc.length * 6, none⟩ = some (.int .i64 op) := hc6 0 (by decide)
      have x1 : wo.cell? ⟨b, off + acc.length * 6 + 1, none⟩ = some (.string text) := hc6 1 (by decide)
      have x2 : wo.cell? ⟨b, off + acc.length * 6 + 2, none⟩ = some (.slice s1 n1 c1) := hc6 2 (by decide)
      have x3 : wo.cell? ⟨b, off + acc.length * 6 + 3, none⟩ = some (.slice s2 n2 c2) := hc6 3 (by decide)
      have x4 : wo.cell? ⟨b, off + acc.length * 6 + 4, none⟩ = some (.slice s3 n3 c3) := hc6 4 (by decide)
      have x5 : wo.cell? ⟨b, off + acc.length * 6 + 5, none⟩ = some (.int .i64 pos) := hc6 5 (by decide)
      obtain ⟨es, body, els, hs, hes, hbo, hels⟩ := st_of hrep
      obtain rfl := exs_len hes
      obtain rfl := sts_len hbo
      obtain rfl := sts_len hels
      have hmem : l.getD acc.length default ∈ l := by rw [List.getD_eq_getElem?_getD, List.getElem?_eq_getElem hlt]; exact List.getElem_mem hlt
      have hih := HIH.out _ hmem
      have hsml := stsSmall_at HALL.out _ hmem
      have HY9 : Hid (acc ++ [stillS (.mk op text es body els pos)] = (l.take (acc.length + 1)).map stillS) := Lib.hid (by rw [← take_map stillS default l _ hlt, ← HACC.out, hs])
      rw [hs] at hih hsml
      rw [stSmall] at hsml
      simp only [St.body, St.els] at hih
      have HES : Hid (RepExs (fun b => b < w.heap.size) w (.slice s1 es.length c1) es) := Lib.hid hes
      have HBO : Hid (RepSts (fun b => b < w.heap.size) w (.slice s2 body.length c2) body) := Lib.hid hbo
      have HEL : Hid (RepSts (fun b => b < w.heap.size) w (.slice s3 els.length c3) els) := Lib.hid hels
      have HIHX := Lib.hid hih
      have HSML := Lib.hid hsml
      have hel5 : es.length ≤ 5000 := hsml.1.1
      clear hrep hc6 hcs hcell hes hbo hels hs hmem hih hsml
      go_upto_region 7 with fail
      clear x0 x1 x2 x3 x4 x5
      have HSB : Hid ((wo.alloc (.cells #[.int .i64 op, .string text, .slice s1 es.length c1, .slice s2 body.length c2, .slice s3 els.length c3, .int .i64 0] 46)).heap[wo.heap.size]? = some (.cells #[.int .i64 op, .string text, .slice s1 es.length c1, .slice s2 body.length c2, .slice s3 els.length c3, .int .i64 0] 46 (0, 0))) := Lib.hid (new_heap _ _ _ rfl)
      have HB1 : Hid (Below wo.heap.size wo (wo.alloc (.cells #[.int .i64 op, .string text, .slice s1 es.length c1, .slice s2 body.length c2, .slice s3 els.length c3, .int .i64 0] 46))) := Lib.hid (up_alloc (Below.refl _ _) _)
      generalize (wo.alloc (.cells #[.int .i64 op, .string text, .slice s1 es.length c1, .slice s2 body.length c2, .slice s3 els.length c3, .int .i64 0] 46)) = w1 at *
      generalize hSB : wo.heap.size = SB at *
      have HSE := Lib.hid hSB
      clear hSB
      go_wp2_with fail
      have HEM : Hid (es.length ≤ 9223372036854775807) := Lib.hid (Nat.le_trans hel5 (by decide))
      have hesl : es.length ≤ 9223372036854775807 := HEM.out
      go_loopg [6, 7] es.length (fun g t6 t7 wr => ∃ xa : List Ex, xa.length + g = es.length ∧ t7 = .int .i64 (xa.length : Int) ∧ xa = (es.take xa.length).map stillE ∧ StW3 w1 wr t6 xa SB (.cells #[.int .i64 op, .string text, .slice s1 es.length c1, .slice s2 body.length c2, .slice s3 els.length c3, .int .i64 0] 46 (0, 0)))
      case atStart => exact ⟨[], Nat.zero_add _, rfl, rfl, Below.refl _ _, HSB.out, lt_block HSB.out, GrowOf.nil⟩
      case round =>
        obtain ⟨xa, hxg, rfl, hxa, hsx⟩ := hrel
        have HXA := Lib.hid hxa
        have HX := Lib.hid hsx
        have y2 : wr.cell? ⟨SB, 2, none⟩ = some (.slice s1 es.length c1) := cell_of hsx.x (j := 2) rfl
        obtain ⟨sx, cx, rfl⟩ := hsx.form
        clear hxa hsx
        have HBQ : Hid (Below SB wo wr) := Lib.hid (HB1.out.trans (HX.out.b.mono (Nat.le_of_lt HX.out.lt)))
        have HWQ : Hid (Below w.heap.size w wr) := Lib.hid (HW.out.b.trans (HBQ.out.mono (by rw [← HSE.out]; exact HW.out.b.size)))
        by_cases hxl : xa.length < es.length
        · obtain ⟨ce, ⟨se, capE, e, _, _, _, hrow, _⟩, hit⟩ := HES.out
          injection e with e1 _ e3
          subst e1 e3
          obtain ⟨be, offe, hs0, hbe, hble, hcell⟩ := hrow (by omega)
          subst hs0
          have hrep := hit xa.length hxl
          obtain ⟨kop, knum, ktext, q1, m1, d1, kpos, hcs⟩ := ex_form hrep
          rw [hcs] at hrep
          have hc5 : ∀ j, j < 5 → wr.cell? ⟨be, offe + xa.length * 5 + j, none⟩ = (ce xa.length)[j]? := fun j hj => (HWQ.out.cell (p := ⟨be, _, none⟩) hble).trans (hcell xa.length hxl j hj)
          rw [hcs] at hc5
          have x0 : wr.cell? ⟨be, offe + xa.length * 5, none⟩ = some (.int .i64 kop) := hc5 0 (by decide)
          have x1 : wr.cell? ⟨be, offe + xa.length * 5 + 1, none⟩ = some (.int .i64 knum) := hc5 1 (by decide)
          have x2 : wr.cell? ⟨be, offe + xa.length * 5 + 2, none⟩ = some (.string ktext) := hc5 2 (by decide)
          have x3 : wr.cell? ⟨be, offe + xa.length * 5 + 3, none⟩ = some (.slice q1 m1 d1) := hc5 3 (by decide)
          have x4 : wr.cell? ⟨be, offe + xa.length * 5 + 4, none⟩ = some (.int .i64 kpos) := hc5 4 (by decide)
          have hrep2 := hrep.keep (Stays.of_lt HWQ.out)
          obtain ⟨kks, hks, hkr⟩ := ex_of hrep2
          have hmem : es.getD xa.length default ∈ es := by rw [List.getD_eq_getElem?_getD, List.getElem?_eq_getElem hxl]; exact List.getElem_mem hxl
          have hsmx := exsSmall_at HSML.out.1.2 _ hmem
          rw [hks] at hsmx
          have HC := Lib.hid (still_any kks (exSmall_len hsmx).1 (exSmall_len hsmx).2 wr kop knum kpos ktext (.slice q1 m1 d1) (hkr.mono (fun _ _ => trivial)))
          have HY8 : Hid (xa ++ [.mk kop knum ktext (stillEs kks) 0] = (es.take (xa.length + 1)).map stillE) := Lib.hid (by rw [← take_map stillE default es _ hxl, ← HXA.out, hks, stillE])
          clear hrep hrep2 hc5 hcs hcell hkr hks hmem hrow hit hsmx
          go_wp2_with fail
          refine HC.out.mono ?_
          rintro e w4 ⟨s4, n4, c4, rfl, hrep4, hb4⟩
          have HREP := Lib.hid hrep4
          have HB5 := Lib.hid (up_trans hb4 (up_alloc (Below.refl w4.heap.size w4) (.cells #[.int .i64 kop, .int .i64 knum, .string ktext, .slice s4 n4 c4, .int .i64 0] 44)))
          have HW4 := Lib.hid (HX.out.below HB5.out)
          obtain ⟨cs5, hown, hit5⟩ := HW4.out.gr
          have HOWN := Lib.hid hown
          have HIT5 := Lib.hid hit5
          have HOLD : Hid (∀ b, (Value.slice sx xa.length cx).ownBlock = some b → b < wr.heap.size) := Lib.hid (fun b hb => by
            obtain ⟨cs', ho', _⟩ := HX.out.gr
            exact (own_block ho' hb).2)
          have HSZ : Hid (w1.heap.size ≤ wr.heap.size) := Lib.hid HX.out.b.size
          have HY := Lib.hid ((HREP.out.keep (Stays.of_below (up_alloc (Below.refl w4.heap.size w4) (.cells #[.int .i64 kop, .int .i64 knum, .string ktext, .slice s4 n4 c4, .int .i64 0] 44)))).mono (S' := fun b => w1.heap.size ≤ b ∧ (Value.slice sx xa.length cx).ownBlock ≠ some b) fun b (hb : wr.heap.size ≤ b) => ⟨Nat.le_trans HSZ.out hb, fun e => absurd (HOLD.out b e) (by omega)⟩)
          clear hrep4 hb4 hown hit5
          go_wp2_with (refine wpList_append_lies _ rfl _ _ _ rfl w1.heap.size 44 HI.out.choose _ 5 64 Try.underlying42 HI.out.choose_spec.1 HI.out.choose_spec.2.1 HI.out.choose_spec.2.2.1 HI.out.choose_spec.2.2.2 rfl (by decide) _ xa.length (flat cs5 xa.length) rfl HOWN.out ⟨w4.heap.size, 0, none⟩ 1 1 [.int .i64 kop, .int .i64 knum, .string ktext, .slice s4 n4 c4, .int .i64 0] rfl rfl (by intro j u hj; rw [Go.WideShapes.add_plain, Nat.zero_add]; exact new_cell _ _ _ _ _ _ rfl (by simpa using hj)) (by intro u hu; simp at hu; rcases hu with rfl | rfl | rfl | rfl | rfl <;> rfl) (by decide) (by unfold maxLen; omega) (by omega) (by have := HSZ.out; have := HB5.out.size; omega) _ rfl ?_; intro g9 cp9 w9 hown9 hgrow9 hgl9 hlt9; have HPU := Lib.hid (HW4.out.push HIT5.out rfl HY.out hgrow9 hgl9 hown9); clear hown9 hgrow9 hgl9 hlt9)
          go_roundg (es.length - xa.length - 1)
          case measure => omega
          case rel => exact ⟨_, by simp; omega, by simp, by rw [List.length_append]; exact HY8.out, HPU.out⟩
        · have hend : xa.length = es.length := by omega
          have HEX : Hid (xa = stillEs es) := Lib.hid (by have q := HXA.out; rw [hend, List.take_of_length_le (Nat.le_refl _)] at q; rw [stillEs_map]; exact q)
          have HGE : Hid (RepExs (From w1.heap.size) wr (.slice sx es.length cx) (stillEs es)) := Lib.hid (by have q := exs_grow HX.out.gr; rw [hend] at q; rw [← HEX.out]; exact q)
          have HSBQ := Lib.hid HX.out.x
          have HSBL : Hid (SB < w1.heap.size) := Lib.hid HX.out.lt
          have f2 : wr.frozen? ⟨SB, 2, none⟩ = false := frozen_of HSBQ.out 2
          have HZ0 : Hid (w1.heap.size ≤ (wr.setCell ⟨SB, 2, none⟩ (.slice sx es.length cx)).heap.size) := Lib.hid (by rw [setCell_size]; exact HX.out.b.size)
          rw [hend]
          go_upto_region 13 with fail
          have HSBN : Hid ((wr.setCell ⟨SB, 2, none⟩ (.slice sx es.length cx)).heap[SB]? = some (.cells #[.int .i64 op, .string text, .slice sx es.length cx, .slice s2 body.length c2, .slice s3 els.length c3, .int .i64 0] 46 (0, 0))) := Lib.hid (setCell_obj HSBQ.out 2 _)
          have HON : Hid (Stays (From w1.heap.size) wr (wr.setCell ⟨SB, 2, none⟩ (.slice sx es.length cx))) := Lib.hid (Stays.of_on ((On.refl SB wr).set 2 (.slice sx es.length cx)) HSBL.out)
          have HBN : Hid (Below SB wo (wr.setCell ⟨SB, 2, none⟩ (.slice sx es.length cx))) := Lib.hid (HBQ.out.setCell (p := ⟨SB, 2, none⟩) (Nat.le_refl _) _)
          replace HGE := Lib.hid (HGE.out.keep HON.out)
          clear HSBQ HBQ HON f2 y2
          generalize (wr.setCell ⟨SB, 2, none⟩ (.slice sx es.length cx)) = w5 at *
          have HSBQ := Lib.hid HSBN.out
          have HBQ := Lib.hid HBN.out
          clear HSBN HBN
          have HWQ : Hid (Below w.heap.size w w5) := Lib.hid (HW.out.b.trans (HBQ.out.mono (by rw [← HSE.out]; exact HW.out.b.size)))
          have HZ : Hid (w1.heap.size ≤ w5.heap.size) := Lib.hid HZ0.out
          have y3 : w5.cell? ⟨SB, 3, none⟩ = some (.slice s2 body.length c2) := cell_of HSBQ.out (j := 3) rfl
          have HC := Lib.hid ((HIHX.out _ _).1 ((HBO.out.keep (Stays.of_lt HWQ.out)).mono (fun _ _ => trivial)))
          go_wp2_with fail
          refine HC.out.mono ?_
          rintro e w6 ⟨sb, cb, rfl, hrb, hb7⟩
          have HGB : Hid (RepSts (From w1.heap.size) w6 (.slice sb body.length cb) (stillSs body)) := Lib.hid (sts_mono hrb (fun b hb => Nat.le_trans HZ.out hb))
          replace HGE := Lib.hid (HGE.out.keep (Stays.of_below hb7))
          have HZ2 : Hid (w1.heap.size ≤ w6.heap.size) := Lib.hid (Nat.le_trans HZ.out hb7.size)
          have HBN := Lib.hid (HBQ.out.trans (hb7.mono (Nat.le_of_lt (lt_block HSBQ.out))))
          have HSBN := Lib.hid ((hb7.block _ (lt_block HSBQ.out)).trans HSBQ.out)
          clear HSBQ HBQ HZ y3 hb7 hrb HC
          have HSBQ := Lib.hid HSBN.out
          have HBQ := Lib.hid HBN.out
          have HZ := Lib.hid HZ2.out
          clear HSBN HBN HZ2
          have f3 : w6.frozen? ⟨SB, 3, none⟩ = false := frozen_of HSBQ.out 3
          have y3 : w6.cell? ⟨SB, 3, none⟩ = some (.slice s2 body.length c2) := cell_of HSBQ.out (j := 3) rfl
          go_upto_region 14 with fail
          have HZ0 : Hid (w1.heap.size ≤ (w6.setCell ⟨SB, 3, none⟩ (.slice sb body.length cb)).heap.size) := Lib.hid (by rw [setCell_size]; exact HZ.out)
          have HSBN : Hid ((w6.setCell ⟨SB, 3, none⟩ (.slice sb body.length cb)).heap[SB]? = some (.cells #[.int .i64 op, .string text, .slice sx es.length cx, .slice sb body.length cb, .slice s3 els.length c3, .int .i64 0] 46 (0, 0))) := Lib.hid (setCell_obj HSBQ.out 3 _)
          have HON : Hid (Stays (From w1.heap.size) w6 (w6.setCell ⟨SB, 3, none⟩ (.slice sb body.length cb))) := Lib.hid (Stays.of_on ((On.refl SB w6).set 3 (.slice sb body.length cb)) HSBL.out)
          have HBN : Hid (Below SB wo (w6.setCell ⟨SB, 3, none⟩ (.slice sb body.length cb))) := Lib.hid (HBQ.out.setCell (p := ⟨SB, 3, none⟩) (Nat.le_refl _) _)
          replace HGE := Lib.hid (HGE.out.keep HON.out)
          replace HGB := Lib.hid (HGB.out.keep HON.out)
          clear HSBQ HBQ HON f3 y3
          generalize (w6.setCell ⟨SB, 3, none⟩ (.slice sb body.length cb)) = w7 at *
          have HSBQ := Lib.hid HSBN.out
          have HBQ := Lib.hid HBN.out
          clear HSBN HBN
          have HWQ : Hid (Below w.heap.size w w7) := Lib.hid (HW.out.b.trans (HBQ.out.mono (by rw [← HSE.out]; exact HW.out.b.size)))
          clear HZ
          have HZ : Hid (w1.heap.size ≤ w7.heap.size) := Lib.hid HZ0.out
          have y4 : w7.cell? ⟨SB, 4, none⟩ = some (.slice s3 els.length c3) := cell_of HSBQ.out (j := 4) rfl
          have HC := Lib.hid ((HIHX.out _ _).2 ((HEL.out.keep (Stays.of_lt HWQ.out)).mono (fun _ _ => trivial)))
          go_wp2_with fail
          refine HC.out.mono ?_
          rintro e w8 ⟨se, ce, rfl, hrb, hb7⟩
          have HGL : Hid (RepSts (From w1.heap.size) w8 (.slice se els.length ce) (stillSs els)) := Lib.hid (sts_mono hrb (fun b hb => Nat.le_trans HZ.out hb))
          replace HGE := Lib.hid (HGE.out.keep (Stays.of_below hb7))
          replace HGB := Lib.hid (HGB.out.keep (Stays.of_below hb7))
          have HZ2 : Hid (w1.heap.size ≤ w8.heap.size) := Lib.hid (Nat.le_trans HZ.out hb7.size)
          have HBN := Lib.hid (HBQ.out.trans (hb7.mono (Nat.le_of_lt (lt_block HSBQ.out))))
          have HSBN := Lib.hid ((hb7.block _ (lt_block HSBQ.out)).trans HSBQ.out)
          clear HSBQ HBQ HZ y4 hb7 hrb HC
          have HSBQ := Lib.hid HSBN.out
          have HBQ := Lib.hid HBN.out
          have HZ := Lib.hid HZ2.out
          clear HSBN HBN HZ2
          have f4 : w8.frozen? ⟨SB, 4, none⟩ = false := frozen_of HSBQ.out 4
          have y4 : w8.cell? ⟨SB, 4, none⟩ = some (.slice s3 els.length c3) := cell_of HSBQ.out (j := 4) rfl
          go_upto_region 15 with fail
          have HZ0 : Hid (w1.heap.size ≤ (w8.setCell ⟨SB, 4, none⟩ (.slice se els.length ce)).heap.size) := Lib.hid (by rw [setCell_size]; exact HZ.out)
          have HSBN : Hid ((w8.setCell ⟨SB, 4, none⟩ (.slice se els.length ce)).heap[SB]? = some (.cells #[.int .i64 op, .string text, .slice sx es.length cx, .slice sb body.length cb, .slice se els.length ce, .int .i64 0] 46 (0, 0))) := Lib.hid (setCell_obj HSBQ.out 4 _)
          have HON : Hid (Stays (From w1.heap.size) w8 (w8.setCell ⟨SB, 4, none⟩ (.slice se els.length ce))) := Lib.hid (Stays.of_on ((On.refl SB w8).set 4 (.slice se els.length ce)) HSBL.out)
          have HBN : Hid (Below SB wo (w8.setCell ⟨SB, 4, none⟩ (.slice se els.length ce))) := Lib.hid (HBQ.out.setCell (p := ⟨SB, 4, none⟩) (Nat.le_refl _) _)
          replace HGE := Lib.hid (HGE.out.keep HON.out)
          replace HGB := Lib.hid (HGB.out.keep HON.out)
          replace HGL := Lib.hid (HGL.out.keep HON.out)
          clear HSBQ HBQ HON f4 y4
          generalize (w8.setCell ⟨SB, 4, none⟩ (.slice se els.length ce)) = w9 at *
          have HSBQ := Lib.hid HSBN.out
          have HBQ := Lib.hid HBN.out
          clear HSBN HBN
          have HWQ : Hid (Below w.heap.size w w9) := Lib.hid (HW.out.b.trans (HBQ.out.mono (by rw [← HSE.out]; exact HW.out.b.size)))
          have y0 : w9.cell? ⟨SB, 0, none⟩ = some (.int .i64 op) := cell_of HSBQ.out (j := 0) rfl
          have y1 : w9.cell? ⟨SB, 1, none⟩ = some (.string text) := cell_of HSBQ.out (j := 1) rfl
          have y2 : w9.cell? ⟨SB, 2, none⟩ = some (.slice sx es.length cx) := cell_of HSBQ.out (j := 2) rfl
          have y3 : w9.cell? ⟨SB, 3, none⟩ = some (.slice sb body.length cb) := cell_of HSBQ.out (j := 3) rfl
          have y4 : w9.cell? ⟨SB, 4, none⟩ = some (.slice se els.length ce) := cell_of HSBQ.out (j := 4) rfl
          have y5 : w9.cell? ⟨SB, 5, none⟩ = some (.int .i64 0) := cell_of HSBQ.out (j := 5) rfl
          have hbn : Below wo.heap.size wo (w9.alloc (.cells #[.int .i64 op, .string text, .slice sx es.length cx, .slice sb body.length cb, .slice se els.length ce, .int .i64 0] 46)) := up_alloc (by rw [HSE.out]; exact HBQ.out) _
          have HW9 := Lib.hid (HW.out.below hbn)
          obtain ⟨cs5, hown, hit5⟩ := HW9.out.gr
          have HOWN := Lib.hid hown
          have HIT5 := Lib.hid hit5
          have HOLD : Hid (∀ b, (Value.slice sv acc.length cv).ownBlock = some b → b < SB) := Lib.hid (fun b hb => by
            obtain ⟨cs', ho', _⟩ := HW.out.gr
            rw [← HSE.out]
            exact (own_block ho' hb).2)
          have hst9 : Stays (From w1.heap.size) w9 (w9.alloc (.cells #[.int .i64 op, .string text, .slice sx es.length cx, .slice sb body.length cb, .slice se els.length ce, .int .i64 0] 46)) := Stays.of_below (up_alloc (Below.refl _ _) _)
          have HBS : Hid (w.heap.size ≤ SB) := Lib.hid (by rw [← HSE.out]; exact HW.out.b.size)
          have HY : Hid (RepSt (fun b => w.heap.size ≤ b ∧ (Value.slice sv acc.length cv).ownBlock ≠ some b) (w9.alloc (.cells #[.int .i64 op, .string text, .slice sx es.length cx, .slice sb body.length cb, .slice se els.length ce, .int .i64 0] 46)) [.int .i64 op, .string text, .slice sx es.length cx, .slice sb body.length cb, .slice se els.length ce, .int .i64 0] (.mk op text (stillEs es) (stillSs body) (stillSs els) 0)) := Lib.hid ((st_mk (HGE.out.keep hst9) (HGB.out.keep hst9) (HGL.out.keep hst9)).mono (fun b (hb : w1.heap.size ≤ b) => ⟨by have := HBS.out; have := HSBL.out; omega, fun e => by have := HOLD.out b e; have := HSBL.out; omega⟩))
          have HLE : Hid (w.heap.size ≤ (w9.alloc (.cells #[.int .i64 op, .string text, .slice sx es.length cx, .slice sb body.length cb, .slice se els.length ce, .int .i64 0] 46)).heap.size) := Lib.hid HW9.out.b.size
          clear hown hit5 hbn hst9
          go_wp2_with (refine wpList_append_lies _ rfl _ _ _ rfl w.heap.size 46 HIS.out.choose _ 6 104 Try.underlying32 HIS.out.choose_spec.1 HIS.out.choose_spec.2.1 HIS.out.choose_spec.2.2.1 HIS.out.choose_spec.2.2.2 rfl (by decide) _ acc.length (flat cs5 acc.length) rfl HOWN.out ⟨w9.heap.size, 0, none⟩ 1 1 [.int .i64 op, .string text, .slice sx es.length cx, .slice sb body.length cb, .slice se els.length ce, .int .i64 0] rfl rfl (by intro j u hj; rw [Go.WideShapes.add_plain, Nat.zero_add]; exact new_cell _ _ _ _ _ _ rfl (by simpa using hj)) (by intro u hu; simp at hu; rcases hu with rfl | rfl | rfl | rfl | rfl | rfl <;> rfl) (by decide) (by unfold maxLen; omega) (by omega) HLE.out _ rfl ?_; intro g9 cp9 wz hown9 hgrow9 hgl9 hlt9; have HPU := Lib.hid (HW9.out.push HIT5.out rfl HY.out hgrow9 hgl9 hown9); clear hown9 hgrow9 hgl9 hlt9)
          go_roundg (l.length - acc.length - 1)
          case measure => omega
          case rel => exact ⟨_, by simp; omega, by simp, by rw [List.length_append]; rw [stillS] at HY9; exact HY9.out, HPU.out⟩
    · have hend : acc.length = l.length := by omega
      have HEND : Hid (acc = stillSs l) := Lib.hid (by have q := HACC.out; rw [hend, List.take_of_length_le (Nat.le_refl _)] at q; rw [stillSs_map]; exact q)
      rw [hend]
      go_wp2_with fail
      go_ret
      exact ⟨sv, cv, rfl, by have q : RepSts (From w.heap.size) wo (.slice sv acc.length cv) acc := HW.out.gr.row; rw [hend] at q; rw [← HEND.out]; exact q, HW.out.b⟩
/-- stills: whatever the block -/
theorem stills_any (l : List St) (hsm : l.length ≤ 5000) (hall : stsSmall 5000 l) (w : World) (u : Value) (hr : RepSts Any w u l) : Calls Try.prog 12 #[u] w (StillsSays w l) :=
  stills_step l hsm hall (fun s hs w u => by
    have q := stsSmall_at hall s hs
    have q1 : (s.body.length ≤ 5000 ∧ stsSmall 5000 s.body) ∧ (s.els.length ≤ 5000 ∧ stsSmall 5000 s.els) := by
      obtain ⟨op, text, es, body, els, pos⟩ := s
      rw [stSmall] at q
      exact q.2
    exact ⟨fun h => stills_any s.body q1.1.1 q1.1.2 w u h, fun h => stills_any s.els q1.2.1 q1.2.2 w u h⟩) w u hr
termination_by SizeOf.sizeOf l
decreasing_by
  · exact (St.body_lt (by assumption)).1
  · exact (St.body_lt (by assumption)).2
end Go.Proofs.Ytpiamiaigjlafaa
