/-
  Compile: part 56 of its proof: see the last text.
-/
import Derived.Test.YtjblihabklemfaaGreatDoorPm54
import Derived.Test.YtjblihabklemfaaGreatDoorPm47
import Derived.Deep.DeepCutAuto
set_option maxRecDepth 100000
set_option maxHeartbeats 16000000
namespace Go.Proofs.YtjblihabklemfaaGreatDoor
section
open Go.RowKit
theorem xD {S : Nat → Prop} {w : World} {op num pos : Int} {text : ByteArray} {u : Value} {x : Ex} (h : RepEx S w [.int .i64 op, .int .i64 num, .string text, u, .int .i64 pos] x) : ∃ ks, x = .mk op num text ks pos ∧ RepExs S w u ks := by
 obtain ⟨op', num', text', ks, pos'⟩ := x
 obtain ⟨v, e, hk⟩ := h.kids
 simp only [List.cons.injEq, Value.int.injEq, Value.string.injEq, true_and, and_true] at e
 obtain ⟨rfl, rfl, rfl, rfl, rfl⟩ := e
 exact ⟨ks, rfl, hk⟩
theorem xM {S : Nat → Prop} {W : World} {op pos : Int} {text : ByteArray} {ve vb vl : Value} {es : List Ex} {body els : List St} (he : RepExs S W ve es) (hb : RepSts S W vb body) (hl : RepSts S W vl els) : RepSt S W [.int .i64 op, .string text, ve, vb, vl, .int .i64 pos] (.mk op text es body els pos) := by
 obtain ⟨cb, hb, hb2⟩ := hb
 obtain ⟨cl, hl, hl2⟩ := hl
 exact .mk cb cl he hb hb2 hl hl2
def wh (w : World) (bz : ByteArray) (op num : Int) (text : ByteArray) (ks : List Ex) (e : Ending) (w' : World) : Prop :=
 ∃ s n c, e = .returned (.agg #[.int .i64 op, .int .i64 num, .string (nmT op bz text), .slice s n c, .int .i64 1]) ∧ RepEx (bA w.heap.size) w' [.int .i64 op, .int .i64 num, .string (nmT op bz text), .slice s n c, .int .i64 1] (.mk op num (nmT op bz text) (vS bz ks) 1) ∧ Below w.heap.size w w'
theorem wa {α β : Type} (f : α → β) (d : α) (l : List α) (i : Nat) (h : i < l.length) : (l.take i).map f ++ [f (l.getD i d)] = (l.take (i + 1)).map f := by
 rw [List.take_succ_eq_append_getElem h, List.map_append, List.getD_eq_getElem?_getD, List.getElem?_eq_getElem h]
 rfl
structure StW1 (w W : World) (v : Value) (acc : List Ex) (op num : Int) (text : ByteArray) (s0 : Option Addr) (n cap : Nat) : Prop where
 b : Below w.heap.size w W
 x : W.heap[w.heap.size]? = some (.cells #[.int .i64 op, .int .i64 num, .string text, .slice s0 n cap, .int .i64 1] 65 (0, 0))
 r : W.heap[w.heap.size + 1]? = some (.cells #[.int .i64 0, .int .i64 0, .string ⟨#[]⟩, .slice none 0 0, .int .i64 0] 65 (0, 0))
 gr : GrowOf exK (w.heap.size + 2) 65 5 W v acc
section
variable {w W W' : World} {v : Value} {acc : List Ex} {op num : Int} {text : ByteArray} {s0 : Option Addr} {n cap : Nat}
theorem StW1.form (h : StW1 w W v acc op num text s0 n cap) : ∃ s c, v = .slice s acc.length c := by
 obtain ⟨cs, ho, _⟩ := h.gr
 obtain ⟨s0, cap, h1, _⟩ := aY ho
 exact ⟨s0, cap, h1⟩
theorem StW1.below (h : StW1 w W v acc op num text s0 n cap) (hb : Below W.heap.size W W') : StW1 w W' v acc op num text s0 n cap :=
 ⟨h.b.trans (hb.mono h.b.size), (hb.block _ (ad h.x)).trans h.x, (hb.block _ (ad h.r)).trans h.r, h.gr.keep (Stays.of_below hb)⟩
theorem StW1.push {W9 : World} {g cap' : Nat} {new : List Value} {y : Ex} {cs : Nat → List Value} (h : StW1 w W v acc op num text s0 n cap) (hit : Items exK (w.heap.size + 2) 5 W v acc cs) (hn : new.length = 5) (hy : RepEx (fun b => w.heap.size + 2 ≤ b ∧ v.ownBlock ≠ some b) W new y)
    (hg : W.grownBy W9 v.ownBlock) (hgl : v.ownBlock = some g ∨ g = W.heap.size) (hown : W9.ownsRow (w.heap.size + 2) 65 5 (.slice (some ⟨g, 0, none⟩) (acc.length + 1) cap') (acc.length + 1) (cV cs acc.length ++ new)) :
    StW1 w W9 (.slice (some ⟨g, 0, none⟩) (acc.length + 1) cap') (acc ++ [y]) op num text s0 n cap := by
 have hlow : ∀ b, v.ownBlock = some b → w.heap.size + 2 ≤ b := fun b hb => by
  obtain ⟨cs', ho, _⟩ := h.gr
  exact (aH ho hb).1
 exact ⟨h.b.grown hg h.b.size (fun k e => by have := hlow k e; omega), (hg.block _ (ad h.x) (fun e => by have := hlow _ e.symm; omega)).trans h.x, (hg.block _ (ad h.r) (fun e => by have := hlow _ e.symm; omega)).trans h.r, GrowOf.push hit hn hy hg hgl hown⟩
end
theorem wT (bz : ByteArray) (hbz : bz.size ≤ 100) (ks : List Ex) (hsm : ks.length ≤ 5000) (ih : ∀ x, x ∈ ks → ∀ (w : World) (op num pos : Int) (text : ByteArray) (u : Value) (ks' : List Ex), x = .mk op num text ks' pos → RepExs Any w u ks' → Calls Tryz.prog 16 #[.agg #[.int .i64 op, .int .i64 num, .string text, u, .int .i64 pos], .string bz] w (wh w bz op num text ks'))
    (w : World) (op num pos : Int) (text : ByteArray) (u : Value) (htz : op = 4 → text.size ≤ 64) (hr : RepExs Any w u ks) :
    Calls Tryz.prog 16 #[.agg #[.int .i64 op, .int .i64 num, .string text, u, .int .i64 pos], .string bz] w (wh w bz op num text ks) := by
 obtain ⟨cs, ⟨s0, cap, rfl, hle, hcm, _, hrow, hsz⟩, hit⟩ := hr
 have HIH := zh ih
 have HROW := zh hrow
 have HIT : Hid (∀ i, i < ks.length → RepEx (fun b => b < w.heap.size) w (cs i) (ks.getD i default)) := zh (fun i hi => (hit i hi).lies.mono (fun _ h => h.2))
 have HI := zh oY
 clear ih hrow hit hsz hcm hle
 go_enter Tryz.func16, Tryz.ntmps16
 have HTZ := zh htz
 have HBZ := zh hbz
 obtain ⟨tx, htx⟩ : ∃ tx, tx = nmT op bz text := ⟨_, rfl⟩
 have HTX := zh htx
 unfold wh
 rw [← htx]
 clear htz hbz htx
 go_upto_if 10 with fail
 go_cut [] (fun wx => wx = (w.alloc (.cells #[.int .i64 op, .int .i64 num, .string tx, .slice s0 ks.length cap, .int .i64 1] 65)).alloc (.cells #[.int .i64 0, .int .i64 0, .string ⟨#[]⟩, .slice none 0 0, .int .i64 0] 65))
 case first =>
  by_cases h4 : op = 4
  ·have hq : tx = text ++ bz := by rw [HTX.out]; exact if_pos h4
   have hsz : ∀ W, (Op.stringOp .add text bz).run Tryz.prog W = .ok (.string (text ++ bz)) W := fun W => run_string_add_sum _ _ _ (by have := HTZ.out h4; have := HBZ.out; omega)
   have h4b : (op == 4) = true := beq_iff_eq.2 h4
   go_wp2_with fail
   go_meet
   rw [hq, h4]
  ·have hq : tx = text := by rw [HTX.out]; exact if_neg h4
   have h4b : (op == 4) = false := beq_false_of_ne h4
   go_wp2_with fail
   go_meet
   rw [hq]
 case rest =>
 obtain rfl := hcut
 have HB1 : Hid (Below w.heap.size w ((w.alloc (.cells #[.int .i64 op, .int .i64 num, .string tx, .slice s0 ks.length cap, .int .i64 1] 65)).alloc (.cells #[.int .i64 0, .int .i64 0, .string ⟨#[]⟩, .slice none 0 0, .int .i64 0] 65))) := zh (ae (ae (Below.refl _ _) _) _)
 have HXB : Hid (((w.alloc (.cells #[.int .i64 op, .int .i64 num, .string tx, .slice s0 ks.length cap, .int .i64 1] 65)).alloc (.cells #[.int .i64 0, .int .i64 0, .string ⟨#[]⟩, .slice none 0 0, .int .i64 0] 65)).heap[w.heap.size]? = some (.cells #[.int .i64 op, .int .i64 num, .string tx, .slice s0 ks.length cap, .int .i64 1] 65 (0, 0))) := zh (au _ _ _ _ (ah _ _ _ rfl))
 have HRB : Hid (((w.alloc (.cells #[.int .i64 op, .int .i64 num, .string tx, .slice s0 ks.length cap, .int .i64 1] 65)).alloc (.cells #[.int .i64 0, .int .i64 0, .string ⟨#[]⟩, .slice none 0 0, .int .i64 0] 65)).heap[w.heap.size + 1]? = some (.cells #[.int .i64 0, .int .i64 0, .string ⟨#[]⟩, .slice none 0 0, .int .i64 0] 65 (0, 0))) := zh (ah _ _ _ (ag _ _))
 generalize ((w.alloc (.cells #[.int .i64 op, .int .i64 num, .string tx, .slice s0 ks.length cap, .int .i64 1] 65)).alloc (.cells #[.int .i64 0, .int .i64 0, .string ⟨#[]⟩, .slice none 0 0, .int .i64 0] 65)) = w1 at *
 go_wp2_with fail
 have hlen : ks.length ≤ 9223372036854775807 := Nat.le_trans hsm (by decide)
 go_loopg [5, 6] ks.length (fun g t5 t6 wr => ∃ acc : List Ex, acc.length + g = ks.length ∧ t6 = .int .i64 (acc.length : Int) ∧ acc = (ks.take acc.length).map (vU bz) ∧ StW1 w wr t5 acc op num tx s0 ks.length cap)
 case atStart => exact ⟨[], Nat.zero_add _, rfl, rfl, HB1.out, HXB.out, HRB.out, GrowOf.nil⟩
 case round =>
  clear HB1 HXB HRB
  obtain ⟨acc, hig, rfl, hacc, hst⟩ := hrel
  have HACC := zh hacc
  clear hacc
  have HW := zh hst
  have p3 : wr.cell? ⟨w.heap.size, 3, none⟩ = some (.slice s0 ks.length cap) := aa hst.x (j := 3) rfl
  obtain ⟨sv, cv, rfl⟩ := hst.form
  clear hst
  by_cases hlt : acc.length < ks.length
  ·obtain ⟨b, off, hs0, _, hbl, hcell⟩ := HROW.out (by omega)
   subst hs0
   have hrep := HIT.out acc.length hlt
   obtain ⟨kop, knum, ktext, s1, n1, c1, kpos, hcs⟩ := eu hrep
   rw [hcs] at hrep
   have hc5 : ∀ j, j < 5 → wr.cell? ⟨b, off + acc.length * 5 + j, none⟩ = (cs acc.length)[j]? := fun j hj => (HW.out.b.cell (p := ⟨b, _, none⟩) hbl).trans (hcell acc.length hlt j hj)
   rw [hcs] at hc5
   have x0 : wr.cell? ⟨b, off + acc.length * 5, none⟩ = some (.int .i64 kop) := hc5 0 (by decide)
   have x1 : wr.cell? ⟨b, off + acc.length * 5 + 1, none⟩ = some (.int .i64 knum) := hc5 1 (by decide)
   have x2 : wr.cell? ⟨b, off + acc.length * 5 + 2, none⟩ = some (.string ktext) := hc5 2 (by decide)
   have x3 : wr.cell? ⟨b, off + acc.length * 5 + 3, none⟩ = some (.slice s1 n1 c1) := hc5 3 (by decide)
   have x4 : wr.cell? ⟨b, off + acc.length * 5 + 4, none⟩ = some (.int .i64 kpos) := hc5 4 (by decide)
   have hrep2 := hrep.keep (Stays.of_lt HW.out.b)
   obtain ⟨kks, hks, hkr⟩ := xD hrep2
   have hmem : ks.getD acc.length default ∈ ks := by rw [List.getD_eq_getElem?_getD, List.getElem?_eq_getElem hlt]; exact List.getElem_mem hlt
   have HC := zh (HIH.out _ hmem wr kop knum kpos ktext (.slice s1 n1 c1) kks hks (hkr.mono (fun _ _ => trivial)))
   have HY0 : Hid (acc ++ [vU bz (ks.getD acc.length default)] = (ks.take (acc.length + 1)).map (vU bz)) := zh (by rw [← wa (vU bz) default ks _ hlt, ← HACC.out])
   have HY9 := zh (by rw [hks, vU] at HY0; exact HY0.out)
   clear hrep hrep2 hc5 hcs hcell hkr hks hmem
   go_wp2_with fail
   refine HC.out.mono ?_
   rintro e w4 ⟨s4, n4, c4, rfl, hrep4, hb4⟩
   have HREP := zh hrep4
   have HB5 := zh (ak hb4 (ae (Below.refl w4.heap.size w4) (.cells #[.int .i64 kop, .int .i64 knum, .string (nmT kop bz ktext), .slice s4 n4 c4, .int .i64 1] 65)))
   have HW4 := zh (HW.out.below HB5.out)
   obtain ⟨cs5, hown, hit5⟩ := HW4.out.gr
   have HOWN := zh hown
   have HIT5 := zh hit5
   have HOLD : Hid (∀ b, (Value.slice sv acc.length cv).ownBlock = some b → b < wr.heap.size) := zh (fun b hb => by
     obtain ⟨cs', ho', _⟩ := HW.out.gr
     exact (aH ho' hb).2)
   have HSZ : Hid (w.heap.size + 2 ≤ wr.heap.size) := zh (ad HW.out.r)
   have HY := zh ((HREP.out.keep (Stays.of_below (ae (Below.refl w4.heap.size w4) (.cells #[.int .i64 kop, .int .i64 knum, .string (nmT kop bz ktext), .slice s4 n4 c4, .int .i64 1] 65)))).mono (S' := fun b => w.heap.size + 2 ≤ b ∧ (Value.slice sv acc.length cv).ownBlock ≠ some b) fun b (hb : wr.heap.size ≤ b) => ⟨Nat.le_trans HSZ.out hb, fun e => absurd (HOLD.out b e) (by omega)⟩)
   clear hrep4 hb4 hown hit5
   go_wp2_with (refine wpList_append_lies _ rfl _ _ _ rfl (w.heap.size + 2) 65 HI.out.choose _ 5 64 Tryz.underlying60 HI.out.choose_spec.1 HI.out.choose_spec.2.1 HI.out.choose_spec.2.2.1 HI.out.choose_spec.2.2.2 rfl (by decide) _ acc.length (cV cs5 acc.length) rfl HOWN.out ⟨w4.heap.size, 0, none⟩ 1 1 [.int .i64 kop, .int .i64 knum, .string (nmT kop bz ktext), .slice s4 n4 c4, .int .i64 1] rfl rfl (by intro j u hj; rw [Go.WideShapes.add_plain, Nat.zero_add]; exact aw _ _ _ _ _ _ rfl (by simpa using hj)) (by intro u hu; simp at hu; rcases hu with rfl | rfl | rfl | rfl | rfl <;> rfl) (by decide) (by unfold maxLen; omega) (by omega) (by rw [ag]; have := HSZ.out; have := HB5.out.size; rw [ag] at this; omega) _ rfl ?_; intro g9 cp9 w9 hown9 hgrow9 hgl9 hlt9; have HPU := zh (HW4.out.push HIT5.out rfl HY.out hgrow9 hgl9 hown9); clear hown9 hgrow9 hgl9 hlt9)
   go_roundg (ks.length - acc.length - 1)
   case measure => omega
   case rel => exact ⟨_, by simp; omega, by simp, by rw [List.length_append]; exact HY9.out, HPU.out⟩
  ·have hend : acc.length = ks.length := by omega
   have HEND : Hid (acc = ks.map (vU bz)) := zh (by have q := HACC.out; rw [hend, List.take_of_length_le (Nat.le_refl _)] at q; exact q)
   have f3 : wr.frozen? ⟨w.heap.size, 3, none⟩ = false := ab HW.out.x 3
   rw [hend]
   go_upto_region 10 with fail
   have HXB : Hid ((wr.setCell ⟨w.heap.size, 3, none⟩ (.slice sv ks.length cv)).heap[w.heap.size]? = some (.cells #[.int .i64 op, .int .i64 num, .string tx, .slice sv ks.length cv, .int .i64 1] 65 (0, 0))) := zh (ai HW.out.x 3 _)
   have HRB : Hid ((wr.setCell ⟨w.heap.size, 3, none⟩ (.slice sv ks.length cv)).heap[w.heap.size + 1]? = some (.cells #[.int .i64 0, .int .i64 0, .string ⟨#[]⟩, .slice none 0 0, .int .i64 0] 65 (0, 0))) := zh ((af _ _ _ _ (by show w.heap.size + 1 ≠ w.heap.size; omega)).trans HW.out.r)
   have HGR := zh (HW.out.gr.keep (Stays.of_on ((On.refl w.heap.size wr).set 3 (.slice sv ks.length cv)) (by omega)))
   have HB6 : Hid (Below w.heap.size w (wr.setCell ⟨w.heap.size, 3, none⟩ (.slice sv ks.length cv))) := zh (rG HW.out.b (p := ⟨w.heap.size, 3, none⟩) (Nat.le_refl _) _)
   clear p3 f3
   generalize (wr.setCell ⟨w.heap.size, 3, none⟩ (.slice sv ks.length cv)) = w6 at *
   have x0 : w6.cell? ⟨w.heap.size, 0, none⟩ = some (.int .i64 op) := aa HXB.out (j := 0) rfl
   have x1 : w6.cell? ⟨w.heap.size, 1, none⟩ = some (.int .i64 num) := aa HXB.out (j := 1) rfl
   have x2 : w6.cell? ⟨w.heap.size, 2, none⟩ = some (.string tx) := aa HXB.out (j := 2) rfl
   have x3 : w6.cell? ⟨w.heap.size, 3, none⟩ = some (.slice sv ks.length cv) := aa HXB.out (j := 3) rfl
   have x4 : w6.cell? ⟨w.heap.size, 4, none⟩ = some (.int .i64 1) := aa HXB.out (j := 4) rfl
   have r0 : w6.cell? ⟨w.heap.size + 1, 0, none⟩ = some (.int .i64 0) := aa HRB.out (j := 0) rfl
   have r1 : w6.cell? ⟨w.heap.size + 1, 1, none⟩ = some (.int .i64 0) := aa HRB.out (j := 1) rfl
   have r2 : w6.cell? ⟨w.heap.size + 1, 2, none⟩ = some (.string ⟨#[]⟩) := aa HRB.out (j := 2) rfl
   have r3 : w6.cell? ⟨w.heap.size + 1, 3, none⟩ = some (.slice none 0 0) := aa HRB.out (j := 3) rfl
   have r4 : w6.cell? ⟨w.heap.size + 1, 4, none⟩ = some (.int .i64 0) := aa HRB.out (j := 4) rfl
   have f0 : w6.frozen? ⟨w.heap.size + 1, 0, none⟩ = false := ab HRB.out 0
   have f1 : w6.frozen? ⟨w.heap.size + 1, 1, none⟩ = false := ab HRB.out 1
   have f2 : w6.frozen? ⟨w.heap.size + 1, 2, none⟩ = false := ab HRB.out 2
   have f3 : w6.frozen? ⟨w.heap.size + 1, 3, none⟩ = false := ab HRB.out 3
   have f4 : w6.frozen? ⟨w.heap.size + 1, 4, none⟩ = false := ab HRB.out 4
   go_wp2_with fail
   have hon : On (w.heap.size + 1) w6 (set5 w6 (w.heap.size + 1) (.int .i64 op) (.int .i64 num) (.string tx) (.slice sv ks.length cv) (.int .i64 1)) := (On.refl _ _).set5 _ _ _ _ _
   obtain ⟨cr, hrow, hit⟩ := (HGR.out.keep (Stays.of_on hon (by omega))).row
   refine bodyPost_ret (v := .agg #[.int .i64 op, .int .i64 num, .string tx, .slice sv ks.length cv, .int .i64 1]) (by simp [results, Tryz.results16, go_sem, r0, r1, r2, r3, r4]) rfl ?_
   refine ⟨sv, ks.length, cv, rfl, (RepEx.of (S := bA (w.heap.size + 2)) ⟨cr, ?_, ?_⟩).down (by omega), hon.base HB6.out (by omega)⟩
   ·rw [vX, ← HEND.out, ← hend]; rw [← hend] at hrow; exact hrow
   ·rw [vX, ← HEND.out]; exact hit
theorem wd {op num pos : Int} {text : ByteArray} {ks : List Ex} (h : smE (.mk op num text ks pos)) : (ks.length ≤ 5000 ∧ wD ks) ∧ (op = 4 → text.size ≤ 64) := by rw [smE] at h; exact h
theorem wF (bz : ByteArray) (hbz : bz.size ≤ 100) (ks : List Ex) (hsm : ks.length ≤ 5000) (hall : wD ks) (w : World) (op num pos : Int) (text : ByteArray) (u : Value) (htz : op = 4 → text.size ≤ 64) (hr : RepExs Any w u ks) :
    Calls Tryz.prog 16 #[.agg #[.int .i64 op, .int .i64 num, .string text, u, .int .i64 pos], .string bz] w (wh w bz op num text ks) :=
 wT bz hbz ks hsm (fun x hx w op num pos text u ks' e h => wF bz hbz ks' (wd (e ▸ wi hall x hx)).1.1 (wd (e ▸ wi hall x hx)).1.2 w op num pos text u (wd (e ▸ wi hall x hx)).2 h) w op num pos text u htz hr
termination_by SizeOf.sizeOf ks
decreasing_by
 have := List.sizeOf_lt_of_mem (by assumption : x ∈ ks)
 subst e
 simp at this
 omega
def wk (w : World) (bz : ByteArray) (l : List St) (e : Ending) (w' : World) : Prop :=
 ∃ s c, e = .returned (.slice s l.length c) ∧ RepSts (bA w.heap.size) w' (.slice s l.length c) (vR bz l) ∧ Below w.heap.size w w'
theorem GrowOf.keep_lt {α : Type} [Inhabited α] {K : Kind α} {base e sz : Nat} {w w' : World} {v : Value} {xs : List α} (h : GrowOf K base e sz w v xs) (hs : Below w.heap.size w w') : GrowOf K base e sz w' v xs := h.keep (Stays.of_below hs)
structure StW2 (w W : World) (v : Value) (acc : List St) : Prop where
 b : Below w.heap.size w W
 gr : GrowOf stK w.heap.size 62 6 W v acc
section
variable {w W W' : World} {v : Value} {acc : List St}
theorem StW2.form (h : StW2 w W v acc) : ∃ s c, v = .slice s acc.length c := by
 obtain ⟨cs, ho, _⟩ := h.gr
 obtain ⟨s0, cap, h1, _⟩ := aY ho
 exact ⟨s0, cap, h1⟩
theorem StW2.below (h : StW2 w W v acc) (hb : Below W.heap.size W W') : StW2 w W' v acc := ⟨h.b.trans (hb.mono h.b.size), h.gr.keep (Stays.of_below hb)⟩
theorem StW2.push {W9 : World} {g cap' : Nat} {new : List Value} {y : St} {cs : Nat → List Value} (h : StW2 w W v acc) (hit : Items stK w.heap.size 6 W v acc cs) (hn : new.length = 6) (hy : RepSt (fun b => w.heap.size ≤ b ∧ v.ownBlock ≠ some b) W new y)
    (hg : W.grownBy W9 v.ownBlock) (hgl : v.ownBlock = some g ∨ g = W.heap.size) (hown : W9.ownsRow w.heap.size 62 6 (.slice (some ⟨g, 0, none⟩) (acc.length + 1) cap') (acc.length + 1) (cV cs acc.length ++ new)) :
    StW2 w W9 (.slice (some ⟨g, 0, none⟩) (acc.length + 1) cap') (acc ++ [y]) :=
 ⟨h.b.grown hg h.b.size (fun k e => by
   obtain ⟨cs', ho, _⟩ := h.gr
   exact (aH ho e).1), GrowOf.push hit hn hy hg hgl hown⟩
end
structure StW3 (w1 W : World) (v : Value) (acc : List Ex) (sbk : Nat) (o : Obj) : Prop where
 b : Below w1.heap.size w1 W
 x : W.heap[sbk]? = some o
 lt : sbk < w1.heap.size
 gr : GrowOf exK w1.heap.size 65 5 W v acc
section
variable {w1 W W' : World} {v : Value} {acc : List Ex} {sbk : Nat} {o : Obj}
theorem StW3.form (h : StW3 w1 W v acc sbk o) : ∃ s c, v = .slice s acc.length c := by
 obtain ⟨cs, ho, _⟩ := h.gr
 obtain ⟨s0, cap, h1, _⟩ := aY ho
 exact ⟨s0, cap, h1⟩
theorem StW3.below (h : StW3 w1 W v acc sbk o) (hb : Below W.heap.size W W') : StW3 w1 W' v acc sbk o := ⟨h.b.trans (hb.mono h.b.size), (hb.block _ (ad h.x)).trans h.x, h.lt, h.gr.keep (Stays.of_below hb)⟩
theorem StW3.push {W9 : World} {g cap' : Nat} {new : List Value} {y : Ex} {cs : Nat → List Value} (h : StW3 w1 W v acc sbk o) (hit : Items exK w1.heap.size 5 W v acc cs) (hn : new.length = 5) (hy : RepEx (fun b => w1.heap.size ≤ b ∧ v.ownBlock ≠ some b) W new y)
    (hg : W.grownBy W9 v.ownBlock) (hgl : v.ownBlock = some g ∨ g = W.heap.size) (hown : W9.ownsRow w1.heap.size 65 5 (.slice (some ⟨g, 0, none⟩) (acc.length + 1) cap') (acc.length + 1) (cV cs acc.length ++ new)) :
    StW3 w1 W9 (.slice (some ⟨g, 0, none⟩) (acc.length + 1) cap') (acc ++ [y]) sbk o := by
 have hlow : ∀ b, v.ownBlock = some b → w1.heap.size ≤ b := fun b hb => by
  obtain ⟨cs', ho, _⟩ := h.gr
  exact (aH ho hb).1
 exact ⟨h.b.grown hg h.b.size hlow, (hg.block _ (ad h.x) (fun e => by have := hlow _ e.symm; have := h.lt; omega)).trans h.x, h.lt, GrowOf.push hit hn hy hg hgl hown⟩
end
theorem wW {S : Nat → Prop} {w : World} {s0 : Option Addr} {n c : Nat} {l : List St} (h : RepSts S w (.slice s0 n c) l) : n = l.length := by
 obtain ⟨_, ⟨_, _, e, _⟩, _⟩ := h
 injection e
theorem xA {S : Nat → Prop} {w : World} {s0 : Option Addr} {n c : Nat} {l : List Ex} (h : RepExs S w (.slice s0 n c) l) : n = l.length := by
 obtain ⟨_, ⟨_, _, e, _⟩, _⟩ := h
 injection e
theorem xg {base : Nat} {w : World} {v : Value} {l : List Ex} (h : GrowOf exK base 65 5 w v l) : RepExs (bA base) w v l := h.row
theorem wO {S S' : Nat → Prop} {w : World} {v : Value} {l : List St} (h : RepSts S w v l) (hb : ∀ b, S b → S' b) : RepSts S' w v l := h.mono hb
theorem xi (bz : ByteArray) (hbz : bz.size ≤ 100) (l : List St) (hsm : l.length ≤ 5000) (hall : wm l) (ih : ∀ s, s ∈ l → ∀ (w : World) (u : Value), (RepSts Any w u s.body → Calls Tryz.prog 10 #[u, .string bz] w (wk w bz s.body)) ∧ (RepSts Any w u s.els → Calls Tryz.prog 10 #[u, .string bz] w (wk w bz s.els)))
    (w : World) (u : Value) (hr : RepSts Any w u l) : Calls Tryz.prog 10 #[u, .string bz] w (wk w bz l) := by
 obtain ⟨cs, ⟨s0, cap, rfl, hle, hcm, _, hrow, hsz⟩, hit⟩ := hr
 have HIH := zh ih
 have HROW := zh hrow
 have HIT : Hid (∀ i, i < l.length → RepSt (fun b => b < w.heap.size) w (cs i) (l.getD i default)) := zh (fun i hi => (hit i hi).lies.mono (fun _ h => h.2))
 have HI := zh oY
 have HIS := zh rF
 have HALL := zh hall
 have hlen : l.length ≤ 9223372036854775807 := Nat.le_trans hsm (by decide)
 have HBZ := zh hbz
 clear ih hrow hit hsz hcm hle hall hbz
 go_enter Tryz.func10, Tryz.ntmps10
 go_wp2_with fail
 go_loopg [5, 6] l.length (fun g t5 t6 wr => ∃ acc : List St, acc.length + g = l.length ∧ t6 = .int .i64 (acc.length : Int) ∧ acc = (l.take acc.length).map (vW bz) ∧ StW2 w wr t5 acc)
 case atStart => exact ⟨[], Nat.zero_add _, rfl, rfl, Below.refl _ _, GrowOf.nil⟩
 case round =>
  obtain ⟨wo, rfl⟩ : ∃ wo : World, wo = wr := ⟨_, rfl⟩
  obtain ⟨acc, hig, rfl, hacc, hst⟩ := hrel
  have HACC := zh hacc
  have HW := zh hst
  obtain ⟨sv, cv, rfl⟩ := hst.form
  clear hacc hst
  by_cases hlt : acc.length < l.length
  ·obtain ⟨b, off, hs0, _, hbl, hcell⟩ := HROW.out (by omega)
   subst hs0
   have hrep := HIT.out acc.length hlt
   obtain ⟨op, text, s1, n1, c1, s2, n2, c2, s3, n3, c3, pos, hcs⟩ := gR hrep
   rw [hcs] at hrep
   have hc6 : ∀ j, j < 6 → wo.cell? ⟨b, off + acc.length * 6 + j, none⟩ = (cs acc.length)[j]? := fun j hj => (HW.out.b.cell (p := ⟨b, _, none⟩) hbl).trans (hcell acc.length hlt j hj)
   rw [hcs] at hc6
   have x0 : wo.cell? ⟨b, off + acc.length * 6, none⟩ = some (.int .i64 op) := hc6 0 (by decide)
   have x1 : wo.cell? ⟨b, off + acc.length * 6 + 1, none⟩ = some (.string text) := hc6 1 (by decide)
   have x2 : wo.cell? ⟨b, off + acc.length * 6 + 2, none⟩ = some (.slice s1 n1 c1) := hc6 2 (by decide)
   have x3 : wo.cell? ⟨b, off + acc.length * 6 + 3, none⟩ = some (.slice s2 n2 c2) := hc6 3 (by decide)
   have x4 : wo.cell? ⟨b, off + acc.length * 6 + 4, none⟩ = some (.slice s3 n3 c3) := hc6 4 (by decide)
   have x5 : wo.cell? ⟨b, off + acc.length * 6 + 5, none⟩ = some (.int .i64 pos) := hc6 5 (by decide)
   obtain ⟨es, body, els, hs, hes, hbo, hels⟩ := py hrep
   obtain rfl := xA hes
   obtain rfl := wW hbo
   obtain rfl := wW hels
   have hmem : l.getD acc.length default ∈ l := by rw [List.getD_eq_getElem?_getD, List.getElem?_eq_getElem hlt]; exact List.getElem_mem hlt
   have hih := HIH.out _ hmem
   have hsml := wK HALL.out _ hmem
   have HY9 : Hid (acc ++ [vW bz (.mk op text es body els pos)] = (l.take (acc.length + 1)).map (vW bz)) := zh (by rw [← wa (vW bz) default l _ hlt, ← HACC.out, hs])
   rw [hs] at hih hsml
   rw [smS] at hsml
   obtain ⟨hsml, htz⟩ := hsml
   simp only [St.body, St.els] at hih
   have HES : Hid (RepExs (fun b => b < w.heap.size) w (.slice s1 es.length c1) es) := zh hes
   have HBO : Hid (RepSts (fun b => b < w.heap.size) w (.slice s2 body.length c2) body) := zh hbo
   have HEL : Hid (RepSts (fun b => b < w.heap.size) w (.slice s3 els.length c3) els) := zh hels
   have HIHX := zh hih
   have HSML := zh hsml
   have hel5 : es.length ≤ 5000 := hsml.1.1
   clear hrep hc6 hcs hcell hes hbo hels hs hmem hih hsml
   have HTX0 : Hid (text.size ≤ 64) := zh htz
   obtain ⟨tx, htx⟩ : ∃ tx, tx = xx bz text := ⟨_, rfl⟩
   have HTX := zh htx
   clear htx htz
   go_upto_if 23 with fail
   clear x0 x1 x2 x3 x4 x5
   go_cut [] (fun wx => wx = wo.alloc (.cells #[.int .i64 op, .string tx, .slice s1 es.length c1, .slice s2 body.length c2, .slice s3 els.length c3, .int .i64 2] 62))
   case first =>
    by_cases h0 : text.size = 0
    ·have hq : tx = text := by rw [HTX.out]; exact if_pos h0
     have hE : text = ⟨#[]⟩ := ByteArray.ext (Array.eq_empty_of_size_eq_zero h0)
     have h4b : text.toList.isEmpty = true := by rw [hE, ByteArray.toList_eq]; rfl
     have h4d : text.toList = [] := List.isEmpty_iff.1 h4b
     clear hE
     go_wp2_with fail
     all_goals first
      | exact absurd (by assumption : (!text.toList.isEmpty) = true) (by rw [h4b]; decide)
      | (go_meet; rw [hq])
    ·have hq : tx = text ++ bz := by rw [HTX.out]; exact if_neg h0
     have hsz : ∀ W, (Op.stringOp .add text bz).run Tryz.prog W = .ok (.string (text ++ bz)) W := fun W => run_string_add_sum _ _ _ (by have := HTX0.out; have := HBZ.out; omega)
     have h4b : text.toList.isEmpty = false := by
      rw [ByteArray.toList_eq, List.isEmpty_eq_false_iff]
      exact fun e => h0 (by have q := congrArg List.length e; simpa using q)
     have h4d : ¬ text.toList = [] := List.isEmpty_eq_false_iff.1 h4b
     go_wp2_with fail
     all_goals first
      | exact absurd (by assumption : (!text.toList.isEmpty) = false) (by rw [h4b]; decide)
      | (go_meet; rw [hq])
   case rest =>
   obtain rfl := hcut
   have HSB : Hid ((wo.alloc (.cells #[.int .i64 op, .string tx, .slice s1 es.length c1, .slice s2 body.length c2, .slice s3 els.length c3, .int .i64 2] 62)).heap[wo.heap.size]? = some (.cells #[.int .i64 op, .string tx, .slice s1 es.length c1, .slice s2 body.length c2, .slice s3 els.length c3, .int .i64 2] 62 (0, 0))) := zh (ah _ _ _ rfl)
   have HB1 : Hid (Below wo.heap.size wo (wo.alloc (.cells #[.int .i64 op, .string tx, .slice s1 es.length c1, .slice s2 body.length c2, .slice s3 els.length c3, .int .i64 2] 62))) := zh (ae (Below.refl _ _) _)
   generalize (wo.alloc (.cells #[.int .i64 op, .string tx, .slice s1 es.length c1, .slice s2 body.length c2, .slice s3 els.length c3, .int .i64 2] 62)) = w1 at *
   generalize hSB : wo.heap.size = SB at *
   have HSE := zh hSB
   clear hSB
   go_wp2_with fail
   have HEM : Hid (es.length ≤ 9223372036854775807) := zh (Nat.le_trans hel5 (by decide))
   have hesl : es.length ≤ 9223372036854775807 := HEM.out
   go_loopg [8, 9] es.length (fun g t8 t9 wr => ∃ xa : List Ex, xa.length + g = es.length ∧ t9 = .int .i64 (xa.length : Int) ∧ xa = (es.take xa.length).map (vU bz) ∧ StW3 w1 wr t8 xa SB (.cells #[.int .i64 op, .string tx, .slice s1 es.length c1, .slice s2 body.length c2, .slice s3 els.length c3, .int .i64 2] 62 (0, 0)))
   case atStart => exact ⟨[], Nat.zero_add _, rfl, rfl, Below.refl _ _, HSB.out, ad HSB.out, GrowOf.nil⟩
   case round =>
    obtain ⟨xa, hxg, rfl, hxa, hsx⟩ := hrel
    have HXA := zh hxa
    have HX := zh hsx
    have y2 : wr.cell? ⟨SB, 2, none⟩ = some (.slice s1 es.length c1) := aa hsx.x (j := 2) rfl
    obtain ⟨sx, cx, rfl⟩ := hsx.form
    clear hxa hsx
    have HBQ : Hid (Below SB wo wr) := zh (HB1.out.trans (HX.out.b.mono (Nat.le_of_lt HX.out.lt)))
    have HWQ : Hid (Below w.heap.size w wr) := zh (HW.out.b.trans (HBQ.out.mono (by rw [← HSE.out]; exact HW.out.b.size)))
    by_cases hxl : xa.length < es.length
    ·obtain ⟨ce, ⟨se, capE, e, _, _, _, hrow, _⟩, hit⟩ := HES.out
     injection e with e1 _ e3
     subst e1 e3
     obtain ⟨be, offe, hs0, hbe, hble, hcell⟩ := hrow (by omega)
     subst hs0
     have hrep := hit xa.length hxl
     obtain ⟨kop, knum, ktext, q1, m1, d1, kpos, hcs⟩ := eu hrep
     rw [hcs] at hrep
     have hc5 : ∀ j, j < 5 → wr.cell? ⟨be, offe + xa.length * 5 + j, none⟩ = (ce xa.length)[j]? := fun j hj => (HWQ.out.cell (p := ⟨be, _, none⟩) hble).trans (hcell xa.length hxl j hj)
     rw [hcs] at hc5
     have x0 : wr.cell? ⟨be, offe + xa.length * 5, none⟩ = some (.int .i64 kop) := hc5 0 (by decide)
     have x1 : wr.cell? ⟨be, offe + xa.length * 5 + 1, none⟩ = some (.int .i64 knum) := hc5 1 (by decide)
     have x2 : wr.cell? ⟨be, offe + xa.length * 5 + 2, none⟩ = some (.string ktext) := hc5 2 (by decide)
     have x3 : wr.cell? ⟨be, offe + xa.length * 5 + 3, none⟩ = some (.slice q1 m1 d1) := hc5 3 (by decide)
     have x4 : wr.cell? ⟨be, offe + xa.length * 5 + 4, none⟩ = some (.int .i64 kpos) := hc5 4 (by decide)
     have hrep2 := hrep.keep (Stays.of_lt HWQ.out)
     obtain ⟨kks, hks, hkr⟩ := xD hrep2
     have hmem : es.getD xa.length default ∈ es := by rw [List.getD_eq_getElem?_getD, List.getElem?_eq_getElem hxl]; exact List.getElem_mem hxl
     have hsmx := wi HSML.out.1.2 _ hmem
     rw [hks] at hsmx
     have HC := zh (wF bz HBZ.out kks (wd hsmx).1.1 (wd hsmx).1.2 wr kop knum kpos ktext (.slice q1 m1 d1) (wd hsmx).2 (hkr.mono (fun _ _ => trivial)))
     have HY8 : Hid (xa ++ [.mk kop knum (nmT kop bz ktext) (vS bz kks) 1] = (es.take (xa.length + 1)).map (vU bz)) := zh (by rw [← wa (vU bz) default es _ hxl, ← HXA.out, hks, vU])
     clear hrep hrep2 hc5 hcs hcell hkr hks hmem hrow hit hsmx
     go_wp2_with fail
     refine HC.out.mono ?_
     rintro e w4 ⟨s4, n4, c4, rfl, hrep4, hb4⟩
     have HREP := zh hrep4
     have HB5 := zh (ak hb4 (ae (Below.refl w4.heap.size w4) (.cells #[.int .i64 kop, .int .i64 knum, .string (nmT kop bz ktext), .slice s4 n4 c4, .int .i64 1] 65)))
     have HW4 := zh (HX.out.below HB5.out)
     obtain ⟨cs5, hown, hit5⟩ := HW4.out.gr
     have HOWN := zh hown
     have HIT5 := zh hit5
     have HOLD : Hid (∀ b, (Value.slice sx xa.length cx).ownBlock = some b → b < wr.heap.size) := zh (fun b hb => by
       obtain ⟨cs', ho', _⟩ := HX.out.gr
       exact (aH ho' hb).2)
     have HSZ : Hid (w1.heap.size ≤ wr.heap.size) := zh HX.out.b.size
     have HY := zh ((HREP.out.keep (Stays.of_below (ae (Below.refl w4.heap.size w4) (.cells #[.int .i64 kop, .int .i64 knum, .string (nmT kop bz ktext), .slice s4 n4 c4, .int .i64 1] 65)))).mono (S' := fun b => w1.heap.size ≤ b ∧ (Value.slice sx xa.length cx).ownBlock ≠ some b) fun b (hb : wr.heap.size ≤ b) => ⟨Nat.le_trans HSZ.out hb, fun e => absurd (HOLD.out b e) (by omega)⟩)
     clear hrep4 hb4 hown hit5
     go_wp2_with (refine wpList_append_lies _ rfl _ _ _ rfl w1.heap.size 65 HI.out.choose _ 5 64 Tryz.underlying60 HI.out.choose_spec.1 HI.out.choose_spec.2.1 HI.out.choose_spec.2.2.1 HI.out.choose_spec.2.2.2 rfl (by decide) _ xa.length (cV cs5 xa.length) rfl HOWN.out ⟨w4.heap.size, 0, none⟩ 1 1 [.int .i64 kop, .int .i64 knum, .string (nmT kop bz ktext), .slice s4 n4 c4, .int .i64 1] rfl rfl (by intro j u hj; rw [Go.WideShapes.add_plain, Nat.zero_add]; exact aw _ _ _ _ _ _ rfl (by simpa using hj)) (by intro u hu; simp at hu; rcases hu with rfl | rfl | rfl | rfl | rfl <;> rfl) (by decide) (by unfold maxLen; omega) (by omega) (by have := HSZ.out; have := HB5.out.size; omega) _ rfl ?_; intro g9 cp9 w9 hown9 hgrow9 hgl9 hlt9; have HPU := zh (HW4.out.push HIT5.out rfl HY.out hgrow9 hgl9 hown9); clear hown9 hgrow9 hgl9 hlt9)
     go_roundg (es.length - xa.length - 1)
     case measure => omega
     case rel => exact ⟨_, by simp; omega, by simp, by rw [List.length_append]; exact HY8.out, HPU.out⟩
    ·have hend : xa.length = es.length := by omega
     have HEX : Hid (xa = vS bz es) := zh (by have q := HXA.out; rw [hend, List.take_of_length_le (Nat.le_refl _)] at q; rw [vX]; exact q)
     have HGE : Hid (RepExs (bA w1.heap.size) wr (.slice sx es.length cx) (vS bz es)) := zh (by have q := xg HX.out.gr; rw [hend] at q; rw [← HEX.out]; exact q)
     have HSBQ := zh HX.out.x
     have HSBL : Hid (SB < w1.heap.size) := zh HX.out.lt
     have f2 : wr.frozen? ⟨SB, 2, none⟩ = false := ab HSBQ.out 2
     have HZ0 : Hid (w1.heap.size ≤ (wr.setCell ⟨SB, 2, none⟩ (.slice sx es.length cx)).heap.size) := zh (by rw [ax]; exact HX.out.b.size)
     rw [hend]
     go_upto_region 15 with fail
     have HSBN : Hid ((wr.setCell ⟨SB, 2, none⟩ (.slice sx es.length cx)).heap[SB]? = some (.cells #[.int .i64 op, .string tx, .slice sx es.length cx, .slice s2 body.length c2, .slice s3 els.length c3, .int .i64 2] 62 (0, 0))) := zh (ai HSBQ.out 2 _)
     have HON : Hid (Stays (bA w1.heap.size) wr (wr.setCell ⟨SB, 2, none⟩ (.slice sx es.length cx))) := zh (Stays.of_on ((On.refl SB wr).set 2 (.slice sx es.length cx)) HSBL.out)
     have HBN : Hid (Below SB wo (wr.setCell ⟨SB, 2, none⟩ (.slice sx es.length cx))) := zh (HBQ.out.setCell (p := ⟨SB, 2, none⟩) (Nat.le_refl _) _)
     replace HGE := zh (HGE.out.keep HON.out)
     clear HSBQ HBQ HON f2 y2
     generalize (wr.setCell ⟨SB, 2, none⟩ (.slice sx es.length cx)) = w5 at *
     have HSBQ := zh HSBN.out
     have HBQ := zh HBN.out
     clear HSBN HBN
     have HWQ : Hid (Below w.heap.size w w5) := zh (HW.out.b.trans (HBQ.out.mono (by rw [← HSE.out]; exact HW.out.b.size)))
     have HZ : Hid (w1.heap.size ≤ w5.heap.size) := zh HZ0.out
     have y3 : w5.cell? ⟨SB, 3, none⟩ = some (.slice s2 body.length c2) := aa HSBQ.out (j := 3) rfl
     have HC := zh ((HIHX.out _ _).1 ((HBO.out.keep (Stays.of_lt HWQ.out)).mono (fun _ _ => trivial)))
     go_wp2_with fail
     refine HC.out.mono ?_
     rintro e w6 ⟨sb, cb, rfl, hrb, hb7⟩
     have HGB : Hid (RepSts (bA w1.heap.size) w6 (.slice sb body.length cb) (vR bz body)) := zh (wO hrb (fun b hb => Nat.le_trans HZ.out hb))
     replace HGE := zh (HGE.out.keep (Stays.of_below hb7))
     have HZ2 : Hid (w1.heap.size ≤ w6.heap.size) := zh (Nat.le_trans HZ.out hb7.size)
     have HBN := zh (HBQ.out.trans (hb7.mono (Nat.le_of_lt (ad HSBQ.out))))
     have HSBN := zh ((hb7.block _ (ad HSBQ.out)).trans HSBQ.out)
     clear HSBQ HBQ HZ y3 hb7 hrb HC
     have HSBQ := zh HSBN.out
     have HBQ := zh HBN.out
     have HZ := zh HZ2.out
     clear HSBN HBN HZ2
     have f3 : w6.frozen? ⟨SB, 3, none⟩ = false := ab HSBQ.out 3
     have y3 : w6.cell? ⟨SB, 3, none⟩ = some (.slice s2 body.length c2) := aa HSBQ.out (j := 3) rfl
     go_upto_region 16 with fail
     have HZ0 : Hid (w1.heap.size ≤ (w6.setCell ⟨SB, 3, none⟩ (.slice sb body.length cb)).heap.size) := zh (by rw [ax]; exact HZ.out)
     have HSBN : Hid ((w6.setCell ⟨SB, 3, none⟩ (.slice sb body.length cb)).heap[SB]? = some (.cells #[.int .i64 op, .string tx, .slice sx es.length cx, .slice sb body.length cb, .slice s3 els.length c3, .int .i64 2] 62 (0, 0))) := zh (ai HSBQ.out 3 _)
     have HON : Hid (Stays (bA w1.heap.size) w6 (w6.setCell ⟨SB, 3, none⟩ (.slice sb body.length cb))) := zh (Stays.of_on ((On.refl SB w6).set 3 (.slice sb body.length cb)) HSBL.out)
     have HBN : Hid (Below SB wo (w6.setCell ⟨SB, 3, none⟩ (.slice sb body.length cb))) := zh (HBQ.out.setCell (p := ⟨SB, 3, none⟩) (Nat.le_refl _) _)
     replace HGE := zh (HGE.out.keep HON.out)
     replace HGB := zh (HGB.out.keep HON.out)
     clear HSBQ HBQ HON f3 y3
     generalize (w6.setCell ⟨SB, 3, none⟩ (.slice sb body.length cb)) = w7 at *
     have HSBQ := zh HSBN.out
     have HBQ := zh HBN.out
     clear HSBN HBN
     have HWQ : Hid (Below w.heap.size w w7) := zh (HW.out.b.trans (HBQ.out.mono (by rw [← HSE.out]; exact HW.out.b.size)))
     clear HZ
     have HZ : Hid (w1.heap.size ≤ w7.heap.size) := zh HZ0.out
     have y4 : w7.cell? ⟨SB, 4, none⟩ = some (.slice s3 els.length c3) := aa HSBQ.out (j := 4) rfl
     have HC := zh ((HIHX.out _ _).2 ((HEL.out.keep (Stays.of_lt HWQ.out)).mono (fun _ _ => trivial)))
     go_wp2_with fail
     refine HC.out.mono ?_
     rintro e w8 ⟨se, ce, rfl, hrb, hb7⟩
     have HGL : Hid (RepSts (bA w1.heap.size) w8 (.slice se els.length ce) (vR bz els)) := zh (wO hrb (fun b hb => Nat.le_trans HZ.out hb))
     replace HGE := zh (HGE.out.keep (Stays.of_below hb7))
     replace HGB := zh (HGB.out.keep (Stays.of_below hb7))
     have HZ2 : Hid (w1.heap.size ≤ w8.heap.size) := zh (Nat.le_trans HZ.out hb7.size)
     have HBN := zh (HBQ.out.trans (hb7.mono (Nat.le_of_lt (ad HSBQ.out))))
     have HSBN := zh ((hb7.block _ (ad HSBQ.out)).trans HSBQ.out)
     clear HSBQ HBQ HZ y4 hb7 hrb HC
     have HSBQ := zh HSBN.out
     have HBQ := zh HBN.out
     have HZ := zh HZ2.out
     clear HSBN HBN HZ2
     have f4 : w8.frozen? ⟨SB, 4, none⟩ = false := ab HSBQ.out 4
     have y4 : w8.cell? ⟨SB, 4, none⟩ = some (.slice s3 els.length c3) := aa HSBQ.out (j := 4) rfl
     go_upto_region 17 with fail
     have HZ0 : Hid (w1.heap.size ≤ (w8.setCell ⟨SB, 4, none⟩ (.slice se els.length ce)).heap.size) := zh (by rw [ax]; exact HZ.out)
     have HSBN : Hid ((w8.setCell ⟨SB, 4, none⟩ (.slice se els.length ce)).heap[SB]? = some (.cells #[.int .i64 op, .string tx, .slice sx es.length cx, .slice sb body.length cb, .slice se els.length ce, .int .i64 2] 62 (0, 0))) := zh (ai HSBQ.out 4 _)
     have HON : Hid (Stays (bA w1.heap.size) w8 (w8.setCell ⟨SB, 4, none⟩ (.slice se els.length ce))) := zh (Stays.of_on ((On.refl SB w8).set 4 (.slice se els.length ce)) HSBL.out)
     have HBN : Hid (Below SB wo (w8.setCell ⟨SB, 4, none⟩ (.slice se els.length ce))) := zh (HBQ.out.setCell (p := ⟨SB, 4, none⟩) (Nat.le_refl _) _)
     replace HGE := zh (HGE.out.keep HON.out)
     replace HGB := zh (HGB.out.keep HON.out)
     replace HGL := zh (HGL.out.keep HON.out)
     clear HSBQ HBQ HON f4 y4
     generalize (w8.setCell ⟨SB, 4, none⟩ (.slice se els.length ce)) = w9 at *
     have HSBQ := zh HSBN.out
     have HBQ := zh HBN.out
     clear HSBN HBN
     have HWQ : Hid (Below w.heap.size w w9) := zh (HW.out.b.trans (HBQ.out.mono (by rw [← HSE.out]; exact HW.out.b.size)))
     obtain ⟨y0, y1, y2, y3, y4, y5, -⟩ := css HSBQ.out
     have hbn : Below wo.heap.size wo (w9.alloc (.cells #[.int .i64 op, .string tx, .slice sx es.length cx, .slice sb body.length cb, .slice se els.length ce, .int .i64 2] 62)) := ae (by rw [HSE.out]; exact HBQ.out) _
     have HW9 := zh (HW.out.below hbn)
     obtain ⟨cs5, hown, hit5⟩ := HW9.out.gr
     have HOWN := zh hown
     have HIT5 := zh hit5
     have HOLD : Hid (∀ b, (Value.slice sv acc.length cv).ownBlock = some b → b < SB) := zh (fun b hb => by
       obtain ⟨cs', ho', _⟩ := HW.out.gr
       rw [← HSE.out]
       exact (aH ho' hb).2)
     have hst9 : Stays (bA w1.heap.size) w9 (w9.alloc (.cells #[.int .i64 op, .string tx, .slice sx es.length cx, .slice sb body.length cb, .slice se els.length ce, .int .i64 2] 62)) := Stays.of_below (ae (Below.refl _ _) _)
     have HBS : Hid (w.heap.size ≤ SB) := zh (by rw [← HSE.out]; exact HW.out.b.size)
     have HY : Hid (RepSt (fun b => w.heap.size ≤ b ∧ (Value.slice sv acc.length cv).ownBlock ≠ some b) (w9.alloc (.cells #[.int .i64 op, .string tx, .slice sx es.length cx, .slice sb body.length cb, .slice se els.length ce, .int .i64 2] 62)) [.int .i64 op, .string tx, .slice sx es.length cx, .slice sb body.length cb, .slice se els.length ce, .int .i64 2] (.mk op tx (vS bz es) (vR bz body) (vR bz els) 2)) := zh ((xM (HGE.out.keep hst9) (HGB.out.keep hst9) (HGL.out.keep hst9)).mono (fun b (hb : w1.heap.size ≤ b) => ⟨by have := HBS.out; have := HSBL.out; omega, fun e => by have := HOLD.out b e; have := HSBL.out; omega⟩))
     have HLE : Hid (w.heap.size ≤ (w9.alloc (.cells #[.int .i64 op, .string tx, .slice sx es.length cx, .slice sb body.length cb, .slice se els.length ce, .int .i64 2] 62)).heap.size) := zh HW9.out.b.size
     clear hown hit5 hbn hst9
     go_wp2_with (refine wpList_append_lies _ rfl _ _ _ rfl w.heap.size 62 HIS.out.choose _ 6 104 Tryz.underlying46 HIS.out.choose_spec.1 HIS.out.choose_spec.2.1 HIS.out.choose_spec.2.2.1 HIS.out.choose_spec.2.2.2 rfl (by decide) _ acc.length (cV cs5 acc.length) rfl HOWN.out ⟨w9.heap.size, 0, none⟩ 1 1 [.int .i64 op, .string tx, .slice sx es.length cx, .slice sb body.length cb, .slice se els.length ce, .int .i64 2] rfl rfl (by intro j u hj; rw [Go.WideShapes.add_plain, Nat.zero_add]; exact aw _ _ _ _ _ _ rfl (by simpa using hj)) (by intro u hu; simp at hu; rcases hu with rfl | rfl | rfl | rfl | rfl | rfl <;> rfl) (by decide) (by unfold maxLen; omega) (by omega) HLE.out _ rfl ?_; intro g9 cp9 wz hown9 hgrow9 hgl9 hlt9; have HPU := zh (HW9.out.push HIT5.out rfl HY.out hgrow9 hgl9 hown9); clear hown9 hgrow9 hgl9 hlt9)
     go_roundg (l.length - acc.length - 1)
     case measure => omega
     case rel => exact ⟨_, by simp; omega, by simp, by rw [List.length_append]; rw [vW, ← HTX.out] at HY9; exact HY9.out, HPU.out⟩
  ·have hend : acc.length = l.length := by omega
   have HEND : Hid (acc = vR bz l) := zh (by have q := HACC.out; rw [hend, List.take_of_length_le (Nat.le_refl _)] at q; rw [vZ]; exact q)
   rw [hend]
   go_wp2_with fail
   go_ret
   exact ⟨sv, cv, rfl, by have q : RepSts (bA w.heap.size) wo (.slice sv acc.length cv) acc := HW.out.gr.row; rw [hend] at q; rw [← HEND.out]; exact q, HW.out.b⟩
theorem wM (bz : ByteArray) (hbz : bz.size ≤ 100) (l : List St) (hsm : l.length ≤ 5000) (hall : wm l) (w : World) (u : Value) (hr : RepSts Any w u l) : Calls Tryz.prog 10 #[u, .string bz] w (wk w bz l) :=
 xi bz hbz l hsm hall (fun s hs w u => by
   have q := wK hall s hs
   have q1 : (s.body.length ≤ 5000 ∧ wm s.body) ∧ (s.els.length ≤ 5000 ∧ wm s.els) := by
     obtain ⟨op, text, es, body, els, pos⟩ := s
     rw [smS] at q
     exact q.1.2
   exact ⟨fun h => wM bz hbz s.body q1.1.1 q1.1.2 w u h, fun h => wM bz hbz s.els q1.2.1 q1.2.2 w u h⟩) w u hr
termination_by SizeOf.sizeOf l
decreasing_by
 ·exact (St.body_lt (by assumption)).1
 ·exact (St.body_lt (by assumption)).2
end
end Go.Proofs.YtjblihabklemfaaGreatDoor
