/-
  The walk through TypesPlaces.
-/
import Derived.Test.YtpiamiaigjlafaaTyPlS
import Derived.Test.YtpiamiaigjlafaaTyPlO
namespace Go.Proofs.Ytpiamiaigjlafaa
open Go.RowKit

/-- what is known on the way: the row that grows is held by a cell -/
structure PlW (w W : World) (PB QB : Nat) (pv v : Value) (acc : List Fn) : Prop where
  b : Below w.heap.size w W
  p : W.heap[PB]? = some (.cells #[pv] 26 (0, 0))
  q : W.heap[QB]? = some (.cells #[v] 26 (0, 0))
  le : w.heap.size ≤ PB
  lt : PB < QB
  gr : ∃ cs, W.ownsRow (QB + 1) 34 5 v acc.length (flat cs acc.length) ∧ ∀ i, i < acc.length → (cs i).length = 5 ∧ RepFn (fun b => b ≠ QB ∧ v.ownBlock ≠ some b) W (cs i) (acc.getD i default)
section
variable {w W W' : World} {PB QB : Nat} {pv v : Value} {acc : List Fn}
theorem PlW.form (h : PlW w W PB QB pv v acc) : ∃ s c, v = .slice s acc.length c := by
  obtain ⟨cs, ho, _⟩ := h.gr
  obtain ⟨s0, cap, h1, _⟩ := own_form ho
  exact ⟨s0, cap, h1⟩
theorem PlW.below (h : PlW w W PB QB pv v acc) (hb : Below W.heap.size W W') : PlW w W' PB QB pv v acc := by
  obtain ⟨cs, h1, h2⟩ := h.gr
  exact ⟨h.b.trans (hb.mono h.b.size), (hb.block _ (lt_block h.p)).trans h.p, (hb.block _ (lt_block h.q)).trans h.q, h.le, h.lt, cs, own_keep h1 (Stays.of_below hb), fun i hi => ⟨(h2 i hi).1, (h2 i hi).2.keep (Stays.of_below hb)⟩⟩
theorem PlW.row (h : PlW w W PB QB pv v acc) : RepFns Any W v acc := by
  obtain ⟨cs, h1, h2⟩ := h.gr
  obtain ⟨s0, cap, rfl, hle, hm, hn, hc⟩ := own_form h1
  refine ⟨cs, ⟨s0, cap, rfl, hle, hm, hn, fun h0 => ?_, fun i hi => (h2 i hi).1⟩, fun i hi => (h2 i hi).2.mono (fun _ _ => trivial)⟩
  obtain ⟨g, e, hg, hl, hcell⟩ := hc h0
  refine ⟨g, 0, e, trivial, hl, fun i hi j hj => ?_⟩
  have hget := flat_get (fun i hi => (h2 i hi).1) hi hj
  have hlen := (h2 i hi).1
  rw [Nat.zero_add, hcell (i * 5 + j) ((cs i)[j]'(by omega)) (by rw [hget]; exact List.getElem?_eq_getElem _), List.getElem?_eq_getElem (by omega)]
theorem PlW.q9 {W9 : World} (h : PlW w W PB QB pv v acc) (hg : W.grownBy W9 v.ownBlock) : W9.heap[QB]? = some (.cells #[v] 26 (0, 0)) :=
  (hg.block _ (lt_block h.q) (fun e => by
    obtain ⟨cs', ho, _⟩ := h.gr
    have := (own_block ho e.symm).1
    omega)).trans h.q
theorem PlW.push {W9 : World} {g cap' : Nat} {new : List Value} {y : Fn} {cs : Nat → List Value} (h : PlW w W PB QB pv v acc) (hit : ∀ i, i < acc.length → (cs i).length = 5 ∧ RepFn (fun b => b ≠ QB ∧ v.ownBlock ≠ some b) W (cs i) (acc.getD i default)) (hn : new.length = 5) (hy : RepFn (fun b => b ≠ QB ∧ v.ownBlock ≠ some b) W new y)
    (hg : W.grownBy W9 v.ownBlock) (hgl : v.ownBlock = some g ∨ g = W.heap.size) (hown : W9.ownsRow (QB + 1) 34 5 (.slice (some ⟨g, 0, none⟩) (acc.length + 1) cap') (acc.length + 1) (flat cs acc.length ++ new)) :
    PlW w (W9.setCell ⟨QB, 0, none⟩ (.slice (some ⟨g, 0, none⟩) (acc.length + 1) cap')) PB QB pv (.slice (some ⟨g, 0, none⟩) (acc.length + 1) cap') (acc ++ [y]) := by
  have hlow : ∀ b, v.ownBlock = some b → QB + 1 ≤ b := fun b hb => by
    obtain ⟨cs', ho, _⟩ := h.gr
    exact (own_block ho hb).1
  have hgq : QB + 1 ≤ g := by
    rcases hgl with e | e
    · exact hlow g e
    · rw [e]; exact lt_block h.q
  have hk : ∀ (c : List Value) (x : Fn), RepFn (fun b => b ≠ QB ∧ v.ownBlock ≠ some b) W c x → RepFn (fun b => b ≠ QB ∧ (Value.slice (some ⟨g, 0, none⟩) (acc.length + 1) cap').ownBlock ≠ some b) (W9.setCell ⟨QB, 0, none⟩ (.slice (some ⟨g, 0, none⟩) (acc.length + 1) cap')) c x := fun c x hx => by
    have h1 : RepFn (fun b => (b ≠ QB ∧ v.ownBlock ≠ some b) ∧ b < W.heap.size) W c x := hx.lies
    have h2 := h1.keep (w' := W9.setCell ⟨QB, 0, none⟩ (.slice (some ⟨g, 0, none⟩) (acc.length + 1) cap')) ⟨by rw [setCell_size]; exact hg.size, fun b hb hl => (setCell_heap _ _ _ _ hb.1.1).trans (hg.block b hl (fun e => hb.1.2 e.symm))⟩
    refine h2.mono (fun b hb => ⟨hb.1.1, fun e => ?_⟩)
    injection e with e
    have e' : g = b := e
    subst e'
    rcases hgl with q | q
    · exact hb.1.2 q
    · have := hb.2; omega
  have hlp := h.lt
  have hle := h.le
  refine ⟨(h.b.grown hg h.b.size (fun k e => by have := hlow k e; omega)).setCell (p := ⟨QB, 0, none⟩) (by show w.heap.size ≤ QB; omega) _, ?_, ?_, h.le, h.lt, fun i => if i < acc.length then cs i else new, ?_, ?_⟩
  · exact (setCell_heap _ _ _ _ (by show PB ≠ QB; omega)).trans ((hg.block _ (lt_block h.p) (fun e => by have := hlow _ e.symm; omega)).trans h.p)
  · exact setCell_obj (h.q9 hg) 0 _
  · rw [List.length_append, show [y].length = 1 from rfl, flat_push]
    exact own_set2 hown (Nat.lt_succ_self _)
  · intro i hi
    by_cases e : i < acc.length
    · dsimp only
      rw [if_pos e, getD_app_l _ _ _ e]
      exact ⟨(hit i e).1, hk _ _ (hit i e).2⟩
    · have hi2 : i < acc.length + 1 := by simpa using hi
      obtain rfl : i = acc.length := by omega
      dsimp only
      rw [if_neg e, getD_app_r]
      exact ⟨hn, hk _ _ hy⟩
end
set_option maxRecDepth 100000 in
set_option maxHeartbeats 8000000 in
theorem tplaces_any (l : List Fn) (w : World) (u : Value) (hr : RepFns Any w u l) :
    Calls Try.prog 4 #[.agg #[u]] w fun e w' => e = .returned (.bool true) ∧ Below w.heap.size w w' := by
  obtain ⟨cs, ⟨s0, cap, rfl, hle, hcm, _, hrow, hsz⟩, hit⟩ := hr
  have HRP : Hid (RepFns (fun b => b < w.heap.size) w (.slice s0 l.length cap) l) := Lib.hid ⟨cs, RowOf.mono (RowOf.lies ⟨s0, cap, rfl, hle, hcm, by assumption, hrow, hsz⟩) (fun _ h => h.2), fun i hi => (hit i hi).lies.mono (fun _ h => h.2)⟩
  have HROW := Lib.hid hrow
  have HIT : Hid (∀ i, i < l.length → RepFn (fun b => b < w.heap.size) w (cs i) (l.getD i default)) := Lib.hid (fun i hi => (hit i hi).lies.mono (fun _ h => h.2))
  have HI := Lib.hid infoFn
  clear hrow hit hsz hcm hle
  go_enter Try.func4, Try.ntmps4
  go_upto_region 1 with fail
  have HB1 : Hid (Below w.heap.size w (w.alloc (.cells #[.slice s0 l.length cap] 26))) := Lib.hid (up_alloc (Below.refl _ _) _)
  have HPB : Hid ((w.alloc (.cells #[.slice s0 l.length cap] 26)).heap[w.heap.size]? = some (.cells #[.slice s0 l.length cap] 26 (0, 0))) := Lib.hid (new_heap _ _ _ rfl)
  generalize (w.alloc (.cells #[.slice s0 l.length cap] 26)) = w1 at *
  go_wp2_with fail
  refine (head_any _).mono ?_
  rintro e w2 ⟨rfl, hb2⟩
  have HB2 := Lib.hid (HB1.out.trans (hb2.mono HB1.out.size))
  have HPB2 := Lib.hid ((hb2.block _ (lt_block HPB.out)).trans HPB.out)
  clear hb2 HPB HB1
  have p0 : w2.cell? ⟨w.heap.size, 0, none⟩ = some (.slice s0 l.length cap) := cell_of HPB2.out (j := 0) rfl
  go_wp2_with fail
  refine (great_any l w2 _ (RepFns.mono (HRP.out.keep (Stays.of_lt HB2.out)) (fun _ _ => trivial))).mono ?_
  rintro e w3 ⟨rfl, hb3⟩
  have HB3 := Lib.hid (HB2.out.trans (hb3.mono HB2.out.size))
  have HPB3 := Lib.hid ((hb3.block _ (lt_block HPB2.out)).trans HPB2.out)
  clear hb3 HPB2 HB2 p0
  cases hg : greatB l
  · have hsml := great_small hg
    have HSML := Lib.hid hsml
    have hl200 := hsml.1
    have hlen : l.length ≤ 9223372036854775807 := Nat.le_trans hl200 (by decide)
    clear hg hsml
    go_upto_region 5 with fail
    have HST : Hid (PlW w (w3.alloc (.cells #[.slice none 0 0] 26)) w.heap.size w3.heap.size (.slice s0 l.length cap) (.slice none 0 0) []) := Lib.hid ⟨HB3.out.alloc HB3.out.size _, old_heap _ _ _ _ HPB3.out, new_heap _ _ _ rfl, Nat.le_refl _, lt_block HPB3.out, fun _ => [], own_nil, fun i hi => absurd hi (by simp)⟩
    generalize (w3.alloc (.cells #[.slice none 0 0] 26)) = w4 at *
    generalize hQB : w3.heap.size = QB at *
    have HQE := Lib.hid hQB
    clear hQB HPB3 HB3
    go_wp2_with fail
    go_loopg [5] l.length (fun g t5 wr => ∃ (acc : List Fn) (v : Value), acc.length + g = l.length ∧ t5 = .int .i64 (acc.length : Int) ∧ acc = (l.take acc.length).map stillF ∧ PlW w wr w.heap.size QB (.slice s0 l.length cap) v acc)
    case atStart => exact ⟨[], _, Nat.zero_add _, rfl, rfl, HST.out⟩
    case round =>
      clear HST
      obtain ⟨acc, v, hig, rfl, hacc, hst⟩ := hrel
      have HACC := Lib.hid hacc
      have HW := Lib.hid hst
      obtain ⟨sv, cv, rfl⟩ := hst.form
      have p0 : wr.cell? ⟨w.heap.size, 0, none⟩ = some (.slice s0 l.length cap) := cell_of hst.p (j := 0) rfl
      clear hacc hst
      by_cases hlt : acc.length < l.length
      · obtain ⟨b, off, hs0, _, hbl, hcell⟩ := HROW.out (by omega)
        subst hs0
        have hrep := HIT.out acc.length hlt
        obtain ⟨nm, s1, n1, c1, rs, s2, n2, c2, pos, hcs⟩ := fn_form hrep
        have hc5 : ∀ j, j < 5 → wr.cell? ⟨b, off + acc.length * 5 + j, none⟩ = (cs acc.length)[j]? := fun j hj => (HW.out.b.cell (p := ⟨b, _, none⟩) hbl).trans (hcell acc.length hlt j hj)
        rw [hcs] at hc5 hrep
        obtain ⟨rfl, rfl, rfl, rfl, rfl⟩ := fn_parts hrep
        have hmem : l.getD acc.length default ∈ l := by rw [List.getD_eq_getElem?_getD, List.getElem?_eq_getElem hlt]; exact List.getElem_mem hlt
        have hsf := HSML.out.2 _ hmem
        have HY9 : Hid (acc ++ [stillF (l.getD acc.length default)] = (l.take (acc.length + 1)).map stillF) := Lib.hid (by rw [← take_map stillF default l _ hlt, ← HACC.out])
        generalize hfx : l.getD acc.length default = fx at *
        clear hfx
        have x0 : wr.cell? ⟨b, off + acc.length * 5, none⟩ = some (.string fx.name) := hc5 0 (by decide)
        have x1 : wr.cell? ⟨b, off + acc.length * 5 + 1, none⟩ = some (.slice s1 fx.params.length c1) := hc5 1 (by decide)
        have x2 : wr.cell? ⟨b, off + acc.length * 5 + 2, none⟩ = some (.int .i64 fx.result) := hc5 2 (by decide)
        have x3 : wr.cell? ⟨b, off + acc.length * 5 + 3, none⟩ = some (.slice s2 fx.body.length c2) := hc5 3 (by decide)
        have x4 : wr.cell? ⟨b, off + acc.length * 5 + 4, none⟩ = some (.int .i64 fx.pos) := hc5 4 (by decide)
        have HREP := Lib.hid hrep
        have HSF := Lib.hid hsf
        clear hrep hc5 hcs hcell hmem hsf
        go_upto_region 10 with fail
        clear p0 x0 x1 x2 x3 x4
        have HFB : Hid ((wr.alloc (.cells #[.string fx.name, .slice s1 fx.params.length c1, .int .i64 fx.result, .slice s2 fx.body.length c2, .int .i64 0] 34)).heap[wr.heap.size]? = some (.cells #[.string fx.name, .slice s1 fx.params.length c1, .int .i64 fx.result, .slice s2 fx.body.length c2, .int .i64 0] 34 (0, 0))) := Lib.hid (new_heap _ _ _ rfl)
        have HB5 : Hid (Below wr.heap.size wr (wr.alloc (.cells #[.string fx.name, .slice s1 fx.params.length c1, .int .i64 fx.result, .slice s2 fx.body.length c2, .int .i64 0] 34))) := Lib.hid (up_alloc (Below.refl _ _) _)
        generalize (wr.alloc (.cells #[.string fx.name, .slice s1 fx.params.length c1, .int .i64 fx.result, .slice s2 fx.body.length c2, .int .i64 0] 34)) = w5 at *
        have HW5 : Hid (Below w.heap.size w w5) := Lib.hid (HW.out.b.trans (HB5.out.mono HW.out.b.size))
        have hpv : ∃ vp, RepPas (fun b => b < w.heap.size) w (.slice s1 fx.params.length c1) fx.params ∧ RepSts (fun b => b < w.heap.size) w (.slice s2 fx.body.length c2) fx.body ∧ vp = (1 : Nat) := by
          obtain ⟨vp, vb, e, h1, h2⟩ := HREP.out
          have e1 := (List.cons.inj (List.cons.inj e).2).1
          have e3 := (List.cons.inj (List.cons.inj (List.cons.inj (List.cons.inj e).2).2).2).1
          subst e1 e3
          exact ⟨1, h1, h2, rfl⟩
        obtain ⟨_, hpa, hbo, _⟩ := hpv
        have HPA := Lib.hid hpa
        have HC := Lib.hid (stills_any fx.body HSF.out.2.1 HSF.out.2.2 w5 (.slice s2 fx.body.length c2) ((hbo.keep (Stays.of_lt HW5.out)).mono (fun _ _ => trivial)))
        clear hpa hbo
        have y3 : w5.cell? ⟨wr.heap.size, 3, none⟩ = some (.slice s2 fx.body.length c2) := cell_of HFB.out (j := 3) rfl
        go_wp2_with fail
        refine HC.out.mono ?_
        rintro e w6 ⟨sb, cb, rfl, hrb, hb6⟩
        have HFB6 := Lib.hid ((hb6.block _ (lt_block HFB.out)).trans HFB.out)
        have HB6 := Lib.hid (HB5.out.trans (hb6.mono HB5.out.size))
        have HRB : Hid (RepSts (From (wr.heap.size + 1)) w6 (.slice sb fx.body.length cb) (stillSs fx.body)) := Lib.hid (hrb.mono (fun b hb => Nat.le_trans (lt_block HFB.out) hb))
        clear hb6 hrb HC y3 HFB HB5 HW5
        have y3 : w6.cell? ⟨wr.heap.size, 3, none⟩ = some (.slice s2 fx.body.length c2) := cell_of HFB6.out (j := 3) rfl
        have f3 : w6.frozen? ⟨wr.heap.size, 3, none⟩ = false := frozen_of HFB6.out 3
        go_upto_region 11 with fail
        have HFB7 : Hid ((w6.setCell ⟨wr.heap.size, 3, none⟩ (.slice sb fx.body.length cb)).heap[wr.heap.size]? = some (.cells #[.string fx.name, .slice s1 fx.params.length c1, .int .i64 fx.result, .slice sb fx.body.length cb, .int .i64 0] 34 (0, 0))) := Lib.hid (setCell_obj HFB6.out 3 _)
        have HB7 : Hid (Below wr.heap.size wr (w6.setCell ⟨wr.heap.size, 3, none⟩ (.slice sb fx.body.length cb))) := Lib.hid (HB6.out.setCell (p := ⟨wr.heap.size, 3, none⟩) (Nat.le_refl _) _)
        replace HRB := Lib.hid (HRB.out.keep (Stays.of_on ((On.refl wr.heap.size w6).set 3 (.slice sb fx.body.length cb)) (Nat.lt_succ_self _)))
        clear y3 f3 HFB6 HB6
        generalize (w6.setCell ⟨wr.heap.size, 3, none⟩ (.slice sb fx.body.length cb)) = w7 at *
        have hb8 : Below wr.heap.size wr (w7.alloc (.cells #[.string fx.name, .slice s1 fx.params.length c1, .int .i64 fx.result, .slice sb fx.body.length cb, .int .i64 0] 34)) := up_alloc HB7.out _
        have HW8 := Lib.hid (HW.out.below hb8)
        obtain ⟨cs5, hown, hit5⟩ := HW8.out.gr
        have HOWN := Lib.hid hown
        have HIT5 := Lib.hid hit5
        have HOLD : Hid (∀ b, (Value.slice sv acc.length cv).ownBlock = some b → QB + 1 ≤ b ∧ b < wr.heap.size) := Lib.hid (fun b hb => by
          obtain ⟨cs', ho', _⟩ := HW.out.gr
          exact own_block ho' hb)
        have HQL : Hid (QB < wr.heap.size) := Lib.hid (lt_block HW.out.q)
        have HPQ : Hid (w.heap.size < QB) := Lib.hid HW.out.lt
        have HY : Hid (RepFn (fun b => b ≠ QB ∧ (Value.slice sv acc.length cv).ownBlock ≠ some b) (w7.alloc (.cells #[.string fx.name, .slice s1 fx.params.length c1, .int .i64 fx.result, .slice sb fx.body.length cb, .int .i64 0] 34)) [.string fx.name, .slice s1 fx.params.length c1, .int .i64 fx.result, .slice sb fx.body.length cb, .int .i64 0] (stillF fx)) := Lib.hid (fn_mk ((HPA.out.keep (Stays.of_lt HW8.out.b)).mono (fun b (hb : b < w.heap.size) => ⟨by have := HPQ.out; omega, fun e => by have := HOLD.out b e; have := HPQ.out; omega⟩)) ((HRB.out.keep (Stays.of_below (up_alloc (Below.refl _ _) _))).mono (fun b (hb : wr.heap.size + 1 ≤ b) => ⟨by have := HQL.out; omega, fun e => by have := HOLD.out b e; omega⟩)))
        have HLE : Hid (QB + 1 ≤ (w7.alloc (.cells #[.string fx.name, .slice s1 fx.params.length c1, .int .i64 fx.result, .slice sb fx.body.length cb, .int .i64 0] 34)).heap.size) := Lib.hid (Nat.le_trans HQL.out hb8.size)
        have q0 : w7.cell? ⟨QB, 0, none⟩ = some (.slice sv acc.length cv) := cell_of ((HB7.out.block _ HQL.out).trans HW.out.q) (j := 0) rfl
        have y0 : w7.cell? ⟨wr.heap.size, 0, none⟩ = some (.string fx.name) := cell_of HFB7.out (j := 0) rfl
        have y1 : w7.cell? ⟨wr.heap.size, 1, none⟩ = some (.slice s1 fx.params.length c1) := cell_of HFB7.out (j := 1) rfl
        have y2 : w7.cell? ⟨wr.heap.size, 2, none⟩ = some (.int .i64 fx.result) := cell_of HFB7.out (j := 2) rfl
        have y3 : w7.cell? ⟨wr.heap.size, 3, none⟩ = some (.slice sb fx.body.length cb) := cell_of HFB7.out (j := 3) rfl
        have y4 : w7.cell? ⟨wr.heap.size, 4, none⟩ = some (.int .i64 0) := cell_of HFB7.out (j := 4) rfl
        clear hown hit5 hb8
        go_wp2_with (refine wpList_append_lies _ rfl _ _ _ rfl (QB + 1) 34 HI.out.choose _ 5 80 Try.underlying24 HI.out.choose_spec.1 HI.out.choose_spec.2.1 HI.out.choose_spec.2.2.1 HI.out.choose_spec.2.2.2 rfl (by decide) _ acc.length (flat cs5 acc.length) rfl HOWN.out ⟨w7.heap.size, 0, none⟩ 1 1 [.string fx.name, .slice s1 fx.params.length c1, .int .i64 fx.result, .slice sb fx.body.length cb, .int .i64 0] rfl rfl (by intro j u hj; rw [Go.WideShapes.add_plain, Nat.zero_add]; exact new_cell _ _ _ _ _ _ rfl (by simpa using hj)) (by intro u hu; simp at hu; rcases hu with rfl | rfl | rfl | rfl | rfl <;> rfl) (by decide) (by unfold maxLen; omega) (by omega) HLE.out _ rfl ?_; intro g9 cp9 wz hown9 hgrow9 hgl9 hlt9; have HPU := Lib.hid (HW8.out.push HIT5.out rfl HY.out hgrow9 hgl9 hown9); have HQ9 := Lib.hid (HW8.out.q9 hgrow9); have q1 : wz.cell? ⟨QB, 0, none⟩ = some (.slice sv acc.length cv) := cell_of HQ9.out (j := 0) rfl; have q2 : wz.frozen? ⟨QB, 0, none⟩ = false := frozen_of HQ9.out 0; clear hown9 hgrow9 hgl9 hlt9)
        go_roundg (l.length - acc.length - 1)
        case measure => omega
        case rel => exact ⟨_, _, by simp; omega, by simp, by rw [List.length_append]; exact HY9.out, HPU.out⟩
      · have hend : acc.length = l.length := by omega
        have HEND : Hid (acc = l.map stillF) := Lib.hid (by have q := HACC.out; rw [hend, List.take_of_length_le (Nat.le_refl _)] at q; exact q)
        clear hend
        have HC1 := Lib.hid (check_ck l (fun f hf => Nat.le_trans (HSML.out.2 f hf).1 (by decide)) wr (.slice s0 l.length cap) ((HRP.out.keep (Stays.of_lt HW.out.b)).mono (fun _ _ => trivial)))
        go_wp2_with fail
        refine HC1.out.mono ?_
        rintro e w10 ⟨rfl, hb10⟩
        have HW10 := Lib.hid (HW.out.below hb10)
        have HRQ : Hid (RepFns Any w10 (.slice sv acc.length cv) (l.map stillF)) := Lib.hid (by rw [← HEND.out]; exact HW10.out.row)
        have HC2 := Lib.hid (check_ck (l.map stillF) (fun f hf => by obtain ⟨x, hx, rfl⟩ := List.mem_map.1 hf; exact Nat.le_trans (HSML.out.2 x hx).1 (by decide)) w10 _ HRQ.out)
        rw [check_z] at HC2
        clear hb10
        have q0 : w10.cell? ⟨QB, 0, none⟩ = some (.slice sv acc.length cv) := cell_of HW10.out.q (j := 0) rfl
        go_wp2_with fail
        ((with_reducible refine HC2.out.mono ?_))
        rintro e w11 ⟨rfl, hb11⟩
        have HB11 := Lib.hid (HW10.out.b.trans (hb11.mono HW10.out.b.size))
        clear hb11 q0
        simp only [zf]
        go_wp2_with fail
        exact bodyPost_ret (v := .bool true) (by simp [results, Try.results4, go_sem]) rfl ⟨rfl, HB11.out⟩
  · go_wp2_with fail
    go_ret
    exact ⟨rfl, HB3.out⟩
end Go.Proofs.Ytpiamiaigjlafaa
