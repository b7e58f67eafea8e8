/-
  The walk of 'safe': what comes behind an instruction.
-/
import Derived.Test.YtmdceokmpjcllaaGreatDoorVerifyG
import Derived.Deep.CutBlock
namespace Go.Proofs.YtmdceokmpjcllaaGreatDoor
open Go.RowKit
attribute [local go_sem ↓] Go.wp_at_zero Go.wp_at_succ

/-- what holds ahead of each of those that come behind -/
structure FoldInv (base : Nat) (w W : World) (ab n : Nat) (s : Sta) (kb : Nat) (vl : Value) (l : List Int) (s6 : Value) (tab : Tab) (pile : List Nat) (ks : Nat → Nat) : Prop where
  below : Below base w W
  tabAt : TabAt base W ab n tab ks
  pileAt : PileAt base W s6 pile
  stAt : StAt W kb s.st s.sl
  away : ∀ j, j < n → (tab j).isSome = true → ks j ≠ kb
  nums : NumsAt W vl l
  muLe : mu n (tab, pile) ≤ 5000000

theorem infoInt : (Tryz.prog.info? 3).map (fun i => (i.zero, i.size, i.bytes)) = some (some (.int .i64 0), 1, 8) := by kernel_rfl
theorem FoldInv.world {base : Nat} {w W W' : World} {ab n : Nat} {s : Sta} {kb : Nat} {vl : Value} {l : List Int} {s6 : Value} {tab : Tab} {pile : List Nat} {ks : Nat → Nat} (h : FoldInv base w W ab n s kb vl l s6 tab pile ks)
    (hb : Below base W W') (ht : ∀ b, OfTy W b 28 → W'.heap[b]? = W.heap[b]?) (hk : W'.heap[kb]? = W.heap[kb]?) (hi : ∀ b, OfTy W b 2 → W'.heap[b]? = W.heap[b]?) :
    Below base w W' ∧ StAt W' kb s.st s.sl ∧ NumsAt W' vl l := by
  refine ⟨h.below.trans hb, h.stAt.keep hk ht, ?_⟩
  obtain ⟨s0, h1, h2⟩ := h.nums
  refine ⟨s0, h1, fun h0 => ?_⟩
  obtain ⟨b, q1, ⟨arr, fz, q2⟩, q3⟩ := h2 h0
  have hbb := hi b ⟨arr, fz, q2⟩
  exact ⟨b, q1, ⟨arr, fz, hbb.trans q2⟩, fun i hil => (World.cell?_of_block (w := W) hbb).trans (q3 i hil)⟩
theorem FoldInv.drewN {base : Nat} {w W : World} {ab n : Nat} {s : Sta} {kb : Nat} {vl : Value} {l : List Int} {s6 : Value} {tab : Tab} {pile : List Nat} {ks : Nat → Nat} (h : FoldInv base w W ab n s kb vl l s6 tab pile ks) (m : Nat) : FoldInv base w (W.drewN m) ab n s kb vl l s6 tab pile ks :=
  ⟨⟨h.below.os, h.below.tape, h.below.output, h.below.size, h.below.block⟩, h.tabAt.later fun _ _ => rfl, h.pileAt.later fun _ _ => rfl, h.stAt.drewN m, h.away, h.nums, h.muLe⟩
/-- a new state comes into the table, at the new world -/
theorem put_new {base : Nat} {w W W3 : World} {ab n : Nat} {s : Sta} {kb : Nat} {vl : Value} {l : List Int} {s6 : Value} {tab : Tab} {pile : List Nat} {ks : Nat → Nat} {q : Nat} {sv : Value} {cs : List Value} (h : FoldInv base w W ab n s kb vl l s6 tab pile ks)
    (hq : q < n) (_htq : tab q = none) (hsv : StkAt W sv s.st) (hcs : cs = slCells s.sl)
    (hw : W3 = (W.alloc (.cells (sv :: cs).toArray 110)).setCell ⟨ab, q, none⟩ (.pointer (some ⟨W.heap.size, 0, none⟩)))
    (hmu : mu n (upd tab q s, pile ++ [q]) ≤ 5000000) (hs21 : s.st.length ≤ 2100) (hkb : base ≤ kb) :
    FoldInv base w W3 ab n s kb vl l s6 (upd tab q s) pile (fun j => if j = q then W.heap.size else ks j) := by
  have hst := h.stAt
  have hbk : base ≤ W.heap.size := by
    obtain ⟨_, _, q⟩ := hst.ofTy
    have := lt_of_block q
    omega
  obtain ⟨W1, hW1⟩ : ∃ W1, W1 = W.alloc (.cells (sv :: cs).toArray 110) := ⟨_, rfl⟩
  rw [← hW1] at hw
  have hold : ∀ b, b < W.heap.size → W1.heap[b]? = W.heap[b]? := fun b hb => by rw [hW1]; exact Below.heap_alloc _ _ _ hb
  have hB1 : Below base W W1 := by rw [hW1]; exact (Below.refl base W).alloc hbk _
  have hnew : StAt W1 W.heap.size s.st s.sl := by
    refine stAt_of (sv := sv) ⟨(sv :: cs).toArray, by rw [hW1]; exact new_heap _ _ _ rfl⟩ (hsv.keep fun b a fz q => hold b (lt_of_block q)) (fun j v hv => ?_) hst.i64s
    rw [hW1, Nat.zero_add]
    refine new_cell _ _ _ _ _ _ rfl ?_
    rw [hcs]
    simpa using hv
  have ht1 := h.tabAt.later hold
  have hne : ∀ j, j < n → (tab j).isSome = true → ks j ≠ W.heap.size := fun j hj hs => by
    obtain ⟨s', hs'⟩ := Option.isSome_iff_exists.1 hs
    obtain ⟨_, _, q⟩ := (h.tabAt.st j s' hj hs').2.2.ofTy
    have := lt_of_block q
    omega
  have ht3 := ht1.put hq hbk hs21 hnew hne
  rw [← hw] at ht3
  have hab := h.tabAt.arrTy
  have hkeep : ∀ b, b < W.heap.size → b ≠ ab → W3.heap[b]? = W.heap[b]? := fun b hb hne => by rw [hw, setCell_heap _ _ _ _ hne]; exact hold b hb
  have hB3 : Below base W W3 := by rw [hw]; exact hB1.setCell h.tabAt.low _
  have hty : ∀ t, t ≠ 106 → ∀ b, OfTy W b t → W3.heap[b]? = W.heap[b]? := fun t ht b hb => by
    have hne := hb.ne hab ht
    obtain ⟨_, _, q⟩ := hb
    exact hkeep b (lt_of_block q) hne
  obtain ⟨g1, g2, g3⟩ := h.world hB3 (hty _ (by decide)) (by
    obtain ⟨_, _, q⟩ := hst.ofTy
    exact hkeep kb (lt_of_block q) (hst.ofTy.ne hab (by decide))) (hty _ (by decide))
  refine ⟨g1, ht3, h.pileAt.keep (hty _ (by decide)), g2, fun j hj hs => ?_, g3, ?_⟩
  · by_cases e : j = q
    · subst e
      simp only [if_true]
      obtain ⟨_, _, q⟩ := hst.ofTy
      have := lt_of_block q
      omega
    · simp only [upd, if_neg e] at hs ⊢
      exact h.away j hj hs
  · have h5 : pot (upd tab q s) n + (pile ++ [q]).length ≤ 5000000 := hmu
    show pot (upd tab q s) n + pile.length ≤ 5000000
    simp only [List.length_append, List.length_cons, List.length_nil] at h5
    omega

theorem FoldInv.alloc {base : Nat} {w W : World} {ab n : Nat} {s : Sta} {kb : Nat} {vl : Value} {l : List Int} {s6 : Value} {tab : Tab} {pile : List Nat} {ks : Nat → Nat} (h : FoldInv base w W ab n s kb vl l s6 tab pile ks) (o : Obj) (hkb : base ≤ kb) : FoldInv base w (W.alloc o) ab n s kb vl l s6 tab pile ks := by
  have hb : ∀ b, b < W.heap.size → (W.alloc o).heap[b]? = W.heap[b]? := fun b hb => Below.heap_alloc _ _ _ hb
  have hbt : ∀ t b, OfTy W b t → (W.alloc o).heap[b]? = W.heap[b]? := fun t b ⟨_, _, q⟩ => hb b (lt_of_block q)
  have hbk : base ≤ W.heap.size := by
    obtain ⟨_, _, q⟩ := h.stAt.ofTy
    have := lt_of_block q
    omega
  obtain ⟨g1, g2, g3⟩ := h.world ((Below.refl base W).alloc hbk o) (hbt _) (hbt _ _ h.stAt.ofTy) (hbt _)
  exact ⟨g1, h.tabAt.later hb, h.pileAt.later hb, g2, h.away, g3, h.muLe⟩
/-- a state of the table turned -/
theorem FoldInv.turned {base : Nat} {w W W' : World} {ab n : Nat} {s : Sta} {kb : Nat} {vl : Value} {l : List Int} {s6 : Value} {tab : Tab} {pile : List Nat} {ks : Nat → Nat} {q : Nat} {old : Sta} {st' : List Int} {sl' : Nat → Int} (h : FoldInv base w W ab n s kb vl l s6 tab pile ks)
    (hq : q < n) (ho : tab q = some old) (hon : On (ks q) W W') (hst : StAt W' (ks q) st' sl') (hl : st'.length ≤ 2100) (hmu : mu n (upd tab q ⟨st', sl'⟩, pile) ≤ 5000000) : FoldInv base w W' ab n s kb vl l s6 (upd tab q ⟨st', sl'⟩) pile ks := by
  obtain ⟨q1, _, q3⟩ := h.tabAt.st q old hq ho
  have hkeep : ∀ b, b < W.heap.size → b ≠ ks q → W'.heap[b]? = W.heap[b]? := fun b hb hne => hon.block b hb (fun e => hne (by injection e))
  have hty : ∀ t, t ≠ 110 → ∀ b, OfTy W b t → W'.heap[b]? = W.heap[b]? := fun t ht b hb => by
    have hne := hb.ne q3.ofTy ht
    obtain ⟨_, _, q⟩ := hb
    exact hkeep b (lt_of_block q) hne
  have hB : Below base W W' := ⟨hon.os, hon.tape, hon.output, hon.size, fun b hb => hkeep b (by
    obtain ⟨_, _, q⟩ := q3.ofTy
    have := lt_of_block q
    omega) (by omega)⟩
  have hne : ks q ≠ kb := h.away q hq (by rw [ho]; rfl)
  obtain ⟨g1, g2, g3⟩ := h.world hB (hty _ (by decide)) (by
    obtain ⟨_, _, q⟩ := h.stAt.ofTy
    exact hkeep kb (lt_of_block q) (Ne.symm hne)) (hty _ (by decide))
  refine ⟨g1, h.tabAt.turn hq ho hon hl hst, h.pileAt.keep (hty _ (by decide)), g2, fun j hj hs => ?_, g3, hmu⟩
  refine h.away j hj ?_
  by_cases e : j = q
  · subst e; rw [ho]; rfl
  · simpa [upd, e] using hs
/-- one more comes on the pile -/
theorem FoldInv.push {base : Nat} {w W w' : World} {ab n : Nat} {s : Sta} {kb : Nat} {vl : Value} {l : List Int} {s6 v' : Value} {tab : Tab} {pile : List Nat} {ks : Nat → Nat} {q : Nat} {o : Obj} (h : FoldInv base w W ab n s kb vl l s6 tab pile ks)
    (hown : w'.ownsRow base 3 1 v' (pile.length + 1) (pileV pile ++ [.int .i64 (q : Int)])) (hg : (W.alloc o).grownBy w' s6.ownBlock) (hmu : mu n (tab, pile ++ [q]) ≤ 5000000) (hkb : base ≤ kb) :
    FoldInv base w w' ab n s kb vl l v' tab (pile ++ [q]) ks := by
  obtain ⟨g, cap, hv, _, hgb, ⟨ga, hga⟩, _⟩ := h.pileAt.form
  have hob : s6.ownBlock = some g := by rw [hv]; rfl
  rw [hob] at hg
  have hkeep : ∀ b, b < W.heap.size → b ≠ g → w'.heap[b]? = W.heap[b]? := fun b hb hne => by
    rw [hg.block b (by rw [size_alloc]; omega) (fun e => hne (by injection e))]
    exact Below.heap_alloc _ _ _ hb
  have hG : OfTy W g 3 := ⟨ga, _, hga⟩
  have hty : ∀ t, t ≠ 3 → ∀ b, OfTy W b t → w'.heap[b]? = W.heap[b]? := fun t ht b hb => by
    have hne := hb.ne hG ht
    obtain ⟨_, _, q⟩ := hb
    exact hkeep b (lt_of_block q) hne
  have hbk : base ≤ W.heap.size := by
    obtain ⟨_, _, q⟩ := h.stAt.ofTy
    have := lt_of_block q
    omega
  have hB : Below base W w' := ((Below.refl base W).alloc hbk o).trans ⟨hg.os, hg.tape, hg.output, hg.size, fun b hb => hg.block b (by rw [size_alloc]; omega) (fun e => by injection e with e; omega)⟩
  have hT := h.tabAt
  obtain ⟨g1, g2, g3⟩ := h.world hB (hty _ (by decide)) (hty _ (by decide) _ h.stAt.ofTy) (hty _ (by decide))
  refine ⟨g1, hT.keep (hty _ (by decide) _ hT.arrTy) (fun i hi hs => ?_) (hty _ (by decide)), ⟨?_, ?_⟩, g2, h.away, g3, hmu⟩
  · obtain ⟨s', hs'⟩ := Option.isSome_iff_exists.1 hs
    exact hty _ (by decide) _ (hT.st i s' hi hs').2.2.ofTy
  · simpa [pileV] using hown
  · rcases hown.2 with ⟨_, h0⟩ | ⟨g', cap', cur, hv', _⟩
    · omega
    · exact ⟨g', cap', by simpa using hv'⟩

set_option maxRecDepth 100000 in
set_option maxHeartbeats 8000000 in
theorem fold_wp {C : Code} (hC : C = codeAt ((Tryz.f41.body).getD .skip) [true, false, true, true, true, true, true, true, false, false, false, true, false, true, true, true, true, false, true]) {Q : Exit → Act → World → Prop} {u0 u1 u2 u3 u4 u6 u7 u9 u10 u11 u12 u13 u14 u15 u16 u17 u18 u19 u20 u21 u22 u23 u24 u25 u26 u27 u28 u29 u30 u31 u32 u33 u34 u35 u36 u37 u38 u39 u40 u41 u42 u43 u44 u45 u46 u47 u48 u49 u50 u51 u52 u53 u54 u55 u56 u57 u58 u59 u60 u61 u62 u63 u64 u65 u66 u67 u68 u69 u70 u71 u72 u73 u74 u75 u76 u77 u81 u82 u83 u84 u85 u86 u87 u88 u89 u90 u91 u92 u93 u94 u95 u96 u97 u98 u99 u100 u101 u102 u103 u104 u105 u106 u107 u108 u109 u110 u111 u112 u113 u114 u115 u116 u117 u118 u119 u120 u121 u122 u123 u124 u125 u126 u127 u128 u129 u130 u131 u132 u133 u134 u135 u136 u137 u138 u139 u140 u141 u142 u143 u144 u145 u146 u147 u148 u149 u150 u151 u152 u153 : Value}
    (base ab n kb : Nat) (s : Sta) (vl : Value) (l : List Int) (tab : Tab) (pile : List Nat) (ks : Nat → Nat) {w : World}
    (h : FoldInv base w w ab n s kb vl l u6 tab pile ks) (hkb : base ≤ kb) (hs21 : s.st.length ≤ 2100) (hl : l.length ≤ 2)
    (hQp : ∀ x (t t' : Array Value) d w, Q (.panic x) ⟨t, d⟩ w → Q (.panic x) ⟨t', d⟩ w)
    (h1 : ∀ (u4 u6 u10 u11 u12 u13 u14 u80 u81 u82 u83 u84 u85 u86 u87 u88 u89 u90 u91 u92 u93 u94 u95 u96 u97 u98 u99 u100 u101 u102 u103 u104 u105 u106 u107 u108 u109 u110 u111 u112 u113 u114 u115 u116 u117 u118 u119 u120 u121 u122 u123 u124 u125 u126 u127 u128 u129 u130 u131 u132 u133 u134 u135 u136 u137 u138 u139 u140 u141 u142 u143 u144 u145 u146 u147 u148 u149 u150 : Value) (w' : World) (tab' : Tab) (pile' : List Nat) (ks' : Nat → Nat), foldTo n s l (tab, pile) = some (tab', pile') → TabAt base w' ab n tab' ks' → PileAt base w' u6 pile' → Below base w w' → Q .normal ⟨#[u0, u1, u2, u3, u4, .slice (some ⟨ab, 0, none⟩) n n, u6, u7, .pointer (some ⟨kb, 0, none⟩), u9, u10, u11, u12, u13, u14, u15, u16, u17, u18, u19, u20, u21, u22, u23, u24, u25, u26, u27, u28, u29, u30, u31, u32, u33, u34, u35, u36, u37, u38, u39, u40, u41, u42, u43, u44, u45, u46, u47, u48, u49, u50, u51, u52, u53, u54, u55, u56, u57, u58, u59, u60, u61, u62, u63, u64, u65, u66, u67, u68, u69, u70, u71, u72, u73, u74, u75, u76, u77, vl, .int .i64 (l.length : Int), u80, u81, u82, u83, u84, u85, u86, u87, u88, u89, u90, u91, u92, u93, u94, u95, u96, u97, u98, u99, u100, u101, u102, u103, u104, u105, u106, u107, u108, u109, u110, u111, u112, u113, u114, u115, u116, u117, u118, u119, u120, u121, u122, u123, u124, u125, u126, u127, u128, u129, u130, u131, u132, u133, u134, u135, u136, u137, u138, u139, u140, u141, u142, u143, u144, u145, u146, u147, u148, u149, u150, u151, u152, u153], []⟩ w')
    (h2 : foldTo n s l (tab, pile) = none → ∀ (u6 u10 u11 u12 u13 u14 u80 u81 u82 u83 u84 u85 u86 u87 u88 u89 u90 u91 u92 u93 u94 u95 u96 u97 u98 u99 u100 u101 u102 u103 u104 u105 u106 u107 u108 u109 u110 u111 u112 u113 u114 u115 u116 u117 u118 u119 u120 u121 u122 u123 u124 u125 u126 u127 u128 u129 u130 u131 u132 u133 u134 u135 u136 u137 u138 u139 u140 u141 u142 u143 u144 u145 u146 u147 u148 u149 u150 : Value) (w' : World), Below base w w' → Q .ret ⟨#[u0, u1, u2, u3, .bool false, .slice (some ⟨ab, 0, none⟩) n n, u6, u7, .pointer (some ⟨kb, 0, none⟩), u9, u10, u11, u12, u13, u14, u15, u16, u17, u18, u19, u20, u21, u22, u23, u24, u25, u26, u27, u28, u29, u30, u31, u32, u33, u34, u35, u36, u37, u38, u39, u40, u41, u42, u43, u44, u45, u46, u47, u48, u49, u50, u51, u52, u53, u54, u55, u56, u57, u58, u59, u60, u61, u62, u63, u64, u65, u66, u67, u68, u69, u70, u71, u72, u73, u74, u75, u76, u77, vl, .int .i64 (l.length : Int), u80, u81, u82, u83, u84, u85, u86, u87, u88, u89, u90, u91, u92, u93, u94, u95, u96, u97, u98, u99, u100, u101, u102, u103, u104, u105, u106, u107, u108, u109, u110, u111, u112, u113, u114, u115, u116, u117, u118, u119, u120, u121, u122, u123, u124, u125, u126, u127, u128, u129, u130, u131, u132, u133, u134, u135, u136, u137, u138, u139, u140, u141, u142, u143, u144, u145, u146, u147, u148, u149, u150, u151, u152, u153], []⟩ w') :
    Code.wp Tryz.prog C Q ⟨#[u0, u1, u2, u3, u4, .slice (some ⟨ab, 0, none⟩) n n, u6, u7, .pointer (some ⟨kb, 0, none⟩), u9, u10, u11, u12, u13, u14, u15, u16, u17, u18, u19, u20, u21, u22, u23, u24, u25, u26, u27, u28, u29, u30, u31, u32, u33, u34, u35, u36, u37, u38, u39, u40, u41, u42, u43, u44, u45, u46, u47, u48, u49, u50, u51, u52, u53, u54, u55, u56, u57, u58, u59, u60, u61, u62, u63, u64, u65, u66, u67, u68, u69, u70, u71, u72, u73, u74, u75, u76, u77, vl, .int .i64 (l.length : Int), .int .i64 0, u81, u82, u83, u84, u85, u86, u87, u88, u89, u90, u91, u92, u93, u94, u95, u96, u97, u98, u99, u100, u101, u102, u103, u104, u105, u106, u107, u108, u109, u110, u111, u112, u113, u114, u115, u116, u117, u118, u119, u120, u121, u122, u123, u124, u125, u126, u127, u128, u129, u130, u131, u132, u133, u134, u135, u136, u137, u138, u139, u140, u141, u142, u143, u144, u145, u146, u147, u148, u149, u150, u151, u152, u153], []⟩ w := by
  simp only [Tryz.f41, codeAt, Option.getD] at hC
  subst hC
  have HQP : Hid (∀ c (a : Act) o v w, Q (.panic c) (a.put o v) w → Q (.panic c) a w) := Lib.hid (fun c a o v w h => by cases o <;> exact hQp c _ a.tmps a.defers w h)
  clear hQp
  have H1 := Lib.hid h1
  have H2 := Lib.hid h2
  have HH := Lib.hid h
  obtain ⟨vs, rfl, hnums⟩ := h.nums
  clear h1 h2 h
  go_wp2_with fail
  go_loopg [6, 80] l.length (fun g s6 s80 W => ∃ (i : Nat) (tb : Tab) (pl : List Nat) (kz : Nat → Nat), i + g = l.length ∧ s80 = .int .i64 i ∧ FoldInv base w W ab n s kb (.slice vs l.length l.length) l s6 tb pl kz ∧ foldTo n s (l.drop i) (tb, pl) = foldTo n s l (tab, pile))
  case atStart => exact ⟨0, tab, pile, ks, by omega, rfl, HH.out, by simp⟩
  case round =>
    obtain ⟨i, tb, pl, kz, hi, rfl, hinv, hrun⟩ := hrel
    have HI := Lib.hid hinv
    have HR := Lib.hid hrun
    clear hinv hrun
    cases gk with
    | zero =>
      have he : i = l.length := by omega
      have hr := HR.out
      rw [he, List.drop_length] at hr
      have HF := Lib.hid hr.symm
      have hd : decide ((i : Int) < (l.length : Int)) = false := by simp; omega
      have hd2 : ¬ ((i : Int) < (l.length : Int)) := by omega
      clear hr he hi
      go_wp2_with fail
      exact H1.out _ _ _ _ _ _ _ _ _ _ _ _ _ _ _ _ _ _ _ _ _ _ _ _ _ _ _ _ _ _ _ _ _ _ _ _ _ _ _ _ _ _ _ _ _ _ _ _ _ _ _ _ _ _ _ _ _ _ _ _ _ _ _ _ _ _ _ _ _ _ _ _ _ _ _ _ _ _ wr tb pl kz HF.out HI.out.tabAt HI.out.pileAt HI.out.below
    | succ gk =>
      have hil : i < l.length := by omega
      have hi2 : (i : Int) < (l.length : Int) := by omega
      have hi0 : (0 : Int) ≤ (i : Int) := by omega
      have hdrop : l.drop i = l.getD i 0 :: l.drop (i + 1) := by
        rw [List.drop_eq_getElem_cons hil, List.getD_eq_getElem?_getD, List.getElem?_eq_getElem hil]; rfl
      have hr := HR.out
      rw [hdrop, foldTo] at hr
      obtain ⟨vs', hvs, hnum⟩ := HI.out.nums
      injection hvs with hvs _ _
      subst hvs
      obtain ⟨b, hbe, hbt, hbc⟩ := hnum (by omega)
      subst hbe
      have q0 := hbc i hil
      generalize l.getD i 0 = t at *
      have HN := Lib.hid hnums
      have HR2 := Lib.hid hr
      have HI3 := Lib.hid (fun W => in_any t n W)
      clear hbc hbt hnum hr hdrop hnums HR
      cases hin : inB t n
      · rw [hin] at HI3
        have hr := HR2.out
        have hst0 : stepTo n s t (tb, pl) = none := by simp [stepTo, hin]
        rw [hst0] at hr
        have HF := Lib.hid hr.symm
        clear hr hin HR2 hst0
        go_wp2_with fail
        refine (HI3.out _).mono ?_
        rintro e w2 ⟨rfl, rfl⟩
        go_wp2_with fail
        exact H2.out HF.out _ _ _ _ _ _ _ _ _ _ _ _ _ _ _ _ _ _ _ _ _ _ _ _ _ _ _ _ _ _ _ _ _ _ _ _ _ _ _ _ _ _ _ _ _ _ _ _ _ _ _ _ _ _ _ _ _ _ _ _ _ _ _ _ _ _ _ _ _ _ _ _ _ _ _ _ _ w2 HI.out.below
      · rw [hin] at HI3
        have hbd : 0 ≤ t ∧ t < n := by simpa [inB] using hin
        obtain ⟨q, rfl⟩ := Int.eq_ofNat_of_zero_le hbd.1
        have hqn : q < n := by omega
        have hq0 : (0 : Int) ≤ (q : Int) := by omega
        have hq1 : (q : Int) < (n : Int) := by omega
        have g1 : IntKind.i64.wrap ((i : Int) + 1) = (i : Int) + 1 := IntWalk.i64_in _ (by omega)
        have qc := HI.out.tabAt.cell q hqn
        have qf : wr.frozen? ⟨ab, q, none⟩ = false := by obtain ⟨arr, ho⟩ := HI.out.tabAt.arr; exact frozen_of ho _
        clear hbd
        cases htq : tb q with
        | none =>
          rw [htq, ptrOf_none] at qc
          have hst0 : stepTo n s (q : Int) (tb, pl) = some (upd tb q s, pl ++ [q]) := by simp [stepTo, hin, htq]
          have hr := HR2.out
          rw [hst0] at hr
          have HF := Lib.hid hr
          have HMU := Lib.hid (Nat.le_trans (mu_stepTo hst0) HI.out.muLe)
          have HTQ := Lib.hid htq
          clear hr hst0 HR2 hin htq
          obtain ⟨sv, hsv, hrng⟩ := HI.out.stAt.whole
          have k0 := hrng 0 sv rfl
          have hrs := HI.out.stAt.slots
          obtain ⟨cs, hcs⟩ : ∃ cs, cs = slCells s.sl := ⟨_, rfl⟩
          rw [← hcs] at hrs
          have hcl : cs.length = 256 := by rw [hcs, slCells_len]
          have HSZ := Lib.hid (show (Tryz.prog.info? 108).map (·.size) = some cs.length from by rw [hcs]; exact size56 _)
          have HCS := Lib.hid hcs
          have HRS := Lib.hid hrs
          have HSV := Lib.hid hsv
          have HC1 : Hid (sv.cells = #[sv]) := Lib.hid (by obtain ⟨_, _, rfl, _⟩ := hsv; rfl)
          have qc2 : (wr.alloc (.cells (sv :: cs).toArray 110)).cell? ⟨ab, q, none⟩ = some (.pointer none) := old_cell _ qc
          have qf2 : (wr.alloc (.cells (sv :: cs).toArray 110)).frozen? ⟨ab, q, none⟩ = false := by obtain ⟨arr, ho⟩ := HI.out.tabAt.arr; exact frozen_of (old_heap _ _ _ _ ho) _
          clear hcs hrs hrng hsv qf
          go_wp2_with fail
          refine (HI3.out _).mono ?_
          rintro e w2 ⟨rfl, rfl⟩
          go_wp2_with fail
          refine wp_load_mid _ _ rfl kb 1 rfl cs _ HRS.out Tryz.underlying108 rfl HSZ.out ?_
          go_upto_region 20 with (refine wpList_build_state rfl _ _ rfl sv cs rfl rfl HC1.out hcl ?_)
          obtain ⟨w3, hw3⟩ : ∃ w3, w3 = (w2.alloc (.cells (sv :: cs).toArray 110)).setCell ⟨ab, q, none⟩ (.pointer (some ⟨w2.heap.size, 0, none⟩)) := ⟨_, rfl⟩
          have HP := Lib.hid (put_new HI.out hqn HTQ.out HSV.out HCS.out hw3 HMU.out hs21 hkb)
          rw [← hw3]
          clear hw3 qc qc2 qf2 k0 hcl
          obtain ⟨i3, hi3, hz0, hz1, hz2⟩ := info_parts infoInt
          have HZ := Lib.hid (And.intro hi3 (And.intro hz0 (And.intro hz1 hz2)))
          clear hi3 hz0 hz1 hz2
          have HPL : Hid (pl.length + 1 ≤ 5000000) := Lib.hid (by
            have h5 : pot (upd tb q s) n + (pl ++ [q]).length ≤ 5000000 := HMU.out
            simp only [List.length_append, List.length_cons, List.length_nil] at h5
            omega)
          have HBW : Hid (base ≤ w3.heap.size) := Lib.hid (by
            obtain ⟨_, _, q⟩ := HP.out.stAt.ofTy
            have := lt_of_block q
            omega)
          go_wp2_with (refine wpList_append_own _ rfl _ _ _ rfl base 3 i3 (.int .i64 0) 1 8 Tryz.underlying111 HZ.out.1 HZ.out.2.1 HZ.out.2.2.1 HZ.out.2.2.2 rfl (Nat.zero_lt_succ 0) u6 pl.length (pileV pl) rfl (HP.out.pileAt.later (fun b hb => Below.heap_alloc _ _ _ hb)).1 ⟨w3.heap.size, 0, none⟩ 1 1 [.int .i64 (q : Int)] rfl rfl (cell_one_new _ _ _) (by intro u hu; simp at hu; subst hu; rfl) (by have := HPL.out; unfold maxLen; omega) (by have := HPL.out; omega) (by have := HBW.out; rw [size_alloc]; omega) ?_; intro v6 w6 hown hgrow _hnil; have HOW := Lib.hid hown; have HGR := Lib.hid hgrow; clear hown hgrow _hnil)
          go_roundg gk
          case measure => omega
          case rel => exact ⟨i + 1, _, pl ++ [q], _, by omega, by go_num, HP.out.push HOW.out HGR.out HMU.out hkb, HF.out⟩
        | some old =>
          rw [htq, ptrOf_some] at qc
          obtain ⟨hk0, hk1, hko⟩ := HI.out.tabAt.st q old hqn htq
          obtain ⟨so, capo, hc1⟩ := hko.len
          obtain ⟨ss, caps, hc2⟩ := HI.out.stAt.len
          have htysO := (show TysAt wr (.slice so old.st.length capo) old.st from by
            obtain ⟨sv, hc, hs⟩ := hko.top
            rw [hc1] at hc
            injection hc with hc
            rw [hc]; exact hs.tys)
          have htysS := (show TysAt wr (.slice ss s.st.length caps) s.st from by
            obtain ⟨sv, hc, hs⟩ := HI.out.stAt.top
            rw [hc2] at hc
            injection hc with hc
            rw [hc]; exact hs.tys)
          by_cases hst : old.st = s.st
          · have hst0 : stepTo n s (q : Int) (tb, pl) = some (upd tb q ⟨old.st, mergeS old.sl s.sl⟩, if changed old.sl s.sl then pl ++ [q] else pl) := by simp [stepTo, hin, htq, hst]
            have hr := HR2.out
            rw [hst0] at hr
            have HF := Lib.hid hr
            have HMU := Lib.hid (Nat.le_trans (mu_stepTo hst0) HI.out.muLe)
            have HTQ := Lib.hid htq
            have EQ := Lib.hid (fun m => (show Calls Tryz.prog 59 #[.slice so old.st.length capo, .slice ss s.st.length caps] (wr.drewN m) fun e w' => e = .returned (.bool true) ∧ ∃ j, w' = wr.drewN j from by
              have he : decide (old.st = s.st) = true := by simp [hst]
              rw [← he]
              refine (eq_any _ _ _ _ (wr.drewN m) htysO htysS).mono ?_
              rintro e w' ⟨rfl, j, rfl⟩
              exact ⟨rfl, _, drew_drew _ _ _⟩))
            have HKO := Lib.hid hko
            clear hr hst0 HR2 hin htq hst htysO htysS hko
            go_wp2_with fail
            refine (HI3.out _).mono ?_
            rintro e w2 ⟨rfl, rfl⟩
            go_wp2_with fail
            go_big_quiet (first | (go_at_call 59; exact EQ.out _))
            have HI4 := Lib.hid (HI.out.drewN nq)
            have HKO4 := Lib.hid (HKO.out.drewN nq)
            clear EQ hc1 hc2 qc qf q0
            generalize w2.drewN nq = w4 at *
            obtain ⟨co, hco⟩ : ∃ co, co = slCells old.sl := ⟨_, rfl⟩
            obtain ⟨cs, hcs⟩ : ∃ cs, cs = slCells s.sl := ⟨_, rfl⟩
            have HCO := Lib.hid hco
            have HCS := Lib.hid hcs
            have hcol : co.length = 256 := by rw [hco, slCells_len]
            have HSO := Lib.hid (show (Tryz.prog.info? 108).map (·.size) = some co.length from by rw [hco]; exact size56 _)
            have HSS := Lib.hid (show (Tryz.prog.info? 108).map (·.size) = some cs.length from by rw [hcs]; exact size56 _)
            have HRO := Lib.hid (show w4.rangeAt (kz q) 1 co from by rw [hco]; exact HKO4.out.slots)
            have HRS := Lib.hid (show (w4.alloc (.cells co.toArray 108)).rangeAt kb 1 cs from by rw [hcs]; exact World.rangeAt_alloc HI4.out.stAt.slots _)
            have hsc := run_storeCells_new (P := Tryz.prog) w4 108 z56 co.toArray (by rw [HSO.out]; simp) (by simp [z56, slCells_len, hcol]) (all_oneCell_toArray (by rw [hco]; exact slCells_one _))
            rw [show co.toArray.toList = co by simp] at hsc
            have hz56 := zero56
            clear hco hcs
            go_wp2_with fail
            refine wp_load_mid _ _ rfl (kz q) 1 rfl co _ HRO.out Tryz.underlying108 rfl HSO.out ?_
            go_wp2_with fail
            have HKO5 := Lib.hid (HKO4.out.later (w' := w4.alloc (.cells co.toArray 108)) (fun b hb => Below.heap_alloc _ _ _ hb))
            refine wp_load_mid _ _ rfl kb 1 rfl cs _ HRS.out Tryz.underlying108 rfl HSS.out ?_
            go_upto_block 4 with fail
            have hcs := HCS.out
            subst hcs
            refine slots_wp (by kernel_rfl) (kz q) old.st old.sl s.sl HKO5.out ?_
            intro u13 u14 u122 u123 u124 u125 u126 u127 u128 u129 u130 u131 u132 u133 u134 u135 u136 u137 u138 u139 w5 hon5 hst5
            clear hsc hz56 hcol
            have hnb : w4.heap.size ≠ kz q := by
              obtain ⟨_, _, q⟩ := HKO4.out.ofTy
              have := lt_of_block q
              omega
            obtain ⟨cm, hcm⟩ : ∃ cm, cm = slCells (mergeS old.sl s.sl) := ⟨_, rfl⟩
            have r1 : w5.rangeAt w4.heap.size 0 co := fun j v hv => by
              have h1 := new_cell w4 co.toArray 108 _ j v rfl (by simpa using hv)
              rw [Nat.zero_add]
              exact (hon5.cells.1 _ _ hnb (by rw [size_alloc]; omega)).trans h1
            have r2 : w5.rangeAt (kz q) 1 cm := by rw [hcm]; exact hst5.slots
            have HSM := Lib.hid (show (Tryz.prog.info? 108).map (·.size) = some cm.length from by rw [hcm]; exact size56 _)
            have l3 : ∀ W, (binOp .neq 108 (.agg co.toArray) (.agg cm.toArray)).run Tryz.prog W = .ok (.bool (changed old.sl s.sl)) W := fun W => by rw [hcm, HCO.out]; exact neq_slots _ _ W
            have HON5 := Lib.hid hon5
            have HST5 := Lib.hid hst5
            have HR1 := Lib.hid r1
            have HR2 := Lib.hid r2
            clear hon5 hst5 r1 r2 hcm
            go_wp2_with fail
            refine wp_region_split (S := (fun w' => w'.rangeAt w4.heap.size 0 co ∧ w'.rangeAt (kz q) 1 cm)) 5 (by kernel_rfl) (by kernel_rfl) (by exact ⟨HR1.out, HR2.out⟩) (fun hHeld => ?_)
            simp only [List.take_succ_cons, List.take_zero, List.drop_succ_cons, List.drop_zero]
            refine wpAnyH_take (i := 0) rfl (by kernel_rfl) (by kernel_rfl) (by kernel_rfl) (fun c a w h => HQP.out c a _ _ w h) (yieldsIf_load_mid rfl 108 _ rfl w4.heap.size 0 rfl co _ (fun _ hw => hw.1) Tryz.underlying108 rfl HSO.out) (by assumption) ?_
            try simp only [Act.put, List.setIfInBounds_toArray, List.set_cons_zero, List.set_cons_succ, List.getElem_toArray, List.getElem_cons_zero]
            refine wpAnyH_take (i := 1) (v := ?_) rfl (by kernel_rfl) (by kernel_rfl) (by kernel_rfl) (fun c a w h => HQP.out c a _ _ w h) (Or.inl ⟨by rfl, ?_⟩) (by assumption) ?_
            rotate_left 1
            · (intro w hSw; (try dsimp only at hSw); go_simp; try with_reducible rfl)
            try simp only [Act.put, List.setIfInBounds_toArray, List.set_cons_zero, List.set_cons_succ, List.getElem_toArray, List.getElem_cons_zero, List.getElem_cons_succ]
            refine wpAnyH_take (i := 2) (v := ?_) rfl (by kernel_rfl) (by kernel_rfl) (by kernel_rfl) (fun c a w h => HQP.out c a _ _ w h) (Or.inl ⟨by rfl, ?_⟩) (by assumption) ?_
            rotate_left 1
            · (intro w hSw; (try dsimp only at hSw); go_simp; try with_reducible rfl)
            try simp only [Act.put, List.setIfInBounds_toArray, List.set_cons_zero, List.set_cons_succ, List.getElem_toArray, List.getElem_cons_zero, List.getElem_cons_succ]
            refine wpAnyH_take (i := 3) (v := ?_) rfl (by kernel_rfl) (by kernel_rfl) (by kernel_rfl) (fun c a w h => HQP.out c a _ _ w h) (Or.inl ⟨by rfl, ?_⟩) (by assumption) ?_
            rotate_left 1
            · (intro w hSw; (try dsimp only at hSw); go_simp; try with_reducible rfl)
            try simp only [Act.put, List.setIfInBounds_toArray, List.set_cons_zero, List.set_cons_succ, List.getElem_toArray, List.getElem_cons_zero, List.getElem_cons_succ]
            refine wpAnyH_take (i := 4) rfl (by kernel_rfl) (by kernel_rfl) (by kernel_rfl) (fun c a w h => HQP.out c a _ _ w h) (yieldsIf_load_mid rfl 108 _ rfl (kz q) 1 rfl cm _ (fun _ hw => hw.2) Tryz.underlying108 rfl HSM.out) (by assumption) ?_
            try simp only [Act.put, List.setIfInBounds_toArray, List.set_cons_zero, List.set_cons_succ, List.getElem_toArray, List.getElem_cons_zero, List.getElem_cons_succ]
            refine wpAnyH_done (by kernel_rfl) ?_ _
            change wpList _ _ _ _ _ _
            generalize changed old.sl s.sl = ch at *
            have HA := Lib.hid (HI4.out.alloc (.cells co.toArray 108) hkb)
            cases ch
            · have HP := Lib.hid ((HA.out.turned hqn HTQ.out HON5.out HST5.out hk1 (by simpa using HMU.out)).drewN 1)
              go_wp2_with fail
              go_roundg gk
              case measure => omega
              case rel => exact ⟨i + 1, _, pl, _, by omega, by go_num, HP.out, HF.out⟩
            · have HP := Lib.hid ((HA.out.turned hqn HTQ.out HON5.out HST5.out hk1 (by
                have h4 : mu n (upd tb q ⟨old.st, mergeS old.sl s.sl⟩, pl ++ [q]) ≤ 5000000 := by simpa using HMU.out
                have h5 : pot (upd tb q ⟨old.st, mergeS old.sl s.sl⟩) n + (pl ++ [q]).length ≤ 5000000 := h4
                show pot (upd tb q ⟨old.st, mergeS old.sl s.sl⟩) n + pl.length ≤ 5000000
                simp only [List.length_append, List.length_cons, List.length_nil] at h5
                omega)).drewN 1)
              obtain ⟨w6, hw6⟩ : ∃ w6, w6 = w5.drew := ⟨_, rfl⟩
              rw [← hw6]
              have hd6 : w5.drewN 1 = w6 := hw6.symm
              rw [hd6] at HP
              clear hw6 hd6
              obtain ⟨i3, hi3, hz0, hz1, hz2⟩ := info_parts infoInt
              have HZ := Lib.hid (And.intro hi3 (And.intro hz0 (And.intro hz1 hz2)))
              clear hi3 hz0 hz1 hz2
              have HPL : Hid (pl.length + 1 ≤ 5000000) := Lib.hid (by
                have h4 : mu n (upd tb q ⟨old.st, mergeS old.sl s.sl⟩, pl ++ [q]) ≤ 5000000 := by simpa using HMU.out
                have h5 : pot (upd tb q ⟨old.st, mergeS old.sl s.sl⟩) n + (pl ++ [q]).length ≤ 5000000 := h4
                simp only [List.length_append, List.length_cons, List.length_nil] at h5
                omega)
              have HBW : Hid (base ≤ w6.heap.size) := Lib.hid (by
                obtain ⟨_, _, q⟩ := HP.out.stAt.ofTy
                have := lt_of_block q
                omega)
              go_wp2_with (refine wpList_append_own _ rfl _ _ _ rfl base 3 i3 (.int .i64 0) 1 8 Tryz.underlying111 HZ.out.1 HZ.out.2.1 HZ.out.2.2.1 HZ.out.2.2.2 rfl (Nat.zero_lt_succ 0) u6 pl.length (pileV pl) rfl (HP.out.pileAt.later (fun b hb => Below.heap_alloc _ _ _ hb)).1 ⟨w6.heap.size, 0, none⟩ 1 1 [.int .i64 (q : Int)] rfl rfl (cell_one_new _ _ _) (by intro u hu; simp at hu; subst hu; rfl) (by have := HPL.out; unfold maxLen; omega) (by have := HPL.out; omega) (by have := HBW.out; rw [size_alloc]; omega) ?_; intro v6 w7 hown hgrow _hnil; have HOW := Lib.hid hown; have HGR := Lib.hid hgrow; clear hown hgrow _hnil)
              go_roundg gk
              case measure => omega
              case rel => exact ⟨i + 1, _, pl ++ [q], _, by omega, by go_num, HP.out.push HOW.out HGR.out (by simpa using HMU.out) hkb, HF.out⟩
          · have hst0 : stepTo n s (q : Int) (tb, pl) = none := by simp [stepTo, hin, htq, hst]
            have hr := HR2.out
            rw [hst0] at hr
            have HF := Lib.hid hr.symm
            have EQ := Lib.hid (fun m => (show Calls Tryz.prog 59 #[.slice so old.st.length capo, .slice ss s.st.length caps] (wr.drewN m) fun e w' => e = .returned (.bool false) ∧ ∃ j, w' = wr.drewN j from by
              have he : decide (old.st = s.st) = false := by simp [hst]
              rw [← he]
              refine (eq_any _ _ _ _ (wr.drewN m) htysO htysS).mono ?_
              rintro e w' ⟨rfl, j, rfl⟩
              exact ⟨rfl, _, drew_drew _ _ _⟩))
            clear hr hst0 HR2 hin htq hst htysO htysS hko
            go_wp2_with fail
            refine (HI3.out _).mono ?_
            rintro e w2 ⟨rfl, rfl⟩
            go_wp2_with fail
            go_big_quiet (first | (go_at_call 59; exact EQ.out _))
            go_wp2_with fail
            exact H2.out HF.out _ _ _ _ _ _ _ _ _ _ _ _ _ _ _ _ _ _ _ _ _ _ _ _ _ _ _ _ _ _ _ _ _ _ _ _ _ _ _ _ _ _ _ _ _ _ _ _ _ _ _ _ _ _ _ _ _ _ _ _ _ _ _ _ _ _ _ _ _ _ _ _ _ _ _ _ _ _ (HI.out.drewN _).below
end Go.Proofs.YtmdceokmpjcllaaGreatDoor
