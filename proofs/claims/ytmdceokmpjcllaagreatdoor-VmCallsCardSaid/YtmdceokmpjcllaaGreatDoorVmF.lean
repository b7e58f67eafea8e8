/-
  What the methods of a frame do to it: push, pop.
-/
import Derived.Test.YtmdceokmpjcllaaGreatDoorVmM
import Derived.Test.YtmdceokmpjcllaaGreatDoorVmA
namespace Go.Proofs.YtmdceokmpjcllaaGreatDoor
open Go.RowKit
attribute [local go_sem ↓] Go.wp_at_zero Go.wp_at_succ

theorem infoVal : ∃ i, Tryz.prog.info? 35 = some i ∧ i.zero = some (.agg #[.int .i64 0, .int .i64 0, .slice none 0 0]) ∧ i.size = 3 ∧ i.bytes = 40 := by
  have h : (Tryz.prog.info? 35).map (fun i => (i.zero, i.size, i.bytes)) = some (some (.agg #[.int .i64 0, .int .i64 0, .slice none 0 0]), 3, 40) := by kernel_rfl
  obtain ⟨i, h1, h2⟩ := Option.map_eq_some_iff.1 h
  simp only [Prod.mk.injEq] at h2
  exact ⟨i, h1, h2.1, h2.2.1, h2.2.2⟩
theorem news3 {W : World} {g : Nat} {a b c : Value} {t : TypeId} {fz : Nat × Nat} (h : W.heap[g]? = some (.cells #[a, b, c] t fz)) : ∀ j u, [a, b, c][j]? = some u → W.cell? ((⟨g, 0, none⟩ : Addr).add j) = some u := by
  intro j u hj
  rw [Go.WideShapes.add_plain]
  unfold World.cell?
  simp only [h]
  simpa using hj

theorem one_all {l : List Vl} (h : ∀ v ∈ l, v.One) : ∀ u ∈ vlsV l, u.oneCell' = true := by
  induction l with
  | nil => intro u hu; simp [vlsV] at hu
  | cons v l ih =>
    intro u hu
    have hv := h v (by simp)
    simp only [vlsV, List.mem_cons] at hu
    rcases hu with rfl | rfl | rfl | hu
    · exact hv.1
    · exact hv.2.1
    · exact hv.2.2
    · exact ih (fun v hm => h v (by simp [hm])) u hu
theorem cell_alloc_old {w : World} {o : Obj} {a : Addr} {u : Value} (h : w.cell? a = some u) : (w.alloc o).cell? a = some u := by
  rw [World.cell?_alloc_old _ _ _ (fun e => World.new_ne w _ h e.symm)]
  exact h

/-- what a method of a frame comes to -/
def FrGoes (f f' : Fr) (w w' : World) : Prop := FrAt w' f' ∧ OnS f.Mine w w' ∧ ∀ k, f'.Mine k → f.Mine k ∨ w.heap.size ≤ k

theorem push_fin {w w9 : World} {b g cp : Nat} {c0 c1 c2 c3 c4 slots sv a0 a1 a2 : Value} {pc : Int} {st : List Vl} {o1 o2 : Obj} (h : FrAt w ⟨b, c0, c1, c2, c3, c4, pc, slots, sv, st⟩)
    (ho : w9.ownsRow b 35 3 (.slice (some ⟨g, 0, none⟩) (st.length + 1) cp) (st.length + 1) (vlsV st ++ [a0, a1, a2]))
    (hg : World.grownBy ((w.alloc o1).alloc o2) w9 sv.ownBlock) (hgl : sv.ownBlock = some g ∨ g = ((w.alloc o1).alloc o2).heap.size) (h1 : Vl.One ⟨a0, a1, a2⟩) :
    FrGoes ⟨b, c0, c1, c2, c3, c4, pc, slots, sv, st⟩ ⟨b, c0, c1, c2, c3, c4, pc, slots, .slice (some ⟨g, 0, none⟩) (st.length + 1) cp, st ++ [⟨a0, a1, a2⟩]⟩ w (w9.setCell ⟨b, 7, none⟩ (.slice (some ⟨g, 0, none⟩) (st.length + 1) cp)) := by
  have hlt : b < w.heap.size := h.lt
  have hb2 : Below w.heap.size w ((w.alloc o1).alloc o2) := up_alloc (up_alloc (Below.refl _ _) _) _
  have hon : OnS (fun k => k = b ∨ sv.ownBlock = some k) w w9 := (OnS.of_below hb2).trans (OnS.of_grown hg fun k hk => .inr hk)
  have hne : sv.ownBlock ≠ some b := fun e => (own_ty h.own e).ne h.ty (by decide) rfl
  have hh9 : w9.heap[b]? = w.heap[b]? := (hg.block b (by simp only [size_alloc] <;> omega) (fun e => hne e.symm)).trans (by rw [Below.heap_alloc _ _ _ (by simp only [size_alloc] <;> omega), Below.heap_alloc _ _ _ hlt])
  have hc : ∀ j, w9.cell? ⟨b, j, none⟩ = w.cell? ⟨b, j, none⟩ := fun j => World.cell?_of_block (w := w) hh9
  obtain ⟨arr, hob⟩ := h.obj
  refine ⟨?_, hon.set (.inl rfl) 7 _, fun k hk => ?_⟩
  · have ho' : w9.ownsRow b 35 3 (.slice (some ⟨g, 0, none⟩) (st.length + 1) cp) (st ++ [(⟨a0, a1, a2⟩ : Vl)]).length (vlsV (st ++ [⟨a0, a1, a2⟩])) := by
      rw [vlsV_app, List.length_append]
      exact ho
    have hty : OfTy w9 b 95 := ⟨arr, _, hh9.trans hob⟩
    refine ⟨obj_setC ⟨arr, hh9.trans hob⟩, ?_, ?_, ?_, ?_, ?_, ?_, ?_, cell_set_eq _ ((hc 7).trans h.stack), own_same ho' fun k hk => setCell_heap w9 _ _ k ((own_ty ho' hk).ne hty (by decide)), fun v hv => (List.mem_append.1 hv).elim (fun q => h.one v q) (fun q => by rw [List.mem_singleton.1 q]; exact h1)⟩ <;> (dsimp only; rw [cell_set_ne _ _ (.inr (by omega)), hc]; first | exact h.c0 | exact h.c1 | exact h.c2 | exact h.c3 | exact h.c4 | exact h.pc | exact h.slots)
  · rcases hk with hk | hk
    · exact .inl (.inl hk)
    · have e : g = k := by injection hk
      subst e
      rcases hgl with q | q
      · exact .inl (.inr q)
      · exact .inr (by simp only [size_alloc] at q; omega)

set_option maxRecDepth 100000 in
set_option maxHeartbeats 4000000 in
theorem vpush (f : Fr) (v : Vl) (w : World) (h : FrAt w f) (hv : v.One) (hn : f.st.length < 1000000) :
    Calls Tryz.prog 62 #[.pointer (some ⟨f.blk, 0, none⟩), .agg #[v.a, v.b, v.c]] w fun e w' => e = .returned (.tuple #[]) ∧ ∃ sv, FrGoes f { f with stack := sv, st := f.st ++ [v] } w w' := by
  obtain ⟨b, c0, c1, c2, c3, c4, pc, slots, sv, st⟩ := f
  obtain ⟨a0, a1, a2⟩ := v
  obtain ⟨i0, hi0, hz0, hz1, hz2⟩ := infoVal
  have HI := Lib.hid hi0
  have HF := Lib.hid h
  have HV := Lib.hid hv
  have HNN := Lib.hid hn
  have q7 := h.stack
  have hob := h.obj
  have hlt := h.lt
  dsimp only at q7 hob hlt
  obtain ⟨arr, hob⟩ := hob
  have fz := frozen_of hob 7
  have HOB := Lib.hid hob
  have HNB : Hid (some b ≠ sv.ownBlock) := Lib.hid fun e => (own_ty h.own e.symm).ne h.ty (by decide) rfl
  have HA7 : Hid (arr[7]? = some sv) := Lib.hid (by have := q7; unfold World.cell? at this; simpa [hob] using this)
  clear h hv hi0 hn hob
  go_enter Tryz.func62, Tryz.ntmps62
  go_wp2_with fail
  have n0 := new_cell w #[a0, a1, a2] 35 _ 0 a0 rfl rfl
  have n1 := new_cell w #[a0, a1, a2] 35 _ 1 a1 rfl rfl
  have n2 := new_cell w #[a0, a1, a2] 35 _ 2 a2 rfl rfl
  have q7' := old_cell (.cells #[a0, a1, a2] 35) q7
  have HN3 := Lib.hid (new_heap (w.alloc (.cells #[a0, a1, a2] 35)) (.cells #[a0, a1, a2] 35) (w.heap.size + 1) (size_alloc _ _))
  go_region_law (refine step_append_lies _ rfl _ _ _ rfl b 35 i0 _ 3 40 Tryz.underlying46 HI.out hz0 hz1 hz2 rfl (by decide) sv st.length (vlsV st) rfl (((HF.out.own).alloc _).alloc _) ⟨w.heap.size + 1, 0, none⟩ 1 1 [a0, a1, a2] rfl rfl (news3 HN3.out) (by intro u hu; simp at hu; rcases hu with rfl | rfl | rfl <;> first | exact HV.out.1 | exact HV.out.2.1 | exact HV.out.2.2) (by decide) (by have := HNN.out; unfold maxLen; omega) (by have := HNN.out; omega) (Nat.le_of_lt (Nat.lt_of_lt_of_le hlt (by show _ ≤ ((w.alloc _).alloc _).heap.size; simp only [size_alloc] <;> omega))) _ rfl ?_; intro g cp w9 hown9 hgrow9 hgl9 hlt9; have hgr9 : World.grownBy ((w.alloc (.cells #[a0, a1, a2] 35)).alloc (.cells #[a0, a1, a2] 35)) w9 sv.ownBlock := ⟨hgrow9.os, hgrow9.tape, hgrow9.output, hgrow9.size, hgrow9.block⟩; have z7 : w9.heap[b]? = some (Obj.cells arr 95 (0, 0)) := (hgr9.block b (Nat.lt_of_lt_of_le hlt (by simp only [size_alloc] <;> omega)) HNB.out).trans (old_heap _ _ _ _ (old_heap _ _ _ _ HOB.out)); have x7 := cell_of' z7 7 HA7.out; have y7 := frozen_of z7 7; have HG9 := Lib.hid hgr9; have HO9 := Lib.hid hown9; have HGL9 := Lib.hid hgl9; have HZ9 := Lib.hid z7; clear hgrow9 hgr9 hown9 hgl9 z7)
  all_goals
    go_end0
    refine ⟨rfl, .slice (some ⟨g, 0, none⟩) (st.length + 1) cp, ?_⟩
    exact push_fin HF.out HO9.out HG9.out HGL9.out HV.out

theorem own_void {W : World} {b g : Nat} {e : TypeId} {sz : Nat} (h : W.heap[g]? = some (.cells #[] e (0, 0))) (hb : b ≤ g) : W.ownsRow b e sz (.slice (some ⟨g, 0, none⟩) 0 0) 0 [] :=
  ⟨by simp, .inr ⟨g, 0, #[], rfl, hb, h, Nat.le_refl _, by unfold maxLen; omega, by simp, by simp⟩⟩

theorem eq_nil (a : Addr) (n c : Nat) (w : World) : (binOp .eql 46 (.slice (some a) n c) (.slice none 0 0)).run Tryz.prog w = .ok (.bool false) w := by kernel_rfl

set_option maxRecDepth 100000 in
set_option maxHeartbeats 4000000 in
theorem vclone (l : List Vl) (b off cap : Nat) (w : World) (hl : 0 < l.length) (hl2 : l.length < 1000000) (hc : ∀ j u, (vlsV l)[j]? = some u → w.cell? ((⟨b, off, none⟩ : Addr).add j) = some u) (h1 : ∀ v ∈ l, v.One) :
    Calls Tryz.prog 94 #[.slice (some ⟨b, off, none⟩) l.length cap] w fun e w' => ∃ v, e = .returned v ∧ w'.ownsRow w.heap.size 35 3 v l.length (vlsV l) ∧ Below w.heap.size w w' := by
  obtain ⟨i0, hi0, hz0, hz1, hz2⟩ := infoVal
  have HI := Lib.hid hi0
  have HC := Lib.hid hc
  have HL2 := Lib.hid hl2
  have H1 : Hid (∀ u ∈ vlsV l, u.oneCell' = true) := Lib.hid (one_all h1)
  clear hc h1 hi0 hl2
  generalize hn : l.length = n at *
  have HNL := Lib.hid hn
  have hen := eq_nil
  clear hn
  go_enter Tryz.func94, Tryz.ntmps94
  go_wp2_with (refine wpList_append_lies _ rfl _ _ _ rfl w.heap.size 35 i0 _ 3 40 Tryz.underlying46 HI.out hz0 hz1 hz2 rfl (by decide) (.slice (some ⟨w.heap.size, 0, none⟩) 0 0) 0 [] rfl (own_void (new_heap _ _ _ rfl) (Nat.le_refl _)) ⟨b, off, none⟩ n cap (vlsV l) rfl (by rw [vlsV_len, HNL.out]) (fun j u hj => cell_alloc_old (HC.out j u hj)) H1.out hl (by have := HL2.out; unfold maxLen; omega) (by have := HL2.out; omega) (by rw [size_alloc]; omega) _ rfl ?_; intro g cp w9 hown9 hgrow9 hgl9 hlt9; have HO9 := Lib.hid hown9; have HG9 := Lib.hid hgrow9; clear hown9 hgrow9 hgl9)
  go_ret
  refine ⟨_, rfl, by simpa using HO9.out, ?_⟩
  have hg := HG9.out
  refine ⟨hg.os, hg.tape, hg.output, Nat.le_trans (by rw [size_alloc]; omega) hg.size, fun k hk => (hg.block k (by rw [size_alloc]; omega) (fun e => by injection e with e; have e : k = w.heap.size := e; omega)).trans (Below.heap_alloc _ _ _ hk)⟩

theorem own_take {w : World} {b g cap : Nat} {e : TypeId} {st : List Vl} (h : w.ownsRow b e 3 (.slice (some ⟨g, 0, none⟩) st.length cap) st.length (vlsV st)) (R : Nat) (hR : R ≤ st.length) :
    w.ownsRow b e 3 (.slice (some ⟨g, 0, none⟩) R cap) (st.take R).length (vlsV (st.take R)) := by
  have hl : (st.take R).length = R := by rw [List.length_take]; omega
  rcases h.2 with ⟨q, _⟩ | ⟨g', cap', cur, q1, q2, q3, q4, q5, q6, q7⟩
  · cases q
  · injection q1 with a1 a2 a3
    injection a1 with a1
    injection a1 with a1
    subst a1 a3
    refine ⟨by rw [vlsV_len], .inr ⟨g, cap, cur, by rw [hl], q2, q3, by omega, q5, q6, ?_⟩⟩
    rw [hl, ← vlsV_take, ← q7, List.take_take, Nat.min_eq_left (by omega)]
theorem own_cells {w : World} {b g cap n : Nat} {e : TypeId} {st : List Vl} (h : w.ownsRow b e 3 (.slice (some ⟨g, 0, none⟩) n cap) n (vlsV st)) (R : Nat) : ∀ j u, (vlsV (st.drop R))[j]? = some u → w.cell? ((⟨g, R * 3, none⟩ : Addr).add j) = some u := by
  intro j u hj
  rw [← vlsV_drop, List.getElem?_drop] at hj
  have := h.cells (g := g) rfl _ _ hj
  rw [Go.WideShapes.add_plain] at this ⊢
  simpa using this
theorem pop_fin {w w9 : World} {b g R cap : Nat} {c0 c1 c2 c3 c4 slots : Value} {pc : Int} {st : List Vl} (h : FrAt w ⟨b, c0, c1, c2, c3, c4, pc, slots, .slice (some ⟨g, 0, none⟩) st.length cap, st⟩)
    (hb : Below w.heap.size w w9) (hR : R ≤ st.length) :
    FrGoes ⟨b, c0, c1, c2, c3, c4, pc, slots, .slice (some ⟨g, 0, none⟩) st.length cap, st⟩ ⟨b, c0, c1, c2, c3, c4, pc, slots, .slice (some ⟨g, 0, none⟩) R cap, st.take R⟩ w (w9.setCell ⟨b, 7, none⟩ (.slice (some ⟨g, 0, none⟩) R cap)) := by
  have h9 := h.keep fun k hk => hb.block k (h.mine_lt hk).2
  exact ⟨h9.setStack (own_take h9.own R hR) (fun v hv => h.one v (List.mem_of_mem_take hv)), (OnS.of_below hb).set (.inl rfl) 7 _, fun k hk => .inl hk⟩
theorem drop_take_len {n : Nat} {l : List Vl} (h : n ≤ l.length) : (l.drop (l.length - n)).length = n := by rw [List.length_drop]; omega

set_option maxRecDepth 100000 in
set_option maxHeartbeats 4000000 in
theorem vpop (f : Fr) (n : Nat) (w : World) (h : FrAt w f) (h0 : 0 < n) (hn : n ≤ f.st.length) (hl : f.st.length < 1000000) :
    Calls Tryz.prog 66 #[.pointer (some ⟨f.blk, 0, none⟩), .int .i64 n] w fun e w' => ∃ v, e = .returned v ∧ w'.ownsRow w.heap.size 35 3 v n (vlsV (f.st.drop (f.st.length - n))) ∧ ∃ sv, FrGoes f { f with stack := sv, st := f.st.take (f.st.length - n) } w w' := by
  obtain ⟨b, c0, c1, c2, c3, c4, pc, slots, sv, st⟩ := f
  dsimp only at hn hl ⊢
  obtain ⟨g, cap, hsv, hbg, hgl⟩ := h.own.form (by dsimp only; omega)
  dsimp only at hsv hbg
  subst hsv
  obtain ⟨i0, hi0, hz0, hz1, hz2⟩ := infoVal
  have HI := Lib.hid hi0
  have HF := Lib.hid h
  have q7 := h.stack
  have hob := h.obj
  have hlt := h.lt
  dsimp only at q7 hob hlt
  obtain ⟨arr, hob⟩ := hob
  have fz := frozen_of hob 7
  have HOB := Lib.hid hob
  have HA7 : Hid (arr[7]? = some (.slice (some ⟨g, 0, none⟩) st.length cap)) := Lib.hid (by have := q7; unfold World.cell? at this; simpa [hob] using this)
  have hcap : st.length ≤ cap ∧ cap ≤ maxLen := by
    rcases h.own.2 with ⟨q, _⟩ | ⟨g', cap', cur, q1, q2, q3, q4, q5, q6, q7⟩
    · cases q
    · injection q1 with _ _ a3
      subst a3
      exact ⟨q4, q5⟩
  have g1 : IntKind.i64.wrap ((st.length : Int) - (n : Int)) = ((st.length - n : Nat) : Int) := by rw [IntWalk.i64_in _ (by omega)]; omega
  have HCL := Lib.hid (fun W (hW : Below w.heap.size w W) => vclone (st.drop (st.length - n)) g ((st.length - n) * 3) (cap - (st.length - n)) W (by rw [drop_take_len hn]; exact h0) (by rw [drop_take_len hn]; omega) (own_cells (own_same h.own fun k hk => hW.block k (h.own.lt k hk).2) (st.length - n)) (fun v hv => h.one v (List.mem_of_mem_drop hv)))
  have HFIN := Lib.hid (fun w9 (hb : Below w.heap.size w w9) => pop_fin (R := st.length - n) h hb (by omega))
  rw [drop_take_len hn] at HCL
  unfold maxLen at hcap
  have hlen : st.length - (st.length - n) = n := by omega
  have hne : cap ≠ st.length - n := by omega
  have hlt2 : st.length - n ≤ st.length := by omega
  generalize hR : st.length - n = R at *
  generalize hD : st.drop R = D at *
  generalize hT : st.take R = T at *
  generalize hS : st.length = S at *
  clear h hi0 hob hR hD hT hS hn hl
  go_enter Tryz.func66, Tryz.ntmps66
  go_wp2_with fail
  go_at_call 94
  refine (HCL.out _ (Below.refl _ _)).mono ?_
  rintro e w9 ⟨v, rfl, ho9, hb9⟩
  have z9 := (hb9.block b hlt).trans HOB.out
  have x7 := cell_of' z9 7 HA7.out
  have y7 := frozen_of z9 7
  have HO9 := Lib.hid ho9
  have HB9 := Lib.hid hb9
  clear ho9 hb9 z9 q7 fz
  go_wp2_with fail
  go_ret
  refine ⟨_, rfl, own_same HO9.out fun k hk => setCell_heap w9 _ _ k ?_, _, HFIN.out w9 HB9.out⟩
  have := (HO9.out.lt k hk).1
  exact fun e => by
    have e : k = b := e
    omega
end Go.Proofs.YtmdceokmpjcllaaGreatDoor
