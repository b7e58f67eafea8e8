/-
  What the methods of the machine do to it: use, enter, leave.
-/
import Derived.Test.YtmdceokmpjcllaaGreatDoorVmF
namespace Go.Proofs.YtmdceokmpjcllaaGreatDoor
open Go.RowKit
attribute [local go_sem ↓] Go.wp_at_zero Go.wp_at_succ

theorem MacAt.fz {base X : Nat} {w : World} {s : Mac} (h : MacAt base w X s) (j : Nat) : w.frozen? ⟨X, j, none⟩ = false := by
  obtain ⟨a, h⟩ := h.obj
  exact frozen_of h j

set_option maxRecDepth 100000 in
set_option maxHeartbeats 4000000 in
theorem muse (base X : Nat) (s : Mac) (n : Int) (w : World) (h : MacAt base w X s) (hL : i64 s.L) (hU : i64 s.U) (hn : i64 n) :
    Calls Tryz.prog 61 #[.pointer (some ⟨X, 0, none⟩), .int .i64 n] w fun e w' => e = .returned (.int .i64 (if useB s.L s.U n then 0 else 1)) ∧ MacAt base w' X { s with U := useU s.L s.U n } ∧ Below base w w' := by
  have HUSE := Lib.hid (use_any s.L s.U n w hL hU hn)
  have HF := Lib.hid (fun w1 (hb : Below w.heap.size w w1) => And.intro ((h.later hb).setL.setU (useU s.L s.U n)) (((hb.mono (Nat.le_of_lt (Nat.lt_of_le_of_lt h.low h.lt))).setCell (p := ⟨X, 3, none⟩) h.low (.int .i64 s.L)).setCell (p := ⟨X, 4, none⟩) h.low (.int .i64 (useU s.L s.U n))))
  have HX := Lib.hid h
  have q3 := h.c3
  have q4 := h.c4
  have fz3 := h.fz 3
  have fz4 := h.fz 4
  clear h
  generalize useU s.L s.U n = U' at *
  generalize useB s.L s.U n = B' at *
  generalize s.L = L at *
  generalize s.U = U at *
  go_enter Tryz.func61, Tryz.ntmps61
  go_wp2_with fail
  refine HUSE.out.mono ?_
  rintro e w1 ⟨rfl, hb1⟩
  have HB1 := Lib.hid hb1
  have h1 := HX.out.later hb1
  have r3 := h1.c3
  have r4 := h1.c4
  have rz3 := h1.fz 3
  have rz4 := h1.fz 4
  clear h1 q3 q4 fz3 fz4 hb1
  cases B'
  all_goals
    go_wp2_with fail
    go_ret
    exact ⟨rfl, HF.out w1 HB1.out⟩

theorem infoFp : ∃ i, Tryz.prog.info? 93 = some i ∧ i.zero = some (.pointer none) ∧ i.size = 1 ∧ i.bytes = 8 := by
  have h : (Tryz.prog.info? 93).map (fun i => (i.zero, i.size, i.bytes)) = some (some (.pointer none), 1, 8) := by kernel_rfl
  obtain ⟨i, h1, h2⟩ := Option.map_eq_some_iff.1 h
  simp only [Prod.mk.injEq] at h2
  exact ⟨i, h1, h2.1, h2.2.1, h2.2.2⟩
theorem own_slice {w : World} {base e size n : Nat} {v : Value} {xs : List Value} (h : w.ownsRow base e size v n xs) : ∃ p cap, v = .slice p n cap := by
  rcases h.2 with ⟨rfl, rfl⟩ | ⟨g, cap, _, rfl, _⟩
  · exact ⟨none, 0, rfl⟩
  · exact ⟨_, cap, rfl⟩

set_option maxRecDepth 100000 in
set_option maxHeartbeats 4000000 in
theorem menter_no (base X : Nat) (s : Mac) (at' : Int) (args : Value) (w : World) (h : MacAt base w X s) (hl : s.frs.length = 16) :
    Calls Tryz.prog 28 #[.pointer (some ⟨X, 0, none⟩), .int .i64 at', args] w fun e w' => e = .returned (.int .i64 4) ∧ w = w' := by
  obtain ⟨p, cap, hv⟩ := own_slice h.own
  have q6 := h.c6
  rw [hv, hl] at q6
  clear h hv
  go_enter Tryz.func28, Tryz.ntmps28
  go_wp2_with fail
  go_ret
  exact ⟨rfl, rfl⟩

theorem mkV (w : World) : (Instr.makeSlice 46 (.int .i64 0) (.int .i64 0)).run Tryz.prog w = .ok (.slice (some ⟨w.heap.size, 0, none⟩) 0 0) (w.alloc (.cells #[] 35)) := by kernel_rfl
theorem cpV (a : Addr) (W : World) : (Builtin.copy_ #[46, 46] 3 #[.slice (some a) 0 0, .slice none 0 0]).run Tryz.prog W = .ok (.int .i64 0) W := by kernel_rfl
theorem own_later {w w' : World} {base e size n : Nat} {v : Value} {xs : List Value} (h : w.ownsRow base e size v n xs) (hb : Below w.heap.size w w') : w'.ownsRow base e size v n xs := own_same h fun k hk => hb.block k (h.lt k hk).2
theorem fr_new {W : World} {fb : Nat} {c0 c1 c2 c3 c4 slots : Value} (h : W.heap[fb]? = some (.cells #[c0, c1, c2, c3, c4, .int .i64 0, slots, .slice none 0 0] 95 (0, 0))) : FrAt W ⟨fb, c0, c1, c2, c3, c4, 0, slots, .slice none 0 0, []⟩ :=
  ⟨⟨_, h⟩, cell_of' h 0 rfl, cell_of' h 1 rfl, cell_of' h 2 rfl, cell_of' h 3 rfl, cell_of' h 4 rfl, cell_of' h 5 rfl, cell_of' h 6 rfl, cell_of' h 7 rfl, ⟨rfl, .inl ⟨rfl, rfl⟩⟩, by simp⟩
theorem FrAt.later {w w' : World} {f : Fr} (h : FrAt w f) (hb : Below w.heap.size w w') : FrAt w' f := h.keep fun k hk => hb.block k (h.mine_lt hk).2
/-- X's block, where a list of another block grew -/
theorem MacAt.ne_own {base X : Nat} {w : World} {s : Mac} (h : MacAt base w X s) : some X ≠ s.fv.ownBlock := fun e => (own_ty h.own e.symm).ne h.ty (by decide) rfl
theorem enter_fin {base X g cp : Nat} {w w4 w9 : World} {s : Mac} {f : Fr} (h : MacAt base w X s) (hb : Below w.heap.size w w4) (hf : FrAt w4 f) (hst : f.stack = .slice none 0 0) (hlo : w.heap.size ≤ f.blk)
    (hown : w9.ownsRow base 93 1 (.slice (some ⟨g, 0, none⟩) (s.frs.length + 1) cp) (s.frs.length + 1) (frsV s.frs ++ [.pointer (some ⟨f.blk, 0, none⟩)])) (hgr : w4.grownBy w9 s.fv.ownBlock) :
    MacAt base (w9.setCell ⟨X, 6, none⟩ (.slice (some ⟨g, 0, none⟩) (s.frs.length + 1) cp)) X { s with fv := .slice (some ⟨g, 0, none⟩) (s.frs.length + 1) cp, frs := f :: s.frs } ∧ Below base w (w9.setCell ⟨X, 6, none⟩ (.slice (some ⟨g, 0, none⟩) (s.frs.length + 1) cp)) := by
  have h4 := h.later hb
  have hX : w9.heap[X]? = w4.heap[X]? := hgr.block X h4.lt h.ne_own
  have hc : ∀ j, w9.cell? ⟨X, j, none⟩ = w4.cell? ⟨X, j, none⟩ := fun j => World.cell?_of_block (w := w4) hX
  obtain ⟨a, ho⟩ := h4.obj
  have hty : OfTy w9 X 76 := ⟨a, _, hX.trans ho⟩
  have hfb : ∀ k, k < w4.heap.size → (OfTy w4 k 95 ∨ OfTy w4 k 35) → (w9.setCell ⟨X, 6, none⟩ (.slice (some ⟨g, 0, none⟩) (s.frs.length + 1) cp)).heap[k]? = w4.heap[k]? := fun k hk ht => by
    have e1 : k ≠ X := by rcases ht with q | q <;> exact q.ne h4.ty (by decide)
    have e2 : some k ≠ s.fv.ownBlock := fun e => by rcases ht with q | q <;> exact (own_ty h4.own e.symm).ne q (by decide) rfl
    exact (setCell_heap w9 _ _ k e1).trans (hgr.block k hk e2)
  refine ⟨⟨h.low, obj_setC ⟨a, hX.trans ho⟩, ?_, ?_, ?_, ?_, ?_, ?_, cell_set_eq _ ((hc 6).trans h4.c6), ?_, ?_, ?_, ?_, ?_, ?_⟩, ?_⟩
  iterate 9 (rw [cell_set_ne _ _ (.inr (by omega)), hc]; first | exact h4.c0 | exact h4.c1 | exact h4.c2 | exact h4.c3 | exact h4.c4 | exact h4.c5 | exact h4.c7 | exact h4.c8 | exact h4.c9)
  · have : frsV (f :: s.frs) = frsV s.frs ++ [.pointer (some ⟨f.blk, 0, none⟩)] := by simp [frsV]
    rw [this]
    exact own_same hown fun k hk => setCell_heap w9 _ _ k ((own_ty hown hk).ne hty (by decide))
  · refine ⟨hf.keep fun k hk => hfb k (hf.mine_lt hk).2 (hf.mine_ty hk), fun k hk => ?_, ?_⟩
    · have := (hf.mine_lt hk).2
      rw [setCell_size]
      exact Nat.lt_of_lt_of_le this hgr.size
    · exact (h.frs.keep (w' := w9.setCell ⟨X, 6, none⟩ (.slice (some ⟨g, 0, none⟩) (s.frs.length + 1) cp)) fun k hk ht => (hfb k (Nat.lt_of_lt_of_le hk hb.size) (ht.imp (fun ⟨a, fz, q⟩ => ⟨a, fz, (hb.block k (lt_of_block q)).trans q⟩) (fun ⟨a, fz, q⟩ => ⟨a, fz, (hb.block k (lt_of_block q)).trans q⟩))).trans (hb.block k hk)).mono hlo
  · intro f' hf'
    rcases List.mem_cons.1 hf' with rfl | q
    · exact Nat.le_trans (Nat.le_of_lt (Nat.lt_of_le_of_lt h.low h.lt)) hlo
    · exact h.frlow f' q
  · have hbl : base ≤ w.heap.size := Nat.le_of_lt (Nat.lt_of_le_of_lt h.low h.lt)
    have q : Below base w w9 := (hb.mono hbl).trans ⟨hgr.os, hgr.tape, hgr.output, hgr.size, fun k hk => hgr.block k (by have := hb.size; omega) (fun e => by have := (h.own.lt k e.symm).1; omega)⟩
    exact q.setCell (p := ⟨X, 6, none⟩) h.low _
/-- a function's five cells, with no slots: at an offset of a block -/
structure CdAt (w : World) (gb o : Nat) (nm : ByteArray) (p1 : Option Addr) (n1 k1 : Nat) (r : Int) (p4 : Option Addr) (n4 k4 : Nat) : Prop where
  c0 : w.cell? ⟨gb, o, none⟩ = some (.string nm)
  c1 : w.cell? ⟨gb, o + 1, none⟩ = some (.slice p1 n1 k1)
  c2 : w.cell? ⟨gb, o + 2, none⟩ = some (.int .i64 r)
  c3 : w.cell? ⟨gb, o + 3, none⟩ = some (.int .i64 0)
  c4 : w.cell? ⟨gb, o + 4, none⟩ = some (.slice p4 n4 k4)
/-- the frame of such a function -/
structure Begun (f : Fr) (nm : ByteArray) (p1 : Option Addr) (n1 k1 : Nat) (r : Int) (p4 : Option Addr) (n4 k4 : Nat) : Prop where
  c0 : f.c0 = .string nm
  c1 : f.c1 = .slice p1 n1 k1
  c2 : f.c2 = .int .i64 r
  c4 : f.c4 = .slice p4 n4 k4
  pc : f.pc = 0
  stack : f.stack = .slice none 0 0
  st : f.st = []

set_option maxRecDepth 100000 in
set_option maxHeartbeats 4000000 in
theorem menter (base X gb go n cap at' : Nat) (s : Mac) (nm : ByteArray) (p1 : Option Addr) (n1 k1 : Nat) (r : Int) (p4 : Option Addr) (n4 k4 : Nat) (w : World) (h : MacAt base w X s) (hl : s.frs.length < 16) (hm : s.m0 = .slice (some ⟨gb, go, none⟩) n cap) (hat : at' < n)
    (hc : CdAt w gb (go + at' * 5) nm p1 n1 k1 r p4 n4 k4) :
    Calls Tryz.prog 28 #[.pointer (some ⟨X, 0, none⟩), .int .i64 at', .slice none 0 0] w fun e w' => e = .returned (.int .i64 0) ∧ ∃ f v, MacAt base w' X { s with fv := v, frs := f :: s.frs } ∧ Below base w w' ∧ Begun f nm p1 n1 k1 r p4 n4 k4 := by
  obtain ⟨p, fcap, hv⟩ := own_slice h.own
  have q6 := h.c6
  rw [hv] at q6
  have q0 := h.c0
  rw [hm] at q0
  have fz6 := h.fz 6
  have HF := Lib.hid h
  have g1 : ¬ (s.frs.length : Int) = 16 := by omega
  have g2 := h.lt
  obtain ⟨d0, d1, d2, d3, d4⟩ := hc
  have hmk := mkV
  have hcp := cpV
  obtain ⟨i0, hi0, hz0, hz1, hz2⟩ := infoFp
  have HI := Lib.hid hi0
  clear h hm
  generalize hL : s.frs.length = L at *
  have HL := Lib.hid hL
  have HV := Lib.hid hv
  clear hL hv
  go_enter Tryz.func28, Tryz.ntmps28
  go_wp2_with fail
  go_region
  have hb3 := up_drew (up_alloc (up_alloc (up_alloc (Below.refl w.heap.size w) (.cells #[.string nm, .slice p1 n1 k1, .int .i64 r, .int .i64 0, .slice p4 n4 k4] 30)) (.cells #[] 35)) (.cells #[.string nm, .slice p1 n1 k1, .int .i64 r, .int .i64 0, .slice p4 n4 k4, .int .i64 0, .slice (some ⟨w.heap.size + 1, 0, none⟩) 0 0, .slice none 0 0] 95))
  have hfr : (((w.alloc (.cells #[.string nm, .slice p1 n1 k1, .int .i64 r, .int .i64 0, .slice p4 n4 k4] 30)).alloc (.cells #[] 35)).alloc (.cells #[.string nm, .slice p1 n1 k1, .int .i64 r, .int .i64 0, .slice p4 n4 k4, .int .i64 0, .slice (some ⟨w.heap.size + 1, 0, none⟩) 0 0, .slice none 0 0] 95)).drew.heap[w.heap.size + 1 + 1]? = _ := new_heap _ _ _ (by simp only [size_alloc])
  generalize (((w.alloc (.cells #[.string nm, .slice p1 n1 k1, .int .i64 r, .int .i64 0, .slice p4 n4 k4] 30)).alloc (.cells #[] 35)).alloc (.cells #[.string nm, .slice p1 n1 k1, .int .i64 r, .int .i64 0, .slice p4 n4 k4, .int .i64 0, .slice (some ⟨w.heap.size + 1, 0, none⟩) 0 0, .slice none 0 0] 95)).drew = w4 at *
  have h4 := HF.out.later hb3
  have r6 := h4.c6
  rw [HV.out] at r6
  have rz6 := h4.fz 6
  have e6 := cell_of' hfr 6 (u := .slice (some ⟨w.heap.size + 1, 0, none⟩) 0 0) rfl
  have HFR := Lib.hid (fr_new hfr)
  have l4 := lt_of_block hfr
  have HB3 := Lib.hid hb3
  have H4 := Lib.hid h4
  clear hfr hb3 h4 q6 q0 fz6 d0 d1 d2 d3 d4
  have g3 := HF.out.lt
  generalize hfb : w.heap.size + 1 + 1 = fb at *
  have HNE : Hid (some X ≠ (Value.slice p L fcap).ownBlock) := Lib.hid (by have := H4.out.ne_own; rwa [HV.out] at this)
  obtain ⟨aX, hoX⟩ := H4.out.obj
  have HA6 : Hid (aX[6]? = some (.slice p L fcap)) := Lib.hid (by have := r6; unfold World.cell? at this; simpa [hoX] using this)
  have HOX := Lib.hid hoX
  have HLT := Lib.hid H4.out.lt
  clear hoX
  have HLO : Hid (w.heap.size ≤ fb) := Lib.hid (by omega)
  go_wp2_with (refine wpList_append_lies _ rfl _ _ _ rfl base 93 i0 _ 1 8 Tryz.underlying74 HI.out hz0 hz1 hz2 rfl (by decide) (.slice p L fcap) L (frsV s.frs) rfl (by have := own_later H4.out.own (up_alloc (Below.refl w4.heap.size w4) (.cells #[.pointer (some ⟨fb, 0, none⟩)] 93)); rw [HV.out, HL.out] at this; exact this) ⟨w4.heap.size, 0, none⟩ 1 1 [.pointer (some ⟨fb, 0, none⟩)] rfl rfl (by intro j u hj; rw [Go.WideShapes.add_plain, Nat.zero_add]; exact new_cell _ _ _ _ _ _ rfl (by simpa using hj)) (by intro u hu; simp at hu; subst hu; rfl) (by decide) (by unfold maxLen; omega) (by omega) (by rw [size_alloc]; have := H4.out.low; have := H4.out.lt; omega) _ rfl ?_; intro g cp w9 hown9 hgrow9 hgl9 hlt9; have HO9 := Lib.hid hown9; have HG9 := Lib.hid hgrow9; have zX := (hgrow9.block X (by rw [size_alloc]; exact Nat.lt_succ_of_lt HLT.out) HNE.out).trans (old_heap _ _ _ _ HOX.out); have x6 := cell_of' zX 6 HA6.out; have y6 := frozen_of zX 6; clear hown9 hgrow9 hgl9 zX)
  go_ret
  have e := enter_fin (f := ⟨fb, .string nm, .slice p1 n1 k1, .int .i64 r, .int .i64 0, .slice p4 n4 k4, 0, .slice (some ⟨w.heap.size + 1, 0, none⟩) 0 0, .slice none 0 0, []⟩) HF.out (up_alloc HB3.out _) (HFR.out.later (up_alloc (Below.refl _ _) _)) rfl HLO.out (by rw [HL.out]; exact HO9.out) (by rw [HV.out]; exact HG9.out)
  rw [HL.out] at e
  exact ⟨rfl, _, _, e.1, e.2, ⟨rfl, rfl, rfl, rfl, rfl, rfl, rfl⟩⟩
end Go.Proofs.YtmdceokmpjcllaaGreatDoor
