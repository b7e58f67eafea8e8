/-
  Compile: part 23 of its proof: see the last text.
-/
import Derived.Test.YtjblihabklemfaaGreatDoorPm22
import Derived.StillTailTactics
import Derived.Deep.RegionLawGrows
import Derived.Shelf.SlMaps.Clone
import Derived.Deep.LoopGhost
set_option maxRecDepth 100000
set_option maxHeartbeats 16000000
namespace Go.Proofs.YtjblihabklemfaaGreatDoor
section
open Go.RowKit
theorem rO : ∃ i, Tryz.prog.info? 38 = some i ∧ i.zero = some (.agg #[.int .i64 0, .int .i64 0]) ∧ i.size = 2 ∧ i.bytes = 16 := by
 have h : (Tryz.prog.info? 38).map (fun i => (i.zero, i.size, i.bytes)) = some (some (.agg #[.int .i64 0, .int .i64 0]), 2, 16) := by kernel_rfl
 obtain ⟨i, h1, h2⟩ := Option.map_eq_some_iff.1 h
 simp only [Prod.mk.injEq] at h2
 exact ⟨i, h1, h2.1, h2.2.1, h2.2.2⟩
theorem tc {W : World} {g : Nat} {a b : Value} {t : TypeId} {fz : Nat × Nat} (h : W.heap[g]? = some (.cells #[a, b] t fz)) : ∀ j u, [a, b][j]? = some u → W.cell? ((⟨g, 0, none⟩ : Addr).add j) = some u := fun j u hj => by
 rw [Go.WideShapes.add_plain, Nat.zero_add]
 exact aa h (by simpa using hj)
def Led (w : World) (cl : Value) (MB : Nat) (at' : Nat) : Prop :=
 ∃ b1 b2, cl = .func (.func 29) #[] #[.pointer (some ⟨b1, 0, none⟩), .pointer (some ⟨b2, 0, none⟩)] ∧ w.heap[b1]? = some (.cells #[.pointer (some ⟨MB, 0, none⟩)] 71 (0, 0)) ∧ w.heap[b2]? = some (.cells #[.int .i64 (at' : Int)] 3 (0, 0))
theorem Led.fx {B M NB MB at' : Nat} {w w' : World} {cl : Value} (h : Led w cl MB at') (hf : Fx B M NB w w') (hn : ∀ t, ¬ OfTy w NB t) : Led w' cl MB at' := by
 obtain ⟨b1, b2, h1, h2, h3⟩ := h
 exact ⟨b1, b2, h1, hf.obj h2 (fun e => hn _ ⟨_, _, e ▸ h2⟩) (by decide) (by decide) (by decide) (by decide), hf.obj h3 (fun e => hn _ ⟨_, _, e ▸ h3⟩) (by decide) (by decide) (by decide) (by decide)⟩
def nr (B M MB TB NB : Nat) (fv : Value) (s : CS) (op a : Int) (w : World) (e : Ending) (w' : World) : Prop :=
 ∃ cl, e = .returned cl ∧ Led w' cl MB s.ins.length ∧ MkAt B M w' MB TB NB fv (aq op a s) ∧ Fx B M NB w w'
theorem MkAt.ins {B M MB TB NB : Nat} {w w9 : World} {fv iv iv9 : Value} {s : CS} (h : MkAt B M w MB TB NB fv s) (hm : w.heap[MB]? = some (.cells #[.pointer (some ⟨TB, 0, none⟩), fv, iv, .int .i64 s.slots] 73 (0, 0))) (hf : OnS (fun k => iv.ownBlock = some k ∧ OfTy w k 38 ∧ M ≤ k) w w9) (l : List Ins) (ho : w9.ownsRow M 38 2 iv9 l.length (dU l)) :
    MkAt B M (w9.setCell ⟨MB, 2, none⟩ iv9) MB TB NB fv ⟨l, s.slots, s.texts⟩ ∧ Fx B M NB w (w9.setCell ⟨MB, 2, none⟩ iv9) := by
 have hfx : Fx B M NB w w9 := hf.mono fun k hk => ⟨Nat.le_trans h.mm hk.2.2, .inr (.inr (.inr (.inl ⟨hk.2.1, hk.2.2⟩)))⟩
 have hmt : OfTy w MB 73 := ⟨_, _, hm⟩
 have hm9 : w9.heap[MB]? = some (.cells #[.pointer (some ⟨TB, 0, none⟩), fv, iv, .int .i64 s.slots] 73 (0, 0)) := hf.obj (fun q => hmt.ne q.2.1 (by decide) rfl) hm
 obtain ⟨tv, vs, h3, h4, h5⟩ := h.t
 have htt : OfTy w TB 70 := ⟨_, _, h3⟩
 have ht9 := hf.obj (fun q => htt.ne q.2.1 (by decide) rfl) h3
 have hTM : TB ≠ MB := htt.ne hmt (by decide)
 have hNM : NB ≠ MB := fun e => h.n.noTy _ (e ▸ hmt)
 have hn9 : MapAt w9 NB (fL 0 s.texts) := h.n.keep (hf.block _ h.n.lt (fun q => h.n.noTy _ q.2.1))
 have h4' : w9.ownsRow B 22 1 tv s.texts.length vs := ba h4 fun k hk => hf.block k (aZ h4 hk).lt (fun q => (aZ h4 hk).ne q.2.1 (by decide) rfl)
 have hset : Turns B M NB w9 MB := ⟨h.bm, .inr (.inl ⟨_, _, hm9⟩)⟩
 refine ⟨⟨h.bm, h.mm, h.ml, h.bt, h.bn, ⟨iv9, ai hm9 2 _, ba ho fun k hk => af _ _ _ _ ((aZ ho hk).ne ⟨_, _, hm9⟩ (by decide))⟩, ⟨tv, vs, (af _ _ _ _ hTM).trans ht9, ba h4' fun k hk => af _ _ _ _ ((aZ h4' hk).ne ⟨_, _, hm9⟩ (by decide)), fun i hi => ?_⟩, hn9.keep (af _ _ _ _ hNM)⟩, hfx.set hset 2 _⟩
 obtain ⟨v, q1, q2⟩ := h5 i hi
 exact ⟨v, q1, q2.fx (hfx.set hset 2 _) h.n.noTy⟩
theorem qD {B M MB TB NB g cp cv : Nat} {sv : Option Addr} {fv : Value} {s : CS} {op a : Int} {w w1 w9 : World} (h : MkAt B M w MB TB NB fv s) (hb : Below w.heap.size w w1)
    (c1 : w1.heap[w.heap.size]? = some (.cells #[.pointer (some ⟨MB, 0, none⟩)] 71 (0, 0))) (c2 : w1.heap[w.heap.size + 1]? = some (.cells #[.int .i64 (s.ins.length : Int)] 3 (0, 0)))
    (hm : w1.heap[MB]? = some (.cells #[.pointer (some ⟨TB, 0, none⟩), fv, .slice sv s.ins.length cv, .int .i64 s.slots] 73 (0, 0))) (ho1 : w1.ownsRow M 38 2 (.slice sv s.ins.length cv) s.ins.length (dU s.ins))
    (ho : w9.ownsRow M 38 2 (.slice (some ⟨g, 0, none⟩) (s.ins.length + 1) cp) (s.ins.length + 1) (dU s.ins ++ [.int .i64 op, .int .i64 a])) (hg : World.grownBy (w1.alloc (.cells #[.int .i64 op, .int .i64 a] 38)) w9 (Value.slice sv s.ins.length cv).ownBlock) :
    nr B M MB TB NB fv s op a w (.returned (.func (.func 29) #[] #[.pointer (some ⟨w.heap.size, 0, none⟩), .pointer (some ⟨w.heap.size + 1, 0, none⟩)])) (w9.setCell ⟨MB, 2, none⟩ (.slice (some ⟨g, 0, none⟩) (s.ins.length + 1) cp)) := by
 have hon : OnS (fun k => (Value.slice sv s.ins.length cv).ownBlock = some k ∧ OfTy w1 k 38 ∧ M ≤ k) w1 w9 := (OnS.of_below (ae (Below.refl _ _) _)).trans (OnS.of_grown hg fun k hk => ⟨hk, aZ ho1 hk, (aH ho1 hk).1⟩)
 have h1 := h.below hb
 obtain ⟨q1, q2⟩ := MkAt.ins h1 hm hon (s.ins ++ [⟨op, a⟩]) (by rw [oh, List.length_append]; exact ho)
 exact ⟨_, rfl, Led.fx ⟨_, _, rfl, c1, c2⟩ q2 h1.n.noTy, q1, (Fx.of_below hb).trans q2⟩
theorem aP (B M MB TB NB : Nat) (fv : Value) (s : CS) (op a : Int) (w : World) (h : MkAt B M w MB TB NB fv s) (hn : s.ins.length ≤ 1000000) :
    Calls Tryz.prog 19 #[.pointer (some ⟨MB, 0, none⟩), .int .i64 op, .int .i64 a] w (nr B M MB TB NB fv s op a w) := by
 obtain ⟨iv, hm, ho⟩ := h.m
 obtain ⟨i0, hi0, hz0, hz1, hz2⟩ := rO
 obtain ⟨sv, cv, hiv, _, hcv, _, _⟩ := aY ho
 subst hiv
 have HI := zh hi0
 have HM := zh hm
 have HO := zh ho
 have HW := zh h
 have HN := zh hn
 have m2 : w.cell? ⟨MB, 2, none⟩ = some (.slice sv s.ins.length cv) := aa hm (j := 2) rfl
 have f2 : w.frozen? ⟨MB, 2, none⟩ = false := ab hm 2
 have hlt := ad hm
 have HNB : Hid (some MB ≠ (Value.slice sv s.ins.length cv).ownBlock) := zh fun e => (aZ ho e.symm).ne (⟨_, _, hm⟩ : OfTy w MB 73) (by decide) rfl
 clear h ho hm hi0 hn
 go_enter Tryz.func19, Tryz.ntmps19
 go_wp2_with fail
 have HB1 : Hid (Below w.heap.size w ((w.alloc (.cells #[.pointer (some ⟨MB, 0, none⟩)] 71)).alloc (.cells #[.int .i64 (s.ins.length : Int)] 3))) := zh (ae (ae (Below.refl _ _) _) _)
 have HC1 : Hid (((w.alloc (.cells #[.pointer (some ⟨MB, 0, none⟩)] 71)).alloc (.cells #[.int .i64 (s.ins.length : Int)] 3)).heap[w.heap.size]? = some (.cells #[.pointer (some ⟨MB, 0, none⟩)] 71 (0, 0))) := zh (au _ _ _ _ (ah _ _ _ rfl))
 have HC2 : Hid (((w.alloc (.cells #[.pointer (some ⟨MB, 0, none⟩)] 71)).alloc (.cells #[.int .i64 (s.ins.length : Int)] 3)).heap[w.heap.size + 1]? = some (.cells #[.int .i64 (s.ins.length : Int)] 3 (0, 0))) := zh (ah _ _ _ (ag _ _))
 generalize ((w.alloc (.cells #[.pointer (some ⟨MB, 0, none⟩)] 71)).alloc (.cells #[.int .i64 (s.ins.length : Int)] 3)) = w1 at *
 clear m2 f2
 have HW1 := zh (HW.out.below HB1.out)
 have HM1 : Hid (w1.heap[MB]? = some (.cells #[.pointer (some ⟨TB, 0, none⟩), fv, .slice sv s.ins.length cv, .int .i64 s.slots] 73 (0, 0))) := zh ((HB1.out.block _ hlt).trans HM.out)
 have HO1 := zh (bO HO.out (Stays.of_below HB1.out))
 have m2 : w1.cell? ⟨MB, 2, none⟩ = some (.slice sv s.ins.length cv) := aa HM1.out (j := 2) rfl
 have f2 : w1.frozen? ⟨MB, 2, none⟩ = false := ab HM1.out 2
 have c0 : w1.cell? ⟨w.heap.size, 0, none⟩ = some (.pointer (some ⟨MB, 0, none⟩)) := aa HC1.out (j := 0) rfl
 have hlt1 := ad HM1.out
 have HN3 := zh (ah w1 (.cells #[.int .i64 op, .int .i64 a] 38) w1.heap.size rfl)
 have hbl : w.heap.size < w1.heap.size := ad HC1.out
 have HNB2 : Hid (some w.heap.size ≠ (Value.slice sv s.ins.length cv).ownBlock) := zh fun e => (aZ HO1.out e.symm).ne (⟨_, _, HC1.out⟩ : OfTy w1 w.heap.size 71) (by decide) rfl
 have hBle : M ≤ w1.heap.size := Nat.le_trans HW.out.ml (Nat.le_of_lt hlt1)
 go_region_law (refine step_append_lies _ rfl _ _ _ rfl M 38 i0 _ 2 16 Tryz.underlying33 HI.out hz0 hz1 hz2 rfl (by decide) (.slice sv s.ins.length cv) s.ins.length (dU s.ins) rfl (HO1.out.alloc _) ⟨w1.heap.size, 0, none⟩ 1 1 [.int .i64 op, .int .i64 a] rfl rfl (tc HN3.out) (by intro u hu; simp at hu; rcases hu with rfl | rfl <;> rfl) (by decide) (by have := HN.out; unfold maxLen; omega) (by have := HN.out; omega) (Nat.le_trans hBle (by show _ ≤ (w1.alloc _).heap.size; simp only [ag]; omega)) _ rfl ?_; intro g cp w9 hown9 hgrow9 hgl9 hlt9; have hgr9 : World.grownBy (w1.alloc (.cells #[.int .i64 op, .int .i64 a] 38)) w9 (Value.slice sv s.ins.length cv).ownBlock := ⟨hgrow9.os, hgrow9.tape, hgrow9.output, hgrow9.size, hgrow9.block⟩; have z2 : w9.heap[MB]? = some (.cells #[.pointer (some ⟨TB, 0, none⟩), fv, .slice sv s.ins.length cv, .int .i64 s.slots] 73 (0, 0)) := (hgr9.block MB (Nat.lt_of_lt_of_le hlt1 (by simp only [ag]; omega)) HNB.out).trans (au _ _ _ _ HM1.out); have x2 := aa z2 (j := 2) rfl; have x0 : w9.cell? ⟨w.heap.size, 0, none⟩ = some (.pointer (some ⟨MB, 0, none⟩)) := aa ((hgr9.block w.heap.size (Nat.lt_of_lt_of_le hbl (by simp only [ag]; omega)) HNB2.out).trans (au _ _ _ _ HC1.out)) (j := 0) rfl; have y2 := ab z2 2; have HG9 := zh hgr9; have HO9 := zh hown9; have HGL9 := zh hgl9; have HZ9 := zh z2; clear hgrow9 hgr9 hown9 hgl9 z2)
 all_goals
  go_wp2_with fail
  go_ret
  exact qD HW.out HB1.out HC1.out HC2.out HM1.out HO1.out HO9.out HG9.out
theorem js (B M MB TB NB : Nat) (fv : Value) (s : CS) (w : World) (h : MkAt B M w MB TB NB fv s) (hn : s.ins.length ≤ 1000000) :
    Calls Tryz.prog 56 #[.pointer (some ⟨MB, 0, none⟩)] w fun e w' => e = .returned (.tuple #[]) ∧ MkAt B M w' MB TB NB fv (aq 1 1 s) ∧ Fx B M NB w w' := by
 have HA := zh (aP B M MB TB NB fv s 1 1 w h hn)
 clear h hn
 go_enter Tryz.func56, Tryz.ntmps56
 go_wp2_with fail
 refine HA.out.mono ?_
 rintro e w2 ⟨cl, rfl, _, hm, hf⟩
 have HH := zh (And.intro hm hf)
 clear hm hf
 go_wp2_with fail
 go_end0
 exact ⟨rfl, HH.out⟩
theorem MkAt.setSlots {B M MB TB NB : Nat} {w : World} {fv : Value} {s : CS} (h : MkAt B M w MB TB NB fv s) (n : Int) : MkAt B M (w.setCell ⟨MB, 3, none⟩ (.int .i64 n)) MB TB NB fv ⟨s.ins, n, s.texts⟩ ∧ Fx B M NB w (w.setCell ⟨MB, 3, none⟩ (.int .i64 n)) := by
 obtain ⟨iv, hm, ho⟩ := h.m
 obtain ⟨tv, vs, h3, h4, h5⟩ := h.t
 have hmt : OfTy w MB 73 := ⟨_, _, hm⟩
 have htt : OfTy w TB 70 := ⟨_, _, h3⟩
 have hfx : Fx B M NB w (w.setCell ⟨MB, 3, none⟩ (.int .i64 n)) := (Fx.refl B M NB w).set h.mTurns 3 _
 refine ⟨⟨h.bm, h.mm, h.ml, h.bt, h.bn, ⟨iv, ai hm 3 _, ba ho fun k hk => af _ _ _ _ ((aZ ho hk).ne hmt (by decide))⟩, ⟨tv, vs, (af _ _ _ _ (htt.ne hmt (by decide))).trans h3, ba h4 fun k hk => af _ _ _ _ ((aZ h4 hk).ne hmt (by decide)), fun i hi => ?_⟩, h.n.keep (af _ _ _ _ (fun e => by have e' : NB = MB := e; exact h.n.noTy _ (e' ▸ hmt)))⟩, hfx⟩
 obtain ⟨v, q1, q2⟩ := h5 i hi
 exact ⟨v, q1, q2.fx hfx h.n.noTy⟩
theorem gV (B M MB TB NB : Nat) (fv : Value) (s : CS) (w : World) (h : MkAt B M w MB TB NB fv s) (h0 : 0 ≤ s.slots) (hn : s.slots ≤ 1000000) :
    Calls Tryz.prog 17 #[.pointer (some ⟨MB, 0, none⟩)] w fun e w' => e = .returned (.int .i64 s.slots) ∧ MkAt B M w' MB TB NB fv (bh s) ∧ Fx B M NB w w' := by
 have HS := zh (h.setSlots (s.slots + 1))
 obtain ⟨iv, hm, ho⟩ := h.m
 have m3 : w.cell? ⟨MB, 3, none⟩ = some (.int .i64 s.slots) := aa hm (j := 3) rfl
 have f3 : w.frozen? ⟨MB, 3, none⟩ = false := ab hm 3
 clear h hm ho
 go_enter Tryz.func17, Tryz.ntmps17
 go_wp2_with fail
 go_ret
 exact ⟨by go_num, HS.out⟩
theorem MkAt.led {B M MB TB NB g cp : Nat} {w : World} {fv : Value} {s : CS} {at' : Nat} (h : MkAt B M w MB TB NB fv s) (hm : w.heap[MB]? = some (.cells #[.pointer (some ⟨TB, 0, none⟩), fv, .slice (some ⟨g, 0, none⟩) s.ins.length cp, .int .i64 s.slots] 73 (0, 0))) (ho : w.ownsRow M 38 2 (.slice (some ⟨g, 0, none⟩) s.ins.length cp) s.ins.length (dU s.ins)) (ha : at' < s.ins.length) :
    MkAt B M (w.setCell ⟨g, at' * 2 + 1, none⟩ (.int .i64 (s.ins.length : Int))) MB TB NB fv (cQ at' s) ∧ Fx B M NB w (w.setCell ⟨g, at' * 2 + 1, none⟩ (.int .i64 (s.ins.length : Int))) := by
 obtain ⟨tv, vs, h3, h4, h5⟩ := h.t
 have hgt : OfTy w g 38 := aZ ho rfl
 have hgm := (aH ho rfl).1
 have hmt : OfTy w MB 73 := ⟨_, _, hm⟩
 have htt : OfTy w TB 70 := ⟨_, _, h3⟩
 have hfx : Fx B M NB w (w.setCell ⟨g, at' * 2 + 1, none⟩ (.int .i64 (s.ins.length : Int))) := (Fx.refl B M NB w).set ⟨Nat.le_trans h.mm hgm, .inr (.inr (.inr (.inl ⟨hgt, hgm⟩)))⟩ _ _
 have hp := gq ho (at' * 2 + 1) (.int .i64 (s.ins.length : Int))
 rw [lg _ _ _ ha] at hp
 refine ⟨⟨h.bm, h.mm, h.ml, h.bt, h.bn, ⟨.slice (some ⟨g, 0, none⟩) s.ins.length cp, (af _ _ _ _ (hmt.ne hgt (by decide))).trans ?_, ?_⟩, ⟨tv, vs, (af _ _ _ _ (htt.ne hgt (by decide))).trans h3, ba h4 fun k hk => af _ _ _ _ ((aZ h4 hk).ne hgt (by decide)), fun i hi => ?_⟩, h.n.keep (af _ _ _ _ (fun e => by have e' : NB = g := e; exact h.n.noTy _ (e' ▸ hgt)))⟩, hfx⟩
 ·exact hm
 ·show World.ownsRow _ _ _ _ _ (s.ins.set at' _).length _
  rw [List.length_set]
  exact hp
 ·obtain ⟨v, q1, q2⟩ := h5 i hi
  exact ⟨v, q1, q2.fx hfx h.n.noTy⟩
theorem eC (B M MB TB NB b1 b2 : Nat) (fv : Value) (s : CS) (at' : Nat) (w : World) (h : MkAt B M w MB TB NB fv s) (ha : at' < s.ins.length) (hn : s.ins.length ≤ 1000000)
    (h1 : w.heap[b1]? = some (.cells #[.pointer (some ⟨MB, 0, none⟩)] 71 (0, 0))) (h2 : w.heap[b2]? = some (.cells #[.int .i64 (at' : Int)] 3 (0, 0))) :
    Calls Tryz.prog 29 #[.pointer (some ⟨b1, 0, none⟩), .pointer (some ⟨b2, 0, none⟩)] w fun e w' => e = .returned (.tuple #[]) ∧ MkAt B M w' MB TB NB fv (cQ at' s) ∧ Fx B M NB w w' := by
 obtain ⟨iv, hm, ho⟩ := h.m
 obtain ⟨sv, cv, hiv, _, hcv, _, hpos⟩ := aY ho
 subst hiv
 obtain ⟨g, rfl, _, _, _⟩ := hpos (by omega)
 have HS := zh (h.led hm ho ha)
 have hof := eQ ho
 have c0 : w.cell? ⟨b1, 0, none⟩ = some (.pointer (some ⟨MB, 0, none⟩)) := aa h1 (j := 0) rfl
 have c1 : w.cell? ⟨b2, 0, none⟩ = some (.int .i64 (at' : Int)) := aa h2 (j := 0) rfl
 have m2 : w.cell? ⟨MB, 2, none⟩ = some (.slice (some ⟨g, 0, none⟩) s.ins.length cv) := aa hm (j := 2) rfl
 have e1 : w.cell? ⟨g, at' * 2 + 1, none⟩ = some (.int .i64 (s.ins.getD at' default).a) := hof.1 _ _ (i3 s.ins at' ha).2
 have f1 : w.frozen? ⟨g, at' * 2 + 1, none⟩ = false := hof.2 _
 have g1 : (at' : Int) < (s.ins.length : Int) := by omega
 have g0 : (0 : Int) ≤ (at' : Int) := by omega
 have hlen : s.ins.length ≤ 9223372036854775807 := by omega
 clear h hm ho hof h1 h2 hpos
 go_enter Tryz.func29, Tryz.ntmps29
 go_still_tail 12, (by kernel_rfl)
 go_wp2_with fail
 go_end0
 exact ⟨rfl, HS.out.1.below (av (Below.refl _ _)), HS.out.2.drew⟩
end
section
open Go.RowKit Go.MapKept
theorem eP : Tryz.prog.underlying 68 = some (.map 9 2) := by kernel_rfl
theorem go : Tryz.prog.underlying 9 = some .string := by kernel_rfl
theorem lE (w : World) : (zeroValue 2).run Tryz.prog w = .ok (.int .i64 0) w := by kernel_rfl
theorem rx : ∃ i, Tryz.prog.info? 22 = some i ∧ i.zero = some (.slice none 0 0) ∧ i.size = 1 ∧ i.bytes = 24 := by
 have h : (Tryz.prog.info? 22).map (fun i => (i.zero, i.size, i.bytes)) = some (some (.slice none 0 0), 1, 24) := by kernel_rfl
 obtain ⟨i, h1, h2⟩ := Option.map_eq_some_iff.1 h
 simp only [Prod.mk.injEq] at h2
 exact ⟨i, h1, h2.1, h2.2.1, h2.2.2⟩
theorem lq (w : World) (e : TypeId) (t : ByteArray) : Below w.heap.size w (Lib.bytesWorld w e t) :=
 ⟨by simp [Lib.bytesWorld, World.freeze]; rfl, by simp [Lib.bytesWorld, World.freeze], by simp [Lib.bytesWorld, World.freeze]; rfl, by rw [Lib.bytesWorld_size]; omega, fun i hi => Lib.bytesWorld_at_old w e t i hi⟩
theorem pT (B : Nat) (w : World) (t : ByteArray) (hB : B ≤ w.heap.size) : ByAt B (Lib.bytesWorld w 5 t) (.slice (some ⟨w.heap.size, 0, none⟩) t.size (grownCap w t.size 0 5)) t :=
 ⟨w.heap.size, _, rfl, ⟨grownCap_ge _ _ _ _, grownCap_le_maxLen _ _ _ _⟩, hB, ⟨_, _, Lib.bytesWorld_at_new w _ t⟩, fun i hi => Lib.bytesWorld_cell w _ t i hi⟩
theorem MkAt.text {B M MB TB NB g cp : Nat} {w w9 : World} {fv tv tx : Value} {vs : List Value} {s : CS} {t : ByteArray} (h : MkAt B M w MB TB NB fv s) (h3 : w.heap[TB]? = some (.cells #[tv, .map (some NB)] 70 (0, 0))) (h4 : w.ownsRow B 22 1 tv s.texts.length vs)
    (h5 : ∀ i, i < s.texts.length → ∃ v, vs[i]? = some v ∧ ByAt B w v (s.texts.getD i default)) (hm : jQ s.texts t = false)
    (hf : OnS (fun k => k = NB ∨ (tv.ownBlock = some k ∧ OfTy w k 22 ∧ B ≤ k)) w w9) (hn : MapAt w9 NB (fL 0 (s.texts ++ [t]))) (hx : ByAt B w9 tx t)
    (ho : w9.ownsRow B 22 1 (.slice (some ⟨g, 0, none⟩) (s.texts.length + 1) cp) (s.texts.length + 1) (vs ++ [tx])) :
    MkAt B M (w9.setCell ⟨TB, 0, none⟩ (.slice (some ⟨g, 0, none⟩) (s.texts.length + 1) cp)) MB TB NB fv (dg t s) ∧ Fx B M NB w (w9.setCell ⟨TB, 0, none⟩ (.slice (some ⟨g, 0, none⟩) (s.texts.length + 1) cp)) := by
 obtain ⟨iv, h1, h2⟩ := h.m
 have hfx : Fx B M NB w w9 := hf.mono fun k hk => hk.elim (fun e => ⟨by rw [e]; exact h.bn, .inl e⟩) (fun e => ⟨e.2.2, .inr (.inr (.inr (.inr e.2.1)))⟩)
 have hmt : OfTy w MB 73 := ⟨_, _, h1⟩
 have htt : OfTy w TB 70 := ⟨_, _, h3⟩
 have hno : ∀ {k : Nat} {ty : TypeId}, OfTy w k ty → ty ≠ 22 → ¬ (k = NB ∨ (tv.ownBlock = some k ∧ OfTy w k 22 ∧ B ≤ k)) := fun {k ty} ht hne q => q.elim (fun e => h.n.noTy _ (e ▸ ht)) (fun e => ht.ne e.2.1 hne rfl)
 have hm9 := hf.obj (hno hmt (by decide)) h1
 have ht9 := hf.obj (hno htt (by decide)) h3
 have hmt9 : OfTy w9 MB 73 := ⟨_, _, hm9⟩
 have htt9 : OfTy w9 TB 70 := ⟨_, _, ht9⟩
 have hset : Turns B M NB w9 TB := ⟨h.bt, .inr (.inr (.inl htt9))⟩
 have hnt : ∀ ty, ¬ OfTy w9 NB ty := hn.noTy
 have hfx2 := hfx.set hset 0 (.slice (some ⟨g, 0, none⟩) (s.texts.length + 1) cp)
 have hst : Fx B M NB w9 (w9.setCell ⟨TB, 0, none⟩ (.slice (some ⟨g, 0, none⟩) (s.texts.length + 1) cp)) := (Fx.refl B M NB w9).set hset 0 _
 have e : dg t s = ⟨s.ins, s.slots, s.texts ++ [t]⟩ := by unfold dg; rw [hm]; rfl
 have h2' : w9.ownsRow M 38 2 iv s.ins.length (dU s.ins) := ba h2 fun k hk => hf.block k (aZ h2 hk).lt (hno (aZ h2 hk) (by decide))
 rw [e]
 refine ⟨⟨h.bm, h.mm, h.ml, h.bt, h.bn, ⟨iv, (af _ _ _ _ (hmt9.ne htt9 (by decide))).trans hm9, ba h2' fun k hk => af _ _ _ _ ((aZ h2' hk).ne htt9 (by decide))⟩, ⟨_, vs ++ [tx], ai ht9 0 _, ?_, fun i hi => ?_⟩, hn.keep (af _ _ _ _ (fun e => by have e' : NB = TB := e; exact hnt _ (e' ▸ htt9)))⟩, hfx2⟩
 ·show World.ownsRow _ _ _ _ _ (s.texts ++ [t]).length _
  rw [List.length_append]
  exact ba ho fun k hk => af _ _ _ _ ((aZ ho hk).ne htt9 (by decide))
 ·have hvl : vs.length = s.texts.length := by have := h4.1; omega
  by_cases hil : i < s.texts.length
  ·obtain ⟨v, q1, q2⟩ := h5 i hil
   refine ⟨v, by rw [List.getElem?_append_left (by omega)]; exact q1, ?_⟩
   have eg : (s.texts ++ [t]).getD i default = s.texts.getD i default := fq _ _ _ hil
   show ByAt B _ v ((s.texts ++ [t]).getD i default)
   rw [eg]
   exact q2.fx hfx2 h.n.noTy
  ·have hi2 : i < s.texts.length + 1 := by simpa using hi
   obtain rfl : i = s.texts.length := by omega
   refine ⟨tx, by rw [List.getElem?_append_right (by omega), hvl, Nat.sub_self]; rfl, ?_⟩
   show ByAt B _ tx ((s.texts ++ [t]).getD s.texts.length default)
   rw [ff]
   exact hx.fx hst hnt
theorem pc {B e sz n : Nat} {w w9 : World} {v : Value} {xs : List Value} (hg : w.grownBy w9 v.ownBlock) (ho : w.ownsRow B e sz v n xs) {b : Nat} {t : TypeId} (ht : OfTy w b t) (hne : t ≠ e) : w9.heap[b]? = w.heap[b]? :=
 hg.block b ht.lt (fun q => ht.ne (aZ ho q.symm) hne rfl)
theorem pU (B M MB TB NB : Nat) (fv : Value) (s : CS) (t : ByteArray) (w : World) (h : MkAt B M w MB TB NB fv s) (hl : s.texts.length ≤ 1000000) :
    Calls Tryz.prog 87 #[.pointer (some ⟨TB, 0, none⟩), .string t] w fun e w' => e = .returned (.int .i64 (d7 (dg t s).texts t : Nat)) ∧ MkAt B M w' MB TB NB fv (dg t s) ∧ Fx B M NB w w' := by
 obtain ⟨tv, vs, h3, h4, h5⟩ := h.t
 obtain ⟨sv, cv, htv, _, hcv, _, _⟩ := aY h4
 subst htv
 obtain ⟨i0, hi0, hz0, hz1, hz2⟩ := rx
 have q := dY h.n eP go (lE w) t
 rw [jp] at q
 obtain ⟨t0, t1, -⟩ := css h3
 have HW := zh h
 cases hm : jQ s.texts t
 ·rw [hm] at q
  have HM := zh hm
  have hp := fO h.n eP go t (.int .i64 (s.texts.length : Int))
  have HO1 := zh (gU w NB t (.int .i64 (s.texts.length : Int)))
  have HN1 : Hid (MapAt (eM w NB t (.int .i64 (s.texts.length : Int))) NB (fL 0 (s.texts ++ [t]))) := zh (by
    have q2 := i5 h.n t (.int .i64 (s.texts.length : Int))
    have q3 := kf s.texts 0 t hm
    rw [Nat.zero_add] at q3
    rw [q3] at q2
    exact q2)
  generalize eM w NB t (.int .i64 (s.texts.length : Int)) = w1 at *
  have htt : OfTy w TB 70 := ⟨_, _, h3⟩
  have hne : TB ≠ NB := fun e => h.n.noTy _ (e ▸ htt)
  have HT1 := zh (HO1.out.obj hne h3)
  have t0' : w1.cell? ⟨TB, 0, none⟩ = some (.slice sv s.texts.length cv) := aa HT1.out (j := 0) rfl
  have hcv2 := fun W => Lib.run_convert_string_bytes (P := Tryz.prog) W 9 22 t go (e := 5) (by kernel_rfl) (by kernel_rfl)
  have HH3 := zh h3
  have HH4 := zh h4
  have HH5 := zh h5
  have HI := zh hi0
  have HL := zh hl
  have E1 : d7 (dg t s).texts t = s.texts.length := by unfold dg; rw [hm]; exact jW _ _ hm
  have HE1 := zh E1
  clear h h3 h4 h5 hi0 hl E1 hm
  go_enter Tryz.func87, Tryz.ntmps87
  go_upto_region 5 with fail
  have HBB : Hid (Below w1.heap.size w1 ((Lib.bytesWorld w1 5 t).alloc (.cells #[.slice (some ⟨w1.heap.size, 0, none⟩) t.size (grownCap w1 t.size 0 5)] 22))) := zh (ae (lq w1 _ t) _)
  have HO5 : Hid (World.ownsRow ((Lib.bytesWorld w1 5 t).alloc (.cells #[.slice (some ⟨w1.heap.size, 0, none⟩) t.size (grownCap w1 t.size 0 5)] 22)) B 22 1 (.slice sv s.texts.length cv) s.texts.length vs) := zh (bO (ba HH4.out fun k hk => HO1.out.block k (aZ HH4.out hk).lt (fun e => by injection e with e; exact HW.out.n.noTy _ (e ▸ aZ HH4.out hk))) (Stays.of_below HBB.out))
  have HN5 : Hid (((Lib.bytesWorld w1 5 t).alloc (.cells #[.slice (some ⟨w1.heap.size, 0, none⟩) t.size (grownCap w1 t.size 0 5)] 22)).heap[(Lib.bytesWorld w1 5 t).heap.size]? = some (.cells #[.slice (some ⟨w1.heap.size, 0, none⟩) t.size (grownCap w1 t.size 0 5)] 22 (0, 0))) := zh (ah _ _ _ rfl)
  have HT5 : Hid (((Lib.bytesWorld w1 5 t).alloc (.cells #[.slice (some ⟨w1.heap.size, 0, none⟩) t.size (grownCap w1 t.size 0 5)] 22)).heap[TB]? = _) := zh ((HBB.out.block _ (ad HT1.out)).trans HT1.out)
  have HNB : Hid (some TB ≠ (Value.slice sv s.texts.length cv).ownBlock) := zh fun e => (aZ HO5.out e.symm).ne (⟨_, _, HT5.out⟩ : OfTy _ TB 70) (by decide) rfl
  have hBle : B ≤ ((Lib.bytesWorld w1 5 t).alloc (.cells #[.slice (some ⟨w1.heap.size, 0, none⟩) t.size (grownCap w1 t.size 0 5)] 22)).heap.size := Nat.le_trans HW.out.bt (Nat.le_of_lt (ad HT5.out))
  have hl := HL.out
  go_wp2_with (refine wpList_append_lies _ rfl _ _ _ rfl B 22 i0 _ 1 24 Tryz.underlying25 HI.out hz0 hz1 hz2 rfl (by decide) _ s.texts.length vs rfl HO5.out ⟨(Lib.bytesWorld w1 5 t).heap.size, 0, none⟩ 1 1 [.slice (some ⟨w1.heap.size, 0, none⟩) t.size (grownCap w1 t.size 0 5)] rfl rfl (by intro j u hj; rw [Go.WideShapes.add_plain, Nat.zero_add]; exact aa HN5.out (by simpa using hj)) (by intro u hu; simp at hu; subst hu; rfl) (by decide) (by unfold maxLen; omega) (by omega) hBle _ rfl ?_; intro g9 cp9 w9 hown9 hgrow9 hgl9 hlt9; have z9 := (hgrow9.block TB (ad HT5.out) HNB.out).trans HT5.out; have x9 := aa z9 (j := 0) rfl; have y9 := ab z9 0; have HO9 := zh hown9; have HG9 := zh hgrow9; clear hown9 hgrow9 hgl9 hlt9 z9)
  go_ret
  have hon : OnS (fun k => k = NB ∨ ((Value.slice sv s.texts.length cv).ownBlock = some k ∧ OfTy w k 22 ∧ B ≤ k)) w w9 :=
   ((OnS.of_on HO1.out (.inl rfl)).trans (OnS.of_below HBB.out)).trans (OnS.of_grown HG9.out fun k hk => .inr ⟨hk, aZ HH4.out hk, (aH HH4.out hk).1⟩)
  have hbx := pT B w1 t (Nat.le_trans HW.out.bt (Nat.le_of_lt (ad HT1.out)))
  have hb9 : ByAt B w9 (.slice (some ⟨w1.heap.size, 0, none⟩) t.size (grownCap w1 t.size 0 5)) t := by
   obtain ⟨b, cap, e1, e2, e3, e4, e5⟩ := hbx
   injection e1 with e1 _ e6
   injection e1 with e1
   injection e1 with e1
   subst e1 e6
   have e7 := (Below.heap_alloc (Lib.bytesWorld w1 5 t) (.cells #[.slice (some ⟨w1.heap.size, 0, none⟩) t.size (grownCap w1 t.size 0 5)] 22) _ e4.lt)
   have e8 := pc HG9.out HO5.out (e4.keep e7) (by decide)
   exact ⟨_, _, rfl, e2, e3, (e4.keep e7).keep e8, fun i hi => (World.cell?_of_block (w := Lib.bytesWorld w1 5 t) (e8.trans e7)).trans (e5 i hi)⟩
  refine ⟨by rw [HE1.out]; rfl, HW.out.text HH3.out HH4.out HH5.out HM.out hon ?_ hb9 HO9.out⟩
  have hl1 := HN1.out.lt
  have hno : ∀ ty, ¬ OfTy w1 NB ty := HN1.out.noTy
  refine HN1.out.keep ((HG9.out.block NB (Nat.lt_of_lt_of_le hl1 HBB.out.size) (fun e => ?_)).trans (HBB.out.block _ hl1))
  exact hno _ ((aZ HO5.out e.symm).keep (HBB.out.block _ hl1).symm)
 ·rw [hm] at q
  have E1 : dg t s = s := by unfold dg; rw [hm]; rfl
  rw [E1]
  rw [Nat.zero_add] at q
  clear h h3 h4 h5 hi0 hl E1 hm
  go_enter Tryz.func87, Tryz.ntmps87
  go_wp2_with fail
  go_ret
  exact ⟨rfl, HW.out, Fx.refl _ _ _ _⟩
end
end Go.Proofs.YtjblihabklemfaaGreatDoor
