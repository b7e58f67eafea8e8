/-
  Compile: part 45 of its proof: see the last text.
-/
import Derived.Test.YtjblihabklemfaaGreatDoorPm16
set_option maxRecDepth 100000
set_option maxHeartbeats 16000000
namespace Go.Proofs.YtjblihabklemfaaGreatDoor
section
open Go.RowKit
theorem ru : ∃ i, Tryz.prog.info? 48 = some i ∧ i.zero = some (.agg #[.string ⟨#[]⟩, .slice none 0 0, .int .i64 0, .slice none 0 0, .int .i64 0]) ∧ i.size = 5 ∧ i.bytes = 80 := by
 have h : (Tryz.prog.info? 48).map (fun i => (i.zero, i.size, i.bytes)) = some (some (.agg #[.string ⟨#[]⟩, .slice none 0 0, .int .i64 0, .slice none 0 0, .int .i64 0]), 5, 80) := by kernel_rfl
 obtain ⟨i, h1, h2⟩ := Option.map_eq_some_iff.1 h
 simp only [Prod.mk.injEq] at h2
 exact ⟨i, h1, h2.1, h2.2.1, h2.2.2⟩
theorem ResAt.of {w w' : World} {P E A : Nat} {v : Value} {e a : Int} (h : ResAt w P E A v e a) (hb : ∀ b, b = P ∨ b = E ∨ b = A → w'.heap[b]? = w.heap[b]?) : ResAt w' P E A v e a :=
 ⟨(hb _ (.inl rfl)).trans h.p, (hb _ (.inr (.inl rfl))).trans h.e, (hb _ (.inr (.inr rfl))).trans h.a, h.ne⟩
theorem ResAt.below {w w' : World} {P E A : Nat} {v : Value} {e a : Int} (h : ResAt w P E A v e a) (hb : Below w.heap.size w w') : ResAt w' P E A v e a :=
 h.of fun b hx => hb.block b (by rcases hx with rfl | rfl | rfl; exact ad h.p; exact ad h.e; exact ad h.a)
theorem ResAt.setP {w : World} {P E A : Nat} {v : Value} {e a : Int} (h : ResAt w P E A v e a) (u : Value) : ResAt (w.setCell ⟨P, 0, none⟩ u) P E A u e a :=
 ⟨ai h.p 0 u, (af w _ u _ (Ne.symm h.ne.1)).trans h.e, (af w _ u _ (Ne.symm h.ne.2.1)).trans h.a, h.ne⟩
theorem ResAt.setE {w : World} {P E A : Nat} {v : Value} {e a : Int} (h : ResAt w P E A v e a) (n : Int) : ResAt (w.setCell ⟨E, 0, none⟩ (.int .i64 n)) P E A v n a :=
 ⟨(af w _ _ _ h.ne.1).trans h.p, ai h.e 0 _, (af w _ _ _ (Ne.symm h.ne.2.2)).trans h.a, h.ne⟩
theorem ResAt.setA {w : World} {P E A : Nat} {v : Value} {e a : Int} (h : ResAt w P E A v e a) (n : Int) : ResAt (w.setCell ⟨A, 0, none⟩ (.int .i64 n)) P E A v e n :=
 ⟨(af w _ _ _ h.ne.2.1).trans h.p, (af w _ _ _ h.ne.2.2).trans h.e, ai h.a 0 _, h.ne⟩
structure PrW (w : World) (P E A rb : Nat) (en : Int) (W : World) (L : List Tk) (v : Value) (acc : List Fn) : Prop where
 rd : RdAt W rb L en
 res : ResAt W P E A v 0 0
 gr : GrowOf fnK (rb + 1) 48 5 W v acc
 on : Below w.heap.size w W
 low : w.heap.size ≤ P ∧ P < rb ∧ w.heap.size ≤ E ∧ E < rb ∧ w.heap.size ≤ A ∧ A < rb
section
variable {w W W' : World} {P E A rb : Nat} {en : Int} {L L' : List Tk} {v : Value} {acc : List Fn}
theorem PrW.call (h : PrW w P E A rb en W L v acc) (ho : On rb W W') (hr : RdAt W' rb L' en) : PrW w P E A rb en W' L' v acc := by
 have hl := h.low
 refine ⟨hr, h.res.of fun b hx => ho.block b (by rcases hx with rfl | rfl | rfl; exact ad h.res.p; exact ad h.res.e; exact ad h.res.a) (fun e => ?_), h.gr.keep (Stays.of_on ho (Nat.lt_succ_self _)), h.on.trans ⟨ho.os, ho.tape, ho.output, ho.size, fun i hi => ho.block i (Nat.lt_of_lt_of_le hi h.on.size) (fun e => ?_)⟩, h.low⟩
 ·injection e with e
  rcases hx with rfl | rfl | rfl <;> omega
 ·injection e with e
  omega
theorem PrW.stay (h : PrW w P E A rb en W L v acc) (ho : On rb W W') : ResAt W' P E A v 0 0 ∧ Below w.heap.size w W' := by
 have hl := h.low
 refine ⟨h.res.of fun b hx => ho.block b (by rcases hx with rfl | rfl | rfl; exact ad h.res.p; exact ad h.res.e; exact ad h.res.a) (fun e => ?_), h.on.trans ⟨ho.os, ho.tape, ho.output, ho.size, fun i hi => ho.block i (Nat.lt_of_lt_of_le hi h.on.size) (fun e => ?_)⟩⟩
 ·injection e with e
  rcases hx with rfl | rfl | rfl <;> omega
 ·injection e with e
  omega
theorem PrW.below (h : PrW w P E A rb en W L v acc) (hb : Below W.heap.size W W') : PrW w P E A rb en W' L v acc :=
 ⟨h.rd.on hb, h.res.below hb, h.gr.keep (Stays.of_below hb), h.on.trans (hb.mono h.on.size), h.low⟩
theorem PrW.form (h : PrW w P E A rb en W L v acc) : ∃ s c, v = .slice s acc.length c ∧ acc.length ≤ c ∧ c ≤ maxLen := by
 obtain ⟨cs, ho, _⟩ := h.gr
 obtain ⟨s0, cap, h1, h2, h3, _⟩ := aY ho
 exact ⟨s0, cap, h1, h2, h3⟩
theorem PrW.push {W9 : World} {g cap : Nat} {new : List Value} {q : Fn} {cs : Nat → List Value} (h : PrW w P E A rb en W L v acc) (hit : Items fnK (rb + 1) 5 W v acc cs) (hn : new.length = 5) (hy : RepFn (fun b => rb + 1 ≤ b ∧ v.ownBlock ≠ some b) W new q)
    (hg : W.grownBy W9 v.ownBlock) (hgl : v.ownBlock = some g ∨ g = W.heap.size) (hown : W9.ownsRow (rb + 1) 48 5 (.slice (some ⟨g, 0, none⟩) (acc.length + 1) cap) (acc.length + 1) (cV cs acc.length ++ new)) :
    PrW w P E A rb en (W9.setCell ⟨P, 0, none⟩ (.slice (some ⟨g, 0, none⟩) (acc.length + 1) cap)) L (.slice (some ⟨g, 0, none⟩) (acc.length + 1) cap) (acc ++ [q]) := by
 have hl := h.low
 have hlow : ∀ b, v.ownBlock = some b → rb + 1 ≤ b := fun b hb => by
  obtain ⟨cs', ho, _⟩ := h.gr
  exact (aH ho hb).1
 have hT : OnS (fun b => v.ownBlock = some b) W W9 := OnS.of_grown hg fun k hk => hk
 have ho : On P W9 (W9.setCell ⟨P, 0, none⟩ (.slice (some ⟨g, 0, none⟩) (acc.length + 1) cap)) := (On.refl _ _).set 0 _
 have hst : Stays (bA (rb + 1)) W9 (W9.setCell ⟨P, 0, none⟩ (.slice (some ⟨g, 0, none⟩) (acc.length + 1) cap)) := Stays.of_on ho (by omega)
 have hq : ∀ {b o}, b ≤ rb → W.heap[b]? = some o → W9.heap[b]? = some o := fun hb hx => hT.obj (fun e => by have := hlow _ e; omega) hx
 have hrd9 : RdAt W9 rb L en := h.rd.offS hT fun b hb => by have := hlow b hb; omega
 refine ⟨?_, ⟨ai (hq (by omega) h.res.p) 0 _, ho.obj (Ne.symm h.res.ne.1) (hq (by omega) h.res.e), ho.obj (Ne.symm h.res.ne.2.1) (hq (by omega) h.res.a), h.res.ne⟩, (GrowOf.push (K := fnK) hit hn hy hg hgl hown).keep hst, ?_, h.low⟩
 ·obtain ⟨arr, hob⟩ := hrd9.obj
  obtain ⟨s0, c0, h1, h2, h3, h4, h5⟩ := hrd9.rest
  have hne : rb ≠ P := by omega
  refine ⟨⟨arr, ho.obj hne hob⟩, ⟨s0, c0, ho.cell hne h1, h2, h3, fun h0 => ?_, h5⟩, ho.cell hne hrd9.fin, hrd9.few⟩
  obtain ⟨b, off, e, hbl, hc⟩ := h4 h0
  have hP9 := hq (by omega) h.res.p
  have hbP : b ≠ P := by
   rintro rfl
   obtain ⟨_, _, _, x3⟩ := hc 0 h0
   unfold World.cell? at x3
   simp only [hP9] at x3
   simp at x3
  refine ⟨b, off, e, Nat.lt_of_lt_of_le hbl ho.size, fun i hi => ?_⟩
  obtain ⟨x0, x1, x2, x3⟩ := hc i hi
  exact ⟨ho.cell hbP x0, ho.cell hbP x1, ho.cell hbP x2, ho.cell hbP x3⟩
 ·have q1 : Below w.heap.size w W9 := h.on.trans ⟨hg.os, hg.tape, hg.output, hg.size, fun i hi => hg.block i (Nat.lt_of_lt_of_le hi h.on.size) (fun e => by have := hlow i e.symm; omega)⟩
  exact q1.setCell (p := ⟨P, 0, none⟩) hl.1 _
end
theorem gh {fn : Func} {t t' : Array Value} {R : Ending → World → Prop} (h : results fn t = results fn t') : ∀ (ds : List Deferred) (u : FrameMode) (w : World), Leaves Tryz.prog fn t R ds u w → Leaves Tryz.prog fn t' R ds u w
 | [], .returning, w, ⟨v, h1, h2⟩ => ⟨v, by rw [← h]; exact h1, h2⟩
 | [], .panicking c, w, q => q
 | [], .run, _, q => q.elim
 | d :: ds, u, w, ⟨h1, fv, cap, f, args, h2, h3, h4⟩ => ⟨h1, fv, cap, f, args, h2, h3, h4.mono fun e u' w' q => by
   cases e with
   | returned v => exact gh h ds _ _ q
   | panicked c => exact gh h ds _ _ q
   | outgrown => exact q⟩
theorem iA (a : Act) (i : Nat) (v : Value) (h2 : i ≠ 2) (h3 : i ≠ 3) (h4 : i ≠ 4) (R : Ending → World → Prop) (ds : List Deferred) (u : FrameMode) (w : World) (h : Leaves Tryz.prog Tryz.f14 (a.put (some i) v).tmps R ds u w) : Leaves Tryz.prog Tryz.f14 a.tmps R ds u w := by
 refine gh ?_ ds u w h
 have e : ∀ j, i ≠ j → (a.tmps.setIfInBounds i v)[j]? = a.tmps[j]? := fun j hj => Array.getElem?_setIfInBounds_ne hj
 simp only [results, Tryz.results14, Act.put]
 simp [e 2 h2, e 3 h3, e 4 h4]
theorem nP (s0 : Option Addr) (cap : Nat) (s : List UInt8) (w : World) (hs : SrcAt w s0 s) (hl : s.length ≤ 1152921504606846976) (hc : s.length ≤ cap) :
    Calls Tryz.prog 14 #[.slice s0 s.length cap] w (iw w (dk s)) := by
 have HLX := zh (fun W (hW : Below w.heap.size w W) => qS s0 cap s W (hs.later hW) hl hc)
 have hmf : ∀ (fn : Go.Fn) (first cap : Array Value) (w : World), (Instr.makeFunc fn first cap).run Tryz.prog w = .ok (.func fn first cap) w := fun _ _ _ _ => rfl
 have HI := zh ru
 have hlen : (s.length : Int) ≤ 1152921504606846976 := by omega
 clear hs hc hl
 go_enter_defers Tryz.func14, Tryz.ntmps14
 go_wp2_with fail
 have HB1 : Hid (Below w.heap.size w (((w.alloc (.cells #[.slice none 0 0] 42)).alloc (.cells #[.int .i64 0] 28)).alloc (.cells #[.int .i64 0] 3))) := zh (ae (ae (ae (Below.refl _ _) _) _) _)
 have HR1 : Hid (ResAt (((w.alloc (.cells #[.slice none 0 0] 42)).alloc (.cells #[.int .i64 0] 28)).alloc (.cells #[.int .i64 0] 3)) w.heap.size (w.heap.size + 1) (w.heap.size + 1 + 1) (.slice none 0 0) 0 0) := zh ⟨au _ _ _ _ (au _ _ _ _ (ah _ _ _ rfl)), au _ _ _ _ (ah _ _ _ (ag _ _)), ah _ _ _ (by simp only [ag]), by omega, by omega, by omega⟩
 have HSZ := zh (show (((w.alloc (.cells #[.slice none 0 0] 42)).alloc (.cells #[.int .i64 0] 28)).alloc (.cells #[.int .i64 0] 3)).heap.size = w.heap.size + 1 + 1 + 1 by simp only [ag])
 generalize (((w.alloc (.cells #[.slice none 0 0] 42)).alloc (.cells #[.int .i64 0] 28)).alloc (.cells #[.int .i64 0] 3)) = w1 at *
 have HORD : Hid (w.heap.size ≤ w.heap.size ∧ w.heap.size < w.heap.size + 1 ∧ w.heap.size + 1 < w.heap.size + 1 + 1 ∧ w.heap.size + 1 + 1 < w1.heap.size) := zh (by have := HSZ.out; omega)
 generalize hA : w.heap.size + 1 + 1 = A at *
 generalize hE : w.heap.size + 1 = E at *
 generalize hP : w.heap.size = P at *
 replace HORD : Hid (w.heap.size = P ∧ P < E ∧ E < A ∧ A < w1.heap.size) := zh ⟨hP, HORD.out.2⟩
 clear hA hE hP HSZ
 have n0 : ¬ P = E := by have := HORD.out; omega
 have n1 : ¬ P = A := by have := HORD.out; omega
 have n2 : ¬ E = A := by have := HORD.out; omega
 have n3 : ¬ E = P := by have := HORD.out; omega
 have n4 : ¬ A = P := by have := HORD.out; omega
 have n5 : ¬ A = E := by have := HORD.out; omega
 refine (HLX.out _ HB1.out).mono ?_
 rintro e w2 ⟨hlx, hb2⟩
 have HR2 := zh (HR1.out.below hb2)
 have HB2 := zh (HB1.out.trans (hb2.mono (by have := HORD.out; omega)))
 have HL2 := zh (show w1.heap.size ≤ w2.heap.size from hb2.size)
 clear hb2
 have p0 : w2.cell? ⟨P, 0, none⟩ = some (.slice none 0 0) := aa HR2.out.p (j := 0) rfl
 have p1 : w2.cell? ⟨E, 0, none⟩ = some (.int .i64 0) := aa HR2.out.e (j := 0) rfl
 have p2 : w2.cell? ⟨A, 0, none⟩ = some (.int .i64 0) := aa HR2.out.a (j := 0) rfl
 have f0 : w2.frozen? ⟨P, 0, none⟩ = false := ab HR2.out.p 0
 have f1 : w2.frozen? ⟨E, 0, none⟩ = false := ab HR2.out.e 0
 have f2 : w2.frozen? ⟨A, 0, none⟩ = false := ab HR2.out.a 0
 cases hq : fM s with
 | error q =>
  obtain ⟨er, p⟩ := q
  rw [hq] at hlx
  obtain rfl : e = _ := hlx
  have her : ¬ er = 0 := oK hq
  have HE := zh (show dk s = .error (er, (p : Int)) from by unfold dk; rw [hq])
  clear hq
  go_upto_region 3 with fail
  go_region
  go_wp2_with fail
  have HRR : Hid (ResAt ((((((w2.setCell ⟨E, 0, none⟩ (.int .i64 er)).setCell ⟨A, 0, none⟩ (.int .i64 (p : Int))).setCell ⟨P, 0, none⟩ (.slice none 0 0)).setCell ⟨E, 0, none⟩ (.int .i64 er)).setCell ⟨A, 0, none⟩ (.int .i64 (p : Int))).drew) P E A (.slice none 0 0) er p) := zh (((((HR2.out.setE er).setA p).setP (.slice none 0 0)).setE er).setA p |>.below (av (Below.refl _ _)))
  have HBR : Hid (Below w.heap.size w ((((((w2.setCell ⟨E, 0, none⟩ (.int .i64 er)).setCell ⟨A, 0, none⟩ (.int .i64 (p : Int))).setCell ⟨P, 0, none⟩ (.slice none 0 0)).setCell ⟨E, 0, none⟩ (.int .i64 er)).setCell ⟨A, 0, none⟩ (.int .i64 (p : Int))).drew)) := zh (by have h1 := HORD.out; rw [h1.1]; exact (((((HB2.out.setCell (p := ⟨E, 0, none⟩) (by show P ≤ E; omega) _).setCell (p := ⟨A, 0, none⟩) (by show P ≤ A; omega) _).setCell (p := ⟨P, 0, none⟩) (Nat.le_refl _) _).setCell (p := ⟨E, 0, none⟩) (by show P ≤ E; omega) _).setCell (p := ⟨A, 0, none⟩) (by show P ≤ A; omega) _).drew)
  have r0 : ((((((w2.setCell ⟨E, 0, none⟩ (.int .i64 er)).setCell ⟨A, 0, none⟩ (.int .i64 (p : Int))).setCell ⟨P, 0, none⟩ (.slice none 0 0)).setCell ⟨E, 0, none⟩ (.int .i64 er)).setCell ⟨A, 0, none⟩ (.int .i64 (p : Int))).drew).cell? ⟨P, 0, none⟩ = some (.slice none 0 0) := aa HRR.out.p (j := 0) rfl
  have r1 : ((((((w2.setCell ⟨E, 0, none⟩ (.int .i64 er)).setCell ⟨A, 0, none⟩ (.int .i64 (p : Int))).setCell ⟨P, 0, none⟩ (.slice none 0 0)).setCell ⟨E, 0, none⟩ (.int .i64 er)).setCell ⟨A, 0, none⟩ (.int .i64 (p : Int))).drew).cell? ⟨E, 0, none⟩ = some (.int .i64 (er)) := aa HRR.out.e (j := 0) rfl
  have r2 : ((((((w2.setCell ⟨E, 0, none⟩ (.int .i64 er)).setCell ⟨A, 0, none⟩ (.int .i64 (p : Int))).setCell ⟨P, 0, none⟩ (.slice none 0 0)).setCell ⟨E, 0, none⟩ (.int .i64 er)).setCell ⟨A, 0, none⟩ (.int .i64 (p : Int))).drew).cell? ⟨A, 0, none⟩ = some (.int .i64 (p)) := aa HRR.out.a (j := 0) rfl
  clear p0 p1 p2 f0 f1 f2
  generalize (((((w2.setCell ⟨E, 0, none⟩ (.int .i64 er)).setCell ⟨A, 0, none⟩ (.int .i64 (p : Int))).setCell ⟨P, 0, none⟩ (.slice none 0 0)).setCell ⟨E, 0, none⟩ (.int .i64 er)).setCell ⟨A, 0, none⟩ (.int .i64 (p : Int))).drew = w3 at *
  refine ⟨.tuple #[.agg #[.slice none 0 0], .int .i64 er, .int .i64 p], by simp [results, Tryz.results14, go_sem, r0, r1, r2], ?_⟩
  rw [HE.out]
  exact ⟨⟨her, rfl⟩, HBR.out⟩
 | ok l =>
  rw [hq] at hlx
  obtain ⟨v, he, hv⟩ := hlx
  subst he
  obtain ⟨s1, c1, rfl, h1, h2, h3, h4⟩ := hv
  have HTK := zh h4
  have HLN := zh (lZ hq)
  have HLC := zh (And.intro h1 (And.intro h2 h3))
  have HPT := zh (show dk s = (match eD s.length (l.length + 1) [] l with | .error e => .error e | .ok (x, _) => .ok x) from by unfold dk; rw [hq]; rfl)
  clear hq h1 h2 h3 h4
  go_upto_region 5 with fail
  have HR3 : Hid (ResAt ((w2.setCell ⟨E, 0, none⟩ (.int .i64 0)).setCell ⟨A, 0, none⟩ (.int .i64 0)) P E A (.slice none 0 0) 0 0) := zh ((HR2.out.setE 0).setA 0)
  have HO3 : Hid (OnS (fun b => b = E ∨ b = A) w2 ((w2.setCell ⟨E, 0, none⟩ (.int .i64 0)).setCell ⟨A, 0, none⟩ (.int .i64 0))) := zh (((OnS.refl _ w2).set (.inl rfl) 0 _).set (.inr rfl) 0 _)
  have HB3 : Hid (Below w.heap.size w ((w2.setCell ⟨E, 0, none⟩ (.int .i64 0)).setCell ⟨A, 0, none⟩ (.int .i64 0))) := zh (by have h1 := HORD.out; rw [h1.1]; exact (HB2.out.setCell (p := ⟨E, 0, none⟩) (by show P ≤ E; omega) _).setCell (p := ⟨A, 0, none⟩) (by show P ≤ A; omega) _)
  have HSZ3 := zh (show ((w2.setCell ⟨E, 0, none⟩ (.int .i64 0)).setCell ⟨A, 0, none⟩ (.int .i64 0)).heap.size = w2.heap.size by rw [ax, ax])
  have HTK3 : Hid (RowTk ((w2.setCell ⟨E, 0, none⟩ (.int .i64 0)).setCell ⟨A, 0, none⟩ (.int .i64 0)) s1 l) := zh (fun h0 => by
    obtain ⟨b, off, e, hbl, hcc⟩ := HTK.out h0
    have hbE : b ≠ E := by
      rintro rfl
      obtain ⟨_, _, _, x3⟩ := hcc 0 h0
      have hE := HR2.out.e
      unfold World.cell? at x3
      simp only [hE] at x3
      simp at x3
    have hbA : b ≠ A := by
      rintro rfl
      obtain ⟨_, _, _, x3⟩ := hcc 0 h0
      have hA := HR2.out.a
      unfold World.cell? at x3
      simp only [hA] at x3
      simp at x3
    have hno : ¬ (b = E ∨ b = A) := by rintro (q | q) <;> contradiction
    refine ⟨b, off, e, Nat.lt_of_lt_of_le hbl HO3.out.size, fun i hi => ?_⟩
    obtain ⟨x0, x1, x2, x3⟩ := hcc i hi
    exact ⟨HO3.out.cell hno x0, HO3.out.cell hno x1, HO3.out.cell hno x2, HO3.out.cell hno x3⟩)
  generalize ((w2.setCell ⟨E, 0, none⟩ (.int .i64 0)).setCell ⟨A, 0, none⟩ (.int .i64 0)) = w3 at *
  clear p0 p1 p2 f0 f1 f2
  have HP3 := zh (Nat.le_trans HL2.out (Nat.le_of_eq HSZ3.out.symm))
  have HRB : Hid (ResAt (w3.alloc (.cells #[.slice s1 l.length c1, .int .i64 s.length] 88)) P E A (.slice none 0 0) 0 0) := zh (HR3.out.below (ae (Below.refl _ _) _))
  have HBB : Hid (Below w.heap.size w (w3.alloc (.cells #[.slice s1 l.length c1, .int .i64 s.length] 88))) := zh (HB3.out.alloc HB3.out.size _)
  have HLP : Hid (P ≤ w3.heap.size ∧ E < w3.heap.size ∧ A < w3.heap.size) := zh (by have h1 := HORD.out; have h3 := HP3.out; omega)
  cases l with
  | nil =>
   rw [show ([] : List Tk).length = 0 from rfl] at *
   have q0 : (w3.alloc (.cells #[.slice s1 0 c1, .int .i64 s.length] 88)).cell? ⟨w3.heap.size, 0, none⟩ = some (.slice s1 0 c1) := aw _ _ _ _ _ _ rfl rfl
   have HE := zh (show dk s = .ok [] from HPT.out)
   have HRW := HRB
   have HBW := HBB
   go_wp2_with fail
   generalize w3.alloc (.cells #[.slice s1 0 c1, .int .i64 s.length] 88) = w4 at *
   have p0 : (w4).cell? ⟨P, 0, none⟩ = some (.slice none 0 0) := aa HRW.out.p (j := 0) rfl
   have p1 : (w4).cell? ⟨E, 0, none⟩ = some (.int .i64 0) := aa HRW.out.e (j := 0) rfl
   have p2 : (w4).cell? ⟨A, 0, none⟩ = some (.int .i64 0) := aa HRW.out.a (j := 0) rfl
   have f0 : (w4).frozen? ⟨P, 0, none⟩ = false := ab HRW.out.p 0
   have f1 : (w4).frozen? ⟨E, 0, none⟩ = false := ab HRW.out.e 0
   have f2 : (w4).frozen? ⟨A, 0, none⟩ = false := ab HRW.out.a 0
   go_loopw [] (fun wr => wr = w4) (fun _ => 0)
   case atStart => exact rfl
   case round =>
    subst hrel
    go_wp2_with fail
    clear p0 p1 p2 f0 f1 f2 q0
    have HRR : Hid (ResAt ((((wr.setCell ⟨P, 0, none⟩ (.slice none 0 0)).setCell ⟨E, 0, none⟩ (.int .i64 0)).setCell ⟨A, 0, none⟩ (.int .i64 0)).alloc (.cells #[.int .i64 0, .int .i64 0] 84)) P E A (.slice none 0 0) 0 0) := zh ((((HRW.out.setP (.slice none 0 0)).setE 0).setA 0).below (ae (Below.refl _ _) _))
    have HBR : Hid (Below w.heap.size w ((((wr.setCell ⟨P, 0, none⟩ (.slice none 0 0)).setCell ⟨E, 0, none⟩ (.int .i64 0)).setCell ⟨A, 0, none⟩ (.int .i64 0)).alloc (.cells #[.int .i64 0, .int .i64 0] 84))) := zh (by have h1 := HORD.out; have h2 := HBW.out; rw [h1.1] at h2 ⊢; exact (((h2.setCell (p := ⟨P, 0, none⟩) (Nat.le_refl _) _).setCell (p := ⟨E, 0, none⟩) (by show P ≤ E; omega) _).setCell (p := ⟨A, 0, none⟩) (by show P ≤ A; omega) _).alloc (by rw [ax, ax, ax]; have := h2.size; omega) _)
    refine leaves_cons (f := 24) (args := #[.pointer (some ⟨P, 0, none⟩), .pointer (some ⟨E, 0, none⟩), .pointer (some ⟨A, 0, none⟩)]) (by simp) (by simp [go_sem]) ?_
    refine (jE P E A _).mono ?_
    rintro e u' w9 ⟨rfl, rfl, h9⟩
    have r0 : (w9).cell? ⟨P, 0, none⟩ = some (.slice none 0 0) := by rw [h9]; exact aa HRR.out.p (j := 0) rfl
    have r1 : (w9).cell? ⟨E, 0, none⟩ = some (.int .i64 (0)) := by rw [h9]; exact aa HRR.out.e (j := 0) rfl
    have r2 : (w9).cell? ⟨A, 0, none⟩ = some (.int .i64 (0)) := by rw [h9]; exact aa HRR.out.a (j := 0) rfl
    refine ⟨.tuple #[.agg #[.slice none 0 0], .int .i64 0, .int .i64 0], by simp [results, Tryz.results14, go_sem, r0, r1, r2], ?_⟩
    rw [HE.out, h9]
    exact ⟨⟨_, rfl, RepFns.nil _ _⟩, HBR.out⟩
  | cons tk tr =>
   have HNE : Hid (0 < (tk :: tr).length) := zh (by simp)
   have HRW : Hid (PrW w P E A w3.heap.size s.length (w3.alloc (.cells #[.slice s1 (tk :: tr).length c1, .int .i64 s.length] 88)) (tk :: tr) (.slice none 0 0) []) := zh (by
      have h1 := HORD.out
      have h3 := HLP.out
      have hlc := HLC.out
      refine ⟨⟨⟨_, ah _ _ _ rfl⟩, ⟨s1, c1, aw _ _ _ _ _ _ rfl rfl, hlc.1, hlc.2.1, fun h0 => ?_, fun b off e => ?_⟩, aw _ _ _ _ _ _ rfl rfl, by have := HLN.out; omega⟩, HRB.out, GrowOf.nil, HBB.out, by omega⟩
      · obtain ⟨b, off, e, hbl, hcc⟩ := HTK3.out h0
        exact ⟨b, off, e, by rw [ag]; omega, fun i hi => ⟨aj _ (hcc i hi).1, aj _ (hcc i hi).2.1, aj _ (hcc i hi).2.2.1, aj _ (hcc i hi).2.2.2⟩⟩
      · obtain ⟨b2, off2, e2, hbl, _⟩ := HTK3.out HNE.out
        rw [e] at e2
        injection e2 with e2
        injection e2 with q1 q2
        rw [q1]; exact hbl)
   have HTL := zh (show (tk :: tr).length ≤ 2048 from HLN.out)
   have HPT2 := HPT
   generalize hlt : tk :: tr = lt at *
   go_wp2_with fail
   generalize w3.alloc (.cells #[.slice s1 lt.length c1, .int .i64 s.length] 88) = w4 at *
   generalize w3.heap.size = rb at *
   clear HRB HBB HTK3 HTK HLC HNE HO3 HR3 HB3 HSZ3 HP3 HLP
   go_loopg [] (lt.length + 1) (fun g wr => ∃ (acc : List Fn) (lc : List Tk) (v : Value), eD s.length (lt.length + 1) [] lt = eD s.length g acc lc ∧ lc.length < g ∧ acc.length + g ≤ 3000 ∧ PrW w P E A rb s.length wr lc v acc)
   case atStart => exact ⟨[], lt, _, rfl, Nat.lt_succ_self _, by have := HTL.out; simp; omega, HRW.out⟩
   case round =>
    clear HRW
    obtain ⟨acc, lc, v, hF, hlg, hag, hpw⟩ := hrel
    obtain ⟨g, rfl⟩ : ∃ g, gk = g + 1 := ⟨gk - 1, by omega⟩
    have HLG := zh hlg
    have HAG := zh hag
    have HW := zh hpw
    obtain ⟨sv, cv, rfl, _, hcv⟩ := hpw.form
    unfold maxLen at hcv
    have HFX := zh hF
    clear hF hlg hag hpw
    obtain ⟨s5, c5, q5, hq5, hq6, _, _⟩ := HW.out.rd.rest
    unfold maxLen at hq6
    have p0 : wr.cell? ⟨P, 0, none⟩ = some (.slice sv acc.length cv) := aa HW.out.res.p (j := 0) rfl
    cases lc with
    | nil =>
     have q0 : wr.cell? ⟨rb, 0, none⟩ = some (.slice s5 0 c5) := q5
     have HE := zh (show dk s = .ok acc from HPT.out.trans (by rw [HFX.out, nX]))
     clear q5 hq5 hq6 p0
     have HRW : Hid (ResAt wr P E A (.slice sv acc.length cv) 0 0) := zh HW.out.res
     have HBW : Hid (Below w.heap.size w wr) := zh HW.out.on
     have HGR : Hid (RepFns (bA (rb + 1)) wr (.slice sv acc.length cv) acc) := zh HW.out.gr.row
     have p0 : (wr).cell? ⟨P, 0, none⟩ = some (.slice sv acc.length cv) := aa HRW.out.p (j := 0) rfl
     have p1 : (wr).cell? ⟨E, 0, none⟩ = some (.int .i64 0) := aa HRW.out.e (j := 0) rfl
     have p2 : (wr).cell? ⟨A, 0, none⟩ = some (.int .i64 0) := aa HRW.out.a (j := 0) rfl
     have f0 : (wr).frozen? ⟨P, 0, none⟩ = false := ab HRW.out.p 0
     have f1 : (wr).frozen? ⟨E, 0, none⟩ = false := ab HRW.out.e 0
     have f2 : (wr).frozen? ⟨A, 0, none⟩ = false := ab HRW.out.a 0
     go_wp2_with fail
     clear p0 p1 p2 f0 f1 f2 q0
     have HRR : Hid (ResAt ((((wr.setCell ⟨P, 0, none⟩ (.slice sv acc.length cv)).setCell ⟨E, 0, none⟩ (.int .i64 0)).setCell ⟨A, 0, none⟩ (.int .i64 0)).alloc (.cells #[.int .i64 0, .int .i64 0] 84)) P E A (.slice sv acc.length cv) 0 0) := zh ((((HRW.out.setP (.slice sv acc.length cv)).setE 0).setA 0).below (ae (Below.refl _ _) _))
     have HBR : Hid (Below w.heap.size w ((((wr.setCell ⟨P, 0, none⟩ (.slice sv acc.length cv)).setCell ⟨E, 0, none⟩ (.int .i64 0)).setCell ⟨A, 0, none⟩ (.int .i64 0)).alloc (.cells #[.int .i64 0, .int .i64 0] 84))) := zh (by have h1 := HORD.out; have h2 := HBW.out; rw [h1.1] at h2 ⊢; exact (((h2.setCell (p := ⟨P, 0, none⟩) (Nat.le_refl _) _).setCell (p := ⟨E, 0, none⟩) (by show P ≤ E; omega) _).setCell (p := ⟨A, 0, none⟩) (by show P ≤ A; omega) _).alloc (by rw [ax, ax, ax]; have := h2.size; omega) _)
     refine leaves_cons (f := 24) (args := #[.pointer (some ⟨P, 0, none⟩), .pointer (some ⟨E, 0, none⟩), .pointer (some ⟨A, 0, none⟩)]) (by simp) (by simp [go_sem]) ?_
     refine (jE P E A _).mono ?_
     rintro e u' w9 ⟨rfl, rfl, h9⟩
     have r0 : (w9).cell? ⟨P, 0, none⟩ = some (.slice sv acc.length cv) := by rw [h9]; exact aa HRR.out.p (j := 0) rfl
     have r1 : (w9).cell? ⟨E, 0, none⟩ = some (.int .i64 (0)) := by rw [h9]; exact aa HRR.out.e (j := 0) rfl
     have r2 : (w9).cell? ⟨A, 0, none⟩ = some (.int .i64 (0)) := by rw [h9]; exact aa HRR.out.a (j := 0) rfl
     refine ⟨.tuple #[.agg #[.slice sv acc.length cv], .int .i64 0, .int .i64 0], by simp [results, Tryz.results14, go_sem, r0, r1, r2], ?_⟩
     rw [HE.out]
     refine ⟨⟨_, rfl, (HGR.out.keep ?_).mono fun b (hb : rb + 1 ≤ b) => ?_⟩, by rw [h9]; exact HBR.out⟩
     ·rw [h9]
      have hT : OnS (fun b => b = P ∨ b = E ∨ b = A) wr (((wr.setCell ⟨P, 0, none⟩ (.slice sv acc.length cv)).setCell ⟨E, 0, none⟩ (.int .i64 0)).setCell ⟨A, 0, none⟩ (.int .i64 0)) := (((OnS.refl _ wr).set (.inl rfl) 0 _).set (.inr (.inl rfl)) 0 _).set (.inr (.inr rfl)) 0 _
      refine (hT.stays fun b (hb : rb + 1 ≤ b) hh => ?_).trans (Stays.of_below (ae (Below.refl _ _) _))
      have := HW.out.low
      omega
     ·have h1 := HORD.out
      have h2 := HW.out.low
      show w.heap.size ≤ b
      omega
    | cons tk2 tr2 =>
     have HF := zh (show eD s.length (lt.length + 1) [] lt = ((ew s.length).bind fun x => eD s.length g (acc ++ [x])) (tk2 :: tr2) from HFX.out)
     have hn2 : (0 : Int) < ((tk2 :: tr2).length : Int) := by simp
     have hn3 : (0 : Int) < ((tr2.length + 1 : Nat) : Int) := by omega
     go_upto_region 7 with fail
     clear q5 hq5 hq6 hn2 hn3 HFX
     refine az (S := (fun w' => w'.cell? ⟨P, 0, none⟩ = some (.slice sv acc.length cv))) 5 (by kernel_rfl) (by kernel_rfl) (by (first | exact p0 | exact aj _ p0)) (fun hHeld => ?_)
     simp only [List.take_succ_cons, List.take_zero, List.drop_succ_cons, List.drop_zero]
     refine wpAnyH_take (i := 0) (v := ?_) rfl (by kernel_rfl) (by kernel_rfl) (by kernel_rfl) (fun _ _ _ h => iA _ _ _ (by decide) (by decide) (by decide) _ _ _ _ h) (Or.inl ⟨by rfl, ?_⟩) (by assumption) ?_
     rotate_left 1
     ·(intro w hSw; (try dsimp only at hSw); go_simp; try with_reducible rfl)
     try go_simp
     refine wpAnyH_take (i := 1) (v := ?_) rfl (by kernel_rfl) (by kernel_rfl) (by kernel_rfl) (fun _ _ _ h => iA _ _ _ (by decide) (by decide) (by decide) _ _ _ _ h) (Or.inl ⟨by rfl, ?_⟩) (by assumption) ?_
     rotate_left 1
     ·(intro w hSw; (try dsimp only at hSw); go_simp; try with_reducible rfl)
     try go_simp
     refine wpAnyH_take (i := 2) (v := ?_) rfl (by kernel_rfl) (by kernel_rfl) (by kernel_rfl) (fun _ _ _ h => iA _ _ _ (by decide) (by decide) (by decide) _ _ _ _ h) (Or.inl ⟨by rfl, ?_⟩) (by assumption) ?_
     rotate_left 1
     ·(intro w hSw; (try dsimp only at hSw); go_simp; try with_reducible rfl)
     try go_simp
     refine rd1 3 fun K hK => ?_
     go_simp
     go_at_call 25
     refine (oO rb (s.length : Int) (tk2 :: tr2) _ (HW.out.rd.on (av (Below.refl _ _)))).mono ?_
     rintro e w4 hp
     rcases hp.cases with ⟨er, p, hm, rfl, ho⟩ | ⟨x4, L4, v, hm, rfl, hv, hr, ho⟩
     ·have HE := zh (HF.out.trans (ay hm))
      have her : er ≠ 0 := qi _ _ _ _ hm
      have ho4 := (On.of_below (av (Below.refl _ _)) : On rb wr _).trans ho
      have HR4 := zh (HW.out.stay ho4)
      clear hp hm ho ho4
      unfold Pan
      (try go_wp2_with fail)
      refine leaves_cons (f := 24) (args := #[.pointer (some ⟨P, 0, none⟩), .pointer (some ⟨E, 0, none⟩), .pointer (some ⟨A, 0, none⟩)]) (by simp) (by simp [go_sem]) ?_
      refine (mc P E A _ 0 0 er p [] _ HR4.out.1).mono ?_
      rintro e u' w9 ⟨rfl, rfl, h9⟩
      have HRR : Hid (ResAt w9 P E A (.slice none 0 0) er p) := zh (by rw [h9]; exact ((((HR4.out.1.setP (.slice none 0 0)).setE er).setA p).below (av (ae (Below.refl _ _) _))))
      have HBR : Hid (Below w.heap.size w w9) := zh (by have h1 := HORD.out; have h2 := HR4.out.2; rw [h9]; rw [h1.1] at h2 ⊢; exact ((((h2.setCell (p := ⟨P, 0, none⟩) (Nat.le_refl _) _).setCell (p := ⟨E, 0, none⟩) (by show P ≤ E; omega) _).setCell (p := ⟨A, 0, none⟩) (by show P ≤ A; omega) _).alloc (by rw [ax, ax, ax]; have := h2.size; omega) _).drew)
      have r0 : (w9).cell? ⟨P, 0, none⟩ = some (.slice none 0 0) := aa HRR.out.p (j := 0) rfl
      have r1 : (w9).cell? ⟨E, 0, none⟩ = some (.int .i64 (er)) := aa HRR.out.e (j := 0) rfl
      have r2 : (w9).cell? ⟨A, 0, none⟩ = some (.int .i64 (p)) := aa HRR.out.a (j := 0) rfl
      refine ⟨.tuple #[.agg #[.slice none 0 0], .int .i64 er, .int .i64 p], by simp [results, Tryz.results14, go_sem, r0, r1, r2], ?_⟩
      have HPE := zh (show dk s = .error (er, p) from HPT.out.trans (by rw [HE.out]))
      rw [HPE.out]
      exact ⟨⟨her, rfl⟩, HBR.out⟩
     replace HF := zh (HF.out.trans (aB hm))
     have HST := zh (iI _ _ _ _ hm)
     have ho4 := (On.of_below (av (Below.refl _ _)) : On rb wr _).trans ho
     have HOW := zh HW.out
     replace HW := zh (HW.out.call ho4 hr)
     obtain ⟨nm, sA, nA, cA, rs, sB, nB, cB, pos, rfl, hrep⟩ := hv
     have HREP := zh hrep
     replace p0 : w4.cell? ⟨P, 0, none⟩ = some (.slice sv acc.length cv) := aa HW.out.res.p (j := 0) rfl
     clear hp hm hr ho ho4 hrep
     go_simp
     refine hK.out _ _ ?_ (fun hHeld => ?_)
     ·(try dsimp only)
      (first | exact p0 | exact aj _ p0)
     clear hK K
     try go_simp
     refine rd1 4 fun K hK => ?_
     go_simp
     refine hK.out _ _ ?_ (fun hHeld => ?_)
     ·(try dsimp only)
      (first | exact p0 | exact aj _ p0)
     clear hK K
     try go_simp
     refine wpAnyH_done (by kernel_rfl) ?_ _
     dsimp only [bT]
     have HB4 := zh (ae (Below.refl w4.heap.size w4) (.cells #[.string nm, .slice sA nA cA, .int .i64 rs, .slice sB nB cB, .int .i64 pos] 48))
     have HW4 := zh (HW.out.below HB4.out)
     obtain ⟨cs, hown, hit⟩ := HW4.out.gr
     have HOWN := zh hown
     have HIT := zh hit
     have fz : (w4.alloc (.cells #[.string nm, .slice sA nA cA, .int .i64 rs, .slice sB nB cB, .int .i64 pos] 48)).frozen? ⟨P, 0, none⟩ = false := ab HW4.out.res.p 0
     have HFB := zh HW4.out.res.p
     have HOLD : Hid (∀ b, (Value.slice sv acc.length cv).ownBlock = some b → b < wr.heap.size) := zh (fun b hb => by
      obtain ⟨cs', ho', _⟩ := HOW.out.gr
      exact (aH ho' hb).2)
     have HY := zh ((HREP.out.keep (Stays.of_below HB4.out)).mono (S' := fun b => rb + 1 ≤ b ∧ (Value.slice sv acc.length cv).ownBlock ≠ some b) fun b (hb : wr.drew.heap.size ≤ b) => ⟨Nat.le_trans (Nat.succ_le_of_lt HOW.out.rd.lt) hb, fun e => absurd (HOLD.out b e) (Nat.not_lt_of_le hb)⟩)
     clear hown hit p0
     refine wpList_append_lies _ rfl _ _ _ rfl (rb + 1) 48 HI.out.choose (.agg #[.string ⟨#[]⟩, .slice none 0 0, .int .i64 0, .slice none 0 0, .int .i64 0]) 5 80 Tryz.underlying40 HI.out.choose_spec.1 HI.out.choose_spec.2.1 HI.out.choose_spec.2.2.1 HI.out.choose_spec.2.2.2 rfl (by decide) _ acc.length (cV cs acc.length) rfl HOWN.out ⟨w4.heap.size, 0, none⟩ 1 1 [.string nm, .slice sA nA cA, .int .i64 rs, .slice sB nB cB, .int .i64 pos] rfl rfl (by intro j u hj; rw [Go.WideShapes.add_plain, Nat.zero_add]; exact aw _ _ _ _ _ _ rfl (by simpa using hj)) (by intro u hu; simp at hu; rcases hu with rfl | rfl | rfl | rfl | rfl <;> rfl) (by decide) (by have := HAG.out; unfold maxLen; omega) (by have := HAG.out; omega) (Nat.succ_le_of_lt HW4.out.rd.lt) _ rfl ?_
     intro g9 cp9 w9 hown9 hgrow9 hgl9 hlt9
     have HPU := zh (HW4.out.push (q := x4) HIT.out rfl HY.out hgrow9 hgl9 hown9)
     have z9 := (hgrow9.block P (ad HFB.out) (fun e => by have h1 : rb + 1 ≤ P := (aH HOWN.out e.symm).1; have := HW4.out.low; omega)).trans HFB.out
     have x9 : w9.cell? ⟨P, 0, none⟩ = some (.slice sv acc.length cv) := aa z9 (j := 0) rfl
     have y9 := ab z9 0
     clear hown9 hgrow9 hgl9 hlt9 z9 fz
     go_wp2_with fail
     go_roundg g
     case measure => exact Nat.lt_succ_self _
     case rel => exact ⟨_, L4, _, HF.out, by have h1 := HST.out; have h2 := HLG.out; omega, by have := HAG.out; simp; omega, HPU.out⟩
end
end Go.Proofs.YtjblihabklemfaaGreatDoor
