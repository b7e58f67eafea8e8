/-
  Compile: part 33 of its proof: see the last text.
-/
import Derived.Test.YtjblihabklemfaaGreatDoorPm26
import Derived.Test.YtjblihabklemfaaGreatDoorPm32
set_option maxRecDepth 100000
set_option maxHeartbeats 16000000
namespace Go.Proofs.YtjblihabklemfaaGreatDoor
section
open Go.RowKit Go.MapKept
theorem mq (l : List St) (ih : ∀ s, s ∈ l → ∀ (w : World) (u : Value), (RepSts Any w u s.body → Calls Tryz.prog 59 #[u] w fun e w' => e = .returned (.bool (bK s.body)) ∧ Below w.heap.size w w') ∧ (RepSts Any w u s.els → Calls Tryz.prog 59 #[u] w fun e w' => e = .returned (.bool (bK s.els)) ∧ Below w.heap.size w w')) (w : World) (u : Value) (hr : RepSts Any w u l) :
    Calls Tryz.prog 59 #[u] w fun e w' => e = .returned (.bool (bK l)) ∧ Below w.heap.size w w' := by
 obtain ⟨cs, ⟨s0, cap, rfl, hle, hcm, _, hrow, hsz⟩, hit⟩ := hr
 by_cases hl : l.length = 0
 ·have HE : Hid (bK l = false) := zh (by rw [List.eq_nil_of_length_eq_zero hl]; rw [bK])
  rw [hl]
  clear hrow hsz hit ih
  go_enter Tryz.func59, Tryz.ntmps59
  go_wp2_with fail
  exact bodyPost_ret (v := .bool false) (by simp [results, Tryz.results59, go_sem]) rfl ⟨by rw [HE.out], Below.refl _ _⟩
 ·have HLAST := zh (iq l (by omega))
  obtain ⟨b, off, hs0, _, hbl, hcell⟩ := hrow (by omega)
  subst hs0
  obtain ⟨i, hi⟩ : ∃ i, i = l.length - 1 := ⟨_, rfl⟩
  rw [← hi] at HLAST
  have hil : i < l.length := by omega
  have hrep := hit i hil
  obtain ⟨op, text, s1, n1, c1, s2, n2, c2, s3, n3, c3, pos, hcs⟩ := gR hrep
  rw [hcs] at hrep
  have hc6 : ∀ j, j < 6 → w.cell? ⟨b, off + i * 6 + j, none⟩ = (cs i)[j]? := fun j hj => hcell i hil j hj
  rw [hcs] at hc6
  have x0 : w.cell? ⟨b, off + i * 6, none⟩ = some (.int .i64 op) := hc6 0 (by decide)
  have x1 : w.cell? ⟨b, off + i * 6 + 1, none⟩ = some (.string text) := hc6 1 (by decide)
  have x2 : w.cell? ⟨b, off + i * 6 + 2, none⟩ = some (.slice s1 n1 c1) := hc6 2 (by decide)
  have x3 : w.cell? ⟨b, off + i * 6 + 3, none⟩ = some (.slice s2 n2 c2) := hc6 3 (by decide)
  have x4 : w.cell? ⟨b, off + i * 6 + 4, none⟩ = some (.slice s3 n3 c3) := hc6 4 (by decide)
  have x5 : w.cell? ⟨b, off + i * 6 + 5, none⟩ = some (.int .i64 pos) := hc6 5 (by decide)
  obtain ⟨es, body, els, hs, _, hb, hels⟩ := py hrep
  have hmem : l.getD i default ∈ l := by rw [List.getD_eq_getElem?_getD, List.getElem?_eq_getElem hil]; exact List.getElem_mem hil
  have hih := ih _ hmem
  rw [hs] at hih HLAST
  have HB := zh (fun W (hW : Below w.heap.size w W) => (hih W (.slice s2 n2 c2)).1 (hb.keep (Stays.of_below hW)))
  have HL := zh (fun W (hW : Below w.heap.size w W) => (hih W (.slice s3 n3 c3)).2 (hels.keep (Stays.of_below hW)))
  replace HLAST := zh (HLAST.out.trans (endsS.eq_1 op text es body els pos))
  have eI : (l.length : Int) - 1 = (i : Int) := by omega
  have g0 : (0 : Int) ≤ (i : Int) := by omega
  have g1 : (i : Int) < (l.length : Int) := by omega
  have g2 : ¬ (l.length : Int) = 0 := by omega
  have hcm2 := hcm
  unfold maxLen at hcm2
  clear hrow hsz hit ih hc6 hcs hrep hcell hih hb hels hs hcm hl hi
  simp only [St.body, St.els] at HB HL
  generalize bK l = E at *
  go_enter Tryz.func59, Tryz.ntmps59
  go_upto_region 4 with fail
  have hb1 : Below w.heap.size w (w.alloc (.cells #[.int .i64 op, .string text, .slice s1 n1 c1, .slice s2 n2 c2, .slice s3 n3 c3, .int .i64 pos] 62)) := ae (Below.refl _ _) _
  have HSB : Hid ((w.alloc (.cells #[.int .i64 op, .string text, .slice s1 n1 c1, .slice s2 n2 c2, .slice s3 n3 c3, .int .i64 pos] 62)).heap[w.heap.size]? = some (.cells #[.int .i64 op, .string text, .slice s1 n1 c1, .slice s2 n2 c2, .slice s3 n3 c3, .int .i64 pos] 62 (0, 0))) := zh (ah _ _ _ rfl)
  have HB1 := zh hb1
  clear hb1 x0 x1 x2 x3 x4 x5
  generalize (w.alloc (.cells #[.int .i64 op, .string text, .slice s1 n1 c1, .slice s2 n2 c2, .slice s3 n3 c3, .int .i64 pos] 62)) = w1 at *
  generalize hSP : w.heap.size = SP at *
  obtain ⟨-, -, -, e3, e4, -⟩ := css HSB.out
  by_cases h5 : op = 5
  ·subst h5
   have e0 : w1.cell? ⟨SP, 0, none⟩ = some (.int .i64 5) := aa HSB.out (j := 0) rfl
   go_wp2_with fail
   exact bodyPost_ret (v := .bool true) (by simp [results, Tryz.results59, go_sem]) rfl ⟨by rw [HLAST.out]; rfl, by rw [hSP]; exact HB1.out⟩
  by_cases h3 : op = 3
  ·subst h3
   have e0 : w1.cell? ⟨SP, 0, none⟩ = some (.int .i64 3) := aa HSB.out (j := 0) rfl
   go_wp2_with fail
   refine (HB.out _ HB1.out).mono ?_
   rintro e w2 ⟨rfl, hb2⟩
   have HB2 := zh (HB1.out.trans (hb2.mono (Nat.le_of_lt (ad HSB.out))))
   have HS2 := zh ((hb2.block _ (ad HSB.out)).trans HSB.out)
   clear hb2 e0 e3 e4
   generalize bK body = q at *
   have f4 : w2.cell? ⟨SP, 4, none⟩ = some (.slice s3 n3 c3) := aa HS2.out (j := 4) rfl
   cases q
   ·go_wp2_with fail
    exact bodyPost_ret (v := .bool false) (by simp [results, Tryz.results59, go_sem]) rfl ⟨by rw [HLAST.out]; rfl, by rw [hSP]; exact HB2.out⟩
   ·go_wp2_with fail
    refine (HL.out _ HB2.out).mono ?_
    rintro e w3 ⟨rfl, hb3⟩
    have HB3 := zh (HB2.out.trans (hb3.mono (Nat.le_of_lt (ad HS2.out))))
    clear hb3 f4
    generalize bK els = q at *
    go_wp2_with fail
    exact bodyPost_ret (v := .bool q) (by simp [results, Tryz.results59, go_sem]) rfl ⟨by rw [HLAST.out]; rfl, by rw [hSP]; exact HB3.out⟩
  ·have HOP := zh (And.intro h5 h3)
   have e0 : w1.cell? ⟨SP, 0, none⟩ = some (.int .i64 op) := aa HSB.out (j := 0) rfl
   go_wp2_with fail
   exact bodyPost_ret (v := .bool false) (by simp [results, Tryz.results59, go_sem, HOP.out.1]) rfl ⟨by rw [HLAST.out, beq_false_of_ne HOP.out.1, beq_false_of_ne HOP.out.2]; rfl, by rw [hSP]; exact HB1.out⟩
theorem gu (l : List St) (w : World) (u : Value) (hr : RepSts Any w u l) :
    Calls Tryz.prog 59 #[u] w fun e w' => e = .returned (.bool (bK l)) ∧ Below w.heap.size w w' :=
 mq l (fun s _ w u => ⟨gu s.body w u, gu s.els w u⟩) w u hr
termination_by SizeOf.sizeOf l
decreasing_by
 ·exact (St.body_lt (by assumption)).1
 ·exact (St.body_lt (by assumption)).2
theorem jg (b : Nat) (m : List (ByteArray × Value)) (w : World) (h : MapAt w b m) :
    Calls Tryz.prog 27 #[.map (some b)] w fun e w' => e = .returned (.map (some w.heap.size)) ∧ MapAt w' w.heap.size m ∧ Below w.heap.size w w' := by
 obtain ⟨es, clock, hb, hm⟩ := h
 have hq := fun w => run_eql_map_nil_sl (P := Tryz.prog) w 68 _ _ (some b) eP
 go_enter Tryz.func27, Tryz.ntmps27
 go_wp2
 rw [run_callFunc_extern Tryz.func55 (by kernel_rfl) (by kernel_rfl) (by kernel_rfl) (e := Extern.MapsClone.clone) (by kernel_rfl), run_maps_clone_sl w 68 hb]
 simp only [Result.andThen]
 rw [Oper.upon_value]
 go_wp2
 rw [run_typeAssert_map_sl _ 68 20 _ _ _ eP]
 simp only [Result.andThen]
 rw [Oper.upon_value]
 go_wp2
 go_ret
 exact ⟨rfl, ⟨es, clock, ah _ _ _ rfl, hm⟩, ae (Below.refl _ _) _⟩
def FxR (B M NB r : Nat) (w w' : World) : Prop := OnS (fun k => k = r ∨ Turns B M NB w k) w w'
theorem Fx.toR {B M NB r : Nat} {w w' : World} (h : Fx B M NB w w') : FxR B M NB r w w' := h.mono fun _ hk => .inr hk
theorem Turns.backR {B M NB r : Nat} {a b : World} (h : FxR B M NB r a b) {k : Nat} (hk : Turns B M NB b k) : (k = r ∨ Turns B M NB a k) ∨ a.heap.size ≤ k := by
 by_cases hl : a.heap.size ≤ k
 ·exact .inr hl
 ·by_cases ht : k = r ∨ Turns B M NB a k
  ·exact .inl ht
  ·have e := h.block k (by omega) ht
   exact .inl (.inr ⟨hk.1, hk.2.imp id (fun q => q.imp (fun q => q.keep e.symm) (fun q => q.imp (fun q => q.keep e.symm) (fun q => q.imp (fun q => ⟨q.1.keep e.symm, q.2⟩) (fun q => q.keep e.symm))))⟩)
theorem FxR.trans {B M NB r : Nat} {a b c : World} (h : FxR B M NB r a b) (g : FxR B M NB r b c) : FxR B M NB r a c :=
 OnS.new h g fun _ hk => hk.elim (fun e => .inl (.inl e)) (fun q => Turns.backR h q)
theorem Fx.newR {B M NB r : Nat} {a b c : World} (h : Fx B M NB a b) (g : FxR B M NB r b c) (hr : a.heap.size ≤ r) : Fx B M NB a c :=
 OnS.new h g fun k hk => hk.elim (fun e => .inr (by omega)) (fun q => Turns.back h q)
theorem FxR.below {B M NB r : Nat} {w w' : World} (h : FxR B M NB r w w') (hB : B ≤ w.heap.size) (hr : B ≤ r) : Below B w w' := ⟨h.os, h.tape, h.output, h.size, fun i hi => h.block i (by omega) (fun q => q.elim (fun e => by omega) (fun q => by have := q.1; omega))⟩
theorem FxR.obj {B M NB r : Nat} {w w' : World} (h : FxR B M NB r w w') {k : Nat} {arr : Array Value} {t : TypeId} {fz : Nat × Nat} (ho : w.heap[k]? = some (.cells arr t fz)) (hn : k ≠ NB) (hr : k ≠ r) (h1 : t ≠ 73) (h2 : t ≠ 70) (h3 : t ≠ 38) (h4 : t ≠ 22) : w'.heap[k]? = some (.cells arr t fz) :=
 OnS.obj h (fun q => by
   have ht : OfTy w k t := ⟨_, _, ho⟩
   rcases q with q | q
   · exact hr q
   rcases q.2 with q | q | q | q | q
   · exact hn q
   · exact ht.ne q h1 rfl
   · exact ht.ne q h2 rfl
   · exact ht.ne q.1 h3 rfl
   · exact ht.ne q h4 rfl) ho
theorem CoW.stepR {B M MB TB NB r : Nat} {fv : Value} {F : List Fn} {w0 w w' : World} {s s' : CS} (h : CoW B M MB TB NB fv F w0 w s) (hm : MkAt B M w' MB TB NB fv s') (hf : FxR B M NB r w w') (hr : B ≤ r) : CoW B M MB TB NB fv F w0 w' s' :=
 ⟨h.old.trans (hf.below h.le hr), hm, h.sg.below (hf.below h.le hr) h.sb, h.sb, h.fn.keep (Stays.of_lt (hf.below h.le hr)), Nat.le_trans h.le hf.size⟩
theorem MkAt.onMap {B M MB TB NB r : Nat} {fv : Value} {w w' : World} {s : CS} (h : MkAt B M w MB TB NB fv s) (ho : On r w w') (hnt : ∀ t, ¬ OfTy w r t) (hr : r ≠ NB) : MkAt B M w' MB TB NB fv s := by
 obtain ⟨iv, h1, h2⟩ := h.m
 obtain ⟨tv, vs, h3, h4, h5⟩ := h.t
 have hk : ∀ {k : Nat} {t : TypeId}, OfTy w k t → w'.heap[k]? = w.heap[k]? := fun {k t} ht => ho.block k ht.lt (fun e => by injection e with e; exact hnt t (e ▸ ht))
 refine ⟨h.bm, h.mm, h.ml, h.bt, h.bn, ⟨iv, (hk ⟨_, _, h1⟩).trans h1, ba h2 fun k q => hk (aZ h2 q)⟩, ⟨tv, vs, (hk ⟨_, _, h3⟩).trans h3, ba h4 fun k q => hk (aZ h4 q), fun i hi => ?_⟩, h.n.keep (ho.block _ h.n.lt (fun e => hr (by injection e with e; exact e.symm)))⟩
 obtain ⟨v, q1, b, cap, q2, q3, q4, q5, q6⟩ := h5 i hi
 exact ⟨v, q1, b, cap, q2, q3, q4, q5.keep (hk q5), fun j hj => (World.cell?_of_block (w := w) (hk q5)).trans (q6 j hj)⟩
def jP (n : Nat) (s : CS) : Prop := s.ins.length + 16 * n ≤ 900000 ∧ s.texts.length + n ≤ 900000 ∧ 0 ≤ s.slots ∧ s.slots + 2 * n ≤ 900000
def pK (B M MB TB NB : Nat) (fv : Value) (F : List Fn) (w0 : World) (cs : List Value) (x : St) : Prop := ∀ (w : World) (s : CS) (r : Nat) (v : bg), CoW B M MB TB NB fv F w0 w s → SlAt w r v → r ≠ NB → B ≤ r → jP (szS x) s →
 Calls Tryz.prog 28 #[.pointer (some ⟨MB, 0, none⟩), .agg cs.toArray, .map (some r)] w fun e w' => e = .returned (.tuple #[]) ∧ MkAt B M w' MB TB NB fv (dT F x (v, s)).2 ∧ SlAt w' r (dT F x (v, s)).1 ∧ FxR B M NB r w w'
def hJ (B M MB TB NB : Nat) (fv : Value) (F : List Fn) (w0 : World) (u : Value) (l : List St) : Prop := ∀ (w : World) (s : CS) (r : Nat) (v : bg), CoW B M MB TB NB fv F w0 w s → SlAt w r v → r ≠ NB → B ≤ r → jP (bC l) s →
 Calls Tryz.prog 18 #[.pointer (some ⟨MB, 0, none⟩), u, .map (some r)] w (qu B M MB TB NB fv (aI F l (v, s)).2 w)
theorem iP (F : List Fn) : ∀ (l : List St) (x : St) (p : bg × CS), aI F (l ++ [x]) p = dT F x (aI F l p)
 | [], x, p => by rw [List.nil_append, aI, aI, aI]
 | y :: l, x, p => by rw [List.cons_append, aI, aI, iP F l x]
theorem iE : ∀ (l : List St) (i : Nat), i < l.length → bC (l.take i) + szS (l.getD i default) ≤ bC l
 | x :: l, 0, _ => by rw [List.take_zero, bC, bC]; show 0 + szS x ≤ _; omega
 | x :: l, i + 1, h => by
  have := iE l i (by simpa using h)
  rw [List.take_succ_cons, bC, bC]
  show szS x + bC (l.take i) + szS (l.getD i default) ≤ _
  omega
theorem oT {S : Nat → Prop} {w : World} {cs : List Value} {s : St} (h : RepSt S w cs s) : ∃ op text s1 n1 c1 s2 n2 c2 s3 n3 c3 pos, cs = [.int .i64 op, .string text, .slice s1 n1 c1, .slice s2 n2 c2, .slice s3 n3 c3, .int .i64 pos] := gR h
structure BlkW (B M MB TB NB : Nat) (fv : Value) (F : List Fn) (w0 w W : World) (r' : Nat) (p : bg × CS) : Prop where
 c : CoW B M MB TB NB fv F w0 W p.2
 v : SlAt W r' p.1
 f : Fx B M NB w W
theorem kV (B M MB TB NB : Nat) (fv : Value) (F : List Fn) (w0 : World) (l : List St) (u : Value) (hr : RepSts (fun b => b < B) w0 u l) (ih : ∀ x, x ∈ l → ∀ cs, RepSt (fun b => b < B) w0 cs x → pK B M MB TB NB fv F w0 cs x) : hJ B M MB TB NB fv F w0 u l := by
 intro w s r v hc hsl hrn hrb hroom
 obtain ⟨cs, ⟨s0, kc, rfl, hle, hcm, _, hrow, hsz⟩, hit⟩ := hr
 have HROW := zh hrow
 have HIT := zh hit
 have HIH := zh ih
 have HRM := zh hroom
 unfold maxLen at hcm
 have hlen : l.length ≤ 9223372036854775807 := by omega
 have HCL := zh (jg r _ w hsl)
 have HCW := zh hc
 have HNS : Hid (∀ t, ¬ OfTy w NB t) := zh hc.ma.n.noTy
 have HNL : Hid (NB < w.heap.size) := zh hc.ma.n.lt
 have HBL : Hid (B ≤ w.heap.size) := zh hc.le
 generalize hE : (aI F l (v, s)).2 = E
 have HE := zh hE.symm
 clear hrow hit hsz hle hcm hc hsl hrn ih hroom hE hrb
 go_enter Tryz.func18, Tryz.ntmps18
 go_wp2_with fail
 refine HCL.out.mono ?_
 rintro e w1 ⟨rfl, hm, hb⟩
 have HW1 : Hid (BlkW B M MB TB NB fv F w0 w w1 w.heap.size (v, s)) := zh ⟨HCW.out.below hb, hm, Fx.of_below hb⟩
 clear hm hb
 generalize hRP : w.heap.size = RP at *
 have HRP := zh hRP
 clear hRP
 go_wp2_with fail
 go_loopg [13] l.length (fun g t13 wr => ∃ i : Nat, i + g = l.length ∧ t13 = .int .i64 (i : Int) ∧ BlkW B M MB TB NB fv F w0 w wr RP (aI F (l.take i) (v, s)))
 case atStart => exact ⟨0, Nat.zero_add _, rfl, by rw [List.take_zero, aI]; exact HW1.out⟩
 case round =>
  clear HW1
  obtain ⟨i, hig, rfl, hew⟩ := hrel
  have HW := zh hew
  clear hew
  by_cases hlt : i < l.length
  ·obtain ⟨kb, koff, hs0, hkb, _, hcell⟩ := HROW.out (by omega)
   subst hs0
   have hrep := HIT.out i hlt
   obtain ⟨ko, kt, k1, m1, d1, k2, m2, d2, k3, m3, d3, kp, hcs⟩ := oT hrep
   rw [hcs] at hrep
   have hc6 : ∀ j, j < 6 → wr.cell? ⟨kb, koff + i * 6 + j, none⟩ = (cs i)[j]? := fun j hj => (HW.out.c.old.cell (p := ⟨kb, _, none⟩) hkb).trans (hcell i hlt j hj)
   rw [hcs] at hc6
   have x0 : wr.cell? ⟨kb, koff + i * 6, none⟩ = some (.int .i64 ko) := hc6 0 (by decide)
   have x1 : wr.cell? ⟨kb, koff + i * 6 + 1, none⟩ = some (.string kt) := hc6 1 (by decide)
   have x2 : wr.cell? ⟨kb, koff + i * 6 + 2, none⟩ = some (.slice k1 m1 d1) := hc6 2 (by decide)
   have x3 : wr.cell? ⟨kb, koff + i * 6 + 3, none⟩ = some (.slice k2 m2 d2) := hc6 3 (by decide)
   have x4 : wr.cell? ⟨kb, koff + i * 6 + 4, none⟩ = some (.slice k3 m3 d3) := hc6 4 (by decide)
   have x5 : wr.cell? ⟨kb, koff + i * 6 + 5, none⟩ = some (.int .i64 kp) := hc6 5 (by decide)
   have HKX := zh (HIH.out _ (dd default hlt) _ hrep)
   have HRI : Hid (jP (szS (l.getD i default)) (aI F (l.take i) (v, s)).2) := zh (by obtain ⟨q1, q2, q3, q4⟩ := HRM.out; have q5 := bv F (l.take i) v s; have q6 := iE l i hlt; obtain ⟨b1, b2, b3, b4, b5, b6⟩ := q5; exact ⟨by omega, by omega, by omega, by omega⟩)
   have HSN := zh (iP F (l.take i) (l.getD i default) (v, s))
   rw [← cS default l i hlt] at HSN
   have HBA : Hid (Below wr.heap.size wr (wr.alloc (.cells #[.int .i64 ko, .string kt, .slice k1 m1 d1, .slice k2 m2 d2, .slice k3 m3 d3, .int .i64 kp] 62))) := zh (ae (Below.refl _ _) _)
   have HWA : Hid (BlkW B M MB TB NB fv F w0 w (wr.alloc (.cells #[.int .i64 ko, .string kt, .slice k1 m1 d1, .slice k2 m2 d2, .slice k3 m3 d3, .int .i64 kp] 62)) RP (aI F (l.take i) (v, s))) := zh ⟨HW.out.c.below HBA.out, SlAt.below HW.out.v HBA.out, HW.out.f.trans (Fx.of_below HBA.out)⟩
   clear hrep hc6 hcs hcell
   generalize l.getD i default = kx at *
   generalize aI F (l.take i) (v, s) = sk at *
   obtain ⟨vk, sk⟩ := sk
   go_wp2_with fail
   refine (HKX.out _ sk RP vk HWA.out.c HWA.out.v (by have := HNL.out; omega) HBL.out HRI.out).mono ?_
   rintro e w9 ⟨rfl, hm, hv, hf⟩
   rw [← HSN.out] at hm hv
   have HW9 : Hid (BlkW B M MB TB NB fv F w0 w w9 RP (aI F (l.take (i + 1)) (v, s))) := zh ⟨HWA.out.c.stepR hm hf HBL.out, hv, HWA.out.f.newR hf (by rw [HRP.out]; exact Nat.le_refl _)⟩
   clear hm hv hf
   go_wp2_with fail
   go_roundg (l.length - i - 1)
   case measure => omega
   case rel => exact ⟨i + 1, by omega, by go_num, HW9.out⟩
  ·obtain rfl : i = l.length := by omega
   rw [List.take_of_length_le (Nat.le_refl _)] at HW
   go_wp2_with fail
   go_end0
   exact ⟨rfl, by rw [HE.out]; exact HW.out.c.ma, HW.out.f⟩
def lF (F : List Fn) (v : bg) (text : ByteArray) (body : List St) (s : CS) : CS :=
 let name := s.slots
 let s := bh (bh s)
 let s := aq 6 (name + 1) s
 let s := aq 6 name s
 let begin' := s.ins.length
 let s := aq 5 name s
 let s := aq 5 (name + 1) s
 let s := aq 7 6 s
 let end' := s.ins.length
 let s := aq 16 0 s
 let s := aq 1 1 s
 let s := (aI F body (bJ v text name, s)).2
 let s := aq 5 name s
 let s := aq 2 1 s
 let s := aq 7 1 s
 let s := aq 6 name s
 let s := aq 15 begin' s
 cQ end' s
theorem ow (B M MB TB NB : Nat) (fv : Value) (F : List Fn) (w0 : World) (op pos : Int) (text : ByteArray) (pa pb : Option Addr) (na ca nb cb : Nat) (bu : Value) (body : List St) (hbody : hJ B M MB TB NB fv F w0 bu body) (w : World) (s : CS) (r : Nat) (v : bg) (hc : CoW B M MB TB NB fv F w0 w s) (hsl : SlAt w r v) (hrn : r ≠ NB) (hrb : B ≤ r) (hroom : s.ins.length + 16 * bC body + 15 ≤ 900000 ∧ s.texts.length + bC body ≤ 900000 ∧ 0 ≤ s.slots ∧ s.slots + 2 * bC body + 2 ≤ 900000) :
    Calls Tryz.prog 60 #[.pointer (some ⟨MB, 0, none⟩), .agg #[.int .i64 op, .string text, .slice pa na ca, bu, .slice pb nb cb, .int .i64 pos], .map (some r)] w (qu B M MB TB NB fv (lF F v text body s) w) := by
 obtain ⟨hr1, hr2, hr3, hr4⟩ := hroom
 obtain ⟨s1, hs1⟩ : ∃ x, x = bh s := ⟨_, rfl⟩
 have e1 : s1.ins.length = s.ins.length ∧ s1.texts.length = s.texts.length ∧ s1.slots = s.slots + 1 := by rw [hs1]; simp [bh]
 obtain ⟨s2, hs2⟩ : ∃ x, x = bh s1 := ⟨_, rfl⟩
 have e2 : s2.ins.length = s1.ins.length ∧ s2.texts.length = s1.texts.length ∧ s2.slots = s1.slots + 1 := by rw [hs2]; simp [bh]
 obtain ⟨s3, hs3⟩ : ∃ x, x = aq 6 (s.slots + 1) s2 := ⟨_, rfl⟩
 have e3 : s3.ins.length = s2.ins.length + 1 ∧ s3.texts.length = s2.texts.length ∧ s3.slots = s2.slots := by rw [hs3]; simp [aq]
 obtain ⟨s4, hs4⟩ : ∃ x, x = aq 6 s.slots s3 := ⟨_, rfl⟩
 have e4 : s4.ins.length = s3.ins.length + 1 ∧ s4.texts.length = s3.texts.length ∧ s4.slots = s3.slots := by rw [hs4]; simp [aq]
 obtain ⟨s5, hs5⟩ : ∃ x, x = aq 5 s.slots s4 := ⟨_, rfl⟩
 have e5 : s5.ins.length = s4.ins.length + 1 ∧ s5.texts.length = s4.texts.length ∧ s5.slots = s4.slots := by rw [hs5]; simp [aq]
 obtain ⟨s6, hs6⟩ : ∃ x, x = aq 5 (s.slots + 1) s5 := ⟨_, rfl⟩
 have e6 : s6.ins.length = s5.ins.length + 1 ∧ s6.texts.length = s5.texts.length ∧ s6.slots = s5.slots := by rw [hs6]; simp [aq]
 obtain ⟨s7, hs7⟩ : ∃ x, x = aq 7 6 s6 := ⟨_, rfl⟩
 have e7 : s7.ins.length = s6.ins.length + 1 ∧ s7.texts.length = s6.texts.length ∧ s7.slots = s6.slots := by rw [hs7]; simp [aq]
 obtain ⟨s8, hs8⟩ : ∃ x, x = aq 16 0 s7 := ⟨_, rfl⟩
 have e8 : s8.ins.length = s7.ins.length + 1 ∧ s8.texts.length = s7.texts.length ∧ s8.slots = s7.slots := by rw [hs8]; simp [aq]
 obtain ⟨s9, hs9⟩ : ∃ x, x = aq 1 1 s8 := ⟨_, rfl⟩
 have e9 : s9.ins.length = s8.ins.length + 1 ∧ s9.texts.length = s8.texts.length ∧ s9.slots = s8.slots := by rw [hs9]; simp [aq]
 obtain ⟨s10, hs10⟩ : ∃ x, x = (aI F body (bJ v text s.slots, s9)).2 := ⟨_, rfl⟩
 have e10 := bv F body (bJ v text s.slots) s9
 rw [← hs10] at e10
 obtain ⟨f101, f102, f103, f104, f105, f106⟩ := e10
 obtain ⟨s11, hs11⟩ : ∃ x, x = aq 5 s.slots s10 := ⟨_, rfl⟩
 have e11 : s11.ins.length = s10.ins.length + 1 ∧ s11.texts.length = s10.texts.length ∧ s11.slots = s10.slots := by rw [hs11]; simp [aq]
 obtain ⟨s12, hs12⟩ : ∃ x, x = aq 2 1 s11 := ⟨_, rfl⟩
 have e12 : s12.ins.length = s11.ins.length + 1 ∧ s12.texts.length = s11.texts.length ∧ s12.slots = s11.slots := by rw [hs12]; simp [aq]
 obtain ⟨s13, hs13⟩ : ∃ x, x = aq 7 1 s12 := ⟨_, rfl⟩
 have e13 : s13.ins.length = s12.ins.length + 1 ∧ s13.texts.length = s12.texts.length ∧ s13.slots = s12.slots := by rw [hs13]; simp [aq]
 obtain ⟨s14, hs14⟩ : ∃ x, x = aq 6 s.slots s13 := ⟨_, rfl⟩
 have e14 : s14.ins.length = s13.ins.length + 1 ∧ s14.texts.length = s13.texts.length ∧ s14.slots = s13.slots := by rw [hs14]; simp [aq]
 obtain ⟨s15, hs15⟩ : ∃ x, x = aq 15 (s4.ins.length : Nat) s14 := ⟨_, rfl⟩
 have e15 : s15.ins.length = s14.ins.length + 1 ∧ s15.texts.length = s14.texts.length ∧ s15.slots = s14.slots := by rw [hs15]; simp [aq]
 obtain ⟨s16, hs16⟩ : ∃ x, x = cQ s7.ins.length s15 := ⟨_, rfl⟩
 have e16 : s16.ins.length = s15.ins.length ∧ s16.texts.length = s15.texts.length ∧ s16.slots = s15.slots := by rw [hs16]; simp [cQ]
 have HL1 : Hid (s1.ins.length ≤ 1000000) := zh (by omega)
 have HL2 : Hid (s2.ins.length ≤ 1000000) := zh (by omega)
 have HL3 : Hid (s3.ins.length ≤ 1000000) := zh (by omega)
 have HL4 : Hid (s4.ins.length ≤ 1000000) := zh (by omega)
 have HL5 : Hid (s5.ins.length ≤ 1000000) := zh (by omega)
 have HL6 : Hid (s6.ins.length ≤ 1000000) := zh (by omega)
 have HL7 : Hid (s7.ins.length ≤ 1000000) := zh (by omega)
 have HL8 : Hid (s8.ins.length ≤ 1000000) := zh (by omega)
 have HL9 : Hid (s9.ins.length ≤ 1000000) := zh (by omega)
 have HL10 : Hid (s10.ins.length ≤ 1000000) := zh (by omega)
 have HL11 : Hid (s11.ins.length ≤ 1000000) := zh (by omega)
 have HL12 : Hid (s12.ins.length ≤ 1000000) := zh (by omega)
 have HL13 : Hid (s13.ins.length ≤ 1000000) := zh (by omega)
 have HL14 : Hid (s14.ins.length ≤ 1000000) := zh (by omega)
 have HL15 : Hid (s15.ins.length ≤ 1000000) := zh (by omega)
 have HL16 : Hid (s16.ins.length ≤ 1000000) := zh (by omega)
 have HL0 : Hid (s.ins.length ≤ 1000000) := zh (by omega)
 have HSL0 : Hid (0 ≤ s.slots ∧ s.slots ≤ 1000000 ∧ 0 ≤ s1.slots ∧ s1.slots ≤ 1000000 ∧ s1.slots = s.slots + 1) := zh (by omega)
 have HRB : Hid (jP (bC body) s9) := zh ⟨by omega, by omega, by omega, by omega⟩
 have HLD : Hid (s7.ins.length < s15.ins.length) := zh (by omega)
 have HS1 := zh hs1
 have HS2 := zh hs2
 have HS3 := zh hs3
 have HS4 := zh hs4
 have HS5 := zh hs5
 have HS6 := zh hs6
 have HS7 := zh hs7
 have HS8 := zh hs8
 have HS9 := zh hs9
 have HS10 := zh hs10
 have HS11 := zh hs11
 have HS12 := zh hs12
 have HS13 := zh hs13
 have HS14 := zh hs14
 have HS15 := zh hs15
 have HS16 := zh hs16
 generalize hE : lF F v text body s = E
 have HE : Hid (E = s16) := zh (by rw [← hE]; unfold lF; rw [hs16, hs15, hs14, hs13, hs12, hs11, hs10, hs9, hs8, hs7, hs6, hs5, hs4, hs3, hs2, hs1])
 have HSV : Hid (s1.slots = s.slots + 1) := zh HSL0.out.2.2.2.2
 obtain ⟨SL, hSL⟩ : ∃ x, x = s.slots := ⟨_, rfl⟩
 have HSLE := zh hSL
 have HCW := zh hc
 have HSLT := zh hsl
 have HR := zh hrn
 have HBD := zh hbody
 have HRG := zh hrb
 have hsl0 : 0 ≤ SL ∧ SL ≤ 1000000 := by rw [hSL]; exact ⟨HSL0.out.1, HSL0.out.2.1⟩
 obtain ⟨hsl0, hsl1⟩ := hsl0
 clear hc hsl hrn hbody hrb hE hSL hs1 hs2 hs3 hs4 hs5 hs6 hs7 hs8 hs9 hs10 hs11 hs12 hs13 hs14 hs15 hs16 e1 e2 e3 e4 e5 e6 e7 e8 e9 e11 e12 e13 e14 e15 e16 f101 f102 f103 f104 f105 f106 hr1 hr2 hr3 hr4
 go_enter Tryz.func60, Tryz.ntmps60
 go_upto_region 1 with fail
 have HB0 : Hid (Below w.heap.size w (w.alloc (.cells #[.int .i64 op, .string text, .slice pa na ca, bu, .slice pb nb cb, .int .i64 pos] 62))) := zh (ae (Below.refl _ _) _)
 have HBX : Hid ((w.alloc (.cells #[.int .i64 op, .string text, .slice pa na ca, bu, .slice pb nb cb, .int .i64 pos] 62)).heap[w.heap.size]? = some (.cells #[.int .i64 op, .string text, .slice pa na ca, bu, .slice pb nb cb, .int .i64 pos] 62 (0, 0))) := zh (ah _ _ _ rfl)
 generalize (w.alloc (.cells #[.int .i64 op, .string text, .slice pa na ca, bu, .slice pb nb cb, .int .i64 pos] 62)) = w1 at *
 generalize hXB : w.heap.size = XB at *
 have HXE := zh hXB
 clear hXB
 have HC := zh (HCW.out.below (by rw [HXE.out]; exact HB0.out))
 have HV := zh (SlAt.below HSLT.out (by rw [HXE.out]; exact HB0.out))
 have HF : Hid (Fx B M NB w w1) := zh (Fx.of_below (by rw [HXE.out]; exact HB0.out))
 clear HB0 HSLT HCW
 go_wp2_with fail
 refine (gV B M MB TB NB fv _ _ HC.out.ma HSL0.out.1 HSL0.out.2.1).mono ?_
 rintro e v1 ⟨rfl, hm, hf⟩
 have hnt := HC.out.ma.n.noTy
 rw [← HS1.out] at hm
 replace HV := zh (SlAt.fx hf HV.out HR.out)
 replace HBX := zh (hf.obj HBX.out (aA hnt HBX.out) (by decide) (by decide) (by decide) (by decide))
 replace HF := zh (HF.out.trans hf)
 replace HC := zh (HC.out.step hm hf)
 clear hm hf hnt
 rw [← HSLE.out]
 go_wp2_with fail
 refine (gV B M MB TB NB fv _ _ HC.out.ma HSL0.out.2.2.1 HSL0.out.2.2.2.1).mono ?_
 rintro e v2 ⟨rfl, hm, hf⟩
 have hnt := HC.out.ma.n.noTy
 rw [← HS2.out] at hm
 replace HV := zh (SlAt.fx hf HV.out HR.out)
 replace HBX := zh (hf.obj HBX.out (aA hnt HBX.out) (by decide) (by decide) (by decide) (by decide))
 replace HF := zh (HF.out.trans hf)
 replace HC := zh (HC.out.step hm hf)
 clear hm hf hnt
 rw [HSV.out, ← HSLE.out]
 rw [← HSLE.out] at HS3
 rw [← HSLE.out] at HS4
 rw [← HSLE.out] at HS5
 rw [← HSLE.out] at HS6
 rw [← HSLE.out] at HS10
 rw [← HSLE.out] at HS11
 rw [← HSLE.out] at HS14
 go_wp2_with fail
 refine (aP B M MB TB NB fv _ 6 (SL + 1) _ HC.out.ma HL2.out).mono ?_
 rintro e v3 ⟨cl3, rfl, hled, hm, hf⟩
 clear hled
 have hnt := HC.out.ma.n.noTy
 rw [← HS3.out] at hm
 replace HV := zh (SlAt.fx hf HV.out HR.out)
 replace HBX := zh (hf.obj HBX.out (aA hnt HBX.out) (by decide) (by decide) (by decide) (by decide))
 replace HF := zh (HF.out.trans hf)
 replace HC := zh (HC.out.step hm hf)
 clear hm hf hnt
 go_wp2_with fail
 refine (aP B M MB TB NB fv _ 6 SL _ HC.out.ma HL3.out).mono ?_
 rintro e v4 ⟨cl4, rfl, hled, hm, hf⟩
 clear hled
 have hnt := HC.out.ma.n.noTy
 rw [← HS4.out] at hm
 replace HV := zh (SlAt.fx hf HV.out HR.out)
 replace HBX := zh (hf.obj HBX.out (aA hnt HBX.out) (by decide) (by decide) (by decide) (by decide))
 replace HF := zh (HF.out.trans hf)
 replace HC := zh (HC.out.step hm hf)
 clear hm hf hnt
 obtain ⟨iv, hmm, hoo⟩ := HC.out.ma.m
 obtain ⟨sv4, cv4, rfl, _, _, _, _⟩ := aY hoo
 have HM2 := zh (aa hmm (j := 2) rfl : v4.cell? ⟨MB, 2, none⟩ = some (.slice sv4 s4.ins.length cv4))
 clear hmm hoo
 have hm2 := HM2.out
 go_upto_region 5 with fail
 clear hm2
 go_wp2_with fail
 refine (aP B M MB TB NB fv _ 5 SL _ HC.out.ma HL4.out).mono ?_
 rintro e v5 ⟨cl5, rfl, hled, hm, hf⟩
 clear hled
 have hnt := HC.out.ma.n.noTy
 rw [← HS5.out] at hm
 replace HV := zh (SlAt.fx hf HV.out HR.out)
 replace HBX := zh (hf.obj HBX.out (aA hnt HBX.out) (by decide) (by decide) (by decide) (by decide))
 replace HF := zh (HF.out.trans hf)
 replace HC := zh (HC.out.step hm hf)
 clear hm hf hnt
 go_wp2_with fail
 refine (aP B M MB TB NB fv _ 5 (SL + 1) _ HC.out.ma HL5.out).mono ?_
 rintro e v6 ⟨cl6, rfl, hled, hm, hf⟩
 clear hled
 have hnt := HC.out.ma.n.noTy
 rw [← HS6.out] at hm
 replace HV := zh (SlAt.fx hf HV.out HR.out)
 replace HBX := zh (hf.obj HBX.out (aA hnt HBX.out) (by decide) (by decide) (by decide) (by decide))
 replace HF := zh (HF.out.trans hf)
 replace HC := zh (HC.out.step hm hf)
 clear hm hf hnt
 have HNU := zh (eE ⟨#[60]⟩ v6 HC.out.sg)
 rw [show cL (⟨#[60]⟩ : ByteArray).toList = 6 by kernel_rfl] at HNU
 go_wp2_with fail
 refine HNU.out.mono ?_
 rintro e we ⟨rfl, rfl⟩
 clear HNU
 go_wp2_with fail
 refine (aP B M MB TB NB fv _ 7 6 _ HC.out.ma HL6.out).mono ?_
 rintro e v7 ⟨cl7, rfl, hled, hm, hf⟩
 clear hled
 have hnt := HC.out.ma.n.noTy
 rw [← HS7.out] at hm
 replace HV := zh (SlAt.fx hf HV.out HR.out)
 replace HBX := zh (hf.obj HBX.out (aA hnt HBX.out) (by decide) (by decide) (by decide) (by decide))
 replace HF := zh (HF.out.trans hf)
 replace HC := zh (HC.out.step hm hf)
 clear hm hf hnt
 go_wp2_with fail
 refine (aP B M MB TB NB fv _ 16 0 _ HC.out.ma HL7.out).mono ?_
 rintro e v8 ⟨cl8, rfl, hled, hm, hf⟩
 have HLE0 := zh hled
 clear hled
 have hnt := HC.out.ma.n.noTy
 rw [← HS8.out] at hm
 replace HV := zh (SlAt.fx hf HV.out HR.out)
 replace HBX := zh (hf.obj HBX.out (aA hnt HBX.out) (by decide) (by decide) (by decide) (by decide))
 replace HF := zh (HF.out.trans hf)
 replace HC := zh (HC.out.step hm hf)
 clear hm hf hnt
 have HLE := zh HLE0.out
 clear HLE0
 go_wp2_with fail
 refine (js B M MB TB NB fv _ _ HC.out.ma HL8.out).mono ?_
 rintro e v9 ⟨rfl, hm, hf⟩
 have hnt := HC.out.ma.n.noTy
 rw [← HS9.out] at hm
 replace HV := zh (SlAt.fx hf HV.out HR.out)
 replace HBX := zh (hf.obj HBX.out (aA hnt HBX.out) (by decide) (by decide) (by decide) (by decide))
 replace HLE := zh (HLE.out.fx hf hnt)
 replace HF := zh (HF.out.trans hf)
 replace HC := zh (HC.out.step hm hf)
 clear hm hf hnt
 have HCL := zh (jg r _ v9 HV.out)
 have HF0 := zh HF.out.size
 go_wp2_with fail
 refine HCL.out.mono ?_
 rintro e w2 ⟨rfl, hcm, hb⟩
 have HB2 := zh hb
 obtain ⟨RP, hRP⟩ : ∃ x, x = v9.heap.size := ⟨_, rfl⟩
 rw [← hRP] at hcm ⊢
 have HRPE := zh hRP
 have HRPG : Hid (B ≤ RP ∧ RP ≠ NB ∧ w.heap.size ≤ RP ∧ XB ≠ RP) := zh (by rw [hRP]; exact ⟨HC.out.le, by have := HC.out.ma.n.lt; omega, HF0.out, by have := ad HBX.out; omega⟩)
 replace HLE := zh (HLE.out.fx (Fx.of_below HB2.out : Fx B M NB _ _) HC.out.ma.n.noTy)
 replace HC := zh (HC.out.below HB2.out)
 replace HV := zh (SlAt.below HV.out HB2.out)
 replace HBX := zh ((HB2.out.block _ (ad HBX.out)).trans HBX.out)
 replace HF := zh (HF.out.trans (Fx.of_below HB2.out))
 have HNT : Hid (∀ t, ¬ OfTy w2 RP t) := zh (MapAt.noTy hcm)
 obtain ⟨hput, hv3, hon⟩ := gc (r := RP) (v := v) hcm text SL
 have HON := zh hon
 have HV3 := zh hv3
 generalize eM w2 RP text (.int .i64 SL) = w3 at *
 clear hon hv3 hcm hb HCL hRP
 have c1 : w2.cell? ⟨XB, 1, none⟩ = some (.string text) := aa HBX.out (j := 1) rfl
 go_upto_region 12 with fail
 clear c1 hput
 have hfr : FxR B M NB RP w2 w3 := OnS.of_on HON.out (.inl rfl)
 have HMK := zh (HC.out.ma.onMap HON.out HNT.out HRPG.out.2.1)
 replace HBX := zh (hfr.obj HBX.out (aA HC.out.ma.n.noTy HBX.out) HRPG.out.2.2.2 (by decide) (by decide) (by decide) (by decide))
 obtain ⟨b1, b2, hcl, hl1, hl2⟩ := HLE.out
 have HLE2 : Hid (Led w3 cl8 MB s7.ins.length) := zh ⟨b1, b2, hcl, hfr.obj hl1 (aA HC.out.ma.n.noTy hl1) (fun e => HNT.out _ ⟨_, _, by rw [← e]; exact hl1⟩) (by decide) (by decide) (by decide) (by decide), hfr.obj hl2 (aA HC.out.ma.n.noTy hl2) (fun e => HNT.out _ ⟨_, _, by rw [← e]; exact hl2⟩) (by decide) (by decide) (by decide) (by decide)⟩
 clear HLE hl1 hl2
 have HLE := zh HLE2.out
 clear HLE2
 replace HF := zh (HF.out.newR hfr HRPG.out.2.2.1)
 replace HC := zh (HC.out.stepR HMK.out hfr HRPG.out.1)
 clear HMK hfr HV HON
 have HVP := zh HV3.out
 clear HV3
 have HRP := zh HRPG.out.2.1
 have c3 : w3.cell? ⟨XB, 3, none⟩ = some (bu) := aa HBX.out (j := 3) rfl
 go_wp2_with fail
 refine (HBD.out _ _ RP (bJ v text SL) HC.out HVP.out HRPG.out.2.1 HRPG.out.1 HRB.out).mono ?_
 rintro e v10 ⟨rfl, hm, hf⟩
 have hnt := HC.out.ma.n.noTy
 rw [← HS10.out] at hm
 replace HVP := zh (SlAt.fx hf HVP.out HRP.out)
 replace HBX := zh (hf.obj HBX.out (aA hnt HBX.out) (by decide) (by decide) (by decide) (by decide))
 replace HLE := zh (HLE.out.fx hf hnt)
 replace HF := zh (HF.out.trans hf)
 replace HC := zh (HC.out.step hm hf)
 clear hm hf hnt
 clear c3
 go_wp2_with fail
 refine (aP B M MB TB NB fv _ 5 SL _ HC.out.ma HL10.out).mono ?_
 rintro e v11 ⟨cl11, rfl, hled, hm, hf⟩
 clear hled
 have hnt := HC.out.ma.n.noTy
 rw [← HS11.out] at hm
 replace HVP := zh (SlAt.fx hf HVP.out HRP.out)
 replace HBX := zh (hf.obj HBX.out (aA hnt HBX.out) (by decide) (by decide) (by decide) (by decide))
 replace HLE := zh (HLE.out.fx hf hnt)
 replace HF := zh (HF.out.trans hf)
 replace HC := zh (HC.out.step hm hf)
 clear hm hf hnt
 go_wp2_with fail
 refine (aP B M MB TB NB fv _ 2 1 _ HC.out.ma HL11.out).mono ?_
 rintro e v12 ⟨cl12, rfl, hled, hm, hf⟩
 clear hled
 have hnt := HC.out.ma.n.noTy
 rw [← HS12.out] at hm
 replace HVP := zh (SlAt.fx hf HVP.out HRP.out)
 replace HBX := zh (hf.obj HBX.out (aA hnt HBX.out) (by decide) (by decide) (by decide) (by decide))
 replace HLE := zh (HLE.out.fx hf hnt)
 replace HF := zh (HF.out.trans hf)
 replace HC := zh (HC.out.step hm hf)
 clear hm hf hnt
 have HNU := zh (eE ⟨#[43]⟩ v12 HC.out.sg)
 rw [show cL (⟨#[43]⟩ : ByteArray).toList = 1 by kernel_rfl] at HNU
 go_wp2_with fail
 refine HNU.out.mono ?_
 rintro e we ⟨rfl, rfl⟩
 clear HNU
 go_wp2_with fail
 refine (aP B M MB TB NB fv _ 7 1 _ HC.out.ma HL12.out).mono ?_
 rintro e v13 ⟨cl13, rfl, hled, hm, hf⟩
 clear hled
 have hnt := HC.out.ma.n.noTy
 rw [← HS13.out] at hm
 replace HVP := zh (SlAt.fx hf HVP.out HRP.out)
 replace HBX := zh (hf.obj HBX.out (aA hnt HBX.out) (by decide) (by decide) (by decide) (by decide))
 replace HLE := zh (HLE.out.fx hf hnt)
 replace HF := zh (HF.out.trans hf)
 replace HC := zh (HC.out.step hm hf)
 clear hm hf hnt
 go_wp2_with fail
 refine (aP B M MB TB NB fv _ 6 SL _ HC.out.ma HL13.out).mono ?_
 rintro e v14 ⟨cl14, rfl, hled, hm, hf⟩
 clear hled
 have hnt := HC.out.ma.n.noTy
 rw [← HS14.out] at hm
 replace HVP := zh (SlAt.fx hf HVP.out HRP.out)
 replace HBX := zh (hf.obj HBX.out (aA hnt HBX.out) (by decide) (by decide) (by decide) (by decide))
 replace HLE := zh (HLE.out.fx hf hnt)
 replace HF := zh (HF.out.trans hf)
 replace HC := zh (HC.out.step hm hf)
 clear hm hf hnt
 go_wp2_with fail
 refine (aP B M MB TB NB fv _ 15 (s4.ins.length : Nat) _ HC.out.ma HL14.out).mono ?_
 rintro e v15 ⟨cl15, rfl, hled, hm, hf⟩
 clear hled
 have hnt := HC.out.ma.n.noTy
 rw [← HS15.out] at hm
 replace HVP := zh (SlAt.fx hf HVP.out HRP.out)
 replace HBX := zh (hf.obj HBX.out (aA hnt HBX.out) (by decide) (by decide) (by decide) (by decide))
 replace HLE := zh (HLE.out.fx hf hnt)
 replace HF := zh (HF.out.trans hf)
 replace HC := zh (HC.out.step hm hf)
 clear hm hf hnt
 obtain ⟨b1, b2, hcl, hl1, hl2⟩ := HLE.out
 subst hcl
 clear HLE
 have HL1 := zh hl1
 have HL2 := zh hl2
 clear hl1 hl2
 go_wp2_with fail
 refine (eC B M MB TB NB b1 b2 fv _ _ _ HC.out.ma HLD.out HL15.out HL1.out HL2.out).mono ?_
 rintro e v16 ⟨rfl, hm, hf⟩
 have hnt := HC.out.ma.n.noTy
 rw [← HS16.out] at hm
 replace HVP := zh (SlAt.fx hf HVP.out HRP.out)
 replace HBX := zh (hf.obj HBX.out (aA hnt HBX.out) (by decide) (by decide) (by decide) (by decide))
 replace HF := zh (HF.out.trans hf)
 replace HC := zh (HC.out.step hm hf)
 clear hm hf hnt
 clear HL1 HL2
 go_wp2_with fail
 go_end0
 exact ⟨rfl, by rw [HE.out]; exact HC.out.ma, HF.out⟩
end
end Go.Proofs.YtjblihabklemfaaGreatDoor
