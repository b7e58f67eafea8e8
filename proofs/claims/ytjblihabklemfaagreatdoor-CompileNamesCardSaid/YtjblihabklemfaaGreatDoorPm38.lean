/-
  Compile: part 38 of its proof: see the last text.
-/
import Derived.Test.YtjblihabklemfaaGreatDoorPm37
set_option maxRecDepth 100000
set_option maxHeartbeats 16000000
namespace Go.Proofs.YtjblihabklemfaaGreatDoor
section
open Go.RowKit
structure BoxA (W : World) (cb vr CP SP VP RB : Nat) (cells : Array Value) : Prop where
 c : W.heap[CP]? = some (.cells #[.pointer (some ⟨cb, 0, none⟩)] 90 (0, 0))
 s : W.heap[SP]? = some (.cells cells 62 (0, 0))
 v : W.heap[VP]? = some (.cells #[.map (some vr)] 121 (0, 0))
 r : W.heap[RB]? = some (.cells #[.int .i64 0, .int .i64 0] 96 (0, 0))
theorem BoxA.below {W W' : World} {cb vr CP SP VP RB : Nat} {cells : Array Value} (h : BoxA W cb vr CP SP VP RB cells) (hb : Below W.heap.size W W') : BoxA W' cb vr CP SP VP RB cells :=
 ⟨(hb.block _ (ad h.c)).trans h.c, (hb.block _ (ad h.s)).trans h.s, (hb.block _ (ad h.v)).trans h.v, (hb.block _ (ad h.r)).trans h.r⟩
theorem BoxA.set {W : World} {cb vr CP SP VP RB : Nat} {cells : Array Value} (h : BoxA W cb vr CP SP VP RB cells) (FP j : Nat) (u : Value) (hn : CP ≠ FP ∧ SP ≠ FP ∧ VP ≠ FP ∧ RB ≠ FP) : BoxA (W.setCell ⟨FP, j, none⟩ u) cb vr CP SP VP RB cells :=
 ⟨(af _ _ _ _ hn.1).trans h.c, (af _ _ _ _ hn.2.1).trans h.s, (af _ _ _ _ hn.2.2.1).trans h.v, (af _ _ _ _ hn.2.2.2).trans h.r⟩
def S8 (VP vr CP cb SP xb xoff n1 c1 : Nat) (xop xnum : Int) (xt : ByteArray) (xs : Option Addr) (xn xc : Nat) (xpos : Int) (W : World) : Prop :=
 W.cell? ⟨VP, 0, none⟩ = some (.map (some vr)) ∧ W.cell? ⟨CP, 0, none⟩ = some (.pointer (some ⟨cb, 0, none⟩)) ∧ W.cell? ⟨SP, 2, none⟩ = some (.slice (some ⟨xb, xoff, none⟩) n1 c1) ∧ W.cell? ⟨xb, xoff, none⟩ = some (.int .i64 xop) ∧ W.cell? ⟨xb, xoff + 1, none⟩ = some (.int .i64 xnum) ∧ W.cell? ⟨xb, xoff + 2, none⟩ = some (.string xt) ∧ W.cell? ⟨xb, xoff + 3, none⟩ = some (.slice xs xn xc) ∧ W.cell? ⟨xb, xoff + 4, none⟩ = some (.int .i64 xpos)
theorem S8.below {VP vr CP cb SP xb xoff n1 c1 : Nat} {xop xnum : Int} {xt : ByteArray} {xs : Option Addr} {xn xc : Nat} {xpos : Int} {W W' : World} (h : S8 VP vr CP cb SP xb xoff n1 c1 xop xnum xt xs xn xc xpos W) (hb : Below W.heap.size W W') : S8 VP vr CP cb SP xb xoff n1 c1 xop xnum xt xs xn xc xpos W' := by
 obtain ⟨a, b, c, d, e, f, g, h⟩ := h
 exact ⟨(hb.cell (am a)).trans a, (hb.cell (am b)).trans b, (hb.cell (am c)).trans c, (hb.cell (am d)).trans d, (hb.cell (am e)).trans e, (hb.cell (am f)).trans f, (hb.cell (am g)).trans g, (hb.cell (am h)).trans h⟩
theorem shared {P : Prop} {G : Nat → Nat → World → Prop} (T : Nat → Nat → World → Prop) (h1 : (∀ a b w, T a b w → G a b w) → P) (h2 : ∀ a b w, T a b w → G a b w) : P := h1 h2
theorem qk {w : World} {x y z : Value} {f g h : Flt} (hx : FnTells w x f) (hy : FnTells w y g) (hz : FnTells w z h) (W : World) (hb : Below w.heap.size w W) (t : TypeId) : o9 (W.alloc (.cells #[x, y, z] t)) (.slice (some ⟨W.heap.size, 0, none⟩) 3 3) [f, g, h] := by
 have hb2 : Below w.heap.size w (W.alloc (.cells #[x, y, z] t)) := hb.trans ((ae (Below.refl W.heap.size W) _).mono hb.size)
 refine ⟨W.heap.size, 0, 3, rfl, by rw [ag]; exact Nat.lt_succ_self _, by show (3 : Nat) ≤ 1000; decide, fun i hi => ?_⟩
 have hi3 : i < 3 := hi
 rw [Nat.zero_add]
 rcases (show i = 0 ∨ i = 1 ∨ i = 2 by omega) with rfl | rfl | rfl
 ·exact ⟨x, aw _ _ _ _ _ _ rfl rfl, hx.below hb2⟩
 ·exact ⟨y, aw _ _ _ _ _ _ rfl rfl, hy.below hb2⟩
 ·exact ⟨z, aw _ _ _ _ _ _ rfl rfl, hz.below hb2⟩
theorem qQ {w : World} {x y : Value} {f g : Flt} (hx : FnTells w x f) (hy : FnTells w y g) (W : World) (hb : Below w.heap.size w W) (t : TypeId) : o9 (W.alloc (.cells #[x, y] t)) (.slice (some ⟨W.heap.size, 0, none⟩) 2 2) [f, g] := by
 have hb2 : Below w.heap.size w (W.alloc (.cells #[x, y] t)) := hb.trans ((ae (Below.refl W.heap.size W) _).mono hb.size)
 refine ⟨W.heap.size, 0, 2, rfl, by rw [ag]; exact Nat.lt_succ_self _, by show (2 : Nat) ≤ 1000; decide, fun i hi => ?_⟩
 have hi2 : i < 2 := hi
 rw [Nat.zero_add]
 rcases (show i = 0 ∨ i = 1 by omega) with rfl | rfl
 ·exact ⟨x, aw _ _ _ _ _ _ rfl rfl, hx.below hb2⟩
 ·exact ⟨y, aw _ _ _ _ _ _ rfl rfl, hy.below hb2⟩
theorem jC {h : Flt} (hc : h.1 = 0 → h = okF) : orF h okF = h := by
 unfold orF
 split
 ·rfl
 ·rename_i g
  exact (hc (by simpa using g)).symm
theorem iS (F : aQ) (res : Int) (l : List St) (v : aV) : (be F res l v).1 = 0 → be F res l v = okF := by
 induction l generalizing v with
 | nil => intro _; rw [be]
 | cons s l ih =>
  rw [be]
  split
  ·rename_i g; intro h; exact absurd h g
  ·exact ih _
theorem rk (F : aQ) (res op : Int) (text : ByteArray) (es : List Ex) (body els : List St) (pos : Int) (v : aV) (h : cw (.mk op text es body els pos) = false) : bR F res (.mk op text es body els pos) v = (v, (51, pos)) := by
 rw [bR, if_pos h]
theorem tw (F : aQ) (res : Int) (text : ByteArray) (es : List Ex) (body els : List St) (pos : Int) (v : aV) (h : cw (.mk 3 text es body els pos) = true) : bR F res (.mk 3 text es body els pos) v = (v, aO [dn F v (es.headD default) 2, be F res body v, be F res els v]) := by
 rw [bR, if_neg (by rw [h]; simp)]
 unfold aO aO aO aO
 rw [jC (iS F res els v)]
 rfl
theorem mj (F : aQ) (v : aV) (x : Ex) (t : Int) : (dn F v x t).1 = 0 → dn F v x t = okF := by
 unfold dn ip
 split
 ·rename_i g; intro h; exact absurd h g
 ·unfold noC
  split
  ·intro _; rfl
  ·intro h; exact absurd h (by simp)
theorem tC (F : aQ) (res : Int) (text : ByteArray) (es : List Ex) (body els : List St) (pos : Int) (v : aV) (is : Bool) (hi : (aF v text).isSome = is) (h : cw (.mk 4 text es body els pos) = true) : bR F res (.mk 4 text es body els pos) v = (v, aO [bV F v es [1, 1], noC (!is) 53 pos, be F res body (bJ v text (1, true))]) := by
 rw [bR, if_neg (by rw [h]; simp), hi]
 unfold aO aO aO aO
 rw [jC (iS F res body _)]
 rfl
theorem tI (F : aQ) (res : Int) (text : ByteArray) (es : List Ex) (body els : List St) (pos : Int) (v : aV) (is : Bool) (nt : Int) (nf : Bool) (hi : (aF v text).isSome = is) (hn : (aF v text).getD (0, false) = (nt, nf)) (h : cw (.mk 2 text es body els pos) = true) : bR F res (.mk 2 text es body els pos) v = (v, aO [noC is 52 pos, noC (!nf) 51 pos, dn F v (es.headD default) nt]) := by
 rw [bR, if_neg (by rw [h]; simp), hi, hn]
 unfold aO aO aO aO
 rw [jC (mj F v _ nt)]
 rfl
theorem gx (b : Bool) (e p : Int) (he : ¬ e = 0) : (noC b e p).1 = 0 → noC b e p = okF := by
 unfold noC
 split
 ·intro _; rfl
 ·intro h; exact absurd h he
theorem tt (F : aQ) (res : Int) (text : ByteArray) (es : List Ex) (body els : List St) (pos : Int) (v : aV) (h : cw (.mk 8 text es body els pos) = true) : bR F res (.mk 8 text es body els pos) v = (v, aO [(aG F v (es.headD default)).2, noC ((es.headD default).op == 5) 51 (es.headD default).pos]) := by
 rw [bR, if_neg (by rw [h]; simp)]
 unfold aO aO aO
 rw [jC (gx _ _ _ (by decide))]
 rfl
theorem pk {op : Int} {n b o : Nat} (h : gI op n b o = true) : n ≤ 2 := by
 unfold gI at h
 repeat' split at h
 all_goals (simp at h; try omega)
theorem qV (F : aQ) (res op : Int) (text : ByteArray) (es : List Ex) (body els : List St) (pos : Int) (v : aV) (h1 : ¬ op = 1) (h2 : ¬ op = 2) (h3 : ¬ op = 3) (h4 : ¬ op = 4) (h5 : ¬ op = 5) (h8 : ¬ op = 8) (h : cw (.mk op text es body els pos) = true) : bR F res (.mk op text es body els pos) v = (v, bV F v es [3, 3]) := by
 rw [bR, if_neg (by rw [h]; simp)]
 simp only [h1, h2, h3, h4, h5, h8, if_false]
theorem sR (F : aQ) (res : Int) (text : ByteArray) (es : List Ex) (body els : List St) (pos : Int) (v : aV) (hl : es.length = 0) (h : cw (.mk 5 text es body els pos) = true) : bR F res (.mk 5 text es body els pos) v = (v, noC (res == 0) 51 pos) := by
 rw [bR, if_neg (by rw [h]; simp)]
 simp [hl]
theorem sX (F : aQ) (res : Int) (text : ByteArray) (es : List Ex) (body els : List St) (pos : Int) (v : aV) (hl : ¬ es.length = 0) (h : cw (.mk 5 text es body els pos) = true) : bR F res (.mk 5 text es body els pos) v = (v, aO [(aG F v (es.headD default)).2, noC ((aG F v (es.headD default)).1 == res && (aG F v (es.headD default)).1 != 0) 51 (es.headD default).pos]) := by
 rw [bR, if_neg (by rw [h]; simp)]
 unfold aO aO aO
 rw [jC (gx _ _ _ (by decide))]
 simp [hl]
theorem tG (F : aQ) (res : Int) (text : ByteArray) (es : List Ex) (body els : List St) (pos : Int) (v : aV) (is : Bool) (hi : (aF v text).isSome = is) (h : cw (.mk 1 text es body els pos) = true) : bR F res (.mk 1 text es body els pos) v = (bJ v text ((aG F v (es.headD default)).1, false), aO [(aG F v (es.headD default)).2, noC ((aG F v (es.headD default)).1 != 0) 51 (es.headD default).pos, noC (!is) 53 pos]) := by
 rw [bR, if_neg (by rw [h]; simp), hi]
 unfold aO aO aO aO
 rw [jC (gx _ _ _ (by decide))]
 rfl
theorem oe (cb : Nat) (F : aQ) (res : Int) (hx : ∀ x, gG cb F res x) (op' : Int) (text' : ByteArray) (es : List Ex) (body els : List St) (pos' : Int) (hsb : ∀ x, x ∈ body → kL cb F res x) (hse : ∀ x, x ∈ els → kL cb F res x) : kL cb F res (.mk op' text' es body els pos') := by
 intro v vr w op text s1 n1 c1 s2 n2 c2 s3 n3 c3 pos h hr
 obtain ⟨ve, vb, vl, e, he, hb, hle⟩ := hr.parts
 simp only [List.cons.injEq, Value.int.injEq, Value.string.injEq, true_and, and_true] at e
 obtain ⟨rfl, rfl, rfl, rfl, rfl, rfl⟩ := e
 have hn1 : n1 = es.length := by obtain ⟨_, ⟨_, _, e, _⟩, _⟩ := he; injection e
 have hn2 : n2 = body.length := by obtain ⟨_, ⟨_, _, e, _⟩, _⟩ := hb; injection e
 have hn3 : n3 = els.length := by obtain ⟨_, ⟨_, _, e, _⟩, _⟩ := hle; injection e
 have HCT := zh h
 have HEX := zh hx
 have HSB := zh hsb
 have HSE := zh hse
 have HES := zh he
 have HBO := zh hb
 have HEL := zh hle
 generalize hC : bR F res (.mk op text es body els pos) v = C
 have HSH : Hid (cw (.mk op text es body els pos) = gI op n1 n2 n3) := zh (by rw [oC, hn1, hn2, hn3]; rfl)
 have HC := zh hC.symm
 have HN := zh (And.intro hn1 (And.intro hn2 hn3))
 clear h hr hx hsb hse he hb hle hC hn1 hn2 hn3
 have HB : Hid (Below w.heap.size w ((((w.alloc (.cells #[.pointer (some ⟨cb, 0, none⟩)] 90)).alloc (.cells #[.int .i64 op, .string text, .slice s1 n1 c1, .slice s2 n2 c2, .slice s3 n3 c3, .int .i64 pos] 62)).alloc (.cells #[.map (some vr)] 121)).alloc (.cells #[.int .i64 0, .int .i64 0] 96))) := zh (ae (ae (ae (ae (Below.refl _ _) _) _) _) _)
 have HBX : Hid (BoxA ((((w.alloc (.cells #[.pointer (some ⟨cb, 0, none⟩)] 90)).alloc (.cells #[.int .i64 op, .string text, .slice s1 n1 c1, .slice s2 n2 c2, .slice s3 n3 c3, .int .i64 pos] 62)).alloc (.cells #[.map (some vr)] 121)).alloc (.cells #[.int .i64 0, .int .i64 0] 96)) cb vr w.heap.size (w.heap.size + 1) (w.heap.size + 2) (w.heap.size + 3) #[.int .i64 op, .string text, .slice s1 n1 c1, .slice s2 n2 c2, .slice s3 n3 c3, .int .i64 pos]) := zh ⟨au _ _ _ _ (au _ _ _ _ (au _ _ _ _ (ah _ _ _ rfl))), au _ _ _ _ (au _ _ _ _ (ah _ _ _ (ag _ _))), au _ _ _ _ (ah _ _ _ (by rw [ag, ag])), ah _ _ _ (by rw [ag, ag, ag])⟩
 go_enter Tryz.func85, Tryz.ntmps85
 go_upto_region 1 with fail
 generalize ((((w.alloc (.cells #[.pointer (some ⟨cb, 0, none⟩)] 90)).alloc (.cells #[.int .i64 op, .string text, .slice s1 n1 c1, .slice s2 n2 c2, .slice s3 n3 c3, .int .i64 pos] 62)).alloc (.cells #[.map (some vr)] 121)).alloc (.cells #[.int .i64 0, .int .i64 0] 96)) = w1 at *
 generalize hRB : w.heap.size + 3 = RB at *
 generalize hVP : w.heap.size + 2 = VP at *
 generalize hSP : w.heap.size + 1 = SP at *
 generalize hCP : w.heap.size = CP at *
 have HXR : Hid (w.heap.size = CP ∧ CP < RB ∧ CP ≤ RB) := zh ⟨hCP, by omega, by omega⟩
 have HNE : Hid (¬ RB = CP ∧ ¬ RB = SP ∧ ¬ RB = VP) := zh ⟨by omega, by omega, by omega⟩
 clear hRB hVP hSP hCP
 obtain ⟨s0, q1, q2, q3, s4, s5, -⟩ := css HBX.out.s
 go_wp2_with fail
 refine (mS op pos text s1 s2 s3 n1 n2 n3 c1 c2 c3 _).mono ?_
 rintro e w2 ⟨rfl, hb2⟩
 clear s0 q1 q2 q3 s4 s5
 have HB0 := HBX
 replace HBX := zh (HBX.out.below hb2)
 replace HB := zh (HB.out.trans (hb2.mono (Nat.le_of_lt (ad HB0.out.c))))
 clear HB0
 clear hb2
 generalize hsh : gI op n1 n2 n3 = sh at *
 cases sh
 ·have HE := zh (HC.out.trans (rk F res op text es body els pos v HSH.out))
  have s5 : w2.cell? ⟨SP, 5, none⟩ = some (.int .i64 pos) := aa HBX.out.s (j := 5) rfl
  have v0 : w2.cell? ⟨VP, 0, none⟩ = some (.map (some vr)) := aa HBX.out.v (j := 0) rfl
  obtain ⟨r0, r1, -⟩ := css HBX.out.r
  obtain ⟨k0, k1, -⟩ := fzs HBX.out.r
  go_upto_region 2 with fail
  go_region
  go_wp2_with fail
  have hfin := (HB.out.setCell (p := ⟨RB, 0, none⟩) HXR.out.2.2 (.int .i64 51)).setCell (p := ⟨RB, 1, none⟩) HXR.out.2.2 (.int .i64 pos)
  rw [← HXR.out.1] at hfin
  replace hfin := hfin.drew
  refine bodyPost_ret (v := .tuple #[.map (some vr), .agg #[.int .i64 51, .int .i64 pos]]) (by simp [results, Tryz.results85, go_sem, r0, r1]) rfl ⟨vr, by rw [HE.out]; rfl, ?_, hfin⟩
  rw [HE.out]
  exact HCT.out.view.below hfin
 have q1 : w2.cell? ⟨SP, 1, none⟩ = some (.string text) := aa HBX.out.s (j := 1) rfl
 have v0 : w2.cell? ⟨VP, 0, none⟩ = some (.map (some vr)) := aa HBX.out.v (j := 0) rfl
 have hlk := gy (HCT.out.view.below (by rw [HXR.out.1]; exact HB.out)) text
 generalize hnm : (aF v text).getD (0, false) = nm at *
 generalize his : (aF v text).isSome = is at *
 obtain ⟨nt, nf⟩ := nm
 unfold nmV at hlk
 dsimp only at hlk
 go_upto_region 4 with fail
 have hb3 : Below w2.heap.size w2 ((w2.alloc (.cells #[.int .i64 nt, .bool nf] 123)).alloc (.cells #[.bool is] 4)) := ae (ae (Below.refl _ _) _) _
 have HNB : Hid (((w2.alloc (.cells #[.int .i64 nt, .bool nf] 123)).alloc (.cells #[.bool is] 4)).heap[w2.heap.size]? = some (.cells #[.int .i64 nt, .bool nf] 123 (0, 0))) := zh (au _ _ _ _ (ah _ _ _ rfl))
 have HTB : Hid (((w2.alloc (.cells #[.int .i64 nt, .bool nf] 123)).alloc (.cells #[.bool is] 4)).heap[w2.heap.size + 1]? = some (.cells #[.bool is] 4 (0, 0))) := zh (ah _ _ _ (ag _ _))
 have HB0 := HBX
 replace HBX := zh (HBX.out.below hb3)
 replace HB := zh (HB.out.trans (hb3.mono (Nat.le_of_lt (ad HB0.out.c))))
 clear HB0
 clear hb3 hlk q1 v0
 generalize ((w2.alloc (.cells #[.int .i64 nt, .bool nf] 123)).alloc (.cells #[.bool is] 4)) = w3 at *
 generalize w2.heap.size + 1 = TB at *
 generalize w2.heap.size = NB at *
 have HCX := zh (HCT.out.below (by rw [HXR.out.1]; exact HB.out))
 have HST : Hid (Stays Any w w3) := zh (Stays.of_below (by rw [HXR.out.1]; exact HB.out))
 by_cases h3 : op = 3
 ·subst h3
  have s0 : w3.cell? ⟨SP, 0, none⟩ = some (.int .i64 3) := aa HBX.out.s (j := 0) rfl
  have hn0 : 0 < n1 := by have q : (n1 == 1) = true := hsh; have := eq_of_beq q; omega
  go_upto_region 13 with fail
  clear s0
  have HE := zh (HC.out.trans (tw F res text es body els pos v HSH.out))
  have HFN := zh (qk (sK HCX.out HBX.out.c HBX.out.v (by rw [← HN.out.1]; exact hn0) (HES.out.keep HST.out) (HEX.out _) HBX.out.s) (sN HSB.out HCX.out (HBO.out.keep HST.out) HBX.out.c HBX.out.s HBX.out.v) (sj HSE.out HCX.out (HEL.out.keep HST.out) HBX.out.c HBX.out.s HBX.out.v) w3.drew (Below.refl _ _).drew 127)
  generalize hq : aO [dn F v (es.headD default) 2, be F res body v, be F res els v] = q at *
  obtain ⟨fe, fa⟩ := q
  have HFC := zh (dP _ _ _ HFN.out)
  rw [hq] at HFC
  clear hq HFN
  unfold bz at HFC
  dsimp only at HFC
  have HS0 : Hid (w3.drew.cell? ⟨VP, 0, none⟩ = some (.map (some vr))) := zh (aa HBX.out.v (j := 0) rfl)
  have hs0 := HS0.out
  refine az (S := (fun w' : World => w'.cell? ⟨VP, 0, none⟩ = some (.map (some vr)))) 6 (by kernel_rfl) (by kernel_rfl) (by exact HS0.out) (fun hHeld => ?_)
  simp only [List.take_succ_cons, List.take_zero, List.drop_succ_cons, List.drop_zero]
  refine tkA 0 ?_
  refine tkA 1 ?_
  refine tkA 2 ?_
  refine tkA 3 ?_
  refine rd1 4 fun K hK => ?_
  go_simp
  refine hK.out _ _ ?_ (fun hHeld => ?_)
  ·(try dsimp only)
   exact aj _ HS0.out
  clear hK K
  try go_simp
  refine rd1 5 fun K hK => ?_
  go_simp
  go_at_call 49
  refine HFC.out.mono ?_
  rintro e w5 ⟨rfl, hb5⟩
  have hb5' : Below w3.heap.size w3 w5 := ak (ae (av (Below.refl _ _)) _) hb5
  have HB0 := HBX
  replace HBX := zh (HBX.out.below hb5')
  replace HB := zh (HB.out.trans (hb5'.mono (Nat.le_of_lt (ad HB0.out.c))))
  clear HB0
  have HS5 : Hid (w5.cell? ⟨VP, 0, none⟩ = some (.map (some vr))) := zh (aa HBX.out.v (j := 0) rfl)
  clear hb5 hb5' hs0
  go_simp
  refine hK.out _ _ ?_ (fun hHeld => ?_)
  ·(try dsimp only)
   exact HS5.out
  clear hK K
  try go_simp
  refine wpAnyH_done (by kernel_rfl) ?_ _
  dsimp only [bT]
  obtain ⟨r0, r1, -⟩ := css HBX.out.r
  obtain ⟨k0, k1, -⟩ := fzs HBX.out.r
  go_wp2_with fail
  have hfin := (HB.out.setCell (p := ⟨RB, 0, none⟩) HXR.out.2.2 (.int .i64 fe)).setCell (p := ⟨RB, 1, none⟩) HXR.out.2.2 (.int .i64 fa)
  rw [← HXR.out.1] at hfin
  refine bodyPost_ret (v := .tuple #[.map (some vr), .agg #[.int .i64 fe, .int .i64 fa]]) (by simp [results, Tryz.results85, go_sem, r0, r1]) rfl ⟨vr, by rw [HE.out]; rfl, ?_, hfin⟩
  rw [HE.out]
  exact HCT.out.view.below hfin
 by_cases h4 : op = 4
 ·subst h4
  have s0 : w3.cell? ⟨SP, 0, none⟩ = some (.int .i64 4) := aa HBX.out.s (j := 0) rfl
  have hn2 : n1 = 2 := by have q : (n1 == 2 && n3 == 0) = true := hsh; rw [Bool.and_eq_true] at q; exact eq_of_beq q.1
  go_upto_region 15 with fail
  clear s0
  have HE := zh (HC.out.trans (tC F res text es body els pos v is his HSH.out))
  have HFN := zh (qk (re (fun x _ => HEX.out x) (by rw [← HN.out.1]; omega) HCX.out (HES.out.keep HST.out) HBX.out.c HBX.out.s HBX.out.v) (rh HTB.out HBX.out.s) (rJ HCX.out HBX.out.c HBX.out.v HSB.out (HBO.out.keep HST.out) HBX.out.s) w3.drew (Below.refl _ _).drew 127)
  generalize hq : aO [bV F v es [1, 1], noC (!is) 53 pos, be F res body (bJ v text (1, true))] = q at *
  obtain ⟨fe, fa⟩ := q
  have HFC := zh (dP _ _ _ HFN.out)
  rw [hq] at HFC
  clear hq HFN
  unfold bz at HFC
  dsimp only at HFC
  have HS0 : Hid (w3.drew.cell? ⟨VP, 0, none⟩ = some (.map (some vr))) := zh (aa HBX.out.v (j := 0) rfl)
  have hs0 := HS0.out
  refine az (S := (fun w' : World => w'.cell? ⟨VP, 0, none⟩ = some (.map (some vr)))) 6 (by kernel_rfl) (by kernel_rfl) (by exact HS0.out) (fun hHeld => ?_)
  simp only [List.take_succ_cons, List.take_zero, List.drop_succ_cons, List.drop_zero]
  refine tkA 0 ?_
  refine tkA 1 ?_
  refine tkA 2 ?_
  refine tkA 3 ?_
  refine rd1 4 fun K hK => ?_
  go_simp
  refine hK.out _ _ ?_ (fun hHeld => ?_)
  ·(try dsimp only)
   exact aj _ HS0.out
  clear hK K
  try go_simp
  refine rd1 5 fun K hK => ?_
  go_simp
  go_at_call 49
  refine HFC.out.mono ?_
  rintro e w5 ⟨rfl, hb5⟩
  have hb5' : Below w3.heap.size w3 w5 := ak (ae (av (Below.refl _ _)) _) hb5
  have HB0 := HBX
  replace HBX := zh (HBX.out.below hb5')
  replace HB := zh (HB.out.trans (hb5'.mono (Nat.le_of_lt (ad HB0.out.c))))
  clear HB0
  have HS5 : Hid (w5.cell? ⟨VP, 0, none⟩ = some (.map (some vr))) := zh (aa HBX.out.v (j := 0) rfl)
  clear hb5 hb5' hs0
  go_simp
  refine hK.out _ _ ?_ (fun hHeld => ?_)
  ·(try dsimp only)
   exact HS5.out
  clear hK K
  try go_simp
  refine wpAnyH_done (by kernel_rfl) ?_ _
  dsimp only [bT]
  obtain ⟨r0, r1, -⟩ := css HBX.out.r
  obtain ⟨k0, k1, -⟩ := fzs HBX.out.r
  go_wp2_with fail
  have hfin := (HB.out.setCell (p := ⟨RB, 0, none⟩) HXR.out.2.2 (.int .i64 fe)).setCell (p := ⟨RB, 1, none⟩) HXR.out.2.2 (.int .i64 fa)
  rw [← HXR.out.1] at hfin
  refine bodyPost_ret (v := .tuple #[.map (some vr), .agg #[.int .i64 fe, .int .i64 fa]]) (by simp [results, Tryz.results85, go_sem, r0, r1]) rfl ⟨vr, by rw [HE.out]; rfl, ?_, hfin⟩
  rw [HE.out]
  exact HCT.out.view.below hfin
 by_cases h2 : op = 2
 ·subst h2
  obtain ⟨s0, q1, -⟩ := css HBX.out.s
  have v0 : w3.cell? ⟨VP, 0, none⟩ = some (.map (some vr)) := aa HBX.out.v (j := 0) rfl
  have hn0 : 0 < n1 := by have q : (n1 == 1 && n2 == 0 && n3 == 0) = true := hsh; rw [Bool.and_eq_true, Bool.and_eq_true] at q; have := eq_of_beq q.1.1; omega
  have hlk := gy HCX.out.view text
  rw [hnm, his] at hlk
  unfold nmV at hlk
  dsimp only at hlk
  go_upto_region 11 with fail
  have hb4 : Below w3.heap.size w3 ((w3.alloc (.cells #[.int .i64 nt, .bool nf] 123)).alloc (.cells #[.bool is] 4)) := ae (ae (Below.refl _ _) _) _
  have HNM : Hid (((w3.alloc (.cells #[.int .i64 nt, .bool nf] 123)).alloc (.cells #[.bool is] 4)).heap[w3.heap.size]? = some (.cells #[.int .i64 nt, .bool nf] 123 (0, 0))) := zh (au _ _ _ _ (ah _ _ _ rfl))
  have HTM : Hid (((w3.alloc (.cells #[.int .i64 nt, .bool nf] 123)).alloc (.cells #[.bool is] 4)).heap[w3.heap.size + 1]? = some (.cells #[.bool is] 4 (0, 0))) := zh (ah _ _ _ (ag _ _))
  have HB0 := HBX
  replace HBX := zh (HBX.out.below hb4)
  replace HB := zh (HB.out.trans (hb4.mono (Nat.le_of_lt (ad HB0.out.c))))
  clear HB0
  clear hb4 hlk q1 v0 s0 HNB HTB HCX HST
  generalize ((w3.alloc (.cells #[.int .i64 nt, .bool nf] 123)).alloc (.cells #[.bool is] 4)) = w4 at *
  generalize w3.heap.size + 1 = TM at *
  generalize w3.heap.size = NM at *
  have HCX := zh (HCT.out.below (by rw [HXR.out.1]; exact HB.out))
  have HST : Hid (Stays Any w w4) := zh (Stays.of_below (by rw [HXR.out.1]; exact HB.out))
  have HE := zh (HC.out.trans (tI F res text es body els pos v is nt nf his hnm HSH.out))
  have HFN := zh (qk (rY HTM.out HBX.out.s) (rX HNM.out HBX.out.s) (sJ HCX.out HBX.out.c HBX.out.v (by rw [← HN.out.1]; exact hn0) (HES.out.keep HST.out) (HEX.out _) HBX.out.s HNM.out) w4.drew (Below.refl _ _).drew 127)
  generalize hq : aO [noC is 52 pos, noC (!nf) 51 pos, dn F v (es.headD default) nt] = q at *
  obtain ⟨fe, fa⟩ := q
  have HFC := zh (dP _ _ _ HFN.out)
  rw [hq] at HFC
  clear hq HFN
  unfold bz at HFC
  dsimp only at HFC
  have HS0 : Hid (w4.drew.cell? ⟨VP, 0, none⟩ = some (.map (some vr))) := zh (aa HBX.out.v (j := 0) rfl)
  have hs0 := HS0.out
  refine az (S := (fun w' : World => w'.cell? ⟨VP, 0, none⟩ = some (.map (some vr)))) 6 (by kernel_rfl) (by kernel_rfl) (by exact HS0.out) (fun hHeld => ?_)
  simp only [List.take_succ_cons, List.take_zero, List.drop_succ_cons, List.drop_zero]
  refine tkA 0 ?_
  refine tkA 1 ?_
  refine tkA 2 ?_
  refine tkA 3 ?_
  refine rd1 4 fun K hK => ?_
  go_simp
  refine hK.out _ _ ?_ (fun hHeld => ?_)
  ·(try dsimp only)
   exact aj _ HS0.out
  clear hK K
  try go_simp
  refine rd1 5 fun K hK => ?_
  go_simp
  go_at_call 49
  refine HFC.out.mono ?_
  rintro e w5 ⟨rfl, hb5⟩
  have hb5' : Below w4.heap.size w4 w5 := ak (ae (av (Below.refl _ _)) _) hb5
  have HB0 := HBX
  replace HBX := zh (HBX.out.below hb5')
  replace HB := zh (HB.out.trans (hb5'.mono (Nat.le_of_lt (ad HB0.out.c))))
  clear HB0
  have HS5 : Hid (w5.cell? ⟨VP, 0, none⟩ = some (.map (some vr))) := zh (aa HBX.out.v (j := 0) rfl)
  clear hb5 hb5' hs0
  go_simp
  refine hK.out _ _ ?_ (fun hHeld => ?_)
  ·(try dsimp only)
   exact HS5.out
  clear hK K
  try go_simp
  refine wpAnyH_done (by kernel_rfl) ?_ _
  dsimp only [bT]
  obtain ⟨r0, r1, -⟩ := css HBX.out.r
  obtain ⟨k0, k1, -⟩ := fzs HBX.out.r
  go_wp2_with fail
  have hfin := (HB.out.setCell (p := ⟨RB, 0, none⟩) HXR.out.2.2 (.int .i64 fe)).setCell (p := ⟨RB, 1, none⟩) HXR.out.2.2 (.int .i64 fa)
  rw [← HXR.out.1] at hfin
  refine bodyPost_ret (v := .tuple #[.map (some vr), .agg #[.int .i64 fe, .int .i64 fa]]) (by simp [results, Tryz.results85, go_sem, r0, r1]) rfl ⟨vr, by rw [HE.out]; rfl, ?_, hfin⟩
  rw [HE.out]
  exact HCT.out.view.below hfin
 by_cases h1 : op = 1
 ·subst h1
  replace HC := zh (HC.out.trans (tG F res text es body els pos v is his HSH.out))
  have hn0 : 0 < n1 := by have q : (n1 == 1 && n2 == 0 && n3 == 0) = true := hsh; rw [Bool.and_eq_true, Bool.and_eq_true] at q; have := eq_of_beq q.1.1; omega
  have s0 : w3.cell? ⟨SP, 0, none⟩ = some (.int .i64 1) := aa HBX.out.s (j := 0) rfl
  go_upto_region 6 with fail
  clear s0
  have HCPL : Hid (CP < w3.heap.size ∧ SP < w3.heap.size ∧ VP < w3.heap.size ∧ RB < w3.heap.size) := zh ⟨ad HBX.out.c, ad HBX.out.s, ad HBX.out.v, ad HBX.out.r⟩
  obtain ⟨xb, xoff, xop, xnum, xt, xs, xn, xc, xpos, rfl, hn1, hbl, y0, y1, y2, y3, y4, hrep⟩ := cJ (HES.out.keep HST.out) (by rw [← HN.out.1]; exact hn0)
  have HXP : Hid ((es.headD default).pos = xpos ∧ (es.headD default).op = xop) := zh (by obtain ⟨_, e, _⟩ := bL hrep; rw [e]; exact ⟨rfl, rfl⟩)
  have gn0 : (0 : Int) < (n1 : Int) := by omega
  have HCK := zh (fun W1 (h1 : Below w3.heap.size w3 W1) => HEX.out (es.headD default) v vr W1 xop xnum xpos xt xs xn xc (HCX.out.below h1) (hrep.keep (Stays.of_below h1)))
  have HSW : Hid (S8 VP vr CP cb SP xb xoff n1 c1 xop xnum xt xs xn xc xpos w3) := zh ⟨aa HBX.out.v (j := 0) rfl, aa HBX.out.c (j := 0) rfl, aa HBX.out.s (j := 2) rfl, y0, y1, y2, y3, y4⟩
  clear hrep y0 y1 y2 y3 y4
  generalize aG F v (es.headD default) = xr at *
  obtain ⟨t, fe, fa⟩ := xr
  unfold bz at HCK
  dsimp only at HCK HC
  apply shared (fun TP FP w8 => Below w3.heap.size w3 w8 ∧ w8.heap[TP]? = some (.cells #[.int .i64 t] 32 (0, 0)) ∧ w8.heap[FP]? = some (.cells #[.int .i64 fe, .int .i64 fa] 96 (0, 0)) ∧ w3.heap.size ≤ TP ∧ w3.heap.size ≤ FP ∧ ¬ TP = FP)
  intro HL
  have hs0 : S8 VP vr CP cb SP xb xoff n1 c1 xop xnum xt xs xn xc xpos w3.drew := HSW.out.below (av (Below.refl _ _))
  refine wp_region_held (S := S8 VP vr CP cb SP xb xoff n1 c1 xop xnum xt xs xn xc xpos) (by kernel_rfl) ?_
  refine tk (v := ?_) 0 (fun w hSw => ?_) ?_; rotate_left
  ·unfold S8 at hSw; go_simp; try with_reducible rfl
  refine tk (v := ?_) 1 (fun w hSw => ?_) ?_; rotate_left
  ·unfold S8 at hSw; go_simp; try with_reducible rfl
  refine tk (v := ?_) 2 (fun w hSw => ?_) ?_; rotate_left
  ·unfold S8 at hSw; go_simp; try with_reducible rfl
  refine tk (v := ?_) 3 (fun w hSw => ?_) ?_; rotate_left
  ·unfold S8 at hSw; go_simp; try with_reducible rfl
  refine tk (v := ?_) 4 (fun w hSw => ?_) ?_; rotate_left
  ·unfold S8 at hSw; go_simp; try with_reducible rfl
  refine tk (v := ?_) 5 (fun w hSw => ?_) ?_; rotate_left
  ·unfold S8 at hSw; go_simp; try with_reducible rfl
  have HBA0 : Hid (Below w3.heap.size w3 w3.drew) := zh (av (Below.refl _ _))
  refine wpAnyH_ready (rs := [6, 10, 11]) (by kernel_rfl) (by simp) ?_
  refine (AllReadyH.cons rfl (fun K hK => ?_) (AllReadyH.cons rfl (fun K hK => ?_) (AllReadyH.cons rfl (fun K hK => ?_) AllReadyH.nil)))
  ·go_simp
   go_at_call 103
   refine (HCK.out _ HBA0.out).mono ?_
   rintro e w5 ⟨rfl, hb5⟩
   have HBA1 := zh (HBA0.out.trans (hb5.mono HBA0.out.size))
   have HSZ := zh hb5.size
   clear hb5 hs0
   go_simp
   refine hK.out _ _ ?_ (fun hHeld => ?_)
   ·exact HSW.out.below HBA1.out
   clear hK K
   try go_simp
   refine tk (v := ?_) 7 (fun w hSw => ?_) ?_; rotate_left
   ·unfold S8 at hSw; go_simp; try with_reducible rfl
   refine tk (v := ?_) 8 (fun w hSw => ?_) ?_; rotate_left
   ·unfold S8 at hSw; go_simp; try with_reducible rfl
   refine tk (v := ?_) 9 (fun w hSw => ?_) ?_; rotate_left
   ·unfold S8 at hSw; go_simp; try with_reducible rfl
   refine wpAnyH_ready (rs := [10, 11]) (by kernel_rfl) (by simp) ?_
   refine (AllReadyH.cons rfl (fun K hK => ?_) (AllReadyH.cons rfl (fun K hK => ?_) AllReadyH.nil))
   ·go_simp
    have HBA2 : Hid (Below w3.heap.size w3 (w5.alloc (.cells #[.int .i64 0] 32))) := zh (ae HBA1.out _)
    have HKt : Hid ((w5.alloc (.cells #[.int .i64 0] 32)).heap[w5.heap.size]? = some (.cells #[.int .i64 0] 32 (0, 0))) := zh (ah _ _ _ rfl)
    refine hK.out _ _ ?_ (fun hHeld => ?_)
    ·exact HSW.out.below HBA2.out
    clear hK K
    try go_simp
    refine rd1 11 fun K hK => ?_
    go_simp
    have HBA3 : Hid (Below w3.heap.size w3 ((w5.alloc (.cells #[.int .i64 0] 32)).alloc (.cells #[.int .i64 0, .int .i64 0] 96))) := zh (ae HBA2.out _)
    have HKf : Hid (((w5.alloc (.cells #[.int .i64 0] 32)).alloc (.cells #[.int .i64 0, .int .i64 0] 96)).heap[(w5.alloc (.cells #[.int .i64 0] 32)).heap.size]? = some (.cells #[.int .i64 0, .int .i64 0] 96 (0, 0))) := zh (ah _ _ _ rfl)
    replace HKt : Hid (((w5.alloc (.cells #[.int .i64 0] 32)).alloc (.cells #[.int .i64 0, .int .i64 0] 96)).heap[_]? = _) := zh (au _ _ _ _ HKt.out)
    refine hK.out _ _ ?_ (fun hHeld => ?_)
    ·exact HSW.out.below HBA3.out
    clear hK K
    try go_simp
    obtain ⟨N3, hN3⟩ : ∃ N, N = w3.heap.size := ⟨_, rfl⟩
    have hs5 : w3.heap.size ≤ w5.heap.size := HBA1.out.size
    have f1 : Below N3 w3 ((w5.alloc (.cells #[.int .i64 0] 32)).alloc (.cells #[.int .i64 0, .int .i64 0] 96)) := by rw [hN3]; exact HBA3.out
    have f2 : ((w5.alloc (.cells #[.int .i64 0] 32)).alloc (.cells #[.int .i64 0, .int .i64 0] 96)).heap[w5.heap.size]? = some (.cells #[.int .i64 0] 32 (0, 0)) := by
     have q := HKt.out
     exact q
    have f3 : ((w5.alloc (.cells #[.int .i64 0] 32)).alloc (.cells #[.int .i64 0, .int .i64 0] 96)).heap[w5.heap.size + 1]? = some (.cells #[.int .i64 0, .int .i64 0] 96 (0, 0)) := by
     have q := HKf.out
     rw [ag] at q
     exact q
    have f4 : N3 ≤ w5.heap.size ∧ N3 ≤ w5.heap.size + 1 ∧ ¬ w5.heap.size = w5.heap.size + 1 := by omega
    revert f1 f2 f3 f4
    generalize ((w5.alloc (.cells #[.int .i64 0] 32)).alloc (.cells #[.int .i64 0, .int .i64 0] 96)) = w6
    generalize w5.heap.size + 1 = FP
    generalize w5.heap.size = TP
    intro f1 f2 f3 f4
    rw [hN3] at f1 f4
    have HF1 := zh f1
    have HF2 := zh f2
    have HF3 := zh f3
    have HF4 := zh f4
    clear f1 f2 f3 f4 hN3 hs5 HKt HKf
    have z0 : w6.cell? ⟨TP, 0, none⟩ = some (.int .i64 0) := aa HF2.out (j := 0) rfl
    have y0 : w6.frozen? ⟨TP, 0, none⟩ = false := ab HF2.out 0
    refine rd1 12 fun K hK => ?_
    go_simp
    have HG1 : Hid (Below w3.heap.size w3 (w6.setCell ⟨TP, 0, none⟩ (.int .i64 t))) := zh (HF1.out.setCell (p := ⟨TP, 0, none⟩) HF4.out.1 _)
    have HG2 : Hid ((w6.setCell ⟨TP, 0, none⟩ (.int .i64 t)).heap[TP]? = some (.cells #[.int .i64 t] 32 (0, 0))) := zh (ai HF2.out 0 _)
    have HG3 : Hid ((w6.setCell ⟨TP, 0, none⟩ (.int .i64 t)).heap[FP]? = some (.cells #[.int .i64 0, .int .i64 0] 96 (0, 0))) := zh ((af _ _ _ _ (fun e => HF4.out.2.2 e.symm)).trans HF3.out)
    refine hK.out _ _ ?_ (fun hHeld => ?_)
    ·exact HSW.out.below HG1.out
    clear hK K
    try go_simp
    clear z0 y0 HF1 HF2 HF3
    generalize (w6.setCell ⟨TP, 0, none⟩ (.int .i64 t)) = w7 at *
    obtain ⟨z0, z1, -⟩ := css HG3.out
    obtain ⟨y0, y1, -⟩ := fzs HG3.out
    refine rd1 13 fun K hK => ?_
    go_simp
    have HH1 := ((HG1.out.setCell (p := ⟨FP, 0, none⟩) HF4.out.2.1 (.int .i64 fe)).setCell (p := ⟨FP, 1, none⟩) HF4.out.2.1 (.int .i64 fa))
    refine hK.out _ _ ?_ (fun hHeld => ?_)
    ·exact HSW.out.below HH1
    clear hK K
    try go_simp
    refine wpAnyH_done (by kernel_rfl) ?_ _
    exact HL TP FP _ ⟨HH1, (af _ _ _ _ HF4.out.2.2).trans ((af _ _ _ _ HF4.out.2.2).trans HG2.out), ai (ai HG3.out 0 _) 1 _, HF4.out⟩
   go_simp
   have HBA2 : Hid (Below w3.heap.size w3 (w5.alloc (.cells #[.int .i64 0, .int .i64 0] 96))) := zh (ae HBA1.out _)
   have HKf : Hid ((w5.alloc (.cells #[.int .i64 0, .int .i64 0] 96)).heap[w5.heap.size]? = some (.cells #[.int .i64 0, .int .i64 0] 96 (0, 0))) := zh (ah _ _ _ rfl)
   refine hK.out _ _ ?_ (fun hHeld => ?_)
   ·exact HSW.out.below HBA2.out
   clear hK K
   try go_simp
   refine rd1 10 fun K hK => ?_
   go_simp
   have HBA3 : Hid (Below w3.heap.size w3 ((w5.alloc (.cells #[.int .i64 0, .int .i64 0] 96)).alloc (.cells #[.int .i64 0] 32))) := zh (ae HBA2.out _)
   have HKt : Hid (((w5.alloc (.cells #[.int .i64 0, .int .i64 0] 96)).alloc (.cells #[.int .i64 0] 32)).heap[(w5.alloc (.cells #[.int .i64 0, .int .i64 0] 96)).heap.size]? = some (.cells #[.int .i64 0] 32 (0, 0))) := zh (ah _ _ _ rfl)
   replace HKf : Hid (((w5.alloc (.cells #[.int .i64 0, .int .i64 0] 96)).alloc (.cells #[.int .i64 0] 32)).heap[_]? = _) := zh (au _ _ _ _ HKf.out)
   refine hK.out _ _ ?_ (fun hHeld => ?_)
   ·exact HSW.out.below HBA3.out
   clear hK K
   try go_simp
   obtain ⟨N3, hN3⟩ : ∃ N, N = w3.heap.size := ⟨_, rfl⟩
   have hs5 : w3.heap.size ≤ w5.heap.size := HBA1.out.size
   have f1 : Below N3 w3 ((w5.alloc (.cells #[.int .i64 0, .int .i64 0] 96)).alloc (.cells #[.int .i64 0] 32)) := by rw [hN3]; exact HBA3.out
   have f2 : ((w5.alloc (.cells #[.int .i64 0, .int .i64 0] 96)).alloc (.cells #[.int .i64 0] 32)).heap[w5.heap.size + 1]? = some (.cells #[.int .i64 0] 32 (0, 0)) := by
    have q := HKt.out
    rw [ag] at q
    exact q
   have f3 : ((w5.alloc (.cells #[.int .i64 0, .int .i64 0] 96)).alloc (.cells #[.int .i64 0] 32)).heap[w5.heap.size]? = some (.cells #[.int .i64 0, .int .i64 0] 96 (0, 0)) := by
    have q := HKf.out
    exact q
   have f4 : N3 ≤ w5.heap.size + 1 ∧ N3 ≤ w5.heap.size ∧ ¬ w5.heap.size + 1 = w5.heap.size := by omega
   revert f1 f2 f3 f4
   generalize ((w5.alloc (.cells #[.int .i64 0, .int .i64 0] 96)).alloc (.cells #[.int .i64 0] 32)) = w6
   generalize w5.heap.size + 1 = TP
   generalize w5.heap.size = FP
   intro f1 f2 f3 f4
   rw [hN3] at f1 f4
   have HF1 := zh f1
   have HF2 := zh f2
   have HF3 := zh f3
   have HF4 := zh f4
   clear f1 f2 f3 f4 hN3 hs5 HKt HKf
   have z0 : w6.cell? ⟨TP, 0, none⟩ = some (.int .i64 0) := aa HF2.out (j := 0) rfl
   have y0 : w6.frozen? ⟨TP, 0, none⟩ = false := ab HF2.out 0
   refine rd1 12 fun K hK => ?_
   go_simp
   have HG1 : Hid (Below w3.heap.size w3 (w6.setCell ⟨TP, 0, none⟩ (.int .i64 t))) := zh (HF1.out.setCell (p := ⟨TP, 0, none⟩) HF4.out.1 _)
   have HG2 : Hid ((w6.setCell ⟨TP, 0, none⟩ (.int .i64 t)).heap[TP]? = some (.cells #[.int .i64 t] 32 (0, 0))) := zh (ai HF2.out 0 _)
   have HG3 : Hid ((w6.setCell ⟨TP, 0, none⟩ (.int .i64 t)).heap[FP]? = some (.cells #[.int .i64 0, .int .i64 0] 96 (0, 0))) := zh ((af _ _ _ _ (fun e => HF4.out.2.2 e.symm)).trans HF3.out)
   refine hK.out _ _ ?_ (fun hHeld => ?_)
   ·exact HSW.out.below HG1.out
   clear hK K
   try go_simp
   clear z0 y0 HF1 HF2 HF3
   generalize (w6.setCell ⟨TP, 0, none⟩ (.int .i64 t)) = w7 at *
   obtain ⟨z0, z1, -⟩ := css HG3.out
   obtain ⟨y0, y1, -⟩ := fzs HG3.out
   refine rd1 13 fun K hK => ?_
   go_simp
   have HH1 := ((HG1.out.setCell (p := ⟨FP, 0, none⟩) HF4.out.2.1 (.int .i64 fe)).setCell (p := ⟨FP, 1, none⟩) HF4.out.2.1 (.int .i64 fa))
   refine hK.out _ _ ?_ (fun hHeld => ?_)
   ·exact HSW.out.below HH1
   clear hK K
   try go_simp
   refine wpAnyH_done (by kernel_rfl) ?_ _
   exact HL TP FP _ ⟨HH1, (af _ _ _ _ HF4.out.2.2).trans ((af _ _ _ _ HF4.out.2.2).trans HG2.out), ai (ai HG3.out 0 _) 1 _, HF4.out⟩
  ·go_simp
   have HBA1 : Hid (Below w3.heap.size w3 (w3.drew.alloc (.cells #[.int .i64 0] 32))) := zh (ae HBA0.out _)
   have HKt : Hid ((w3.drew.alloc (.cells #[.int .i64 0] 32)).heap[w3.drew.heap.size]? = some (.cells #[.int .i64 0] 32 (0, 0))) := zh (ah _ _ _ rfl)
   clear hs0
   refine hK.out _ _ ?_ (fun hHeld => ?_)
   ·exact HSW.out.below HBA1.out
   clear hK K
   try go_simp
   refine wpAnyH_ready (rs := [6, 11]) (by kernel_rfl) (by simp) ?_
   refine (AllReadyH.cons rfl (fun K hK => ?_) (AllReadyH.cons rfl (fun K hK => ?_) AllReadyH.nil))
   ·go_simp
    go_at_call 103
    refine (HCK.out _ HBA1.out).mono ?_
    rintro e w5 ⟨rfl, hb5⟩
    have HBA2 := zh (HBA1.out.trans (hb5.mono HBA1.out.size))
    replace HKt := zh ((hb5.block _ (ad HKt.out)).trans HKt.out)
    have HSZ := zh hb5.size
    clear hb5
    go_simp
    refine hK.out _ _ ?_ (fun hHeld => ?_)
    ·exact HSW.out.below HBA2.out
    clear hK K
    try go_simp
    refine tk (v := ?_) 7 (fun w hSw => ?_) ?_; rotate_left
    ·unfold S8 at hSw; go_simp; try with_reducible rfl
    refine tk (v := ?_) 8 (fun w hSw => ?_) ?_; rotate_left
    ·unfold S8 at hSw; go_simp; try with_reducible rfl
    refine tk (v := ?_) 9 (fun w hSw => ?_) ?_; rotate_left
    ·unfold S8 at hSw; go_simp; try with_reducible rfl
    refine rd1 11 fun K hK => ?_
    go_simp
    have HBA3 : Hid (Below w3.heap.size w3 (w5.alloc (.cells #[.int .i64 0, .int .i64 0] 96))) := zh (ae HBA2.out _)
    have HKf : Hid ((w5.alloc (.cells #[.int .i64 0, .int .i64 0] 96)).heap[w5.heap.size]? = some (.cells #[.int .i64 0, .int .i64 0] 96 (0, 0))) := zh (ah _ _ _ rfl)
    replace HKt : Hid ((w5.alloc (.cells #[.int .i64 0, .int .i64 0] 96)).heap[_]? = _) := zh (au _ _ _ _ HKt.out)
    refine hK.out _ _ ?_ (fun hHeld => ?_)
    ·exact HSW.out.below HBA3.out
    clear hK K
    try go_simp
    obtain ⟨N3, hN3⟩ : ∃ N, N = w3.heap.size := ⟨_, rfl⟩
    have hs5 : w3.heap.size ≤ w5.heap.size := HBA2.out.size
    have hsz : w3.heap.size + 1 ≤ w5.heap.size := by have q := HSZ.out; rw [ag] at q; exact q
    have f1 : Below N3 w3 (w5.alloc (.cells #[.int .i64 0, .int .i64 0] 96)) := by rw [hN3]; exact HBA3.out
    have f2 : (w5.alloc (.cells #[.int .i64 0, .int .i64 0] 96)).heap[w3.heap.size]? = some (.cells #[.int .i64 0] 32 (0, 0)) := by
     have q := HKt.out
     exact q
    have f3 : (w5.alloc (.cells #[.int .i64 0, .int .i64 0] 96)).heap[w5.heap.size]? = some (.cells #[.int .i64 0, .int .i64 0] 96 (0, 0)) := by
     have q := HKf.out
     exact q
    have f4 : N3 ≤ w3.heap.size ∧ N3 ≤ w5.heap.size ∧ ¬ w3.heap.size = w5.heap.size := by omega
    revert f1 f2 f3 f4
    generalize (w5.alloc (.cells #[.int .i64 0, .int .i64 0] 96)) = w6
    generalize w3.heap.size = TP
    generalize w5.heap.size = FP
    intro f1 f2 f3 f4
    rw [hN3] at f1 f4
    have HF1 := zh f1
    have HF2 := zh f2
    have HF3 := zh f3
    have HF4 := zh f4
    clear f1 f2 f3 f4 hN3 hs5 hsz HKt HKf
    have z0 : w6.cell? ⟨TP, 0, none⟩ = some (.int .i64 0) := aa HF2.out (j := 0) rfl
    have y0 : w6.frozen? ⟨TP, 0, none⟩ = false := ab HF2.out 0
    refine rd1 12 fun K hK => ?_
    go_simp
    have HG1 : Hid (Below w3.heap.size w3 (w6.setCell ⟨TP, 0, none⟩ (.int .i64 t))) := zh (HF1.out.setCell (p := ⟨TP, 0, none⟩) HF4.out.1 _)
    have HG2 : Hid ((w6.setCell ⟨TP, 0, none⟩ (.int .i64 t)).heap[TP]? = some (.cells #[.int .i64 t] 32 (0, 0))) := zh (ai HF2.out 0 _)
    have HG3 : Hid ((w6.setCell ⟨TP, 0, none⟩ (.int .i64 t)).heap[FP]? = some (.cells #[.int .i64 0, .int .i64 0] 96 (0, 0))) := zh ((af _ _ _ _ (fun e => HF4.out.2.2 e.symm)).trans HF3.out)
    refine hK.out _ _ ?_ (fun hHeld => ?_)
    ·exact HSW.out.below HG1.out
    clear hK K
    try go_simp
    clear z0 y0 HF1 HF2 HF3
    generalize (w6.setCell ⟨TP, 0, none⟩ (.int .i64 t)) = w7 at *
    obtain ⟨z0, z1, -⟩ := css HG3.out
    obtain ⟨y0, y1, -⟩ := fzs HG3.out
    refine rd1 13 fun K hK => ?_
    go_simp
    have HH1 := ((HG1.out.setCell (p := ⟨FP, 0, none⟩) HF4.out.2.1 (.int .i64 fe)).setCell (p := ⟨FP, 1, none⟩) HF4.out.2.1 (.int .i64 fa))
    refine hK.out _ _ ?_ (fun hHeld => ?_)
    ·exact HSW.out.below HH1
    clear hK K
    try go_simp
    refine wpAnyH_done (by kernel_rfl) ?_ _
    exact HL TP FP _ ⟨HH1, (af _ _ _ _ HF4.out.2.2).trans ((af _ _ _ _ HF4.out.2.2).trans HG2.out), ai (ai HG3.out 0 _) 1 _, HF4.out⟩
   go_simp
   have HBA2 : Hid (Below w3.heap.size w3 ((w3.drew.alloc (.cells #[.int .i64 0] 32)).alloc (.cells #[.int .i64 0, .int .i64 0] 96))) := zh (ae HBA1.out _)
   have HKf : Hid (((w3.drew.alloc (.cells #[.int .i64 0] 32)).alloc (.cells #[.int .i64 0, .int .i64 0] 96)).heap[(w3.drew.alloc (.cells #[.int .i64 0] 32)).heap.size]? = some (.cells #[.int .i64 0, .int .i64 0] 96 (0, 0))) := zh (ah _ _ _ rfl)
   replace HKt : Hid (((w3.drew.alloc (.cells #[.int .i64 0] 32)).alloc (.cells #[.int .i64 0, .int .i64 0] 96)).heap[_]? = _) := zh (au _ _ _ _ HKt.out)
   refine hK.out _ _ ?_ (fun hHeld => ?_)
   ·exact HSW.out.below HBA2.out
   clear hK K
   try go_simp
   refine rd1 6 fun K hK => ?_
   go_simp
   go_at_call 103
   refine (HCK.out _ HBA2.out).mono ?_
   rintro e w5 ⟨rfl, hb5⟩
   have HBA3 := zh (HBA2.out.trans (hb5.mono HBA2.out.size))
   replace HKt := zh ((hb5.block _ (ad HKt.out)).trans HKt.out)
   replace HKf := zh ((hb5.block _ (ad HKf.out)).trans HKf.out)
   have HSZ := zh hb5.size
   clear hb5
   go_simp
   refine hK.out _ _ ?_ (fun hHeld => ?_)
   ·exact HSW.out.below HBA3.out
   clear hK K
   try go_simp
   refine tk (v := ?_) 7 (fun w hSw => ?_) ?_; rotate_left
   ·unfold S8 at hSw; go_simp; try with_reducible rfl
   refine tk (v := ?_) 8 (fun w hSw => ?_) ?_; rotate_left
   ·unfold S8 at hSw; go_simp; try with_reducible rfl
   refine tk (v := ?_) 9 (fun w hSw => ?_) ?_; rotate_left
   ·unfold S8 at hSw; go_simp; try with_reducible rfl
   obtain ⟨N3, hN3⟩ : ∃ N, N = w3.heap.size := ⟨_, rfl⟩
   have hs5 : w3.heap.size ≤ w5.heap.size := HBA3.out.size
   have f1 : Below N3 w3 w5 := by rw [hN3]; exact HBA3.out
   have f2 : w5.heap[w3.heap.size]? = some (.cells #[.int .i64 0] 32 (0, 0)) := by
    have q := HKt.out
    exact q
   have f3 : w5.heap[w3.heap.size + 1]? = some (.cells #[.int .i64 0, .int .i64 0] 96 (0, 0)) := by
    have q := HKf.out
    rw [ag] at q
    exact q
   have f4 : N3 ≤ w3.heap.size ∧ N3 ≤ w3.heap.size + 1 ∧ ¬ w3.heap.size = w3.heap.size + 1 := by omega
   revert f1 f2 f3 f4
   generalize w5 = w6
   generalize w3.heap.size + 1 = FP
   generalize w3.heap.size = TP
   intro f1 f2 f3 f4
   rw [hN3] at f1 f4
   have HF1 := zh f1
   have HF2 := zh f2
   have HF3 := zh f3
   have HF4 := zh f4
   clear f1 f2 f3 f4 hN3 hs5 HKt HKf
   have z0 : w6.cell? ⟨TP, 0, none⟩ = some (.int .i64 0) := aa HF2.out (j := 0) rfl
   have y0 : w6.frozen? ⟨TP, 0, none⟩ = false := ab HF2.out 0
   refine rd1 12 fun K hK => ?_
   go_simp
   have HG1 : Hid (Below w3.heap.size w3 (w6.setCell ⟨TP, 0, none⟩ (.int .i64 t))) := zh (HF1.out.setCell (p := ⟨TP, 0, none⟩) HF4.out.1 _)
   have HG2 : Hid ((w6.setCell ⟨TP, 0, none⟩ (.int .i64 t)).heap[TP]? = some (.cells #[.int .i64 t] 32 (0, 0))) := zh (ai HF2.out 0 _)
   have HG3 : Hid ((w6.setCell ⟨TP, 0, none⟩ (.int .i64 t)).heap[FP]? = some (.cells #[.int .i64 0, .int .i64 0] 96 (0, 0))) := zh ((af _ _ _ _ (fun e => HF4.out.2.2 e.symm)).trans HF3.out)
   refine hK.out _ _ ?_ (fun hHeld => ?_)
   ·exact HSW.out.below HG1.out
   clear hK K
   try go_simp
   clear z0 y0 HF1 HF2 HF3
   generalize (w6.setCell ⟨TP, 0, none⟩ (.int .i64 t)) = w7 at *
   obtain ⟨z0, z1, -⟩ := css HG3.out
   obtain ⟨y0, y1, -⟩ := fzs HG3.out
   refine rd1 13 fun K hK => ?_
   go_simp
   have HH1 := ((HG1.out.setCell (p := ⟨FP, 0, none⟩) HF4.out.2.1 (.int .i64 fe)).setCell (p := ⟨FP, 1, none⟩) HF4.out.2.1 (.int .i64 fa))
   refine hK.out _ _ ?_ (fun hHeld => ?_)
   ·exact HSW.out.below HH1
   clear hK K
   try go_simp
   refine wpAnyH_done (by kernel_rfl) ?_ _
   exact HL TP FP _ ⟨HH1, (af _ _ _ _ HF4.out.2.2).trans ((af _ _ _ _ HF4.out.2.2).trans HG2.out), ai (ai HG3.out 0 _) 1 _, HF4.out⟩
  go_simp
  have HBA1 : Hid (Below w3.heap.size w3 (w3.drew.alloc (.cells #[.int .i64 0, .int .i64 0] 96))) := zh (ae HBA0.out _)
  have HKf : Hid ((w3.drew.alloc (.cells #[.int .i64 0, .int .i64 0] 96)).heap[w3.drew.heap.size]? = some (.cells #[.int .i64 0, .int .i64 0] 96 (0, 0))) := zh (ah _ _ _ rfl)
  clear hs0
  refine hK.out _ _ ?_ (fun hHeld => ?_)
  ·exact HSW.out.below HBA1.out
  clear hK K
  try go_simp
  refine wpAnyH_ready (rs := [6, 10]) (by kernel_rfl) (by simp) ?_
  refine (AllReadyH.cons rfl (fun K hK => ?_) (AllReadyH.cons rfl (fun K hK => ?_) AllReadyH.nil))
  ·go_simp
   go_at_call 103
   refine (HCK.out _ HBA1.out).mono ?_
   rintro e w5 ⟨rfl, hb5⟩
   have HBA2 := zh (HBA1.out.trans (hb5.mono HBA1.out.size))
   replace HKf := zh ((hb5.block _ (ad HKf.out)).trans HKf.out)
   have HSZ := zh hb5.size
   clear hb5
   go_simp
   refine hK.out _ _ ?_ (fun hHeld => ?_)
   ·exact HSW.out.below HBA2.out
   clear hK K
   try go_simp
   refine tk (v := ?_) 7 (fun w hSw => ?_) ?_; rotate_left
   ·unfold S8 at hSw; go_simp; try with_reducible rfl
   refine tk (v := ?_) 8 (fun w hSw => ?_) ?_; rotate_left
   ·unfold S8 at hSw; go_simp; try with_reducible rfl
   refine tk (v := ?_) 9 (fun w hSw => ?_) ?_; rotate_left
   ·unfold S8 at hSw; go_simp; try with_reducible rfl
   refine rd1 10 fun K hK => ?_
   go_simp
   have HBA3 : Hid (Below w3.heap.size w3 (w5.alloc (.cells #[.int .i64 0] 32))) := zh (ae HBA2.out _)
   have HKt : Hid ((w5.alloc (.cells #[.int .i64 0] 32)).heap[w5.heap.size]? = some (.cells #[.int .i64 0] 32 (0, 0))) := zh (ah _ _ _ rfl)
   replace HKf : Hid ((w5.alloc (.cells #[.int .i64 0] 32)).heap[_]? = _) := zh (au _ _ _ _ HKf.out)
   refine hK.out _ _ ?_ (fun hHeld => ?_)
   ·exact HSW.out.below HBA3.out
   clear hK K
   try go_simp
   obtain ⟨N3, hN3⟩ : ∃ N, N = w3.heap.size := ⟨_, rfl⟩
   have hs5 : w3.heap.size ≤ w5.heap.size := HBA2.out.size
   have hsz : w3.heap.size + 1 ≤ w5.heap.size := by have q := HSZ.out; rw [ag] at q; exact q
   have f1 : Below N3 w3 (w5.alloc (.cells #[.int .i64 0] 32)) := by rw [hN3]; exact HBA3.out
   have f2 : (w5.alloc (.cells #[.int .i64 0] 32)).heap[w5.heap.size]? = some (.cells #[.int .i64 0] 32 (0, 0)) := by
    have q := HKt.out
    exact q
   have f3 : (w5.alloc (.cells #[.int .i64 0] 32)).heap[w3.heap.size]? = some (.cells #[.int .i64 0, .int .i64 0] 96 (0, 0)) := by
    have q := HKf.out
    exact q
   have f4 : N3 ≤ w5.heap.size ∧ N3 ≤ w3.heap.size ∧ ¬ w5.heap.size = w3.heap.size := by omega
   revert f1 f2 f3 f4
   generalize (w5.alloc (.cells #[.int .i64 0] 32)) = w6
   generalize w5.heap.size = TP
   generalize w3.heap.size = FP
   intro f1 f2 f3 f4
   rw [hN3] at f1 f4
   have HF1 := zh f1
   have HF2 := zh f2
   have HF3 := zh f3
   have HF4 := zh f4
   clear f1 f2 f3 f4 hN3 hs5 hsz HKt HKf
   have z0 : w6.cell? ⟨TP, 0, none⟩ = some (.int .i64 0) := aa HF2.out (j := 0) rfl
   have y0 : w6.frozen? ⟨TP, 0, none⟩ = false := ab HF2.out 0
   refine rd1 12 fun K hK => ?_
   go_simp
   have HG1 : Hid (Below w3.heap.size w3 (w6.setCell ⟨TP, 0, none⟩ (.int .i64 t))) := zh (HF1.out.setCell (p := ⟨TP, 0, none⟩) HF4.out.1 _)
   have HG2 : Hid ((w6.setCell ⟨TP, 0, none⟩ (.int .i64 t)).heap[TP]? = some (.cells #[.int .i64 t] 32 (0, 0))) := zh (ai HF2.out 0 _)
   have HG3 : Hid ((w6.setCell ⟨TP, 0, none⟩ (.int .i64 t)).heap[FP]? = some (.cells #[.int .i64 0, .int .i64 0] 96 (0, 0))) := zh ((af _ _ _ _ (fun e => HF4.out.2.2 e.symm)).trans HF3.out)
   refine hK.out _ _ ?_ (fun hHeld => ?_)
   ·exact HSW.out.below HG1.out
   clear hK K
   try go_simp
   clear z0 y0 HF1 HF2 HF3
   generalize (w6.setCell ⟨TP, 0, none⟩ (.int .i64 t)) = w7 at *
   obtain ⟨z0, z1, -⟩ := css HG3.out
   obtain ⟨y0, y1, -⟩ := fzs HG3.out
   refine rd1 13 fun K hK => ?_
   go_simp
   have HH1 := ((HG1.out.setCell (p := ⟨FP, 0, none⟩) HF4.out.2.1 (.int .i64 fe)).setCell (p := ⟨FP, 1, none⟩) HF4.out.2.1 (.int .i64 fa))
   refine hK.out _ _ ?_ (fun hHeld => ?_)
   ·exact HSW.out.below HH1
   clear hK K
   try go_simp
   refine wpAnyH_done (by kernel_rfl) ?_ _
   exact HL TP FP _ ⟨HH1, (af _ _ _ _ HF4.out.2.2).trans ((af _ _ _ _ HF4.out.2.2).trans HG2.out), ai (ai HG3.out 0 _) 1 _, HF4.out⟩
  go_simp
  have HBA2 : Hid (Below w3.heap.size w3 ((w3.drew.alloc (.cells #[.int .i64 0, .int .i64 0] 96)).alloc (.cells #[.int .i64 0] 32))) := zh (ae HBA1.out _)
  have HKt : Hid (((w3.drew.alloc (.cells #[.int .i64 0, .int .i64 0] 96)).alloc (.cells #[.int .i64 0] 32)).heap[(w3.drew.alloc (.cells #[.int .i64 0, .int .i64 0] 96)).heap.size]? = some (.cells #[.int .i64 0] 32 (0, 0))) := zh (ah _ _ _ rfl)
  replace HKf : Hid (((w3.drew.alloc (.cells #[.int .i64 0, .int .i64 0] 96)).alloc (.cells #[.int .i64 0] 32)).heap[_]? = _) := zh (au _ _ _ _ HKf.out)
  refine hK.out _ _ ?_ (fun hHeld => ?_)
  ·exact HSW.out.below HBA2.out
  clear hK K
  try go_simp
  refine rd1 6 fun K hK => ?_
  go_simp
  go_at_call 103
  refine (HCK.out _ HBA2.out).mono ?_
  rintro e w5 ⟨rfl, hb5⟩
  have HBA3 := zh (HBA2.out.trans (hb5.mono HBA2.out.size))
  replace HKf := zh ((hb5.block _ (ad HKf.out)).trans HKf.out)
  replace HKt := zh ((hb5.block _ (ad HKt.out)).trans HKt.out)
  have HSZ := zh hb5.size
  clear hb5
  go_simp
  refine hK.out _ _ ?_ (fun hHeld => ?_)
  ·exact HSW.out.below HBA3.out
  clear hK K
  try go_simp
  refine tk (v := ?_) 7 (fun w hSw => ?_) ?_; rotate_left
  ·unfold S8 at hSw; go_simp; try with_reducible rfl
  refine tk (v := ?_) 8 (fun w hSw => ?_) ?_; rotate_left
  ·unfold S8 at hSw; go_simp; try with_reducible rfl
  refine tk (v := ?_) 9 (fun w hSw => ?_) ?_; rotate_left
  ·unfold S8 at hSw; go_simp; try with_reducible rfl
  obtain ⟨N3, hN3⟩ : ∃ N, N = w3.heap.size := ⟨_, rfl⟩
  have hs5 : w3.heap.size ≤ w5.heap.size := HBA3.out.size
  have f1 : Below N3 w3 w5 := by rw [hN3]; exact HBA3.out
  have f2 : w5.heap[w3.heap.size + 1]? = some (.cells #[.int .i64 0] 32 (0, 0)) := by
   have q := HKt.out
   rw [ag] at q
   exact q
  have f3 : w5.heap[w3.heap.size]? = some (.cells #[.int .i64 0, .int .i64 0] 96 (0, 0)) := by
   have q := HKf.out
   exact q
  have f4 : N3 ≤ w3.heap.size + 1 ∧ N3 ≤ w3.heap.size ∧ ¬ w3.heap.size + 1 = w3.heap.size := by omega
  revert f1 f2 f3 f4
  generalize w5 = w6
  generalize w3.heap.size + 1 = TP
  generalize w3.heap.size = FP
  intro f1 f2 f3 f4
  rw [hN3] at f1 f4
  have HF1 := zh f1
  have HF2 := zh f2
  have HF3 := zh f3
  have HF4 := zh f4
  clear f1 f2 f3 f4 hN3 hs5 HKt HKf
  have z0 : w6.cell? ⟨TP, 0, none⟩ = some (.int .i64 0) := aa HF2.out (j := 0) rfl
  have y0 : w6.frozen? ⟨TP, 0, none⟩ = false := ab HF2.out 0
  refine rd1 12 fun K hK => ?_
  go_simp
  have HG1 : Hid (Below w3.heap.size w3 (w6.setCell ⟨TP, 0, none⟩ (.int .i64 t))) := zh (HF1.out.setCell (p := ⟨TP, 0, none⟩) HF4.out.1 _)
  have HG2 : Hid ((w6.setCell ⟨TP, 0, none⟩ (.int .i64 t)).heap[TP]? = some (.cells #[.int .i64 t] 32 (0, 0))) := zh (ai HF2.out 0 _)
  have HG3 : Hid ((w6.setCell ⟨TP, 0, none⟩ (.int .i64 t)).heap[FP]? = some (.cells #[.int .i64 0, .int .i64 0] 96 (0, 0))) := zh ((af _ _ _ _ (fun e => HF4.out.2.2 e.symm)).trans HF3.out)
  refine hK.out _ _ ?_ (fun hHeld => ?_)
  ·exact HSW.out.below HG1.out
  clear hK K
  try go_simp
  clear z0 y0 HF1 HF2 HF3
  generalize (w6.setCell ⟨TP, 0, none⟩ (.int .i64 t)) = w7 at *
  obtain ⟨z0, z1, -⟩ := css HG3.out
  obtain ⟨y0, y1, -⟩ := fzs HG3.out
  refine rd1 13 fun K hK => ?_
  go_simp
  have HH1 := ((HG1.out.setCell (p := ⟨FP, 0, none⟩) HF4.out.2.1 (.int .i64 fe)).setCell (p := ⟨FP, 1, none⟩) HF4.out.2.1 (.int .i64 fa))
  refine hK.out _ _ ?_ (fun hHeld => ?_)
  ·exact HSW.out.below HH1
  clear hK K
  try go_simp
  refine wpAnyH_done (by kernel_rfl) ?_ _
  exact HL TP FP _ ⟨HH1, (af _ _ _ _ HF4.out.2.2).trans ((af _ _ _ _ HF4.out.2.2).trans HG2.out), ai (ai HG3.out 0 _) 1 _, HF4.out⟩
  rintro TP FP w8 ⟨hh1, hh2, hh3, hh4⟩
  have HH2 := zh hh2
  have HH3 := zh hh3
  have HF4 := zh hh4
  have HTB1 := zh ((hh1.block _ (ad HTB.out)).trans HTB.out)
  have HB0 := HBX
  replace HBX := zh (HBX.out.below hh1)
  replace HB := zh (HB.out.trans (hh1.mono (Nat.le_of_lt (ad HB0.out.c))))
  clear HB0
  have HLE : Hid ((CP ≤ TP ∧ CP ≤ FP) ∧ (CP ≠ FP ∧ SP ≠ FP ∧ VP ≠ FP ∧ RB ≠ FP) ∧ RB ≠ TP ∧ ¬ TP = FP) := zh (by have q := HCPL.out; omega)
  clear HSW HNB HTB HCX HST HCK hh1 hh2 hh3 hh4
  have HCX := zh (HCT.out.below (by rw [HXR.out.1]; exact HB.out))
  have HST : Hid (Stays Any w w8) := zh (Stays.of_below (by rw [HXR.out.1]; exact HB.out))
  go_upto_region 7 with fail
  have HFN := zh (qk (sZ HH3.out) (sM (by rw [← HN.out.1]; exact hn0) (HES.out.keep HST.out) HH2.out HBX.out.s) (sF HTB1.out HBX.out.s) w8 (Below.refl _ _) 127)
  generalize hq : aO [(fe, fa), noC (t != 0) 51 (es.headD default).pos, noC (!is) 53 pos] = q at *
  obtain ⟨ge, ga⟩ := q
  have HFC := zh (dP _ _ _ HFN.out)
  rw [hq] at HFC
  clear hq HFN
  unfold bz at HFC
  dsimp only at HFC
  go_wp2_with fail
  refine HFC.out.mono ?_
  rintro e w9 ⟨rfl, hb9⟩
  have hb9' : Below w8.heap.size w8 w9 := ak (ae (Below.refl _ _) _) hb9
  have HB0 := HBX
  replace HBX := zh (HBX.out.below hb9')
  replace HB := zh (HB.out.trans (hb9'.mono (Nat.le_of_lt (ad HB0.out.c))))
  clear HB0
  have HJ2 := zh ((hb9'.block _ (ad HH2.out)).trans HH2.out)
  have HJ3 := zh ((hb9'.block _ (ad HH3.out)).trans HH3.out)
  clear hb9 hb9' HH2 HH3
  obtain ⟨z0, z1, -⟩ := css HJ3.out
  obtain ⟨y0, y1, -⟩ := fzs HJ3.out
  go_upto_region 8 with fail
  have HJ4 : Hid (((w9.setCell ⟨FP, 0, none⟩ (.int .i64 ge)).setCell ⟨FP, 1, none⟩ (.int .i64 ga)).heap[TP]? = some (.cells #[.int .i64 t] 32 (0, 0))) := zh ((af _ _ _ _ HLE.out.2.2.2).trans ((af _ _ _ _ HLE.out.2.2.2).trans HJ2.out))
  have HJ5 : Hid (((w9.setCell ⟨FP, 0, none⟩ (.int .i64 ge)).setCell ⟨FP, 1, none⟩ (.int .i64 ga)).heap[FP]? = some (.cells #[.int .i64 ge, .int .i64 ga] 96 (0, 0))) := zh (ai (ai HJ3.out 0 _) 1 _)
  have HBY : Hid (BoxA ((w9.setCell ⟨FP, 0, none⟩ (.int .i64 ge)).setCell ⟨FP, 1, none⟩ (.int .i64 ga)) cb vr CP SP VP RB _) := zh ((HBX.out.set FP 0 _ HLE.out.2.1).set FP 1 _ HLE.out.2.1)
  have HBZ : Hid (Below CP w ((w9.setCell ⟨FP, 0, none⟩ (.int .i64 ge)).setCell ⟨FP, 1, none⟩ (.int .i64 ga))) := zh ((HB.out.setCell (p := ⟨FP, 0, none⟩) HLE.out.1.2 _).setCell (p := ⟨FP, 1, none⟩) HLE.out.1.2 _)
  clear z0 z1 y0 y1 HBX HB HJ2 HJ3 HCX HST HTB1
  generalize ((w9.setCell ⟨FP, 0, none⟩ (.int .i64 ge)).setCell ⟨FP, 1, none⟩ (.int .i64 ga)) = w10 at *
  have HCX := zh (HCT.out.below (by rw [HXR.out.1]; exact HBZ.out))
  have HWC := zh (fun W (hW : Below w10.heap.size w10 W) => la vr v text t false W (HCX.out.view.below hW))
  have HSX : Hid (w10.cell? ⟨VP, 0, none⟩ = some (.map (some vr)) ∧ w10.cell? ⟨SP, 1, none⟩ = some (.string text) ∧ w10.cell? ⟨TP, 0, none⟩ = some (.int .i64 t) ∧ w10.cell? ⟨FP, 0, none⟩ = some (.int .i64 ge) ∧ w10.cell? ⟨FP, 1, none⟩ = some (.int .i64 ga)) := zh ⟨aa HBY.out.v (j := 0) rfl, aa HBY.out.s (j := 1) rfl, aa HJ4.out (j := 0) rfl, aa HJ5.out (j := 0) rfl, aa HJ5.out (j := 1) rfl⟩
  have HSD : Hid (w10.drew.cell? ⟨VP, 0, none⟩ = some (.map (some vr)) ∧ w10.drew.cell? ⟨SP, 1, none⟩ = some (.string text) ∧ w10.drew.cell? ⟨TP, 0, none⟩ = some (.int .i64 t) ∧ w10.drew.cell? ⟨FP, 0, none⟩ = some (.int .i64 ge) ∧ w10.drew.cell? ⟨FP, 1, none⟩ = some (.int .i64 ga)) := zh HSX.out
  have hsd := HSD.out
  refine wp_region_held (S := (fun w' : World => w'.cell? ⟨VP, 0, none⟩ = some (.map (some vr)) ∧ w'.cell? ⟨SP, 1, none⟩ = some (.string text) ∧ w'.cell? ⟨TP, 0, none⟩ = some (.int .i64 t) ∧ w'.cell? ⟨FP, 0, none⟩ = some (.int .i64 ge) ∧ w'.cell? ⟨FP, 1, none⟩ = some (.int .i64 ga))) (by kernel_rfl) ?_
  refine tkA 0 ?_
  refine tkA 1 ?_
  refine tkA 2 ?_
  refine tkA 3 ?_
  refine tkA 4 ?_
  refine tkA 6 ?_
  clear hsd
  refine rd1 5 fun K hK => ?_
  go_simp
  go_at_call 107
  refine (HWC.out _ (av (Below.refl _ _))).mono ?_
  rintro e w11 ⟨r2, rfl, hv2, hb11⟩
  have HB11 : Hid (Below w10.heap.size w10 w11) := zh (ak (av (Below.refl _ _)) hb11)
  have HV2 := zh hv2
  have HBQ := zh (HBY.out.below HB11.out)
  clear hb11 hv2
  go_simp
  refine hK.out _ _ ?_ (fun hHeld => ?_)
  ·(try dsimp only)
   have q := HSX.out
   exact ⟨(HB11.out.cell (am q.1)).trans q.1, (HB11.out.cell (am q.2.1)).trans q.2.1, (HB11.out.cell (am q.2.2.1)).trans q.2.2.1, (HB11.out.cell (am q.2.2.2.1)).trans q.2.2.2.1, (HB11.out.cell (am q.2.2.2.2)).trans q.2.2.2.2⟩
  clear hK K
  try go_simp
  refine rd1 7 fun K hK => ?_
  go_simp
  refine hK.out _ _ ?_ (fun hHeld => ?_)
  ·(try dsimp only)
   have q := HSX.out
   exact ⟨(HB11.out.cell (am q.1)).trans q.1, (HB11.out.cell (am q.2.1)).trans q.2.1, (HB11.out.cell (am q.2.2.1)).trans q.2.2.1, (HB11.out.cell (am q.2.2.2.1)).trans q.2.2.2.1, (HB11.out.cell (am q.2.2.2.2)).trans q.2.2.2.2⟩
  clear hK K
  try go_simp
  obtain ⟨r0, r1, -⟩ := css HBQ.out.r
  obtain ⟨k0, k1, -⟩ := fzs HBQ.out.r
  refine rd1 8 fun K hK => ?_
  go_simp
  refine hK.out _ _ ?_ (fun hHeld => ?_)
  ·(try dsimp only)
   have q := HSX.out
   exact ⟨(aR _ _ (Or.inl HNE.out.2.2)).trans ((aR _ _ (Or.inl HNE.out.2.2)).trans ((HB11.out.cell (am q.1)).trans q.1)), (aR _ _ (Or.inl HNE.out.2.1)).trans ((aR _ _ (Or.inl HNE.out.2.1)).trans ((HB11.out.cell (am q.2.1)).trans q.2.1)), (aR _ _ (Or.inl HLE.out.2.2.1)).trans ((aR _ _ (Or.inl HLE.out.2.2.1)).trans ((HB11.out.cell (am q.2.2.1)).trans q.2.2.1)), (aR _ _ (Or.inl HLE.out.2.1.2.2.2)).trans ((aR _ _ (Or.inl HLE.out.2.1.2.2.2)).trans ((HB11.out.cell (am q.2.2.2.1)).trans q.2.2.2.1)), (aR _ _ (Or.inl HLE.out.2.1.2.2.2)).trans ((aR _ _ (Or.inl HLE.out.2.1.2.2.2)).trans ((HB11.out.cell (am q.2.2.2.2)).trans q.2.2.2.2))⟩
  clear hK K
  try go_simp
  refine wpAnyH_done (by kernel_rfl) ?_ _
  go_wp2_with fail
  have hfin := ((HBZ.out.trans (HB11.out.mono (Nat.le_of_lt (ad HBY.out.c)))).setCell (p := ⟨RB, 0, none⟩) HXR.out.2.2 (.int .i64 ge)).setCell (p := ⟨RB, 1, none⟩) HXR.out.2.2 (.int .i64 ga)
  rw [← HXR.out.1] at hfin
  refine bodyPost_ret (v := .tuple #[.map (some r2), .agg #[.int .i64 ge, .int .i64 ga]]) (by simp [results, Tryz.results85, go_sem, r0, r1]) rfl ⟨r2, by rw [HC.out]; rfl, ?_, hfin⟩
  rw [HC.out]
  exact gm (gm HV2.out HBQ.out.r 0 _) (ai HBQ.out.r 0 _) 1 _
 by_cases h8 : op = 8
 ·subst h8
  replace HC := zh (HC.out.trans (tt F res text es body els pos v HSH.out))
  have hn0 : 0 < n1 := by have q : (n1 == 1 && n2 == 0 && n3 == 0) = true := hsh; rw [Bool.and_eq_true, Bool.and_eq_true] at q; have := eq_of_beq q.1.1; omega
  have s0 : w3.cell? ⟨SP, 0, none⟩ = some (.int .i64 8) := aa HBX.out.s (j := 0) rfl
  go_upto_region 22 with fail
  clear s0
  obtain ⟨xb, xoff, xop, xnum, xt, xs, xn, xc, xpos, rfl, hn1, hbl, y0, y1, y2, y3, y4, hrep⟩ := cJ (HES.out.keep HST.out) (by rw [← HN.out.1]; exact hn0)
  have HXP : Hid ((es.headD default).pos = xpos ∧ (es.headD default).op = xop) := zh (by obtain ⟨_, e, _⟩ := bL hrep; rw [e]; exact ⟨rfl, rfl⟩)
  have gn0 : (0 : Int) < (n1 : Int) := by omega
  have HCK := zh (fun W1 (h1 : Below w3.heap.size w3 W1) => HEX.out (es.headD default) v vr W1 xop xnum xpos xt xs xn xc (HCX.out.below h1) (hrep.keep (Stays.of_below h1)))
  have HSW : Hid (S8 VP vr CP cb SP xb xoff n1 c1 xop xnum xt xs xn xc xpos w3) := zh ⟨aa HBX.out.v (j := 0) rfl, aa HBX.out.c (j := 0) rfl, aa HBX.out.s (j := 2) rfl, y0, y1, y2, y3, y4⟩
  clear hrep y0 y1 y2 y3 y4
  generalize aG F v (es.headD default) = xr at *
  obtain ⟨t, fe, fa⟩ := xr
  unfold bz at HCK
  dsimp only at HCK HC
  have hs0 : S8 VP vr CP cb SP xb xoff n1 c1 xop xnum xt xs xn xc xpos w3.drew := HSW.out.below (av (Below.refl _ _))
  refine wp_region_held (S := S8 VP vr CP cb SP xb xoff n1 c1 xop xnum xt xs xn xc xpos) (by kernel_rfl) ?_
  refine tk (v := ?_) 0 (fun w hSw => ?_) ?_; rotate_left
  ·unfold S8 at hSw; go_simp; try with_reducible rfl
  refine tk (v := ?_) 1 (fun w hSw => ?_) ?_; rotate_left
  ·unfold S8 at hSw; go_simp; try with_reducible rfl
  refine tk (v := ?_) 2 (fun w hSw => ?_) ?_; rotate_left
  ·unfold S8 at hSw; go_simp; try with_reducible rfl
  refine tk (v := ?_) 3 (fun w hSw => ?_) ?_; rotate_left
  ·unfold S8 at hSw; go_simp; try with_reducible rfl
  refine tk (v := ?_) 4 (fun w hSw => ?_) ?_; rotate_left
  ·unfold S8 at hSw; go_simp; try with_reducible rfl
  refine tk (v := ?_) 5 (fun w hSw => ?_) ?_; rotate_left
  ·unfold S8 at hSw; go_simp; try with_reducible rfl
  have HBA0 : Hid (Below w3.heap.size w3 w3.drew) := zh (av (Below.refl _ _))
  refine wpAnyH_ready (rs := [6, 10]) (by kernel_rfl) (by simp) ?_
  refine (AllReadyH.cons rfl (fun K hK => ?_) (AllReadyH.cons rfl (fun K hK => ?_) AllReadyH.nil))
  ·go_simp
   go_at_call 103
   refine (HCK.out _ HBA0.out).mono ?_
   rintro e w5 ⟨rfl, hb5⟩
   have HBA1 := zh (HBA0.out.trans (hb5.mono HBA0.out.size))
   clear hb5 hs0
   go_simp
   refine hK.out _ _ ?_ (fun hHeld => ?_)
   ·exact HSW.out.below HBA1.out
   clear hK K
   try go_simp
   refine tk (v := ?_) 7 (fun w hSw => ?_) ?_; rotate_left
   ·unfold S8 at hSw; go_simp; try with_reducible rfl
   refine tk (v := ?_) 8 (fun w hSw => ?_) ?_; rotate_left
   ·unfold S8 at hSw; go_simp; try with_reducible rfl
   refine tk (v := ?_) 9 (fun w hSw => ?_) ?_; rotate_left
   ·unfold S8 at hSw; go_simp; try with_reducible rfl
   refine rd1 10 fun K hK => ?_
   go_simp
   have HBA2 : Hid (Below w3.heap.size w3 (w5.alloc (.cells #[.int .i64 0, .int .i64 0] 96))) := zh (ae HBA1.out _)
   have HKf : Hid ((w5.alloc (.cells #[.int .i64 0, .int .i64 0] 96)).heap[w5.heap.size]? = some (.cells #[.int .i64 0, .int .i64 0] 96 (0, 0))) := zh (ah _ _ _ rfl)
   refine hK.out _ _ ?_ (fun hHeld => ?_)
   ·exact HSW.out.below HBA2.out
   clear hK K
   try go_simp
   refine tk (v := ?_) 11 (fun w hSw => ?_) ?_; rotate_left
   ·unfold S8 at hSw; go_simp; try with_reducible rfl
   have HBF : Hid (Below w3.heap.size w3 (w5.alloc (.cells #[.int .i64 fe, .int .i64 fa] 96))) := zh (ae HBA1.out _)
   have HKF : Hid ((w5.alloc (.cells #[.int .i64 fe, .int .i64 fa] 96)).heap[(w5.heap.size)]? = some (.cells #[.int .i64 fe, .int .i64 fa] 96 (0, 0))) := zh (ah _ _ _ rfl)
   refine rd1 12 fun K hK => ?_
   go_simp
   refine hK.out _ _ ?_ (fun hHeld => ?_)
   ·exact HSW.out.below HBF.out
   clear hK K
   try go_simp
   refine wpAnyH_done (by kernel_rfl) ?_ _
   have HB0 := HBX
   replace HBX := zh (HBX.out.below HBF.out)
   replace HB := zh (HB.out.trans (HBF.out.mono (Nat.le_of_lt (ad HB0.out.c))))
   clear HB0
   clear HSW HNB HTB HCX HST HCK
   generalize (w5.alloc (.cells #[.int .i64 fe, .int .i64 fa] 96)) = w6 at *
   have HCX := zh (HCT.out.below (by rw [HXR.out.1]; exact HB.out))
   have HST : Hid (Stays Any w w6) := zh (Stays.of_below (by rw [HXR.out.1]; exact HB.out))
   go_upto_region 23 with fail
   have HE := zh (HC.out.trans (rfl))
   have HFN := zh (qQ (pC HKF.out) (oP (by rw [← HN.out.1]; exact hn0) (HES.out.keep HST.out) HBX.out.s) w6.drew (Below.refl _ _).drew 127)
   generalize hq : aO [(fe, fa), noC ((es.headD default).op == 5) 51 (es.headD default).pos] = q at *
   obtain ⟨fe, fa⟩ := q
   have HFC := zh (dP _ _ _ HFN.out)
   rw [hq] at HFC
   clear hq HFN
   unfold bz at HFC
   dsimp only at HFC
   have HS0 : Hid (w6.drew.cell? ⟨VP, 0, none⟩ = some (.map (some vr))) := zh (aa HBX.out.v (j := 0) rfl)
   have hs0 := HS0.out
   refine az (S := (fun w' : World => w'.cell? ⟨VP, 0, none⟩ = some (.map (some vr)))) 5 (by kernel_rfl) (by kernel_rfl) (by exact HS0.out) (fun hHeld => ?_)
   simp only [List.take_succ_cons, List.take_zero, List.drop_succ_cons, List.drop_zero]
   refine tkA 0 ?_
   refine tkA 1 ?_
   refine tkA 2 ?_
   refine rd1 3 fun K hK => ?_
   go_simp
   refine hK.out _ _ ?_ (fun hHeld => ?_)
   ·(try dsimp only)
    exact aj _ HS0.out
   clear hK K
   try go_simp
   refine rd1 4 fun K hK => ?_
   go_simp
   go_at_call 49
   refine HFC.out.mono ?_
   rintro e w5 ⟨rfl, hb5⟩
   have hb5' : Below w6.heap.size w6 w5 := ak (ae (av (Below.refl _ _)) _) hb5
   have HB0 := HBX
   replace HBX := zh (HBX.out.below hb5')
   replace HB := zh (HB.out.trans (hb5'.mono (Nat.le_of_lt (ad HB0.out.c))))
   clear HB0
   have HS5 : Hid (w5.cell? ⟨VP, 0, none⟩ = some (.map (some vr))) := zh (aa HBX.out.v (j := 0) rfl)
   clear hb5 hb5' hs0
   go_simp
   refine hK.out _ _ ?_ (fun hHeld => ?_)
   ·(try dsimp only)
    exact HS5.out
   clear hK K
   try go_simp
   refine wpAnyH_done (by kernel_rfl) ?_ _
   dsimp only [bT]
   obtain ⟨r0, r1, -⟩ := css HBX.out.r
   obtain ⟨k0, k1, -⟩ := fzs HBX.out.r
   go_wp2_with fail
   have hfin := (HB.out.setCell (p := ⟨RB, 0, none⟩) HXR.out.2.2 (.int .i64 fe)).setCell (p := ⟨RB, 1, none⟩) HXR.out.2.2 (.int .i64 fa)
   rw [← HXR.out.1] at hfin
   refine bodyPost_ret (v := .tuple #[.map (some vr), .agg #[.int .i64 fe, .int .i64 fa]]) (by simp [results, Tryz.results85, go_sem, r0, r1]) rfl ⟨vr, by rw [HE.out]; rfl, ?_, hfin⟩
   rw [HE.out]
   exact HCT.out.view.below hfin
  go_simp
  have HBA1 : Hid (Below w3.heap.size w3 (w3.drew.alloc (.cells #[.int .i64 0, .int .i64 0] 96))) := zh (ae HBA0.out _)
  have HKf : Hid ((w3.drew.alloc (.cells #[.int .i64 0, .int .i64 0] 96)).heap[w3.drew.heap.size]? = some (.cells #[.int .i64 0, .int .i64 0] 96 (0, 0))) := zh (ah _ _ _ rfl)
  clear hs0
  refine hK.out _ _ ?_ (fun hHeld => ?_)
  ·exact HSW.out.below HBA1.out
  clear hK K
  try go_simp
  refine rd1 6 fun K hK => ?_
  go_simp
  go_at_call 103
  refine (HCK.out _ HBA1.out).mono ?_
  rintro e w5 ⟨rfl, hb5⟩
  have HBA2 := zh (HBA1.out.trans (hb5.mono HBA1.out.size))
  replace HKf := zh ((hb5.block _ (ad HKf.out)).trans HKf.out)
  clear hb5
  go_simp
  refine hK.out _ _ ?_ (fun hHeld => ?_)
  ·exact HSW.out.below HBA2.out
  clear hK K
  try go_simp
  refine tk (v := ?_) 7 (fun w hSw => ?_) ?_; rotate_left
  ·unfold S8 at hSw; go_simp; try with_reducible rfl
  refine tk (v := ?_) 8 (fun w hSw => ?_) ?_; rotate_left
  ·unfold S8 at hSw; go_simp; try with_reducible rfl
  refine tk (v := ?_) 9 (fun w hSw => ?_) ?_; rotate_left
  ·unfold S8 at hSw; go_simp; try with_reducible rfl
  refine tk (v := ?_) 11 (fun w hSw => ?_) ?_; rotate_left
  ·unfold S8 at hSw; go_simp; try with_reducible rfl
  have hlf : w3.heap.size ≤ (w3.heap.size) := Nat.le_refl _
  have z0 : w5.cell? ⟨(w3.heap.size), 0, none⟩ = some (.int .i64 0) := aa HKf.out (j := 0) rfl
  have z1 : w5.cell? ⟨(w3.heap.size), 1, none⟩ = some (.int .i64 0) := aa HKf.out (j := 1) rfl
  have y0 : w5.frozen? ⟨(w3.heap.size), 0, none⟩ = false := ab HKf.out 0
  have y1 : w5.frozen? ⟨(w3.heap.size), 1, none⟩ = false := ab HKf.out 1
  have HBF : Hid (Below w3.heap.size w3 ((w5.setCell ⟨(w3.heap.size), 0, none⟩ (.int .i64 fe)).setCell ⟨(w3.heap.size), 1, none⟩ (.int .i64 fa))) := zh ((HBA2.out.setCell (p := ⟨(w3.heap.size), 0, none⟩) hlf _).setCell (p := ⟨(w3.heap.size), 1, none⟩) hlf _)
  have HKF : Hid (((w5.setCell ⟨(w3.heap.size), 0, none⟩ (.int .i64 fe)).setCell ⟨(w3.heap.size), 1, none⟩ (.int .i64 fa)).heap[(w3.heap.size)]? = some (.cells #[.int .i64 fe, .int .i64 fa] 96 (0, 0))) := zh (ai (ai HKf.out 0 _) 1 _)
  refine rd1 12 fun K hK => ?_
  go_simp
  refine hK.out _ _ ?_ (fun hHeld => ?_)
  ·exact HSW.out.below HBF.out
  clear hK K
  try go_simp
  refine wpAnyH_done (by kernel_rfl) ?_ _
  clear z0 z1 y0 y1 hlf
  have HB0 := HBX
  replace HBX := zh (HBX.out.below HBF.out)
  replace HB := zh (HB.out.trans (HBF.out.mono (Nat.le_of_lt (ad HB0.out.c))))
  clear HB0
  clear HSW HNB HTB HCX HST HCK
  generalize ((w5.setCell ⟨(w3.heap.size), 0, none⟩ (.int .i64 fe)).setCell ⟨(w3.heap.size), 1, none⟩ (.int .i64 fa)) = w6 at *
  have HCX := zh (HCT.out.below (by rw [HXR.out.1]; exact HB.out))
  have HST : Hid (Stays Any w w6) := zh (Stays.of_below (by rw [HXR.out.1]; exact HB.out))
  go_upto_region 23 with fail
  have HE := zh (HC.out.trans (rfl))
  have HFN := zh (qQ (pC HKF.out) (oP (by rw [← HN.out.1]; exact hn0) (HES.out.keep HST.out) HBX.out.s) w6.drew (Below.refl _ _).drew 127)
  generalize hq : aO [(fe, fa), noC ((es.headD default).op == 5) 51 (es.headD default).pos] = q at *
  obtain ⟨fe, fa⟩ := q
  have HFC := zh (dP _ _ _ HFN.out)
  rw [hq] at HFC
  clear hq HFN
  unfold bz at HFC
  dsimp only at HFC
  have HS0 : Hid (w6.drew.cell? ⟨VP, 0, none⟩ = some (.map (some vr))) := zh (aa HBX.out.v (j := 0) rfl)
  have hs0 := HS0.out
  refine az (S := (fun w' : World => w'.cell? ⟨VP, 0, none⟩ = some (.map (some vr)))) 5 (by kernel_rfl) (by kernel_rfl) (by exact HS0.out) (fun hHeld => ?_)
  simp only [List.take_succ_cons, List.take_zero, List.drop_succ_cons, List.drop_zero]
  refine tkA 0 ?_
  refine tkA 1 ?_
  refine tkA 2 ?_
  refine rd1 3 fun K hK => ?_
  go_simp
  refine hK.out _ _ ?_ (fun hHeld => ?_)
  ·(try dsimp only)
   exact aj _ HS0.out
  clear hK K
  try go_simp
  refine rd1 4 fun K hK => ?_
  go_simp
  go_at_call 49
  refine HFC.out.mono ?_
  rintro e w5 ⟨rfl, hb5⟩
  have hb5' : Below w6.heap.size w6 w5 := ak (ae (av (Below.refl _ _)) _) hb5
  have HB0 := HBX
  replace HBX := zh (HBX.out.below hb5')
  replace HB := zh (HB.out.trans (hb5'.mono (Nat.le_of_lt (ad HB0.out.c))))
  clear HB0
  have HS5 : Hid (w5.cell? ⟨VP, 0, none⟩ = some (.map (some vr))) := zh (aa HBX.out.v (j := 0) rfl)
  clear hb5 hb5' hs0
  go_simp
  refine hK.out _ _ ?_ (fun hHeld => ?_)
  ·(try dsimp only)
   exact HS5.out
  clear hK K
  try go_simp
  refine wpAnyH_done (by kernel_rfl) ?_ _
  dsimp only [bT]
  obtain ⟨r0, r1, -⟩ := css HBX.out.r
  obtain ⟨k0, k1, -⟩ := fzs HBX.out.r
  go_wp2_with fail
  have hfin := (HB.out.setCell (p := ⟨RB, 0, none⟩) HXR.out.2.2 (.int .i64 fe)).setCell (p := ⟨RB, 1, none⟩) HXR.out.2.2 (.int .i64 fa)
  rw [← HXR.out.1] at hfin
  refine bodyPost_ret (v := .tuple #[.map (some vr), .agg #[.int .i64 fe, .int .i64 fa]]) (by simp [results, Tryz.results85, go_sem, r0, r1]) rfl ⟨vr, by rw [HE.out]; rfl, ?_, hfin⟩
  rw [HE.out]
  exact HCT.out.view.below hfin
 by_cases h5 : op = 5
 ·subst h5
  by_cases hz : n1 = 0
  ·subst hz
   have HE := zh (HC.out.trans (sR F res text es body els pos v HN.out.1.symm HSH.out))
   obtain ⟨frr, hob, _⟩ := HCX.out.obj
   obtain ⟨s0, -, q2, -⟩ := css HBX.out.s
   have HFC := zh (cg (res == 0) 51 pos w3.drew)
   generalize noC (res == 0) 51 pos = q at *
   obtain ⟨fe, fa⟩ := q
   unfold bz at HFC
   dsimp only at HFC
   go_upto_region 18 with fail
   clear s0 q2
   have HSW : Hid (w3.cell? ⟨VP, 0, none⟩ = some (.map (some vr)) ∧ w3.cell? ⟨CP, 0, none⟩ = some (.pointer (some ⟨cb, 0, none⟩)) ∧ w3.cell? ⟨cb, 1, none⟩ = some (.int .i64 res) ∧ w3.cell? ⟨SP, 5, none⟩ = some (.int .i64 pos)) := zh ⟨aa HBX.out.v (j := 0) rfl, aa HBX.out.c (j := 0) rfl, aa hob (j := 1) rfl, aa HBX.out.s (j := 5) rfl⟩
   have HS0 : Hid (w3.drew.cell? ⟨VP, 0, none⟩ = some (.map (some vr)) ∧ w3.drew.cell? ⟨CP, 0, none⟩ = some (.pointer (some ⟨cb, 0, none⟩)) ∧ w3.drew.cell? ⟨cb, 1, none⟩ = some (.int .i64 res) ∧ w3.drew.cell? ⟨SP, 5, none⟩ = some (.int .i64 pos)) := zh HSW.out
   have hs0 := HS0.out
   refine az (S := (fun w' : World => w'.cell? ⟨VP, 0, none⟩ = some (.map (some vr)) ∧ w'.cell? ⟨CP, 0, none⟩ = some (.pointer (some ⟨cb, 0, none⟩)) ∧ w'.cell? ⟨cb, 1, none⟩ = some (.int .i64 res) ∧ w'.cell? ⟨SP, 5, none⟩ = some (.int .i64 pos))) 9 (by kernel_rfl) (by kernel_rfl) (by exact HS0.out) (fun hHeld => ?_)
   simp only [List.take_succ_cons, List.take_zero, List.drop_succ_cons, List.drop_zero]
   refine tkA 0 ?_
   refine tkA 1 ?_
   refine tkA 2 ?_
   refine tkA 3 ?_
   refine tkA 4 ?_
   refine tkA 5 ?_
   refine tkA 6 ?_
   refine tkA 7 ?_
   refine rd1 8 fun K hK => ?_
   go_simp
   go_at_call 53
   refine HFC.out.mono ?_
   rintro e w5 ⟨rfl, hb5⟩
   have hb5' : Below w3.heap.size w3 w5 := ak (av (Below.refl _ _)) hb5
   have HS5 : Hid (w5.cell? ⟨VP, 0, none⟩ = some (.map (some vr)) ∧ w5.cell? ⟨CP, 0, none⟩ = some (.pointer (some ⟨cb, 0, none⟩)) ∧ w5.cell? ⟨cb, 1, none⟩ = some (.int .i64 res) ∧ w5.cell? ⟨SP, 5, none⟩ = some (.int .i64 pos)) := zh ⟨(hb5'.cell (p := ⟨VP, 0, none⟩) (am HSW.out.1)).trans HSW.out.1, (hb5'.cell (p := ⟨CP, 0, none⟩) (am HSW.out.2.1)).trans HSW.out.2.1, (hb5'.cell (p := ⟨cb, 1, none⟩) (am HSW.out.2.2.1)).trans HSW.out.2.2.1, (hb5'.cell (p := ⟨SP, 5, none⟩) (am HSW.out.2.2.2)).trans HSW.out.2.2.2⟩
   have HB0 := HBX
   replace HBX := zh (HBX.out.below hb5')
   replace HB := zh (HB.out.trans (hb5'.mono (Nat.le_of_lt (ad HB0.out.c))))
   clear HB0
   clear hb5 hb5' hs0
   go_simp
   refine hK.out _ _ ?_ (fun hHeld => ?_)
   ·(try dsimp only)
    exact HS5.out
   clear hK K
   try go_simp
   refine wpAnyH_done (by kernel_rfl) ?_ _
   dsimp only [bT]
   obtain ⟨r0, r1, -⟩ := css HBX.out.r
   obtain ⟨k0, k1, -⟩ := fzs HBX.out.r
   go_wp2_with fail
   have hfin := (HB.out.setCell (p := ⟨RB, 0, none⟩) HXR.out.2.2 (.int .i64 fe)).setCell (p := ⟨RB, 1, none⟩) HXR.out.2.2 (.int .i64 fa)
   rw [← HXR.out.1] at hfin
   refine bodyPost_ret (v := .tuple #[.map (some vr), .agg #[.int .i64 fe, .int .i64 fa]]) (by simp [results, Tryz.results85, go_sem, r0, r1]) rfl ⟨vr, by rw [HE.out]; rfl, ?_, hfin⟩
   rw [HE.out]
   exact HCT.out.view.below hfin
  replace HC := zh (HC.out.trans (sX F res text es body els pos v (by rw [← HN.out.1]; exact hz) HSH.out))
  have hn0 : 0 < n1 := by omega
  obtain ⟨s0, -, q2, -⟩ := css HBX.out.s
  go_upto_region 19 with fail
  clear s0 q2
  have HCPL : Hid (CP < w3.heap.size ∧ SP < w3.heap.size ∧ VP < w3.heap.size ∧ RB < w3.heap.size) := zh ⟨ad HBX.out.c, ad HBX.out.s, ad HBX.out.v, ad HBX.out.r⟩
  obtain ⟨xb, xoff, xop, xnum, xt, xs, xn, xc, xpos, rfl, hn1, hbl, y0, y1, y2, y3, y4, hrep⟩ := cJ (HES.out.keep HST.out) (by rw [← HN.out.1]; exact hn0)
  have HXP : Hid ((es.headD default).pos = xpos ∧ (es.headD default).op = xop) := zh (by obtain ⟨_, e, _⟩ := bL hrep; rw [e]; exact ⟨rfl, rfl⟩)
  have gn0 : (0 : Int) < (n1 : Int) := by omega
  have HCK := zh (fun W1 (h1 : Below w3.heap.size w3 W1) => HEX.out (es.headD default) v vr W1 xop xnum xpos xt xs xn xc (HCX.out.below h1) (hrep.keep (Stays.of_below h1)))
  have HSW : Hid (S8 VP vr CP cb SP xb xoff n1 c1 xop xnum xt xs xn xc xpos w3) := zh ⟨aa HBX.out.v (j := 0) rfl, aa HBX.out.c (j := 0) rfl, aa HBX.out.s (j := 2) rfl, y0, y1, y2, y3, y4⟩
  clear hrep y0 y1 y2 y3 y4
  generalize aG F v (es.headD default) = xr at *
  obtain ⟨t, fe, fa⟩ := xr
  unfold bz at HCK
  dsimp only at HCK HC
  apply shared (fun TP FP w8 => Below w3.heap.size w3 w8 ∧ w8.heap[TP]? = some (.cells #[.int .i64 t] 32 (0, 0)) ∧ w8.heap[FP]? = some (.cells #[.int .i64 fe, .int .i64 fa] 96 (0, 0)) ∧ w3.heap.size ≤ TP ∧ w3.heap.size ≤ FP ∧ ¬ TP = FP)
  intro HL
  have hs0 : S8 VP vr CP cb SP xb xoff n1 c1 xop xnum xt xs xn xc xpos w3.drew := HSW.out.below (av (Below.refl _ _))
  refine wp_region_held (S := S8 VP vr CP cb SP xb xoff n1 c1 xop xnum xt xs xn xc xpos) (by kernel_rfl) ?_
  refine tk (v := ?_) 0 (fun w hSw => ?_) ?_; rotate_left
  ·unfold S8 at hSw; go_simp; try with_reducible rfl
  refine tk (v := ?_) 1 (fun w hSw => ?_) ?_; rotate_left
  ·unfold S8 at hSw; go_simp; try with_reducible rfl
  refine tk (v := ?_) 2 (fun w hSw => ?_) ?_; rotate_left
  ·unfold S8 at hSw; go_simp; try with_reducible rfl
  refine tk (v := ?_) 3 (fun w hSw => ?_) ?_; rotate_left
  ·unfold S8 at hSw; go_simp; try with_reducible rfl
  refine tk (v := ?_) 4 (fun w hSw => ?_) ?_; rotate_left
  ·unfold S8 at hSw; go_simp; try with_reducible rfl
  refine tk (v := ?_) 5 (fun w hSw => ?_) ?_; rotate_left
  ·unfold S8 at hSw; go_simp; try with_reducible rfl
  have HBA0 : Hid (Below w3.heap.size w3 w3.drew) := zh (av (Below.refl _ _))
  refine wpAnyH_ready (rs := [6, 10, 11]) (by kernel_rfl) (by simp) ?_
  refine (AllReadyH.cons rfl (fun K hK => ?_) (AllReadyH.cons rfl (fun K hK => ?_) (AllReadyH.cons rfl (fun K hK => ?_) AllReadyH.nil)))
  ·go_simp
   go_at_call 103
   refine (HCK.out _ HBA0.out).mono ?_
   rintro e w5 ⟨rfl, hb5⟩
   have HBA1 := zh (HBA0.out.trans (hb5.mono HBA0.out.size))
   have HSZ := zh hb5.size
   clear hb5 hs0
   go_simp
   refine hK.out _ _ ?_ (fun hHeld => ?_)
   ·exact HSW.out.below HBA1.out
   clear hK K
   try go_simp
   refine tk (v := ?_) 7 (fun w hSw => ?_) ?_; rotate_left
   ·unfold S8 at hSw; go_simp; try with_reducible rfl
   refine tk (v := ?_) 8 (fun w hSw => ?_) ?_; rotate_left
   ·unfold S8 at hSw; go_simp; try with_reducible rfl
   refine tk (v := ?_) 9 (fun w hSw => ?_) ?_; rotate_left
   ·unfold S8 at hSw; go_simp; try with_reducible rfl
   refine wpAnyH_ready (rs := [10, 11]) (by kernel_rfl) (by simp) ?_
   refine (AllReadyH.cons rfl (fun K hK => ?_) (AllReadyH.cons rfl (fun K hK => ?_) AllReadyH.nil))
   ·go_simp
    have HBA2 : Hid (Below w3.heap.size w3 (w5.alloc (.cells #[.int .i64 0] 32))) := zh (ae HBA1.out _)
    have HKt : Hid ((w5.alloc (.cells #[.int .i64 0] 32)).heap[w5.heap.size]? = some (.cells #[.int .i64 0] 32 (0, 0))) := zh (ah _ _ _ rfl)
    refine hK.out _ _ ?_ (fun hHeld => ?_)
    ·exact HSW.out.below HBA2.out
    clear hK K
    try go_simp
    refine rd1 11 fun K hK => ?_
    go_simp
    have HBA3 : Hid (Below w3.heap.size w3 ((w5.alloc (.cells #[.int .i64 0] 32)).alloc (.cells #[.int .i64 0, .int .i64 0] 96))) := zh (ae HBA2.out _)
    have HKf : Hid (((w5.alloc (.cells #[.int .i64 0] 32)).alloc (.cells #[.int .i64 0, .int .i64 0] 96)).heap[(w5.alloc (.cells #[.int .i64 0] 32)).heap.size]? = some (.cells #[.int .i64 0, .int .i64 0] 96 (0, 0))) := zh (ah _ _ _ rfl)
    replace HKt : Hid (((w5.alloc (.cells #[.int .i64 0] 32)).alloc (.cells #[.int .i64 0, .int .i64 0] 96)).heap[_]? = _) := zh (au _ _ _ _ HKt.out)
    refine hK.out _ _ ?_ (fun hHeld => ?_)
    ·exact HSW.out.below HBA3.out
    clear hK K
    try go_simp
    obtain ⟨N3, hN3⟩ : ∃ N, N = w3.heap.size := ⟨_, rfl⟩
    have hs5 : w3.heap.size ≤ w5.heap.size := HBA1.out.size
    have f1 : Below N3 w3 ((w5.alloc (.cells #[.int .i64 0] 32)).alloc (.cells #[.int .i64 0, .int .i64 0] 96)) := by rw [hN3]; exact HBA3.out
    have f2 : ((w5.alloc (.cells #[.int .i64 0] 32)).alloc (.cells #[.int .i64 0, .int .i64 0] 96)).heap[w5.heap.size]? = some (.cells #[.int .i64 0] 32 (0, 0)) := by
     have q := HKt.out
     exact q
    have f3 : ((w5.alloc (.cells #[.int .i64 0] 32)).alloc (.cells #[.int .i64 0, .int .i64 0] 96)).heap[w5.heap.size + 1]? = some (.cells #[.int .i64 0, .int .i64 0] 96 (0, 0)) := by
     have q := HKf.out
     rw [ag] at q
     exact q
    have f4 : N3 ≤ w5.heap.size ∧ N3 ≤ w5.heap.size + 1 ∧ ¬ w5.heap.size = w5.heap.size + 1 := by omega
    revert f1 f2 f3 f4
    generalize ((w5.alloc (.cells #[.int .i64 0] 32)).alloc (.cells #[.int .i64 0, .int .i64 0] 96)) = w6
    generalize w5.heap.size + 1 = FP
    generalize w5.heap.size = TP
    intro f1 f2 f3 f4
    rw [hN3] at f1 f4
    have HF1 := zh f1
    have HF2 := zh f2
    have HF3 := zh f3
    have HF4 := zh f4
    clear f1 f2 f3 f4 hN3 hs5 HKt HKf
    have z0 : w6.cell? ⟨TP, 0, none⟩ = some (.int .i64 0) := aa HF2.out (j := 0) rfl
    have y0 : w6.frozen? ⟨TP, 0, none⟩ = false := ab HF2.out 0
    refine rd1 12 fun K hK => ?_
    go_simp
    have HG1 : Hid (Below w3.heap.size w3 (w6.setCell ⟨TP, 0, none⟩ (.int .i64 t))) := zh (HF1.out.setCell (p := ⟨TP, 0, none⟩) HF4.out.1 _)
    have HG2 : Hid ((w6.setCell ⟨TP, 0, none⟩ (.int .i64 t)).heap[TP]? = some (.cells #[.int .i64 t] 32 (0, 0))) := zh (ai HF2.out 0 _)
    have HG3 : Hid ((w6.setCell ⟨TP, 0, none⟩ (.int .i64 t)).heap[FP]? = some (.cells #[.int .i64 0, .int .i64 0] 96 (0, 0))) := zh ((af _ _ _ _ (fun e => HF4.out.2.2 e.symm)).trans HF3.out)
    refine hK.out _ _ ?_ (fun hHeld => ?_)
    ·exact HSW.out.below HG1.out
    clear hK K
    try go_simp
    clear z0 y0 HF1 HF2 HF3
    generalize (w6.setCell ⟨TP, 0, none⟩ (.int .i64 t)) = w7 at *
    obtain ⟨z0, z1, -⟩ := css HG3.out
    obtain ⟨y0, y1, -⟩ := fzs HG3.out
    refine rd1 13 fun K hK => ?_
    go_simp
    have HH1 := ((HG1.out.setCell (p := ⟨FP, 0, none⟩) HF4.out.2.1 (.int .i64 fe)).setCell (p := ⟨FP, 1, none⟩) HF4.out.2.1 (.int .i64 fa))
    refine hK.out _ _ ?_ (fun hHeld => ?_)
    ·exact HSW.out.below HH1
    clear hK K
    try go_simp
    refine wpAnyH_done (by kernel_rfl) ?_ _
    exact HL TP FP _ ⟨HH1, (af _ _ _ _ HF4.out.2.2).trans ((af _ _ _ _ HF4.out.2.2).trans HG2.out), ai (ai HG3.out 0 _) 1 _, HF4.out⟩
   go_simp
   have HBA2 : Hid (Below w3.heap.size w3 (w5.alloc (.cells #[.int .i64 0, .int .i64 0] 96))) := zh (ae HBA1.out _)
   have HKf : Hid ((w5.alloc (.cells #[.int .i64 0, .int .i64 0] 96)).heap[w5.heap.size]? = some (.cells #[.int .i64 0, .int .i64 0] 96 (0, 0))) := zh (ah _ _ _ rfl)
   refine hK.out _ _ ?_ (fun hHeld => ?_)
   ·exact HSW.out.below HBA2.out
   clear hK K
   try go_simp
   refine rd1 10 fun K hK => ?_
   go_simp
   have HBA3 : Hid (Below w3.heap.size w3 ((w5.alloc (.cells #[.int .i64 0, .int .i64 0] 96)).alloc (.cells #[.int .i64 0] 32))) := zh (ae HBA2.out _)
   have HKt : Hid (((w5.alloc (.cells #[.int .i64 0, .int .i64 0] 96)).alloc (.cells #[.int .i64 0] 32)).heap[(w5.alloc (.cells #[.int .i64 0, .int .i64 0] 96)).heap.size]? = some (.cells #[.int .i64 0] 32 (0, 0))) := zh (ah _ _ _ rfl)
   replace HKf : Hid (((w5.alloc (.cells #[.int .i64 0, .int .i64 0] 96)).alloc (.cells #[.int .i64 0] 32)).heap[_]? = _) := zh (au _ _ _ _ HKf.out)
   refine hK.out _ _ ?_ (fun hHeld => ?_)
   ·exact HSW.out.below HBA3.out
   clear hK K
   try go_simp
   obtain ⟨N3, hN3⟩ : ∃ N, N = w3.heap.size := ⟨_, rfl⟩
   have hs5 : w3.heap.size ≤ w5.heap.size := HBA1.out.size
   have f1 : Below N3 w3 ((w5.alloc (.cells #[.int .i64 0, .int .i64 0] 96)).alloc (.cells #[.int .i64 0] 32)) := by rw [hN3]; exact HBA3.out
   have f2 : ((w5.alloc (.cells #[.int .i64 0, .int .i64 0] 96)).alloc (.cells #[.int .i64 0] 32)).heap[w5.heap.size + 1]? = some (.cells #[.int .i64 0] 32 (0, 0)) := by
    have q := HKt.out
    rw [ag] at q
    exact q
   have f3 : ((w5.alloc (.cells #[.int .i64 0, .int .i64 0] 96)).alloc (.cells #[.int .i64 0] 32)).heap[w5.heap.size]? = some (.cells #[.int .i64 0, .int .i64 0] 96 (0, 0)) := by
    have q := HKf.out
    exact q
   have f4 : N3 ≤ w5.heap.size + 1 ∧ N3 ≤ w5.heap.size ∧ ¬ w5.heap.size + 1 = w5.heap.size := by omega
   revert f1 f2 f3 f4
   generalize ((w5.alloc (.cells #[.int .i64 0, .int .i64 0] 96)).alloc (.cells #[.int .i64 0] 32)) = w6
   generalize w5.heap.size + 1 = TP
   generalize w5.heap.size = FP
   intro f1 f2 f3 f4
   rw [hN3] at f1 f4
   have HF1 := zh f1
   have HF2 := zh f2
   have HF3 := zh f3
   have HF4 := zh f4
   clear f1 f2 f3 f4 hN3 hs5 HKt HKf
   have z0 : w6.cell? ⟨TP, 0, none⟩ = some (.int .i64 0) := aa HF2.out (j := 0) rfl
   have y0 : w6.frozen? ⟨TP, 0, none⟩ = false := ab HF2.out 0
   refine rd1 12 fun K hK => ?_
   go_simp
   have HG1 : Hid (Below w3.heap.size w3 (w6.setCell ⟨TP, 0, none⟩ (.int .i64 t))) := zh (HF1.out.setCell (p := ⟨TP, 0, none⟩) HF4.out.1 _)
   have HG2 : Hid ((w6.setCell ⟨TP, 0, none⟩ (.int .i64 t)).heap[TP]? = some (.cells #[.int .i64 t] 32 (0, 0))) := zh (ai HF2.out 0 _)
   have HG3 : Hid ((w6.setCell ⟨TP, 0, none⟩ (.int .i64 t)).heap[FP]? = some (.cells #[.int .i64 0, .int .i64 0] 96 (0, 0))) := zh ((af _ _ _ _ (fun e => HF4.out.2.2 e.symm)).trans HF3.out)
   refine hK.out _ _ ?_ (fun hHeld => ?_)
   ·exact HSW.out.below HG1.out
   clear hK K
   try go_simp
   clear z0 y0 HF1 HF2 HF3
   generalize (w6.setCell ⟨TP, 0, none⟩ (.int .i64 t)) = w7 at *
   obtain ⟨z0, z1, -⟩ := css HG3.out
   obtain ⟨y0, y1, -⟩ := fzs HG3.out
   refine rd1 13 fun K hK => ?_
   go_simp
   have HH1 := ((HG1.out.setCell (p := ⟨FP, 0, none⟩) HF4.out.2.1 (.int .i64 fe)).setCell (p := ⟨FP, 1, none⟩) HF4.out.2.1 (.int .i64 fa))
   refine hK.out _ _ ?_ (fun hHeld => ?_)
   ·exact HSW.out.below HH1
   clear hK K
   try go_simp
   refine wpAnyH_done (by kernel_rfl) ?_ _
   exact HL TP FP _ ⟨HH1, (af _ _ _ _ HF4.out.2.2).trans ((af _ _ _ _ HF4.out.2.2).trans HG2.out), ai (ai HG3.out 0 _) 1 _, HF4.out⟩
  ·go_simp
   have HBA1 : Hid (Below w3.heap.size w3 (w3.drew.alloc (.cells #[.int .i64 0] 32))) := zh (ae HBA0.out _)
   have HKt : Hid ((w3.drew.alloc (.cells #[.int .i64 0] 32)).heap[w3.drew.heap.size]? = some (.cells #[.int .i64 0] 32 (0, 0))) := zh (ah _ _ _ rfl)
   clear hs0
   refine hK.out _ _ ?_ (fun hHeld => ?_)
   ·exact HSW.out.below HBA1.out
   clear hK K
   try go_simp
   refine wpAnyH_ready (rs := [6, 11]) (by kernel_rfl) (by simp) ?_
   refine (AllReadyH.cons rfl (fun K hK => ?_) (AllReadyH.cons rfl (fun K hK => ?_) AllReadyH.nil))
   ·go_simp
    go_at_call 103
    refine (HCK.out _ HBA1.out).mono ?_
    rintro e w5 ⟨rfl, hb5⟩
    have HBA2 := zh (HBA1.out.trans (hb5.mono HBA1.out.size))
    replace HKt := zh ((hb5.block _ (ad HKt.out)).trans HKt.out)
    have HSZ := zh hb5.size
    clear hb5
    go_simp
    refine hK.out _ _ ?_ (fun hHeld => ?_)
    ·exact HSW.out.below HBA2.out
    clear hK K
    try go_simp
    refine tk (v := ?_) 7 (fun w hSw => ?_) ?_; rotate_left
    ·unfold S8 at hSw; go_simp; try with_reducible rfl
    refine tk (v := ?_) 8 (fun w hSw => ?_) ?_; rotate_left
    ·unfold S8 at hSw; go_simp; try with_reducible rfl
    refine tk (v := ?_) 9 (fun w hSw => ?_) ?_; rotate_left
    ·unfold S8 at hSw; go_simp; try with_reducible rfl
    refine rd1 11 fun K hK => ?_
    go_simp
    have HBA3 : Hid (Below w3.heap.size w3 (w5.alloc (.cells #[.int .i64 0, .int .i64 0] 96))) := zh (ae HBA2.out _)
    have HKf : Hid ((w5.alloc (.cells #[.int .i64 0, .int .i64 0] 96)).heap[w5.heap.size]? = some (.cells #[.int .i64 0, .int .i64 0] 96 (0, 0))) := zh (ah _ _ _ rfl)
    replace HKt : Hid ((w5.alloc (.cells #[.int .i64 0, .int .i64 0] 96)).heap[_]? = _) := zh (au _ _ _ _ HKt.out)
    refine hK.out _ _ ?_ (fun hHeld => ?_)
    ·exact HSW.out.below HBA3.out
    clear hK K
    try go_simp
    obtain ⟨N3, hN3⟩ : ∃ N, N = w3.heap.size := ⟨_, rfl⟩
    have hs5 : w3.heap.size ≤ w5.heap.size := HBA2.out.size
    have hsz : w3.heap.size + 1 ≤ w5.heap.size := by have q := HSZ.out; rw [ag] at q; exact q
    have f1 : Below N3 w3 (w5.alloc (.cells #[.int .i64 0, .int .i64 0] 96)) := by rw [hN3]; exact HBA3.out
    have f2 : (w5.alloc (.cells #[.int .i64 0, .int .i64 0] 96)).heap[w3.heap.size]? = some (.cells #[.int .i64 0] 32 (0, 0)) := by
     have q := HKt.out
     exact q
    have f3 : (w5.alloc (.cells #[.int .i64 0, .int .i64 0] 96)).heap[w5.heap.size]? = some (.cells #[.int .i64 0, .int .i64 0] 96 (0, 0)) := by
     have q := HKf.out
     exact q
    have f4 : N3 ≤ w3.heap.size ∧ N3 ≤ w5.heap.size ∧ ¬ w3.heap.size = w5.heap.size := by omega
    revert f1 f2 f3 f4
    generalize (w5.alloc (.cells #[.int .i64 0, .int .i64 0] 96)) = w6
    generalize w3.heap.size = TP
    generalize w5.heap.size = FP
    intro f1 f2 f3 f4
    rw [hN3] at f1 f4
    have HF1 := zh f1
    have HF2 := zh f2
    have HF3 := zh f3
    have HF4 := zh f4
    clear f1 f2 f3 f4 hN3 hs5 hsz HKt HKf
    have z0 : w6.cell? ⟨TP, 0, none⟩ = some (.int .i64 0) := aa HF2.out (j := 0) rfl
    have y0 : w6.frozen? ⟨TP, 0, none⟩ = false := ab HF2.out 0
    refine rd1 12 fun K hK => ?_
    go_simp
    have HG1 : Hid (Below w3.heap.size w3 (w6.setCell ⟨TP, 0, none⟩ (.int .i64 t))) := zh (HF1.out.setCell (p := ⟨TP, 0, none⟩) HF4.out.1 _)
    have HG2 : Hid ((w6.setCell ⟨TP, 0, none⟩ (.int .i64 t)).heap[TP]? = some (.cells #[.int .i64 t] 32 (0, 0))) := zh (ai HF2.out 0 _)
    have HG3 : Hid ((w6.setCell ⟨TP, 0, none⟩ (.int .i64 t)).heap[FP]? = some (.cells #[.int .i64 0, .int .i64 0] 96 (0, 0))) := zh ((af _ _ _ _ (fun e => HF4.out.2.2 e.symm)).trans HF3.out)
    refine hK.out _ _ ?_ (fun hHeld => ?_)
    ·exact HSW.out.below HG1.out
    clear hK K
    try go_simp
    clear z0 y0 HF1 HF2 HF3
    generalize (w6.setCell ⟨TP, 0, none⟩ (.int .i64 t)) = w7 at *
    obtain ⟨z0, z1, -⟩ := css HG3.out
    obtain ⟨y0, y1, -⟩ := fzs HG3.out
    refine rd1 13 fun K hK => ?_
    go_simp
    have HH1 := ((HG1.out.setCell (p := ⟨FP, 0, none⟩) HF4.out.2.1 (.int .i64 fe)).setCell (p := ⟨FP, 1, none⟩) HF4.out.2.1 (.int .i64 fa))
    refine hK.out _ _ ?_ (fun hHeld => ?_)
    ·exact HSW.out.below HH1
    clear hK K
    try go_simp
    refine wpAnyH_done (by kernel_rfl) ?_ _
    exact HL TP FP _ ⟨HH1, (af _ _ _ _ HF4.out.2.2).trans ((af _ _ _ _ HF4.out.2.2).trans HG2.out), ai (ai HG3.out 0 _) 1 _, HF4.out⟩
   go_simp
   have HBA2 : Hid (Below w3.heap.size w3 ((w3.drew.alloc (.cells #[.int .i64 0] 32)).alloc (.cells #[.int .i64 0, .int .i64 0] 96))) := zh (ae HBA1.out _)
   have HKf : Hid (((w3.drew.alloc (.cells #[.int .i64 0] 32)).alloc (.cells #[.int .i64 0, .int .i64 0] 96)).heap[(w3.drew.alloc (.cells #[.int .i64 0] 32)).heap.size]? = some (.cells #[.int .i64 0, .int .i64 0] 96 (0, 0))) := zh (ah _ _ _ rfl)
   replace HKt : Hid (((w3.drew.alloc (.cells #[.int .i64 0] 32)).alloc (.cells #[.int .i64 0, .int .i64 0] 96)).heap[_]? = _) := zh (au _ _ _ _ HKt.out)
   refine hK.out _ _ ?_ (fun hHeld => ?_)
   ·exact HSW.out.below HBA2.out
   clear hK K
   try go_simp
   refine rd1 6 fun K hK => ?_
   go_simp
   go_at_call 103
   refine (HCK.out _ HBA2.out).mono ?_
   rintro e w5 ⟨rfl, hb5⟩
   have HBA3 := zh (HBA2.out.trans (hb5.mono HBA2.out.size))
   replace HKt := zh ((hb5.block _ (ad HKt.out)).trans HKt.out)
   replace HKf := zh ((hb5.block _ (ad HKf.out)).trans HKf.out)
   have HSZ := zh hb5.size
   clear hb5
   go_simp
   refine hK.out _ _ ?_ (fun hHeld => ?_)
   ·exact HSW.out.below HBA3.out
   clear hK K
   try go_simp
   refine tk (v := ?_) 7 (fun w hSw => ?_) ?_; rotate_left
   ·unfold S8 at hSw; go_simp; try with_reducible rfl
   refine tk (v := ?_) 8 (fun w hSw => ?_) ?_; rotate_left
   ·unfold S8 at hSw; go_simp; try with_reducible rfl
   refine tk (v := ?_) 9 (fun w hSw => ?_) ?_; rotate_left
   ·unfold S8 at hSw; go_simp; try with_reducible rfl
   obtain ⟨N3, hN3⟩ : ∃ N, N = w3.heap.size := ⟨_, rfl⟩
   have hs5 : w3.heap.size ≤ w5.heap.size := HBA3.out.size
   have f1 : Below N3 w3 w5 := by rw [hN3]; exact HBA3.out
   have f2 : w5.heap[w3.heap.size]? = some (.cells #[.int .i64 0] 32 (0, 0)) := by
    have q := HKt.out
    exact q
   have f3 : w5.heap[w3.heap.size + 1]? = some (.cells #[.int .i64 0, .int .i64 0] 96 (0, 0)) := by
    have q := HKf.out
    rw [ag] at q
    exact q
   have f4 : N3 ≤ w3.heap.size ∧ N3 ≤ w3.heap.size + 1 ∧ ¬ w3.heap.size = w3.heap.size + 1 := by omega
   revert f1 f2 f3 f4
   generalize w5 = w6
   generalize w3.heap.size + 1 = FP
   generalize w3.heap.size = TP
   intro f1 f2 f3 f4
   rw [hN3] at f1 f4
   have HF1 := zh f1
   have HF2 := zh f2
   have HF3 := zh f3
   have HF4 := zh f4
   clear f1 f2 f3 f4 hN3 hs5 HKt HKf
   have z0 : w6.cell? ⟨TP, 0, none⟩ = some (.int .i64 0) := aa HF2.out (j := 0) rfl
   have y0 : w6.frozen? ⟨TP, 0, none⟩ = false := ab HF2.out 0
   refine rd1 12 fun K hK => ?_
   go_simp
   have HG1 : Hid (Below w3.heap.size w3 (w6.setCell ⟨TP, 0, none⟩ (.int .i64 t))) := zh (HF1.out.setCell (p := ⟨TP, 0, none⟩) HF4.out.1 _)
   have HG2 : Hid ((w6.setCell ⟨TP, 0, none⟩ (.int .i64 t)).heap[TP]? = some (.cells #[.int .i64 t] 32 (0, 0))) := zh (ai HF2.out 0 _)
   have HG3 : Hid ((w6.setCell ⟨TP, 0, none⟩ (.int .i64 t)).heap[FP]? = some (.cells #[.int .i64 0, .int .i64 0] 96 (0, 0))) := zh ((af _ _ _ _ (fun e => HF4.out.2.2 e.symm)).trans HF3.out)
   refine hK.out _ _ ?_ (fun hHeld => ?_)
   ·exact HSW.out.below HG1.out
   clear hK K
   try go_simp
   clear z0 y0 HF1 HF2 HF3
   generalize (w6.setCell ⟨TP, 0, none⟩ (.int .i64 t)) = w7 at *
   obtain ⟨z0, z1, -⟩ := css HG3.out
   obtain ⟨y0, y1, -⟩ := fzs HG3.out
   refine rd1 13 fun K hK => ?_
   go_simp
   have HH1 := ((HG1.out.setCell (p := ⟨FP, 0, none⟩) HF4.out.2.1 (.int .i64 fe)).setCell (p := ⟨FP, 1, none⟩) HF4.out.2.1 (.int .i64 fa))
   refine hK.out _ _ ?_ (fun hHeld => ?_)
   ·exact HSW.out.below HH1
   clear hK K
   try go_simp
   refine wpAnyH_done (by kernel_rfl) ?_ _
   exact HL TP FP _ ⟨HH1, (af _ _ _ _ HF4.out.2.2).trans ((af _ _ _ _ HF4.out.2.2).trans HG2.out), ai (ai HG3.out 0 _) 1 _, HF4.out⟩
  go_simp
  have HBA1 : Hid (Below w3.heap.size w3 (w3.drew.alloc (.cells #[.int .i64 0, .int .i64 0] 96))) := zh (ae HBA0.out _)
  have HKf : Hid ((w3.drew.alloc (.cells #[.int .i64 0, .int .i64 0] 96)).heap[w3.drew.heap.size]? = some (.cells #[.int .i64 0, .int .i64 0] 96 (0, 0))) := zh (ah _ _ _ rfl)
  clear hs0
  refine hK.out _ _ ?_ (fun hHeld => ?_)
  ·exact HSW.out.below HBA1.out
  clear hK K
  try go_simp
  refine wpAnyH_ready (rs := [6, 10]) (by kernel_rfl) (by simp) ?_
  refine (AllReadyH.cons rfl (fun K hK => ?_) (AllReadyH.cons rfl (fun K hK => ?_) AllReadyH.nil))
  ·go_simp
   go_at_call 103
   refine (HCK.out _ HBA1.out).mono ?_
   rintro e w5 ⟨rfl, hb5⟩
   have HBA2 := zh (HBA1.out.trans (hb5.mono HBA1.out.size))
   replace HKf := zh ((hb5.block _ (ad HKf.out)).trans HKf.out)
   have HSZ := zh hb5.size
   clear hb5
   go_simp
   refine hK.out _ _ ?_ (fun hHeld => ?_)
   ·exact HSW.out.below HBA2.out
   clear hK K
   try go_simp
   refine tk (v := ?_) 7 (fun w hSw => ?_) ?_; rotate_left
   ·unfold S8 at hSw; go_simp; try with_reducible rfl
   refine tk (v := ?_) 8 (fun w hSw => ?_) ?_; rotate_left
   ·unfold S8 at hSw; go_simp; try with_reducible rfl
   refine tk (v := ?_) 9 (fun w hSw => ?_) ?_; rotate_left
   ·unfold S8 at hSw; go_simp; try with_reducible rfl
   refine rd1 10 fun K hK => ?_
   go_simp
   have HBA3 : Hid (Below w3.heap.size w3 (w5.alloc (.cells #[.int .i64 0] 32))) := zh (ae HBA2.out _)
   have HKt : Hid ((w5.alloc (.cells #[.int .i64 0] 32)).heap[w5.heap.size]? = some (.cells #[.int .i64 0] 32 (0, 0))) := zh (ah _ _ _ rfl)
   replace HKf : Hid ((w5.alloc (.cells #[.int .i64 0] 32)).heap[_]? = _) := zh (au _ _ _ _ HKf.out)
   refine hK.out _ _ ?_ (fun hHeld => ?_)
   ·exact HSW.out.below HBA3.out
   clear hK K
   try go_simp
   obtain ⟨N3, hN3⟩ : ∃ N, N = w3.heap.size := ⟨_, rfl⟩
   have hs5 : w3.heap.size ≤ w5.heap.size := HBA2.out.size
   have hsz : w3.heap.size + 1 ≤ w5.heap.size := by have q := HSZ.out; rw [ag] at q; exact q
   have f1 : Below N3 w3 (w5.alloc (.cells #[.int .i64 0] 32)) := by rw [hN3]; exact HBA3.out
   have f2 : (w5.alloc (.cells #[.int .i64 0] 32)).heap[w5.heap.size]? = some (.cells #[.int .i64 0] 32 (0, 0)) := by
    have q := HKt.out
    exact q
   have f3 : (w5.alloc (.cells #[.int .i64 0] 32)).heap[w3.heap.size]? = some (.cells #[.int .i64 0, .int .i64 0] 96 (0, 0)) := by
    have q := HKf.out
    exact q
   have f4 : N3 ≤ w5.heap.size ∧ N3 ≤ w3.heap.size ∧ ¬ w5.heap.size = w3.heap.size := by omega
   revert f1 f2 f3 f4
   generalize (w5.alloc (.cells #[.int .i64 0] 32)) = w6
   generalize w5.heap.size = TP
   generalize w3.heap.size = FP
   intro f1 f2 f3 f4
   rw [hN3] at f1 f4
   have HF1 := zh f1
   have HF2 := zh f2
   have HF3 := zh f3
   have HF4 := zh f4
   clear f1 f2 f3 f4 hN3 hs5 hsz HKt HKf
   have z0 : w6.cell? ⟨TP, 0, none⟩ = some (.int .i64 0) := aa HF2.out (j := 0) rfl
   have y0 : w6.frozen? ⟨TP, 0, none⟩ = false := ab HF2.out 0
   refine rd1 12 fun K hK => ?_
   go_simp
   have HG1 : Hid (Below w3.heap.size w3 (w6.setCell ⟨TP, 0, none⟩ (.int .i64 t))) := zh (HF1.out.setCell (p := ⟨TP, 0, none⟩) HF4.out.1 _)
   have HG2 : Hid ((w6.setCell ⟨TP, 0, none⟩ (.int .i64 t)).heap[TP]? = some (.cells #[.int .i64 t] 32 (0, 0))) := zh (ai HF2.out 0 _)
   have HG3 : Hid ((w6.setCell ⟨TP, 0, none⟩ (.int .i64 t)).heap[FP]? = some (.cells #[.int .i64 0, .int .i64 0] 96 (0, 0))) := zh ((af _ _ _ _ (fun e => HF4.out.2.2 e.symm)).trans HF3.out)
   refine hK.out _ _ ?_ (fun hHeld => ?_)
   ·exact HSW.out.below HG1.out
   clear hK K
   try go_simp
   clear z0 y0 HF1 HF2 HF3
   generalize (w6.setCell ⟨TP, 0, none⟩ (.int .i64 t)) = w7 at *
   obtain ⟨z0, z1, -⟩ := css HG3.out
   obtain ⟨y0, y1, -⟩ := fzs HG3.out
   refine rd1 13 fun K hK => ?_
   go_simp
   have HH1 := ((HG1.out.setCell (p := ⟨FP, 0, none⟩) HF4.out.2.1 (.int .i64 fe)).setCell (p := ⟨FP, 1, none⟩) HF4.out.2.1 (.int .i64 fa))
   refine hK.out _ _ ?_ (fun hHeld => ?_)
   ·exact HSW.out.below HH1
   clear hK K
   try go_simp
   refine wpAnyH_done (by kernel_rfl) ?_ _
   exact HL TP FP _ ⟨HH1, (af _ _ _ _ HF4.out.2.2).trans ((af _ _ _ _ HF4.out.2.2).trans HG2.out), ai (ai HG3.out 0 _) 1 _, HF4.out⟩
  go_simp
  have HBA2 : Hid (Below w3.heap.size w3 ((w3.drew.alloc (.cells #[.int .i64 0, .int .i64 0] 96)).alloc (.cells #[.int .i64 0] 32))) := zh (ae HBA1.out _)
  have HKt : Hid (((w3.drew.alloc (.cells #[.int .i64 0, .int .i64 0] 96)).alloc (.cells #[.int .i64 0] 32)).heap[(w3.drew.alloc (.cells #[.int .i64 0, .int .i64 0] 96)).heap.size]? = some (.cells #[.int .i64 0] 32 (0, 0))) := zh (ah _ _ _ rfl)
  replace HKf : Hid (((w3.drew.alloc (.cells #[.int .i64 0, .int .i64 0] 96)).alloc (.cells #[.int .i64 0] 32)).heap[_]? = _) := zh (au _ _ _ _ HKf.out)
  refine hK.out _ _ ?_ (fun hHeld => ?_)
  ·exact HSW.out.below HBA2.out
  clear hK K
  try go_simp
  refine rd1 6 fun K hK => ?_
  go_simp
  go_at_call 103
  refine (HCK.out _ HBA2.out).mono ?_
  rintro e w5 ⟨rfl, hb5⟩
  have HBA3 := zh (HBA2.out.trans (hb5.mono HBA2.out.size))
  replace HKf := zh ((hb5.block _ (ad HKf.out)).trans HKf.out)
  replace HKt := zh ((hb5.block _ (ad HKt.out)).trans HKt.out)
  have HSZ := zh hb5.size
  clear hb5
  go_simp
  refine hK.out _ _ ?_ (fun hHeld => ?_)
  ·exact HSW.out.below HBA3.out
  clear hK K
  try go_simp
  refine tk (v := ?_) 7 (fun w hSw => ?_) ?_; rotate_left
  ·unfold S8 at hSw; go_simp; try with_reducible rfl
  refine tk (v := ?_) 8 (fun w hSw => ?_) ?_; rotate_left
  ·unfold S8 at hSw; go_simp; try with_reducible rfl
  refine tk (v := ?_) 9 (fun w hSw => ?_) ?_; rotate_left
  ·unfold S8 at hSw; go_simp; try with_reducible rfl
  obtain ⟨N3, hN3⟩ : ∃ N, N = w3.heap.size := ⟨_, rfl⟩
  have hs5 : w3.heap.size ≤ w5.heap.size := HBA3.out.size
  have f1 : Below N3 w3 w5 := by rw [hN3]; exact HBA3.out
  have f2 : w5.heap[w3.heap.size + 1]? = some (.cells #[.int .i64 0] 32 (0, 0)) := by
   have q := HKt.out
   rw [ag] at q
   exact q
  have f3 : w5.heap[w3.heap.size]? = some (.cells #[.int .i64 0, .int .i64 0] 96 (0, 0)) := by
   have q := HKf.out
   exact q
  have f4 : N3 ≤ w3.heap.size + 1 ∧ N3 ≤ w3.heap.size ∧ ¬ w3.heap.size + 1 = w3.heap.size := by omega
  revert f1 f2 f3 f4
  generalize w5 = w6
  generalize w3.heap.size + 1 = TP
  generalize w3.heap.size = FP
  intro f1 f2 f3 f4
  rw [hN3] at f1 f4
  have HF1 := zh f1
  have HF2 := zh f2
  have HF3 := zh f3
  have HF4 := zh f4
  clear f1 f2 f3 f4 hN3 hs5 HKt HKf
  have z0 : w6.cell? ⟨TP, 0, none⟩ = some (.int .i64 0) := aa HF2.out (j := 0) rfl
  have y0 : w6.frozen? ⟨TP, 0, none⟩ = false := ab HF2.out 0
  refine rd1 12 fun K hK => ?_
  go_simp
  have HG1 : Hid (Below w3.heap.size w3 (w6.setCell ⟨TP, 0, none⟩ (.int .i64 t))) := zh (HF1.out.setCell (p := ⟨TP, 0, none⟩) HF4.out.1 _)
  have HG2 : Hid ((w6.setCell ⟨TP, 0, none⟩ (.int .i64 t)).heap[TP]? = some (.cells #[.int .i64 t] 32 (0, 0))) := zh (ai HF2.out 0 _)
  have HG3 : Hid ((w6.setCell ⟨TP, 0, none⟩ (.int .i64 t)).heap[FP]? = some (.cells #[.int .i64 0, .int .i64 0] 96 (0, 0))) := zh ((af _ _ _ _ (fun e => HF4.out.2.2 e.symm)).trans HF3.out)
  refine hK.out _ _ ?_ (fun hHeld => ?_)
  ·exact HSW.out.below HG1.out
  clear hK K
  try go_simp
  clear z0 y0 HF1 HF2 HF3
  generalize (w6.setCell ⟨TP, 0, none⟩ (.int .i64 t)) = w7 at *
  obtain ⟨z0, z1, -⟩ := css HG3.out
  obtain ⟨y0, y1, -⟩ := fzs HG3.out
  refine rd1 13 fun K hK => ?_
  go_simp
  have HH1 := ((HG1.out.setCell (p := ⟨FP, 0, none⟩) HF4.out.2.1 (.int .i64 fe)).setCell (p := ⟨FP, 1, none⟩) HF4.out.2.1 (.int .i64 fa))
  refine hK.out _ _ ?_ (fun hHeld => ?_)
  ·exact HSW.out.below HH1
  clear hK K
  try go_simp
  refine wpAnyH_done (by kernel_rfl) ?_ _
  exact HL TP FP _ ⟨HH1, (af _ _ _ _ HF4.out.2.2).trans ((af _ _ _ _ HF4.out.2.2).trans HG2.out), ai (ai HG3.out 0 _) 1 _, HF4.out⟩
  rintro TP FP w8 ⟨hh1, hh2, hh3, hh4⟩
  have HH2 := zh hh2
  have HH3 := zh hh3
  have HF4 := zh hh4
  have HTB1 := zh ((hh1.block _ (ad HTB.out)).trans HTB.out)
  have HB0 := HBX
  replace HBX := zh (HBX.out.below hh1)
  replace HB := zh (HB.out.trans (hh1.mono (Nat.le_of_lt (ad HB0.out.c))))
  clear HB0
  have HLE : Hid ((CP ≤ TP ∧ CP ≤ FP) ∧ (CP ≠ FP ∧ SP ≠ FP ∧ VP ≠ FP ∧ RB ≠ FP) ∧ RB ≠ TP ∧ ¬ TP = FP) := zh (by have q := HCPL.out; omega)
  clear HSW HNB HTB HCX HST HCK hh1 hh2 hh3 hh4
  have HCX := zh (HCT.out.below (by rw [HXR.out.1]; exact HB.out))
  have HST : Hid (Stays Any w w8) := zh (Stays.of_below (by rw [HXR.out.1]; exact HB.out))
  go_upto_region 20 with fail
  have HE := zh (HC.out.trans (rfl))
  have HFN := zh (qQ (rf HH3.out) (rA HCX.out HBX.out.c (by rw [← HN.out.1]; exact hn0) (HES.out.keep HST.out) HH2.out HBX.out.s) w8.drew (Below.refl _ _).drew 127)
  generalize hq : aO [(fe, fa), noC (t == res && t != 0) 51 (es.headD default).pos] = q at *
  obtain ⟨fe, fa⟩ := q
  have HFC := zh (dP _ _ _ HFN.out)
  rw [hq] at HFC
  clear hq HFN
  unfold bz at HFC
  dsimp only at HFC
  have HS0 : Hid (w8.drew.cell? ⟨VP, 0, none⟩ = some (.map (some vr))) := zh (aa HBX.out.v (j := 0) rfl)
  have hs0 := HS0.out
  refine az (S := (fun w' : World => w'.cell? ⟨VP, 0, none⟩ = some (.map (some vr)))) 5 (by kernel_rfl) (by kernel_rfl) (by exact HS0.out) (fun hHeld => ?_)
  simp only [List.take_succ_cons, List.take_zero, List.drop_succ_cons, List.drop_zero]
  refine tkA 0 ?_
  refine tkA 1 ?_
  refine tkA 2 ?_
  refine rd1 3 fun K hK => ?_
  go_simp
  refine hK.out _ _ ?_ (fun hHeld => ?_)
  ·(try dsimp only)
   exact aj _ HS0.out
  clear hK K
  try go_simp
  refine rd1 4 fun K hK => ?_
  go_simp
  go_at_call 49
  refine HFC.out.mono ?_
  rintro e w5 ⟨rfl, hb5⟩
  have hb5' : Below w8.heap.size w8 w5 := ak (ae (av (Below.refl _ _)) _) hb5
  have HB0 := HBX
  replace HBX := zh (HBX.out.below hb5')
  replace HB := zh (HB.out.trans (hb5'.mono (Nat.le_of_lt (ad HB0.out.c))))
  clear HB0
  have HS5 : Hid (w5.cell? ⟨VP, 0, none⟩ = some (.map (some vr))) := zh (aa HBX.out.v (j := 0) rfl)
  clear hb5 hb5' hs0
  go_simp
  refine hK.out _ _ ?_ (fun hHeld => ?_)
  ·(try dsimp only)
   exact HS5.out
  clear hK K
  try go_simp
  refine wpAnyH_done (by kernel_rfl) ?_ _
  dsimp only [bT]
  obtain ⟨r0, r1, -⟩ := css HBX.out.r
  obtain ⟨k0, k1, -⟩ := fzs HBX.out.r
  go_wp2_with fail
  have hfin := (HB.out.setCell (p := ⟨RB, 0, none⟩) HXR.out.2.2 (.int .i64 fe)).setCell (p := ⟨RB, 1, none⟩) HXR.out.2.2 (.int .i64 fa)
  rw [← HXR.out.1] at hfin
  refine bodyPost_ret (v := .tuple #[.map (some vr), .agg #[.int .i64 fe, .int .i64 fa]]) (by simp [results, Tryz.results85, go_sem, r0, r1]) rfl ⟨vr, by rw [HE.out]; rfl, ?_, hfin⟩
  rw [HE.out]
  exact HCT.out.view.below hfin
 have hn2 : n1 ≤ 2 := pk hsh
 have HE := zh (HC.out.trans (qV F res op text es body els pos v h1 h2 h3 h4 h5 h8 HSH.out))
 have s0 : w3.cell? ⟨SP, 0, none⟩ = some (.int .i64 op) := aa HBX.out.s (j := 0) rfl
 go_upto_region 24 with fail
 clear s0
 have hbD : Below w3.heap.size w3 (w3.drew.alloc (.cells #[.int .i64 3, .int .i64 3] 32)) := ae (av (Below.refl _ _)) _
 have HTY : Hid (TysAt (w3.drew.alloc (.cells #[.int .i64 3, .int .i64 3] 32)) (.slice (some ⟨w3.drew.heap.size, 0, none⟩) 2 2) [3, 3]) := zh ⟨_, 2, rfl, by show (2:Nat) ≤ 1000000; decide, fun _ => ⟨_, 0, rfl, by rw [ag]; exact Nat.lt_succ_self _, fun i hi => by
     rw [Nat.zero_add]
     have hi2 : i < 2 := hi
     rcases (show i = 0 ∨ i = 1 by omega) with rfl | rfl
     · exact aw _ _ _ _ _ _ rfl rfl
     · exact aw _ _ _ _ _ _ rfl rfl⟩⟩
 have HFC := zh (fh cb F res es (fun x _ => HEX.out x) v vr _ (.slice s1 n1 c1) _ [3, 3] (HCX.out.below hbD) ((HES.out.keep HST.out).keep (Stays.of_below hbD)) HTY.out (by rw [← HN.out.1]; exact hn2))
 clear hbD
 generalize bV F v es [3, 3] = q at *
 obtain ⟨fe, fa⟩ := q
 unfold bz at HFC
 dsimp only at HFC
 have HSW : Hid (w3.cell? ⟨VP, 0, none⟩ = some (.map (some vr)) ∧ w3.cell? ⟨CP, 0, none⟩ = some (.pointer (some ⟨cb, 0, none⟩)) ∧ w3.cell? ⟨SP, 2, none⟩ = some (.slice s1 n1 c1)) := zh ⟨aa HBX.out.v (j := 0) rfl, aa HBX.out.c (j := 0) rfl, aa HBX.out.s (j := 2) rfl⟩
 have HS0 : Hid (w3.drew.cell? ⟨VP, 0, none⟩ = some (.map (some vr)) ∧ w3.drew.cell? ⟨CP, 0, none⟩ = some (.pointer (some ⟨cb, 0, none⟩)) ∧ w3.drew.cell? ⟨SP, 2, none⟩ = some (.slice s1 n1 c1)) := zh HSW.out
 have hs0 := HS0.out
 refine az (S := (fun w' : World => w'.cell? ⟨VP, 0, none⟩ = some (.map (some vr)) ∧ w'.cell? ⟨CP, 0, none⟩ = some (.pointer (some ⟨cb, 0, none⟩)) ∧ w'.cell? ⟨SP, 2, none⟩ = some (.slice s1 n1 c1))) 7 (by kernel_rfl) (by kernel_rfl) (by exact HS0.out) (fun hHeld => ?_)
 simp only [List.take_succ_cons, List.take_zero, List.drop_succ_cons, List.drop_zero]
 refine tkA 0 ?_
 refine tkA 1 ?_
 refine tkA 2 ?_
 refine tkA 3 ?_
 refine tkA 4 ?_
 refine rd1 5 fun K hK => ?_
 go_simp
 refine hK.out _ _ ?_ (fun hHeld => ?_)
 ·(try dsimp only)
  exact ⟨aj _ HS0.out.1, aj _ HS0.out.2.1, aj _ HS0.out.2.2⟩
 clear hK K
 try go_simp
 refine rd1 6 fun K hK => ?_
 go_simp
 go_at_call 116
 refine HFC.out.mono ?_
 rintro e w5 ⟨rfl, hb5⟩
 have hb5' : Below w3.heap.size w3 w5 := ak (ae (av (Below.refl _ _)) _) hb5
 have HS5 : Hid (w5.cell? ⟨VP, 0, none⟩ = some (.map (some vr)) ∧ w5.cell? ⟨CP, 0, none⟩ = some (.pointer (some ⟨cb, 0, none⟩)) ∧ w5.cell? ⟨SP, 2, none⟩ = some (.slice s1 n1 c1)) := zh ⟨(hb5'.cell (p := ⟨VP, 0, none⟩) (am HSW.out.1)).trans HSW.out.1, (hb5'.cell (p := ⟨CP, 0, none⟩) (am HSW.out.2.1)).trans HSW.out.2.1, (hb5'.cell (p := ⟨SP, 2, none⟩) (am HSW.out.2.2)).trans HSW.out.2.2⟩
 have HB0 := HBX
 replace HBX := zh (HBX.out.below hb5')
 replace HB := zh (HB.out.trans (hb5'.mono (Nat.le_of_lt (ad HB0.out.c))))
 clear HB0
 clear hb5 hb5' hs0
 go_simp
 refine hK.out _ _ ?_ (fun hHeld => ?_)
 ·(try dsimp only)
  exact HS5.out
 clear hK K
 try go_simp
 refine wpAnyH_done (by kernel_rfl) ?_ _
 dsimp only [bT]
 obtain ⟨r0, r1, -⟩ := css HBX.out.r
 obtain ⟨k0, k1, -⟩ := fzs HBX.out.r
 go_wp2_with fail
 have hfin := (HB.out.setCell (p := ⟨RB, 0, none⟩) HXR.out.2.2 (.int .i64 fe)).setCell (p := ⟨RB, 1, none⟩) HXR.out.2.2 (.int .i64 fa)
 rw [← HXR.out.1] at hfin
 refine bodyPost_ret (v := .tuple #[.map (some vr), .agg #[.int .i64 fe, .int .i64 fa]]) (by simp [results, Tryz.results85, go_sem, r0, r1]) rfl ⟨vr, by rw [HE.out]; rfl, ?_, hfin⟩
 rw [HE.out]
 exact HCT.out.view.below hfin
theorem kD (cb : Nat) (F : aQ) (res : Int) (hF : ∀ p, p ∈ F → p.2.params.length ≤ 100000) : ∀ x, kL cb F res x
 | .mk op text es body els pos => oe cb F res (nl cb F res hF) op text es body els pos (fun x hx => by
     have := List.sizeOf_lt_of_mem hx
     exact kD cb F res hF x) (fun x hx => by
     have := List.sizeOf_lt_of_mem hx
     exact kD cb F res hF x)
termination_by x => SizeOf.sizeOf x
decreasing_by
 all_goals (simp_wf; omega)
end
end Go.Proofs.YtjblihabklemfaaGreatDoor
