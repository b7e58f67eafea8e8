/-
  Compile: part 39 of its proof: see the last text.
-/
import Derived.Test.YtjblihabklemfaaGreatDoorPm32
import Derived.Test.YtjblihabklemfaaGreatDoorPm38
set_option maxRecDepth 100000
set_option maxHeartbeats 16000000
namespace Go.Proofs.YtjblihabklemfaaGreatDoor
section
open Go.RowKit
theorem rH {W0 : World} {cb : Nat} {F : aQ} {res : Int} {v : aV} {vr CP FP VP : Nat} {nm : ByteArray} {rs pos : Int} {s1 s2 : Option Addr} {n1 c1 n2 c2 : Nat} {l : List St} (hl : ∀ x, x ∈ l → kL cb F res x) (hx : CtxAt W0 cb F res vr v) (hr : RepSts Any W0 (.slice s2 n2 c2) l) (hc : W0.heap[CP]? = some (.cells #[.pointer (some ⟨cb, 0, none⟩)] 90 (0, 0))) (hf : W0.heap[FP]? = some (.cells #[.string nm, .slice s1 n1 c1, .int .i64 rs, .slice s2 n2 c2, .int .i64 pos] 48 (0, 0))) (hv : W0.heap[VP]? = some (.cells #[.map (some vr)] 121 (0, 0))) : FnTells W0 (.func (.func 50) #[] #[.pointer (some ⟨CP, 0, none⟩), .pointer (some ⟨FP, 0, none⟩), .pointer (some ⟨VP, 0, none⟩)]) (be F res l v) := by
 refine ⟨_, _, rfl, enters_of Tryz.func50 (by kernel_rfl) rfl, fun W hW => ?_⟩
 have HC := zh ((hW.block _ (ad hc)).trans hc)
 have hl0 := ad HC.out
 have HF := zh ((hW.block _ (ad hf)).trans hf)
 have hl1 := ad HF.out
 have HV := zh ((hW.block _ (ad hv)).trans hv)
 have hl2 := ad HV.out
 have p0 : W.cell? ⟨CP, 0, none⟩ = some (.pointer (some ⟨cb, 0, none⟩)) := aa HC.out (j := 0) rfl
 have p1 : W.cell? ⟨FP, 3, none⟩ = some (.slice s2 n2 c2) := aa HF.out (j := 3) rfl
 have p2 : W.cell? ⟨VP, 0, none⟩ = some (.map (some vr)) := aa HV.out (j := 0) rfl
 have HB : Hid (Below W.heap.size W (W.alloc (.cells #[.int .i64 0, .int .i64 0] 96))) := zh (ae (Below.refl _ _) _)
 have HZ : Hid ((W.alloc (.cells #[.int .i64 0, .int .i64 0] 96)).heap[W.heap.size]? = some (.cells #[.int .i64 0, .int .i64 0] 96 (0, 0))) := zh (ah _ _ _ rfl)
 have hW2 := hW.trans (HB.out.mono hW.size)
 have HN := zh (hU cb F res l hl v vr _ _ (hx.below hW2) (hr.keep (Stays.of_below hW2)))
 generalize be F res l v = q at *
 obtain ⟨fe, fa⟩ := q
 go_enter Tryz.func50, Tryz.ntmps50
 go_wp2_with fail
 refine HN.out.mono ?_
 rintro e w2 ⟨rfl, hb2⟩
 have HZ2 := zh ((hb2.block _ (ad HZ.out)).trans HZ.out)
 have HB2 := zh (ak HB.out hb2)
 clear hb2
 unfold bz
 dsimp only
 have r0 : w2.cell? ⟨W.heap.size, 0, none⟩ = some (.int .i64 0) := aa HZ2.out (j := 0) rfl
 have r1 : w2.cell? ⟨W.heap.size, 1, none⟩ = some (.int .i64 0) := aa HZ2.out (j := 1) rfl
 have k0 : w2.frozen? ⟨W.heap.size, 0, none⟩ = false := ab HZ2.out 0
 have k1 : w2.frozen? ⟨W.heap.size, 1, none⟩ = false := ab HZ2.out 1
 go_wp2_with fail
 refine bodyPost_ret (v := .agg #[.int .i64 fe, .int .i64 fa]) (by simp [results, Tryz.results50, go_sem, r0, r1]) rfl ⟨rfl, ?_⟩
 exact (HB2.out.setCell (p := ⟨W.heap.size, 0, none⟩) (Nat.le_refl _) _).setCell (p := ⟨W.heap.size, 1, none⟩) (Nat.le_refl _) _
theorem qh {W0 : World} {FP : Nat} {nm : ByteArray} {rs pos : Int} {s1 s2 : Option Addr} {n1 c1 n2 c2 : Nat} (hf : W0.heap[FP]? = some (.cells #[.string nm, .slice s1 n1 c1, .int .i64 rs, .slice s2 n2 c2, .int .i64 pos] 48 (0, 0))) (hrs : (rs == 0) = true) : FnTells W0 (.func (.func 52) #[] #[.pointer (some ⟨FP, 0, none⟩)]) (noC true 54 pos) := by
 refine ⟨_, _, rfl, enters_of Tryz.func52 (by kernel_rfl) rfl, fun W hW => ?_⟩
 have HF := zh ((hW.block _ (ad hf)).trans hf)
 have hl0 := ad HF.out
 have HN := zh (cg (true) 54 pos)
 generalize noC (true) 54 pos = q at *
 obtain ⟨fe, fa⟩ := q
 have hbD : Below W.heap.size W (W.alloc (.cells #[.int .i64 0, .int .i64 0] 96)) := ae (Below.refl _ _) _
 have HZ : Hid ((W.alloc (.cells #[.int .i64 0, .int .i64 0] 96)).heap[W.heap.size]? = some (.cells #[.int .i64 0, .int .i64 0] 96 (0, 0))) := zh (ah _ _ _ rfl)
 have HSW : Hid (W.cell? ⟨FP, 2, none⟩ = some (.int .i64 rs) ∧ W.cell? ⟨FP, 3, none⟩ = some (.slice s2 n2 c2) ∧ W.cell? ⟨FP, 4, none⟩ = some (.int .i64 pos)) := zh ⟨aa HF.out (j := 2) rfl, aa HF.out (j := 3) rfl, aa HF.out (j := 4) rfl⟩
 have HLW : Hid (FP < W.heap.size ∧ FP < W.heap.size ∧ FP < W.heap.size) := zh ⟨hl0, hl0, hl0⟩
 go_enter Tryz.func52, Tryz.ntmps52
 go_upto_region 1 with fail
 have HB := zh hbD
 have HS0 : Hid ((W.alloc (.cells #[.int .i64 0, .int .i64 0] 96)).drew.cell? ⟨FP, 2, none⟩ = some (.int .i64 rs) ∧ (W.alloc (.cells #[.int .i64 0, .int .i64 0] 96)).drew.cell? ⟨FP, 3, none⟩ = some (.slice s2 n2 c2) ∧ (W.alloc (.cells #[.int .i64 0, .int .i64 0] 96)).drew.cell? ⟨FP, 4, none⟩ = some (.int .i64 pos)) := zh ⟨(hbD.cell (p := ⟨FP, 2, none⟩) HLW.out.1).trans HSW.out.1, (hbD.cell (p := ⟨FP, 3, none⟩) HLW.out.2.1).trans HSW.out.2.1, (hbD.cell (p := ⟨FP, 4, none⟩) HLW.out.2.2).trans HSW.out.2.2⟩
 have HSZ : Hid (W.heap.size < (W.alloc (.cells #[.int .i64 0, .int .i64 0] 96)).heap.size) := zh (ad HZ.out)
 clear hbD
 generalize (W.alloc (.cells #[.int .i64 0, .int .i64 0] 96)) = w1 at *
 have hs0 := HS0.out
 refine az (S := (fun w' : World => w'.cell? ⟨FP, 2, none⟩ = some (.int .i64 rs) ∧ w'.cell? ⟨FP, 3, none⟩ = some (.slice s2 n2 c2) ∧ w'.cell? ⟨FP, 4, none⟩ = some (.int .i64 pos))) 11 (by kernel_rfl) (by kernel_rfl) (by exact HS0.out) (fun hHeld => ?_)
 simp only [List.take_succ_cons, List.take_zero, List.drop_succ_cons, List.drop_zero]
 refine tkA 0 ?_
 refine tkA 1 ?_
 refine tkA 2 ?_
 refine tkA 3 ?_
 refine wpAnyH_take (i := 4) rfl (by kernel_rfl) (by kernel_rfl) (by kernel_rfl) (fun _ _ _ h => h) (Or.inr ⟨by rfl, rfl⟩) (by assumption) ?_
 try go_simp
 refine wpAnyH_take (i := 5) rfl (by kernel_rfl) (by kernel_rfl) (by kernel_rfl) (fun _ _ _ h => h) (Or.inr ⟨by rfl, rfl⟩) (by assumption) ?_
 try go_simp
 refine wpAnyH_take (i := 6) rfl (by kernel_rfl) (by kernel_rfl) (by kernel_rfl) (fun _ _ _ h => h) (Or.inr ⟨by rfl, rfl⟩) (by assumption) ?_
 try go_simp
 refine tkA 7 ?_
 refine tkA 8 ?_
 refine tkA 9 ?_
 refine rd1 10 fun K hK => ?_
 go_simp
 go_at_call 53
 refine (HN.out _).mono ?_
 rintro e w2 ⟨rfl, hb2⟩
 have hb2' : Below w1.heap.size w1 w2 := ak (av (Below.refl _ _)) hb2
 have HZ2 := zh ((hb2'.block _ (ad HZ.out)).trans HZ.out)
 have HB2 := zh (ak HB.out hb2')
 have HS5 : Hid (w2.cell? ⟨FP, 2, none⟩ = some (.int .i64 rs) ∧ w2.cell? ⟨FP, 3, none⟩ = some (.slice s2 n2 c2) ∧ w2.cell? ⟨FP, 4, none⟩ = some (.int .i64 pos)) := zh ⟨(hb2'.cell (p := ⟨FP, 2, none⟩) (Nat.lt_trans HLW.out.1 HSZ.out)).trans HS0.out.1, (hb2'.cell (p := ⟨FP, 3, none⟩) (Nat.lt_trans HLW.out.2.1 HSZ.out)).trans HS0.out.2.1, (hb2'.cell (p := ⟨FP, 4, none⟩) (Nat.lt_trans HLW.out.2.2 HSZ.out)).trans HS0.out.2.2⟩
 clear hb2 hb2' hs0
 unfold bz
 dsimp only
 go_simp
 refine hK.out _ _ ?_ (fun hHeld => ?_)
 ·(try dsimp only)
  exact HS5.out
 clear hK K
 try go_simp
 refine wpAnyH_done (by kernel_rfl) ?_ _
 dsimp only [bT]
 have r0 : w2.cell? ⟨W.heap.size, 0, none⟩ = some (.int .i64 0) := aa HZ2.out (j := 0) rfl
 have r1 : w2.cell? ⟨W.heap.size, 1, none⟩ = some (.int .i64 0) := aa HZ2.out (j := 1) rfl
 have k0 : w2.frozen? ⟨W.heap.size, 0, none⟩ = false := ab HZ2.out 0
 have k1 : w2.frozen? ⟨W.heap.size, 1, none⟩ = false := ab HZ2.out 1
 go_wp2_with fail
 refine bodyPost_ret (v := .agg #[.int .i64 fe, .int .i64 fa]) (by simp [results, Tryz.results52, go_sem, r0, r1]) rfl ⟨rfl, ?_⟩
 exact (HB2.out.setCell (p := ⟨W.heap.size, 0, none⟩) (Nat.le_refl _) _).setCell (p := ⟨W.heap.size, 1, none⟩) (Nat.le_refl _) _
theorem p6 {W0 : World} {FP : Nat} {nm : ByteArray} {rs pos : Int} {s1 s2 : Option Addr} {n1 c1 n2 c2 : Nat} {l : List St} (hr : RepSts Any W0 (.slice s2 n2 c2) l) (hf : W0.heap[FP]? = some (.cells #[.string nm, .slice s1 n1 c1, .int .i64 rs, .slice s2 n2 c2, .int .i64 pos] 48 (0, 0))) (hrs : (rs == 0) = false) : FnTells W0 (.func (.func 52) #[] #[.pointer (some ⟨FP, 0, none⟩)]) (noC (bK l) 54 pos) := by
 have HEN := zh (fun W1 (h1 : Below W0.heap.size W0 W1) => jn l W1 _ (hr.keep (Stays.of_below h1)))
 generalize bK l = z at *
 refine ⟨_, _, rfl, enters_of Tryz.func52 (by kernel_rfl) rfl, fun W hW => ?_⟩
 have HF := zh ((hW.block _ (ad hf)).trans hf)
 have hl0 := ad HF.out
 have HN := zh (cg (z) 54 pos)
 generalize noC (z) 54 pos = q at *
 obtain ⟨fe, fa⟩ := q
 have hbD : Below W.heap.size W (W.alloc (.cells #[.int .i64 0, .int .i64 0] 96)) := ae (Below.refl _ _) _
 have HZ : Hid ((W.alloc (.cells #[.int .i64 0, .int .i64 0] 96)).heap[W.heap.size]? = some (.cells #[.int .i64 0, .int .i64 0] 96 (0, 0))) := zh (ah _ _ _ rfl)
 have HSW : Hid (W.cell? ⟨FP, 2, none⟩ = some (.int .i64 rs) ∧ W.cell? ⟨FP, 3, none⟩ = some (.slice s2 n2 c2) ∧ W.cell? ⟨FP, 4, none⟩ = some (.int .i64 pos)) := zh ⟨aa HF.out (j := 2) rfl, aa HF.out (j := 3) rfl, aa HF.out (j := 4) rfl⟩
 have HLW : Hid (FP < W.heap.size ∧ FP < W.heap.size ∧ FP < W.heap.size) := zh ⟨hl0, hl0, hl0⟩
 go_enter Tryz.func52, Tryz.ntmps52
 go_upto_region 1 with fail
 have HB := zh hbD
 have HS0 : Hid ((W.alloc (.cells #[.int .i64 0, .int .i64 0] 96)).drew.cell? ⟨FP, 2, none⟩ = some (.int .i64 rs) ∧ (W.alloc (.cells #[.int .i64 0, .int .i64 0] 96)).drew.cell? ⟨FP, 3, none⟩ = some (.slice s2 n2 c2) ∧ (W.alloc (.cells #[.int .i64 0, .int .i64 0] 96)).drew.cell? ⟨FP, 4, none⟩ = some (.int .i64 pos)) := zh ⟨(hbD.cell (p := ⟨FP, 2, none⟩) HLW.out.1).trans HSW.out.1, (hbD.cell (p := ⟨FP, 3, none⟩) HLW.out.2.1).trans HSW.out.2.1, (hbD.cell (p := ⟨FP, 4, none⟩) HLW.out.2.2).trans HSW.out.2.2⟩
 have HSZ : Hid (W.heap.size < (W.alloc (.cells #[.int .i64 0, .int .i64 0] 96)).heap.size) := zh (ad HZ.out)
 clear hbD
 generalize (W.alloc (.cells #[.int .i64 0, .int .i64 0] 96)) = w1 at *
 have hs0 := HS0.out
 refine az (S := (fun w' : World => w'.cell? ⟨FP, 2, none⟩ = some (.int .i64 rs) ∧ w'.cell? ⟨FP, 3, none⟩ = some (.slice s2 n2 c2) ∧ w'.cell? ⟨FP, 4, none⟩ = some (.int .i64 pos))) 11 (by kernel_rfl) (by kernel_rfl) (by exact HS0.out) (fun hHeld => ?_)
 simp only [List.take_succ_cons, List.take_zero, List.drop_succ_cons, List.drop_zero]
 refine tkA 0 ?_
 refine tkA 1 ?_
 refine tkA 2 ?_
 refine tkA 3 ?_
 refine tkA 4 ?_
 refine tkA 5 ?_
 refine tkA 8 ?_
 refine tkA 9 ?_
 refine rd1 6 fun K hK => ?_
 go_simp
 go_at_call 54
 refine (HEN.out _ (hW.trans ((ak HB.out (av (Below.refl _ _))).mono hW.size))).mono ?_
 rintro e w2 ⟨rfl, hb2⟩
 have hb2' : Below w1.heap.size w1 w2 := ak (av (Below.refl _ _)) hb2
 have HZ2 := zh ((hb2'.block _ (ad HZ.out)).trans HZ.out)
 have HB2 := zh (ak HB.out hb2')
 have HS5 : Hid (w2.cell? ⟨FP, 2, none⟩ = some (.int .i64 rs) ∧ w2.cell? ⟨FP, 3, none⟩ = some (.slice s2 n2 c2) ∧ w2.cell? ⟨FP, 4, none⟩ = some (.int .i64 pos)) := zh ⟨(hb2'.cell (p := ⟨FP, 2, none⟩) (Nat.lt_trans HLW.out.1 HSZ.out)).trans HS0.out.1, (hb2'.cell (p := ⟨FP, 3, none⟩) (Nat.lt_trans HLW.out.2.1 HSZ.out)).trans HS0.out.2.1, (hb2'.cell (p := ⟨FP, 4, none⟩) (Nat.lt_trans HLW.out.2.2 HSZ.out)).trans HS0.out.2.2⟩
 clear hb2 hb2' hs0
 go_simp
 refine hK.out _ _ ?_ (fun hHeld => ?_)
 ·(try dsimp only)
  exact HS5.out
 clear hK K
 try go_simp
 refine tkA 7 ?_
 refine rd1 10 fun K hK => ?_
 go_simp
 go_at_call 53
 refine (HN.out _).mono ?_
 rintro e w3 ⟨rfl, hb3⟩
 have HZ3 := zh ((hb3.block _ (ad HZ2.out)).trans HZ2.out)
 have HB3 := zh (ak HB2.out hb3)
 have HS6 : Hid (w3.cell? ⟨FP, 2, none⟩ = some (.int .i64 rs) ∧ w3.cell? ⟨FP, 3, none⟩ = some (.slice s2 n2 c2) ∧ w3.cell? ⟨FP, 4, none⟩ = some (.int .i64 pos)) := zh ⟨(hb3.cell (p := ⟨FP, 2, none⟩) (am HS5.out.1)).trans HS5.out.1, (hb3.cell (p := ⟨FP, 3, none⟩) (am HS5.out.2.1)).trans HS5.out.2.1, (hb3.cell (p := ⟨FP, 4, none⟩) (am HS5.out.2.2)).trans HS5.out.2.2⟩
 clear hb3
 unfold bz
 dsimp only
 go_simp
 refine hK.out _ _ ?_ (fun hHeld => ?_)
 ·(try dsimp only)
  exact HS6.out
 clear hK K
 try go_simp
 refine wpAnyH_done (by kernel_rfl) ?_ _
 dsimp only [bT]
 have r0 : w3.cell? ⟨W.heap.size, 0, none⟩ = some (.int .i64 0) := aa HZ3.out (j := 0) rfl
 have r1 : w3.cell? ⟨W.heap.size, 1, none⟩ = some (.int .i64 0) := aa HZ3.out (j := 1) rfl
 have k0 : w3.frozen? ⟨W.heap.size, 0, none⟩ = false := ab HZ3.out 0
 have k1 : w3.frozen? ⟨W.heap.size, 1, none⟩ = false := ab HZ3.out 1
 go_wp2_with fail
 refine bodyPost_ret (v := .agg #[.int .i64 fe, .int .i64 fa]) (by simp [results, Tryz.results52, go_sem, r0, r1]) rfl ⟨rfl, ?_⟩
 exact (HB3.out.setCell (p := ⟨W.heap.size, 0, none⟩) (Nat.le_refl _) _).setCell (p := ⟨W.heap.size, 1, none⟩) (Nat.le_refl _) _
theorem ri {W0 : World} {FP : Nat} {nm : ByteArray} {rs pos : Int} {s1 s2 : Option Addr} {n1 c1 n2 c2 : Nat} {l : List St} (hr : RepSts Any W0 (.slice s2 n2 c2) l) (hf : W0.heap[FP]? = some (.cells #[.string nm, .slice s1 n1 c1, .int .i64 rs, .slice s2 n2 c2, .int .i64 pos] 48 (0, 0))) : FnTells W0 (.func (.func 52) #[] #[.pointer (some ⟨FP, 0, none⟩)]) (noC (rs == 0 || bK l) 54 pos) := by
 cases h : (rs == 0)
 ·exact p6 hr hf h
 ·exact qh hf h
structure BoxF (W : World) (cb vr CP FP RB VB : Nat) (cells : Array Value) : Prop where
 c : W.heap[CP]? = some (.cells #[.pointer (some ⟨cb, 0, none⟩)] 90 (0, 0))
 f : W.heap[FP]? = some (.cells cells 48 (0, 0))
 r : W.heap[RB]? = some (.cells #[.int .i64 0, .int .i64 0] 96 (0, 0))
 v : W.heap[VB]? = some (.cells #[.map (some vr)] 121 (0, 0))
theorem BoxF.keep {W W' : World} {k cb vr CP FP RB VB : Nat} {cells : Array Value} (h : BoxF W cb vr CP FP RB VB cells) (hb : On k W W') (hk : CP ≠ k ∧ FP ≠ k ∧ RB ≠ k ∧ VB ≠ k) : BoxF W' cb vr CP FP RB VB cells :=
 ⟨hb.obj hk.1 h.c, hb.obj hk.2.1 h.f, hb.obj hk.2.2.1 h.r, hb.obj hk.2.2.2 h.v⟩
theorem BoxF.below {W W' : World} {cb vr CP FP RB VB : Nat} {cells : Array Value} (h : BoxF W cb vr CP FP RB VB cells) (hb : Below W.heap.size W W') : BoxF W' cb vr CP FP RB VB cells :=
 ⟨(hb.block _ (ad h.c)).trans h.c, (hb.block _ (ad h.f)).trans h.f, (hb.block _ (ad h.r)).trans h.r, (hb.block _ (ad h.v)).trans h.v⟩
theorem On.set_new {k : Nat} {a b : World} (h : On k a b) {p : Addr} (hp : a.heap.size ≤ p.block) (u : Value) : On k a (b.setCell p u) :=
 ⟨h.os, h.tape, h.output, by simpa [World.setCell] using h.size, fun i hi hne => (Below.heap_setCell b p u i (fun e => by omega)).trans (h.block i hi hne)⟩
theorem p7 {α : Type} (m : List (ByteArray × α)) (k : ByteArray) (x : α) (h : aF m k = none) : (bJ m k x).length = m.length + 1 := by
 induction m with
 | nil => rfl
 | cons p m ih =>
  unfold aF at h
  unfold bJ
  by_cases e : p.1 = k
  ·rw [if_pos e] at h; cases h
  ·rw [if_neg e] at h
   rw [if_neg e, List.length_cons, ih h, List.length_cons]
theorem oQ {w : World} {r : Nat} {v : aV} (h : ViewAt w r v) : (Builtin.len_ #[121] 3 #[.map (some r)]).run Tryz.prog w = .ok (.int .i64 (v.length : Int)) w := by
 obtain ⟨es, c, h1, h2⟩ := h
 rw [run_len_map w 121 3 r es c (by kernel_rfl) h1]
 have q := congrArg List.length h2
 simp at q
 rw [q]
 rfl
theorem qw (pos : Int) (l : List (ByteArray × Int)) (i : Nat) (hi : i < l.length) (v : aV) : cq pos (l.drop i) v = if (aF v (l.getD i default).1).isSome then ((53, pos), v) else if (l.getD i default).2 < 1 ∨ 3 < (l.getD i default).2 then ((51, pos), v) else cq pos (l.drop (i + 1)) (bJ v (l.getD i default).1 ((l.getD i default).2, false)) := by
 rw [List.drop_eq_getElem_cons hi, cq, List.getD_eq_getElem?_getD, List.getElem?_eq_getElem hi]
 rfl
theorem mf {F : aQ} {f : Fn} {v : aV} {q : Flt} (h : cq f.pos f.params [] = (q, v)) (hq : ¬ q.1 = 0) : dL F f = q := by
 unfold dL
 rw [h]
 simp [hq]
theorem px {F : aQ} {f : Fn} {v : aV} (h : cq f.pos f.params [] = (okF, v)) (hq : f.result < 0 ∨ 3 < f.result) : dL F f = (51, f.pos) := by
 unfold dL
 rw [h]
 simp [hq, okF]
theorem j0 {F : aQ} {f : Fn} {v : aV} (h : cq f.pos f.params [] = (okF, v)) (hq : ¬ (f.result < 0 ∨ 3 < f.result)) (hm : 16 < f.params.length ∨ 64 < wrap64 (f.params.length + cy 0 f.body)) : dL F f = (2, f.pos) := by
 unfold dL
 rw [h]
 simp only [okF, ne_eq, not_true, if_false]
 rw [if_neg hq, if_pos hm]
theorem qn {F : aQ} {f : Fn} {v : aV} (h : cq f.pos f.params [] = (okF, v)) (hq : ¬ (f.result < 0 ∨ 3 < f.result)) (hm : ¬ (16 < f.params.length ∨ 64 < wrap64 (f.params.length + cy 0 f.body))) : dL F f = aO [be F f.result f.body v, noC (f.result == 0 || bK f.body) 54 f.pos] := by
 unfold dL
 rw [h]
 simp only [okF, ne_eq, not_true, if_false]
 rw [if_neg hq, if_neg hm]
 unfold aO aO aO
 rw [jC (gx _ _ _ (by decide))]
theorem qr (cb N fr : Nat) (F : aQ) (hF : ∀ p, p ∈ F → p.2.params.length ≤ 100000) (m : List (ByteArray × Value)) (f : Fn) (w : World) (res0 : Int) (hN : N ≤ cb) (hfr : fr ≠ cb) (hob : w.heap[cb]? = some (.cells #[.map (some fr), .int .i64 res0] 93 (0, 0))) (hm : MapAt w fr m) (hfun : ∀ W, Stays (fun b => b < N) w W → FunR W m F) (nm : ByteArray) (s1 : Option Addr) (n1 c1 : Nat) (rs : Int) (s2 : Option Addr) (n2 c2 : Nat) (pos : Int) (hr : RepFn (fun b => b < N) w [.string nm, .slice s1 n1 c1, .int .i64 rs, .slice s2 n2 c2, .int .i64 pos] f) : Calls Tryz.prog 26 #[.pointer (some ⟨cb, 0, none⟩), .agg #[.string nm, .slice s1 n1 c1, .int .i64 rs, .slice s2 n2 c2, .int .i64 pos]] w fun e w' => e = .returned (bz (dL F f)) ∧ On cb w w' ∧ ∃ res2, w'.heap[cb]? = some (.cells #[.map (some fr), .int .i64 res2] 93 (0, 0)) := by
 obtain ⟨vp, vb, hcs, hpa, hbo⟩ := hr
 simp only [List.cons.injEq, Value.int.injEq, Value.string.injEq, true_and, and_true] at hcs
 obtain ⟨rfl, rfl, rfl, rfl, rfl⟩ := hcs
 obtain ⟨cs, ⟨s0, cap, hv0, hle, hcm, _, hrow, hsz⟩, hit⟩ := hpa
 injection hv0 with ha hb2 hc2
 subst ha hb2 hc2
 have HROW := zh hrow
 have HIT := zh hit
 have HCM := zh (And.intro hle hcm)
 have HBO := zh hbo
 have HOB := zh hob
 have HM := zh hm
 have HFN := zh hfun
 have HN0 := zh (And.intro hN hfr)
 have hcbl := ad hob
 have HF := zh hF
 generalize hC : dL F f = C
 have HC := zh hC.symm
 obtain ⟨PC, hPC⟩ : ∃ PC, PC = cq f.pos f.params [] := ⟨_, rfl⟩
 have HPC := zh hPC
 have HB : Hid (Below w.heap.size w (((((w.alloc (.cells #[.pointer (some ⟨cb, 0, none⟩)] 90)).alloc (.cells #[.string f.name, .slice s1 f.params.length c1, .int .i64 f.result, .slice s2 n2 c2, .int .i64 f.pos] 48)).alloc (.cells #[.int .i64 0, .int .i64 0] 96)).alloc (.map #[] 0)).alloc (.cells #[.map (some (w.heap.size + 3))] 121))) := zh (ae (ae (ae (ae (ae (Below.refl _ _) _) _) _) _) _)
 have HBX : Hid (BoxF (((((w.alloc (.cells #[.pointer (some ⟨cb, 0, none⟩)] 90)).alloc (.cells #[.string f.name, .slice s1 f.params.length c1, .int .i64 f.result, .slice s2 n2 c2, .int .i64 f.pos] 48)).alloc (.cells #[.int .i64 0, .int .i64 0] 96)).alloc (.map #[] 0)).alloc (.cells #[.map (some (w.heap.size + 3))] 121)) cb (w.heap.size + 3) w.heap.size (w.heap.size + 1) (w.heap.size + 2) (w.heap.size + 4) #[.string f.name, .slice s1 f.params.length c1, .int .i64 f.result, .slice s2 n2 c2, .int .i64 f.pos]) := zh ⟨au _ _ _ _ (au _ _ _ _ (au _ _ _ _ (au _ _ _ _ (ah _ _ _ rfl)))), au _ _ _ _ (au _ _ _ _ (au _ _ _ _ (ah _ _ _ (ag _ _)))), au _ _ _ _ (au _ _ _ _ (ah _ _ _ (by rw [ag, ag]))), ah _ _ _ (by rw [ag, ag, ag, ag])⟩
 have HV : Hid (ViewAt (((((w.alloc (.cells #[.pointer (some ⟨cb, 0, none⟩)] 90)).alloc (.cells #[.string f.name, .slice s1 f.params.length c1, .int .i64 f.result, .slice s2 n2 c2, .int .i64 f.pos] 48)).alloc (.cells #[.int .i64 0, .int .i64 0] 96)).alloc (.map #[] 0)).alloc (.cells #[.map (some (w.heap.size + 3))] 121)) (w.heap.size + 3) []) := zh ⟨#[], 0, au _ _ _ _ (ah _ _ _ (by rw [ag, ag, ag])), rfl⟩
 clear hrow hit hsz hle hcm hbo hob hm hfun hN hfr hC hF hPC
 have hmm := @run_makeMap Tryz.prog
 have HCB := zh hcbl
 have HML := zh HM.out.lt
 clear hcbl
 go_enter Tryz.func26, Tryz.ntmps26
 go_upto_region 2 with fail
 clear hmm
 generalize (((((w.alloc (.cells #[.pointer (some ⟨cb, 0, none⟩)] 90)).alloc (.cells #[.string f.name, .slice s1 f.params.length c1, .int .i64 f.result, .slice s2 n2 c2, .int .i64 f.pos] 48)).alloc (.cells #[.int .i64 0, .int .i64 0] 96)).alloc (.map #[] 0)).alloc (.cells #[.map (some (w.heap.size + 3))] 121)) = w1 at *
 generalize hVB : w.heap.size + 4 = VB at *
 generalize hVR : w.heap.size + 3 = VR at *
 generalize hRB : w.heap.size + 2 = RB at *
 generalize hFP : w.heap.size + 1 = FP at *
 generalize hCP : w.heap.size = CP at *
 have HAD := zh (And.intro hCP (And.intro hFP (And.intro hRB (And.intro hVR hVB))))
 clear hVB hVR hRB hFP hCP
 have f1 : w1.cell? ⟨FP, 1, none⟩ = some (.slice s1 f.params.length c1) := aa HBX.out.f (j := 1) rfl
 go_wp2_with fail
 clear f1
 go_loopg [14] f.params.length (fun g t14 wr => ∃ (i : Nat) (v : aV), i + g = f.params.length ∧ t14 = .int .i64 (i : Int) ∧ PC = cq f.pos (f.params.drop i) v ∧ v.length = i ∧ ViewAt wr VR v ∧ Below CP w wr ∧ BoxF wr cb VR CP FP RB VB #[.string f.name, .slice s1 f.params.length c1, .int .i64 f.result, .slice s2 n2 c2, .int .i64 f.pos])
 case atStart => exact ⟨0, [], Nat.zero_add _, rfl, HPC.out, rfl, HV.out, HB.out, HBX.out⟩
 case round =>
  obtain ⟨i, v, hig, rfl, hpc, hvl, hv, hb, hbx⟩ := hrel
  have HCR : Hid (cb ≠ RB) := zh (by have := HCB.out; have := HAD.out; omega)
  have HRB : Hid (CP ≤ RB) := zh (by have := HAD.out; omega)
  have HPCI := zh hpc
  have HVL := zh hvl
  have HVI := zh hv
  clear HBX HB HV
  have HB := zh hb
  have HBX := zh hbx
  clear hpc hvl hv hb hbx
  by_cases hil : i < f.params.length
  ·obtain ⟨hle2, hcm2⟩ := HCM.out
   unfold maxLen at hcm2
   have g1 : (i : Int) < (f.params.length : Int) := by omega
   have g3 : (0 : Int) ≤ (i : Int) := by omega
   obtain ⟨b, off, hs0, hSb, hbl, hcell⟩ := HROW.out (by omega)
   subst hs0
   have hrep := HIT.out i hil
   unfold kO at hrep
   have hc2 : ∀ j, j < 2 → wr.cell? ⟨b, off + i * 2 + j, none⟩ = (cs i)[j]? := fun j hj => (HB.out.cell (p := ⟨b, _, none⟩) hbl).trans (hcell i hil j hj)
   rw [hrep] at hc2
   have HAT := zh (HPCI.out.trans (qw f.pos f.params i hil v))
   generalize f.params.getD i default = q at *
   obtain ⟨pn, pt⟩ := q
   dsimp only at HAT hc2
   have x0 : wr.cell? ⟨b, off + i * 2, none⟩ = some (.string pn) := hc2 0 (by decide)
   have x1 : wr.cell? ⟨b, off + i * 2 + 1, none⟩ = some (.int .i64 pt) := hc2 1 (by decide)
   have v0 : (wr.alloc (.cells #[.string pn, .int .i64 pt] 50)).cell? ⟨VB, 0, none⟩ = some (.map (some VR)) := aj _ (aa HBX.out.v (j := 0) rfl)
   have hlk := gy (HVI.out.below (ae (Below.refl _ _) (.cells #[.string pn, .int .i64 pt] 50))) pn
   generalize hnm : (aF v pn).getD (0, false) = nv at *
   generalize his : (aF v pn).isSome = is at *
   obtain ⟨nt, nf⟩ := nv
   unfold nmV at hlk
   dsimp only at hlk
   clear hc2 hrep hcell
   go_upto_region 6 with fail
   have hb3 : Below wr.heap.size wr ((wr.alloc (.cells #[.string pn, .int .i64 pt] 50)).alloc (.cells #[.int .i64 nt, .bool nf] 123)) := ae (ae (Below.refl _ _) _) _
   have HPB : Hid (((wr.alloc (.cells #[.string pn, .int .i64 pt] 50)).alloc (.cells #[.int .i64 nt, .bool nf] 123)).heap[wr.heap.size]? = some (.cells #[.string pn, .int .i64 pt] 50 (0, 0))) := zh (au _ _ _ _ (ah _ _ _ rfl))
   have HBX0 := HBX
   replace HBX := zh (HBX.out.below hb3)
   replace HVI := zh (HVI.out.below hb3)
   replace HB := zh (HB.out.trans (hb3.mono (Nat.le_of_lt (ad HBX0.out.c))))
   clear HBX0 hb3 hlk x0 x1 v0
   generalize ((wr.alloc (.cells #[.string pn, .int .i64 pt] 50)).alloc (.cells #[.int .i64 nt, .bool nf] 123)) = w3 at *
   generalize wr.heap.size = PB at *
   cases is
   ·have y0 : w3.cell? ⟨PB, 0, none⟩ = some (.string pn) := aa HPB.out (j := 0) rfl
    have y1 : w3.cell? ⟨PB, 1, none⟩ = some (.int .i64 pt) := aa HPB.out (j := 1) rfl
    replace HAT := zh (HAT.out.trans (if_neg (by simp)))
    by_cases ht : pt < 1 ∨ 3 < pt
    ·have HCE := zh (HC.out.trans (mf (q := (51, f.pos)) (v := v) (HPC.out.symm.trans (HAT.out.trans (if_pos ht))) (by simp)))
     have f4 : w3.cell? ⟨FP, 4, none⟩ = some (.int .i64 f.pos) := aa HBX.out.f (j := 4) rfl
     obtain ⟨r0, r1, -⟩ := css HBX.out.r
     obtain ⟨k0, k1, -⟩ := fzs HBX.out.r
     rcases ht with ht | ht
     ·go_wp2_with fail
      have hfin : On cb w _ := On.of_below (by rw [HAD.out.1]; exact (HB.out.setCell (p := ⟨RB, 0, none⟩) HRB.out (.int .i64 51)).setCell (p := ⟨RB, 1, none⟩) HRB.out (.int .i64 f.pos))
      refine bodyPost_ret (v := .agg #[.int .i64 51, .int .i64 f.pos]) (by simp [results, Tryz.results26, go_sem, r0, r1]) rfl ⟨by rw [HCE.out]; rfl, hfin, res0, ?_⟩
      exact (af _ _ _ _ HCR.out).trans ((af _ _ _ _ HCR.out).trans ((HB.out.block _ HCB.out).trans HOB.out))
     have ht2 : ¬ pt < 1 := by omega
     go_wp2_with fail
     have hfin : On cb w _ := On.of_below (by rw [HAD.out.1]; exact (HB.out.setCell (p := ⟨RB, 0, none⟩) HRB.out (.int .i64 51)).setCell (p := ⟨RB, 1, none⟩) HRB.out (.int .i64 f.pos))
     refine bodyPost_ret (v := .agg #[.int .i64 51, .int .i64 f.pos]) (by simp [results, Tryz.results26, go_sem, r0, r1]) rfl ⟨by rw [HCE.out]; rfl, hfin, res0, ?_⟩
     exact (af _ _ _ _ HCR.out).trans ((af _ _ _ _ HCR.out).trans ((HB.out.block _ HCB.out).trans HOB.out))
    replace HAT := zh (HAT.out.trans (if_neg ht))
    have ht1 : ¬ pt < 1 := fun q => ht (Or.inl q)
    have ht2 : ¬ 3 < pt := fun q => ht (Or.inr q)
    clear ht
    have v0 : w3.cell? ⟨VB, 0, none⟩ = some (.map (some VR)) := aa HBX.out.v (j := 0) rfl
    have hp := fO HVI.out eT ez pn (nmV (pt, false))
    have HPV := zh (lJ HVI.out pn (pt, false))
    have HPO := zh (gU w3 VR pn (nmV (pt, false)))
    unfold nmV at hp HPV HPO
    dsimp only at hp HPV HPO
    go_wp2_with fail
    go_roundg (f.params.length - i - 1)
    case measure => omega
    case rel => exact ⟨i + 1, _, by omega, rfl, HAT.out, by rw [p7 _ _ _ (by cases q : aF v pn; rfl; rw [q] at his; cases his), HVL.out], HPV.out, by have q := HPO.out.base (B := w) (by rw [HAD.out.1]; exact HB.out) (by have := HAD.out; omega); rw [HAD.out.1] at q; exact q, HBX.out.keep HPO.out (by have := HAD.out; omega)⟩
   have HCE := zh (HC.out.trans (mf (q := (53, f.pos)) (v := v) (HPC.out.symm.trans (HAT.out.trans (if_pos rfl))) (by simp)))
   have f4 : w3.cell? ⟨FP, 4, none⟩ = some (.int .i64 f.pos) := aa HBX.out.f (j := 4) rfl
   obtain ⟨r0, r1, -⟩ := css HBX.out.r
   obtain ⟨k0, k1, -⟩ := fzs HBX.out.r
   go_wp2_with fail
   have hfin : On cb w _ := On.of_below (by rw [HAD.out.1]; exact (HB.out.setCell (p := ⟨RB, 0, none⟩) HRB.out (.int .i64 53)).setCell (p := ⟨RB, 1, none⟩) HRB.out (.int .i64 f.pos))
   refine bodyPost_ret (v := .agg #[.int .i64 53, .int .i64 f.pos]) (by simp [results, Tryz.results26, go_sem, r0, r1]) rfl ⟨by rw [HCE.out]; rfl, hfin, res0, ?_⟩
   exact (af _ _ _ _ HCR.out).trans ((af _ _ _ _ HCR.out).trans ((HB.out.block _ HCB.out).trans HOB.out))
  obtain rfl : i = f.params.length := by omega
  have g1 : ¬ (f.params.length : Int) < (f.params.length : Int) := by omega
  replace HPCI := zh (HPC.out.symm.trans (HPCI.out.trans (by rw [List.drop_eq_nil_of_le (Nat.le_refl _), cq] : _ = (okF, v))))
  have f2 : wr.cell? ⟨FP, 2, none⟩ = some (.int .i64 f.result) := aa HBX.out.f (j := 2) rfl
  by_cases hr : f.result < 0 ∨ 3 < f.result
  ·have HCE := zh (HC.out.trans (px HPCI.out hr))
   have f4 : wr.cell? ⟨FP, 4, none⟩ = some (.int .i64 f.pos) := aa HBX.out.f (j := 4) rfl
   obtain ⟨r0, r1, -⟩ := css HBX.out.r
   obtain ⟨k0, k1, -⟩ := fzs HBX.out.r
   rcases hr with hr | hr
   ·go_wp2_with fail
    have hfin : On cb w _ := On.of_below (by rw [HAD.out.1]; exact (HB.out.setCell (p := ⟨RB, 0, none⟩) HRB.out (.int .i64 51)).setCell (p := ⟨RB, 1, none⟩) HRB.out (.int .i64 f.pos))
    refine bodyPost_ret (v := .agg #[.int .i64 51, .int .i64 f.pos]) (by simp [results, Tryz.results26, go_sem, r0, r1]) rfl ⟨by rw [HCE.out]; rfl, hfin, res0, ?_⟩
    exact (af _ _ _ _ HCR.out).trans ((af _ _ _ _ HCR.out).trans ((HB.out.block _ HCB.out).trans HOB.out))
   have hr2 : ¬ f.result < 0 := by omega
   go_wp2_with fail
   have hfin : On cb w _ := On.of_below (by rw [HAD.out.1]; exact (HB.out.setCell (p := ⟨RB, 0, none⟩) HRB.out (.int .i64 51)).setCell (p := ⟨RB, 1, none⟩) HRB.out (.int .i64 f.pos))
   refine bodyPost_ret (v := .agg #[.int .i64 51, .int .i64 f.pos]) (by simp [results, Tryz.results26, go_sem, r0, r1]) rfl ⟨by rw [HCE.out]; rfl, hfin, res0, ?_⟩
   exact (af _ _ _ _ HCR.out).trans ((af _ _ _ _ HCR.out).trans ((HB.out.block _ HCB.out).trans HOB.out))
  have HR := zh hr
  have hr1 : ¬ f.result < 0 := fun q => hr (Or.inl q)
  have hr2 : ¬ 3 < f.result := fun q => hr (Or.inr q)
  clear hr
  have v0 : wr.cell? ⟨VB, 0, none⟩ = some (.map (some VR)) := aa HBX.out.v (j := 0) rfl
  have hlen := oQ HVI.out
  rw [HVL.out] at hlen
  by_cases h16 : (16 : Int) < (f.params.length : Int)
  ·have HCE := zh (HC.out.trans (j0 HPCI.out HR.out (Or.inl (by omega))))
   have f4 : wr.cell? ⟨FP, 4, none⟩ = some (.int .i64 f.pos) := aa HBX.out.f (j := 4) rfl
   obtain ⟨r0, r1, -⟩ := css HBX.out.r
   obtain ⟨k0, k1, -⟩ := fzs HBX.out.r
   go_wp2_with fail
   have hfin : On cb w _ := On.of_below (by rw [HAD.out.1]; exact (HB.out.setCell (p := ⟨RB, 0, none⟩) HRB.out (.int .i64 2)).setCell (p := ⟨RB, 1, none⟩) HRB.out (.int .i64 f.pos))
   refine bodyPost_ret (v := .agg #[.int .i64 2, .int .i64 f.pos]) (by simp [results, Tryz.results26, go_sem, r0, r1]) rfl ⟨by rw [HCE.out]; rfl, hfin, res0, ?_⟩
   exact (af _ _ _ _ HCR.out).trans ((af _ _ _ _ HCR.out).trans ((HB.out.block _ HCB.out).trans HOB.out))
  have f3 : wr.cell? ⟨FP, 3, none⟩ = some (.slice s2 n2 c2) := aa HBX.out.f (j := 3) rfl
  have HST : Hid (Stays (fun b => b < N) w wr) := zh (Stays.of_below (by rw [HAD.out.1]; exact HB.out))
  have HNA := zh (iy f.body wr _ ((HBO.out.keep HST.out).mono (fun _ _ => trivial)))
  have H16 := zh h16
  generalize hz : cy 0 f.body = z at *
  have HZ := zh hz
  clear hz
  go_wp2_with fail
  refine HNA.out.mono ?_
  rintro e w4 ⟨rfl, hb4⟩
  have HBX0 := HBX
  replace HBX := zh (HBX.out.below hb4)
  replace HVI := zh (HVI.out.below hb4)
  replace HB := zh (HB.out.trans (hb4.mono (Nat.le_of_lt (ad HBX0.out.c))))
  clear HBX0 hb4 hlen v0 f3 f2 HST
  by_cases h64 : (64 : Int) < wrap64 ((f.params.length : Int) + z)
  ·have HCE := zh (HC.out.trans (j0 HPCI.out HR.out (Or.inr (by rw [HZ.out]; exact h64))))
   have f4 : w4.cell? ⟨FP, 4, none⟩ = some (.int .i64 f.pos) := aa HBX.out.f (j := 4) rfl
   obtain ⟨r0, r1, -⟩ := css HBX.out.r
   obtain ⟨k0, k1, -⟩ := fzs HBX.out.r
   go_wp2_with fail
   have hfin : On cb w _ := On.of_below (by rw [HAD.out.1]; exact (HB.out.setCell (p := ⟨RB, 0, none⟩) HRB.out (.int .i64 2)).setCell (p := ⟨RB, 1, none⟩) HRB.out (.int .i64 f.pos))
   refine bodyPost_ret (v := .agg #[.int .i64 2, .int .i64 f.pos]) (by simp [results, Tryz.results26, go_sem, r0, r1]) rfl ⟨by rw [HCE.out]; rfl, hfin, res0, ?_⟩
   exact (af _ _ _ _ HCR.out).trans ((af _ _ _ _ HCR.out).trans ((HB.out.block _ HCB.out).trans HOB.out))
  replace HC := zh (HC.out.trans (qn HPCI.out HR.out (by rw [HZ.out]; exact fun q => q.elim (fun q => by have := H16.out; omega) h64)))
  have f2 : w4.cell? ⟨FP, 2, none⟩ = some (.int .i64 f.result) := aa HBX.out.f (j := 2) rfl
  have c0 : w4.cell? ⟨CP, 0, none⟩ = some (.pointer (some ⟨cb, 0, none⟩)) := aa HBX.out.c (j := 0) rfl
  have HO4 := zh ((HB.out.block _ HCB.out).trans HOB.out)
  have o1 : w4.cell? ⟨cb, 1, none⟩ = some (.int .i64 res0) := aa HO4.out (j := 1) rfl
  have k1 : w4.frozen? ⟨cb, 1, none⟩ = false := ab HO4.out 1
  go_upto_region 19 with fail
  have HO5 : Hid ((w4.setCell ⟨cb, 1, none⟩ (.int .i64 f.result)).heap[cb]? = some (.cells #[.map (some fr), .int .i64 f.result] 93 (0, 0))) := zh (ai HO4.out 1 _)
  have HON : Hid (On cb w (w4.setCell ⟨cb, 1, none⟩ (.int .i64 f.result))) := zh ((On.of_below (by rw [HAD.out.1]; exact HB.out)).set 1 _)
  have HBX5 : Hid (BoxF (w4.setCell ⟨cb, 1, none⟩ (.int .i64 f.result)) cb VR CP FP RB VB _) := zh (HBX.out.keep ((On.refl cb w4).set 1 _) (by have := HCB.out; have := HAD.out; omega))
  have HV5 : Hid (ViewAt (w4.setCell ⟨cb, 1, none⟩ (.int .i64 f.result)) VR v) := zh (gm HVI.out HO4.out 1 _)
  clear f2 c0 o1 k1 HBX HVI HB HO4
  generalize (w4.setCell ⟨cb, 1, none⟩ (.int .i64 f.result)) = w5 at *
  have HST : Hid (Stays (fun b => b < N) w w5) := zh (Stays.of_ne HON.out (fun q => absurd HN0.out.1 (Nat.not_le_of_lt q)))
  have HCX : Hid (CtxAt w5 cb F f.result VR v) := zh ⟨⟨fr, HO5.out, m, HM.out.keep (HON.out.block _ (by rw [HAD.out.1]; exact HML.out) (fun e => HN0.out.2 (by injection e))), HFN.out _ HST.out⟩, HV5.out⟩
  have HFNS := zh (qQ (rH (fun x _ => kD cb F f.result HF.out x) HCX.out ((HBO.out.keep HST.out).mono (fun _ _ => trivial)) HBX5.out.c HBX5.out.f HBX5.out.v) (ri ((HBO.out.keep HST.out).mono (fun _ _ => trivial)) HBX5.out.f) w5 (Below.refl _ _) 127)
  generalize hq : aO [be F f.result f.body v, noC (f.result == 0 || bK f.body) 54 f.pos] = q at *
  obtain ⟨fe, fa⟩ := q
  have HFC := zh (dP _ _ _ HFNS.out)
  rw [hq] at HFC
  clear hq HFNS
  unfold bz at HFC
  dsimp only at HFC
  go_wp2_with fail
  refine HFC.out.mono ?_
  rintro e w6 ⟨rfl, hb6⟩
  have hb6' : Below w5.heap.size w5 w6 := ak (ae (Below.refl _ _) _) hb6
  have HBX := zh (HBX5.out.below hb6')
  have HON6 := zh (HON.out.trans (On.of_below hb6' : On cb w5 w6))
  have HO6 := zh ((hb6'.block _ (ad HO5.out)).trans HO5.out)
  clear hb6 hb6'
  obtain ⟨r0, r1, -⟩ := css HBX.out.r
  obtain ⟨k0, k1, -⟩ := fzs HBX.out.r
  go_wp2_with fail
  refine bodyPost_ret (v := .agg #[.int .i64 fe, .int .i64 fa]) (by simp [results, Tryz.results26, go_sem, r0, r1]) rfl ⟨by rw [HC.out]; rfl, (HON6.out.set_new (p := ⟨RB, 0, none⟩) (by rw [HAD.out.1]; exact HRB.out) _).set_new (p := ⟨RB, 1, none⟩) (by rw [HAD.out.1]; exact HRB.out) _, f.result, ?_⟩
  exact (af _ _ _ _ HCR.out).trans ((af _ _ _ _ HCR.out).trans HO6.out)
end
end Go.Proofs.YtjblihabklemfaaGreatDoor
