/-
  Compile: part 24 of its proof: see the last text.
-/
import Derived.Test.YtjblihabklemfaaGreatDoorPm22
import Derived.Test.YtjblihabklemfaaGreatDoorPm11
import Derived.Deep.LoopGhost
import Derived.Shelf.SlMaps.Clone
import Derived.Test.YtjblihabklemfaaGreatDoorPm16
import Derived.Test.YtjblihabklemfaaGreatDoorPm23
set_option maxRecDepth 100000
set_option maxHeartbeats 16000000
namespace Go.Proofs.YtjblihabklemfaaGreatDoor
section
section
open Go.RowKit
def bz (f : Flt) : Value := .agg #[.int .i64 f.1, .int .i64 f.2]
theorem cg (b : Bool) (e0 at' : Int) (w : World) : Calls Tryz.prog 53 #[.bool b, .int .i64 e0, .int .i64 at'] w fun e w' => e = .returned (bz (noC b e0 at')) ∧ Below w.heap.size w w' := by
 cases b
 ·go_enter Tryz.func53, Tryz.ntmps53
  go_wp2_with fail
  refine bodyPost_ret (v := .agg #[.int .i64 e0, .int .i64 at']) (by simp [results, Tryz.results53, go_sem]) rfl ⟨rfl, ?_⟩
  repeat (first | exact Below.refl _ _ | refine Below.setCell ?_ (Nat.le_refl _) _ | refine Below.alloc ?_ (Nat.le_refl _) _)
 ·go_enter Tryz.func53, Tryz.ntmps53
  go_wp2_with fail
  refine bodyPost_ret (v := .agg #[.int .i64 0, .int .i64 0]) (by simp [results, Tryz.results53, go_sem]) rfl ⟨rfl, ?_⟩
  repeat (first | exact Below.refl _ _ | refine Below.setCell ?_ (Nat.le_refl _) _ | refine Below.alloc ?_ (Nat.le_refl _) _)
theorem pG (op num pos : Int) (text : ByteArray) (s : Option Addr) (n c : Nat) (w : World) : Calls Tryz.prog 127 #[.agg #[.int .i64 op, .int .i64 num, .string text, .slice s n c, .int .i64 pos]] w fun e w' => e = .returned (.int .i64 (cf op)) ∧ Below w.heap.size w w' := by
 go_enter Tryz.func127, Tryz.ntmps127
 go_wp2
 all_goals
  go_ret
  refine ⟨cr ?_, ae (Below.refl _ _) _⟩
  unfold cf
  simp_all
theorem mD (s : ByteArray) (w : World) : Calls Tryz.prog 135 #[.string s] w fun e w' => e = .returned (.tuple #[.int .i64 (b8 s.toList).1, .int .i64 (b8 s.toList).2]) ∧ w = w' := by
 generalize hl : s.toList = l
 have HS := zh hl
 have h : (l = [45] ∨ l = [42] ∨ l = [47] ∨ l = [37]) ∨ (l = [60] ∨ l = [60, 61] ∨ l = [62] ∨ l = [62, 61]) ∨ (l = [38, 38] ∨ l = [124, 124]) ∨ (b8 l = (0, 0) ∧ (l == [45]) = false ∧ (l == [42]) = false ∧ (l == [47]) = false ∧ (l == [37]) = false ∧ (l == [60]) = false ∧ (l == [60, 61]) = false ∧ (l == [62]) = false ∧ (l == [62, 61]) = false ∧ (l == [38, 38]) = false ∧ (l == [124, 124]) = false) := by
  by_cases h1 : l = [45] ∨ l = [42] ∨ l = [47] ∨ l = [37]
  ·exact .inl h1
  by_cases h2 : l = [60] ∨ l = [60, 61] ∨ l = [62] ∨ l = [62, 61]
  ·exact .inr (.inl h2)
  by_cases h3 : l = [38, 38] ∨ l = [124, 124]
  ·exact .inr (.inr (.inl h3))
  refine .inr (.inr (.inr ⟨by unfold b8; rw [if_neg h1, if_neg h2, if_neg h3], ?_⟩))
  simp only [not_or] at h1 h2 h3
  simp [h1, h2, h3]
 rcases h with (h | h | h | h) | (h | h | h | h) | (h | h) | ⟨h0, h1, h2, h3, h4, h5, h6, h7, h8, h9, h10⟩
 all_goals
  try subst h
  go_enter Tryz.func135, Tryz.ntmps135
  go_wp2_with fail
  first
   | refine bodyPost_ret (v := .tuple #[.int .i64 1, .int .i64 1]) (by simp [results, Tryz.results135, go_sem]) rfl ⟨rfl, rfl⟩
   | refine bodyPost_ret (v := .tuple #[.int .i64 1, .int .i64 2]) (by simp [results, Tryz.results135, go_sem]) rfl ⟨rfl, rfl⟩
   | refine bodyPost_ret (v := .tuple #[.int .i64 2, .int .i64 2]) (by simp [results, Tryz.results135, go_sem]) rfl ⟨rfl, rfl⟩
   | refine bodyPost_ret (v := .tuple #[.int .i64 0, .int .i64 0]) (by simp [results, Tryz.results135, go_sem]) rfl ⟨by rw [h0], rfl⟩
def gI (op : Int) (n b o : Nat) : Bool :=
 if op = 1 ∨ op = 2 ∨ op = 7 ∨ op = 8 then n == 1 && b == 0 && o == 0
 else if op = 6 then n == 2 && b == 0 && o == 0
 else if op = 5 then decide (n ≤ 1) && b == 0 && o == 0
 else if op = 3 then n == 1
 else if op = 4 then n == 2 && o == 0
 else false
theorem oC (s : St) : cw s = gI s.op s.exprs.length s.body.length s.els.length := rfl
theorem mS (op pos : Int) (text : ByteArray) (s1 s2 s3 : Option Addr) (n b o c1 c2 c3 : Nat) (w : World) :
    Calls Tryz.prog 102 #[.agg #[.int .i64 op, .string text, .slice s1 n c1, .slice s2 b c2, .slice s3 o c3, .int .i64 pos]] w fun e w' => e = .returned (.bool (gI op n b o)) ∧ Below w.heap.size w w' := by
 go_enter Tryz.func102, Tryz.ntmps102
 go_upto_region 1 with fail
 go_quiet (fail)
 have HB : Hid (Below w.heap.size w ((w.alloc (.cells #[.int .i64 op, .string text, .slice s1 n c1, .slice s2 b c2, .slice s3 o c3, .int .i64 pos] 62)).drewN nq)) := zh (cG (ae (Below.refl _ _) _) nq)
 have q0 : ((w.alloc (.cells #[.int .i64 op, .string text, .slice s1 n c1, .slice s2 b c2, .slice s3 o c3, .int .i64 pos] 62)).drewN nq).cell? ⟨w.heap.size, 0, none⟩ = some (.int .i64 op) := aw _ _ _ _ _ _ rfl rfl
 generalize (w.alloc (.cells #[.int .i64 op, .string text, .slice s1 n c1, .slice s2 b c2, .slice s3 o c3, .int .i64 pos] 62)).drewN nq = w1 at *
 have hop : op = 1 ∨ op = 2 ∨ op = 7 ∨ op = 8 ∨ op = 6 ∨ op = 5 ∨ op = 3 ∨ op = 4 ∨ (¬ op = 1 ∧ ¬ op = 2 ∧ ¬ op = 7 ∧ ¬ op = 8 ∧ ¬ op = 6 ∧ ¬ op = 5 ∧ ¬ op = 3 ∧ ¬ op = 4) := by omega
 rcases hop with rfl | rfl | rfl | rfl | rfl | rfl | rfl | rfl | ⟨h1, h2, h3, h4, h5, h6, h7, h8⟩
 all_goals
  go_wp2
  all_goals
   go_ret
   refine ⟨bF ?_, HB.out⟩
   unfold gI
   rw [Bool.eq_iff_iff]
   simp_all
   try omega
end
section
open Go.RowKit Go.MapKept
theorem eT : Tryz.prog.underlying 121 = some (.map 9 123) := by kernel_rfl
theorem ez : Tryz.prog.underlying 9 = some .string := by kernel_rfl
theorem nK (w : World) : (zeroValue 123).run Tryz.prog w = .ok (.agg #[.int .i64 0, .bool false]) w := by kernel_rfl
theorem nJ (b : Nat) (m : List (ByteArray × Value)) (w : World) (h : MapAt w b m) :
    Calls Tryz.prog 130 #[.map (some b)] w fun e w' => e = .returned (.map (some w.heap.size)) ∧ MapAt w' w.heap.size m ∧ Below w.heap.size w w' := by
 obtain ⟨es, clock, hb, hm⟩ := h
 have hq := fun w => run_eql_map_nil_sl (P := Tryz.prog) w 121 _ _ (some b) eT
 go_enter Tryz.func130, Tryz.ntmps130
 go_wp2
 rw [run_callFunc_extern Tryz.func55 (by kernel_rfl) (by kernel_rfl) (by kernel_rfl) (e := Extern.MapsClone.clone) (by kernel_rfl), run_maps_clone_sl w 121 hb]
 simp only [Result.andThen]
 rw [Oper.upon_value]
 go_wp2
 rw [run_typeAssert_map_sl _ 121 20 _ _ _ eT]
 simp only [Result.andThen]
 rw [Oper.upon_value]
 go_wp2
 go_ret
 exact ⟨rfl, ⟨es, clock, ah _ _ _ rfl, hm⟩, ae (Below.refl _ _) _⟩
def nmV (p : Int × Bool) : Value := .agg #[.int .i64 p.1, .bool p.2]
def ViewAt (w : World) (r : Nat) (v : aV) : Prop := MapAt w r (v.map fun p => (p.1, nmV p.2))
theorem lP {α β : Type} (m : List (ByteArray × α)) (f : α → β) (k : ByteArray) : aF (m.map fun p => (p.1, f p.2)) k = (aF m k).map f := by
 induction m with
 | nil => rfl
 | cons p m ih =>
  simp only [List.map_cons, aF]
  split
  ·rfl
  ·exact ih
theorem nc {α β : Type} (m : List (ByteArray × α)) (f : α → β) (k : ByteArray) (x : α) : bJ (m.map fun p => (p.1, f p.2)) k (f x) = (bJ m k x).map fun p => (p.1, f p.2) := by
 induction m with
 | nil => rfl
 | cons p m ih =>
  simp only [List.map_cons, bJ]
  split
  ·rfl
  ·rw [ih]; rfl
theorem ViewAt.below {w w' : World} {r : Nat} {v : aV} (h : ViewAt w r v) (hb : Below w.heap.size w w') : ViewAt w' r v := MapAt.below h hb
theorem gy {w : World} {r : Nat} {v : aV} (h : ViewAt w r v) (k : ByteArray) : (Instr.lookup 121 (.map (some r)) (.string k) true).run Tryz.prog w = .ok (.tuple #[nmV ((aF v k).getD (0, false)), .bool (aF v k).isSome]) w := by
 have q := dY h eT ez (nK w) k
 rw [lP] at q
 rw [q]
 cases aF v k <;> rfl
theorem lJ {w : World} {r : Nat} {v : aV} (h : ViewAt w r v) (k : ByteArray) (x : Int × Bool) : ViewAt (eM w r k (nmV x)) r (bJ v k x) := by
 have q := i5 h k (nmV x)
 rw [nc] at q
 exact q
theorem la (r : Nat) (v : aV) (k : ByteArray) (t : Int) (fx : Bool) (w : World) (h : ViewAt w r v) :
    Calls Tryz.prog 107 #[.map (some r), .string k, .agg #[.int .i64 t, .bool fx]] w fun e w' => ∃ r', e = .returned (.map (some r')) ∧ ViewAt w' r' (bJ v k (t, fx)) ∧ Below w.heap.size w w' := by
 have HC := zh (fun W (hW : Below w.heap.size w W) => nJ r _ W (MapAt.below h hW))
 clear h
 go_enter Tryz.func107, Tryz.ntmps107
 go_wp2_with fail
 refine (HC.out _ (ae (Below.refl _ _) _)).mono ?_
 rintro e w1 ⟨rfl, hm, hb⟩
 have hq := run_eql_map_nil_sl (P := Tryz.prog) w1 121 _ _ (some (w.alloc (.cells #[.int .i64 t, .bool fx] 123)).heap.size) eT
 have hp := fO hm eT ez k (nmV (t, fx))
 have HV := zh (lJ (v := v) hm k (t, fx))
 have b0 := (hb.cell (p := ⟨w.heap.size, 0, none⟩) (by rw [ag]; exact Nat.lt_succ_self _)).trans (aw _ _ _ _ _ _ rfl rfl)
 have b1 := (hb.cell (p := ⟨w.heap.size, 1, none⟩) (by rw [ag]; exact Nat.lt_succ_self _)).trans (aw _ _ _ _ _ _ rfl rfl)
 have HO := zh (gU w1 (w.alloc (.cells #[.int .i64 t, .bool fx] 123)).heap.size k (nmV (t, fx)))
 have HB := zh (ak (ae (Below.refl w.heap.size w) (.cells #[.int .i64 t, .bool fx] 123)) hb)
 have HLT := zh (show w.heap.size ≤ (w.alloc (.cells #[.int .i64 t, .bool fx] 123)).heap.size by rw [ag]; omega)
 unfold nmV at hp HV HO
 generalize (w.alloc (.cells #[.int .i64 t, .bool fx] 123)).heap.size = r' at *
 clear hm hb
 go_wp2_with fail
 go_ret
 refine ⟨r', rfl, HV.out, ?_⟩
 have ho := HO.out
 have hbb := HB.out
 exact hbb.trans ⟨ho.os, ho.tape, ho.output, ho.size, fun i hi => ho.block i (Nat.lt_of_lt_of_le hi hbb.size) (fun e => by injection e with e; have := HLT.out; omega)⟩
end
section
open Go.RowKit
abbrev Any : Nat → Prop := fun _ => True
def FnV (w : World) (u : Value) (f : Fn) : Prop := ∃ nm s1 n1 c1 rs s2 n2 c2 pos, u = .agg #[.string nm, .slice s1 n1 c1, .int .i64 rs, .slice s2 n2 c2, .int .i64 pos] ∧ RepFn Any w [.string nm, .slice s1 n1 c1, .int .i64 rs, .slice s2 n2 c2, .int .i64 pos] f
def FunR (w : World) : List (ByteArray × Value) → aQ → Prop
 | [], [] => True
 | p :: m, q :: F => p.1 = q.1 ∧ FnV w p.2 q.2 ∧ FunR w m F
 | _, _ => False
theorem FnV.below {w w' : World} {u : Value} {f : Fn} (h : FnV w u f) (hb : Below w.heap.size w w') : FnV w' u f := by
 obtain ⟨nm, s1, n1, c1, rs, s2, n2, c2, pos, e, hr⟩ := h
 exact ⟨nm, s1, n1, c1, rs, s2, n2, c2, pos, e, hr.keep (Stays.of_below hb)⟩
theorem FunR.below {w w' : World} (hb : Below w.heap.size w w') : ∀ {m : List (ByteArray × Value)} {F : aQ}, FunR w m F → FunR w' m F
 | [], [], _ => trivial
 | _ :: _, _ :: _, ⟨h1, h2, h3⟩ => ⟨h1, h2.below hb, h3.below hb⟩
theorem FunR.look {w : World} (k : ByteArray) : ∀ {m : List (ByteArray × Value)} {F : aQ}, FunR w m F → (aF m k = none ∧ aF F k = none) ∨ ∃ u f, aF m k = some u ∧ aF F k = some f ∧ FnV w u f
 | [], [], _ => .inl ⟨rfl, rfl⟩
 | p :: m, q :: F, ⟨h1, h2, h3⟩ => by
  simp only [aF]
  rw [h1]
  split
  ·exact .inr ⟨_, _, rfl, rfl, h2⟩
  ·exact h3.look k
def rE (w : World) (r : Nat) (F : aQ) : Prop := ∃ m, MapAt w r m ∧ FunR w m F
structure CtxAt (w : World) (cb : Nat) (F : aQ) (res : Int) (vr : Nat) (v : aV) : Prop where
 obj : ∃ fr, w.heap[cb]? = some (.cells #[.map (some fr), .int .i64 res] 93 (0, 0)) ∧ rE w fr F
 view : ViewAt w vr v
theorem CtxAt.below {w w' : World} {cb : Nat} {F : aQ} {res : Int} {vr : Nat} {v : aV} (h : CtxAt w cb F res vr v) (hb : Below w.heap.size w w') : CtxAt w' cb F res vr v := by
 obtain ⟨fr, h1, m, h2, h3⟩ := h.obj
 exact ⟨⟨fr, (hb.block _ (ad h1)).trans h1, m, h2.below hb, h3.below hb⟩, h.view.below hb⟩
def gG (cb : Nat) (F : aQ) (res : Int) (x : Ex) : Prop := ∀ (v : aV) (vr : Nat) (w : World) (op num pos : Int) (text : ByteArray) (s : Option Addr) (n c : Nat), CtxAt w cb F res vr v → RepEx Any w [.int .i64 op, .int .i64 num, .string text, .slice s n c, .int .i64 pos] x →
 Calls Tryz.prog 103 #[.pointer (some ⟨cb, 0, none⟩), .agg #[.int .i64 op, .int .i64 num, .string text, .slice s n c, .int .i64 pos], .map (some vr)] w fun e w' => e = .returned (.tuple #[.int .i64 (aG F v x).1, bz (aG F v x).2]) ∧ Below w.heap.size w w'
theorem bL {S : Nat → Prop} {w : World} {op num pos : Int} {text : ByteArray} {s : Option Addr} {n c : Nat} {x : Ex} (h : RepEx S w [.int .i64 op, .int .i64 num, .string text, .slice s n c, .int .i64 pos] x) : ∃ ks, x = .mk op num text ks pos ∧ n = ks.length ∧ RepExs S w (.slice s n c) ks := by
 obtain ⟨op', num', text', ks, pos'⟩ := x
 obtain ⟨u, e, hk⟩ := h.kids
 simp only [List.cons.injEq, Value.int.injEq, Value.string.injEq, true_and, and_true] at e
 obtain ⟨rfl, rfl, rfl, rfl, rfl⟩ := e
 refine ⟨ks, rfl, ?_, hk⟩
 obtain ⟨cs, ⟨s0, cap, e, _⟩, _⟩ := hk
 injection e
theorem iY (cb : Nat) (F : aQ) (res : Int) (x : Ex) (hx : gG cb F res x) (v : aV) (vr : Nat) (t : Int) (w : World) (op num pos : Int) (text : ByteArray) (s : Option Addr) (n c : Nat) (h : CtxAt w cb F res vr v) (hr : RepEx Any w [.int .i64 op, .int .i64 num, .string text, .slice s n c, .int .i64 pos] x) :
    Calls Tryz.prog 111 #[.pointer (some ⟨cb, 0, none⟩), .agg #[.int .i64 op, .int .i64 num, .string text, .slice s n c, .int .i64 pos], .map (some vr), .int .i64 t] w fun e w' => e = .returned (bz (dn F v x t)) ∧ Below w.heap.size w w' := by
 have hp : x.pos = pos := by obtain ⟨ks, rfl, _⟩ := bL hr; rfl
 have HX := zh (fun W (hW : Below w.heap.size w W) => hx v vr W op num pos text s n c (h.below hW) (hr.keep (Stays.of_below hW)))
 have HM : Hid (dn F v x t = if (aG F v x).2.1 ≠ 0 then (aG F v x).2 else noC ((aG F v x).1 == t) 51 pos) := zh (by unfold dn ip; rw [hp])
 clear hx h hr hp
 generalize dn F v x t = R at *
 generalize aG F v x = q at *
 obtain ⟨t', f⟩ := q
 obtain ⟨fe, fa⟩ := f
 dsimp only at HM
 unfold bz at *
 have HB : Hid (Below w.heap.size w ((w.alloc (.cells #[.int .i64 op, .int .i64 num, .string text, .slice s n c, .int .i64 pos] 65)).alloc (.cells #[.int .i64 0, .int .i64 0] 96))) := zh (ae (ae (Below.refl _ _) _) _)
 have hz : ((w.alloc (.cells #[.int .i64 op, .int .i64 num, .string text, .slice s n c, .int .i64 pos] 65)).alloc (.cells #[.int .i64 0, .int .i64 0] 96)).heap[w.heap.size + 1]? = _ := ah _ _ _ (ag _ _)
 have hx : ((w.alloc (.cells #[.int .i64 op, .int .i64 num, .string text, .slice s n c, .int .i64 pos] 65)).alloc (.cells #[.int .i64 0, .int .i64 0] 96)).heap[w.heap.size]? = _ := au _ _ _ _ (ah _ _ _ rfl)
 have HZ := zh hz
 have HXX := zh hx
 clear hz hx
 go_enter Tryz.func111, Tryz.ntmps111
 go_wp2_with fail
 refine (HX.out _ HB.out).mono ?_
 rintro e w1 ⟨rfl, hb1⟩
 have z1 := (hb1.block _ (ad HZ.out)).trans HZ.out
 have x1 := (hb1.block _ (ad HXX.out)).trans HXX.out
 have HB1 := zh (ak HB.out hb1)
 have HL1 := zh (show w.heap.size + 1 < w1.heap.size from ad z1)
 have b4 : w1.cell? ⟨w.heap.size, 4, none⟩ = some (.int .i64 pos) := aa x1 (j := 4) rfl
 obtain ⟨r0, r1, -⟩ := css z1
 obtain ⟨g0, g1, -⟩ := fzs z1
 have hl1 := ad z1
 have hl0 := ad x1
 have HZ1 := zh z1
 clear hb1 z1 x1
 by_cases he : fe = 0
 ·subst he
  have HN := zh (cg (t' == t) 51 pos)
  go_wp2_with fail
  refine (HN.out _).mono ?_
  rintro e w2 ⟨rfl, hb2⟩
  replace HM := zh (HM.out.trans (if_neg (by simp)))
  generalize noC (t' == t) 51 pos = q at *
  obtain ⟨qe, qa⟩ := q
  unfold bz
  dsimp only
  have z2 := (hb2.block _ (by rw [ag]; exact Nat.lt_succ_of_lt hl1)).trans (au _ _ (.cells #[.int .i64 0, .int .i64 fa] 96) _ HZ1.out)
  obtain ⟨r0', r1', -⟩ := css z2
  obtain ⟨g0', g1', -⟩ := fzs z2
  have HB2 := zh (ak (ae HB1.out (.cells #[.int .i64 0, .int .i64 fa] 96)) hb2)
  clear hb2 z2 r0 r1 g0 g1 b4 hl1 hl0
  go_wp2_with fail
  refine bodyPost_ret (v := .agg #[.int .i64 qe, .int .i64 qa]) (by simp [results, Tryz.results111, go_sem, r0', r1']) rfl ⟨by rw [HM.out], ?_⟩
  exact (HB2.out.setCell (p := ⟨w.heap.size + 1, 0, none⟩) (Nat.le_succ _) _).setCell (p := ⟨w.heap.size + 1, 1, none⟩) (Nat.le_succ _) _
 ·replace HM := zh (HM.out.trans (if_pos he))
  have y0 : (((w1.setCell ⟨w.heap.size + 1, 0, none⟩ (.int .i64 fe)).setCell ⟨w.heap.size + 1, 1, none⟩ (.int .i64 fa)).alloc (.cells #[.int .i64 fe, .int .i64 fa] 96)).cell? ⟨w.heap.size + 1, 0, none⟩ = some (.int .i64 fe) := aj _ ((aR _ _ (.inr (by omega))).trans (dh _ r0))
  have y1 : (((w1.setCell ⟨w.heap.size + 1, 0, none⟩ (.int .i64 fe)).setCell ⟨w.heap.size + 1, 1, none⟩ (.int .i64 fa)).alloc (.cells #[.int .i64 fe, .int .i64 fa] 96)).cell? ⟨w.heap.size + 1, 1, none⟩ = some (.int .i64 fa) := aj _ (dh _ ((aR _ _ (.inr (by omega))).trans r1))
  have YB := zh (And.intro y0 y1)
  clear y0 y1
  go_wp2_with fail
  obtain ⟨y0, y1⟩ := YB.out
  refine bodyPost_ret (v := .agg #[.int .i64 fe, .int .i64 fa]) (by simp [results, Tryz.results111, go_sem, y0, y1]) rfl ⟨by rw [HM.out], ?_⟩
  repeat (first | exact HB1.out | refine Below.setCell ?_ (Nat.le_succ _) _ | refine Below.alloc ?_ (by simp; exact HB1.out.size) _)
end
end
section
open Go.RowKit Go.MapKept
def signRow : List ByteArray := [⟨#[]⟩, ⟨#[43]⟩, ⟨#[45]⟩, ⟨#[42]⟩, ⟨#[47]⟩, ⟨#[37]⟩, ⟨#[60]⟩, ⟨#[60, 61]⟩, ⟨#[62]⟩, ⟨#[62, 61]⟩, ⟨#[61, 61]⟩, ⟨#[33, 61]⟩, ⟨#[33]⟩]
def Signs (w : World) : Prop := ∀ i, i < 13 → w.cell? ⟨0, i, none⟩ = some (.string (signRow.getD i ⟨#[]⟩))
theorem Signs.of {w w' : World} (h : Signs w) (hk : w'.heap[0]? = w.heap[0]?) : Signs w' := fun i hi => (World.cell?_of_block (w := w) hk).trans (h i hi)
theorem Signs.below {B : Nat} {w w' : World} (h : Signs w) (hb : Below B w w') (hB : 0 < B) : Signs w' := h.of (hb.block 0 hB)
theorem Signs.lt {w : World} (h : Signs w) : 0 < w.heap.size := am (h 0 (by decide))
def dr (s : List UInt8) : List ByteArray → Nat → Option Nat
 | [], _ => none
 | t :: l, i => if s == t.toList then some i else dr s l (i + 1)
def ixI : Option Nat → Int
 | some i => i
 | none => -1
theorem pH (s : List UInt8) (i : Nat) (hi : i < 13) : dr s (signRow.drop i) i = if s == (signRow.getD i ⟨#[]⟩).toList then some i else dr s (signRow.drop (i + 1)) (i + 1) := by
 rw [List.drop_eq_getElem_cons (show i < signRow.length from hi), dr, List.getD_eq_getElem?_getD, List.getElem?_eq_getElem (show i < signRow.length from hi)]
 rfl
theorem nG (s : List UInt8) : cL s = ((dr s signRow 0).getD 0 : Nat) := by
 have key : ∀ (l : List ByteArray) (k : Nat), dr s l k = ((l.map ByteArray.toList).findIdx? (· == s)).map (· + k) := by
  intro l
  induction l with
  | nil => intro k; rfl
  | cons t l ih =>
   intro k
   rw [dr, List.map_cons, List.findIdx?_cons, ih]
   by_cases h : s = t.toList
   ·rw [if_pos (by simpa using h), if_pos (by simpa using h.symm)]
    simp
   ·rw [if_neg (by simpa using h), if_neg (by simpa using fun e => h e.symm), Option.map_map]
    congr 1
    funext x
    simp only [Function.comp]
    omega
 unfold cL
 rw [key signRow 0, show signRow.map ByteArray.toList = signNames by kernel_rfl]
 simp
theorem mi (s : ByteArray) (w : World) (hs : Signs w) :
    Calls Tryz.prog 123 #[.slice (some ⟨0, 0, none⟩) 13 13, .string s] w fun e w' => e = .returned (.int .i64 (ixI (dr s.toList signRow 0))) ∧ w = w' := by
 have HS := zh hs
 have HF := zh (pH s.toList)
 generalize hR : ixI (dr s.toList signRow 0) = R
 have HR := zh (show R = ixI (dr s.toList (signRow.drop 0) 0) from hR.symm)
 clear hR hs
 go_enter Tryz.func123, Tryz.ntmps123
 go_wp2_with fail
 go_loop [8] (fun t8 => ∃ i : Nat, i ≤ 13 ∧ t8 = .int .i64 (i : Int) ∧ R = ixI (dr s.toList (signRow.drop i) i)) (fun t8 => 13 - (intOf t8).toNat)
 case atStart => exact ⟨0, Nat.zero_le _, rfl, HR.out⟩
 case round =>
  obtain ⟨i, hi, rfl, hR⟩ := hrel
  have HRR := zh hR
  clear hR
  by_cases hlt : i < 13
  ·have x0 : w.cell? ⟨0, i, none⟩ = some (.string (signRow.getD i ⟨#[]⟩)) := HS.out i hlt
   have hat := HF.out i hlt
   have HRN := zh (HRR.out.trans (congrArg ixI hat))
   clear hat
   generalize signRow.getD i ⟨#[]⟩ = t at *
   cases hc : (s.toList == t.toList)
   ·rw [hc] at HRN
    go_wp2_with fail
    go_round
    case rel => exact ⟨i + 1, by omega, by go_num, HRN.out⟩
    case measure => simp [intOf]; omega
   ·rw [hc] at HRN
    go_wp2_with fail
    go_ret
    exact ⟨by rw [HRN.out]; rfl, rfl⟩
  ·obtain rfl : i = 13 := by omega
   have HRN : Hid (R = -1) := zh (HRR.out.trans rfl)
   go_wp2_with fail
   go_ret
   exact ⟨by rw [HRN.out]; rfl, rfl⟩
theorem eE (s : ByteArray) (w : World) (hs : Signs w) :
    Calls Tryz.prog 88 #[.string s] w fun e w' => e = .returned (.int .i64 (cL s.toList)) ∧ w = w' := by
 have HI := zh (mi s w hs)
 have HN := zh (nG s.toList)
 clear hs
 generalize dr s.toList signRow 0 = q at *
 go_enter Tryz.func88, Tryz.ntmps88
 go_wp2_with fail
 refine HI.out.mono ?_
 rintro e w' ⟨rfl, rfl⟩
 cases q with
 | none =>
  have e1 : ixI none = -1 := rfl
  rw [e1]
  go_wp2_with fail
  go_ret
  exact ⟨by rw [HN.out]; rfl, rfl⟩
 | some i =>
  have e1 : ixI (some i) = (i : Int) := rfl
  rw [e1]
  go_wp2_with fail
  go_ret
  exact ⟨by rw [HN.out]; rfl, rfl⟩
theorem pA (nm : ByteArray) (v1 v2 v3 v4 : Value) (nm2 : ByteArray) (nb : Nat) (w : World) (h : w.cell? ⟨nb, 0, none⟩ = some (.string nm2)) : Calls Tryz.prog 90 #[.agg #[.string nm, v1, v2, v3, v4], .pointer (some ⟨nb, 0, none⟩)] w fun e w' => e = .returned (.bool (nm.toList == nm2.toList)) ∧ Below w.heap.size w w' := by
 have hlt := am h
 go_enter Tryz.func90, Tryz.ntmps90
 go_wp2_with fail
 go_ret
 exact ⟨rfl, ae (Below.refl _ _) _⟩
theorem ol : ∀ (l : List Fn) (nm : ByteArray), bI l nm ≤ l.length
 | [], _ => Nat.le_refl _
 | f :: l, nm => by
  rw [bI]
  split
  ·exact Nat.zero_le _
  ·have := ol l nm
   rw [List.length_cons]; omega
theorem j5 : ∀ (l : List Fn) (nm : ByteArray) (i : Nat), i < bI l nm → (l.getD i default).name ≠ nm
 | [], _, i, h => by rw [bI] at h; omega
 | f :: l, nm, i, h => by
  rw [bI] at h
  by_cases e : f.name = nm
  ·rw [if_pos e] at h; omega
  ·rw [if_neg e] at h
   cases i with
   | zero => exact e
   | succ i => exact j5 l nm i (by omega)
theorem ji : ∀ (l : List Fn) (nm : ByteArray), bI l nm < l.length → (l.getD (bI l nm) default).name = nm
 | [], _, h => by rw [bI] at h; simp at h
 | f :: l, nm, h => by
  rw [bI] at h ⊢
  by_cases e : f.name = nm
  ·rw [if_pos e]; exact e
  ·rw [if_neg e] at h ⊢
   exact ji l nm (by simpa using h)
theorem o7 {a b : ByteArray} (h : a ≠ b) : (a.toList == b.toList) = false := by
 rw [beq_eq_false_iff_ne, ByteArray.toList_eq, ByteArray.toList_eq]
 exact fun e => h (ByteArray.ext (Array.toList_inj.1 e))
theorem hO {S : Nat → Prop} {w : World} {cs : List Value} {f : Fn} (h : RepFn S w cs f) : ∃ s1 c1 s2 c2, cs = [.string f.name, .slice s1 f.params.length c1, .int .i64 f.result, .slice s2 f.body.length c2, .int .i64 f.pos] := by
 obtain ⟨vp, vb, rfl, ⟨c, ⟨a1, a2, rfl, _⟩, _⟩, ⟨c', ⟨b1, b2, rfl, _⟩, _⟩⟩ := h
 exact ⟨_, _, _, _, rfl⟩
theorem mB (l : List Fn) (nm : ByteArray) (nb : Nat) (u : Value) (w : World) (hr : RepFns Any w u l) (hp : bI l nm < l.length) (h : w.cell? ⟨nb, 0, none⟩ = some (.string nm)) :
    Calls Tryz.prog 89 #[u, .func (.func 90) #[] #[.pointer (some ⟨nb, 0, none⟩)]] w fun e w' => e = .returned (.int .i64 (bI l nm : Nat)) ∧ Below w.heap.size w w' := by
 obtain ⟨cs, ⟨s0, cap, rfl, hle, hcm, _, hrow, hsz⟩, hit⟩ := hr
 unfold maxLen at hcm
 have hlen : l.length ≤ 9223372036854775807 := by omega
 have HNO := zh (j5 l nm)
 have HYES := zh (ji l nm hp)
 have HB := zh (fun (W : World) (hW : Below w.heap.size w W) (k : ByteArray) (v1 v2 v3 v4 : Value) => pA k v1 v2 v3 v4 nm nb W ((hW.cell (p := ⟨nb, 0, none⟩) (am h)).trans h))
 have HROW := zh hrow
 have HIT := zh hit
 have hcf : ∀ args W, Sem.run Tryz.prog (callFunc 90 args) W = .ok (.enter 90 args) W := fun _ _ => Tryz.call90 _ _
 generalize hP : bI l nm = P at *
 have HP := zh (And.intro hp hcm)
 clear hrow hit hsz hle hcm h hP hp
 go_enter Tryz.func89, Tryz.ntmps89
 go_wp2_with fail
 go_loopg [8] (P + 1) (fun g t8 wr => ∃ i : Nat, i + g = P + 1 ∧ 0 < g ∧ t8 = .int .i64 (i : Int) ∧ Below w.heap.size w wr)
 case atStart => exact ⟨0, Nat.zero_add _, Nat.succ_pos _, rfl, Below.refl _ _⟩
 case round =>
  obtain ⟨i, hig, hg, rfl, hb⟩ := hrel
  have HBW := zh hb
  have hil : i < l.length := by have := HP.out.1; omega
  have hil2 : (i : Int) < (l.length : Int) := by omega
  have hi0 : (0 : Int) ≤ (i : Int) := by omega
  obtain ⟨b, off, hs0, _, hbl, hcell⟩ := HROW.out (by omega)
  subst hs0
  obtain ⟨s1, c1, s2, c2, hcs⟩ := hO (HIT.out i hil)
  have hc5 : ∀ j, j < 5 → wr.cell? ⟨b, off + i * 5 + j, none⟩ = (cs i)[j]? := fun j hj => (HBW.out.cell (p := ⟨b, _, none⟩) hbl).trans (hcell i hil j hj)
  rw [hcs] at hc5
  have x0 : wr.cell? ⟨b, off + i * 5, none⟩ = some (.string (l.getD i default).name) := hc5 0 (by decide)
  have x1 : wr.cell? ⟨b, off + i * 5 + 1, none⟩ = some (.slice s1 (l.getD i default).params.length c1) := hc5 1 (by decide)
  have x2 : wr.cell? ⟨b, off + i * 5 + 2, none⟩ = some (.int .i64 (l.getD i default).result) := hc5 2 (by decide)
  have x3 : wr.cell? ⟨b, off + i * 5 + 3, none⟩ = some (.slice s2 (l.getD i default).body.length c2) := hc5 3 (by decide)
  have x4 : wr.cell? ⟨b, off + i * 5 + 4, none⟩ = some (.int .i64 (l.getD i default).pos) := hc5 4 (by decide)
  have HG := zh hig
  clear hb hc5 hcs hcell
  by_cases hlt : i < P
  ·have hne := o7 (HNO.out i hlt)
   generalize l.getD i default = f at *
   have HBC := HB.out wr HBW.out f.name (.slice s1 f.params.length c1) (.int .i64 f.result) (.slice s2 f.body.length c2) (.int .i64 f.pos)
   rw [hne] at HBC
   have HC := zh HBC
   clear HBC hne
   go_wp2_with fail
   refine HC.out.mono ?_
   rintro e w2 ⟨rfl, hb2⟩
   have HB2 := zh (HBW.out.trans (hb2.mono HBW.out.size))
   clear hb2
   go_wp2_with fail
   go_roundg (gk - 1)
   case measure => omega
   case rel => exact ⟨i + 1, by have := HG.out; omega, by have := HG.out; omega, by go_num, HB2.out⟩
  ·obtain rfl : i = P := by omega
   have heq : ((l.getD i default).name.toList == nm.toList) = true := by rw [HYES.out]; simp
   generalize l.getD i default = f at *
   have HBC := HB.out wr HBW.out f.name (.slice s1 f.params.length c1) (.int .i64 f.result) (.slice s2 f.body.length c2) (.int .i64 f.pos)
   rw [heq] at HBC
   have HC := zh HBC
   clear HBC heq
   go_wp2_with fail
   refine HC.out.mono ?_
   rintro e w2 ⟨rfl, hb2⟩
   have HB2 := zh (HBW.out.trans (hb2.mono HBW.out.size))
   clear hb2
   go_wp2_with fail
   go_ret
   exact ⟨rfl, HB2.out⟩
theorem hG (B M MB TB NB : Nat) (fv : Value) (s : CS) (F : List Fn) (nm : ByteArray) (w : World) (h : MkAt B M w MB TB NB fv s) (hf : RepFns Any w fv F) (hp : bI F nm < F.length) :
    Calls Tryz.prog 61 #[.pointer (some ⟨MB, 0, none⟩), .string nm] w fun e w' => e = .returned (.tuple #[.int .i64 (bI F nm : Nat), .int .i64 (gp F nm)]) ∧ Below w.heap.size w w' := by
 obtain ⟨iv, hm, _⟩ := h.m
 have hb1 : Below w.heap.size w (w.alloc (.cells #[.string nm] 9)) := ae (Below.refl _ _) _
 have HPL := zh (mB F nm w.heap.size fv (w.alloc (.cells #[.string nm] 9)) (hf.keep (Stays.of_below hb1)) hp (aw _ _ _ _ _ _ rfl rfl))
 have m1 : w.cell? ⟨MB, 1, none⟩ = some fv := aa hm (j := 1) rfl
 obtain ⟨cs, ⟨s0, cap, rfl, hle, hcm, _, hrow, hsz⟩, hit⟩ := hf
 unfold maxLen at hcm
 have hlen : F.length ≤ 9223372036854775807 := by omega
 obtain ⟨b, off, rfl, _, hbl, hcell⟩ := hrow (by omega)
 obtain ⟨s1, c1, s2, c2, hcs⟩ := hO (hit _ hp)
 have hc2 := hcell _ hp 2 (by decide)
 rw [hcs] at hc2
 have HC2 : Hid (w.cell? ⟨b, off + bI F nm * 5 + 2, none⟩ = some (.int .i64 (gp F nm))) := zh hc2
 have HMC := zh m1
 have HLT := zh (ad hm)
 have hlt := HLT.out
 clear h hm hle hcm hrow hsz hit hcell hcs hc2
 generalize gp F nm = R at *
 generalize bI F nm = P at *
 have g1 : (P : Int) < (F.length : Int) := by omega
 have g0 : (0 : Int) ≤ (P : Int) := by omega
 go_enter Tryz.func61, Tryz.ntmps61
 go_wp2_with fail
 refine HPL.out.mono ?_
 rintro e w2 ⟨rfl, hb2⟩
 have HB := zh (hb1.trans (hb2.mono hb1.size))
 have n1 : w2.cell? ⟨MB, 1, none⟩ = some (.slice (some ⟨b, off, none⟩) F.length cap) := (HB.out.cell (p := ⟨MB, 1, none⟩) HLT.out).trans HMC.out
 have n2 : w2.cell? ⟨b, off + P * 5 + 2, none⟩ = some (.int .i64 R) := (HB.out.cell (p := ⟨b, _, none⟩) hbl).trans HC2.out
 clear hb1 hb2 m1
 go_wp2_with fail
 go_quiet (fail)
 go_wp2_with fail
 go_ret2
 exact ⟨rfl, cG HB.out _⟩
def mr (v : bg) : List (ByteArray × Value) := v.map fun p => (p.1, .int .i64 p.2)
def SlAt (w : World) (r : Nat) (v : bg) : Prop := MapAt w r (mr v)
theorem SlAt.below {w w' : World} {r : Nat} {v : bg} (h : SlAt w r v) (hb : Below w.heap.size w w') : SlAt w' r v := MapAt.below h hb
theorem SlAt.fx {B M NB : Nat} {w w' : World} (hf : Fx B M NB w w') {r : Nat} {v : bg} (h : SlAt w r v) (hn : r ≠ NB) : SlAt w' r v := MapAt.fx hf h hn
section
variable {P : Program} {w : World} {r : Nat} {m : List (ByteArray × Value)} {mt kt et : TypeId}
theorem oz (h : MapAt w r m) (hm : P.underlying mt = some (.map kt et)) (hk : P.underlying kt = some .string) {z : Value} (hz : (zeroValue et).run P w = .ok z w) (k : ByteArray) :
    (Instr.lookup mt (.map (some r)) (.string k) false).run P w = .ok ((aF m k).getD z) w := by
 obtain ⟨es, c, h1, h2⟩ := h
 rcases eV k .nilIface es.toList m 0 h2 with ⟨a1, a2, _⟩ | ⟨j, v, e, a1, a2, _⟩
 ·simp [Instr.lookup, run_underlying hm, Go.MapKept.run_getObj_map h1, run_checkKey hk (k := .string k) (by simp [IsKey]), run_findKey hk a2, hz, Result.andThen, a1]
 ·simp [Instr.lookup, run_underlying hm, Go.MapKept.run_getObj_map h1, run_checkKey hk (k := .string k) (by simp [IsKey]), run_findKey hk a2, Result.andThen, a1]
end
theorem iu {w : World} {r : Nat} {v : bg} (h : SlAt w r v) (k : ByteArray) : (Instr.lookup 68 (.map (some r)) (.string k) false).run Tryz.prog w = .ok (.int .i64 ((aF v k).getD 0)) w := by
 rw [oz h eP go (lE w) k, mr, lP v (fun n => Value.int .i64 n)]
 cases aF v k <;> rfl
theorem gc {w : World} {r : Nat} {v : bg} (h : SlAt w r v) (k : ByteArray) (n : Int) : (Instr.mapUpdate 68 (.map (some r)) (.string k) (.int .i64 n)).run Tryz.prog w = .ok () (eM w r k (.int .i64 n)) ∧ SlAt (eM w r k (.int .i64 n)) r (bJ v k n) ∧ On r w (eM w r k (.int .i64 n)) := by
 refine ⟨fO h eP go k _, ?_, gU w r k _⟩
 have q := i5 h k (.int .i64 n)
 rw [mr, nc v (fun n => Value.int .i64 n)] at q
 exact q
end
end Go.Proofs.YtjblihabklemfaaGreatDoor
