/-
  The checker's small functions.
  A copy of a map; a view with one more name.
  The checker in memory; must.
-/
import Derived.Test.YtpiamiaigjlafaaMapS
import Derived.Test.YtpiamiaigjlafaaParA
import Derived.Deep.LoopGhost
import Derived.Shelf.SlMaps.Clone
import Derived.Test.YtpiamiaigjlafaaParY
namespace Go.Proofs.Ytpiamiaigjlafaa

section
open Go.RowKit

def fltV (f : Flt) : Value := .agg #[.int .i64 f.1, .int .i64 f.2]
set_option maxRecDepth 100000 in
set_option maxHeartbeats 1000000 in
theorem no_any (b : Bool) (e0 at' : Int) (w : World) : Calls Try.prog 26 #[.bool b, .int .i64 e0, .int .i64 at'] w fun e w' => e = .returned (fltV (noC b e0 at')) ∧ Below w.heap.size w w' := by
  cases b
  · go_enter Try.func26, Try.ntmps26
    go_wp2_with fail
    refine bodyPost_ret (v := .agg #[.int .i64 e0, .int .i64 at']) (by simp [results, Try.results26, go_sem]) rfl ⟨rfl, ?_⟩
    repeat (first | exact Below.refl _ _ | refine Below.setCell ?_ (Nat.le_refl _) _ | refine Below.alloc ?_ (Nat.le_refl _) _)
  · go_enter Try.func26, Try.ntmps26
    go_wp2_with fail
    refine bodyPost_ret (v := .agg #[.int .i64 0, .int .i64 0]) (by simp [results, Try.results26, go_sem]) rfl ⟨rfl, ?_⟩
    repeat (first | exact Below.refl _ _ | refine Below.setCell ?_ (Nat.le_refl _) _ | refine Below.alloc ?_ (Nat.le_refl _) _)
set_option maxRecDepth 100000 in
set_option maxHeartbeats 1000000 in
theorem kids_any (op num pos : Int) (text : ByteArray) (s : Option Addr) (n c : Nat) (w : World) : Calls Try.prog 83 #[.agg #[.int .i64 op, .int .i64 num, .string text, .slice s n c, .int .i64 pos]] w fun e w' => e = .returned (.int .i64 (kidsN op)) ∧ Below w.heap.size w w' := by
  go_enter Try.func83, Try.ntmps83
  go_wp2
  all_goals
    go_ret
    refine ⟨ret_int ?_, up_alloc (Below.refl _ _) _⟩
    unfold kidsN
    simp_all
set_option maxRecDepth 100000 in
set_option maxHeartbeats 4000000 in
theorem signed_any (s : ByteArray) (w : World) : Calls Try.prog 90 #[.string s] w fun e w' => e = .returned (.tuple #[.int .i64 (signedC s.toList).1, .int .i64 (signedC s.toList).2]) ∧ w = w' := by
  generalize hl : s.toList = l
  have HS := Lib.hid hl
  have h : (l = [45] ∨ l = [42] ∨ l = [47] ∨ l = [37]) ∨ (l = [60] ∨ l = [60, 61] ∨ l = [62] ∨ l = [62, 61]) ∨ (l = [38, 38] ∨ l = [124, 124]) ∨ (signedC l = (0, 0) ∧ (l == [45]) = false ∧ (l == [42]) = false ∧ (l == [47]) = false ∧ (l == [37]) = false ∧ (l == [60]) = false ∧ (l == [60, 61]) = false ∧ (l == [62]) = false ∧ (l == [62, 61]) = false ∧ (l == [38, 38]) = false ∧ (l == [124, 124]) = false) := by
    by_cases h1 : l = [45] ∨ l = [42] ∨ l = [47] ∨ l = [37]
    · exact .inl h1
    by_cases h2 : l = [60] ∨ l = [60, 61] ∨ l = [62] ∨ l = [62, 61]
    · exact .inr (.inl h2)
    by_cases h3 : l = [38, 38] ∨ l = [124, 124]
    · exact .inr (.inr (.inl h3))
    refine .inr (.inr (.inr ⟨by unfold signedC; rw [if_neg h1, if_neg h2, if_neg h3], ?_⟩))
    simp only [not_or] at h1 h2 h3
    simp [h1, h2, h3]
  rcases h with (h | h | h | h) | (h | h | h | h) | (h | h) | ⟨h0, h1, h2, h3, h4, h5, h6, h7, h8, h9, h10⟩
  all_goals
    try subst h
    go_enter Try.func90, Try.ntmps90
    go_wp2_with fail
    first
      | refine bodyPost_ret (v := .tuple #[.int .i64 1, .int .i64 1]) (by simp [results, Try.results90, go_sem]) rfl ⟨rfl, rfl⟩
      | refine bodyPost_ret (v := .tuple #[.int .i64 1, .int .i64 2]) (by simp [results, Try.results90, go_sem]) rfl ⟨rfl, rfl⟩
      | refine bodyPost_ret (v := .tuple #[.int .i64 2, .int .i64 2]) (by simp [results, Try.results90, go_sem]) rfl ⟨rfl, rfl⟩
      | refine bodyPost_ret (v := .tuple #[.int .i64 0, .int .i64 0]) (by simp [results, Try.results90, go_sem]) rfl ⟨by rw [h0], rfl⟩
/-- has a statement of that kind, with so many expressions, the parts that it must have? -/
def shapeB (op : Int) (n b o : Nat) : Bool :=
  if op = 1 ∨ op = 2 ∨ op = 7 ∨ op = 8 then n == 1 && b == 0 && o == 0
  else if op = 6 then n == 2 && b == 0 && o == 0
  else if op = 5 then decide (n ≤ 1) && b == 0 && o == 0
  else if op = 3 then n == 1
  else if op = 4 then n == 2 && o == 0
  else false
theorem shaped_is (s : St) : shapedC s = shapeB s.op s.exprs.length s.body.length s.els.length := rfl
set_option maxRecDepth 100000 in
set_option maxHeartbeats 4000000 in
theorem shaped_any (op pos : Int) (text : ByteArray) (s1 s2 s3 : Option Addr) (n b o c1 c2 c3 : Nat) (w : World) :
    Calls Try.prog 55 #[.agg #[.int .i64 op, .string text, .slice s1 n c1, .slice s2 b c2, .slice s3 o c3, .int .i64 pos]] w fun e w' => e = .returned (.bool (shapeB op n b o)) ∧ Below w.heap.size w w' := by
  go_enter Try.func55, Try.ntmps55
  go_upto_region 1 with fail
  go_quiet (fail)
  have HB : Hid (Below w.heap.size w ((w.alloc (.cells #[.int .i64 op, .string text, .slice s1 n c1, .slice s2 b c2, .slice s3 o c3, .int .i64 pos] 46)).drewN nq)) := Lib.hid (up_drewN (up_alloc (Below.refl _ _) _) nq)
  have q0 : ((w.alloc (.cells #[.int .i64 op, .string text, .slice s1 n c1, .slice s2 b c2, .slice s3 o c3, .int .i64 pos] 46)).drewN nq).cell? ⟨w.heap.size, 0, none⟩ = some (.int .i64 op) := new_cell _ _ _ _ _ _ rfl rfl
  generalize (w.alloc (.cells #[.int .i64 op, .string text, .slice s1 n c1, .slice s2 b c2, .slice s3 o c3, .int .i64 pos] 46)).drewN nq = w1 at *
  have hop : op = 1 ∨ op = 2 ∨ op = 7 ∨ op = 8 ∨ op = 6 ∨ op = 5 ∨ op = 3 ∨ op = 4 ∨ (¬ op = 1 ∧ ¬ op = 2 ∧ ¬ op = 7 ∧ ¬ op = 8 ∧ ¬ op = 6 ∧ ¬ op = 5 ∧ ¬ op = 3 ∧ ¬ op = 4) := by omega
  rcases hop with rfl | rfl | rfl | rfl | rfl | rfl | rfl | rfl | ⟨h1, h2, h3, h4, h5, h6, h7, h8⟩
  all_goals
    go_wp2
    all_goals
      go_ret
      refine ⟨ret_bool ?_, HB.out⟩
      unfold shapeB
      rw [Bool.eq_iff_iff]
      simp_all
      try omega
end

section
open Go.RowKit Go.MapKept

theorem und_view : Try.prog.underlying 73 = some (.map 9 75) := by kernel_rfl
theorem und_str : Try.prog.underlying 9 = some .string := by kernel_rfl
theorem zero_name (w : World) : (zeroValue 75).run Try.prog w = .ok (.agg #[.int .i64 0, .bool false]) w := by kernel_rfl
set_option maxRecDepth 100000 in
set_option maxHeartbeats 2000000 in
theorem clone_any (b : Nat) (m : List (ByteArray × Value)) (w : World) (h : MapAt w b m) :
    Calls Try.prog 86 #[.map (some b)] w fun e w' => e = .returned (.map (some w.heap.size)) ∧ MapAt w' w.heap.size m ∧ Below w.heap.size w w' := by
  obtain ⟨es, clock, hb, hm⟩ := h
  have hq := fun w => run_eql_map_nil_sl (P := Try.prog) w 73 _ _ (some b) und_view
  go_enter Try.func86, Try.ntmps86
  go_wp2
  rw [run_callFunc_extern Try.func91 (by kernel_rfl) (by kernel_rfl) (by kernel_rfl) (e := Extern.MapsClone.clone) (by kernel_rfl), run_maps_clone_sl w 73 hb]
  simp only [Result.andThen]
  rw [Oper.upon_value]
  go_wp2
  rw [run_typeAssert_map_sl _ 73 20 _ _ _ und_view]
  simp only [Result.andThen]
  rw [Oper.upon_value]
  go_wp2
  go_ret
  exact ⟨rfl, ⟨es, clock, new_heap _ _ _ rfl, hm⟩, up_alloc (Below.refl _ _) _⟩
def nmV (p : Int × Bool) : Value := .agg #[.int .i64 p.1, .bool p.2]
/-- a view lies in block r -/
def ViewAt (w : World) (r : Nat) (v : View) : Prop := MapAt w r (v.map fun p => (p.1, nmV p.2))
theorem look_map {α β : Type} (m : List (ByteArray × α)) (f : α → β) (k : ByteArray) : lookL (m.map fun p => (p.1, f p.2)) k = (lookL m k).map f := by
  induction m with
  | nil => rfl
  | cons p m ih =>
    simp only [List.map_cons, lookL]
    split
    · rfl
    · exact ih
theorem put_map {α β : Type} (m : List (ByteArray × α)) (f : α → β) (k : ByteArray) (x : α) : putL (m.map fun p => (p.1, f p.2)) k (f x) = (putL m k x).map fun p => (p.1, f p.2) := by
  induction m with
  | nil => rfl
  | cons p m ih =>
    simp only [List.map_cons, putL]
    split
    · rfl
    · rw [ih]; rfl
theorem ViewAt.below {w w' : World} {r : Nat} {v : View} (h : ViewAt w r v) (hb : Below w.heap.size w w') : ViewAt w' r v := MapAt.below h hb
theorem look_view {w : World} {r : Nat} {v : View} (h : ViewAt w r v) (k : ByteArray) : (Instr.lookup 73 (.map (some r)) (.string k) true).run Try.prog w = .ok (.tuple #[nmV ((lookL v k).getD (0, false)), .bool (lookL v k).isSome]) w := by
  have q := run_lookS h und_view und_str (zero_name w) k
  rw [look_map] at q
  rw [q]
  cases lookL v k <;> rfl
theorem put_view {w : World} {r : Nat} {v : View} (h : ViewAt w r v) (k : ByteArray) (x : Int × Bool) : ViewAt (putW w r k (nmV x)) r (putL v k x) := by
  have q := putW_at h k (nmV x)
  rw [put_map] at q
  exact q
set_option maxRecDepth 100000 in
set_option maxHeartbeats 2000000 in
theorem with_any (r : Nat) (v : View) (k : ByteArray) (t : Int) (fx : Bool) (w : World) (h : ViewAt w r v) :
    Calls Try.prog 60 #[.map (some r), .string k, .agg #[.int .i64 t, .bool fx]] w fun e w' => ∃ r', e = .returned (.map (some r')) ∧ ViewAt w' r' (putL v k (t, fx)) ∧ Below w.heap.size w w' := by
  have HC := Lib.hid (fun W (hW : Below w.heap.size w W) => clone_any r _ W (MapAt.below h hW))
  clear h
  go_enter Try.func60, Try.ntmps60
  go_wp2_with fail
  refine (HC.out _ (up_alloc (Below.refl _ _) _)).mono ?_
  rintro e w1 ⟨rfl, hm, hb⟩
  have hq := run_eql_map_nil_sl (P := Try.prog) w1 73 _ _ (some (w.alloc (.cells #[.int .i64 t, .bool fx] 75)).heap.size) und_view
  have hp := run_putS hm und_view und_str k (nmV (t, fx))
  have HV := Lib.hid (put_view (v := v) hm k (t, fx))
  have b0 := (hb.cell (p := ⟨w.heap.size, 0, none⟩) (by rw [size_alloc]; exact Nat.lt_succ_self _)).trans (new_cell _ _ _ _ _ _ rfl rfl)
  have b1 := (hb.cell (p := ⟨w.heap.size, 1, none⟩) (by rw [size_alloc]; exact Nat.lt_succ_self _)).trans (new_cell _ _ _ _ _ _ rfl rfl)
  have HO := Lib.hid (putW_on w1 (w.alloc (.cells #[.int .i64 t, .bool fx] 75)).heap.size k (nmV (t, fx)))
  have HB := Lib.hid (up_trans (up_alloc (Below.refl w.heap.size w) (.cells #[.int .i64 t, .bool fx] 75)) hb)
  have HLT := Lib.hid (show w.heap.size ≤ (w.alloc (.cells #[.int .i64 t, .bool fx] 75)).heap.size by rw [size_alloc]; omega)
  unfold nmV at hp HV HO
  generalize (w.alloc (.cells #[.int .i64 t, .bool fx] 75)).heap.size = r' at *
  clear hm hb
  go_wp2_with fail
  go_ret
  refine ⟨r', rfl, HV.out, ?_⟩
  have ho := HO.out
  have hbb := HB.out
  exact hbb.trans ⟨ho.os, ho.tape, ho.output, ho.size, fun i hi => ho.block i (Nat.lt_of_lt_of_le hi hbb.size) (fun e => by injection e with e; have := HLT.out; omega)⟩
end

section
open Go.RowKit

abbrev Any : Nat → Prop := fun _ => True
/-- a function's value -/
def FnV (w : World) (u : Value) (f : Fn) : Prop := ∃ nm s1 n1 c1 rs s2 n2 c2 pos, u = .agg #[.string nm, .slice s1 n1 c1, .int .i64 rs, .slice s2 n2 c2, .int .i64 pos] ∧ RepFn Any w [.string nm, .slice s1 n1 c1, .int .i64 rs, .slice s2 n2 c2, .int .i64 pos] f
/-- functions by their names -/
def FunR (w : World) : List (ByteArray × Value) → Funs → Prop
  | [], [] => True
  | p :: m, q :: F => p.1 = q.1 ∧ FnV w p.2 q.2 ∧ FunR w m F
  | _, _ => False
theorem FnV.below {w w' : World} {u : Value} {f : Fn} (h : FnV w u f) (hb : Below w.heap.size w w') : FnV w' u f := by
  obtain ⟨nm, s1, n1, c1, rs, s2, n2, c2, pos, e, hr⟩ := h
  exact ⟨nm, s1, n1, c1, rs, s2, n2, c2, pos, e, hr.keep (Stays.of_below hb)⟩
theorem FunR.below {w w' : World} (hb : Below w.heap.size w w') : ∀ {m : List (ByteArray × Value)} {F : Funs}, FunR w m F → FunR w' m F
  | [], [], _ => trivial
  | _ :: _, _ :: _, ⟨h1, h2, h3⟩ => ⟨h1, h2.below hb, h3.below hb⟩
theorem FunR.look {w : World} (k : ByteArray) : ∀ {m : List (ByteArray × Value)} {F : Funs}, FunR w m F → (lookL m k = none ∧ lookL F k = none) ∨ ∃ u f, lookL m k = some u ∧ lookL F k = some f ∧ FnV w u f
  | [], [], _ => .inl ⟨rfl, rfl⟩
  | p :: m, q :: F, ⟨h1, h2, h3⟩ => by
    simp only [lookL]
    rw [h1]
    split
    · exact .inr ⟨_, _, rfl, rfl, h2⟩
    · exact h3.look k
def FunsAt (w : World) (r : Nat) (F : Funs) : Prop := ∃ m, MapAt w r m ∧ FunR w m F
/-- the checker lies in block cb, and a view in block vr -/
structure CtxAt (w : World) (cb : Nat) (F : Funs) (res : Int) (vr : Nat) (v : View) : Prop where
  obj : ∃ fr, w.heap[cb]? = some (.cells #[.map (some fr), .int .i64 res] 55 (0, 0)) ∧ FunsAt w fr F
  view : ViewAt w vr v
theorem CtxAt.below {w w' : World} {cb : Nat} {F : Funs} {res : Int} {vr : Nat} {v : View} (h : CtxAt w cb F res vr v) (hb : Below w.heap.size w w') : CtxAt w' cb F res vr v := by
  obtain ⟨fr, h1, m, h2, h3⟩ := h.obj
  exact ⟨⟨fr, (hb.block _ (lt_block h1)).trans h1, m, h2.below hb, h3.below hb⟩, h.view.below hb⟩
/-- what 'expr' says of an expression, whatever is in view -/
def ExCk (cb : Nat) (F : Funs) (res : Int) (x : Ex) : Prop := ∀ (v : View) (vr : Nat) (w : World) (op num pos : Int) (text : ByteArray) (s : Option Addr) (n c : Nat), CtxAt w cb F res vr v → RepEx Any w [.int .i64 op, .int .i64 num, .string text, .slice s n c, .int .i64 pos] x →
  Calls Try.prog 56 #[.pointer (some ⟨cb, 0, none⟩), .agg #[.int .i64 op, .int .i64 num, .string text, .slice s n c, .int .i64 pos], .map (some vr)] w fun e w' => e = .returned (.tuple #[.int .i64 (exprC F v x).1, fltV (exprC F v x).2]) ∧ Below w.heap.size w w'
theorem rep_parts {S : Nat → Prop} {w : World} {op num pos : Int} {text : ByteArray} {s : Option Addr} {n c : Nat} {x : Ex} (h : RepEx S w [.int .i64 op, .int .i64 num, .string text, .slice s n c, .int .i64 pos] x) : ∃ ks, x = .mk op num text ks pos ∧ n = ks.length ∧ RepExs S w (.slice s n c) ks := by
  obtain ⟨op', num', text', ks, pos'⟩ := x
  obtain ⟨u, e, hk⟩ := h.kids
  simp only [List.cons.injEq, Value.int.injEq, Value.string.injEq, true_and, and_true] at e
  obtain ⟨rfl, rfl, rfl, rfl, rfl⟩ := e
  refine ⟨ks, rfl, ?_, hk⟩
  obtain ⟨cs, ⟨s0, cap, e, _⟩, _⟩ := hk
  injection e
set_option maxRecDepth 100000 in
set_option maxHeartbeats 2000000 in
theorem must_ck (cb : Nat) (F : Funs) (res : Int) (x : Ex) (hx : ExCk cb F res x) (v : View) (vr : Nat) (t : Int) (w : World) (op num pos : Int) (text : ByteArray) (s : Option Addr) (n c : Nat) (h : CtxAt w cb F res vr v) (hr : RepEx Any w [.int .i64 op, .int .i64 num, .string text, .slice s n c, .int .i64 pos] x) :
    Calls Try.prog 64 #[.pointer (some ⟨cb, 0, none⟩), .agg #[.int .i64 op, .int .i64 num, .string text, .slice s n c, .int .i64 pos], .map (some vr), .int .i64 t] w fun e w' => e = .returned (fltV (mustC F v x t)) ∧ Below w.heap.size w w' := by
  have hp : x.pos = pos := by obtain ⟨ks, rfl, _⟩ := rep_parts hr; rfl
  have HX := Lib.hid (fun W (hW : Below w.heap.size w W) => hx v vr W op num pos text s n c (h.below hW) (hr.keep (Stays.of_below hW)))
  have HM : Hid (mustC F v x t = if (exprC F v x).2.1 ≠ 0 then (exprC F v x).2 else noC ((exprC F v x).1 == t) 51 pos) := Lib.hid (by unfold mustC mustOf; rw [hp])
  clear hx h hr hp
  generalize mustC F v x t = R at *
  generalize exprC F v x = q at *
  obtain ⟨t', f⟩ := q
  obtain ⟨fe, fa⟩ := f
  dsimp only at HM
  unfold fltV at *
  have HB : Hid (Below w.heap.size w ((w.alloc (.cells #[.int .i64 op, .int .i64 num, .string text, .slice s n c, .int .i64 pos] 44)).alloc (.cells #[.int .i64 0, .int .i64 0] 58))) := Lib.hid (up_alloc (up_alloc (Below.refl _ _) _) _)
  have hz : ((w.alloc (.cells #[.int .i64 op, .int .i64 num, .string text, .slice s n c, .int .i64 pos] 44)).alloc (.cells #[.int .i64 0, .int .i64 0] 58)).heap[w.heap.size + 1]? = _ := new_heap _ _ _ (size_alloc _ _)
  have hx : ((w.alloc (.cells #[.int .i64 op, .int .i64 num, .string text, .slice s n c, .int .i64 pos] 44)).alloc (.cells #[.int .i64 0, .int .i64 0] 58)).heap[w.heap.size]? = _ := old_heap _ _ _ _ (new_heap _ _ _ rfl)
  have HZ := Lib.hid hz
  have HXX := Lib.hid hx
  clear hz hx
  go_enter Try.func64, Try.ntmps64
  go_wp2_with fail
  refine (HX.out _ HB.out).mono ?_
  rintro e w1 ⟨rfl, hb1⟩
  have z1 := (hb1.block _ (lt_block HZ.out)).trans HZ.out
  have x1 := (hb1.block _ (lt_block HXX.out)).trans HXX.out
  have HB1 := Lib.hid (up_trans HB.out hb1)
  have HL1 := Lib.hid (show w.heap.size + 1 < w1.heap.size from lt_block z1)
  have b4 : w1.cell? ⟨w.heap.size, 4, none⟩ = some (.int .i64 pos) := cell_of x1 (j := 4) rfl
  have r0 : w1.cell? ⟨w.heap.size + 1, 0, none⟩ = some (.int .i64 0) := cell_of z1 (j := 0) rfl
  have r1 : w1.cell? ⟨w.heap.size + 1, 1, none⟩ = some (.int .i64 0) := cell_of z1 (j := 1) rfl
  have g0 : w1.frozen? ⟨w.heap.size + 1, 0, none⟩ = false := frozen_of z1 0
  have g1 : w1.frozen? ⟨w.heap.size + 1, 1, none⟩ = false := frozen_of z1 1
  have hl1 := lt_block z1
  have hl0 := lt_block x1
  have HZ1 := Lib.hid z1
  clear hb1 z1 x1
  by_cases he : fe = 0
  · subst he
    have HN := Lib.hid (no_any (t' == t) 51 pos)
    go_wp2_with fail
    refine (HN.out _).mono ?_
    rintro e w2 ⟨rfl, hb2⟩
    replace HM := Lib.hid (HM.out.trans (if_neg (by simp)))
    generalize noC (t' == t) 51 pos = q at *
    obtain ⟨qe, qa⟩ := q
    unfold fltV
    dsimp only
    have z2 := (hb2.block _ (by rw [size_alloc]; exact Nat.lt_succ_of_lt hl1)).trans (old_heap _ _ (.cells #[.int .i64 0, .int .i64 fa] 58) _ HZ1.out)
    have r0' : w2.cell? ⟨w.heap.size + 1, 0, none⟩ = some (.int .i64 0) := cell_of z2 (j := 0) rfl
    have r1' : w2.cell? ⟨w.heap.size + 1, 1, none⟩ = some (.int .i64 0) := cell_of z2 (j := 1) rfl
    have g0' : w2.frozen? ⟨w.heap.size + 1, 0, none⟩ = false := frozen_of z2 0
    have g1' : w2.frozen? ⟨w.heap.size + 1, 1, none⟩ = false := frozen_of z2 1
    have HB2 := Lib.hid (up_trans (up_alloc HB1.out (.cells #[.int .i64 0, .int .i64 fa] 58)) hb2)
    clear hb2 z2 r0 r1 g0 g1 b4 hl1 hl0
    go_wp2_with fail
    refine bodyPost_ret (v := .agg #[.int .i64 qe, .int .i64 qa]) (by simp [results, Try.results64, go_sem, r0', r1']) rfl ⟨by rw [HM.out], ?_⟩
    exact (HB2.out.setCell (p := ⟨w.heap.size + 1, 0, none⟩) (Nat.le_succ _) _).setCell (p := ⟨w.heap.size + 1, 1, none⟩) (Nat.le_succ _) _
  · replace HM := Lib.hid (HM.out.trans (if_pos he))
    have y0 : (((w1.setCell ⟨w.heap.size + 1, 0, none⟩ (.int .i64 fe)).setCell ⟨w.heap.size + 1, 1, none⟩ (.int .i64 fa)).alloc (.cells #[.int .i64 fe, .int .i64 fa] 58)).cell? ⟨w.heap.size + 1, 0, none⟩ = some (.int .i64 fe) := old_cell _ ((cell_set_ne _ _ (.inr (by omega))).trans (cell_set_eq _ r0))
    have y1 : (((w1.setCell ⟨w.heap.size + 1, 0, none⟩ (.int .i64 fe)).setCell ⟨w.heap.size + 1, 1, none⟩ (.int .i64 fa)).alloc (.cells #[.int .i64 fe, .int .i64 fa] 58)).cell? ⟨w.heap.size + 1, 1, none⟩ = some (.int .i64 fa) := old_cell _ (cell_set_eq _ ((cell_set_ne _ _ (.inr (by omega))).trans r1))
    have YB := Lib.hid (And.intro y0 y1)
    clear y0 y1
    go_wp2_with fail
    obtain ⟨y0, y1⟩ := YB.out
    refine bodyPost_ret (v := .agg #[.int .i64 fe, .int .i64 fa]) (by simp [results, Try.results64, go_sem, y0, y1]) rfl ⟨by rw [HM.out], ?_⟩
    repeat (first | exact HB1.out | refine Below.setCell ?_ (Nat.le_succ _) _ | refine Below.alloc ?_ (by simp; exact HB1.out.size) _)
end
end Go.Proofs.Ytpiamiaigjlafaa
