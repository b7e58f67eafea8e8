/-
  Compile: part 16 of its proof: see the last text.
-/
import Derived.Test.YtjblihabklemfaaGreatDoorPm15
import Derived.Defers
import Derived.Recover
import Derived.Deep.LoopGhost
set_option maxRecDepth 100000
set_option maxHeartbeats 16000000
namespace Go.Proofs.YtjblihabklemfaaGreatDoor
section
section
open Go.RowKit
structure ResAt (w : World) (P E A : Nat) (v : Value) (e a : Int) : Prop where
 p : w.heap[P]? = some (.cells #[v] 42 (0, 0))
 e : w.heap[E]? = some (.cells #[.int .i64 e] 28 (0, 0))
 a : w.heap[A]? = some (.cells #[.int .i64 a] 3 (0, 0))
 ne : P ≠ E ∧ P ≠ A ∧ E ≠ A
def tu (w : World) (P E A : Nat) (v : Value) (e a : Int) : World := ((w.setCell ⟨P, 0, none⟩ v).setCell ⟨E, 0, none⟩ (.int .i64 e)).setCell ⟨A, 0, none⟩ (.int .i64 a)
theorem mc (P E A : Nat) (v : Value) (e0 a0 er pos : Int) (older : List PanicEntry) (w : World) (h : ResAt w P E A v e0 a0) :
    CallsD Tryz.prog 24 #[.pointer (some ⟨P, 0, none⟩), .pointer (some ⟨E, 0, none⟩), .pointer (some ⟨A, 0, none⟩)] (.panicking ({ v := .iface 84 (.agg #[.int .i64 er, .int .i64 pos]), recovered := false } :: older)) w fun e u' w' =>
     e = .returned (.tuple #[]) ∧ u' = .panicking ({ v := .iface 84 (.agg #[.int .i64 er, .int .i64 pos]), recovered := true } :: older) ∧ w' = ((tu w P E A (.slice none 0 0) er pos).alloc (.cells #[.int .i64 er, .int .i64 pos] 84)).drew := by
 refine callsD_of_wpS Tryz.func24 rfl fun c₀ cs hu => ?_
 apply wpS_seq
 apply wpS_region
 simp [wpOpsS, go_sem, recoverD, hu, Tryz.ntmps24, Exit.thenS]
 refine wpS_of_wp ?_
 simp only [Array.replicate_succ, Array.replicate_zero, List.push_toArray, List.setIfInBounds_toArray, List.set_cons_succ, List.set_cons_zero, List.append_toArray, List.cons_append, List.nil_append]
 have p0 : w.cell? ⟨P, 0, none⟩ = some v := aa h.p (j := 0) rfl
 have p1 : w.cell? ⟨E, 0, none⟩ = some (.int .i64 e0) := aa h.e (j := 0) rfl
 have p2 : w.cell? ⟨A, 0, none⟩ = some (.int .i64 a0) := aa h.a (j := 0) rfl
 have f0 : w.frozen? ⟨P, 0, none⟩ = false := ab h.p 0
 have f1 : w.frozen? ⟨E, 0, none⟩ = false := ab h.e 0
 have f2 : w.frozen? ⟨A, 0, none⟩ = false := ab h.a 0
 obtain ⟨n0, n1, n2⟩ := h.ne
 have l0 := ad h.p
 have l1 := ad h.e
 have l2 := ad h.a
 have HU := zh hu
 have hta : ∀ W : World, (Instr.typeAssert (.iface 84 (.agg #[.int .i64 er, .int .i64 pos])) 20 84 true).run Tryz.prog W = .ok (.tuple #[.agg #[.int .i64 er, .int .i64 pos], .bool true]) W := fun _ => by kernel_rfl
 clear h hu
 go_wp2_with fail
 go_region
 go_wp2_with fail
 refine ⟨rfl, _, rfl, .tuple #[], by simp [results, Tryz.results24, go_sem], rfl, rfl, ?_⟩
 rfl
theorem jE (P E A : Nat) (w : World) :
    CallsD Tryz.prog 24 #[.pointer (some ⟨P, 0, none⟩), .pointer (some ⟨E, 0, none⟩), .pointer (some ⟨A, 0, none⟩)] .returning w fun e u' w' => e = .returned (.tuple #[]) ∧ u' = .returning ∧ w' = w.alloc (.cells #[.int .i64 0, .int .i64 0] 84) := by
 refine callsD_of_wpS Tryz.func24 rfl fun c₀ cs hu => ?_
 apply wpS_seq
 apply wpS_region
 simp [wpOpsS, go_sem, recoverD, hu, Tryz.ntmps24, Exit.thenS]
 refine wpS_of_wp ?_
 simp only [Array.replicate_succ, Array.replicate_zero, List.push_toArray, List.setIfInBounds_toArray, List.set_cons_succ, List.set_cons_zero, List.append_toArray, List.cons_append, List.nil_append]
 have HU := zh hu
 have hta : ∀ W : World, (Instr.typeAssert .nilIface 20 84 true).run Tryz.prog W = .ok (.tuple #[.agg #[.int .i64 0, .int .i64 0], .bool false]) W := fun _ => by kernel_rfl
 have hne : ∀ W : World, (binOp .neq 20 .nilIface .nilIface).run Tryz.prog W = .ok (.bool false) W := fun _ => by kernel_rfl
 clear hu
 go_wp2_with fail
 have hu := HU.out
 cases c₀
 simp_all [bodyPostS, results, Tryz.results24]
theorem lx (s : List UInt8) : ∀ (f a : Nat) (out l : List Tk), out.length ≤ 2048 → io s f a out = .ok l → l.length ≤ 2048
 | 0, a, out, l, h, e => by
  have e' : out = l := by injection e
  rw [← e']; exact h
 | f + 1, a, out, l, h, e => by
  unfold io at e
  split at e
  ·split at e
   ·cases e
   ·split at e
    ·cases e
    ·exact lx s f _ _ l (by rw [List.length_append, List.length_singleton]; omega) e
  ·have e' : out = l := by injection e
   rw [← e']; exact h
theorem lZ {s : List UInt8} {l : List Tk} (h : fM s = .ok l) : l.length ≤ 2048 := by
 unfold fM at h
 split at h
 ·cases h
 ·exact lx s _ _ _ l (by simp) h
def RepFns (S : Nat → Prop) (w : World) (v : Value) (l : List Fn) : Prop := ∃ cs, RowOf S w v 5 l.length cs ∧ ∀ i, i < l.length → RepFn S w (cs i) (l.getD i default)
theorem RepFns.nil (S : Nat → Prop) (w : World) : RepFns S w (.slice none 0 0) [] := ⟨fun _ => [], RowOf.nil _ _ _ _, fun i hi => absurd hi (by simp)⟩
theorem RepFns.keep {S : Nat → Prop} {w w' : World} {v : Value} {l : List Fn} (h : RepFns S w v l) (hk : Stays S w w') : RepFns S w' v l := by
 obtain ⟨cs, h1, h2⟩ := h
 exact ⟨cs, h1.keep hk, fun i hi => (h2 i hi).keep hk⟩
theorem RepFns.mono {S S' : Nat → Prop} {w : World} {v : Value} {l : List Fn} (h : RepFns S w v l) (hb : ∀ b, S b → S' b) : RepFns S' w v l := by
 obtain ⟨cs, h1, h2⟩ := h
 exact ⟨cs, h1.mono hb, fun i hi => (h2 i hi).mono hb⟩
def iw (w : World) (r : Except (Int × Int) (List Fn)) (e : Ending) (w' : World) : Prop :=
 (match r with
  | .error (er, p) => er ≠ 0 ∧ e = .returned (.tuple #[.agg #[.slice none 0 0], .int .i64 er, .int .i64 p])
  | .ok l => ∃ v, e = .returned (.tuple #[.agg #[v], .int .i64 0, .int .i64 0]) ∧ RepFns (bA w.heap.size) w' v l) ∧ Below w.heap.size w w'
end
section
open Go.RowKit
def NoNil {α : Type} (p : Par α) : Prop := ∀ l er pos, p l = .error (er, pos) → er ≠ 0
theorem NoNil.bind {α β : Type} {p : Par α} {f : α → Par β} (h : NoNil p) (hf : ∀ x, NoNil (f x)) : NoNil (p.bind f) := fun l er pos e => by
 unfold Par.bind at e
 split at e
 ·rename_i e1 h1
  injection e with e
  subst e
  exact h _ _ _ h1
 ·exact hf _ _ _ _ e
theorem dD {α : Type} (x : α) : NoNil (okP x) := fun l er pos e => by cases e
theorem bU (en : Int) (s : ByteArray) : NoNil (aX en s) := fun l er pos e => by
 unfold aX at e
 split at e
 ·cases e
 ·cases e; decide
theorem p4 (en k : Int) : NoNil (dv en k) := fun l er pos e => by
 unfold dv at e
 split at e
 ·cases e; decide
 ·split at e
  ·cases e
  ·cases e; decide
theorem ia (en : Int) : NoNil (dN en) := (p4 en 1).bind fun _ => dD _
theorem pE (en : Int) : NoNil (ig en) := fun l er pos e => by
 unfold ig at e
 split at e
 ·cases e
 ·split at e
  ·cases e
  ·exact ((bU en fD).bind fun _ => dD _) _ _ _ e
theorem kK {α : Type} (en : Int) (one : Par α) (h : NoNil one) : ∀ (f : Nat) (first : Bool) (acc : List α), NoNil (dy en one f first acc)
 | 0, _, _ => fun l er pos e => by cases e; decide
 | f + 1, first, acc => fun l er pos e => by
  rw [fF] at e
  split at e
  ·cases e
  ·refine (NoNil.bind (p := if first then okP () else aX en eL) ?_ fun _ => h.bind fun x => kK en one h f false _) _ _ _ e
   split
   ·exact dD _
   ·exact bU _ _
theorem mU (en : Int) (n : Nat) (N : Par Ex) (h : NoNil N) : ∀ (f : Nat) (x : Ex), NoNil (dm en n N f x)
 | 0, x => dD _
 | f + 1, x => fun l er pos e => by
  unfold dm at e
  split at e
  ·cases e
  ·refine (h.bind fun y => ?_) _ _ _ e
   split
   ·exact dD _
   ·exact mU en n N h f _
theorem hZ (en : Int) (one : Par Ex) (h : NoNil one) : ∀ j, NoNil (cF en one j)
 | 0 => h
 | j + 1 => fun l er pos e => by
  unfold cF at e
  exact ((hZ en one h j).bind fun x => (fun r er pos e => mU en _ _ (hZ en one h j) _ _ _ _ _ e : NoNil _)) _ _ _ e
theorem gT (en : Int) (E : Par Ex) (h : NoNil E) : NoNil (dc en E) := (bU en bW).bind fun _ => h.bind fun _ => (bU en cj).bind fun _ => dD _
theorem kS (en : Int) (E : Par Ex) (h : NoNil E) : NoNil (fo en E) := fun l er pos e => by
 unfold fo at e
 split at e
 ·cases e
 split at e
 ·cases e
 split at e
 ·exact gT en E h _ _ _ e
 split at e
 ·exact ((gT en E h).bind fun _ => dD _) _ _ _ e
 split at e
 ·exact ((gT en E h).bind fun _ => dD _) _ _ _ e
 ·exact ((bU en qx).bind fun _ => (gT en E h).bind fun _ => dD _) _ _ _ e
theorem mw (en : Int) (E : Par Ex) (h : NoNil E) : NoNil (cU en E) := fun l er pos e => by
 unfold cU at e
 split at e
 ·exact kS en E h _ _ _ e
 split at e
 ·cases e
 split at e
 ·cases e
 split at e
 ·split at e
  ·exact ((kK en E h _ _ _).bind fun _ => dD _) _ _ _ e
  ·cases e
 ·exact kS en E h _ _ _ e
theorem kr (en : Int) : ∀ k, NoNil (ea en k)
 | 0 => fun l er pos e => by cases e; decide
 | k + 1 => fun l er pos e => by
  unfold ea at e
  split at e
  ·exact ((kr en k).bind fun _ => dD _) _ _ _ e
  split at e
  ·exact ((kr en k).bind fun _ => dD _) _ _ _ e
  ·exact mw en _ (hZ en _ (kr en k) 5) _ _ _ e
theorem qO (en : Int) (k : Nat) : NoNil (gj en k) := hZ en _ (kr en k) 5
theorem fp (en : Int) (s : St) : NoNil (fK en s) := (bU en dK).bind fun _ => dD _
theorem qC (en : Int) (E : Par Ex) (B : Par (List St)) (hE : NoNil E) (hB : NoNil B) : NoNil (gd en E B) := fun l er pos e => by
 unfold gd at e
 dsimp only at e
 split at e
 ·exact ((ia en).bind fun n => (bU en sEq).bind fun _ => hE.bind fun x => fp en _) _ _ _ e
 split at e
 ·refine (hE.bind fun x => hB.bind fun b => (fun l er pos e => ?_ : NoNil _)) _ _ _ e
  split at e
  ·exact (hB.bind fun e => dD _) _ _ _ e
  ·cases e
 split at e
 ·exact ((ia en).bind fun n => (bU en sEq).bind fun _ => hE.bind fun x => (bU en sTo).bind fun _ => hE.bind fun y => hB.bind fun b => dD _) _ _ _ e
 split at e
 ·split at e
  ·exact fp en _ _ _ _ e
  ·exact (hE.bind fun x => fp en _) _ _ _ e
 split at e
 ·exact ((bU en bW).bind fun _ => hE.bind fun x => (bU en eL).bind fun _ => hE.bind fun y => (bU en cj).bind fun _ => fp en _) _ _ _ e
 split at e
 ·exact ((bU en bW).bind fun _ => hE.bind fun x => (bU en cj).bind fun _ => fp en _) _ _ _ e
 split at e <;> split at e <;> first
  | exact ((ia en).bind fun n => (bU en sEq).bind fun _ => hE.bind fun x => fp en _) _ _ _ e
  | exact (hE.bind fun x => fp en _) _ _ _ e
theorem lw (en : Int) (P : Par St) (hP : NoNil P) : ∀ (f : Nat) (acc : List St), NoNil (dR en P f acc)
 | 0, acc => fun l er pos e => by cases e; decide
 | f + 1, acc => fun l er pos e => by
  rw [eB] at e
  split at e
  ·cases e
  ·exact (hP.bind fun s => lw en P hP f _) _ _ _ e
theorem jr (en : Int) : ∀ k, NoNil (da en k)
 | 0 => fun l er pos e => by
  unfold da at e
  split at e <;> (cases e; decide)
 | k + 1 => fun l er pos e => by
  unfold da at e
  exact ((bU en df).bind fun _ => (fun r er pos e => lw en _ (qC en _ _ (qO en k) (jr en k)) _ _ _ _ _ e : NoNil _)) _ _ _ e
theorem qi (en : Int) : NoNil (ew en) := fun l er pos e => by
 unfold ew at e
 refine ((bU en sFn).bind fun _ => (ia en).bind fun n => (bU en bW).bind fun _ => (fun r er pos e => ?_ : NoNil _)) _ _ _ e
 refine ((kK en _ ((ia en).bind fun n => (bU en gO).bind fun _ => (pE en).bind fun t => dD _) _ _ _).bind fun ps => (fun r er pos e => ?_ : NoNil _)) _ _ _ e
 split at e
 ·exact ((pE en).bind fun t => (jr en 32).bind fun b => dD _) _ _ _ e
 ·exact ((jr en 32).bind fun b => dD _) _ _ _ e
theorem nX (en : Int) (f : Nat) (acc : List Fn) : eD en f acc [] = .ok (acc, []) := by
 cases f <;> rfl
theorem rL (en : Int) (f : Nat) (acc : List Fn) (t : Tk) (r : List Tk) : eD en (f + 1) acc (t :: r) = ((ew en).bind fun x => eD en f (acc ++ [x])) (t :: r) := rfl
theorem iI (en : Int) : Strict (ew en) := fun l x r e => by
 unfold ew at e
 refine ((aS en sFn).bind fun _ => ((cZ en).bind fun n => ((aS en bW).bind fun _ => (fun l x r e => ?_ : Weak _)).weak).weak) _ _ _ e
 refine ((fP en _ (gZ en) _ _ _).bind fun ps => (fun l x r e => ?_ : Weak _)).weak _ _ _ e
 split at e
 ·rename_i h
  have := bj h
  have := ((jH en).bind fun t => (fA en 32).bind fun b => cC _) _ _ _ e
  omega
 ·exact ((fA en 32).bind fun b => cC _) _ _ _ e
theorem ly (s : List UInt8) : ∀ (f a : Nat) (out : List Tk) (er : Int) (p : Nat), io s f a out = .error (er, p) → er ≠ 0
 | 0, a, out, er, p, e => by cases e
 | f + 1, a, out, er, p, e => by
  unfold io at e
  split at e
  ·split at e
   ·rename_i h
    injection e with e
    injection e with e1 e2
    subst e1
    rcases j4 h with q | q <;> omega
   ·split at e
    ·cases e; decide
    ·exact ly s f _ _ er p e
  ·cases e
theorem oK {s : List UInt8} {er : Int} {p : Nat} (h : fM s = .error (er, p)) : er ≠ 0 := by
 unfold fM at h
 split at h
 ·cases h; decide
 ·exact ly s _ _ _ er p h
end
end
end Go.Proofs.YtjblihabklemfaaGreatDoor
