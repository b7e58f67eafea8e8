/-
  What is done where Parse ends: a fault is caught.
  Parse: the program that a text is; or the error, and where.
-/
import Derived.Test.YtpiamiaigjlafaaParF
import Derived.Defers
import Derived.Recover
import Derived.Deep.LoopGhost
namespace Go.Proofs.Ytpiamiaigjlafaa

section
open Go.RowKit

/-- the three results, where they lie -/
structure ResAt (w : World) (P E A : Nat) (v : Value) (e a : Int) : Prop where
  p : w.heap[P]? = some (.cells #[v] 26 (0, 0))
  e : w.heap[E]? = some (.cells #[.int .i64 e] 27 (0, 0))
  a : w.heap[A]? = some (.cells #[.int .i64 a] 3 (0, 0))
  ne : P ≠ E ∧ P ≠ A ∧ E ≠ A
def set3 (w : World) (P E A : Nat) (v : Value) (e a : Int) : World := ((w.setCell ⟨P, 0, none⟩ v).setCell ⟨E, 0, none⟩ (.int .i64 e)).setCell ⟨A, 0, none⟩ (.int .i64 a)
set_option maxRecDepth 100000 in
set_option maxHeartbeats 4000000 in
theorem catch_fault (P E A : Nat) (v : Value) (e0 a0 er pos : Int) (older : List PanicEntry) (w : World) (h : ResAt w P E A v e0 a0) :
    CallsD Try.prog 19 #[.pointer (some ⟨P, 0, none⟩), .pointer (some ⟨E, 0, none⟩), .pointer (some ⟨A, 0, none⟩)] (.panicking ({ v := .iface 66 (.agg #[.int .i64 er, .int .i64 pos]), recovered := false } :: older)) w fun e u' w' =>
      e = .returned (.tuple #[]) ∧ u' = .panicking ({ v := .iface 66 (.agg #[.int .i64 er, .int .i64 pos]), recovered := true } :: older) ∧ w' = ((set3 w P E A (.slice none 0 0) er pos).alloc (.cells #[.int .i64 er, .int .i64 pos] 66)).drew := by
  refine callsD_of_wpS Try.func19 rfl fun c₀ cs hu => ?_
  apply wpS_seq
  apply wpS_region
  simp [wpOpsS, go_sem, recoverD, hu, Try.ntmps19, Exit.thenS]
  refine wpS_of_wp ?_
  simp only [Array.replicate_succ, Array.replicate_zero, List.push_toArray, List.setIfInBounds_toArray, List.set_cons_succ, List.set_cons_zero, List.append_toArray, List.cons_append, List.nil_append]
  have p0 : w.cell? ⟨P, 0, none⟩ = some v := cell_of h.p (j := 0) rfl
  have p1 : w.cell? ⟨E, 0, none⟩ = some (.int .i64 e0) := cell_of h.e (j := 0) rfl
  have p2 : w.cell? ⟨A, 0, none⟩ = some (.int .i64 a0) := cell_of h.a (j := 0) rfl
  have f0 : w.frozen? ⟨P, 0, none⟩ = false := frozen_of h.p 0
  have f1 : w.frozen? ⟨E, 0, none⟩ = false := frozen_of h.e 0
  have f2 : w.frozen? ⟨A, 0, none⟩ = false := frozen_of h.a 0
  obtain ⟨n0, n1, n2⟩ := h.ne
  have l0 := lt_block h.p
  have l1 := lt_block h.e
  have l2 := lt_block h.a
  have HU := Lib.hid hu
  have hta : ∀ W : World, (Instr.typeAssert (.iface 66 (.agg #[.int .i64 er, .int .i64 pos])) 20 66 true).run Try.prog W = .ok (.tuple #[.agg #[.int .i64 er, .int .i64 pos], .bool true]) W := fun _ => by kernel_rfl
  clear h hu
  go_wp2_with fail
  go_region
  go_wp2_with fail
  refine ⟨rfl, _, rfl, .tuple #[], by simp [results, Try.results19, go_sem], rfl, rfl, ?_⟩
  rfl
set_option maxRecDepth 100000 in
set_option maxHeartbeats 4000000 in
theorem catch_idle (P E A : Nat) (w : World) :
    CallsD Try.prog 19 #[.pointer (some ⟨P, 0, none⟩), .pointer (some ⟨E, 0, none⟩), .pointer (some ⟨A, 0, none⟩)] .returning w fun e u' w' => e = .returned (.tuple #[]) ∧ u' = .returning ∧ w' = w.alloc (.cells #[.int .i64 0, .int .i64 0] 66) := by
  refine callsD_of_wpS Try.func19 rfl fun c₀ cs hu => ?_
  apply wpS_seq
  apply wpS_region
  simp [wpOpsS, go_sem, recoverD, hu, Try.ntmps19, Exit.thenS]
  refine wpS_of_wp ?_
  simp only [Array.replicate_succ, Array.replicate_zero, List.push_toArray, List.setIfInBounds_toArray, List.set_cons_succ, List.set_cons_zero, List.append_toArray, List.cons_append, List.nil_append]
  have HU := Lib.hid hu
  have hta : ∀ W : World, (Instr.typeAssert .nilIface 20 66 true).run Try.prog W = .ok (.tuple #[.agg #[.int .i64 0, .int .i64 0], .bool false]) W := fun _ => by kernel_rfl
  have hne : ∀ W : World, (binOp .neq 20 .nilIface .nilIface).run Try.prog W = .ok (.bool false) W := fun _ => by kernel_rfl
  clear hu
  go_wp2_with fail
  have hu := HU.out
  cases c₀
  simp_all [bodyPostS, results, Try.results19]
theorem lexG_len (s : List UInt8) : ∀ (f a : Nat) (out l : List Tk), out.length ≤ 2048 → lexG s f a out = .ok l → l.length ≤ 2048
  | 0, a, out, l, h, e => by
    have e' : out = l := by injection e
    rw [← e']; exact h
  | f + 1, a, out, l, h, e => by
    unfold lexG at e
    split at e
    · split at e
      · cases e
      · split at e
        · cases e
        · exact lexG_len s f _ _ l (by rw [List.length_append, List.length_singleton]; omega) e
    · have e' : out = l := by injection e
      rw [← e']; exact h
theorem lexT_len {s : List UInt8} {l : List Tk} (h : lexT s = .ok l) : l.length ≤ 2048 := by
  unfold lexT at h
  split at h
  · cases h
  · exact lexG_len s _ _ _ l (by simp) h
/-- functions in a row -/
def RepFns (S : Nat → Prop) (w : World) (v : Value) (l : List Fn) : Prop := ∃ cs, RowOf S w v 5 l.length cs ∧ ∀ i, i < l.length → RepFn S w (cs i) (l.getD i default)
theorem RepFns.nil (S : Nat → Prop) (w : World) : RepFns S w (.slice none 0 0) [] := ⟨fun _ => [], RowOf.nil _ _ _ _, fun i hi => absurd hi (by simp)⟩
theorem RepFns.keep {S : Nat → Prop} {w w' : World} {v : Value} {l : List Fn} (h : RepFns S w v l) (hk : Stays S w w') : RepFns S w' v l := by
  obtain ⟨cs, h1, h2⟩ := h
  exact ⟨cs, h1.keep hk, fun i hi => (h2 i hi).keep hk⟩
theorem RepFns.mono {S S' : Nat → Prop} {w : World} {v : Value} {l : List Fn} (h : RepFns S w v l) (hb : ∀ b, S b → S' b) : RepFns S' w v l := by
  obtain ⟨cs, h1, h2⟩ := h
  exact ⟨cs, h1.mono hb, fun i hi => (h2 i hi).mono hb⟩
/-- what Parse says: where the functions lie, or the error -/
def ParseSays (w : World) (r : Except (Int × Int) (List Fn)) (e : Ending) (w' : World) : Prop :=
  (match r with
  | .error (er, p) => er ≠ 0 ∧ e = .returned (.tuple #[.agg #[.slice none 0 0], .int .i64 er, .int .i64 p])
  | .ok l => ∃ v, e = .returned (.tuple #[.agg #[v], .int .i64 0, .int .i64 0]) ∧ RepFns (From w.heap.size) w' v l) ∧ Below w.heap.size w w'
end

section
open Go.RowKit

/-! ### No error is none -/
def NoNil {α : Type} (p : Par α) : Prop := ∀ l er pos, p l = .error (er, pos) → er ≠ 0
theorem NoNil.bind {α β : Type} {p : Par α} {f : α → Par β} (h : NoNil p) (hf : ∀ x, NoNil (f x)) : NoNil (p.bind f) := fun l er pos e => by
  unfold Par.bind at e
  split at e
  · rename_i e1 h1
    injection e with e
    subst e
    exact h _ _ _ h1
  · exact hf _ _ _ _ e
theorem nn_ok {α : Type} (x : α) : NoNil (okP x) := fun l er pos e => by cases e
theorem nn_must (en : Int) (s : ByteArray) : NoNil (mustP en s) := fun l er pos e => by
  unfold mustP at e
  split at e
  · cases e
  · cases e; decide
theorem nn_kind (en k : Int) : NoNil (kindP en k) := fun l er pos e => by
  unfold kindP at e
  split at e
  · cases e; decide
  · split at e
    · cases e
    · cases e; decide
theorem nn_name (en : Int) : NoNil (nameP en) := (nn_kind en 1).bind fun _ => nn_ok _
theorem nn_typ (en : Int) : NoNil (typP en) := fun l er pos e => by
  unfold typP at e
  split at e
  · cases e
  · split at e
    · cases e
    · exact ((nn_must en sBytes).bind fun _ => nn_ok _) _ _ _ e
theorem nn_list {α : Type} (en : Int) (one : Par α) (h : NoNil one) : ∀ (f : Nat) (first : Bool) (acc : List α), NoNil (listP en one f first acc)
  | 0, _, _ => fun l er pos e => by cases e; decide
  | f + 1, first, acc => fun l er pos e => by
    rw [listP_succ] at e
    split at e
    · cases e
    · refine (NoNil.bind (p := if first then okP () else mustP en sComma) ?_ fun _ => h.bind fun x => nn_list en one h f false _) _ _ _ e
      split
      · exact nn_ok _
      · exact nn_must _ _
theorem nn_loop (en : Int) (n : Nat) (N : Par Ex) (h : NoNil N) : ∀ (f : Nat) (x : Ex), NoNil (loopP en n N f x)
  | 0, x => nn_ok _
  | f + 1, x => fun l er pos e => by
    unfold loopP at e
    split at e
    · cases e
    · refine (h.bind fun y => ?_) _ _ _ e
      split
      · exact nn_ok _
      · exact nn_loop en n N h f _
theorem nn_level (en : Int) (one : Par Ex) (h : NoNil one) : ∀ j, NoNil (levelP en one j)
  | 0 => h
  | j + 1 => fun l er pos e => by
    unfold levelP at e
    exact ((nn_level en one h j).bind fun x => (fun r er pos e => nn_loop en _ _ (nn_level en one h j) _ _ _ _ _ e : NoNil _)) _ _ _ e
theorem nn_inner (en : Int) (E : Par Ex) (h : NoNil E) : NoNil (innerP en E) := (nn_must en sOpen).bind fun _ => h.bind fun _ => (nn_must en sClose).bind fun _ => nn_ok _
theorem nn_words (en : Int) (E : Par Ex) (h : NoNil E) : NoNil (wordsP en E) := fun l er pos e => by
  unfold wordsP at e
  split at e
  · cases e
  split at e
  · cases e
  split at e
  · exact nn_inner en E h _ _ _ e
  split at e
  · exact ((nn_inner en E h).bind fun _ => nn_ok _) _ _ _ e
  split at e
  · exact ((nn_inner en E h).bind fun _ => nn_ok _) _ _ _ e
  · exact ((nn_must en sLen).bind fun _ => (nn_inner en E h).bind fun _ => nn_ok _) _ _ _ e
theorem nn_primary (en : Int) (E : Par Ex) (h : NoNil E) : NoNil (primaryP en E) := fun l er pos e => by
  unfold primaryP at e
  split at e
  · exact nn_words en E h _ _ _ e
  split at e
  · cases e
  split at e
  · cases e
  split at e
  · split at e
    · exact ((nn_list en E h _ _ _).bind fun _ => nn_ok _) _ _ _ e
    · cases e
  · exact nn_words en E h _ _ _ e
theorem nn_one (en : Int) : ∀ k, NoNil (oneP en k)
  | 0 => fun l er pos e => by cases e; decide
  | k + 1 => fun l er pos e => by
    unfold oneP at e
    split at e
    · exact ((nn_one en k).bind fun _ => nn_ok _) _ _ _ e
    split at e
    · exact ((nn_one en k).bind fun _ => nn_ok _) _ _ _ e
    · exact nn_primary en _ (nn_level en _ (nn_one en k) 5) _ _ _ e
theorem nn_expr (en : Int) (k : Nat) : NoNil (exprP en k) := nn_level en _ (nn_one en k) 5
theorem nn_semi (en : Int) (s : St) : NoNil (semiP en s) := (nn_must en sSemi).bind fun _ => nn_ok _
theorem nn_stmt (en : Int) (E : Par Ex) (B : Par (List St)) (hE : NoNil E) (hB : NoNil B) : NoNil (stmtP en E B) := fun l er pos e => by
  unfold stmtP at e
  dsimp only at e
  split at e
  · exact ((nn_name en).bind fun n => (nn_must en sEq).bind fun _ => hE.bind fun x => nn_semi en _) _ _ _ e
  split at e
  · refine (hE.bind fun x => hB.bind fun b => (fun l er pos e => ?_ : NoNil _)) _ _ _ e
    split at e
    · exact (hB.bind fun e => nn_ok _) _ _ _ e
    · cases e
  split at e
  · exact ((nn_name en).bind fun n => (nn_must en sEq).bind fun _ => hE.bind fun x => (nn_must en sTo).bind fun _ => hE.bind fun y => hB.bind fun b => nn_ok _) _ _ _ e
  split at e
  · split at e
    · exact nn_semi en _ _ _ _ e
    · exact (hE.bind fun x => nn_semi en _) _ _ _ e
  split at e
  · exact ((nn_must en sOpen).bind fun _ => hE.bind fun x => (nn_must en sComma).bind fun _ => hE.bind fun y => (nn_must en sClose).bind fun _ => nn_semi en _) _ _ _ e
  split at e
  · exact ((nn_must en sOpen).bind fun _ => hE.bind fun x => (nn_must en sClose).bind fun _ => nn_semi en _) _ _ _ e
  split at e <;> split at e <;> first
    | exact ((nn_name en).bind fun n => (nn_must en sEq).bind fun _ => hE.bind fun x => nn_semi en _) _ _ _ e
    | exact (hE.bind fun x => nn_semi en _) _ _ _ e
theorem nn_stmts (en : Int) (P : Par St) (hP : NoNil P) : ∀ (f : Nat) (acc : List St), NoNil (stmtsP en P f acc)
  | 0, acc => fun l er pos e => by cases e; decide
  | f + 1, acc => fun l er pos e => by
    rw [stmtsP_succ] at e
    split at e
    · cases e
    · exact (hP.bind fun s => nn_stmts en P hP f _) _ _ _ e
theorem nn_block (en : Int) : ∀ k, NoNil (blockP en k)
  | 0 => fun l er pos e => by
    unfold blockP at e
    split at e <;> (cases e; decide)
  | k + 1 => fun l er pos e => by
    unfold blockP at e
    exact ((nn_must en sBegin).bind fun _ => (fun r er pos e => nn_stmts en _ (nn_stmt en _ _ (nn_expr en k) (nn_block en k)) _ _ _ _ _ e : NoNil _)) _ _ _ e
theorem nn_func (en : Int) : NoNil (funcP en) := fun l er pos e => by
  unfold funcP at e
  refine ((nn_must en sFn).bind fun _ => (nn_name en).bind fun n => (nn_must en sOpen).bind fun _ => (fun r er pos e => ?_ : NoNil _)) _ _ _ e
  refine ((nn_list en _ ((nn_name en).bind fun n => (nn_must en sColon).bind fun _ => (nn_typ en).bind fun t => nn_ok _) _ _ _).bind fun ps => (fun r er pos e => ?_ : NoNil _)) _ _ _ e
  split at e
  · exact ((nn_typ en).bind fun t => (nn_block en 32).bind fun b => nn_ok _) _ _ _ e
  · exact ((nn_block en 32).bind fun b => nn_ok _) _ _ _ e
theorem progP_nil (en : Int) (f : Nat) (acc : List Fn) : progP en f acc [] = .ok (acc, []) := by
  cases f <;> rfl
theorem progP_cons (en : Int) (f : Nat) (acc : List Fn) (t : Tk) (r : List Tk) : progP en (f + 1) acc (t :: r) = ((funcP en).bind fun x => progP en f (acc ++ [x])) (t :: r) := rfl
theorem strict_func (en : Int) : Strict (funcP en) := fun l x r e => by
  unfold funcP at e
  refine ((strict_must en sFn).bind fun _ => ((strict_name en).bind fun n => ((strict_must en sOpen).bind fun _ => (fun l x r e => ?_ : Weak _)).weak).weak) _ _ _ e
  refine ((strict_list en _ (strict_param en) _ _ _).bind fun ps => (fun l x r e => ?_ : Weak _)).weak _ _ _ e
  split at e
  · rename_i h
    have := tail_lt h
    have := ((strict_typ en).bind fun t => (weak_block en 32).bind fun b => weak_ok _) _ _ _ e
    omega
  · exact ((weak_block en 32).bind fun b => weak_ok _) _ _ _ e
theorem lexG_err (s : List UInt8) : ∀ (f a : Nat) (out : List Tk) (er : Int) (p : Nat), lexG s f a out = .error (er, p) → er ≠ 0
  | 0, a, out, er, p, e => by cases e
  | f + 1, a, out, er, p, e => by
    unfold lexG at e
    split at e
    · split at e
      · rename_i h
        injection e with e
        injection e with e1 e2
        subst e1
        rcases nextT_err h with q | q <;> omega
      · split at e
        · cases e; decide
        · exact lexG_err s f _ _ er p e
    · cases e
theorem lexT_err {s : List UInt8} {er : Int} {p : Nat} (h : lexT s = .error (er, p)) : er ≠ 0 := by
  unfold lexT at h
  split at h
  · cases h; decide
  · exact lexG_err s _ _ _ er p h
end
end Go.Proofs.Ytpiamiaigjlafaa
