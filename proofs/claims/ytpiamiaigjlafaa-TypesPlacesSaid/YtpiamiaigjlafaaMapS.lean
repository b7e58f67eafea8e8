/-
  Maps with strings for keys, whatever their elements are.
-/
import Derived.Test.YtpiamiaigjlafaaTokP
import Derived.Test.YtpiamiaigjlafaaMem
import Derived.MapKept
namespace Go.Proofs.Ytpiamiaigjlafaa
open Go.RowKit Go.MapKept

def pairE (e : MapEntry) : Value × Value := (e.key, e.val)
def pairP (p : ByteArray × Value) : Value × Value := (.string p.1, p.2)
/-- a map lies in block r -/
def MapAt (w : World) (r : Nat) (m : List (ByteArray × Value)) : Prop := ∃ es clock, w.heap[r]? = some (.map es clock) ∧ es.toList.map pairE = m.map pairP
theorem MapAt.keep {w w' : World} {r : Nat} {m : List (ByteArray × Value)} (h : MapAt w r m) (hb : w'.heap[r]? = w.heap[r]?) : MapAt w' r m := by
  obtain ⟨es, c, h1, h2⟩ := h
  exact ⟨es, c, hb.trans h1, h2⟩
theorem MapAt.lt {w : World} {r : Nat} {m : List (ByteArray × Value)} (h : MapAt w r m) : r < w.heap.size := by
  obtain ⟨es, c, h1, _⟩ := h
  exact lt_block h1
theorem MapAt.below {w w' : World} {r : Nat} {m : List (ByteArray × Value)} (h : MapAt w r m) (hb : Below w.heap.size w w') : MapAt w' r m := h.keep (hb.block r h.lt)
theorem MapAt.made (w : World) {n : Nat} (h : w.heap.size = n) : MapAt (w.alloc (.map #[] 0)) n [] := ⟨#[], 0, new_heap _ _ _ h, rfl⟩
theorem find_look (k : ByteArray) (x : Value) : ∀ (l : List MapEntry) (m : List (ByteArray × Value)) (i : Nat), l.map pairE = m.map pairP →
    (lookL m k = none ∧ Instr.findNow .string (.string k) l i = some none ∧ putL m k x = m ++ [(k, x)]) ∨
    ∃ j v e, lookL m k = some v ∧ Instr.findNow .string (.string k) l i = some (some (i + j, v)) ∧ l[j]? = some e ∧ e.key = .string k ∧ (l.modify j fun e => { e with key := .string k, val := x }).map pairE = (putL m k x).map pairP
  | [], [], i, _ => .inl ⟨rfl, rfl, rfl⟩
  | [], _ :: _, _, h => by simp at h
  | _ :: _, [], _, h => by simp at h
  | e :: l, p :: m, i, h => by
    simp only [List.map_cons, List.cons.injEq] at h
    obtain ⟨h1, h2⟩ := h
    have hk : e.key = .string p.1 := congrArg Prod.fst h1
    have hv : e.val = p.2 := congrArg Prod.snd h1
    obtain ⟨rr, hs, hiff⟩ := sameNow_of_keys (d := .string) (a := .string k) (b := e.key) (by simp [IsKey]) (by rw [hk]; simp [IsKey])
    by_cases q : p.1 = k
    · refine .inr ⟨0, p.2, e, by simp [lookL, q], ?_, rfl, by rw [hk, q], ?_⟩
      · unfold Instr.findNow
        rw [hs, hiff.2 (by rw [hk, q])]
        simp [hv]
      · simp only [putL, if_pos q, List.modify_zero_cons, List.map_cons]
        rw [h2]
        simp [pairE, pairP, q]
    · obtain rfl : rr = false := by
        cases rr with
        | false => rfl
        | true => exact absurd (by have := hiff.1 rfl; rw [hk] at this; injection this with this; exact this.symm) q
      rcases find_look k x l m (i + 1) h2 with ⟨a1, a2, a3⟩ | ⟨j, v, e', a1, a2, a3, a4, a5⟩
      · refine .inl ⟨by simp [lookL, q, a1], ?_, by simp [putL, q, a3]⟩
        unfold Instr.findNow
        rw [hs]
        exact a2
      · refine .inr ⟨j + 1, v, e', by simp [lookL, q, a1], ?_, by simpa using a3, a4, ?_⟩
        · unfold Instr.findNow
          rw [hs]
          simp only [a2]
          rw [show i + 1 + j = i + (j + 1) by omega]
        · simp only [putL, if_neg q, List.modify_succ_cons, List.map_cons]
          rw [a5, h1]
section
variable {P : Program} {w : World} {r : Nat} {m : List (ByteArray × Value)} {mt kt et : TypeId}
theorem run_lookS (h : MapAt w r m) (hm : P.underlying mt = some (.map kt et)) (hk : P.underlying kt = some .string) {z : Value} (hz : (zeroValue et).run P w = .ok z w) (k : ByteArray) :
    (Instr.lookup mt (.map (some r)) (.string k) true).run P w = .ok (.tuple #[(lookL m k).getD z, .bool (lookL m k).isSome]) w := by
  obtain ⟨es, c, h1, h2⟩ := h
  rcases find_look k .nilIface es.toList m 0 h2 with ⟨a1, a2, _⟩ | ⟨j, v, e, a1, a2, _⟩
  · simp [Instr.lookup, run_underlying hm, Go.MapKept.run_getObj_map h1, run_checkKey hk (k := .string k) (by simp [IsKey]), run_findKey hk a2, hz, Result.andThen, a1]
  · simp [Instr.lookup, run_underlying hm, Go.MapKept.run_getObj_map h1, run_checkKey hk (k := .string k) (by simp [IsKey]), run_findKey hk a2, Result.andThen, a1]
/-- the world behind a store into a map -/
def putW (w : World) (r : Nat) (k : ByteArray) (x : Value) : World := match w.heap[r]? with
  | some (.map es c) => (match Instr.findNow .string (.string k) es.toList 0 with
    | some (some (i, _)) => { w with heap := w.heap.setIfInBounds r (.map (es.modify i fun e => { e with key := .string k, val := x }) c) }
    | _ => { w with heap := w.heap.setIfInBounds r (.map (es.push { key := .string k, val := x, born := c }) (c + 1)) })
  | _ => w
theorem putW_on (w : World) (r : Nat) (k : ByteArray) (x : Value) : On r w (putW w r k x) := by
  unfold putW
  split
  · rename_i es c h
    split
    · exact ⟨rfl, rfl, rfl, by simp, fun i hi hne => by
        have : i ≠ r := fun e => hne (by rw [e])
        simp [Array.getElem?_setIfInBounds_ne (Ne.symm this)]⟩
    · exact ⟨rfl, rfl, rfl, by simp, fun i hi hne => by
        have : i ≠ r := fun e => hne (by rw [e])
        simp [Array.getElem?_setIfInBounds_ne (Ne.symm this)]⟩
  · exact On.refl _ _
theorem putW_at (h : MapAt w r m) (k : ByteArray) (x : Value) : MapAt (putW w r k x) r (putL m k x) := by
  obtain ⟨es, c, h1, h2⟩ := h
  have hlt := lt_block h1
  unfold putW
  rw [h1]
  rcases find_look k x es.toList m 0 h2 with ⟨a1, a2, a3⟩ | ⟨j, v, e, a1, a2, a3, a4, a5⟩
  · simp only [a2]
    refine ⟨_, _, (heap_set h1).1, ?_⟩
    rw [a3]
    simp [h2, pairE, pairP]
  · simp only [a2, Nat.zero_add]
    refine ⟨_, _, (heap_set h1).1, ?_⟩
    rw [← a5]
    simp
theorem run_putS (h : MapAt w r m) (hm : P.underlying mt = some (.map kt et)) (hk : P.underlying kt = some .string) (k : ByteArray) (x : Value) :
    (Instr.mapUpdate mt (.map (some r)) (.string k) x).run P w = .ok () (putW w r k x) := by
  obtain ⟨es, c, h1, h2⟩ := h
  rcases find_look k x es.toList m 0 h2 with ⟨a1, a2, _⟩ | ⟨j, v, e, a1, a2, a3, a4, a5⟩
  · have e2 : putW w r k x = { w with heap := w.heap.setIfInBounds r (.map (es.push { key := .string k, val := x, born := c }) (c + 1)) } := by
      unfold putW
      rw [h1]
      simp only [a2]
    rw [e2]
    simp [Instr.mapUpdate, run_underlying hm, Go.MapKept.run_getObj_map h1, run_checkKey hk (k := .string k) (by simp [IsKey]), run_findKey hk a2, Result.andThen, Go.MapKept.run_setObj_map _ h1]
  · have e2 : putW w r k x = { w with heap := w.heap.setIfInBounds r (.map (es.modify j fun e => { e with key := .string k, val := x }) c) } := by
      unfold putW
      rw [h1]
      simp only [a2, Nat.zero_add]
    rw [Nat.zero_add] at a2
    rw [e2]
    have a3' : es[j]? = some e := by rw [← a3]; simp
    have hst : (Instr.keyThatStays (.string k) (.string k)).run P w = .ok (.string k) w := by
      unfold Instr.keyThatStays
      rw [if_pos (by simp [Instr.sameBits, bytes_beq])]
      simp
    simp [Instr.mapUpdate, run_underlying hm, Go.MapKept.run_getObj_map h1, run_checkKey hk (k := .string k) (by simp [IsKey]), run_findKey hk a2, Result.andThen, Go.MapKept.run_setObj_map _ h1, a3', a4, hst]
end
end Go.Proofs.Ytpiamiaigjlafaa
