/-
  Compile: part 22 of its proof: see the last text.
-/
import Derived.Test.YtjblihabklemfaaGreatDoorPm01
import Derived.Test.YtjblihabklemfaaGreatDoorPm00
import Derived.MapKept
import Derived.Test.YtjblihabklemfaaGreatDoorPm18
import Derived.Test.YtjblihabklemfaaGreatDoorPm07
import Derived.Lib.ConvBytes
set_option maxRecDepth 100000
set_option maxHeartbeats 16000000
namespace Go.Proofs.YtjblihabklemfaaGreatDoor
section
open Go.RowKit Go.MapKept
def lu (e : MapEntry) : Value × Value := (e.key, e.val)
def lK (p : ByteArray × Value) : Value × Value := (.string p.1, p.2)
def MapAt (w : World) (r : Nat) (m : List (ByteArray × Value)) : Prop := ∃ es clock, w.heap[r]? = some (.map es clock) ∧ es.toList.map lu = m.map lK
theorem MapAt.keep {w w' : World} {r : Nat} {m : List (ByteArray × Value)} (h : MapAt w r m) (hb : w'.heap[r]? = w.heap[r]?) : MapAt w' r m := by
 obtain ⟨es, c, h1, h2⟩ := h
 exact ⟨es, c, hb.trans h1, h2⟩
theorem MapAt.lt {w : World} {r : Nat} {m : List (ByteArray × Value)} (h : MapAt w r m) : r < w.heap.size := by
 obtain ⟨es, c, h1, _⟩ := h
 exact ad h1
theorem MapAt.below {w w' : World} {r : Nat} {m : List (ByteArray × Value)} (h : MapAt w r m) (hb : Below w.heap.size w w') : MapAt w' r m := h.keep (hb.block r h.lt)
theorem MapAt.made (w : World) {n : Nat} (h : w.heap.size = n) : MapAt (w.alloc (.map #[] 0)) n [] := ⟨#[], 0, ah _ _ _ h, rfl⟩
theorem eV (k : ByteArray) (x : Value) : ∀ (l : List MapEntry) (m : List (ByteArray × Value)) (i : Nat), l.map lu = m.map lK →
    (aF m k = none ∧ Instr.findNow .string (.string k) l i = some none ∧ bJ m k x = m ++ [(k, x)]) ∨
    ∃ j v e, aF m k = some v ∧ Instr.findNow .string (.string k) l i = some (some (i + j, v)) ∧ l[j]? = some e ∧ e.key = .string k ∧ (l.modify j fun e => { e with key := .string k, val := x }).map lu = (bJ m k x).map lK
 | [], [], i, _ => .inl ⟨rfl, rfl, rfl⟩
 | [], _ :: _, _, h => by simp at h
 | _ :: _, [], _, h => by simp at h
 | e :: l, p :: m, i, h => by
  simp only [List.map_cons, List.cons.injEq] at h
  obtain ⟨h1, h2⟩ := h
  have hk : e.key = .string p.1 := congrArg Prod.fst h1
  have hv : e.val = p.2 := congrArg Prod.snd h1
  obtain ⟨rr, hs, hiff⟩ := sameNow_of_keys (d := .string) (a := .string k) (b := e.key) (by simp [IsKey]) (by rw [hk]; simp [IsKey])
  by_cases q : p.1 = k
  ·refine .inr ⟨0, p.2, e, by simp [aF, q], ?_, rfl, by rw [hk, q], ?_⟩
   ·unfold Instr.findNow
    rw [hs, hiff.2 (by rw [hk, q])]
    simp [hv]
   ·simp only [bJ, if_pos q, List.modify_zero_cons, List.map_cons]
    rw [h2]
    simp [lu, lK, q]
  ·obtain rfl : rr = false := by
     cases rr with
     | false => rfl
     | true => exact absurd (by have := hiff.1 rfl; rw [hk] at this; injection this with this; exact this.symm) q
   rcases eV k x l m (i + 1) h2 with ⟨a1, a2, a3⟩ | ⟨j, v, e', a1, a2, a3, a4, a5⟩
   ·refine .inl ⟨by simp [aF, q, a1], ?_, by simp [bJ, q, a3]⟩
    unfold Instr.findNow
    rw [hs]
    exact a2
   ·refine .inr ⟨j + 1, v, e', by simp [aF, q, a1], ?_, by simpa using a3, a4, ?_⟩
    ·unfold Instr.findNow
     rw [hs]
     simp only [a2]
     rw [show i + 1 + j = i + (j + 1) by omega]
    ·simp only [bJ, if_neg q, List.modify_succ_cons, List.map_cons]
     rw [a5, h1]
section
variable {P : Program} {w : World} {r : Nat} {m : List (ByteArray × Value)} {mt kt et : TypeId}
theorem dY (h : MapAt w r m) (hm : P.underlying mt = some (.map kt et)) (hk : P.underlying kt = some .string) {z : Value} (hz : (zeroValue et).run P w = .ok z w) (k : ByteArray) :
    (Instr.lookup mt (.map (some r)) (.string k) true).run P w = .ok (.tuple #[(aF m k).getD z, .bool (aF m k).isSome]) w := by
 obtain ⟨es, c, h1, h2⟩ := h
 rcases eV k .nilIface es.toList m 0 h2 with ⟨a1, a2, _⟩ | ⟨j, v, e, a1, a2, _⟩
 ·simp [Instr.lookup, run_underlying hm, Go.MapKept.run_getObj_map h1, run_checkKey hk (k := .string k) (by simp [IsKey]), run_findKey hk a2, hz, Result.andThen, a1]
 ·simp [Instr.lookup, run_underlying hm, Go.MapKept.run_getObj_map h1, run_checkKey hk (k := .string k) (by simp [IsKey]), run_findKey hk a2, Result.andThen, a1]
def eM (w : World) (r : Nat) (k : ByteArray) (x : Value) : World := match w.heap[r]? with
 | some (.map es c) => (match Instr.findNow .string (.string k) es.toList 0 with
   | some (some (i, _)) => { w with heap := w.heap.setIfInBounds r (.map (es.modify i fun e => { e with key := .string k, val := x }) c) }
   | _ => { w with heap := w.heap.setIfInBounds r (.map (es.push { key := .string k, val := x, born := c }) (c + 1)) })
 | _ => w
theorem gU (w : World) (r : Nat) (k : ByteArray) (x : Value) : On r w (eM w r k x) := by
 unfold eM
 split
 ·rename_i es c h
  split
  ·exact ⟨rfl, rfl, rfl, by simp, fun i hi hne => by
     have : i ≠ r := fun e => hne (by rw [e])
     simp [Array.getElem?_setIfInBounds_ne (Ne.symm this)]⟩
  ·exact ⟨rfl, rfl, rfl, by simp, fun i hi hne => by
     have : i ≠ r := fun e => hne (by rw [e])
     simp [Array.getElem?_setIfInBounds_ne (Ne.symm this)]⟩
 ·exact On.refl _ _
theorem i5 (h : MapAt w r m) (k : ByteArray) (x : Value) : MapAt (eM w r k x) r (bJ m k x) := by
 obtain ⟨es, c, h1, h2⟩ := h
 have hlt := ad h1
 unfold eM
 rw [h1]
 rcases eV k x es.toList m 0 h2 with ⟨a1, a2, a3⟩ | ⟨j, v, e, a1, a2, a3, a4, a5⟩
 ·simp only [a2]
  refine ⟨_, _, (heap_set h1).1, ?_⟩
  rw [a3]
  simp [h2, lu, lK]
 ·simp only [a2, Nat.zero_add]
  refine ⟨_, _, (heap_set h1).1, ?_⟩
  rw [← a5]
  simp
theorem fO (h : MapAt w r m) (hm : P.underlying mt = some (.map kt et)) (hk : P.underlying kt = some .string) (k : ByteArray) (x : Value) :
    (Instr.mapUpdate mt (.map (some r)) (.string k) x).run P w = .ok () (eM w r k x) := by
 obtain ⟨es, c, h1, h2⟩ := h
 rcases eV k x es.toList m 0 h2 with ⟨a1, a2, _⟩ | ⟨j, v, e, a1, a2, a3, a4, a5⟩
 ·have e2 : eM w r k x = { w with heap := w.heap.setIfInBounds r (.map (es.push { key := .string k, val := x, born := c }) (c + 1)) } := by
    unfold eM
    rw [h1]
    simp only [a2]
  rw [e2]
  simp [Instr.mapUpdate, run_underlying hm, Go.MapKept.run_getObj_map h1, run_checkKey hk (k := .string k) (by simp [IsKey]), run_findKey hk a2, Result.andThen, Go.MapKept.run_setObj_map _ h1]
 ·have e2 : eM w r k x = { w with heap := w.heap.setIfInBounds r (.map (es.modify j fun e => { e with key := .string k, val := x }) c) } := by
    unfold eM
    rw [h1]
    simp only [a2, Nat.zero_add]
  rw [Nat.zero_add] at a2
  rw [e2]
  have a3' : es[j]? = some e := by rw [← a3]; simp
  have hst : (Instr.keyThatStays (.string k) (.string k)).run P w = .ok (.string k) w := by
   unfold Instr.keyThatStays
   rw [if_pos (by simp [Instr.sameBits, bytes_beq])]
   simp
  simp [Instr.mapUpdate, run_underlying hm, Go.MapKept.run_getObj_map h1, run_checkKey hk (k := .string k) (by simp [IsKey]), run_findKey hk a2, Result.andThen, Go.MapKept.run_setObj_map _ h1, a3', a4, hst]
end
end
section
open Go.RowKit
def OfTy (w : World) (b : Nat) (t : TypeId) : Prop := ∃ a fz, w.heap[b]? = some (.cells a t fz)
theorem OfTy.ne {w : World} {a b : Nat} {s t : TypeId} (h : OfTy w a s) (g : OfTy w b t) (hst : s ≠ t) : a ≠ b := fun e => by
 subst e
 obtain ⟨x, y, h⟩ := h
 obtain ⟨z, u, g⟩ := g
 rw [h] at g
 injection g with g
 injection g with _ g
 exact hst g
theorem OfTy.lt {w : World} {b : Nat} {t : TypeId} (h : OfTy w b t) : b < w.heap.size := by
 obtain ⟨_, _, h⟩ := h
 exact ad h
theorem OfTy.keep {w w' : World} {b : Nat} {t : TypeId} (h : OfTy w b t) (hb : w'.heap[b]? = w.heap[b]?) : OfTy w' b t := by
 obtain ⟨x, y, h⟩ := h
 exact ⟨x, y, hb.trans h⟩
theorem aZ {w : World} {base e size n : Nat} {v : Value} {xs : List Value} (h : w.ownsRow base e size v n xs) {k : Nat} (hk : v.ownBlock = some k) : OfTy w k e := by
 rcases h.2 with ⟨rfl, _⟩ | ⟨g, cap, cur, rfl, _, hg, _⟩
 ·cases hk
 ·injection hk with hk
  subst hk
  exact ⟨_, _, hg⟩
theorem ba {w w' : World} {base e size n : Nat} {v : Value} {xs : List Value} (h : w.ownsRow base e size v n xs) (hk : ∀ k, v.ownBlock = some k → w'.heap[k]? = w.heap[k]?) : w'.ownsRow base e size v n xs := by
 refine ⟨h.1, ?_⟩
 rcases h.2 with hn | ⟨g, cap, cur, rfl, hb, hgg, rest⟩
 ·exact .inl hn
 ·exact .inr ⟨g, cap, cur, rfl, hb, (hk g rfl).trans hgg, rest⟩
def Turns (B M NB : Nat) (w : World) (k : Nat) : Prop := B ≤ k ∧ (k = NB ∨ OfTy w k 73 ∨ OfTy w k 70 ∨ (OfTy w k 38 ∧ M ≤ k) ∨ OfTy w k 22)
def Fx (B M NB : Nat) (w w' : World) : Prop := OnS (Turns B M NB w) w w'
section
variable {B M NB : Nat} {a b c w w' : World}
theorem Turns.back (h : Fx B M NB a b) {k : Nat} (hk : Turns B M NB b k) : Turns B M NB a k ∨ a.heap.size ≤ k := by
 by_cases hl : a.heap.size ≤ k
 ·exact .inr hl
 ·by_cases ht : Turns B M NB a k
  ·exact .inl ht
  ·have e := h.block k (by omega) ht
   exact .inl ⟨hk.1, hk.2.imp id (fun q => q.imp (fun q => q.keep e.symm) (fun q => q.imp (fun q => q.keep e.symm) (fun q => q.imp (fun q => ⟨q.1.keep e.symm, q.2⟩) (fun q => q.keep e.symm))))⟩
theorem Fx.refl (B M NB : Nat) (w : World) : Fx B M NB w w := OnS.refl _ _
theorem Fx.trans (h : Fx B M NB a b) (g : Fx B M NB b c) : Fx B M NB a c := OnS.new h g fun _ hk => Turns.back h hk
theorem Fx.of_below (h : Below w.heap.size w w') : Fx B M NB w w' := OnS.of_below h
theorem Fx.below (h : Fx B M NB w w') (hB : B ≤ w.heap.size) : Below B w w' := ⟨h.os, h.tape, h.output, h.size, fun i hi => h.block i (by omega) (fun q => by have := q.1; omega)⟩
theorem Fx.set (h : Fx B M NB a b) {k : Nat} (hk : Turns B M NB b k) (j : Nat) (u : Value) : Fx B M NB a (b.setCell ⟨k, j, none⟩ u) := h.trans (OnS.set (OnS.refl _ _) hk j u)
theorem Fx.alloc (h : Fx B M NB a b) (o : Obj) : Fx B M NB a (b.alloc o) := h.trans (Fx.of_below (ae (Below.refl _ _) o))
theorem Fx.drew (h : Fx B M NB a b) : Fx B M NB a b.drew := ⟨h.os, h.tape, h.output, h.size, h.block⟩
theorem Fx.obj (h : Fx B M NB w w') {k : Nat} {arr : Array Value} {t : TypeId} {fz : Nat × Nat} (ho : w.heap[k]? = some (.cells arr t fz)) (hn : k ≠ NB) (h1 : t ≠ 73) (h2 : t ≠ 70) (h3 : t ≠ 38) (h4 : t ≠ 22) : w'.heap[k]? = some (.cells arr t fz) :=
 OnS.obj h (fun q => by
   have ht : OfTy w k t := ⟨_, _, ho⟩
   rcases q.2 with q | q | q | q | q
   · exact hn q
   · exact ht.ne q h1 rfl
   · exact ht.ne q h2 rfl
   · exact ht.ne q.1 h3 rfl
   · exact ht.ne q h4 rfl) ho
theorem Fx.ins (h : Fx B M NB w w') {k : Nat} {arr : Array Value} {fz : Nat × Nat} (ho : w.heap[k]? = some (.cells arr 38 fz)) (hn : k ≠ NB) (hk : k < M) : w'.heap[k]? = some (.cells arr 38 fz) :=
 OnS.obj h (fun q => by
   have ht : OfTy w k 38 := ⟨_, _, ho⟩
   rcases q.2 with q | q | q | q | q
   · exact hn q
   · exact ht.ne q (by decide) rfl
   · exact ht.ne q (by decide) rfl
   · have := q.2; omega
   · exact ht.ne q (by decide) rfl) ho
theorem Fx.map (h : Fx B M NB w w') {k : Nat} {es : Array MapEntry} {cl : Nat} (ho : w.heap[k]? = some (.map es cl)) (hn : k ≠ NB) : w'.heap[k]? = some (.map es cl) :=
 OnS.obj h (fun q => by
   rcases q.2 with q | ⟨_, _, q⟩ | ⟨_, _, q⟩ | ⟨⟨_, _, q⟩, _⟩ | ⟨_, _, q⟩
   · exact hn q
   all_goals rw [ho] at q; injection q with q; cases q) ho
theorem MapAt.fx (h : Fx B M NB w w') {k : Nat} {m : List (ByteArray × Value)} (hm : MapAt w k m) (hn : k ≠ NB) : MapAt w' k m := by
 obtain ⟨es, cl, h1, h2⟩ := hm
 exact ⟨es, cl, h.map h1 hn, h2⟩
end
def dU (l : List Ins) : List Value := l.flatMap fun i => [.int .i64 i.op, .int .i64 i.a]
theorem sH (l : List Ins) : (dU l).length = l.length * 2 := by
 induction l with
 | nil => rfl
 | cons i l ih => rw [show dU (i :: l) = [.int .i64 i.op, .int .i64 i.a] ++ dU l from rfl, List.length_append, ih, List.length_cons]; simp; omega
theorem oh (l : List Ins) (i : Ins) : dU (l ++ [i]) = dU l ++ [.int .i64 i.op, .int .i64 i.a] := by simp [dU]
theorem i3 : ∀ (l : List Ins) (i : Nat), i < l.length → (dU l)[i * 2]? = some (.int .i64 (l.getD i default).op) ∧ (dU l)[i * 2 + 1]? = some (.int .i64 (l.getD i default).a)
 | x :: l, 0, _ => ⟨rfl, rfl⟩
 | x :: l, i + 1, h => by
  have q := i3 l i (by simpa using h)
  rw [show dU (x :: l) = [.int .i64 x.op, .int .i64 x.a] ++ dU l from rfl]
  refine ⟨?_, ?_⟩
  ·rw [List.getElem?_append_right (by simp; omega), show (i + 1) * 2 - [Value.int .i64 x.op, Value.int .i64 x.a].length = i * 2 by simp; omega]
   exact q.1
  ·rw [List.getElem?_append_right (by simp; omega), show (i + 1) * 2 + 1 - [Value.int .i64 x.op, Value.int .i64 x.a].length = i * 2 + 1 by simp; omega]
   exact q.2
theorem lg : ∀ (l : List Ins) (i : Nat) (n : Int), i < l.length → (dU l).set (i * 2 + 1) (.int .i64 n) = dU (l.set i ⟨(l.getD i default).op, n⟩)
 | x :: l, 0, n, _ => rfl
 | x :: l, i + 1, n, h => by
  have q := lg l i n (by simpa using h)
  rw [show dU (x :: l) = .int .i64 x.op :: .int .i64 x.a :: dU l from rfl, show (i + 1) * 2 + 1 = (i * 2 + 1) + 1 + 1 by omega, List.set_cons_succ, List.set_cons_succ, q]
  rfl
def ByAt (B : Nat) (w : World) (v : Value) (t : ByteArray) : Prop :=
 ∃ b cap, v = .slice (some ⟨b, 0, none⟩) t.size cap ∧ (t.size ≤ cap ∧ (t.size ≤ maxLen → cap ≤ maxLen)) ∧ B ≤ b ∧ OfTy w b 5 ∧ ∀ i, i < t.size → w.cell? ⟨b, i, none⟩ = some (.int .u8 (t.data.toList.getD i 0).toNat)
theorem ByAt.fx {B M NB : Nat} {w w' : World} {v : Value} {t : ByteArray} (h : ByAt B w v t) (hf : Fx B M NB w w') (hn : ∀ t, ¬ OfTy w NB t) : ByAt B w' v t := by
 obtain ⟨b, cap, h1, h2, h3, ⟨arr, fz, h4⟩, h5⟩ := h
 have hb : b ≠ NB := fun e => hn _ ⟨arr, fz, e ▸ h4⟩
 have h6 := hf.obj h4 hb (by decide) (by decide) (by decide) (by decide)
 refine ⟨b, cap, h1, h2, h3, ⟨arr, fz, h6⟩, fun i hi => ?_⟩
 rw [World.cell?_of_block (w := w) (h6.trans h4.symm)]
 exact h5 i hi
def fL : Nat → List ByteArray → List (ByteArray × Value)
 | _, [] => []
 | n, t :: l => (t, .int .i64 (n : Int)) :: fL (n + 1) l
theorem jp : ∀ (l : List ByteArray) (n : Nat) (t : ByteArray), aF (fL n l) t = if jQ l t then some (.int .i64 ((n + d7 l t : Nat) : Int)) else none
 | [], _, _ => rfl
 | x :: l, n, t => by
  rw [fL, aF, d7, jQ]
  by_cases h : x = t
  ·rw [if_pos h, if_pos h, if_pos h]; rfl
  ·rw [if_neg h, if_neg h, if_neg h, jp l (n + 1) t, show n + 1 + d7 l t = n + (d7 l t + 1) by omega]
theorem kf : ∀ (l : List ByteArray) (n : Nat) (t : ByteArray), jQ l t = false → bJ (fL n l) t (.int .i64 ((n + l.length : Nat) : Int)) = fL n (l ++ [t])
 | [], n, t, _ => rfl
 | x :: l, n, t, h => by
  rw [jQ] at h
  by_cases e : x = t
  ·rw [if_pos e] at h; cases h
  rw [if_neg e] at h
  rw [fL, bJ, if_neg e, List.cons_append, fL, List.length_cons, show n + (l.length + 1) = n + 1 + l.length by omega, kf l (n + 1) t h]
theorem jW : ∀ (l : List ByteArray) (t : ByteArray), jQ l t = false → d7 (l ++ [t]) t = l.length
 | [], t, _ => by simp [d7]
 | x :: l, t, h => by
  rw [jQ] at h
  by_cases e : x = t
  ·rw [if_pos e] at h; cases h
  rw [if_neg e] at h
  rw [List.cons_append, d7, if_neg e, jW l t h]
  rfl
structure MkAt (B M : Nat) (w : World) (MB TB NB : Nat) (fv : Value) (s : CS) : Prop where
 bm : B ≤ MB
 mm : B ≤ M
 ml : M ≤ MB
 bt : B ≤ TB
 bn : B ≤ NB
 m : ∃ iv, w.heap[MB]? = some (.cells #[.pointer (some ⟨TB, 0, none⟩), fv, iv, .int .i64 s.slots] 73 (0, 0)) ∧ w.ownsRow M 38 2 iv s.ins.length (dU s.ins)
 t : ∃ tv vs, w.heap[TB]? = some (.cells #[tv, .map (some NB)] 70 (0, 0)) ∧ w.ownsRow B 22 1 tv s.texts.length vs ∧ ∀ i, i < s.texts.length → ∃ v, vs[i]? = some v ∧ ByAt B w v (s.texts.getD i default)
 n : MapAt w NB (fL 0 s.texts)
section
variable {B M MB TB NB : Nat} {w w' : World} {fv : Value} {s : CS}
theorem MapAt.noTy {r : Nat} {m : List (ByteArray × Value)} (h : MapAt w r m) : ∀ t, ¬ OfTy w r t := fun t ⟨_, _, q⟩ => by
 obtain ⟨_, _, h, _⟩ := h
 rw [h] at q
 injection q with q
 cases q
theorem MkAt.mTurns (h : MkAt B M w MB TB NB fv s) : Turns B M NB w MB := by
 obtain ⟨iv, h1, _⟩ := h.m
 exact ⟨h.bm, .inr (.inl ⟨_, _, h1⟩)⟩
theorem MkAt.below (h : MkAt B M w MB TB NB fv s) (hb : Below w.heap.size w w') : MkAt B M w' MB TB NB fv s := by
 obtain ⟨iv, h1, h2⟩ := h.m
 obtain ⟨tv, vs, h3, h4, h5⟩ := h.t
 exact ⟨h.bm, h.mm, h.ml, h.bt, h.bn, ⟨iv, (hb.block _ (ad h1)).trans h1, bO h2 (Stays.of_below hb)⟩, ⟨tv, vs, (hb.block _ (ad h3)).trans h3, bO h4 (Stays.of_below hb), fun i hi => by
   obtain ⟨v, q1, q2⟩ := h5 i hi
   exact ⟨v, q1, q2.fx (Fx.of_below hb : Fx B M NB w w') h.n.noTy⟩⟩, h.n.below hb⟩
end
end
end Go.Proofs.YtjblihabklemfaaGreatDoor
