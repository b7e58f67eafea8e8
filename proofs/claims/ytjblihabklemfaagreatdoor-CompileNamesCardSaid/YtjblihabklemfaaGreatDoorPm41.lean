/-
  Compile: part 41 of its proof: see the last text.
-/
import Derived.Test.YtjblihabklemfaaGreatDoorPm35
import Derived.Test.YtjblihabklemfaaGreatDoorPm20
import Derived.Test.YtjblihabklemfaaGreatDoorPm40
set_option maxRecDepth 100000
set_option maxHeartbeats 16000000
namespace Go.Proofs.YtjblihabklemfaaGreatDoor
section
open Go.RowKit
theorem jz {w : World} {base base' e sz n : Nat} {v : Value} {xs : List Value} (h : w.ownsRow base e sz v n xs) (hb : base' ≤ base) : w.ownsRow base' e sz v n xs := by
 refine ⟨h.1, ?_⟩
 rcases h.2 with q | ⟨g, cap, cur, q1, q2, q3⟩
 ·exact .inl q
 ·exact .inr ⟨g, cap, cur, q1, Nat.le_trans hb q2, q3⟩
def Keeps (T : TypeId → Prop) (w w' : World) : Prop := ∀ k t, T t → OfTy w k t → w'.heap[k]? = w.heap[k]?
theorem Keeps.below {T : TypeId → Prop} {w w' : World} (h : Below w.heap.size w w') : Keeps T w w' := fun k _ _ ht => h.block k ht.lt
theorem Keeps.trans {T : TypeId → Prop} {a b c : World} (h : Keeps T a b) (g : Keeps T b c) : Keeps T a c := fun k t ht ho => (g k t ht (ho.keep (h k t ht ho))).trans (h k t ht ho)
theorem Keeps.mono {T U : TypeId → Prop} {w w' : World} (h : Keeps T w w') (ht : ∀ t, U t → T t) : Keeps U w w' := fun k t hu ho => h k t (ht t hu) ho
theorem Keeps.set {T : TypeId → Prop} {w : World} {k : Nat} {t : TypeId} (ho : OfTy w k t) (ht : ¬ T t) (j : Nat) (u : Value) : Keeps T w (w.setCell ⟨k, j, none⟩ u) := fun _ _ q qo => af _ _ _ _ (qo.ne ho (fun e => ht (e ▸ q)))
theorem Keeps.grown {T : TypeId → Prop} {B e sz n : Nat} {w w9 : World} {v : Value} {xs : List Value} (hg : w.grownBy w9 v.ownBlock) (ho : w.ownsRow B e sz v n xs) (ht : ¬ T e) : Keeps T w w9 := fun _ _ q qo => pc hg ho qo (fun h => ht (h ▸ q))
theorem Keeps.fx {B NB : Nat} {w w' : World} (hf : Fx B w.heap.size NB w w') (hn : ∀ t, ¬ OfTy w NB t) : Keeps (fun t => t ≠ 73 ∧ t ≠ 70 ∧ t ≠ 22) w w' := fun k t ht ho => by
 obtain ⟨a, fz, ho⟩ := ho
 by_cases e : t = 38
 ·subst e
  exact (hf.ins ho (aA hn ho) (ad ho)).trans ho.symm
 ·exact (hf.obj ho (aA hn ho) ht.1 ht.2.1 e ht.2.2).trans ho.symm
theorem Fx.fresh {B M NB : Nat} {a b c : World} (h : Fx B M NB a b) (g : OnS (fun k => a.heap.size ≤ k) b c) : Fx B M NB a c := OnS.new h g fun _ hk => .inr hk
structure TxAt (B : Nat) (w : World) (TB NB : Nat) (T : List ByteArray) : Prop where
 bt : B ≤ TB
 bn : B ≤ NB
 t : ∃ tv vs, w.heap[TB]? = some (.cells #[tv, .map (some NB)] 70 (0, 0)) ∧ w.ownsRow B 22 1 tv T.length vs ∧ ∀ i, i < T.length → ∃ v, vs[i]? = some v ∧ ByAt B w v (T.getD i default)
 n : MapAt w NB (fL 0 T)
section
variable {B M MB TB NB : Nat} {w w' : World} {fv : Value} {s : CS} {T : List ByteArray} {F : List Fn} {w0 : World}
theorem MkAt.tx (h : MkAt B M w MB TB NB fv s) : TxAt B w TB NB s.texts := ⟨h.bt, h.bn, h.t, h.n⟩
theorem TxAt.keep (h : TxAt B w TB NB T) (hk : Keeps (fun t => t = 70 ∨ t = 22 ∨ t = 5) w w') (hn : w'.heap[NB]? = w.heap[NB]?) : TxAt B w' TB NB T := by
 obtain ⟨tv, vs, h1, h2, h3⟩ := h.t
 refine ⟨h.bt, h.bn, ⟨tv, vs, (hk _ _ (.inl rfl) ⟨_, _, h1⟩).trans h1, ba h2 fun k q => hk _ _ (.inr (.inl rfl)) (aZ h2 q), fun i hi => ?_⟩, h.n.keep hn⟩
 obtain ⟨v, q1, b, cap, q2, q3, q4, q5, q6⟩ := h3 i hi
 have e := hk b _ (.inr (.inr rfl)) q5
 exact ⟨v, q1, b, cap, q2, q3, q4, q5.keep e, fun j hj => (World.cell?_of_block (w := w) e).trans (q6 j hj)⟩
theorem TxAt.mk' (h : TxAt B w TB NB T) (hm : w.heap[MB]? = some (.cells #[.pointer (some ⟨TB, 0, none⟩), fv, .slice none 0 0, .int .i64 0] 73 (0, 0))) (h1 : B ≤ M) (h2 : M ≤ MB) : MkAt B M w MB TB NB fv ⟨[], 0, T⟩ :=
 ⟨Nat.le_trans h1 h2, h1, h2, h.bt, h.bn, ⟨_, hm, fC⟩, h.t, h.n⟩
theorem MkAt.keep (h : MkAt B M w MB TB NB fv s) (hk : Keeps (fun t => t = 73 ∨ t = 38 ∨ t = 70 ∨ t = 22 ∨ t = 5) w w') (hn : w'.heap[NB]? = w.heap[NB]?) : MkAt B M w' MB TB NB fv s := by
 obtain ⟨iv, h1, h2⟩ := h.m
 have q := h.tx.keep (hk.mono fun t q => .inr (.inr q)) hn
 exact ⟨h.bm, h.mm, h.ml, h.bt, h.bn, ⟨iv, (hk _ _ (.inl rfl) ⟨_, _, h1⟩).trans h1, ba h2 fun k q => hk _ _ (.inr (.inl rfl)) (aZ h2 q)⟩, q.t, q.n⟩
theorem CoW.keep (h : CoW B M MB TB NB fv F w0 w s) (hb : Below B w w') (hm : MkAt B M w' MB TB NB fv s) : CoW B M MB TB NB fv F w0 w' s :=
 ⟨h.old.trans hb, hm, h.sg.below hb h.sb, h.sb, h.fn.keep (Stays.of_lt hb), Nat.le_trans h.le hb.size⟩
end
def jK (l : List Int) : List Value := l.map (Value.int .i64)
def CdDone (B : Nat) (w : World) (cs : List Value) (c : Cd) : Prop := ∃ pv iv, cs = [.string c.name, pv, .int .i64 c.result, .int .i64 c.slots, iv] ∧ w.ownsRow B 32 1 pv c.params.length (jK c.params) ∧ w.ownsRow B 38 2 iv c.ins.length (dU c.ins)
theorem CdDone.len {B : Nat} {w : World} {cs : List Value} {c : Cd} (h : CdDone B w cs c) : cs.length = 5 := by
 obtain ⟨_, _, rfl, _⟩ := h
 rfl
theorem CdDone.keep {B : Nat} {w w' : World} {cs : List Value} {c : Cd} (h : CdDone B w cs c) (hk : Keeps (fun t => t = 32 ∨ t = 38) w w') : CdDone B w' cs c := by
 obtain ⟨pv, iv, rfl, h1, h2⟩ := h
 exact ⟨pv, iv, rfl, ba h1 fun k q => hk _ _ (.inl rfl) (aZ h1 q), ba h2 fun k q => hk _ _ (.inr rfl) (aZ h2 q)⟩
def CdsAt (B : Nat) (w : World) (MOB : Nat) (l : List Cd) : Prop := ∃ cv cs, w.heap[MOB]? = some (.cells #[cv, .slice none 0 0] 27 (0, 0)) ∧ w.ownsRow B 35 5 cv l.length (cV cs l.length) ∧ ∀ i, i < l.length → CdDone B w (cs i) (l.getD i default)
theorem CdsAt.keep {B MOB : Nat} {w w' : World} {l : List Cd} (h : CdsAt B w MOB l) (hk : Keeps (fun t => t = 32 ∨ t = 38 ∨ t = 35 ∨ t = 27) w w') : CdsAt B w' MOB l := by
 obtain ⟨cv, cs, h1, h2, h3⟩ := h
 exact ⟨cv, cs, (hk _ _ (.inr (.inr (.inr rfl))) ⟨_, _, h1⟩).trans h1, ba h2 fun k q => hk _ _ (.inr (.inr (.inl rfl))) (aZ h2 q), fun i hi => (h3 i hi).keep (hk.mono fun t q => q.imp id .inl)⟩
theorem CdsAt.push {B MOB g cap : Nat} {w w9 : World} {l : List Cd} {c : Cd} {cv : Value} {cs : Nat → List Value} {new : List Value} (h1 : w.heap[MOB]? = some (.cells #[cv, .slice none 0 0] 27 (0, 0))) (h3 : ∀ i, i < l.length → CdDone B w (cs i) (l.getD i default)) (hd : CdDone B w new c)
    (hk : Keeps (fun t => t ≠ 35) w w9) (ho : w9.ownsRow B 35 5 (.slice (some ⟨g, 0, none⟩) (l.length + 1) cap) (l.length + 1) (cV cs l.length ++ new)) : CdsAt B (w9.setCell ⟨MOB, 0, none⟩ (.slice (some ⟨g, 0, none⟩) (l.length + 1) cap)) MOB (l ++ [c]) := by
 have h9 := (hk _ _ (by decide) ⟨_, _, h1⟩ : w9.heap[MOB]? = w.heap[MOB]?).trans h1
 have hs : Keeps (fun t => t ≠ 27) w9 (w9.setCell ⟨MOB, 0, none⟩ (.slice (some ⟨g, 0, none⟩) (l.length + 1) cap)) := Keeps.set ⟨_, _, h9⟩ (fun h => h rfl) 0 _
 have hd9 : ∀ {x : List Value} {y : Cd}, CdDone B w x y → CdDone B (w9.setCell ⟨MOB, 0, none⟩ (.slice (some ⟨g, 0, none⟩) (l.length + 1) cap)) x y := fun q => (q.keep (hk.mono fun t q => by rcases q with rfl | rfl <;> decide)).keep (hs.mono fun t q => by rcases q with rfl | rfl <;> decide)
 refine ⟨_, (fun i => if i < l.length then cs i else new), ai h9 0 _, ?_, fun i hi => ?_⟩
 ·rw [List.length_append, show [c].length = 1 from rfl, ki]
  exact ba ho fun k q => hs _ _ (by decide) (aZ ho q)
 ·by_cases e : i < l.length
  ·dsimp only
   rw [if_pos e, fq _ _ _ e]
   exact hd9 (h3 i e)
  ·have hi2 : i < l.length + 1 := by simpa using hi
   obtain rfl : i = l.length := by omega
   dsimp only
   rw [if_neg e, ff]
   exact hd9 hd
structure OutW (B PB RB MOB TB NB : Nat) (fv : Value) (F : List Fn) (w0 W : World) (p : List Cd × List ByteArray) : Prop where
 old : Below B w0 W
 sg : Signs W
 sb : 0 < B
 fn : RepFns (fun b => b < B) W fv F
 le : B ≤ W.heap.size
 pb : W.heap[PB]? = some (.cells #[fv] 42 (0, 0))
 rb : W.heap[RB]? = some (.cells #[.slice none 0 0, .slice none 0 0] 27 (0, 0))
 bm : RB ≠ MOB
 bb : B ≤ MOB
 tx : TxAt B W TB NB p.2
 cd : CdsAt B W MOB p.1
theorem ic : ∀ (l : List (ByteArray × Int)) (q : ByteArray × Int) (p : bg × Int), aC (l ++ [q]) p = (bJ (aC l p).1 q.1 (aC l p).2, (aC l p).2 + 1)
 | [], q, p => by rw [List.nil_append, aC, aC, aC]
 | x :: l, q, p => by rw [List.cons_append, aC, aC, ic l q]
theorem gb : ∀ (l : List (ByteArray × Int)) (p : bg × Int), (aC l p).2 = p.2 + l.length
 | [], p => by rw [aC]; simp
 | x :: l, p => by rw [aC, gb l]; simp; omega
theorem iJ (F : List Fn) : ∀ (l : List Fn) (f : Fn) (p : List Cd × List ByteArray), a8 F (l ++ [f]) p = ((a8 F l p).1 ++ [(cz F f (a8 F l p).2).1], (cz F f (a8 F l p).2).2)
 | [], f, p => by rw [List.nil_append, a8, a8, a8]
 | x :: l, f, p => by rw [List.cons_append, a8, a8, iJ F l f]
theorem fu (F : List Fn) : ∀ (l : List Fn) (p : List Cd × List ByteArray), (a8 F l p).1.length = p.1.length + l.length
 | [], p => by rw [a8]; simp
 | x :: l, p => by rw [a8, fu F l]; simp; omega
end
end Go.Proofs.YtjblihabklemfaaGreatDoor
