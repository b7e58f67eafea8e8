/-
  Compile: part 20 of its proof: see the last text.
-/
import Derived.Test.YtjblihabklemfaaGreatDoorPm19
set_option maxRecDepth 100000
set_option maxHeartbeats 16000000
namespace Go.Proofs.YtjblihabklemfaaGreatDoor
section
open Go.RowKit
def Adds (a b : Nat) (s s' : CS) : Prop := s.ins.length ≤ s'.ins.length ∧ s'.ins.length ≤ s.ins.length + a ∧ s.texts.length ≤ s'.texts.length ∧ s'.texts.length ≤ s.texts.length + b ∧ s'.slots = s.slots
theorem Adds.refl (s : CS) : Adds 0 0 s s := ⟨Nat.le_refl _, Nat.le_refl _, Nat.le_refl _, Nat.le_refl _, rfl⟩
theorem Adds.trans {a b a' b' : Nat} {s t u : CS} (h : Adds a b s t) (g : Adds a' b' t u) : Adds (a + a') (b + b') s u := by
 obtain ⟨h1, h2, h3, h4, h5⟩ := h
 obtain ⟨g1, g2, g3, g4, g5⟩ := g
 exact ⟨by omega, by omega, by omega, by omega, g5.trans h5⟩
theorem Adds.le {a b a' b' : Nat} {s t : CS} (h : Adds a b s t) (ha : a ≤ a') (hb : b ≤ b') : Adds a' b' s t := by
 obtain ⟨h1, h2, h3, h4, h5⟩ := h
 exact ⟨h1, by omega, h3, by omega, h5⟩
theorem aT (o n : Int) (s : CS) : Adds 1 0 s (aq o n s) := ⟨by simp [aq], by simp [aq], Nat.le_refl _, Nat.le_refl _, rfl⟩
theorem cO (k : Nat) (s : CS) : Adds 0 0 s (cQ k s) := ⟨by simp [cQ], by simp [cQ], Nat.le_refl _, Nat.le_refl _, rfl⟩
theorem kg (t : ByteArray) (s : CS) : Adds 0 1 s (dg t s) := by
 unfold dg
 split
 ·exact (Adds.refl s).le (Nat.le_refl _) (by omega)
 ·exact ⟨Nat.le_refl _, Nat.le_refl _, by simp, by simp, rfl⟩
theorem tj (x : Ex) : 0 < szE x := by cases x; rw [szE]; omega
mutual
theorem cR (F : List Fn) (v : bg) : ∀ (x : Ex) (s : CS), Adds (8 * szE x) (szE x) s (cE F v x s)
 | .mk op num text ks pos, s => by
  rw [cE, szE]
  dsimp only
  have h1 := aT 1 1 s
  have h2 := cN F v ks (aq 1 1 s)
  split
  ·exact (h1.trans (lL F v (nS text.toList) ks (aq 1 1 s))).le (by omega) (by omega)
  ·have h3 : Adds (1 + 8 * aN ks) (aN ks) s (aD F v ks (aq 1 1 s)) := (h1.trans h2).le (by omega) (by omega)
   have h4 : ∀ o n, Adds (8 * (1 + aN ks)) (1 + aN ks) s (aq o n (aD F v ks (aq 1 1 s))) := fun o n => (h3.trans (aT o n _)).le (by omega) (by omega)
   by_cases c1 : op = 1
   ·rw [if_pos c1]; exact h4 _ _
   rw [if_neg c1]
   by_cases c2 : op = 2
   ·rw [if_pos c2]; exact h4 _ _
   rw [if_neg c2]
   by_cases c3 : op = 3
   ·rw [if_pos c3]; exact ((h3.trans (kg text _)).trans (aT _ _ _)).le (by omega) (by omega)
   rw [if_neg c3]
   by_cases c4 : op = 4
   ·rw [if_pos c4]; exact h4 _ _
   rw [if_neg c4]
   by_cases c5 : op = 5
   ·rw [if_pos c5]; exact h4 _ _
   rw [if_neg c5]
   by_cases c6 : op = 6
   ·rw [if_pos c6]; exact h4 _ _
   rw [if_neg c6]
   by_cases c7 : op = 7
   ·rw [if_pos c7]; exact h4 _ _
   rw [if_neg c7]
   by_cases c8 : op = 8
   ·rw [if_pos c8]; exact h4 _ _
   rw [if_neg c8]
   by_cases c9 : op = 9
   ·rw [if_pos c9]; exact h4 _ _
   rw [if_neg c9]
   by_cases c10 : op = 10
   ·rw [if_pos c10]; exact h4 _ _
   rw [if_neg c10]
   exact h3.le (by omega) (by omega)
theorem cN (F : List Fn) (v : bg) : ∀ (l : List Ex) (s : CS), Adds (8 * aN l) (aN l) s (aD F v l s)
 | [], s => by rw [aD, aN]; exact (Adds.refl s).le (Nat.zero_le _) (Nat.zero_le _)
 | x :: l, s => by
  rw [aD, aN]
  exact ((cR F v x s).trans (cN F v l _)).le (by omega) (by omega)
theorem lL (F : List Fn) (v : bg) (isAnd : Bool) : ∀ (l : List Ex) (s : CS), Adds (8 * aN l + 5) (aN l) s (cn F v isAnd l s)
 | [], s => by rw [cn]; exact (Adds.refl s).le (by omega) (by omega)
 | [_], s => by rw [cn]; exact (Adds.refl s).le (by omega) (by omega)
 | x :: y :: l, s => by
  rw [cn, aN, aN]
  have h1 := (cR F v x s).trans (aT 16 0 _)
  generalize aq 16 0 (cE F v x s) = s1 at *
  generalize (cE F v x s).ins.length = n1
  cases isAnd
  ·rw [if_neg (by decide), if_neg (by decide)]
   have h2 := ((h1.trans (aT 3 1 _)).trans (aT 15 0 _)).trans (cO n1 _)
   exact ((h2.trans (cR F v y _)).trans (cO _ _)).le (by omega) (by omega)
  ·rw [if_pos rfl, if_pos rfl]
   have h2 := ((h1.trans (cR F v y _)).trans (aT 15 0 _)).trans (cO n1 _)
   exact ((h2.trans (aT 3 0 _)).trans (cO _ _)).le (by omega) (by omega)
end
theorem rU (s : CS) : (bh s).ins = s.ins ∧ (bh s).texts = s.texts ∧ (bh s).slots = s.slots + 1 := ⟨rfl, rfl, rfl⟩
def Adds2 (a b c : Nat) (s s' : CS) : Prop := s.ins.length ≤ s'.ins.length ∧ s'.ins.length ≤ s.ins.length + a ∧ s.texts.length ≤ s'.texts.length ∧ s'.texts.length ≤ s.texts.length + b ∧ s.slots ≤ s'.slots ∧ s'.slots ≤ s.slots + c
theorem Adds.two {a b : Nat} {s t : CS} (h : Adds a b s t) : Adds2 a b 0 s t := by
 obtain ⟨h1, h2, h3, h4, h5⟩ := h
 exact ⟨h1, h2, h3, h4, by omega, by omega⟩
theorem Adds2.trans {a b c a' b' c' : Nat} {s t u : CS} (h : Adds2 a b c s t) (g : Adds2 a' b' c' t u) : Adds2 (a + a') (b + b') (c + c') s u := by
 obtain ⟨h1, h2, h3, h4, h5, h6⟩ := h
 obtain ⟨g1, g2, g3, g4, g5, g6⟩ := g
 exact ⟨by omega, by omega, by omega, by omega, by omega, by omega⟩
theorem Adds2.le {a b c a' b' c' : Nat} {s t : CS} (h : Adds2 a b c s t) (ha : a ≤ a') (hb : b ≤ b') (hc : c ≤ c') : Adds2 a' b' c' s t := by
 obtain ⟨h1, h2, h3, h4, h5, h6⟩ := h
 exact ⟨h1, by omega, h3, by omega, h5, by omega⟩
theorem gH (s : CS) : Adds2 0 0 1 s (bh s) := ⟨Nat.le_refl _, Nat.le_refl _, Nat.le_refl _, Nat.le_refl _, by show s.slots ≤ s.slots + 1; omega, by show s.slots + 1 ≤ s.slots + (1 : Nat); omega⟩
mutual
theorem om (F : List Fn) : ∀ (x : St) (v : bg) (s : CS), Adds2 (16 * szS x) (szS x) (2 * szS x) s (dT F x (v, s)).2
 | .mk op text es body els pos, v, s => by
  rw [dT, szS]
  dsimp only
  have h1 : Adds2 (1 + 8 * aN es) (aN es) 0 s (aD F v es (aq 1 1 s)) := ((aT 1 1 s).trans (cN F v es (aq 1 1 s))).two.le (by omega) (by omega) (by omega)
  generalize aD F v es (aq 1 1 s) = t at *
  have one : ∀ o n, Adds2 (16 * (1 + aN es + bC body + bC els)) (1 + aN es + bC body + bC els) (2 * (1 + aN es + bC body + bC els)) s (aq o n t) := fun o n => (h1.trans (aT o n t).two).le (by omega) (by omega) (by omega)
  by_cases c1 : op = 1
  ·rw [if_pos c1]; exact ((h1.trans (gH t)).trans (aT _ _ _).two).le (by omega) (by omega) (by omega)
  rw [if_neg c1]
  by_cases c2 : op = 2
  ·rw [if_pos c2]; exact one _ _
  rw [if_neg c2]
  by_cases c3 : op = 3
  ·rw [if_pos c3]
   have h2 := (h1.trans (aT 16 0 t).two).trans (bv F body v (aq 16 0 t))
   generalize (aI F body (v, aq 16 0 t)).2 = t2 at *
   split
   ·have h3 := h2.trans (cO t.ins.length t2).two
    exact (h3.trans (bv F els v _)).le (by omega) (by omega) (by omega)
   ·have h3 := (h2.trans (aT 15 0 t2).two).trans (cO t.ins.length _).two
    have h4 := h3.trans (bv F els v (cQ t.ins.length (aq 15 0 t2)))
    exact (h4.trans (cO _ _).two).le (by omega) (by omega) (by omega)
  rw [if_neg c3]
  by_cases c4 : op = 4
  ·rw [if_pos c4]
   have h2 := (((((((h1.trans (gH t)).trans (gH _)).trans (aT 6 (t.slots + 1) _).two).trans (aT 6 t.slots _).two).trans (aT 5 t.slots _).two).trans (aT 5 (t.slots + 1) _).two).trans (aT 7 6 _).two).trans (aT 16 0 _).two
   have h3 := (h2.trans (aT 1 1 _).two).trans (bv F body (bJ v text t.slots) _)
   have h4 := ((((h3.trans (aT 5 t.slots _).two).trans (aT 2 1 _).two).trans (aT 7 1 _).two).trans (aT 6 t.slots _).two).trans (aT 15 (aq 6 t.slots (aq 6 (t.slots + 1) (bh (bh t)))).ins.length _).two
   exact (h4.trans (cO _ _).two).le (by omega) (by omega) (by omega)
  rw [if_neg c4]
  by_cases c5 : op = 5
  ·rw [if_pos c5]; exact one _ _
  rw [if_neg c5]
  by_cases c6 : op = 6
  ·rw [if_pos c6]; exact one _ _
  rw [if_neg c6]
  by_cases c7 : op = 7
  ·rw [if_pos c7]; exact one _ _
  rw [if_neg c7]
  by_cases c8 : op = 8
  ·rw [if_pos c8]
   dsimp only
   split
   ·exact h1.le (by omega) (by omega) (by omega)
   ·exact one _ _
  rw [if_neg c8]
  exact h1.le (by omega) (by omega) (by omega)
theorem bv (F : List Fn) : ∀ (l : List St) (v : bg) (s : CS), Adds2 (16 * bC l) (bC l) (2 * bC l) s (aI F l (v, s)).2
 | [], v, s => by rw [aI, bC]; exact (Adds.refl s).two
 | x :: l, v, s => by
  rw [aI, bC]
  have h1 := om F x v s
  have h2 := bv F l (dT F x (v, s)).1 (dT F x (v, s)).2
  exact (h1.trans h2).le (by omega) (by omega) (by omega)
end
mutual
def iX (F : List Fn) : Ex → Prop
 | .mk op _ text ks _ => (op = 5 → bI F text < F.length) ∧ (op = 6 → ks.length = 2) ∧ dw F ks
def dw (F : List Fn) : List Ex → Prop
 | [] => True
 | x :: l => iX F x ∧ dw F l
end
mutual
def kF (F : List Fn) : St → Prop
 | .mk op _ es body els _ => (op = 8 → 0 < es.length ∧ bI F (es.headD default).text < F.length ∧ (es.headD default).op = 5) ∧ dw F es ∧ dO F body ∧ dO F els
def dO (F : List Fn) : List St → Prop
 | [] => True
 | x :: l => kF F x ∧ dO F l
end
end
section
open Go.RowKit
def j9 (F : List Fn) (G : aQ) : Prop := ∀ k, (aF G k).isSome → bI F k < F.length
theorem bG {a b : Flt} (h : (orF a b).1 = 0) : a.1 = 0 ∧ b.1 = 0 := by
 unfold orF at h
 split at h
 ·rename_i g; exact absurd h g
 ·rename_i g; exact ⟨by simpa using g, h⟩
theorem gM {r : Int × Flt} {t pos : Int} (h : (ip r t pos).1 = 0) : r.2.1 = 0 := by
 unfold ip at h
 split at h
 ·rename_i g; exact absurd h g
 ·rename_i g; simpa using g
theorem dx (F : List Fn) : dw F [] := by rw [dw]; trivial
mutual
theorem ef {F : List Fn} {G : aQ} (hk : j9 F G) : ∀ (x : Ex) (v : aV), (aG G v x).2.1 = 0 → iX F x
 | .mk op num text ks pos, v => by
  intro e
  rw [aG] at e
  rw [iX]
  by_cases c1 : cf op = -2 ∨ (0 ≤ cf op ∧ cf op ≠ ks.length)
  ·simp only [if_pos c1] at e
   exact absurd e (by decide)
  simp only [if_neg c1] at e
  have hlen : 0 ≤ cf op → cf op = ks.length := fun h => by
   by_cases q : cf op = ks.length
   ·exact q
   ·exact absurd (Or.inr ⟨h, q⟩) c1
  have h6 : op = 6 → ks.length = 2 := fun h => by
   subst h
   have := hlen (by decide)
   have e2 : cf 6 = 2 := by decide
   omega
  have hnil : cf op = 0 → ks = [] := fun h => List.eq_nil_of_length_eq_zero (by have := hlen (by omega); omega)
  by_cases c2 : op = 1
  ·subst c2
   rw [hnil (by decide)]
   exact ⟨fun h => absurd h (by decide), fun h => absurd h (by decide), dx F⟩
  simp only [if_neg c2] at e
  by_cases c3 : op = 2
  ·subst c3
   rw [hnil (by decide)]
   exact ⟨fun h => absurd h (by decide), fun h => absurd h (by decide), dx F⟩
  simp only [if_neg c3] at e
  by_cases c4 : op = 3
  ·subst c4
   rw [hnil (by decide)]
   exact ⟨fun h => absurd h (by decide), fun h => absurd h (by decide), dx F⟩
  simp only [if_neg c4] at e
  by_cases c5 : op = 4
  ·subst c5
   rw [hnil (by decide)]
   exact ⟨fun h => absurd h (by decide), fun h => absurd h (by decide), dx F⟩
  simp only [if_neg c5] at e
  by_cases c6 : op = 5
  ·simp only [if_pos c6] at e
   cases hl : aF G text with
   | none =>
    rw [hl] at e
    exact absurd e (by simp)
   | some fn =>
    rw [hl] at e
    dsimp only at e
    have hp := hk text (by rw [hl]; rfl)
    by_cases c7 : fn.params.length ≠ ks.length
    ·simp only [if_pos c7] at e
     exact absurd e (by decide)
    simp only [if_neg c7] at e
    exact ⟨fun _ => hp, h6, dJ hk ks v _ e⟩
  simp only [if_neg c6] at e
  refine ⟨fun h => absurd h c6, h6, ?_⟩
  by_cases c7 : op = 6
  ·simp only [if_pos c7] at e
   by_cases c8 : (b8 text.toList).1 ≠ 0
   ·simp only [if_pos c8] at e
    exact dJ hk ks v _ e
   simp only [if_neg c8] at e
   by_cases c9 : text.toList ≠ [43] ∧ text.toList ≠ [61, 61] ∧ text.toList ≠ [33, 61]
   ·simp only [if_pos c9] at e
    exact absurd e (by decide)
   simp only [if_neg c9] at e
   by_cases c10 : (cH G v (text.toList == [43]) ks).1.1 ≠ 0
   ·simp only [if_pos c10] at e
    exact absurd e c10
   exact ka hk ks v _ (by simpa using c10)
  simp only [if_neg c7] at e
  by_cases c8 : op = 7
  ·simp only [if_pos c8] at e
   by_cases c9 : text.toList = [45]
   ·simp only [if_pos c9] at e
    exact dJ hk ks v _ e
   simp only [if_neg c9] at e
   by_cases c10 : text.toList = [33]
   ·simp only [if_pos c10] at e
    exact dJ hk ks v _ e
   simp only [if_neg c10] at e
   exact absurd e (by decide)
  simp only [if_neg c8] at e
  by_cases c9 : op = 9
  ·simp only [if_pos c9] at e
   exact dJ hk ks v _ e
  simp only [if_neg c9] at e
  by_cases c10 : op = 10
  ·simp only [if_pos c10] at e
   exact dJ hk ks v _ e
  simp only [if_neg c10] at e
  exact dJ hk ks v _ e
theorem dJ {F : List Fn} {G : aQ} (hk : j9 F G) : ∀ (l : List Ex) (v : aV) (ts : List Int), (bV G v l ts).1 = 0 → dw F l
 | [], _, _ => fun _ => dx F
 | x :: l, v, ts => by
  intro e
  rw [bV] at e
  obtain ⟨e1, e2⟩ := bG e
  rw [dw]
  exact ⟨ef hk x v (gM e1), dJ hk l v _ e2⟩
theorem ka {F : List Fn} {G : aQ} (hk : j9 F G) : ∀ (l : List Ex) (v : aV) (plus : Bool), (cH G v plus l).1.1 = 0 → dw F l
 | [], _, _ => fun _ => dx F
 | k :: l, v, plus => by
  intro e
  rw [cH] at e
  rw [dw]
  by_cases c : (if (aG G v k).2.1 = 0 then noC ((aG G v k).1 != 0 && !(plus && (aG G v k).1 == 2)) 51 k.pos else (aG G v k).2).1 ≠ 0
  ·rw [if_pos c] at e
   exact absurd e c
  rw [if_neg c] at e
  have c' : (aG G v k).2.1 = 0 := by
   by_cases c0 : (aG G v k).2.1 = 0
   ·exact c0
   ·rw [if_neg c0] at c
    exact absurd c0 c
  exact ⟨ef hk k v c', ka hk l v plus e⟩
end
theorem bS (F : List Fn) : dO F [] := by rw [dO]; trivial
theorem eW {F : List Fn} {es : List Ex} (h1 : es.length ≤ 1) (h : iX F (es.headD default)) : dw F es := by
 match es, h1 with
 | [], _ => exact dx F
 | [x], _ => rw [dw, dw]; exact ⟨h, trivial⟩
theorem ql {b : Bool} {e p : Int} (he : e ≠ 0) (h : (noC b e p).1 = 0) : b = true := by
 cases b
 ·exact absurd h he
 ·rfl
theorem kX {op : Int} {text : ByteArray} {es : List Ex} {body els : List St} {pos : Int} (h : ¬ cw (.mk op text es body els pos) = false) :
    (op = 1 ∨ op = 2 ∨ op = 7 ∨ op = 8 → es.length = 1 ∧ body = [] ∧ els = []) ∧ (op = 6 → body = [] ∧ els = []) ∧ (op = 5 → es.length ≤ 1 ∧ body = [] ∧ els = []) ∧ (op = 3 → es.length = 1) ∧ (op = 4 → els = []) ∧ (op = 1 ∨ op = 2 ∨ op = 3 ∨ op = 4 ∨ op = 5 ∨ op = 6 ∨ op = 7 ∨ op = 8) := by
 have h : cw (.mk op text es body els pos) = true := by simpa using h
 unfold cw at h
 change (if op = 1 ∨ op = 2 ∨ op = 7 ∨ op = 8 then es.length == 1 && body.length == 0 && els.length == 0
   else if op = 6 then es.length == 2 && body.length == 0 && els.length == 0
   else if op = 5 then decide (es.length ≤ 1) && body.length == 0 && els.length == 0
   else if op = 3 then es.length == 1
   else if op = 4 then es.length == 2 && els.length == 0 else false) = true at h
 by_cases c1 : op = 1 ∨ op = 2 ∨ op = 7 ∨ op = 8
 ·rw [if_pos c1] at h
  simp at h
  refine ⟨fun _ => ⟨h.1.1, h.1.2, h.2⟩, fun e => ⟨h.1.2, h.2⟩, fun e => ⟨by omega, h.1.2, h.2⟩, fun e => h.1.1, fun e => h.2, by omega⟩
 rw [if_neg c1] at h
 by_cases c6 : op = 6
 ·rw [if_pos c6] at h
  simp at h
  exact ⟨fun e => absurd e c1, fun _ => ⟨h.1.2, h.2⟩, fun e => by omega, fun e => by omega, fun e => by omega, by omega⟩
 rw [if_neg c6] at h
 by_cases c5 : op = 5
 ·rw [if_pos c5] at h
  simp at h
  exact ⟨fun e => absurd e c1, fun e => absurd e c6, fun _ => ⟨h.1.1, h.1.2, h.2⟩, fun e => by omega, fun e => by omega, by omega⟩
 rw [if_neg c5] at h
 by_cases c3 : op = 3
 ·rw [if_pos c3] at h
  simp at h
  exact ⟨fun e => absurd e c1, fun e => absurd e c6, fun e => absurd e c5, fun _ => h, fun e => by omega, by omega⟩
 rw [if_neg c3] at h
 by_cases c4 : op = 4
 ·rw [if_pos c4] at h
  simp at h
  exact ⟨fun e => absurd e c1, fun e => absurd e c6, fun e => absurd e c5, fun e => absurd e c3, fun _ => h.2, by omega⟩
 rw [if_neg c4] at h
 cases h
mutual
theorem oX {F : List Fn} {G : aQ} (hk : j9 F G) (res : Int) : ∀ (x : St) (v : aV), (bR G res x v).2.1 = 0 → kF F x
 | .mk op text es body els pos, v => by
  intro e
  rw [bR] at e
  dsimp only at e
  rw [kF]
  by_cases c0 : cw (.mk op text es body els pos) = false
  ·rw [if_pos c0] at e
   exact absurd e (by simp)
  rw [if_neg c0] at e
  obtain ⟨s1, s6, s5, s3, s4, sall⟩ := kX c0
  by_cases c1 : op = 1
  ·rw [if_pos c1] at e
   obtain ⟨q1, q2, q3⟩ := s1 (.inl c1)
   rw [q2, q3]
   exact ⟨fun h => by omega, eW (by omega) (ef hk _ v (bG e).1), bS F, bS F⟩
  rw [if_neg c1] at e
  by_cases c2 : op = 2
  ·rw [if_pos c2] at e
   obtain ⟨q1, q2, q3⟩ := s1 (.inr (.inl c2))
   rw [q2, q3]
   exact ⟨fun h => by omega, eW (by omega) (ef hk _ v (gM (bG (bG e).2).2)), bS F, bS F⟩
  rw [if_neg c2] at e
  by_cases c3 : op = 3
  ·rw [if_pos c3] at e
   have q1 := s3 c3
   obtain ⟨e1, e2⟩ := bG e
   obtain ⟨e2, e3⟩ := bG e2
   exact ⟨fun h => by omega, eW (by omega) (ef hk _ v (gM e1)), eX hk res body v e2, eX hk res els v e3⟩
  rw [if_neg c3] at e
  by_cases c4 : op = 4
  ·rw [if_pos c4] at e
   rw [s4 c4]
   obtain ⟨e1, e2⟩ := bG e
   exact ⟨fun h => by omega, dJ hk es v _ e1, eX hk res body _ (bG e2).2, bS F⟩
  rw [if_neg c4] at e
  by_cases c5 : op = 5
  ·rw [if_pos c5] at e
   obtain ⟨q1, q2, q3⟩ := s5 c5
   rw [q2, q3]
   refine ⟨fun h => by omega, ?_, bS F, bS F⟩
   by_cases c6 : es.length = 0
   ·rw [List.eq_nil_of_length_eq_zero c6]
    exact dx F
   ·simp only [if_neg c6] at e
    exact eW q1 (ef hk _ v (bG e).1)
  rw [if_neg c5] at e
  by_cases c8 : op = 8
  ·rw [if_pos c8] at e
   obtain ⟨q1, q2, q3⟩ := s1 (by omega)
   rw [q2, q3]
   obtain ⟨e1, e2⟩ := bG e
   have h5 : (es.headD default).op = 5 := eq_of_beq (ql (by decide) e2)
   have hf := ef hk _ v e1
   refine ⟨fun _ => ⟨by omega, ?_⟩, eW (by omega) hf, bS F, bS F⟩
   generalize es.headD default = x at *
   obtain ⟨o, n, t, k, p⟩ := x
   rw [iX] at hf
   exact ⟨hf.1 h5, h5⟩
  rw [if_neg c8] at e
  refine ⟨fun h => absurd h c8, dJ hk es v _ e, ?_, ?_⟩
  ·by_cases c6 : op = 6
   ·rw [(s6 c6).1]; exact bS F
   ·rw [(s1 (by omega)).2.1]; exact bS F
  ·by_cases c6 : op = 6
   ·rw [(s6 c6).2]; exact bS F
   ·rw [(s1 (by omega)).2.2]; exact bS F
theorem eX {F : List Fn} {G : aQ} (hk : j9 F G) (res : Int) : ∀ (l : List St) (v : aV), (be G res l v).1 = 0 → dO F l
 | [], _ => fun _ => bS F
 | x :: l, v => by
  intro e
  rw [be] at e
  rw [dO]
  by_cases c : (bR G res x v).2.1 ≠ 0
  ·rw [if_pos c] at e
   exact absurd e c
  rw [if_neg c] at e
  exact ⟨oX hk res x v (by simpa using c), eX hk res l _ e⟩
end
theorem j7 : ∀ (l : List Fn) (G : aQ) (k : ByteArray), (aF (cD l G).2 k).isSome → (aF G k).isSome ∨ bI l k < l.length
 | [], G, k, h => .inl h
 | f :: l, G, k, h => by
  rw [cD] at h
  rw [bI]
  by_cases c : (aF G f.name).isSome
  ·rw [if_pos c] at h
   exact .inl h
  rw [if_neg c] at h
  by_cases e : f.name = k
  ·rw [if_pos e]; exact .inr (by simp)
  ·rw [if_neg e]
   rcases j7 l _ k h with q | q
   ·rw [ik, if_neg e] at q; exact .inl q
   ·exact .inr (by simpa using q)
theorem gz {G : aQ} : ∀ {l : List Fn}, (eF G l).1 = 0 → ∀ f, f ∈ l → (dL G f).1 = 0
 | g :: l, e, f, hf => by
  rw [eF] at e
  obtain ⟨e1, e2⟩ := bG e
  rcases List.mem_cons.1 hf with rfl | hf
  ·exact e1
  ·exact gz e2 f hf
theorem dF {l : List Fn} (h : (bw l).1 = 0) : l.length ≤ 64 ∧ ∀ f, f ∈ l → dO l f.body ∧ f.params.length ≤ 16 := by
 unfold bw at h
 by_cases c : 64 < l.length
 ·rw [if_pos c] at h
  exact absurd h (by simp)
 rw [if_neg c] at h
 by_cases d : (cD l []).1.1 ≠ 0
 ·rw [if_pos d] at h
  exact absurd h d
 rw [if_neg d] at h
 have hk : j9 l (cD l []).2 := fun k q => (j7 l [] k q).elim (fun q => by cases q) id
 refine ⟨by omega, fun f hf => ?_⟩
 have e := gz h f hf
 unfold dL at e
 dsimp only at e
 by_cases c1 : (cq f.pos f.params []).1.1 ≠ 0
 ·rw [if_pos c1] at e
  exact absurd e c1
 rw [if_neg c1] at e
 by_cases c2 : f.result < 0 ∨ 3 < f.result
 ·rw [if_pos c2] at e
  exact absurd e (by simp)
 rw [if_neg c2] at e
 by_cases c3 : 16 < f.params.length ∨ 64 < wrap64 (f.params.length + cy 0 f.body)
 ·rw [if_pos c3] at e
  exact absurd e (by simp)
 rw [if_neg c3] at e
 exact ⟨eX hk _ _ _ (bG e).1, by omega⟩
end
end Go.Proofs.YtjblihabklemfaaGreatDoor
