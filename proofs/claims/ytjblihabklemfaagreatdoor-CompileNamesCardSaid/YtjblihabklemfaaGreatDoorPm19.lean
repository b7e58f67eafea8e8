/-
  Compile: part 19 of its proof: see the last text.
-/
import Derived.Test.YtjblihabklemfaaGreatDoorPm16
import Derived.Test.YtjblihabklemfaaGreatDoorPm18
set_option maxRecDepth 100000
set_option maxHeartbeats 16000000
namespace Go.Proofs.YtjblihabklemfaaGreatDoor
section
open Go.RowKit
mutual
def szE : Ex → Nat
 | .mk _ _ _ ks _ => 1 + aN ks
def aN : List Ex → Nat
 | [] => 0
 | x :: l => szE x + aN l
end
mutual
def szS : St → Nat
 | .mk _ _ es body els _ => 1 + aN es + bC body + bC els
def bC : List St → Nat
 | [] => 0
 | s :: l => szS s + bC l
end
def szF (f : Fn) : Nat := 1 + f.params.length + bC f.body
def du : List Fn → Nat
 | [] => 0
 | f :: l => szF f + du l
mutual
def okE : Ex → Prop
 | .mk op n t ks _ => (i64 n ∧ (op = 3 ∨ op = 4 → t.size ≤ 64)) ∧ cT ks
def cT : List Ex → Prop
 | [] => True
 | x :: l => okE x ∧ cT l
end
mutual
def okS : St → Prop
 | .mk op t es body els _ => (t.size ≤ 64 ∧ (op = 1 ∨ op = 2 ∨ op = 4 → t.size ≠ 0)) ∧ cT es ∧ dH body ∧ dH els
def dH : List St → Prop
 | [] => True
 | s :: l => okS s ∧ dH l
end
def ft : List Fn → Prop
 | [] => True
 | f :: l => (f.name.size ≤ 64 ∧ dH f.body ∧ ∀ p, p ∈ f.params → p.1.size ≤ 64) ∧ ft l
theorem jb : ∀ (l r : List Ex), aN (l ++ r) = aN l + aN r
 | [], r => by rw [aN]; simp
 | x :: l, r => by rw [List.cons_append, aN, aN, jb l r]; omega
theorem ld : ∀ (l r : List St), bC (l ++ r) = bC l + bC r
 | [], r => by rw [bC]; simp
 | x :: l, r => by rw [List.cons_append, bC, bC, ld l r]; omega
theorem kY : ∀ (l r : List Fn), du (l ++ r) = du l + du r
 | [], r => by simp [du]
 | x :: l, r => by rw [List.cons_append, du, du, kY l r]; omega
theorem lT : ∀ (l r : List Ex), cT (l ++ r) ↔ cT l ∧ cT r
 | [], r => by rw [cT]; simp
 | x :: l, r => by rw [List.cons_append, cT, cT, lT l r, and_assoc]
theorem lY : ∀ (l r : List St), dH (l ++ r) ↔ dH l ∧ dH r
 | [], r => by rw [dH]; simp
 | x :: l, r => by rw [List.cons_append, dH, dH, lY l r, and_assoc]
theorem lf : ∀ (l r : List Fn), ft (l ++ r) ↔ ft l ∧ ft r
 | [], r => by rw [ft]; simp
 | x :: l, r => by rw [List.cons_append, ft, ft, lf l r]; simp only [and_assoc]
def Nums (l : List Tk) : Prop := ∀ t, t ∈ l → i64 t.num ∧ t.text.size ≤ 64 ∧ (t.kind = 1 → t.text.size ≠ 0)
theorem Nums.tail {l : List Tk} (h : Nums l) : Nums l.tail := fun t ht => h t (List.mem_of_mem_tail ht)
def Gd {α : Type} (sz : α → Nat) (ok : α → Prop) (a : Nat) (p : Par α) : Prop := ∀ l x r, Nums l → p l = .ok (x, r) → sz x + r.length ≤ l.length + a ∧ ok x ∧ Nums r
section
variable {α β : Type} {sz : α → Nat} {ok : α → Prop} {sz2 : β → Nat} {ok2 : β → Prop}
theorem Gd.ret {a : Nat} {x : α} (h : sz x ≤ a) (h2 : ok x) : Gd sz ok a (okP x) := fun l y r hn e => by
 cases e
 exact ⟨by omega, h2, hn⟩
theorem Gd.eats {a : Nat} {p : Par β} {f : β → Par α} (h : ∀ l x r, Nums l → p l = .ok (x, r) → r.length + 1 ≤ l.length ∧ Nums r) (hf : ∀ x, Gd sz ok (a + 1) (f x)) : Gd sz ok a (p.bind f) := fun l y r hn e => by
 obtain ⟨x, q, h1, h2⟩ := aE e
 obtain ⟨g1, g2⟩ := h l x q hn h1
 obtain ⟨k1, k2, k3⟩ := hf x q y r g2 h2
 exact ⟨by omega, k2, k3⟩
theorem Gd.with {a : Nat} {p : Par β} {f : β → Par α} (h : Gd sz2 ok2 0 p) (hf : ∀ x, ok2 x → Gd sz ok (a + sz2 x) (f x)) : Gd sz ok a (p.bind f) := fun l y r hn e => by
 obtain ⟨x, q, h1, h2⟩ := aE e
 obtain ⟨g1, g2, g3⟩ := h l x q hn h1
 obtain ⟨k1, k2, k3⟩ := hf x g2 q y r g3 h2
 exact ⟨by omega, k2, k3⟩
theorem Gd.tail {a : Nat} {p : Par α} {l : List Tk} {s : ByteArray} (ha : atS l 0 s = true) (h : Gd sz ok (a + 1) p) {x : α} {r : List Tk} (hn : Nums l) (e : p l.tail = .ok (x, r)) : sz x + r.length ≤ l.length + a ∧ ok x ∧ Nums r := by
 have q := bj ha
 obtain ⟨k1, k2, k3⟩ := h l.tail x r hn.tail e
 exact ⟨by omega, k2, k3⟩
end
def rz {α : Type} (p : Par α) : Prop := ∀ l x r, Nums l → p l = .ok (x, r) → r.length + 1 ≤ l.length ∧ Nums r
theorem bB (en : Int) (s : ByteArray) : rz (aX en s) := fun l x r hn e => by
 have h := aS en s _ _ _ e
 unfold aX at e
 split at e
 ·cases e; exact ⟨h, hn.tail⟩
 ·cases e
theorem iD (en : Int) : rz (dN en) := fun l x r hn e => by
 have h := cZ en _ _ _ e
 obtain ⟨t, q, h1, h2⟩ := aE e
 cases h2
 unfold dv at h1
 cases l with
 | nil => cases h1
 | cons a l =>
  dsimp only at h1
  split at h1
  ·cases h1; exact ⟨h, hn.tail⟩
  ·cases h1
theorem kC {α : Type} {sz : α → Nat} {ok : α → Prop} {szs : List α → Nat} {oks : List α → Prop} (hs : ∀ l x, szs (l ++ [x]) = szs l + sz x) (ho : ∀ l x, oks l → ok x → oks (l ++ [x])) (en : Int) (one : Par α) (h : Gd sz ok 0 one) :
    ∀ (f : Nat) (first : Bool) (acc : List α), oks acc → Gd szs oks (szs acc) (dy en one f first acc)
 | 0, _, _, _ => fun l x r hn e => by cases e
 | f + 1, first, acc, ha => fun l x r hn e => by
  rw [fF] at e
  split at e
  ·rename_i hq
   have := bj hq
   cases e
   exact ⟨by omega, ha, hn.tail⟩
  ·obtain ⟨_, q, h1, h2⟩ := aE e
   obtain ⟨y, q2, h3, h4⟩ := aE h2
   have g : q.length ≤ l.length ∧ Nums q := by
    cases first
    ·have := bB en eL l _ q hn h1; exact ⟨by omega, this.2⟩
    ·cases h1; exact ⟨Nat.le_refl _, hn⟩
   obtain ⟨k1, k2, k3⟩ := h q y q2 g.2 h3
   obtain ⟨j1, j2, j3⟩ := kC hs ho en one h f false (acc ++ [y]) (ho _ _ ha k2) q2 x r k3 h4
   rw [hs] at j1
   exact ⟨by omega, j2, j3⟩
theorem mZ (en : Int) (n : Nat) (N : Par Ex) (h : Gd szE okE 0 N) : ∀ (f : Nat) (x : Ex), okE x → Gd szE okE (szE x) (dm en n N f x)
 | 0, x, hx => Gd.ret (Nat.le_refl _) hx
 | f + 1, x, hx => fun l y r hn e => by
  rw [gJ] at e
  split at e
  ·cases e; exact ⟨by omega, hx, hn⟩
  ·rename_i s hs
   have hs2 := List.find?_some hs
   have hlt := bj hs2
   obtain ⟨z, q, h1, h2⟩ := aE e
   obtain ⟨k1, k2, k3⟩ := h _ _ _ hn.tail h1
   have hnew : ∀ p, okE (.mk 6 0 s [x, z] p) := fun p => by
    rw [okE, cT, cT, cT]
    exact ⟨⟨by constructor <;> decide, fun h => absurd h (by decide)⟩, hx, k2, trivial⟩
   have hsz : ∀ p, szE (.mk 6 0 s [x, z] p) = 1 + (szE x + szE z) := fun p => by rw [szE, aN, aN, aN]; omega
   split at h2
   ·cases h2
    exact ⟨by rw [hsz]; omega, hnew _, k3⟩
   ·obtain ⟨j1, j2, j3⟩ := mZ en n N h f _ (hnew (aM en l)) q y r k3 h2
    rw [hsz] at j1
    exact ⟨by omega, j2, j3⟩
theorem ja (en : Int) (one : Par Ex) (h : Gd szE okE 0 one) : ∀ j, Gd szE okE 0 (cF en one j)
 | 0 => h
 | j + 1 => fun l y r hn e => by
  have hj := ja en one h j
  obtain ⟨x, q, h1, h2⟩ := aE (show ((cF en one j).bind fun x r => dm en (4 - j) (cF en one j) (r.length + 1) x r) l = _ from e)
  obtain ⟨k1, k2, k3⟩ := hj _ _ _ hn h1
  obtain ⟨j1, j2, j3⟩ := mZ en (4 - j) _ hj _ _ k2 _ _ _ k3 h2
  exact ⟨by omega, j2, j3⟩
theorem Gd.le {α : Type} {sz : α → Nat} {ok : α → Prop} {a b : Nat} {p : Par α} (h : Gd sz ok a p) (hab : a ≤ b) : Gd sz ok b p := fun l x r hn e => by
 obtain ⟨k1, k2, k3⟩ := h l x r hn e
 exact ⟨by omega, k2, k3⟩
theorem lm (en : Int) (E : Par Ex) (h : Gd szE okE 0 E) : Gd szE okE 0 (dc en E) :=
 Gd.eats (bB en bW) fun _ => (h.with fun x hx => (Gd.eats (bB en cj) fun _ => Gd.ret (by omega) hx : Gd szE okE (1 + szE x) _) : Gd szE okE 1 _)
theorem iG : i64 0 := by constructor <;> decide
theorem su : i64 1 := by constructor <;> decide
theorem mX (op n : Int) (t : ByteArray) (x : Ex) (p : Int) : szE (.mk op n t [x] p) = 1 + szE x := by rw [szE, aN, aN]; omega
theorem m4 (op : Int) (t : ByteArray) {x : Ex} (p : Int) (h : okE x) (h3 : ¬ (op = 3 ∨ op = 4)) : okE (.mk op 0 t [x] p) := by rw [okE, cT, cT]; exact ⟨⟨iG, fun q => absurd q h3⟩, h, trivial⟩
theorem gX (op n : Int) (t : ByteArray) (p : Int) : szE (.mk op n t [] p) = 1 := by rw [szE, aN]
theorem gY (op : Int) {n : Int} (t : ByteArray) (p : Int) (h : i64 n) (h3 : op = 3 ∨ op = 4 → t.size ≤ 64) : okE (.mk op n t [] p) := by rw [okE, cT]; exact ⟨⟨h, h3⟩, trivial⟩
theorem ll (en : Int) (E : Par Ex) (h : Gd szE okE 0 E) : Gd szE okE 0 (fo en E) := fun l x r hn e => by
 have hk : ∀ op p, ¬ (op = 3 ∨ op = 4) → Gd szE okE 1 ((dc en E).bind (fun x => okP (.mk op 0 ByteArray.empty [x] p))) := fun op p h3 => (lm en E h).with fun x hx => Gd.ret (by rw [mX]; omega) (m4 _ _ _ hx h3)
 unfold fo at e
 split at e
 ·rename_i hq; have := bj hq; cases e; exact ⟨by rw [gX]; omega, gY _ _ _ su (fun h => absurd h (by decide)), hn.tail⟩
 ·split at e
  ·rename_i hq; have := bj hq; cases e; exact ⟨by rw [gX]; omega, gY _ _ _ iG (fun h => absurd h (by decide)), hn.tail⟩
  ·split at e
   ·exact lm en E h l x r hn e
   ·split at e
    ·rename_i hq; exact Gd.tail hq (hk _ _ (by decide)) hn e
    ·split at e
     ·rename_i hq; exact Gd.tail hq (hk _ _ (by decide)) hn e
     ·exact (Gd.eats (bB en qx) fun _ => hk _ _ (by decide)) l x r hn e
theorem ny (l : List Ex) (x : Ex) : aN (l ++ [x]) = aN l + szE x := by rw [jb, aN, aN]; omega
theorem nL (l : List Ex) (x : Ex) (h : cT l) (hx : okE x) : cT (l ++ [x]) := by rw [lT, cT, cT]; exact ⟨h, hx, trivial⟩
theorem mA (en : Int) (E : Par Ex) (h : Gd szE okE 0 E) : Gd szE okE 0 (cU en E) := fun l x r hn e => by
 unfold cU at e
 cases l with
 | nil => exact ll en E h _ _ _ hn e
 | cons a q =>
  have hq : Nums q := fun t ht => hn t (List.mem_cons_of_mem _ ht)
  dsimp only at e
  split at e
  ·cases e; exact ⟨by rw [gX]; simp; omega, gY _ _ _ (hn a (List.mem_cons_self ..)).1 (fun h => absurd h (by decide)), hq⟩
  ·split at e
   ·cases e; exact ⟨by rw [gX]; simp; omega, gY _ _ _ iG (fun _ => (hn a (List.mem_cons_self ..)).2.1), hq⟩
   ·split at e
    ·split at e
     ·rename_i hs
      have := bj hs
      obtain ⟨k, q2, h1, h2⟩ := aE e
      cases h2
      obtain ⟨k1, k2, k3⟩ := kC (szs := aN) (oks := cT) ny nL en E h (q.length + 1) true [] (by rw [cT]; trivial) _ _ _ hq.tail h1
      refine ⟨?_, ?_, k3⟩
      ·rw [szE]
       rw [aN] at k1
       simp only [List.length_cons]
       omega
      ·rw [okE]; exact ⟨⟨iG, fun h => absurd h (by decide)⟩, k2⟩
     ·cases e; exact ⟨by rw [gX]; simp; omega, gY _ _ _ iG (fun _ => (hn a (List.mem_cons_self ..)).2.1), hq⟩
    ·exact ll en E h _ _ _ hn e
theorem ph (en : Int) : ∀ k, Gd szE okE 0 (ea en k)
 | 0 => fun l x r hn e => by cases e
 | k + 1 => fun l x r hn e => by
  have ih := ph en k
  have hk : ∀ s p, Gd szE okE 1 ((ea en k).bind (fun x => okP (.mk 7 0 s [x] p))) := fun s p => ih.with fun x hx => Gd.ret (by rw [mX]; omega) (m4 _ _ _ hx (by decide))
  unfold ea at e
  split at e
  ·rename_i hq; exact Gd.tail hq (hk _ _) hn e
  ·split at e
   ·rename_i hq; exact Gd.tail hq (hk _ _) hn e
   ·exact mA en _ (ja en _ ih 5) l x r hn e
theorem qf (en : Int) (k : Nat) : Gd szE okE 0 (gj en k) := ja en _ (ph en k) 5
theorem n8 (l : List St) (x : St) : bC (l ++ [x]) = bC l + szS x := by rw [ld, bC, bC]; omega
theorem nZ (l : List St) (x : St) (h : dH l) (hx : okS x) : dH (l ++ [x]) := by rw [lY, dH, dH]; exact ⟨h, hx, trivial⟩
theorem fw (en : Int) (s : St) {a : Nat} (h : szS s ≤ a + 1) (hs : okS s) : Gd szS okS a (fK en s) := Gd.eats (bB en dK) fun _ => Gd.ret h hs
theorem eH (op : Int) (t : ByteArray) (es : List Ex) (b e : List St) (p : Int) : szS (.mk op t es b e p) = 1 + aN es + bC b + bC e := by rw [szS]
theorem gK (x : Ex) : aN [x] = szE x := by rw [aN, aN]; omega
theorem pe (x y : Ex) : aN [x, y] = szE x + szE y := by rw [aN, aN, aN]; omega
theorem eK : bC [] = 0 := by rw [bC]
theorem rR : aN [] = 0 := by rw [aN]
theorem gQ {x : Ex} (h : okE x) : cT [x] := by rw [cT, cT]; exact ⟨h, trivial⟩
theorem pR {x y : Ex} (h : okE x) (g : okE y) : cT [x, y] := by rw [cT, cT, cT]; exact ⟨h, g, trivial⟩
theorem de : dH [] := by rw [dH]; trivial
theorem rI : cT [] := by rw [cT]; trivial
theorem eN {op : Int} {t : ByteArray} {es : List Ex} {b e : List St} {p : Int} (h1 : cT es) (h2 : dH b) (h3 : dH e) (h0 : t.size ≤ 64 ∧ (op = 1 ∨ op = 2 ∨ op = 4 → t.size ≠ 0) := by decide) : okS (.mk op t es b e p) := by rw [okS]; exact ⟨h0, h1, h2, h3⟩
theorem ov {en : Int} {l r : List Tk} {x : ByteArray} (hn : Nums l) (e : dN en l = .ok (x, r)) : x.size ≤ 64 ∧ x.size ≠ 0 := by
 obtain ⟨t, q, h1, h2⟩ := aE e
 cases h2
 unfold dv at h1
 cases l with
 | nil => cases h1
 | cons a l =>
  dsimp only at h1
  split at h1
  ·rename_i hk
   cases h1; exact ⟨(hn _ (List.mem_cons_self ..)).2.1, (hn _ (List.mem_cons_self ..)).2.2 (eq_of_beq hk)⟩
  ·cases h1
theorem Gd.named {α : Type} {sz : α → Nat} {ok : α → Prop} {a : Nat} {en : Int} {f : ByteArray → Par α} (hf : ∀ x : ByteArray, x.size ≤ 64 ∧ x.size ≠ 0 → Gd sz ok (a + 1) (f x)) : Gd sz ok a ((dN en).bind f) := fun l y r hn e => by
 obtain ⟨x, q, h1, h2⟩ := aE e
 obtain ⟨h3, h4⟩ := iD en _ _ _ hn h1
 obtain ⟨k1, k2, k3⟩ := hf x (ov hn h1) _ _ _ h4 h2
 exact ⟨by omega, k2, k3⟩
theorem qq (en : Int) (E : Par Ex) (B : Par (List St)) (hE : Gd szE okE 0 E) (hB : Gd bC dH 0 B) : Gd szS okS 0 (gd en E B) := fun l x r hn e => by
 unfold gd at e
 dsimp only at e
 split at e
 ·rename_i hq
  refine Gd.tail hq (Gd.named fun n hnz => Gd.eats (bB en sEq) fun _ => hE.with fun x hx => fw en _ ?_ ?_) hn e
  ·rw [eH, gK, eK]; omega
  ·exact eN (gQ hx) de de ⟨hnz.1, fun _ => hnz.2⟩
 split at e
 ·rename_i hq
  refine Gd.tail hq (hE.with fun x hx => hB.with fun b hb => (fun l y r hn e => ?_ : Gd szS okS _ _)) hn e
  split at e
  ·rename_i hq2
   refine Gd.tail hq2 (hB.with fun e he => Gd.ret ?_ (eN (gQ hx) hb he)) hn e
   rw [eH, gK]; omega
  ·cases e
   exact ⟨by rw [eH, gK, eK]; omega, eN (gQ hx) hb de, hn⟩
 split at e
 ·rename_i hq
  refine Gd.tail hq (Gd.named fun n hnz => Gd.eats (bB en sEq) fun _ => hE.with fun x hx => Gd.eats (bB en sTo) fun _ => hE.with fun y hy => hB.with fun b hb => Gd.ret ?_ (eN (pR hx hy) hb de ⟨hnz.1, fun _ => hnz.2⟩)) hn e
  rw [eH, pe, eK]; omega
 split at e
 ·rename_i hq
  split at e
  ·exact Gd.tail hq (fw en _ (by rw [eH, rR, eK]; omega) (eN rI de de)) hn e
  ·refine Gd.tail hq (hE.with fun x hx => fw en _ ?_ (eN (gQ hx) de de)) hn e
   rw [eH, gK, eK]; omega
 split at e
 ·rename_i hq
  refine Gd.tail hq (Gd.eats (bB en bW) fun _ => hE.with fun x hx => Gd.eats (bB en eL) fun _ => hE.with fun y hy => Gd.eats (bB en cj) fun _ => fw en _ ?_ (eN (pR hx hy) de de)) hn e
  rw [eH, pe, eK]; omega
 split at e
 ·rename_i hq
  refine Gd.tail hq (Gd.eats (bB en bW) fun _ => hE.with fun x hx => Gd.eats (bB en cj) fun _ => fw en _ ?_ (eN (gQ hx) de de)) hn e
  rw [eH, gK, eK]; omega
 have h1 : Gd szS okS 0 ((dN en).bind fun n => (aX en sEq).bind fun _ => E.bind fun x => fK en (.mk 2 n [x] [] [] (aM en l))) :=
  Gd.named fun n hnz => Gd.eats (bB en sEq) fun _ => hE.with fun x hx => fw en _ (by rw [eH, gK, eK]; omega) (eN (gQ hx) de de ⟨hnz.1, fun _ => hnz.2⟩)
 have h2 : Gd szS okS 0 (E.bind fun x => fK en (.mk 8 ByteArray.empty [x] [] [] (aM en l))) :=
  hE.with fun x hx => fw en _ (by rw [eH, gK, eK]; omega) (eN (gQ hx) de de)
 split at e <;> split at e <;> first
  | exact h1 _ _ _ hn e
  | exact h2 _ _ _ hn e
theorem lV (en : Int) (P : Par St) (h : Gd szS okS 0 P) : ∀ (f : Nat) (acc : List St), dH acc → Gd bC dH (bC acc) (dR en P f acc)
 | 0, acc, _ => fun l x r hn e => by cases e
 | f + 1, acc, ha => fun l x r hn e => by
  rw [eB] at e
  split at e
  ·rename_i hq; have := bj hq; cases e; exact ⟨by omega, ha, hn.tail⟩
  ·obtain ⟨y, q, h1, h2⟩ := aE e
   obtain ⟨k1, k2, k3⟩ := h _ _ _ hn h1
   obtain ⟨j1, j2, j3⟩ := lV en P h f (acc ++ [y]) (nZ _ _ ha k2) _ _ _ k3 h2
   rw [n8] at j1
   exact ⟨by omega, j2, j3⟩
theorem jm (en : Int) : ∀ k, Gd bC dH 0 (da en k)
 | 0 => fun l x r hn e => by
  unfold da at e
  split at e <;> cases e
 | k + 1 => fun l x r hn e => by
  unfold da at e
  obtain ⟨y, q, h1, h2⟩ := aE e
  obtain ⟨g1, g2⟩ := bB en df _ _ _ hn h1
  obtain ⟨k1, k2, k3⟩ := lV en _ (qq en _ _ (qf en k) (jm en k)) _ [] de _ _ _ g2 h2
  rw [eK] at k1
  exact ⟨by omega, k2, k3⟩
theorem lk (en : Int) : rz (ig en) := fun l x r hn e => by
 unfold ig at e
 split at e
 ·rename_i hq; have := bj hq; cases e; exact ⟨this, hn.tail⟩
 ·split at e
  ·rename_i hq; have := bj hq; cases e; exact ⟨this, hn.tail⟩
  ·obtain ⟨y, q, h1, h2⟩ := aE e
   cases h2
   exact bB en fD _ _ _ hn h1
theorem po (en : Int) : Gd (fun _ : ByteArray × Int => 1) (fun p => p.1.size ≤ 64) 0 (iz en) :=
 Gd.named fun _ hn => Gd.eats (bB en gO) fun _ => Gd.eats (lk en) fun _ => Gd.ret (by omega) hn.1
theorem oF {en : Int} {l r : List Tk} {x : ByteArray} (hn : Nums l) (e : dN en l = .ok (x, r)) : x.size ≤ 64 := by
 obtain ⟨t, q, h1, h2⟩ := aE e
 cases h2
 unfold dv at h1
 cases l with
 | nil => cases h1
 | cons a l =>
  dsimp only at h1
  split at h1
  ·cases h1; exact (hn _ (List.mem_cons_self ..)).2.1
  ·cases h1
theorem qI (en : Int) : Gd szF (fun f => f.name.size ≤ 64 ∧ dH f.body ∧ ∀ p, p ∈ f.params → p.1.size ≤ 64) 0 (ew en) := fun l x r hn e => by
 unfold ew at e
 obtain ⟨_, q1, h1, e⟩ := aE e
 obtain ⟨n, q2, h2, e⟩ := aE e
 obtain ⟨_, q3, h3, e⟩ := aE e
 obtain ⟨ps, q4, h4, e⟩ := aE e
 obtain ⟨a1, n1⟩ := bB en sFn _ _ _ hn h1
 obtain ⟨a2, n2⟩ := iD en _ _ _ n1 h2
 have hns := oF n1 h2
 obtain ⟨a3, n3⟩ := bB en bW _ _ _ n2 h3
 obtain ⟨a4, o4, n4⟩ := kC (szs := List.length) (oks := fun l => ∀ p, p ∈ l → p.1.size ≤ 64) (fun l x => by simp) (fun l x h hx p hp => (List.mem_append.1 hp).elim (h p) (fun q => List.mem_singleton.1 q ▸ hx)) en _ (po en) _ _ [] (fun p h => by cases h) _ _ _ n3 h4
 simp only [List.length_nil] at a4
 split at e
 ·rename_i hq
  have := bj hq
  obtain ⟨t, q5, h5, e⟩ := aE e
  obtain ⟨b, q6, h6, e⟩ := aE e
  obtain ⟨a5, n5⟩ := lk en _ _ _ n4.tail h5
  obtain ⟨a6, o6, n6⟩ := jm en 32 _ _ _ n5 h6
  cases e
  exact ⟨by unfold szF; dsimp only; omega, ⟨hns, o6, o4⟩, n6⟩
 ·obtain ⟨b, q6, h6, e⟩ := aE e
  obtain ⟨a6, o6, n6⟩ := jm en 32 _ _ _ n4 h6
  cases e
  exact ⟨by unfold szF; dsimp only; omega, ⟨hns, o6, o4⟩, n6⟩
theorem nn (en : Int) : ∀ (f : Nat) (acc : List Fn), ft acc → Gd du ft (du acc) (eD en f acc)
 | 0, acc, ha => fun l x r hn e => by cases e; exact ⟨by omega, ha, hn⟩
 | f + 1, acc, ha => fun l x r hn e => by
  unfold eD at e
  split at e
  ·cases e; exact ⟨by omega, ha, hn⟩
  ·obtain ⟨y, q, h1, e⟩ := aE e
   obtain ⟨k1, k2, k3⟩ := qI en _ _ _ hn h1
   obtain ⟨j1, j2, j3⟩ := nn en f (acc ++ [y]) (by rw [lf, ft, ft]; exact ⟨ha, k2, trivial⟩) _ _ _ k3 e
   rw [kY, du, du] at j1
   exact ⟨by omega, j2, j3⟩
theorem pN : ∀ (l : List UInt8) (n m : Nat), n ≤ 9223372036854775807 → fi l n = some m → m ≤ 9223372036854775807
 | [], n, m, hn, e => by rw [fi] at e; cases e; exact hn
 | c :: r, n, m, hn, e => by
  rw [fi] at e
  split at e
  ·cases e
  ·rename_i h
   refine pN r _ m ?_ e
   have h2 : n ≤ (9223372036854775807 - (c.toNat - 48)) / 10 := by omega
   have := c.toNat_lt
   omega
theorem mp (l : List UInt8) (hl : l.length ≤ 2) : (bE l).length ≤ 64 := by
 unfold bE
 repeat' split
 all_goals simp
 all_goals omega
theorem jU (s : List UInt8) (a q : Nat) : (bX s a q).length ≤ q - a := by
 unfold bX
 simp
 omega
theorem mK {l : List UInt8} (h : eZ l = true) : l.length ≤ 64 := by
 have key : ∀ l, l ∈ wordTab → l.length ≤ 64 := by decide
 unfold eZ at h
 exact key l (by simpa using h)
theorem pz {s : List UInt8} {a : Nat} {t : Tk} {q : Nat} (h : b9 s a = .ok (t, q)) : i64 t.num ∧ t.text.size ≤ 64 ∧ (t.kind = 1 → t.text.size ≠ 0) := by
 have h0 : ∀ k l p, l.length ≤ 64 → (k = 1 → l.length ≠ 0) → i64 (ed k l 0 p).num ∧ (ed k l 0 p).text.size ≤ 64 ∧ ((ed k l 0 p).kind = 1 → (ed k l 0 p).text.size ≠ 0) := fun _ _ _ hl h1 => ⟨iG, hl, h1⟩
 unfold b9 at h
 dsimp only at h
 split at h
 ·rename_i hlt
  have hcut : (bX s a (aW bZ s a)).length ≠ 0 := by
   have ha : a < s.length := by
    refine Nat.lt_of_not_le fun hle => ?_
    rw [List.getD_eq_getElem?_getD, List.getElem?_eq_none hle] at hlt
    exact absurd hlt (by decide)
   rw [List.getD_eq_getElem?_getD, List.getElem?_eq_getElem ha] at hlt
   have h1 := dE (p := bZ) ha (by unfold bZ; rw [show eG s[a] = true from hlt]; rfl)
   have h2 := dA bZ s (a + 1)
   have h3 := dM (p := bZ) (s := s) (a := a) (by omega)
   unfold bX
   rw [List.length_take, List.length_drop]
   omega
  split at h
  ·rename_i hw; cases h; exact h0 _ _ _ (mK hw) (fun h => absurd h (by decide))
  ·split at h
   ·cases h
   ·rename_i h16; cases h; exact h0 _ _ _ (by omega) (fun _ => hcut)
 ·split at h
  ·split at h
   ·cases h
   ·rename_i n hn
    cases h
    have := pN _ _ _ (by omega) hn
    refine ⟨?_, by show 0 ≤ 64; omega, fun h => absurd (show (2 : Int) = 1 from h) (by decide)⟩
    show i64 (n : Int)
    constructor <;> omega
  ·split at h
   ·split at h
    ·cases h
    ·split at h
     ·cases h
     ·rename_i h64
      cases h
      refine h0 _ _ _ ?_ (fun h => absurd h (by decide))
      have := jU s (a + 1) (aW cY s (a + 1))
      omega
   ·split at h
    ·cases h
    ·cases h
     refine h0 _ _ _ (mp _ ?_) (fun h => absurd h (by decide))
     have := jU s a (min (a + 2) s.length)
     omega
theorem lW (s : List UInt8) : ∀ (f a : Nat) (out l : List Tk), Nums out → out.length ≤ 2048 → io s f a out = .ok l → Nums l ∧ l.length ≤ 2048
 | 0, a, out, l, ho, hl, e => by cases e; exact ⟨ho, hl⟩
 | f + 1, a, out, l, ho, hl, e => by
  unfold io at e
  split at e
  ·split at e
   ·cases e
   ·rename_i t q hn
    split at e
    ·cases e
    ·rename_i hne
     refine lW s f _ _ l (fun x hx => ?_) (by simp; omega) e
     rcases List.mem_append.1 hx with hx | hx
     ·exact ho x hx
     ·rw [List.mem_singleton] at hx
      subst hx
      exact pz hn
  ·cases e; exact ⟨ho, hl⟩
theorem jI {s : List UInt8} {l : List Fn} (h : cW s = .ok l) : du l ≤ 2048 ∧ ft l ∧ (bw l).1 = 0 := by
 unfold cW at h
 split at h
 ·cases h
 ·rename_i p hp
  split at h
  ·cases h
  ·rename_i hc
   cases h
   refine ⟨?_, ?_, by simpa using hc⟩
   all_goals
    unfold dk at hp
    split at hp
    ·cases hp
    ·rename_i tk ht
     split at hp
     ·cases hp
     ·rename_i x r hq
      cases hp
      unfold fM at ht
      split at ht
      ·cases ht
      ·obtain ⟨hn, hl⟩ := lW s _ _ _ _ (fun t h => by cases h) (by simp) ht
       obtain ⟨k1, k2, _⟩ := nn _ _ [] (by rw [ft]; trivial) _ _ _ hn hq
       rw [du] at k1
       first
        | exact k2
        | omega
end
end Go.Proofs.YtjblihabklemfaaGreatDoor
