/-
  Compile: part 52 of its proof: see the last text.
-/
import Derived.Test.YtjblihabklemfaaGreatDoorPm20
import Derived.Test.YtjblihabklemfaaGreatDoorPm21
set_option maxRecDepth 100000
set_option maxHeartbeats 16000000
namespace Go.Proofs.YtjblihabklemfaaGreatDoor
section
open Go.RowKit
def vQ (s : List UInt8) (a t : Int) : Prop :=
 ((s = [45] ∨ s = [42] ∨ s = [47] ∨ s = [37]) ∧ a = 1 ∧ t = 1) ∨ ((s = [60] ∨ s = [60, 61] ∨ s = [62] ∨ s = [62, 61]) ∧ a = 1 ∧ t = 2) ∨ ((s = [38, 38] ∨ s = [124, 124]) ∧ a = 2 ∧ t = 2) ∨
  (s = [43] ∧ a ≠ 0 ∧ a ≠ 2 ∧ t = a) ∨ ((s = [61, 61] ∨ s = [33, 61]) ∧ a ≠ 0 ∧ t = 2)
def vP (G : aQ) (V : aV) (op : Int) (text : ByteArray) (ts : List Int) (t : Int) : Prop :=
 (op = 1 ∧ ts = [] ∧ t = 1) ∨ (op = 2 ∧ ts = [] ∧ t = 2) ∨ (op = 3 ∧ ts = [] ∧ t = 3) ∨ (op = 4 ∧ ts = [] ∧ ∃ x, aF V text = some (t, x)) ∨
  (op = 5 ∧ ∃ fn, aF G text = some fn ∧ ts = fn.params.map (·.2) ∧ t = fn.result) ∨ (op = 6 ∧ ∃ a, ts = [a, a] ∧ vQ text.toList a t) ∨
  (op = 7 ∧ ((text.toList = [45] ∧ ts = [1] ∧ t = 1) ∨ (text.toList = [33] ∧ ts = [2] ∧ t = 2))) ∨ (op = 8 ∧ ts = [3] ∧ t = 3) ∨ (op = 9 ∧ ts = [3] ∧ t = 2) ∨ (op = 10 ∧ ts = [3] ∧ t = 1)
mutual
def TyE (G : aQ) (V : aV) : Ex → Int → Prop
 | .mk op _ text ks _, t => ∃ ts, vP G V op text ts t ∧ TyEs G V ks ts
def TyEs (G : aQ) (V : aV) : List Ex → List Int → Prop
 | [], ts => ts = []
 | x :: l, ts => ∃ t r, ts = t :: r ∧ TyE G V x t ∧ TyEs G V l r
end
theorem TyEs.len {G : aQ} {V : aV} : ∀ {l : List Ex} {ts : List Int}, TyEs G V l ts → l.length = ts.length
 | [], ts, h => by rw [TyEs] at h; rw [h]; rfl
 | x :: l, ts, h => by
  rw [TyEs] at h
  obtain ⟨t, r, rfl, _, h⟩ := h
  simpa using TyEs.len h
theorem uc {r : Int × Flt} {t pos : Int} (h : (ip r t pos).1 = 0) : r.1 = t := by
 unfold ip at h
 split at h
 ·rename_i g; exact absurd h g
 ·exact eq_of_beq (ql (by decide) h)
theorem ug {α : Type} {l : List α} (h : l.length = 1) : ∃ x, l = [x] := by
 match l, h with
 | [x], _ => exact ⟨x, rfl⟩
mutual
theorem tR {G : aQ} {V : aV} : ∀ x : Ex, (aG G V x).2.1 = 0 → TyE G V x (aG G V x).1
 | .mk op num text ks pos => by
  intro e
  rw [TyE]
  rw [aG] at e ⊢
  by_cases c1 : cf op = -2 ∨ (0 ≤ cf op ∧ cf op ≠ ks.length)
  ·simp only [if_pos c1] at e
   exact absurd e (by decide)
  simp only [if_neg c1] at e ⊢
  have hlen : 0 ≤ cf op → cf op = ks.length := fun h => by
   by_cases q : cf op = ks.length
   ·exact q
   ·exact absurd (Or.inr ⟨h, q⟩) c1
  have hall := fun ts e h => uE (G := G) (V := V) ks ts e h
  have hnil : cf op = 0 → TyEs G V ks [] := fun h => by
   have hk : ks = [] := List.eq_nil_of_length_eq_zero (by have := hlen (by omega); omega)
   rw [hk, TyEs]
  have hone : cf op = 1 → ks.length = 1 := fun h => by have := hlen (by omega); omega
  by_cases c2 : op = 1
  ·subst c2
   simp only [if_true]
   exact ⟨[], .inl ⟨rfl, rfl, rfl⟩, hnil (by decide)⟩
  simp only [if_neg c2] at e ⊢
  by_cases c3 : op = 2
  ·subst c3
   simp only [if_true]
   exact ⟨[], .inr (.inl ⟨rfl, rfl, rfl⟩), hnil (by decide)⟩
  simp only [if_neg c3] at e ⊢
  by_cases c4 : op = 3
  ·subst c4
   simp only [if_true]
   exact ⟨[], .inr (.inr (.inl ⟨rfl, rfl, rfl⟩)), hnil (by decide)⟩
  simp only [if_neg c4] at e ⊢
  by_cases c5 : op = 4
  ·subst c5
   simp only [if_true] at e ⊢
   refine ⟨[], .inr (.inr (.inr (.inl ⟨rfl, rfl, ?_⟩))), hnil (by decide)⟩
   have hs := ql (by decide) e
   cases hl : aF V text with
   | none => rw [hl] at hs; cases hs
   | some p => exact ⟨p.2, rfl⟩
  simp only [if_neg c5] at e ⊢
  by_cases c6 : op = 5
  ·simp only [if_pos c6] at e ⊢
   cases hl : aF G text with
   | none =>
    rw [hl] at e
    exact absurd e (by simp)
   | some fn =>
    rw [hl] at e
    dsimp only at e ⊢
    by_cases c7 : fn.params.length ≠ ks.length
    ·simp only [if_pos c7] at e
     exact absurd e (by decide)
    simp only [if_neg c7] at e ⊢
    exact ⟨_, .inr (.inr (.inr (.inr (.inl ⟨c6, fn, hl, rfl, rfl⟩)))), hall _ e (by simp; omega)⟩
  simp only [if_neg c6] at e ⊢
  by_cases c7 : op = 6
  ·simp only [if_pos c7] at e ⊢
   have h2 : ks.length = 2 := by
    subst c7
    have := hlen (by decide)
    have e2 : cf 6 = 2 := by decide
    omega
   by_cases c8 : (b8 text.toList).1 ≠ 0
   ·simp only [if_pos c8] at e ⊢
    refine ⟨_, .inr (.inr (.inr (.inr (.inr (.inl ⟨c7, _, rfl, ?_⟩))))), hall _ e (by simp [h2])⟩
    unfold b8 at c8 ⊢
    split
    ·rename_i q; exact .inl ⟨q, rfl, rfl⟩
    split
    ·rename_i q; exact .inr (.inl ⟨q, rfl, rfl⟩)
    split
    ·rename_i q; exact .inr (.inr (.inl ⟨q, rfl, rfl⟩))
    ·rename_i q1 q2 q3
     rw [if_neg q1, if_neg q2, if_neg q3] at c8
     exact absurd rfl c8
   simp only [if_neg c8] at e ⊢
   by_cases c9 : text.toList ≠ [43] ∧ text.toList ≠ [61, 61] ∧ text.toList ≠ [33, 61]
   ·simp only [if_pos c9] at e
    exact absurd e (by decide)
   simp only [if_neg c9] at e ⊢
   by_cases c10 : (cH G V (text.toList == [43]) ks).1.1 ≠ 0
   ·simp only [if_pos c10] at e
    exact absurd e c10
   simp only [if_neg c10] at e ⊢
   obtain ⟨h3, h4⟩ := uI (G := G) (V := V) (text.toList == [43]) ks (by simpa using c10)
   have hl := h3.len
   have heq := eq_of_beq (ql (by decide) e)
   generalize (cH G V (text.toList == [43]) ks).2 = ts at *
   match ts, hl with
   | [], hl => rw [h2] at hl; cases hl
   | [_], hl => rw [h2] at hl; cases hl
   | _ :: _ :: _ :: _, hl => rw [h2] at hl; simp at hl
   | [a, b], _ =>
    have hab : a = b := heq
    subst hab
    refine ⟨[a, a], .inr (.inr (.inr (.inr (.inr (.inl ⟨c7, a, rfl, ?_⟩))))), h3⟩
    obtain ⟨q1, q2⟩ := h4 a (by simp)
    by_cases c11 : text.toList = [43]
    ·rw [if_pos c11]
     exact .inr (.inr (.inr (.inl ⟨c11, q1, q2 (by rw [c11]; rfl), rfl⟩)))
    ·rw [if_neg c11]
     refine .inr (.inr (.inr (.inr ⟨?_, q1, rfl⟩)))
     by_cases c12 : text.toList = [61, 61]
     ·exact .inl c12
     ·by_cases c13 : text.toList = [33, 61]
      ·exact .inr c13
      ·exact absurd ⟨c11, c12, c13⟩ c9
  simp only [if_neg c7] at e ⊢
  by_cases c8 : op = 7
  ·simp only [if_pos c8] at e ⊢
   have h1 : ks.length = 1 := hone (by subst c8; decide)
   by_cases c9 : text.toList = [45]
   ·simp only [if_pos c9] at e ⊢
    exact ⟨[1], .inr (.inr (.inr (.inr (.inr (.inr (.inl ⟨c8, .inl ⟨c9, rfl, rfl⟩⟩)))))), hall _ e (by simp [h1])⟩
   simp only [if_neg c9] at e ⊢
   by_cases c10 : text.toList = [33]
   ·simp only [if_pos c10] at e ⊢
    exact ⟨[2], .inr (.inr (.inr (.inr (.inr (.inr (.inl ⟨c8, .inr ⟨c10, rfl, rfl⟩⟩)))))), hall _ e (by simp [h1])⟩
   simp only [if_neg c10] at e
   exact absurd e (by decide)
  simp only [if_neg c8] at e ⊢
  by_cases c9 : op = 9
  ·simp only [if_pos c9] at e ⊢
   have h1 : ks.length = 1 := hone (by subst c9; decide)
   exact ⟨[3], .inr (.inr (.inr (.inr (.inr (.inr (.inr (.inr (.inl ⟨c9, rfl, rfl⟩)))))))), hall _ e (by simp [h1])⟩
  simp only [if_neg c9] at e ⊢
  by_cases c10 : op = 10
  ·simp only [if_pos c10] at e ⊢
   have h1 : ks.length = 1 := hone (by subst c10; decide)
   exact ⟨[3], .inr (.inr (.inr (.inr (.inr (.inr (.inr (.inr (.inr ⟨c10, rfl, rfl⟩)))))))), hall _ e (by simp [h1])⟩
  simp only [if_neg c10] at e ⊢
  have c11 : op = 8 := by
   by_cases q : op = 8
   ·exact q
   ·exfalso
    refine c1 (.inl ?_)
    unfold cf
    rw [if_neg (by omega), if_neg (by omega), if_neg c7, if_neg c6]
  have h1 : ks.length = 1 := hone (by subst c11; decide)
  exact ⟨[3], .inr (.inr (.inr (.inr (.inr (.inr (.inr (.inl ⟨c11, rfl, rfl⟩))))))), hall _ e (by simp [h1])⟩
theorem uE {G : aQ} {V : aV} : ∀ (l : List Ex) (ts : List Int), (bV G V l ts).1 = 0 → l.length = ts.length → TyEs G V l ts
 | [], ts => fun _ h => by rw [TyEs]; exact List.eq_nil_of_length_eq_zero h.symm
 | x :: l, [] => fun _ h => by cases h
 | x :: l, t :: ts => fun e h => by
  rw [bV] at e
  obtain ⟨e1, e2⟩ := bG e
  rw [TyEs]
  have h1 := tR (G := G) (V := V) x (gM e1)
  rw [uc e1] at h1
  exact ⟨t, ts, rfl, h1, uE l ts e2 (by simpa using h)⟩
theorem uI {G : aQ} {V : aV} (plus : Bool) : ∀ l : List Ex, (cH G V plus l).1.1 = 0 → TyEs G V l (cH G V plus l).2 ∧ ∀ t, t ∈ (cH G V plus l).2 → t ≠ 0 ∧ (plus = true → t ≠ 2)
 | [] => fun _ => by rw [cH, TyEs]; exact ⟨rfl, fun t h => by cases h⟩
 | k :: l => fun e => by
  rw [cH] at e ⊢
  by_cases c0 : (aG G V k).2.1 = 0
  ·simp only [if_pos c0] at e ⊢
   by_cases c : (noC ((aG G V k).1 != 0 && !(plus && (aG G V k).1 == 2)) 51 k.pos).1 ≠ 0
   ·rw [if_pos c] at e
    exact absurd e c
   rw [if_neg c] at e ⊢
   have hq := ql (by decide) (show (noC ((aG G V k).1 != 0 && !(plus && (aG G V k).1 == 2)) 51 k.pos).1 = 0 by simpa using c)
   obtain ⟨h1, h2⟩ := uI (G := G) (V := V) plus l e
   rw [TyEs]
   refine ⟨⟨_, _, rfl, tR k c0, h1⟩, fun t ht => ?_⟩
   rcases List.mem_cons.1 ht with rfl | ht
   ·simp only [Bool.and_eq_true, bne_iff_ne, ne_eq, Bool.not_eq_true', Bool.and_eq_false_iff, beq_eq_false_iff_ne] at hq
    exact ⟨hq.1, fun hp => hq.2.resolve_left (by rw [hp]; decide)⟩
   ·exact h2 t ht
  ·simp only [if_neg c0] at e
   rw [if_pos c0] at e
   exact absurd e c0
end
def u9 (G : aQ) (res : Int) (s : St) (V : aV) : aV := (bR G res s V).1
mutual
def TyS (G : aQ) (res : Int) : St → aV → Prop
 | .mk op text es body els _, V =>
  (op = 1 ∧ body = [] ∧ els = [] ∧ aF V text = none ∧ ∃ x, es = [x] ∧ TyE G V x (aG G V x).1 ∧ (aG G V x).1 ≠ 0) ∨
  (op = 2 ∧ body = [] ∧ els = [] ∧ ∃ x t, es = [x] ∧ aF V text = some (t, false) ∧ TyE G V x t) ∨
  (op = 3 ∧ (∃ x, es = [x] ∧ TyE G V x 2) ∧ uh G res body V ∧ uh G res els V) ∨
  (op = 4 ∧ els = [] ∧ aF V text = none ∧ TyEs G V es [1, 1] ∧ uh G res body (bJ V text (1, true))) ∨
  (op = 5 ∧ body = [] ∧ els = [] ∧ ((es = [] ∧ res = 0) ∨ ∃ x, es = [x] ∧ TyE G V x res ∧ res ≠ 0)) ∨
  (op = 6 ∧ body = [] ∧ els = [] ∧ TyEs G V es [3, 3]) ∨
  (op = 7 ∧ body = [] ∧ els = [] ∧ TyEs G V es [3]) ∨
  (op = 8 ∧ body = [] ∧ els = [] ∧ ∃ x t, es = [x] ∧ TyE G V x t ∧ x.op = 5)
def uh (G : aQ) (res : Int) : List St → aV → Prop
 | [], _ => True
 | s :: l, V => TyS G res s V ∧ uh G res l (u9 G res s V)
end
theorem vm {G : aQ} {res : Int} {V : aV} : uh G res [] V := by rw [uh]; trivial
theorem vG {G : aQ} {res : Int} (text : ByteArray) (x : Ex) (p : Int) (V : aV) : u9 G res (.mk 1 text [x] [] [] p) V = bJ V text ((aG G V x).1, false) := by
 unfold u9
 rw [bR]
 rfl
theorem vv {G : aQ} {res : Int} {op : Int} (h : op ≠ 1) (text : ByteArray) (es : List Ex) (body els : List St) (p : Int) (V : aV) : u9 G res (.mk op text es body els p) V = V := by
 unfold u9
 rw [bR]
 dsimp only
 rw [if_neg h]
 split
 ·rfl
 split
 ·rfl
 split
 ·rfl
 split
 ·rfl
 split
 ·rfl
 split
 ·rfl
 rfl
mutual
theorem vA {G : aQ} (res : Int) : ∀ (s : St) (V : aV), (bR G res s V).2.1 = 0 → TyS G res s V
 | .mk op text es body els pos, V => by
  intro e
  rw [bR] at e
  dsimp only at e
  rw [TyS]
  by_cases c0 : cw (.mk op text es body els pos) = false
  ·rw [if_pos c0] at e
   exact absurd e (by simp)
  have h6 : op = 6 → es.length = 2 := fun q => by
   have h : cw (.mk op text es body els pos) = true := by simpa using c0
   subst q
   change (es.length == 2 && body.length == 0 && els.length == 0) = true at h
   simp at h
   exact h.1.1
  have h4 : op = 4 → es.length = 2 := fun q => by
   have h : cw (.mk op text es body els pos) = true := by simpa using c0
   subst q
   change (es.length == 2 && els.length == 0) = true at h
   simp at h
   exact h.1
  rw [if_neg c0] at e
  obtain ⟨s1, s6, s5, s3, s4, sall⟩ := kX c0
  by_cases c1 : op = 1
  ·rw [if_pos c1] at e
   obtain ⟨q1, q2, q3⟩ := s1 (.inl c1)
   obtain ⟨x, rfl⟩ := ug q1
   obtain ⟨e1, e2⟩ := bG e
   obtain ⟨e2, e3⟩ := bG e2
   refine .inl ⟨c1, q2, q3, ?_, x, rfl, tR x e1, ?_⟩
   ·have := ql (by decide) e3
    cases hl : aF V text with
    | none => rfl
    | some p => rw [hl] at this; cases this
   ·have := ql (by decide) e2
    exact bne_iff_ne.1 this
  rw [if_neg c1] at e
  by_cases c2 : op = 2
  ·rw [if_pos c2] at e
   obtain ⟨q1, q2, q3⟩ := s1 (.inr (.inl c2))
   obtain ⟨x, rfl⟩ := ug q1
   obtain ⟨e1, e2⟩ := bG e
   obtain ⟨e2, e3⟩ := bG e2
   have h1 := ql (by decide) e1
   have h2 := ql (by decide) e2
   cases hl : aF V text with
   | none => rw [hl] at h1; cases h1
   | some p =>
    obtain ⟨t, b⟩ := p
    rw [hl] at h2 e3
    have hb : b = false := by simpa using h2
    subst hb
    have h3 := tR (G := G) (V := V) x (gM e3)
    rw [show (aG G V x).1 = t from uc e3] at h3
    exact .inr (.inl ⟨c2, q2, q3, x, t, rfl, rfl, h3⟩)
  rw [if_neg c2] at e
  by_cases c3 : op = 3
  ·rw [if_pos c3] at e
   obtain ⟨x, rfl⟩ := ug (s3 c3)
   obtain ⟨e1, e2⟩ := bG e
   obtain ⟨e2, e3⟩ := bG e2
   have h3 := tR (G := G) (V := V) x (gM e1)
   rw [show (aG G V x).1 = 2 from uc e1] at h3
   exact .inr (.inr (.inl ⟨c3, ⟨x, rfl, h3⟩, tZ res body V e2, tZ res els V e3⟩))
  rw [if_neg c3] at e
  by_cases c4 : op = 4
  ·rw [if_pos c4] at e
   obtain ⟨e1, e2⟩ := bG e
   obtain ⟨e2, e3⟩ := bG e2
   refine .inr (.inr (.inr (.inl ⟨c4, s4 c4, ?_, uE es _ e1 (h4 c4), tZ res body _ e3⟩)))
   have := ql (by decide) e2
   cases hl : aF V text with
   | none => rfl
   | some p => rw [hl] at this; cases this
  rw [if_neg c4] at e
  by_cases c5 : op = 5
  ·rw [if_pos c5] at e
   obtain ⟨q1, q2, q3⟩ := s5 c5
   refine .inr (.inr (.inr (.inr (.inl ⟨c5, q2, q3, ?_⟩))))
   by_cases c6 : es.length = 0
   ·simp only [if_pos c6] at e
    exact .inl ⟨List.eq_nil_of_length_eq_zero c6, eq_of_beq (ql (by decide) e)⟩
   ·simp only [if_neg c6] at e
    obtain ⟨x, rfl⟩ := ug (show es.length = 1 by omega)
    obtain ⟨e1, e2⟩ := bG e
    have h1 := ql (by decide) e2
    simp only [Bool.and_eq_true, bne_iff_ne, ne_eq] at h1
    have h3 := tR (G := G) (V := V) x e1
    have h2 : (aG G V x).1 = res := eq_of_beq h1.1
    rw [h2] at h3
    exact .inr ⟨x, rfl, h3, by rw [← h2]; exact h1.2⟩
  rw [if_neg c5] at e
  by_cases c8 : op = 8
  ·rw [if_pos c8] at e
   obtain ⟨q1, q2, q3⟩ := s1 (by omega)
   obtain ⟨x, rfl⟩ := ug q1
   obtain ⟨e1, e2⟩ := bG e
   exact .inr (.inr (.inr (.inr (.inr (.inr (.inr ⟨c8, q2, q3, x, _, rfl, tR x e1, eq_of_beq (ql (by decide) e2)⟩))))))
  rw [if_neg c8] at e
  by_cases c6 : op = 6
  ·refine .inr (.inr (.inr (.inr (.inr (.inl ⟨c6, (s6 c6).1, (s6 c6).2, uE es _ e (h6 c6)⟩)))))
  ·have c7 : op = 7 := by omega
   obtain ⟨q1, q2, q3⟩ := s1 (by omega)
   obtain ⟨x, rfl⟩ := ug q1
   refine .inr (.inr (.inr (.inr (.inr (.inr (.inl ⟨c7, q2, q3, ?_⟩))))))
   rw [bV] at e
   have h1 := tR (G := G) (V := V) x (gM (bG e).1)
   rw [show (aG G V x).1 = 3 from uc (bG e).1] at h1
   rw [TyEs]
   exact ⟨3, [], rfl, h1, by rw [TyEs]⟩
theorem tZ {G : aQ} (res : Int) : ∀ (l : List St) (V : aV), (be G res l V).1 = 0 → uh G res l V
 | [], _ => fun _ => vm
 | s :: l, V => by
  intro e
  rw [be] at e
  rw [uh]
  by_cases c : (bR G res s V).2.1 ≠ 0
  ·rw [if_pos c] at e
   exact absurd e c
  rw [if_neg c] at e
  exact ⟨vA res s V (by simpa using c), tZ res l _ e⟩
end
structure TyF (G : aQ) (f : Fn) : Prop where
 pars : (cq f.pos f.params []).1.1 = 0
 res : 0 ≤ f.result ∧ f.result ≤ 3
 body : uh G f.result f.body (cq f.pos f.params []).2
 ends : f.result = 0 ∨ bK f.body = true
 few : f.params.length ≤ 16
theorem vM {G : aQ} {f : Fn} (e : (dL G f).1 = 0) : TyF G f := by
 unfold dL at e
 dsimp only at e
 by_cases c1 : (cq f.pos f.params []).1.1 ≠ 0
 ·rw [if_pos c1] at e
  exact absurd e c1
 rw [if_neg c1] at e
 by_cases c2 : f.result < 0 ∨ 3 < f.result
 ·rw [if_pos c2] at e
  exact absurd e (by simp)
 rw [if_neg c2] at e
 by_cases c3 : 16 < f.params.length ∨ 64 < wrap64 (f.params.length + cy 0 f.body)
 ·rw [if_pos c3] at e
  exact absurd e (by simp)
 rw [if_neg c3] at e
 obtain ⟨e1, e2⟩ := bG e
 refine ⟨by simpa using c1, by omega, tZ _ _ _ e1, ?_, by omega⟩
 have := ql (by decide) e2
 simpa using this
theorem vf (pos : Int) : ∀ (l : List (ByteArray × Int)) (V : aV), (cq pos l V).1.1 = 0 → ∀ p, p ∈ l → 1 ≤ p.2 ∧ p.2 ≤ 3
 | [], _ => fun _ p h => by cases h
 | q :: l, V => fun e p h => by
  rw [cq] at e
  split at e
  ·exact absurd e (by simp)
  split at e
  ·exact absurd e (by simp)
  ·rename_i c
   rcases List.mem_cons.1 h with rfl | h
   ·omega
   ·exact vf pos l _ e p h
def tN (F : List Fn) (G : aQ) : Prop := ∀ k fn, aF G k = some fn → bI F k < F.length ∧ F.getD (bI F k) default = fn
theorem uB : ∀ (a b : List Fn) (k : ByteArray), (∀ f, f ∈ a → f.name ≠ k) → bI (a ++ b) k = a.length + bI b k
 | [], b, k, _ => by rw [List.nil_append, List.length_nil, Nat.zero_add]
 | f :: a, b, k, h => by
  rw [List.cons_append, bI, if_neg (h f (List.mem_cons_self ..)), uB a b k (fun g hg => h g (List.mem_cons_of_mem _ hg)), List.length_cons]
  omega
theorem uL : ∀ (a b : List Fn) (k : ByteArray), bI a k < a.length → bI (a ++ b) k = bI a k
 | f :: a, b, k, h => by
  rw [List.cons_append, bI]
  rw [bI] at h ⊢
  by_cases c : f.name = k
  ·rw [if_pos c, if_pos c]
  ·rw [if_neg c] at h
   rw [if_neg c, if_neg c, uL a b k (by simpa using h)]
theorem us : ∀ (l a : List Fn) (G : aQ), (cD l G).1.1 = 0 → tN a G → (∀ f, f ∈ a → (aF G f.name).isSome) → (a.map (·.name)).Nodup → tN (a ++ l) (cD l G).2 ∧ ((a ++ l).map (·.name)).Nodup
 | [], a, G, _, h, _, hn => by rw [cD, List.append_nil]; exact ⟨h, hn⟩
 | f :: l, a, G, e, h, hs, hn => by
  rw [cD] at e ⊢
  by_cases c : (aF G f.name).isSome
  ·rw [if_pos c] at e
   exact absurd e (by simp)
  rw [if_neg c] at e ⊢
  have hne : ∀ g, g ∈ a → g.name ≠ f.name := fun g hg q => c (q ▸ hs g hg)
  have q := us l (a ++ [f]) (bJ G f.name f) e ?_ ?_ ?_
  ·rw [List.append_assoc] at q
   exact q
  ·intro k fn hk
   rw [ik] at hk
   by_cases d : f.name = k
   ·rw [if_pos d] at hk
    subst d
    have hp : bI (a ++ [f]) f.name = a.length := by
     rw [uB a [f] f.name hne, bI, if_pos rfl]
     rfl
    rw [hp]
    refine ⟨by simp, ?_⟩
    rw [List.getD_eq_getElem?_getD, List.getElem?_append_right (Nat.le_refl _), Nat.sub_self]
    exact Option.some.inj hk
   ·rw [if_neg d] at hk
    obtain ⟨h1, h2⟩ := h k fn hk
    rw [uL a [f] k h1]
    refine ⟨by rw [List.length_append]; omega, ?_⟩
    rw [List.getD_eq_getElem?_getD, List.getElem?_append_left h1, ← List.getD_eq_getElem?_getD]
    exact h2
  ·intro g hg
   rw [ik]
   rcases List.mem_append.1 hg with hg | hg
   ·rw [if_neg (fun q => hne g hg q.symm)]
    exact hs g hg
   ·rw [List.mem_singleton.1 hg, if_pos rfl]
    rfl
  ·rw [List.map_append, List.nodup_append]
   refine ⟨hn, by simp, fun x hx y hy q => ?_⟩
   obtain ⟨g, hg, rfl⟩ := List.mem_map.1 hx
   have : y = f.name := by simpa using hy
   exact hne g hg (q.trans this)
theorem vo {l : List Fn} (h : (bw l).1 = 0) : ∃ G, tN l G ∧ (l.map (·.name)).Nodup ∧ ∀ f, f ∈ l → TyF G f := by
 unfold bw at h
 by_cases c : 64 < l.length
 ·rw [if_pos c] at h
  exact absurd h (by simp)
 rw [if_neg c] at h
 by_cases d : (cD l []).1.1 ≠ 0
 ·rw [if_pos d] at h
  exact absurd h d
 rw [if_neg d] at h
 obtain ⟨h1, h2⟩ := us l [] [] (by simpa using d) (fun k fn hk => by cases hk) (fun f hf => by cases hf) (by simp)
 exact ⟨_, h1, h2, fun f hf => vM (gz h f hf)⟩
end
section
open Go.RowKit
def aOk (nF : Nat) (sl : Int) (tx n : Nat) (x : Ins) : Prop :=
 if x.op = 15 ∨ x.op = 16 then 0 ≤ x.a ∧ x.a ≤ n
 else if x.op = 14 then 0 ≤ x.a ∧ x.a < nF
 else if x.op = 5 ∨ x.op = 6 then 0 ≤ x.a ∧ x.a < sl
 else if x.op = 4 then 0 ≤ x.a ∧ x.a < tx
 else x.op = 2 ∨ (0 ≤ x.a ∧ x.a < 4611686018427387904)
theorem aOk.mono {nF : Nat} {sl sl' : Int} {tx tx' n n' : Nat} {x : Ins} (h : aOk nF sl tx n x) (h1 : sl ≤ sl') (h2 : tx ≤ tx') (h3 : n ≤ n') : aOk nF sl' tx' n' x := by
 unfold aOk at h ⊢
 split
 ·rename_i c; rw [if_pos c] at h; omega
 rename_i c; rw [if_neg c] at h
 split
 ·rename_i c; rw [if_pos c] at h; exact h
 rename_i c; rw [if_neg c] at h
 split
 ·rename_i c; rw [if_pos c] at h; omega
 rename_i c; rw [if_neg c] at h
 split
 ·rename_i c; rw [if_pos c] at h; omega
 rename_i c; rw [if_neg c] at h
 exact h
structure Gk (nF : Nat) (s : CS) : Prop where
 ins : ∀ x, x ∈ s.ins → aOk nF s.slots s.texts.length s.ins.length x
 texts : s.texts.Nodup
theorem Gk.add {nF : Nat} {s : CS} (h : Gk nF s) {o a : Int} (ha : aOk nF s.slots s.texts.length (s.ins.length + 1) ⟨o, a⟩) : Gk nF (aq o a s) := ⟨fun x hx => by
  have hl : (aq o a s).ins.length = s.ins.length + 1 := by simp [aq]
  rw [hl]
  rcases List.mem_append.1 (show x ∈ s.ins ++ [(⟨o, a⟩ : Ins)] from hx) with hx | hx
  · exact (h.ins x hx).mono (Int.le_refl _) (Nat.le_refl _) (by omega)
  · rw [List.mem_singleton.1 hx]; exact ha, h.texts⟩
theorem Gk.num {nF : Nat} {s : CS} (h : Gk nF s) {o a : Int} (ho : ¬ (o = 15 ∨ o = 16) ∧ o ≠ 14 ∧ ¬ (o = 5 ∨ o = 6) ∧ o ≠ 4) (ha : o = 2 ∨ (0 ≤ a ∧ a < 4611686018427387904)) : Gk nF (aq o a s) := h.add (by
  unfold aOk
  rw [if_neg ho.1, if_neg ho.2.1, if_neg ho.2.2.1, if_neg ho.2.2.2]
  exact ha)
theorem Gk.jump {nF : Nat} {s : CS} (h : Gk nF s) {o : Int} {a : Nat} (ho : o = 15 ∨ o = 16) (ha : a ≤ s.ins.length + 1) : Gk nF (aq o a s) := h.add (by
  unfold aOk
  rw [if_pos ho]
  refine ⟨Int.natCast_nonneg _, ?_⟩
  show (a : Int) ≤ ((s.ins.length + 1 : Nat) : Int)
  omega)
theorem Gk.slot {nF : Nat} {s : CS} (h : Gk nF s) {o a : Int} (ho : o = 5 ∨ o = 6) (h0 : 0 ≤ a) (h1 : a < s.slots) : Gk nF (aq o a s) := h.add (by
  unfold aOk
  rw [if_neg (by show ¬ (o = 15 ∨ o = 16); omega), if_neg (by show ¬ o = 14; omega), if_pos ho]
  exact ⟨h0, h1⟩)
theorem Gk.more {nF : Nat} {s : CS} (h : Gk nF s) : Gk nF (bh s) := ⟨fun x hx => (h.ins x hx).mono (by show s.slots ≤ s.slots + 1; omega) (Nat.le_refl _) (Nat.le_refl _), h.texts⟩
theorem um {n : Nat} {o a : Int} {s s' : CS} (h : Uses n (aq o a s) s') : (s'.ins.getD s.ins.length default).op = o := by
 obtain ⟨t, h1, _, _⟩ := h
 have q := congrArg (fun l => l[s.ins.length]?) h1
 simp only [eO, aq, List.map_append, List.map_cons, List.map_nil, List.append_assoc] at q
 rw [List.getElem?_append_right (by simp)] at q
 simp only [List.length_map, Nat.sub_self, List.cons_append, List.getElem?_cons_zero, List.getElem?_map, Option.map_eq_some_iff] at q
 obtain ⟨x, hx, e⟩ := q
 rw [List.getD_eq_getElem?_getD, hx]
 exact e
theorem Gk.led {nF : Nat} {s : CS} (h : Gk nF s) {k : Nat} {o : Int} (hk : (s.ins.getD k default).op = o) (ho : o = 15 ∨ o = 16) : Gk nF (cQ k s) := ⟨fun x hx => by
  have hl : (cQ k s).ins.length = s.ins.length := by simp [cQ]
  rw [hl]
  rcases List.mem_or_eq_of_mem_set (show x ∈ s.ins.set k ⟨(s.ins.getD k default).op, s.ins.length⟩ from hx) with hx | rfl
  · exact h.ins x hx
  · rw [hk]
    unfold aOk
    rw [if_pos (show o = 15 ∨ o = 16 from ho)]
    exact ⟨Int.natCast_nonneg _, Int.le_refl _⟩, h.texts⟩
theorem ux : ∀ (l : List ByteArray) (t : ByteArray), jQ l t = true ↔ t ∈ l
 | [], t => by simp [jQ]
 | x :: l, t => by
  rw [jQ]
  by_cases e : x = t
  ·rw [if_pos e, e]; simp
  ·rw [if_neg e, ux l t, List.mem_cons]
   exact ⟨.inr, fun h => h.resolve_left (fun q => e q.symm)⟩
theorem uH : ∀ (l : List ByteArray) (t : ByteArray), t ∈ l → d7 l t < l.length
 | x :: l, t, h => by
  rw [d7]
  by_cases e : x = t
  ·rw [if_pos e]; simp
  ·rw [if_neg e]
   have := uH l t ((List.mem_cons.1 h).resolve_left (fun q => e q.symm))
   simp; omega
theorem Gk.text {nF : Nat} {s : CS} (h : Gk nF s) (t : ByteArray) : Gk nF (aq 4 (d7 (dg t s).texts t) (dg t s)) := by
 have key : Gk nF (dg t s) ∧ t ∈ (dg t s).texts := by
  unfold dg
  by_cases c : jQ s.texts t = true
  ·rw [if_pos c]
   exact ⟨h, (ux _ _).1 c⟩
  ·rw [if_neg c]
   refine ⟨⟨fun x hx => (h.ins x hx).mono (Int.le_refl _) (by simp) (Nat.le_refl _), ?_⟩, by simp⟩
   show (s.texts ++ [t]).Nodup
   rw [List.nodup_append]
   refine ⟨h.texts, by simp, fun x hx y hy e => c ((ux _ _).2 ?_)⟩
   rw [← List.mem_singleton.1 hy, ← e]
   exact hx
 refine key.1.add ?_
 unfold aOk
 rw [if_neg (by show ¬ ((4 : Int) = 15 ∨ (4 : Int) = 16); decide), if_neg (by show ¬ ((4 : Int) = 14); decide), if_neg (by show ¬ ((4 : Int) = 5 ∨ (4 : Int) = 6); decide), if_pos rfl]
 have := uH _ _ key.2
 exact ⟨Int.natCast_nonneg _, by show ((d7 (dg t s).texts t : Nat) : Int) < _; omega⟩
theorem uD (s : List UInt8) : 0 ≤ cL s ∧ cL s < 4611686018427387904 := by
 unfold cL
 cases h : signNames.findIdx? (· == s) with
 | none => exact ⟨by decide, by decide⟩
 | some i =>
  have h1 : i < 13 := by
   rw [List.findIdx?_eq_some_iff_getElem] at h
   obtain ⟨hi, _⟩ := h
   exact hi
  show 0 ≤ (i : Int) ∧ (i : Int) < _
  omega
theorem vO (n : Int) : 0 ≤ kZ n ∧ kZ n < 4611686018427387904 := by
 unfold kZ
 split <;> decide
def Dm (V : aV) (v : bg) (sl : Int) : Prop := ∀ k t, aF V k = some t → ∃ a, aF v k = some a ∧ 0 ≤ a ∧ a < sl
theorem Dm.mono {V : aV} {v : bg} {sl sl' : Int} (h : Dm V v sl) (hl : sl ≤ sl') : Dm V v sl' := fun k t hk => by
 obtain ⟨a, h1, h2, h3⟩ := h k t hk
 exact ⟨a, h1, h2, by omega⟩
theorem Dm.put {V : aV} {v : bg} {sl sl' : Int} (h : Dm V v sl) (k : ByteArray) (x : Int × Bool) (a : Int) (h0 : 0 ≤ a) (h1 : a < sl') (hl : sl ≤ sl') : Dm (bJ V k x) (bJ v k a) sl' := fun j t hj => by
 rw [ik] at hj ⊢
 by_cases e : k = j
 ·rw [if_pos e]
  exact ⟨a, rfl, h0, h1⟩
 ·rw [if_neg e] at hj
  rw [if_neg e]
  exact h.mono hl j t hj
mutual
theorem uF {F : List Fn} {G : aQ} (hp : tN F G) {V : aV} {v : bg} : ∀ (x : Ex) (t : Int) (s : CS), TyE G V x t → iX F x → Dm V v s.slots → Gk F.length s → Gk F.length (cE F v x s)
 | .mk op num text ks pos, t, s => by
  intro ht hf hd h
  rw [TyE] at ht
  obtain ⟨ts, hr, hk⟩ := ht
  rw [iX] at hf
  rw [cE]
  dsimp only
  have h1 : Gk F.length (aq 1 1 s) := h.num (by decide) (.inr (by decide))
  have h2 := un hp ks ts (aq 1 1 s) hk hf.2.2 hd h1
  have hsl : (aD F v ks (aq 1 1 s)).slots = s.slots := (cN F v ks (aq 1 1 s)).2.2.2.2
  split
  ·rename_i hq
   have h6 : op = 6 := by simp at hq; exact hq.2
   exact va hp (nS text.toList) ks ts _ (hf.2.1 h6) hk hf.2.2 hd h1
  generalize aD F v ks (aq 1 1 s) = s1 at *
  unfold vP at hr
  by_cases c1 : op = 1
  ·rw [if_pos c1]; exact h2.num (by decide) (.inl rfl)
  rw [if_neg c1]
  by_cases c2 : op = 2
  ·rw [if_pos c2]; exact h2.num (by decide) (.inr (vO num))
  rw [if_neg c2]
  by_cases c3 : op = 3
  ·rw [if_pos c3]; exact h2.text text
  rw [if_neg c3]
  by_cases c4 : op = 4
  ·rw [if_pos c4]
   have hl : ∃ x, aF V text = some x := by
    rcases hr with h | h | h | h | h | h | h | h | h | h <;> first | (obtain ⟨_, _, x, hx⟩ := h; exact ⟨_, hx⟩) | (exfalso; have := h.1; omega)
   obtain ⟨x, hx⟩ := hl
   obtain ⟨a, ha, h3, h4⟩ := hd text x hx
   rw [ha]
   exact h2.slot (.inl rfl) h3 (by rw [hsl]; exact h4)
  rw [if_neg c4]
  by_cases c5 : op = 5
  ·rw [if_pos c5]
   refine h2.add ?_
   unfold aOk
   rw [if_neg (by show ¬ ((14 : Int) = 15 ∨ (14 : Int) = 16); decide), if_pos rfl]
   have := hf.1 c5
   exact ⟨Int.natCast_nonneg _, by show ((bI F text : Nat) : Int) < _; omega⟩
  rw [if_neg c5]
  by_cases c6 : op = 6
  ·rw [if_pos c6]; exact h2.num (by decide) (.inr (uD _))
  rw [if_neg c6]
  by_cases c7 : op = 7
  ·rw [if_pos c7]; exact h2.num (by decide) (.inr (uD _))
  rw [if_neg c7]
  by_cases c8 : op = 8
  ·rw [if_pos c8]; exact h2.num (by decide) (.inr (by decide))
  rw [if_neg c8]
  by_cases c9 : op = 9
  ·rw [if_pos c9]; exact h2.num (by decide) (.inr (by decide))
  rw [if_neg c9]
  by_cases c10 : op = 10
  ·rw [if_pos c10]; exact h2.num (by decide) (.inr (by decide))
  rw [if_neg c10]
  exact h2
theorem un {F : List Fn} {G : aQ} (hp : tN F G) {V : aV} {v : bg} : ∀ (l : List Ex) (ts : List Int) (s : CS), TyEs G V l ts → dw F l → Dm V v s.slots → Gk F.length s → Gk F.length (aD F v l s)
 | [], ts, s => by intro _ _ _ h; rw [aD]; exact h
 | x :: l, ts, s => by
  intro ht hf hd h
  rw [TyEs] at ht
  obtain ⟨t, r, rfl, h1, h2⟩ := ht
  rw [dw] at hf
  rw [aD]
  have hsl : (cE F v x s).slots = s.slots := (cR F v x s).2.2.2.2
  exact un hp l r _ h2 hf.2 (by rw [hsl]; exact hd) (uF hp x t s h1 hf.1 hd h)
theorem va {F : List Fn} {G : aQ} (hp : tN F G) {V : aV} {v : bg} (isAnd : Bool) : ∀ (l : List Ex) (ts : List Int) (s : CS), l.length = 2 → TyEs G V l ts → dw F l → Dm V v s.slots → Gk F.length s → Gk F.length (cn F v isAnd l s)
 | [], ts, s => by intro h; cases h
 | [_], ts, s => by intro h; cases h
 | x :: y :: l, ts, s => by
  intro hl ht hf hd h
  rw [TyEs] at ht
  obtain ⟨t, r, rfl, h1, h2⟩ := ht
  rw [TyEs] at h2
  obtain ⟨t2, r2, rfl, h3, _⟩ := h2
  rw [dw, dw] at hf
  rw [cn]
  have hsl : (cE F v x s).slots = s.slots := (cR F v x s).2.2.2.2
  have g1 := uF hp x t s h1 hf.1 hd h
  generalize cE F v x s = s0 at *
  have g2 : Gk F.length (aq 16 0 s0) := g1.jump (a := 0) (.inr rfl) (Nat.zero_le _)
  have hy : ∀ u : CS, u.slots = s0.slots → Gk F.length u → Gk F.length (cE F v y u) := fun u hu g => uF hp y t2 u h3 hf.2.1 (by rw [hu, hsl]; exact hd) g
  cases isAnd
  ·rw [if_neg (by decide), if_neg (by decide)]
   have g3 : Gk F.length (aq 3 1 (aq 16 0 s0)) := g2.num (by decide) (.inr (by decide))
   have g4 : Gk F.length (aq 15 0 (aq 3 1 (aq 16 0 s0))) := g3.jump (a := 0) (.inl rfl) (Nat.zero_le _)
   have u1 := (bH (o := 3) (by decide) 1 (aq 16 0 s0)).trans (bH (o := 15) (by decide) 0 (aq 3 1 (aq 16 0 s0)))
   have g5 := g4.led (um u1) (.inr rfl)
   have g6 := hy (cQ s0.ins.length (aq 15 0 (aq 3 1 (aq 16 0 s0)))) rfl g5
   have u2 := (ey (by decide) u1).trans (gw y v (cQ s0.ins.length (aq 15 0 (aq 3 1 (aq 16 0 s0)))) hf.2.1)
   exact g6.led (um u2) (.inl rfl)
  ·rw [if_pos rfl, if_pos rfl]
   have g3 := hy (aq 16 0 s0) rfl g2
   have g4 : Gk F.length (aq 15 0 (cE F v y (aq 16 0 s0))) := g3.jump (a := 0) (.inl rfl) (Nat.zero_le _)
   have u1 := (gw y v (aq 16 0 s0) hf.2.1).trans (bH (o := 15) (by decide) 0 (cE F v y (aq 16 0 s0)))
   have g5 := g4.led (um u1) (.inr rfl)
   have g6 : Gk F.length (aq 3 0 (cQ s0.ins.length (aq 15 0 (cE F v y (aq 16 0 s0))))) := g5.num (by decide) (.inr (by decide))
   have u2 := (ey (by decide) u1).trans (bH (o := 3) (by decide) 0 (cQ s0.ins.length (aq 15 0 (cE F v y (aq 16 0 s0)))))
   exact g6.led (um u2) (.inl rfl)
end
theorem tV (F : List Fn) (l : List St) (v : bg) (s : CS) : s.slots ≤ (aI F l (v, s)).2.slots := (bv F l v s).2.2.2.2.1
mutual
theorem uW {F : List Fn} {G : aQ} (hp : tN F G) (res : Int) : ∀ (x : St) (V : aV) (v : bg) (s : CS), TyS G res x V → kF F x → lD x → 0 ≤ s.slots → Dm V v s.slots → Gk F.length s → Gk F.length (dT F x (v, s)).2 ∧ Dm (u9 G res x V) (dT F x (v, s)).1 (dT F x (v, s)).2.slots
 | .mk op text es body els pos, V, v, s => by
  intro ht hf hm h0 hd h
  have hout := fun (q : op ≠ 1) => vv (G := G) (res := res) q text es body els pos V
  rw [TyS] at ht
  rw [kF] at hf
  rw [lD] at hm
  obtain ⟨f8, fe, fb, fl⟩ := hf
  obtain ⟨m1, m2, mb, ml⟩ := hm
  rw [dT]
  dsimp only
  have h1 : Gk F.length (aq 1 1 s) := h.num (by decide) (.inr (by decide))
  have hsl : (aD F v es (aq 1 1 s)).slots = s.slots := (cN F v es (aq 1 1 s)).2.2.2.2
  have hE : ∀ ts, TyEs G V es ts → Gk F.length (aD F v es (aq 1 1 s)) := fun ts q => un hp es ts (aq 1 1 s) q fe hd h1
  have one : ∀ x t, es = [x] → TyE G V x t → Gk F.length (aD F v es (aq 1 1 s)) := fun x t e q => hE [t] (by rw [e, TyEs]; exact ⟨t, [], rfl, q, by rw [TyEs]⟩)
  have hle : 0 ≤ (aD F v es (aq 1 1 s)).slots := by rw [hsl]; exact h0
  have hd2 : Dm V v (aD F v es (aq 1 1 s)).slots := by rw [hsl]; exact hd
  generalize aD F v es (aq 1 1 s) = t at *
  rcases ht with ht | ht | ht | ht | ht | ht | ht | ht
  ·obtain ⟨c1, rfl, rfl, _, x, rfl, hx, _⟩ := ht
   subst c1
   have g := one _ _ rfl hx
   rw [if_pos rfl, vG]
   exact ⟨g.more.slot (.inr rfl) hle (by show t.slots < t.slots + 1; omega), hd2.put _ _ _ hle (by show t.slots < t.slots + 1; omega) (by show t.slots ≤ t.slots + 1; omega)⟩
  ·obtain ⟨c2, rfl, rfl, x, ty, rfl, hl, hx⟩ := ht
   have g := one _ _ rfl hx
   rw [hout (by omega), if_neg (by omega), if_pos c2]
   obtain ⟨a, ha, h3, h4⟩ := hd2 text _ hl
   rw [ha]
   exact ⟨g.slot (.inr rfl) h3 h4, hd2⟩
  ·obtain ⟨c3, ⟨x, rfl, hx⟩, hb, hl⟩ := ht
   have g := one _ _ rfl hx
   rw [hout (by omega), if_neg (by omega), if_neg (by omega), if_pos c3]
   have g1 : Gk F.length (aq 16 0 t) := g.jump (a := 0) (.inr rfl) (Nat.zero_le _)
   have g2 := tP hp res body V v (aq 16 0 t) hb fb mb hle hd2 g1
   have u2 := dG (F := F) body v (aq 16 0 t) fb mb
   have s2 := tV F body v (aq 16 0 t)
   generalize (aI F body (v, aq 16 0 t)).2 = t2 at *
   have s2 : t.slots ≤ t2.slots := s2
   split
   ·have g3 := g2.led (um u2) (.inr rfl)
    exact ⟨tP hp res els V v _ hl fl ml (by show 0 ≤ t2.slots; omega) (hd2.mono s2) g3, (hd2.mono s2).mono (tV F els v _)⟩
   ·have u3 := u2.trans (bH (o := 15) (by decide) 0 t2)
    have g3 : Gk F.length (aq 15 0 t2) := g2.jump (a := 0) (.inl rfl) (Nat.zero_le _)
    have g4 := g3.led (um u3) (.inr rfl)
    have g5 := tP hp res els V v (cQ t.ins.length (aq 15 0 t2)) hl fl ml (by show 0 ≤ t2.slots; omega) (hd2.mono s2) g4
    have u5 := (ey (by decide) u3).trans (dG (F := F) els v (cQ t.ins.length (aq 15 0 t2)) fl ml)
    exact ⟨g5.led (um u5) (.inl rfl), (hd2.mono s2).mono (tV F els v _)⟩
  ·obtain ⟨c4, rfl, _, hx, hb⟩ := ht
   have g := hE _ hx
   rw [hout (by omega), if_neg (by omega), if_neg (by omega), if_neg (by omega), if_pos c4]
   have a2 : Gk F.length (aq 6 (t.slots + 1) (bh (bh t))) := g.more.more.slot (.inr rfl) (by omega) (by show t.slots + 1 < t.slots + 1 + 1; omega)
   have a3 : Gk F.length (aq 6 t.slots (aq 6 (t.slots + 1) (bh (bh t)))) := a2.slot (.inr rfl) hle (by show t.slots < t.slots + 1 + 1; omega)
   have a4 : Gk F.length (aq 5 t.slots (aq 6 t.slots (aq 6 (t.slots + 1) (bh (bh t))))) := a3.slot (.inl rfl) hle (by show t.slots < t.slots + 1 + 1; omega)
   have a5 : Gk F.length (aq 5 (t.slots + 1) (aq 5 t.slots (aq 6 t.slots (aq 6 (t.slots + 1) (bh (bh t)))))) := a4.slot (.inl rfl) (by omega) (by show t.slots + 1 < t.slots + 1 + 1; omega)
   have a6 : Gk F.length (aq 7 6 (aq 5 (t.slots + 1) (aq 5 t.slots (aq 6 t.slots (aq 6 (t.slots + 1) (bh (bh t))))))) := a5.num (by decide) (.inr (by decide))
   have nb : (aq 6 t.slots (aq 6 (t.slots + 1) (bh (bh t)))).ins.length ≤ (aq 7 6 (aq 5 (t.slots + 1) (aq 5 t.slots (aq 6 t.slots (aq 6 (t.slots + 1) (bh (bh t))))))).ins.length := by simp [aq]
   generalize (aq 6 t.slots (aq 6 (t.slots + 1) (bh (bh t)))).ins.length = n0 at *
   have s4 : (aq 7 6 (aq 5 (t.slots + 1) (aq 5 t.slots (aq 6 t.slots (aq 6 (t.slots + 1) (bh (bh t))))))).slots = t.slots + 1 + 1 := rfl
   generalize aq 7 6 (aq 5 (t.slots + 1) (aq 5 t.slots (aq 6 t.slots (aq 6 (t.slots + 1) (bh (bh t)))))) = t4 at *
   have b1 : Gk F.length (aq 16 0 t4) := a6.jump (a := 0) (.inr rfl) (Nat.zero_le _)
   have b2 : Gk F.length (aq 1 1 (aq 16 0 t4)) := b1.num (by decide) (.inr (by decide))
   have hd5 : Dm (bJ V text (1, true)) (bJ v text t.slots) (aq 1 1 (aq 16 0 t4)).slots := hd2.put text (1, true) t.slots hle (by show t.slots < t4.slots; omega) (by show t.slots ≤ t4.slots; omega)
   have b3 := tP hp res body _ _ _ hb fb mb (by show 0 ≤ t4.slots; omega) hd5 b2
   have u3 := (ju (aq 16 0 t4)).trans (dG (F := F) body (bJ v text t.slots) (aq 1 1 (aq 16 0 t4)) fb mb)
   have s5 : t4.slots ≤ _ := tV F body (bJ v text t.slots) (aq 1 1 (aq 16 0 t4))
   have l5 : t4.ins.length + 2 ≤ _ := Nat.le_trans (by simp [aq]) (bv F body (bJ v text t.slots) (aq 1 1 (aq 16 0 t4))).1
   generalize (aI F body (bJ v text t.slots, aq 1 1 (aq 16 0 t4))).2 = t5 at *
   have b4 : Gk F.length (aq 5 t.slots t5) := b3.slot (.inl rfl) hle (by omega)
   have b5 : Gk F.length (aq 2 1 (aq 5 t.slots t5)) := b4.num (by decide) (.inl rfl)
   have b6 : Gk F.length (aq 7 1 (aq 2 1 (aq 5 t.slots t5))) := b5.num (by decide) (.inr (by decide))
   have b7 : Gk F.length (aq 6 t.slots (aq 7 1 (aq 2 1 (aq 5 t.slots t5)))) := b6.slot (.inr rfl) hle (by show t.slots < t5.slots; omega)
   have b8 : Gk F.length (aq 15 (n0 : Int) (aq 6 t.slots (aq 7 1 (aq 2 1 (aq 5 t.slots t5))))) := b7.jump (.inl rfl) (by simp [aq]; omega)
   have u4 := ((((u3.trans (bH (o := 5) (by decide) t.slots t5)).trans (bH (o := 2) (by decide) 1 _)).trans (bH (o := 7) (by decide) 1 _)).trans (bH (o := 6) (by decide) t.slots _)).trans (bH (o := 15) (by decide) (n0 : Int) _)
   exact ⟨b8.led (um u4) (.inr rfl), hd2.mono (by show t.slots ≤ t5.slots; omega)⟩
  ·obtain ⟨c5, rfl, rfl, hx⟩ := ht
   have g : Gk F.length t := by
    rcases hx with ⟨rfl, _⟩ | ⟨x, rfl, hx, _⟩
    ·exact hE [] (by rw [TyEs])
    ·exact one _ _ rfl hx
   rw [hout (by omega), if_neg (by omega), if_neg (by omega), if_neg (by omega), if_neg (by omega), if_pos c5]
   exact ⟨g.num (by decide) (.inr (by decide)), hd2⟩
  ·obtain ⟨c6, rfl, rfl, hx⟩ := ht
   have g := hE _ hx
   rw [hout (by omega), if_neg (by omega), if_neg (by omega), if_neg (by omega), if_neg (by omega), if_neg (by omega), if_pos c6]
   exact ⟨g.num (by decide) (.inr (by decide)), hd2⟩
  ·obtain ⟨c7, rfl, rfl, hx⟩ := ht
   have g := hE _ hx
   rw [hout (by omega), if_neg (by omega), if_neg (by omega), if_neg (by omega), if_neg (by omega), if_neg (by omega), if_neg (by omega), if_pos c7]
   exact ⟨g.num (by decide) (.inr (by decide)), hd2⟩
  ·obtain ⟨c8, rfl, rfl, x, ty, rfl, hx, _⟩ := ht
   have g := one _ _ rfl hx
   rw [hout (by omega), if_neg (by omega), if_neg (by omega), if_neg (by omega), if_neg (by omega), if_neg (by omega), if_neg (by omega), if_neg (by omega), if_pos c8]
   dsimp only
   split
   ·exact ⟨g, hd2⟩
   ·exact ⟨g.num (by decide) (.inr (by decide)), hd2⟩
theorem tP {F : List Fn} {G : aQ} (hp : tN F G) (res : Int) : ∀ (l : List St) (V : aV) (v : bg) (s : CS), uh G res l V → dO F l → ej l → 0 ≤ s.slots → Dm V v s.slots → Gk F.length s → Gk F.length (aI F l (v, s)).2
 | [], V, v, s => by intro _ _ _ _ _ h; rw [aI]; exact h
 | x :: l, V, v, s => by
  intro ht hf hm h0 hd h
  rw [uh] at ht
  rw [dO] at hf
  rw [ej] at hm
  rw [aI]
  obtain ⟨h1, h2⟩ := uW hp res x V v s ht.1 hf.1 hm.1 h0 hd h
  have hs := (om F x v s).2.2.2.2.1
  exact tP hp res l _ _ _ ht.2 hf.2 hm.2 (by omega) h2 h1
end
def uV (s : CS) : Prop := (∀ x, x ∈ s.ins → x.op = 15 ∨ x.op = 16 → x.a < s.ins.length) ∧ ∃ l, eO s.ins = l ++ [18]
theorem uC {nF : Nat} {s : CS} (h : Gk nF s) : uV (aq 18 0 s) := by
 refine ⟨fun x hx ho => ?_, eO s.ins, by simp [aq, eO]⟩
 have hl : (aq 18 0 s).ins.length = s.ins.length + 1 := by simp [aq]
 rw [hl]
 rcases List.mem_append.1 (show x ∈ s.ins ++ [(⟨18, 0⟩ : Ins)] from hx) with hx | hx
 ·have := h.ins x hx
  unfold aOk at this
  rw [if_pos ho] at this
  omega
 ·rw [List.mem_singleton.1 hx] at ho
  exact absurd ho (by decide)
mutual
theorem uM {F : List Fn} {G : aQ} (hp : tN F G) (res : Int) : ∀ (x : St) (V : aV) (v : bg) (s : CS), endsS x = true → TyS G res x V → kF F x → lD x → 0 ≤ s.slots → Dm V v s.slots → Gk F.length s → uV (dT F x (v, s)).2
 | .mk op text es body els pos, V, v, s => by
  intro he ht hf hm h0 hd h
  rw [endsS] at he
  rw [TyS] at ht
  rw [kF] at hf
  rw [lD] at hm
  obtain ⟨f8, fe, fb, fl⟩ := hf
  obtain ⟨m1, m2, mb, ml⟩ := hm
  rw [dT]
  dsimp only
  have h1 : Gk F.length (aq 1 1 s) := h.num (by decide) (.inr (by decide))
  have hsl : (aD F v es (aq 1 1 s)).slots = s.slots := (cN F v es (aq 1 1 s)).2.2.2.2
  have hE : ∀ ts, TyEs G V es ts → Gk F.length (aD F v es (aq 1 1 s)) := fun ts q => un hp es ts (aq 1 1 s) q fe hd h1
  have one : ∀ x t, es = [x] → TyE G V x t → Gk F.length (aD F v es (aq 1 1 s)) := fun x t e q => hE [t] (by rw [e, TyEs]; exact ⟨t, [], rfl, q, by rw [TyEs]⟩)
  have hle : 0 ≤ (aD F v es (aq 1 1 s)).slots := by rw [hsl]; exact h0
  have hd2 : Dm V v (aD F v es (aq 1 1 s)).slots := by rw [hsl]; exact hd
  generalize aD F v es (aq 1 1 s) = t at *
  by_cases c5 : op = 5
  ·have hx : (es = [] ∧ res = 0) ∨ ∃ x, es = [x] ∧ TyE G V x res ∧ res ≠ 0 := by
     rcases ht with h | h | h | h | h | h | h | h <;> first | exact h.2.2.2 | (exfalso; have := h.1; omega)
   have g : Gk F.length t := by
    rcases hx with ⟨rfl, _⟩ | ⟨x, rfl, hx, _⟩
    ·exact hE [] (by rw [TyEs])
    ·exact one _ _ rfl hx
   rw [if_neg (by omega), if_neg (by omega), if_neg (by omega), if_neg (by omega), if_pos c5]
   exact uC g
  ·simp only [Bool.or_eq_true, Bool.and_eq_true, beq_iff_eq] at he
   obtain ⟨⟨c3, he1⟩, he2⟩ := he.resolve_left c5
   have hx : (∃ x, es = [x] ∧ TyE G V x 2) ∧ uh G res body V ∧ uh G res els V := by
    rcases ht with h | h | h | h | h | h | h | h <;> first | exact h.2 | (exfalso; have := h.1; omega)
   obtain ⟨⟨x, rfl, hx⟩, hb, hl⟩ := hx
   have g := one _ _ rfl hx
   rw [if_neg (by omega), if_neg (by omega), if_pos c3, if_pos he1]
   have g1 : Gk F.length (aq 16 0 t) := g.jump (a := 0) (.inr rfl) (Nat.zero_le _)
   have g2 := tP hp res body V v (aq 16 0 t) hb fb mb hle hd2 g1
   have u2 := dG (F := F) body v (aq 16 0 t) fb mb
   have s2 := tV F body v (aq 16 0 t)
   generalize (aI F body (v, aq 16 0 t)).2 = t2 at *
   have s2 : t.slots ≤ t2.slots := s2
   exact ua hp res els V v _ he2 hl fl ml (by show 0 ≤ t2.slots; omega) (hd2.mono s2) (g2.led (um u2) (.inr rfl))
theorem ua {F : List Fn} {G : aQ} (hp : tN F G) (res : Int) : ∀ (l : List St) (V : aV) (v : bg) (s : CS), bK l = true → uh G res l V → dO F l → ej l → 0 ≤ s.slots → Dm V v s.slots → Gk F.length s → uV (aI F l (v, s)).2
 | [], V, v, s => by intro h; cases h
 | [x], V, v, s => by
  intro he ht hf hm h0 hd h
  rw [bK] at he
  rw [uh] at ht
  rw [dO] at hf
  rw [ej] at hm
  rw [aI, aI]
  exact uM hp res x V v s he ht.1 hf.1 hm.1 h0 hd h
 | x :: y :: l, V, v, s => by
  intro he ht hf hm h0 hd h
  rw [bK] at he
  rw [uh] at ht
  rw [dO] at hf
  rw [ej] at hm
  rw [aI]
  obtain ⟨h1, h2⟩ := uW hp res x V v s ht.1 hf.1 hm.1 h0 hd h
  have hs := (om F x v s).2.2.2.2.1
  exact ua hp res (y :: l) _ _ _ he ht.2 hf.2 hm.2 (by omega) h2 h1
end
theorem uA (pos : Int) : ∀ (l : List (ByteArray × Int)) (V : aV) (v : bg) (n : Int), (cq pos l V).1.1 = 0 → 0 ≤ n → Dm V v n → Dm (cq pos l V).2 (aC l (v, n)).1 (aC l (v, n)).2 ∧ n ≤ (aC l (v, n)).2
 | [], V, v, n, _, _, hd => ⟨hd, Int.le_refl _⟩
 | p :: l, V, v, n, e, h0, hd => by
  rw [cq] at e ⊢
  rw [aC]
  split at e
  ·exact absurd e (by simp)
  split at e
  ·exact absurd e (by simp)
  rename_i c1 c2
  rw [if_neg c1, if_neg c2]
  obtain ⟨h1, h2⟩ := uA pos l _ (bJ v p.1 n) (n + 1) e (by omega) (hd.put _ _ _ h0 (by omega) (by omega))
  exact ⟨h1, Int.le_trans (by omega : n ≤ n + 1) h2⟩
def CdIn (nF tx : Nat) (c : Cd) : Prop := (∀ x, x ∈ c.ins → aOk nF c.slots tx c.ins.length x ∧ (x.op = 15 ∨ x.op = 16 → x.a < c.ins.length)) ∧ ∃ l, eO c.ins = l ++ [18]
theorem vB {F : List Fn} {G : aQ} (hp : tN F G) {f : Fn} (T : List ByteArray) (ht : TyF G f) (hf : dO F f.body) (hm : ej f.body) (hT : T.Nodup) : CdIn F.length (cz F f T).2.length (cz F f T).1 ∧ (cz F f T).2.Nodup := by
 obtain ⟨h1, h2⟩ := uA f.pos f.params [] [] 0 ht.pars (Int.le_refl _) (fun k t h => by cases h)
 have g0 : Gk F.length ⟨[], (aC f.params ([], 0)).2, T⟩ := ⟨fun x hx => (by cases hx), hT⟩
 have gb := tP hp f.result f.body _ _ ⟨[], (aC f.params ([], 0)).2, T⟩ ht.body hf hm h2 h1 g0
 have ge := fun he => ua hp f.result f.body _ _ ⟨[], (aC f.params ([], 0)).2, T⟩ he ht.body hf hm h2 h1 g0
 have hen := ht.ends
 unfold cz
 dsimp only
 generalize (aI F f.body ((aC f.params ([], 0)).1, ⟨[], (aC f.params ([], 0)).2, T⟩)).2 = u at *
 have key : ∃ u', (if f.result = 0 then aq 18 0 u else u) = u' ∧ Gk F.length u' ∧ uV u' := by
  refine ⟨_, rfl, ?_⟩
  by_cases c : f.result = 0
  ·rw [if_pos c]
   exact ⟨gb.num (by decide) (.inr (by decide)), uC gb⟩
  ·rw [if_neg c]
   exact ⟨gb, ge (hen.resolve_left c)⟩
 obtain ⟨u', e, k1, k2⟩ := key
 rw [e]
 exact ⟨⟨fun x hx => ⟨k1.ins x hx, fun ho => k2.1 x hx ho⟩, k2.2⟩, k1.texts⟩
theorem CdIn.mono {nF tx tx' : Nat} {c : Cd} (h : CdIn nF tx c) (hx : tx ≤ tx') : CdIn nF tx' c := ⟨fun x hm => ⟨(h.1 x hm).1.mono (Int.le_refl _) hx (Nat.le_refl _), (h.1 x hm).2⟩, h.2⟩
theorem uY (F : List Fn) (f : Fn) (T : List ByteArray) : T.length ≤ (cz F f T).2.length := by
 have h := bv F f.body (aC f.params ([], 0)).1 ⟨[], (aC f.params ([], 0)).2, T⟩
 unfold cz
 dsimp only
 split
 ·exact h.2.2.1
 ·exact h.2.2.1
theorem uK {F : List Fn} {G : aQ} (hp : tN F G) : ∀ (l : List Fn) (p : List Cd × List ByteArray), (∀ f, f ∈ l → TyF G f ∧ dO F f.body ∧ ej f.body) → (∀ c, c ∈ p.1 → CdIn F.length p.2.length c) → p.2.Nodup →
    (∀ c, c ∈ (a8 F l p).1 → CdIn F.length (a8 F l p).2.length c) ∧ (a8 F l p).2.Nodup
 | [], p, _, hc, hT => by rw [a8]; exact ⟨hc, hT⟩
 | f :: l, p, hl, hc, hT => by
  rw [a8]
  obtain ⟨h1, h2, h3⟩ := hl f (List.mem_cons_self ..)
  obtain ⟨k1, k2⟩ := vB hp p.2 h1 h2 h3 hT
  refine uK hp l _ (fun g hg => hl g (List.mem_cons_of_mem _ hg)) (fun c hcm => ?_) k2
  rcases List.mem_append.1 hcm with hcm | hcm
  ·exact (hc c hcm).mono (uY F f p.2)
  ·rw [List.mem_singleton.1 hcm]; exact k1
theorem uX : ∀ (x y : List UInt8), x.map (fun b => (b.toNat : Int)) = y.map (fun b => (b.toNat : Int)) → x = y
 | [], [], _ => rfl
 | [], _ :: _, h => by cases h
 | _ :: _, [], h => by cases h
 | u :: x, v :: y, h => by
  simp only [List.map_cons, List.cons.injEq] at h
  have e : u.toNat = v.toNat := by exact_mod_cast h.1
  rw [uX x y h.2, UInt8.toNat_inj.1 e]
theorem uN {a b : ByteArray} (h : cI a = cI b) : a = b := by
 have h2 := uX _ _ h
 rw [ByteArray.toList_eq, ByteArray.toList_eq] at h2
 exact ByteArray.ext (Array.ext' h2)
theorem vc {l : List Fn} (h : (bw l).1 = 0) : (∀ c, c ∈ (cM l).codes → CdIn l.length (cM l).texts.length c) ∧ ∀ i j, i < (cM l).texts.length → j < i → (cM l).texts.getD i [] ≠ (cM l).texts.getD j [] := by
 obtain ⟨G, hp, _, hf⟩ := vo h
 obtain ⟨h1, h2⟩ := uK hp l ([], []) (fun f hm => ⟨hf f hm, ((dF h).2 f hm).1, mP h f hm⟩) (fun c hc => by cases hc) (by simp)
 have ht : (cM l).texts = (a8 l l ([], [])).2.map cI := rfl
 refine ⟨by rw [ht, List.length_map]; exact h1, fun i j hi hj e => ?_⟩
 rw [ht] at hi e
 generalize (a8 l l ([], [])).2 = T at *
 rw [List.length_map] at hi
 have hj2 : j < T.length := by omega
 rw [List.getD_eq_getElem?_getD, List.getD_eq_getElem?_getD, List.getElem?_map, List.getElem?_map, List.getElem?_eq_getElem hi, List.getElem?_eq_getElem hj2] at e
 have e2 : T[i] = T[j] := uN e
 exact List.pairwise_iff_getElem.1 h2 j i hj2 hi hj e2.symm
end
end Go.Proofs.YtjblihabklemfaaGreatDoor
