/-
  Compile: part 21 of its proof: see the last text.
-/
import Derived.Test.YtjblihabklemfaaGreatDoorPm20
set_option maxRecDepth 100000
set_option maxHeartbeats 16000000
namespace Go.Proofs.YtjblihabklemfaaGreatDoor
section
open Go.RowKit
def eO (l : List Ins) : List Int := l.map (·.op)
def kJ (l : List Ins) : Prop := ∀ x, x ∈ l → x.op = 1 → x.a = 1
def Uses (n : Nat) (s s' : CS) : Prop := ∃ t, eO s'.ins = eO s.ins ++ t ∧ t.count 1 = n ∧ (kJ s.ins → kJ s'.ins)
theorem Uses.refl (s : CS) : Uses 0 s s := ⟨[], by simp, rfl, id⟩
theorem Uses.trans {n m : Nat} {a b c : CS} (h : Uses n a b) (g : Uses m b c) : Uses (n + m) a c := by
 obtain ⟨t, h1, h2, h3⟩ := h
 obtain ⟨u, g1, g2, g3⟩ := g
 exact ⟨t ++ u, by rw [g1, h1, List.append_assoc], by rw [List.count_append, h2, g2], fun q => g3 (h3 q)⟩
theorem Uses.to {n m : Nat} {a b : CS} (h : Uses n a b) (e : n = m) : Uses m a b := e ▸ h
theorem ju (s : CS) : Uses 1 s (aq 1 1 s) := ⟨[1], by simp [eO, aq], by decide, fun h x hx q => by
  simp only [aq, List.mem_append, List.mem_singleton] at hx
  rcases hx with hx | rfl
  · exact h x hx q
  · rfl⟩
theorem bH {o : Int} (ho : o ≠ 1) (n : Int) (s : CS) : Uses 0 s (aq o n s) := ⟨[o], by simp [eO, aq], by simp [ho], fun h x hx q => by
  simp only [aq, List.mem_append, List.mem_singleton] at hx
  rcases hx with hx | rfl
  · exact h x hx q
  · exact absurd q ho⟩
theorem pP (t : ByteArray) (s : CS) : Uses 0 s (dg t s) := by
 unfold dg
 split
 ·exact Uses.refl s
 ·exact ⟨[], by simp, rfl, id⟩
theorem jG (s : CS) : Uses 0 s (bh s) := ⟨[], by simp [bh], rfl, id⟩
theorem ey {n : Nat} {o a : Int} (ho : o ≠ 1) {s s' : CS} (h : Uses n (aq o a s) s') : Uses 0 s' (cQ s.ins.length s') := by
 obtain ⟨t, h1, _, _⟩ := h
 have hop : (s'.ins.getD s.ins.length default).op = o := by
  have q := congrArg (fun l => l[s.ins.length]?) h1
  simp only [eO, aq, List.map_append, List.map_cons, List.map_nil, List.append_assoc] at q
  rw [List.getElem?_append_right (by simp)] at q
  simp only [List.length_map, Nat.sub_self, List.cons_append, List.getElem?_cons_zero, List.getElem?_map, Option.map_eq_some_iff] at q
  obtain ⟨x, hx, e⟩ := q
  rw [List.getD_eq_getElem?_getD, hx]
  exact e
 refine ⟨[], ?_, rfl, fun g x hx q => ?_⟩
 ·show (s'.ins.set s.ins.length ⟨(s'.ins.getD s.ins.length default).op, s'.ins.length⟩).map (·.op) = eO s'.ins ++ []
  rw [List.append_nil, List.map_set]
  refine List.ext_getElem? fun i => ?_
  rw [List.getElem?_set]
  split
  ·rename_i e
   subst e
   split
   ·rename_i hl
    rw [List.length_map] at hl
    simp only [eO, List.getElem?_map, List.getElem?_eq_getElem hl, List.getD_eq_getElem?_getD]
    rfl
   ·rename_i hl
    exact (List.getElem?_eq_none (by unfold eO; omega)).symm
  ·rfl
 ·rcases List.mem_or_eq_of_mem_set (show x ∈ s'.ins.set s.ins.length ⟨(s'.ins.getD s.ins.length default).op, s'.ins.length⟩ from hx) with h | rfl
  ·exact g x h q
  ·exact absurd (hop.symm.trans q) ho
mutual
theorem gw {F : List Fn} : ∀ (x : Ex) (v : bg) (s : CS), iX F x → Uses (szE x) s (cE F v x s)
 | .mk op num text ks pos, v, s => by
  intro hf
  rw [iX] at hf
  obtain ⟨_, h6, hk⟩ := hf
  rw [cE, szE]
  dsimp only
  have h1 := ju s
  split
  ·rename_i hq
   have h62 := h6 (by simp at hq; exact hq.2)
   exact h1.trans (lX (nS text.toList) ks v _ h62 hk)
  ·have h3 := h1.trans (gP ks v (aq 1 1 s) hk)
   have h4 : ∀ o n, o ≠ 1 → Uses (1 + aN ks) s (aq o n (aD F v ks (aq 1 1 s))) := fun o n ho => (h3.trans (bH ho n _)).to (by omega)
   by_cases c1 : op = 1
   ·rw [if_pos c1]; exact h4 _ _ (by decide)
   rw [if_neg c1]
   by_cases c2 : op = 2
   ·rw [if_pos c2]; exact h4 _ _ (by decide)
   rw [if_neg c2]
   by_cases c3 : op = 3
   ·rw [if_pos c3]; exact ((h3.trans (pP text _)).trans (bH (by decide) _ _)).to (by omega)
   rw [if_neg c3]
   by_cases c4 : op = 4
   ·rw [if_pos c4]; exact h4 _ _ (by decide)
   rw [if_neg c4]
   by_cases c5 : op = 5
   ·rw [if_pos c5]; exact h4 _ _ (by decide)
   rw [if_neg c5]
   by_cases c6 : op = 6
   ·rw [if_pos c6]; exact h4 _ _ (by decide)
   rw [if_neg c6]
   by_cases c7 : op = 7
   ·rw [if_pos c7]; exact h4 _ _ (by decide)
   rw [if_neg c7]
   by_cases c8 : op = 8
   ·rw [if_pos c8]; exact h4 _ _ (by decide)
   rw [if_neg c8]
   by_cases c9 : op = 9
   ·rw [if_pos c9]; exact h4 _ _ (by decide)
   rw [if_neg c9]
   by_cases c10 : op = 10
   ·rw [if_pos c10]; exact h4 _ _ (by decide)
   rw [if_neg c10]
   exact h3
theorem gP {F : List Fn} : ∀ (l : List Ex) (v : bg) (s : CS), dw F l → Uses (aN l) s (aD F v l s)
 | [], v, s => by intro _; rw [aD, aN]; exact Uses.refl s
 | x :: l, v, s => by
  intro hf
  rw [dw] at hf
  rw [aD, aN]
  exact (gw x v s hf.1).trans (gP l v _ hf.2)
theorem lX {F : List Fn} (isAnd : Bool) : ∀ (l : List Ex) (v : bg) (s : CS), l.length = 2 → dw F l → Uses (aN l) s (cn F v isAnd l s)
 | [], v, s => by intro h _; cases h
 | [_], v, s => by intro h _; cases h
 | x :: y :: l, v, s => by
  intro hl hf
  obtain rfl : l = [] := List.eq_nil_of_length_eq_zero (by simpa using hl)
  rw [dw, dw] at hf
  rw [cn, aN, aN, aN]
  have h1 := gw x v s hf.1
  generalize cE F v x s = s0 at *
  have h2 := bH (o := 16) (by decide) 0 s0
  cases isAnd
  ·rw [if_neg (by decide), if_neg (by decide)]
   have h3 := bH (o := 3) (by decide) 1 (aq 16 0 s0)
   have h4 := bH (o := 15) (by decide) 0 (aq 3 1 (aq 16 0 s0))
   have h5 := ey (by decide) (h3.trans h4)
   have h6 := gw y v (cQ s0.ins.length (aq 15 0 (aq 3 1 (aq 16 0 s0)))) hf.2.1
   have h7 := ey (o := 15) (by decide) (h5.trans h6)
   exact ((((((h1.trans h2).trans h3).trans h4).trans h5).trans h6).trans h7).to (by omega)
  ·rw [if_pos rfl, if_pos rfl]
   have h3 := gw y v (aq 16 0 s0) hf.2.1
   have h4 := bH (o := 15) (by decide) 0 (cE F v y (aq 16 0 s0))
   have h5 := ey (by decide) (h3.trans h4)
   have h6 := bH (o := 3) (by decide) 0 (cQ s0.ins.length (aq 15 0 (cE F v y (aq 16 0 s0))))
   have h7 := ey (o := 15) (by decide) (h5.trans h6)
   exact ((((((h1.trans h2).trans h3).trans h4).trans h5).trans h6).trans h7).to (by omega)
end
mutual
def iH : St → Nat
 | .mk op _ es body els _ => 1 + (if op = 4 then 1 else 0) + aN es + (aJ body + aJ els)
def aJ : List St → Nat
 | [] => 0
 | x :: l => iH x + aJ l
end
mutual
def lD : St → Prop
 | .mk op _ _ body els _ => (op ≠ 3 → els = []) ∧ (op ≠ 3 ∧ op ≠ 4 → body = []) ∧ ej body ∧ ej els
def ej : List St → Prop
 | [] => True
 | x :: l => lD x ∧ ej l
end
theorem jq : aJ [] = 0 := by rw [aJ]
theorem gE : ej [] := by rw [ej]; trivial
mutual
theorem nC {F : List Fn} : ∀ (x : St) (v : bg) (s : CS), kF F x → lD x → Uses (iH x) s (dT F x (v, s)).2
 | .mk op text es body els pos, v, s => by
  intro hf hm
  rw [kF] at hf
  rw [lD] at hm
  obtain ⟨_, he, hb, hl⟩ := hf
  obtain ⟨m1, m2, mb, ml⟩ := hm
  rw [dT, iH]
  dsimp only
  have h3 := (ju s).trans (gP es v (aq 1 1 s) he)
  generalize aD F v es (aq 1 1 s) = t at *
  obtain ⟨r4, hr4⟩ : ∃ x : Nat, x = (if op = 4 then 1 else 0) := ⟨_, rfl⟩
  rw [← hr4]
  have no : op ≠ 3 → op ≠ 4 → 1 + aN es = 1 + r4 + aN es + (aJ body + aJ els) := fun q1 q2 => by
   rw [hr4, m1 q1, m2 ⟨q1, q2⟩, jq, if_neg q2]; omega
  have h4 : ∀ o n, o ≠ 1 → Uses (1 + aN es) s (aq o n t) := fun o n ho => (h3.trans (bH ho n _)).to (by omega)
  by_cases c1 : op = 1
  ·rw [if_pos c1]; exact ((h3.trans (jG t)).trans (bH (by decide) _ _)).to (by rw [← no (by omega) (by omega)]; omega)
  rw [if_neg c1]
  by_cases c2 : op = 2
  ·rw [if_pos c2]; exact (h4 _ _ (by decide)).to (no (by omega) (by omega))
  rw [if_neg c2]
  by_cases c3 : op = 3
  ·rw [if_pos c3]
   have e3 : r4 = 0 := by rw [hr4]; exact if_neg (by omega)
   have g1 := bH (o := 16) (by decide) 0 t
   have g2 := dG body v (aq 16 0 t) hb mb
   generalize (aI F body (v, aq 16 0 t)).2 = t2 at *
   split
   ·have g3 := ey (by decide) g2
    have g4 := dG els v (cQ t.ins.length t2) hl ml
    exact ((((h3.trans g1).trans g2).trans g3).trans g4).to (by omega)
   ·have g3 := bH (o := 15) (by decide) 0 t2
    have g4 := ey (by decide) (g2.trans g3)
    have g5 := dG els v (cQ t.ins.length (aq 15 0 t2)) hl ml
    have g6 := ey (o := 15) (by decide) (g4.trans g5)
    exact ((((((h3.trans g1).trans g2).trans g3).trans g4).trans g5).trans g6).to (by omega)
  rw [if_neg c3]
  by_cases c4 : op = 4
  ·rw [if_pos c4]
   have e4 : r4 = 1 := by rw [hr4]; exact if_pos c4
   have a1 := (jG t).trans (jG (bh t))
   have a2 := a1.trans (bH (o := 6) (by decide) (t.slots + 1) (bh (bh t)))
   have a3 := a2.trans (bH (o := 6) (by decide) t.slots _)
   generalize (aq 6 t.slots (aq 6 (t.slots + 1) (bh (bh t)))).ins.length = nb
   have a4 := a3.trans (bH (o := 5) (by decide) t.slots _)
   have a5 := a4.trans (bH (o := 5) (by decide) (t.slots + 1) _)
   have a6 := a5.trans (bH (o := 7) (by decide) 6 _)
   generalize aq 7 6 (aq 5 (t.slots + 1) (aq 5 t.slots (aq 6 t.slots (aq 6 (t.slots + 1) (bh (bh t)))))) = t4 at *
   have b1 := bH (o := 16) (by decide) 0 t4
   have b2 := ju (aq 16 0 t4)
   have b3 := dG body (bJ v text t.slots) (aq 1 1 (aq 16 0 t4)) hb mb
   generalize (aI F body (bJ v text t.slots, aq 1 1 (aq 16 0 t4))).2 = t5 at *
   have b4 := (((((b2.trans b3).trans (bH (o := 5) (by decide) t.slots t5)).trans (bH (o := 2) (by decide) 1 _)).trans (bH (o := 7) (by decide) 1 _)).trans (bH (o := 6) (by decide) t.slots _)).trans (bH (o := 15) (by decide) (nb : Int) _)
   have b5 := ey (by decide) b4
   have em : aJ els = 0 := by rw [m1 (by omega), jq]
   exact ((((h3.trans a6).trans b1).trans b4).trans b5).to (by omega)
  rw [if_neg c4]
  by_cases c5 : op = 5
  ·rw [if_pos c5]; exact (h4 _ _ (by decide)).to (no c3 c4)
  rw [if_neg c5]
  by_cases c6 : op = 6
  ·rw [if_pos c6]; exact (h4 _ _ (by decide)).to (no c3 c4)
  rw [if_neg c6]
  by_cases c7 : op = 7
  ·rw [if_pos c7]; exact (h4 _ _ (by decide)).to (no c3 c4)
  rw [if_neg c7]
  by_cases c8 : op = 8
  ·rw [if_pos c8]
   dsimp only
   split
   ·exact h3.to (no c3 c4)
   ·exact (h4 _ _ (by decide)).to (no c3 c4)
  rw [if_neg c8]
  exact h3.to (no c3 c4)
theorem dG {F : List Fn} : ∀ (l : List St) (v : bg) (s : CS), dO F l → ej l → Uses (aJ l) s (aI F l (v, s)).2
 | [], v, s => by intro _ _; rw [aI, aJ]; exact Uses.refl s
 | x :: l, v, s => by
  intro hf hm
  rw [dO] at hf
  rw [ej] at hm
  rw [aI, aJ]
  exact (nC x v s hf.1 hm.1).trans (dG l _ _ hf.2 hm.2)
end
theorem nR {F : List Fn} (f : Fn) (T : List ByteArray) (hf : dO F f.body) (hm : ej f.body) : (eO (cz F f T).1.ins).count 1 = aJ f.body ∧ kJ (cz F f T).1.ins := by
 have h := dG (F := F) f.body (aC f.params ([], 0)).1 ⟨[], (aC f.params ([], 0)).2, T⟩ hf hm
 unfold cz
 dsimp only
 generalize (aI F f.body ((aC f.params ([], 0)).1, ⟨[], (aC f.params ([], 0)).2, T⟩)).2 = u at *
 have key : Uses (aJ f.body) ⟨[], (aC f.params ([], 0)).2, T⟩ (if f.result = 0 then aq 18 0 u else u) := by
  split
  ·exact (h.trans (bH (by decide) 0 u)).to (by omega)
  ·exact h
 obtain ⟨t, k1, k2, k3⟩ := key
 refine ⟨?_, k3 (fun x hx => by cases hx)⟩
 rw [k1, ← k2]
 rfl
mutual
theorem nu {G : aQ} (res : Int) : ∀ (x : St) (v : aV), (bR G res x v).2.1 = 0 → lD x
 | .mk op text es body els pos, v => by
  intro e
  rw [bR] at e
  dsimp only at e
  rw [lD]
  by_cases c0 : cw (.mk op text es body els pos) = false
  ·rw [if_pos c0] at e
   exact absurd e (by simp)
  rw [if_neg c0] at e
  obtain ⟨s1, s6, s5, s3, s4, sall⟩ := kX c0
  have hels : op ≠ 3 → els = [] := fun q => by
   rcases sall with h | h | h | h | h | h | h | h
   ·exact (s1 (by omega)).2.2
   ·exact (s1 (by omega)).2.2
   ·exact absurd h q
   ·exact s4 h
   ·exact (s5 h).2.2
   ·exact (s6 h).2
   ·exact (s1 (by omega)).2.2
   ·exact (s1 (by omega)).2.2
  have hbody : op ≠ 3 ∧ op ≠ 4 → body = [] := fun q => by
   rcases sall with h | h | h | h | h | h | h | h
   ·exact (s1 (by omega)).2.1
   ·exact (s1 (by omega)).2.1
   ·exact absurd h q.1
   ·exact absurd h q.2
   ·exact (s5 h).2.1
   ·exact (s6 h).1
   ·exact (s1 (by omega)).2.1
   ·exact (s1 (by omega)).2.1
  refine ⟨hels, hbody, ?_, ?_⟩
  ·by_cases c3 : op = 3
   ·rw [if_neg (by omega), if_neg (by omega), if_pos c3] at e
    exact ei res body v (bG (bG e).2).1
   ·by_cases c4 : op = 4
    ·rw [if_neg (by omega), if_neg (by omega), if_neg c3, if_pos c4] at e
     exact ei res body _ (bG (bG e).2).2
    ·rw [hbody ⟨c3, c4⟩]; exact gE
  ·by_cases c3 : op = 3
   ·rw [if_neg (by omega), if_neg (by omega), if_pos c3] at e
    exact ei res els v (bG (bG e).2).2
   ·rw [hels c3]; exact gE
theorem ei {G : aQ} (res : Int) : ∀ (l : List St) (v : aV), (be G res l v).1 = 0 → ej l
 | [], _ => fun _ => gE
 | x :: l, v => by
  intro e
  rw [be] at e
  rw [ej]
  by_cases c : (bR G res x v).2.1 ≠ 0
  ·rw [if_pos c] at e
   exact absurd e c
  rw [if_neg c] at e
  exact ⟨nu res x v (by simpa using c), ei res l _ e⟩
end
theorem mP {l : List Fn} (h : (bw l).1 = 0) : ∀ f, f ∈ l → ej f.body := by
 unfold bw at h
 by_cases c : 64 < l.length
 ·rw [if_pos c] at h
  exact absurd h (by decide)
 rw [if_neg c] at h
 by_cases d : (cD l []).1.1 ≠ 0
 ·rw [if_pos d] at h
  exact absurd h d
 rw [if_neg d] at h
 intro f hf
 have e := gz h f hf
 unfold dL at e
 dsimp only at e
 by_cases c1 : (cq f.pos f.params []).1.1 ≠ 0
 ·rw [if_pos c1] at e
  exact absurd e c1
 rw [if_neg c1] at e
 by_cases c2 : f.result < 0 ∨ 3 < f.result
 ·rw [if_pos c2] at e
  exact absurd e (by simp)
 rw [if_neg c2] at e
 by_cases c3 : 16 < f.params.length ∨ 64 < wrap64 (f.params.length + cy 0 f.body)
 ·rw [if_pos c3] at e
  exact absurd e (by simp)
 rw [if_neg c3] at e
 exact ei _ _ _ (bG e).1
theorem kh (F : List Fn) : ∀ (l : List Fn) (p : List Cd × List ByteArray) (i : Nat), i < l.length → ∃ T, (a8 F l p).1.getD (p.1.length + i) default = (cz F (l.getD i default) T).1
 | f :: l, p, 0, _ => by
  refine ⟨p.2, ?_⟩
  rw [a8]
  have key : ∀ (l : List Fn) (q : List Cd × List ByteArray) (j : Nat), j < q.1.length → (a8 F l q).1.getD j default = q.1.getD j default := fun l => by
   induction l with
   | nil => intro q j _; rw [a8]
   | cons g l ih =>
    intro q j hj
    rw [a8, ih _ _ (by simp; omega)]
    exact fq _ _ _ hj
  rw [key l _ _ (by simp)]
  show (p.1 ++ [(cz F f p.2).1]).getD p.1.length default = _
  rw [ff]
  rfl
 | f :: l, p, i + 1, h => by
  rw [a8]
  have q := kh F l (p.1 ++ [(cz F f p.2).1], (cz F f p.2).2) i (by simpa using h)
  dsimp only at q
  rw [List.length_append, show [(cz F f p.2).1].length = 1 from rfl, show p.1.length + 1 + i = p.1.length + (i + 1) by omega] at q
  exact q
theorem qH {l : List Fn} (h : (bw l).1 = 0) (i : Nat) (hi : i < l.length) : (eO ((cM l).codes.getD i default).ins).count 1 = aJ (l.getD i default).body ∧ kJ ((cM l).codes.getD i default).ins := by
 obtain ⟨T, e⟩ := kh l l ([], []) i hi
 have hm : l.getD i default ∈ l := by rw [List.getD_eq_getElem?_getD, List.getElem?_eq_getElem hi]; exact List.getElem_mem hi
 have e2 : (cM l).codes.getD i default = (cz l (l.getD i default) T).1 := by
  rw [← e]
  show (a8 l l ([], [])).1.getD i default = (a8 l l ([], [])).1.getD (0 + i) default
  rw [Nat.zero_add]
 rw [e2]
 exact nR _ _ ((dF h).2 _ hm).1 (mP h _ hm)
end
end Go.Proofs.YtjblihabklemfaaGreatDoor
