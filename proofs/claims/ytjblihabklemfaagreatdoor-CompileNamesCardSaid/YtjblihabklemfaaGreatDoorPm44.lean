/-
  Compile: part 44 of its proof: see the last text.
-/
import Derived.Test.YtjblihabklemfaaGreatDoorPm20
set_option maxRecDepth 100000
set_option maxHeartbeats 16000000
namespace Go.Proofs.YtjblihabklemfaaGreatDoor
section
open Go.RowKit
def Bd (s : CS) : Prop := s.ins.length ≤ 1000000 ∧ s.texts.length ≤ 1000000 ∧ s.slots ≤ 1000000
def GdS (s : CS) : Prop := 0 ≤ s.slots ∧ (∀ t, t ∈ s.texts → t.size ≤ 64) ∧ (Bd s → ∀ x, x ∈ s.ins → i64 x.op ∧ i64 x.a)
def VB (v : bg) (n : Int) : Prop := ∀ k, 0 ≤ (aF v k).getD 0 ∧ (aF v k).getD 0 ≤ n
theorem VB.mono {v : bg} {n m : Int} (h : VB v n) (hm : n ≤ m) : VB v m := fun k => ⟨(h k).1, by have := (h k).2; omega⟩
theorem VB.put {v : bg} {n m : Int} (h : VB v n) (k : ByteArray) (h0 : 0 ≤ m) (h1 : m ≤ n) : VB (bJ v k m) n := fun j => by
 rw [ik]
 split
 ·exact ⟨h0, h1⟩
 ·exact h j
theorem bN {n : Int} (h0 : 0 ≤ n) (h1 : n ≤ 1000000) : i64 n := by unfold i64; omega
section
variable {s : CS} {F : List Fn}
theorem dQ {o n : Int} (h : GdS s) (ho : i64 o) (hn : Bd s → i64 n) : GdS (aq o n s) := ⟨h.1, h.2.1, fun hb x hx => by
  have hb' : Bd s := ⟨by have := hb.1; simp only [aq, List.length_append, List.length_cons, List.length_nil] at this; omega, hb.2⟩
  simp only [aq, List.mem_append, List.mem_singleton] at hx
  rcases hx with hx | rfl
  · exact h.2.2 hb' x hx
  · exact ⟨ho, hn hb'⟩⟩
theorem bM {o n : Int} (h : GdS s) (ho : i64 o) (hn : i64 n) : GdS (aq o n s) := dQ h ho (fun _ => hn)
theorem fR (k : Nat) (h : GdS s) : GdS (cQ k s) := ⟨h.1, h.2.1, fun hb x hx => by
  have hb' : Bd s := ⟨by have := hb.1; simpa [cQ] using this, hb.2⟩
  rcases List.mem_or_eq_of_mem_set (show x ∈ s.ins.set k ⟨(s.ins.getD k default).op, s.ins.length⟩ from hx) with q | rfl
  · exact h.2.2 hb' x q
  · refine ⟨?_, bN (by show (0 : Int) ≤ (s.ins.length : Int); omega) (by show (s.ins.length : Int) ≤ 1000000; have := hb'.1; omega)⟩
    by_cases hk : k < s.ins.length
    · exact (h.2.2 hb' (s.ins.getD k default) (by rw [List.getD_eq_getElem?_getD, List.getElem?_eq_getElem hk]; exact List.getElem_mem hk)).1
    · show i64 (s.ins.getD k default).op
      rw [List.getD_eq_getElem?_getD, List.getElem?_eq_none (by omega)]
      constructor <;> decide⟩
theorem kH (h : GdS s) : GdS (bh s) := ⟨by have := h.1; show 0 ≤ s.slots + 1; omega, h.2.1, fun hb x hx => h.2.2 ⟨hb.1, hb.2.1, by have := hb.2.2; simp only [bh] at this; omega⟩ x hx⟩
theorem qB {t : ByteArray} (ht : t.size ≤ 64) (h : GdS s) : GdS (dg t s) := by
 unfold dg
 split
 ·exact h
 ·refine ⟨h.1, fun x hx => ?_, fun hb x hx => h.2.2 ⟨hb.1, by have := hb.2.1; simp only [List.length_append] at this; omega, hb.2.2⟩ x hx⟩
  rcases List.mem_append.1 hx with hx | hx
  ·exact h.2.1 x hx
  ·rw [List.mem_singleton] at hx; rw [hx]; exact ht
theorem lr : ∀ (l : List ByteArray) (t : ByteArray), d7 l t ≤ l.length
 | [], _ => Nat.le_refl _
 | x :: l, t => by
  rw [d7]
  split
  ·exact Nat.zero_le _
  ·have := lr l t; rw [List.length_cons]; omega
theorem jj : ∀ (l : List Fn) (nm : ByteArray), bI l nm ≤ l.length
 | [], _ => Nat.le_refl _
 | f :: l, nm => by
  rw [bI]
  split
  ·exact Nat.zero_le _
  ·have := jj l nm; rw [List.length_cons]; omega
theorem iM (t : List UInt8) : i64 (cL t) := by
 unfold cL
 refine bN (by omega) ?_
 cases h : signNames.findIdx? (· == t) with
 | none => simp
 | some i =>
  have := (List.findIdx?_eq_some_iff_getElem.1 h).choose
  have e : signNames.length = 13 := by decide
  simp
  omega
theorem nV (n : Int) : i64 (kZ n) := by unfold kZ; split <;> (constructor <;> decide)
end
theorem tJ {n : Int} (h : i64 n := by constructor <;> decide) : i64 n := h
mutual
theorem i7 {F : List Fn} (hF : F.length ≤ 1000) : ∀ (x : Ex) (v : bg) (s : CS), okE x → VB v s.slots → GdS s → GdS (cE F v x s)
 | .mk op num text ks pos, v, s => by
  intro ho hv h
  rw [okE] at ho
  obtain ⟨⟨h64, h3⟩, hk⟩ := ho
  rw [cE]
  dsimp only
  have h1 : GdS (aq 1 1 s) := bM h tJ tJ
  split
  ·exact nN hF (nS text.toList) ks v _ hk hv h1
  ·have h2 := jh hF ks v (aq 1 1 s) hk hv h1
   have hsl := (cN F v ks (aq 1 1 s)).2.2.2.2
   have hv2 : VB v (aD F v ks (aq 1 1 s)).slots := by rw [hsl]; exact hv
   generalize aD F v ks (aq 1 1 s) = t at *
   by_cases c1 : op = 1
   ·rw [if_pos c1]; exact bM h2 tJ h64
   rw [if_neg c1]
   by_cases c2 : op = 2
   ·rw [if_pos c2]; exact bM h2 tJ (nV _)
   rw [if_neg c2]
   by_cases c3 : op = 3
   ·rw [if_pos c3]
    exact dQ (qB (h3 (.inl c3)) h2) tJ (fun hb => bN (by omega) (by have := lr (dg text t).texts text; have := hb.2.1; omega))
   rw [if_neg c3]
   by_cases c4 : op = 4
   ·rw [if_pos c4]; exact dQ h2 tJ (fun hb => bN (hv2 text).1 (by have := (hv2 text).2; have := hb.2.2; omega))
   rw [if_neg c4]
   by_cases c5 : op = 5
   ·rw [if_pos c5]; exact bM h2 tJ (bN (by omega) (by have := jj F text; omega))
   rw [if_neg c5]
   by_cases c6 : op = 6
   ·rw [if_pos c6]; exact bM h2 tJ (iM _)
   rw [if_neg c6]
   by_cases c7 : op = 7
   ·rw [if_pos c7]; exact bM h2 tJ (iM _)
   rw [if_neg c7]
   by_cases c8 : op = 8
   ·rw [if_pos c8]; exact bM h2 tJ tJ
   rw [if_neg c8]
   by_cases c9 : op = 9
   ·rw [if_pos c9]; exact bM h2 tJ tJ
   rw [if_neg c9]
   by_cases c10 : op = 10
   ·rw [if_pos c10]; exact bM h2 tJ tJ
   rw [if_neg c10]
   exact h2
theorem jh {F : List Fn} (hF : F.length ≤ 1000) : ∀ (l : List Ex) (v : bg) (s : CS), cT l → VB v s.slots → GdS s → GdS (aD F v l s)
 | [], v, s => by intro _ _ h; rw [aD]; exact h
 | x :: l, v, s => by
  intro ho hv h
  rw [cT] at ho
  rw [aD]
  refine jh hF l v _ ho.2 ?_ (i7 hF x v s ho.1 hv h)
  rw [(cR F v x s).2.2.2.2]
  exact hv
theorem nN {F : List Fn} (hF : F.length ≤ 1000) (isAnd : Bool) : ∀ (l : List Ex) (v : bg) (s : CS), cT l → VB v s.slots → GdS s → GdS (cn F v isAnd l s)
 | [], v, s => by intro _ _ h; rw [cn]; exact h
 | [_], v, s => by intro _ _ h; rw [cn]; exact h
 | x :: y :: l, v, s => by
  intro ho hv h
  rw [cT, cT] at ho
  rw [cn]
  have h1 := bM (n := 0) (o := 16) (i7 hF x v s ho.1 hv h) tJ tJ
  have hs1 : VB v (aq 16 0 (cE F v x s)).slots := by show VB v (cE F v x s).slots; rw [(cR F v x s).2.2.2.2]; exact hv
  generalize aq 16 0 (cE F v x s) = s1 at *
  generalize (cE F v x s).ins.length = n1
  cases isAnd
  ·rw [if_neg (by decide), if_neg (by decide)]
   exact fR _ (i7 hF y v _ ho.2.1 hs1 (fR _ (bM (bM h1 tJ tJ) tJ tJ)))
  ·rw [if_pos rfl, if_pos rfl]
   exact fR _ (bM (fR _ (bM (i7 hF y v _ ho.2.1 hs1 h1) tJ tJ)) tJ tJ)
end
mutual
theorem qv {F : List Fn} (hF : F.length ≤ 1000) : ∀ (x : St) (v : bg) (s : CS), okS x → VB v s.slots → GdS s → GdS (dT F x (v, s)).2 ∧ VB (dT F x (v, s)).1 (dT F x (v, s)).2.slots
 | .mk op text es body els pos, v, s => by
  intro ho hv h
  rw [okS] at ho
  obtain ⟨_, he, hb, hl⟩ := ho
  rw [dT]
  dsimp only
  have h1 : GdS (aq 1 1 s) := bM h tJ tJ
  have h2 := jh hF es v (aq 1 1 s) he hv h1
  have hsl := (cN F v es (aq 1 1 s)).2.2.2.2
  have hv2 : VB v (aD F v es (aq 1 1 s)).slots := by rw [hsl]; exact hv
  generalize aD F v es (aq 1 1 s) = t at *
  have ht0 := h2.1
  have hslot : ∀ {u : CS}, GdS u → u.slots = t.slots → GdS (aq 6 t.slots u) ∧ GdS (aq 5 t.slots u) := fun {u} hu e => ⟨dQ hu tJ (fun q => bN ht0 (by have := q.2.2; omega)), dQ hu tJ (fun q => bN ht0 (by have := q.2.2; omega))⟩
  by_cases c1 : op = 1
  ·rw [if_pos c1]
   exact ⟨dQ (kH h2) tJ (fun q => bN ht0 (by have := q.2.2; simp only [bh] at this; omega)), (hv2.mono (show t.slots ≤ (bh t).slots by show t.slots ≤ t.slots + 1; omega)).put text ht0 (by show t.slots ≤ t.slots + 1; omega)⟩
  rw [if_neg c1]
  by_cases c2 : op = 2
  ·rw [if_pos c2]
   exact ⟨dQ h2 tJ (fun q => bN (hv2 text).1 (by have := (hv2 text).2; have := q.2.2; omega)), hv2⟩
  rw [if_neg c2]
  by_cases c3 : op = 3
  ·rw [if_pos c3]
   have g1 : GdS (aq 16 0 t) := bM h2 tJ tJ
   have g2 := eU hF body v (aq 16 0 t) hb hv2 g1
   have a2 := bv F body v (aq 16 0 t)
   have hm2 : VB v (aI F body (v, aq 16 0 t)).2.slots := hv2.mono a2.2.2.2.2.1
   generalize (aI F body (v, aq 16 0 t)).2 = t2 at *
   split
   ·have g3 := fR t.ins.length g2
    have g4 := eU hF els v (cQ t.ins.length t2) hl hm2 g3
    have a4 := bv F els v (cQ t.ins.length t2)
    exact ⟨g4, hm2.mono a4.2.2.2.2.1⟩
   ·have g3 := fR t.ins.length (bM (o := 15) (n := 0) g2 tJ tJ)
    have g4 := eU hF els v (cQ t.ins.length (aq 15 0 t2)) hl hm2 g3
    have a4 := bv F els v (cQ t.ins.length (aq 15 0 t2))
    exact ⟨fR _ g4, hm2.mono a4.2.2.2.2.1⟩
  rw [if_neg c3]
  by_cases c4 : op = 4
  ·rw [if_pos c4]
   have big1 : ∀ {u : CS}, GdS u → u.slots = t.slots + 1 + 1 → ∀ o, i64 o → GdS (aq o t.slots u) ∧ GdS (aq o (t.slots + 1) u) := fun {u} hu e o hoo => ⟨dQ hu hoo (fun q => bN ht0 (by have := q.2.2; omega)), dQ hu hoo (fun q => bN (by omega) (by have := q.2.2; omega))⟩
   have g0 : GdS (bh (bh t)) := kH (kH h2)
   have g1 := (big1 g0 rfl 6 tJ).2
   have g2 := (big1 g1 rfl 6 tJ).1
   have hbeg : Bd (aq 6 t.slots (aq 6 (t.slots + 1) (bh (bh t)))) → ((aq 6 t.slots (aq 6 (t.slots + 1) (bh (bh t)))).ins.length : Int) ≤ 1000000 := fun q => by have := q.1; omega
   generalize hbl : (aq 6 t.slots (aq 6 (t.slots + 1) (bh (bh t)))).ins.length = nb at *
   have g3 := (big1 g2 rfl 5 tJ).1
   have g4 := (big1 g3 rfl 5 tJ).2
   have g5 : GdS (aq 1 1 (aq 16 0 (aq 7 6 (aq 5 (t.slots + 1) (aq 5 t.slots (aq 6 t.slots (aq 6 (t.slots + 1) (bh (bh t))))))))) := bM (bM (bM g4 tJ tJ) tJ tJ) tJ tJ
   have hl5 : nb ≤ (aq 1 1 (aq 16 0 (aq 7 6 (aq 5 (t.slots + 1) (aq 5 t.slots (aq 6 t.slots (aq 6 (t.slots + 1) (bh (bh t))))))))).ins.length := by rw [← hbl]; simp [aq]
   have hs5 : (aq 1 1 (aq 16 0 (aq 7 6 (aq 5 (t.slots + 1) (aq 5 t.slots (aq 6 t.slots (aq 6 (t.slots + 1) (bh (bh t))))))))).slots = t.slots + 1 + 1 := rfl
   generalize aq 1 1 (aq 16 0 (aq 7 6 (aq 5 (t.slots + 1) (aq 5 t.slots (aq 6 t.slots (aq 6 (t.slots + 1) (bh (bh t)))))))) = t5 at *
   have hv5 : VB (bJ v text t.slots) t5.slots := (hv2.mono (by omega)).put text ht0 (by omega)
   have g6 := eU hF body _ t5 hb hv5 g5
   have a6 := bv F body (bJ v text t.slots) t5
   generalize (aI F body (bJ v text t.slots, t5)).2 = t6 at *
   obtain ⟨a61, _, _, _, a65, _⟩ := a6
   have g7 : GdS (aq 5 t.slots t6) := dQ g6 tJ (fun q => bN ht0 (by have := q.2.2; omega))
   have g8 : GdS (aq 7 1 (aq 2 1 (aq 5 t.slots t6))) := bM (bM g7 tJ tJ) tJ tJ
   have g9 : GdS (aq 6 t.slots (aq 7 1 (aq 2 1 (aq 5 t.slots t6)))) := dQ g8 tJ (fun q => bN ht0 (by have : t6.slots ≤ 1000000 := q.2.2; omega))
   have g10 : GdS (aq 15 (nb : Int) (aq 6 t.slots (aq 7 1 (aq 2 1 (aq 5 t.slots t6))))) := dQ g9 tJ (fun q => bN (by omega) (by have := q.1; simp only [aq, List.length_append, List.length_cons, List.length_nil] at this; omega))
   exact ⟨fR _ g10, hv2.mono (show t.slots ≤ t6.slots by omega)⟩
  rw [if_neg c4]
  by_cases c5 : op = 5
  ·rw [if_pos c5]; exact ⟨bM h2 tJ tJ, hv2⟩
  rw [if_neg c5]
  by_cases c6 : op = 6
  ·rw [if_pos c6]; exact ⟨bM h2 tJ tJ, hv2⟩
  rw [if_neg c6]
  by_cases c7 : op = 7
  ·rw [if_pos c7]; exact ⟨bM h2 tJ tJ, hv2⟩
  rw [if_neg c7]
  by_cases c8 : op = 8
  ·rw [if_pos c8]
   dsimp only
   split
   ·exact ⟨h2, hv2⟩
   ·exact ⟨bM h2 tJ tJ, hv2⟩
  rw [if_neg c8]
  exact ⟨h2, hv2⟩
theorem eU {F : List Fn} (hF : F.length ≤ 1000) : ∀ (l : List St) (v : bg) (s : CS), dH l → VB v s.slots → GdS s → GdS (aI F l (v, s)).2
 | [], v, s => by intro _ _ h; rw [aI]; exact h
 | x :: l, v, s => by
  intro ho hv h
  rw [dH] at ho
  rw [aI]
  obtain ⟨g1, g2⟩ := qv hF x v s ho.1 hv h
  exact eU hF l _ _ ho.2 g2 g1
end
theorem jX : ∀ (l : List (ByteArray × Int)) (v : bg) (n : Int), 0 ≤ n → VB v n → VB (aC l (v, n)).1 (aC l (v, n)).2 ∧ 0 ≤ (aC l (v, n)).2
 | [], v, n, h0, h => by rw [aC]; exact ⟨h, h0⟩
 | p :: l, v, n, h0, h => by
  rw [aC]
  exact jX l _ _ (by omega) ((h.mono (by omega)).put p.1 h0 (by omega))
theorem qb {F : List Fn} (hF : F.length ≤ 1000) (f : Fn) (T : List ByteArray) (hb : dH f.body) (hT : ∀ t, t ∈ T → t.size ≤ 64) (hn : szF f ≤ 2048) (hTl : T.length ≤ 2048) : (∀ t, t ∈ (cz F f T).2 → t.size ≤ 64) ∧ (cz F f T).1.ins.length ≤ 40000 ∧ i64 (cz F f T).1.slots ∧ ∀ x, x ∈ (cz F f T).1.ins → i64 x.op ∧ i64 x.a := by
 have hp := jX f.params [] 0 (Int.le_refl _) (fun k => ⟨Int.le_refl _, Int.le_refl _⟩)
 have hpl : (aC f.params ([], 0)).2 ≤ 2048 := by
  have : ∀ (l : List (ByteArray × Int)) (p : bg × Int), (aC l p).2 = p.2 + l.length := fun l => by
   induction l with
   | nil => intro p; rw [aC]; simp
   | cons x l ih => intro p; rw [aC, ih]; simp; omega
  rw [this]
  unfold szF at hn
  show (0 : Int) + _ ≤ _
  omega
 have g := eU hF f.body _ ⟨[], (aC f.params ([], 0)).2, T⟩ hb hp.1 ⟨hp.2, hT, fun _ x hx => (by cases hx)⟩
 have a := bv F f.body (aC f.params ([], 0)).1 ⟨[], (aC f.params ([], 0)).2, T⟩
 unfold szF at hn
 have key : GdS (if f.result = 0 then aq 18 0 (aI F f.body ((aC f.params ([], 0)).1, ⟨[], (aC f.params ([], 0)).2, T⟩)).2 else (aI F f.body ((aC f.params ([], 0)).1, ⟨[], (aC f.params ([], 0)).2, T⟩)).2) ∧ (if f.result = 0 then aq 18 0 (aI F f.body ((aC f.params ([], 0)).1, ⟨[], (aC f.params ([], 0)).2, T⟩)).2 else (aI F f.body ((aC f.params ([], 0)).1, ⟨[], (aC f.params ([], 0)).2, T⟩)).2).ins.length ≤ 40000 ∧ Bd (if f.result = 0 then aq 18 0 (aI F f.body ((aC f.params ([], 0)).1, ⟨[], (aC f.params ([], 0)).2, T⟩)).2 else (aI F f.body ((aC f.params ([], 0)).1, ⟨[], (aC f.params ([], 0)).2, T⟩)).2) := by
  generalize (aI F f.body ((aC f.params ([], 0)).1, ⟨[], (aC f.params ([], 0)).2, T⟩)).2 = u at *
  obtain ⟨_, a2, _, a4, _, a6⟩ := a
  dsimp only [List.length_nil] at a2 a4 a6
  split
  ·refine ⟨bM g tJ tJ, by simp [aq]; omega, by simp [aq]; omega, by show u.texts.length ≤ _; omega, by show u.slots ≤ _; omega⟩
  ·exact ⟨g, by omega, by omega, by omega, by omega⟩
 obtain ⟨k1, k2, k3⟩ := key
 exact ⟨k1.2.1, k2, bN k1.1 k3.2.2, k1.2.2 k3⟩
end
end Go.Proofs.YtjblihabklemfaaGreatDoor
