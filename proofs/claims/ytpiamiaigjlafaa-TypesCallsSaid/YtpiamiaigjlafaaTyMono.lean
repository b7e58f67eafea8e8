/-
  The checker in plain words: what is right with some functions is right with more.
-/
import Derived.Test.YtpiamiaigjlafaaTokP
namespace Go.Proofs.Ytpiamiaigjlafaa
open Go.RowKit

/-- all functions that one knows the other knows: with as many and such parameters, and the result -/
def Ext (F G : Funs) : Prop := ∀ k f, lookL F k = some f → ∃ g, lookL G k = some g ∧ g.params = f.params ∧ g.result = f.result
theorem or_zero {a b : Flt} (h : (orF a b).1 = 0) : a.1 = 0 ∧ b.1 = 0 := by
  unfold orF at h
  split at h
  · rename_i g; exact absurd h g
  · rename_i g; exact ⟨by simpa using g, h⟩
theorem or_left {a b : Flt} (h : a.1 = 0) : orF a b = b := by
  unfold orF
  rw [if_neg (by simp [h])]
theorem must_zero {r : Int × Flt} {t pos : Int} (h : (mustOf r t pos).1 = 0) : r.2.1 = 0 := by
  unfold mustOf at h
  split at h
  · rename_i g; exact absurd h g
  · rename_i g; simpa using g
mutual
theorem expr_mono {F G : Funs} (h : Ext F G) : ∀ (x : Ex) (v : View), (exprC F v x).2.1 = 0 → exprC G v x = exprC F v x
  | .mk op num text ks pos, v => by
    intro e
    rw [exprC] at e
    rw [exprC, exprC]
    by_cases c1 : kidsN op = -2 ∨ (0 ≤ kidsN op ∧ kidsN op ≠ ks.length)
    · simp only [if_pos c1] at e
      exact absurd e (by decide)
    simp only [if_neg c1] at e ⊢
    by_cases c2 : op = 1
    · simp only [if_pos c2]
    simp only [if_neg c2] at e ⊢
    by_cases c3 : op = 2
    · simp only [if_pos c3]
    simp only [if_neg c3] at e ⊢
    by_cases c4 : op = 3
    · simp only [if_pos c4]
    simp only [if_neg c4] at e ⊢
    by_cases c5 : op = 4
    · simp only [if_pos c5]
    simp only [if_neg c5] at e ⊢
    by_cases c6 : op = 5
    · simp only [if_pos c6] at e ⊢
      cases hl : lookL F text with
      | none =>
        rw [hl] at e
        exact absurd e (by simp)
      | some fn =>
        rw [hl] at e
        obtain ⟨g, hg, gp, gr⟩ := h text fn hl
        rw [hg]
        dsimp only at e ⊢
        rw [gp, gr]
        by_cases c7 : fn.params.length ≠ ks.length
        · simp only [if_pos c7] at e
          exact absurd e (by decide)
        simp only [if_neg c7] at e ⊢
        rw [all_mono h ks v _ e]
    simp only [if_neg c6] at e ⊢
    by_cases c7 : op = 6
    · simp only [if_pos c7] at e ⊢
      by_cases c8 : (signedC text.toList).1 ≠ 0
      · simp only [if_pos c8] at e ⊢
        rw [all_mono h ks v _ e]
      simp only [if_neg c8] at e ⊢
      by_cases c9 : text.toList ≠ [43] ∧ text.toList ≠ [61, 61] ∧ text.toList ≠ [33, 61]
      · simp only [if_pos c9] at e
        exact absurd e (by decide)
      simp only [if_neg c9] at e ⊢
      by_cases c10 : (sidesC F v (text.toList == [43]) ks).1.1 ≠ 0
      · simp only [if_pos c10] at e
        exact absurd e c10
      simp only [if_neg c10] at e
      rw [sides_mono h ks v _ (by simpa using c10)]
    simp only [if_neg c7] at e ⊢
    by_cases c8 : op = 7
    · simp only [if_pos c8] at e ⊢
      by_cases c9 : text.toList = [45]
      · simp only [if_pos c9] at e ⊢
        rw [all_mono h ks v _ e]
      simp only [if_neg c9] at e ⊢
      by_cases c10 : text.toList = [33]
      · simp only [if_pos c10] at e ⊢
        rw [all_mono h ks v _ e]
      simp only [if_neg c10] at e
      exact absurd e (by decide)
    simp only [if_neg c8] at e ⊢
    by_cases c9 : op = 9
    · simp only [if_pos c9] at e ⊢
      rw [all_mono h ks v _ e]
    simp only [if_neg c9] at e ⊢
    by_cases c10 : op = 10
    · simp only [if_pos c10] at e ⊢
      rw [all_mono h ks v _ e]
    simp only [if_neg c10] at e ⊢
    rw [all_mono h ks v _ e]
theorem all_mono {F G : Funs} (h : Ext F G) : ∀ (l : List Ex) (v : View) (ts : List Int), (allC F v l ts).1 = 0 → allC G v l ts = allC F v l ts
  | [], v, ts => by intro _; rw [allC, allC]
  | x :: l, v, ts => by
    intro e
    rw [allC] at e
    obtain ⟨e1, e2⟩ := or_zero e
    rw [allC, allC, expr_mono h x v (must_zero e1), all_mono h l v _ e2]
theorem sides_mono {F G : Funs} (h : Ext F G) : ∀ (l : List Ex) (v : View) (plus : Bool), (sidesC F v plus l).1.1 = 0 → sidesC G v plus l = sidesC F v plus l
  | [], v, plus => by intro _; rw [sidesC, sidesC]
  | k :: l, v, plus => by
    intro e
    rw [sidesC] at e
    rw [sidesC, sidesC]
    by_cases c : (if (exprC F v k).2.1 = 0 then noC ((exprC F v k).1 != 0 && !(plus && (exprC F v k).1 == 2)) 51 k.pos else (exprC F v k).2).1 ≠ 0
    · rw [if_pos c] at e
      exact absurd e c
    rw [if_neg c] at e
    have c' : (exprC F v k).2.1 = 0 := by
      by_cases c0 : (exprC F v k).2.1 = 0
      · exact c0
      · rw [if_neg c0] at c
        exact absurd c0 c
    rw [expr_mono h k v c', sides_mono h l v plus e]
end
theorem must_mono {F G : Funs} (h : Ext F G) (x : Ex) (v : View) (t : Int) (e : (mustC F v x t).1 = 0) : mustC G v x t = mustC F v x t := by
  unfold mustC at e ⊢
  rw [expr_mono h x v (must_zero e)]
mutual
theorem stmt_mono {F G : Funs} (h : Ext F G) (res : Int) : ∀ (s : St) (v : View), (stmtC F res s v).2.1 = 0 → stmtC G res s v = stmtC F res s v
  | .mk op text es body els pos, v => by
    intro e
    rw [stmtC] at e
    rw [stmtC, stmtC]
    by_cases c0 : shapedC (.mk op text es body els pos) = false
    · simp only [if_pos c0] at e
      exact absurd e (by decide)
    simp only [if_neg c0] at e ⊢
    by_cases c1 : op = 1
    · simp only [if_pos c1] at e ⊢
      rw [expr_mono h _ v (or_zero e).1]
    simp only [if_neg c1] at e ⊢
    by_cases c2 : op = 2
    · simp only [if_pos c2] at e ⊢
      rw [must_mono h _ v _ (or_zero (or_zero e).2).2]
    simp only [if_neg c2] at e ⊢
    by_cases c3 : op = 3
    · simp only [if_pos c3] at e ⊢
      obtain ⟨e1, e2⟩ := or_zero e
      obtain ⟨e2, e3⟩ := or_zero e2
      rw [must_mono h _ v _ e1, block_mono h res body v e2, block_mono h res els v e3]
    simp only [if_neg c3] at e ⊢
    by_cases c4 : op = 4
    · simp only [if_pos c4] at e ⊢
      obtain ⟨e1, e2⟩ := or_zero e
      rw [all_mono h _ v _ e1, block_mono h res body _ (or_zero e2).2]
    simp only [if_neg c4] at e ⊢
    by_cases c5 : op = 5
    · simp only [if_pos c5] at e ⊢
      by_cases c6 : es.length = 0
      · simp only [if_pos c6]
      simp only [if_neg c6] at e ⊢
      rw [expr_mono h _ v (or_zero e).1]
    simp only [if_neg c5] at e ⊢
    by_cases c8 : op = 8
    · simp only [if_pos c8] at e ⊢
      rw [expr_mono h _ v (or_zero e).1]
    simp only [if_neg c8] at e ⊢
    rw [all_mono h _ v _ e]
theorem block_mono {F G : Funs} (h : Ext F G) (res : Int) : ∀ (l : List St) (v : View), (blockC F res l v).1 = 0 → blockC G res l v = blockC F res l v
  | [], v => by intro _; rw [blockC, blockC]
  | s :: l, v => by
    intro e
    rw [blockC] at e
    by_cases c : (stmtC F res s v).2.1 ≠ 0
    · rw [if_pos c] at e
      exact absurd e c
    rw [if_neg c] at e
    rw [blockC, blockC, stmt_mono h res s v (by simpa using c), block_mono h res l _ e]
end
theorem func_mono {F G : Funs} (h : Ext F G) (f : Fn) (e : (funcC F f).1 = 0) : funcC G f = funcC F f := by
  unfold funcC at e ⊢
  dsimp only at e ⊢
  by_cases c1 : (paramsC f.pos f.params []).1.1 ≠ 0
  · simp only [if_pos c1]
  simp only [if_neg c1] at e ⊢
  by_cases c2 : f.result < 0 ∨ 3 < f.result
  · simp only [if_pos c2]
  simp only [if_neg c2] at e ⊢
  by_cases c3 : 16 < f.params.length ∨ 64 < wrap64 (f.params.length + namedC 0 f.body)
  · simp only [if_pos c3]
  simp only [if_neg c3] at e ⊢
  rw [block_mono h _ _ _ (or_zero e).1]
/-- a list's functions by their names: the last one of a name -/
theorem funs_look : ∀ (l : List Fn) (F : Funs) (k : ByteArray), (funsC l F).1.1 = 0 → lookL (funsC l F).2 k = match l.find? (fun f => decide (f.name = k)) with | some f => some f | none => lookL F k
  | [], F, k, _ => by rw [funsC]; rfl
  | f :: l, F, k, e => by
    rw [funsC] at e
    by_cases c : (lookL F f.name).isSome
    · rw [if_pos c] at e
      exact absurd e (by simp)
    rw [if_neg c] at e
    rw [funsC, if_neg c, funs_look l _ k e, List.find?_cons]
    by_cases hk : f.name = k
    · rw [decide_eq_true hk]
      dsimp only
      cases hf : l.find? (fun f => decide (f.name = k)) with
      | some g =>
        exfalso
        have hg := List.find?_some hf
        have hm := List.mem_of_find?_eq_some hf
        exact funs_apart l _ f.name (by rw [lookL_put, if_pos rfl]; rfl) e g hm (by rw [hk]; exact of_decide_eq_true hg)
      | none =>
        dsimp only
        rw [lookL_put, if_pos hk]
    · rw [decide_eq_false hk]
      dsimp only
      rw [lookL_put, if_neg hk]
where
  funs_apart : ∀ (l : List Fn) (F : Funs) (k : ByteArray), (lookL F k).isSome → (funsC l F).1.1 = 0 → ∀ g, g ∈ l → ¬ g.name = k
  | [], _, _, _, _, g, hg => by cases hg
  | f :: l, F, k, hk, e, g, hg => by
    rw [funsC] at e
    by_cases c : (lookL F f.name).isSome
    · rw [if_pos c] at e
      exact absurd e (by simp)
    rw [if_neg c] at e
    intro hgk
    rcases List.mem_cons.1 hg with rfl | hg
    · rw [hgk] at c
      exact c hk
    · refine funs_apart l _ k ?_ e g hg hgk
      rw [lookL_put]
      split
      · rfl
      · exact hk
/-- whether a list's names are apart -/
def apartB : List ByteArray → Bool
  | [] => true
  | k :: l => !(l.any fun j => decide (j = k)) && apartB l
theorem funs_is : ∀ (l : List Fn) (F : Funs), ((funsC l F).1.1 = 0 ↔ (∀ f, f ∈ l → lookL F f.name = none) ∧ apartB (l.map (·.name)) = true) ∧ ((funsC l F).1.1 = 0 ∨ (funsC l F).1.1 = 53)
  | [], F => by
    rw [funsC]
    exact ⟨⟨fun _ => ⟨fun f hf => (by cases hf), rfl⟩, fun _ => rfl⟩, .inl rfl⟩
  | f :: l, F => by
    rw [funsC]
    by_cases c : (lookL F f.name).isSome
    · rw [if_pos c]
      refine ⟨⟨fun e => absurd e (by simp), fun h => ?_⟩, .inr rfl⟩
      rw [h.1 f (List.mem_cons_self ..)] at c
      cases c
    rw [if_neg c]
    obtain ⟨h1, h2⟩ := funs_is l (putL F f.name f)
    refine ⟨h1.trans ⟨fun h => ⟨fun g hg => ?_, ?_⟩, fun h => ⟨fun g hg => ?_, ?_⟩⟩, h2⟩
    · rcases List.mem_cons.1 hg with rfl | hg
      · cases q : lookL F g.name with
        | none => rfl
        | some x => rw [q] at c; exact absurd rfl c
      · have q := h.1 g hg
        rw [lookL_put] at q
        split at q
        · cases q
        · exact q
    · rw [List.map_cons, apartB, h.2, Bool.and_true, Bool.not_eq_true', List.any_eq_false]
      intro j hj hjk
      obtain ⟨g, hg, rfl⟩ := List.mem_map.1 hj
      have q := h.1 g hg
      rw [lookL_put, if_pos (of_decide_eq_true hjk).symm] at q
      cases q
    · have q := h.2
      rw [List.map_cons, apartB, Bool.and_eq_true, Bool.not_eq_true', List.any_eq_false] at q
      rw [lookL_put, if_neg (fun e => q.1 g.name (List.mem_map.2 ⟨g, hg, rfl⟩) (decide_eq_true e.symm))]
      exact h.1 g (List.mem_cons_of_mem _ hg)
    · have q := h.2
      rw [List.map_cons, apartB, Bool.and_eq_true] at q
      exact q.2
theorem each_zero {F : Funs} : ∀ {l : List Fn}, (eachC F l).1 = 0 ↔ ∀ f, f ∈ l → (funcC F f).1 = 0
  | [] => by
    rw [eachC]
    exact ⟨fun _ f hf => (by cases hf), fun _ => rfl⟩
  | f :: l => by
    rw [eachC]
    constructor
    · intro h g hg
      obtain ⟨h1, h2⟩ := or_zero h
      rcases List.mem_cons.1 hg with rfl | hg
      · exact h1
      · exact each_zero.1 h2 g hg
    · intro h
      rw [or_left (h f (List.mem_cons_self ..))]
      exact each_zero.2 fun g hg => h g (List.mem_cons_of_mem _ hg)
/-- when a program is right -/
theorem check_zero {l : List Fn} (h : (checkC l).1 = 0) : l.length ≤ 64 ∧ (funsC l []).1.1 = 0 ∧ ∀ f, f ∈ l → (funcC (funsC l []).2 f).1 = 0 := by
  unfold checkC at h
  by_cases c1 : 64 < l.length
  · rw [if_pos c1] at h
    exact absurd h (by decide)
  rw [if_neg c1] at h
  by_cases c2 : (funsC l []).1.1 ≠ 0
  · rw [if_pos c2] at h
    exact absurd h c2
  rw [if_neg c2] at h
  exact ⟨by omega, by simpa using c2, each_zero.1 h⟩
theorem apart_append : ∀ (a b : List ByteArray), apartB (a ++ b) = true → apartB b = true ∧ ∀ k, k ∈ a → ¬ k ∈ b
  | [], b, h => ⟨h, fun k hk => (by cases hk)⟩
  | x :: a, b, h => by
    rw [List.cons_append, apartB, Bool.and_eq_true, Bool.not_eq_true', List.any_eq_false] at h
    obtain ⟨h1, h2⟩ := apart_append a b h.2
    refine ⟨h1, fun k hk => ?_⟩
    rcases List.mem_cons.1 hk with rfl | hk
    · intro hb
      exact h.1 k (List.mem_append.2 (.inr hb)) (decide_eq_true rfl)
    · exact h2 k hk
/-- TypesMore: two right programs, one behind the other -/
theorem more_law {p q : List Fn} (hp : (checkC p).1 = 0) (hq : (checkC q).1 = 0) :
    if 64 < (p ++ q).length then (checkC (p ++ q)).1 = 2 else ((checkC (p ++ q)).1 = 0 ↔ apartB ((p ++ q).map (·.name)) = true) ∧ ((checkC (p ++ q)).1 = 0 ∨ (checkC (p ++ q)).1 = 53) := by
  by_cases c : 64 < (p ++ q).length
  · rw [if_pos c]
    unfold checkC
    rw [if_pos c]
  rw [if_neg c]
  obtain ⟨_, p2, p3⟩ := check_zero hp
  obtain ⟨_, q2, q3⟩ := check_zero hq
  obtain ⟨h1, h2⟩ := funs_is (p ++ q) []
  have hz : (funsC (p ++ q) []).1.1 = 0 → (checkC (p ++ q)).1 = 0 := fun h0 => by
    unfold checkC
    rw [if_neg c, if_neg (by simpa using h0)]
    have ha := (h1.1 h0).2
    rw [List.map_append] at ha
    obtain ⟨_, hap⟩ := apart_append _ _ ha
    have e1 : Ext (funsC p []).2 (funsC (p ++ q) []).2 := fun k f hf => by
      rw [funs_look _ _ _ p2] at hf
      rw [funs_look _ _ _ h0, List.find?_append]
      cases hx : p.find? (fun f => decide (f.name = k)) with
      | none => rw [hx] at hf; cases hf
      | some g =>
        rw [hx] at hf
        cases hf
        exact ⟨f, rfl, rfl, rfl⟩
    have e2 : Ext (funsC q []).2 (funsC (p ++ q) []).2 := fun k f hf => by
      rw [funs_look _ _ _ q2] at hf
      rw [funs_look _ _ _ h0, List.find?_append]
      cases hx : q.find? (fun f => decide (f.name = k)) with
      | none => rw [hx] at hf; cases hf
      | some g =>
        rw [hx] at hf
        cases hf
        have hpn : p.find? (fun f => decide (f.name = k)) = none := by
          rw [List.find?_eq_none]
          intro g hg hgk
          have hm := List.mem_of_find?_eq_some hx
          have hn0 := List.find?_some hx
          have hn : f.name = k := of_decide_eq_true hn0
          refine hap g.name (List.mem_map.2 ⟨g, hg, rfl⟩) (List.mem_map.2 ⟨f, hm, ?_⟩)
          rw [hn, of_decide_eq_true hgk]
        rw [hpn]
        exact ⟨f, rfl, rfl, rfl⟩
    refine each_zero.2 fun f hf => ?_
    rcases List.mem_append.1 hf with hf | hf
    · rw [func_mono e1 f (p3 f hf)]; exact p3 f hf
    · rw [func_mono e2 f (q3 f hf)]; exact q3 f hf
  have hnz : ¬ (funsC (p ++ q) []).1.1 = 0 → (checkC (p ++ q)).1 = (funsC (p ++ q) []).1.1 := fun h0 => by
    unfold checkC
    rw [if_neg c, if_pos h0]
  rcases h2 with h2 | h2
  · exact ⟨⟨fun _ => (h1.1 h2).2, fun _ => hz h2⟩, .inl (hz h2)⟩
  · have h0 : ¬ (funsC (p ++ q) []).1.1 = 0 := by rw [h2]; decide
    refine ⟨⟨fun e => ?_, fun e => ?_⟩, .inr ((hnz h0).trans h2)⟩
    · rw [hnz h0, h2] at e
      exact absurd e (by decide)
    · exact absurd (h1.2 ⟨fun f _ => rfl, e⟩) h0
end Go.Proofs.Ytpiamiaigjlafaa
