/-
  TypesName in plain words: a right program with a name that nobody knows in it is not right.
-/
import Derived.Test.YtpiamiaigjlafaaTyLow
import Derived.KernelRfl
namespace Go.Proofs.Ytpiamiaigjlafaa
open Go.RowKit

def setN : St := .mk 2 nobody [.mk 1 0 ⟨#[]⟩ [] 0] [] [] 5
def doN : St := .mk 8 ⟨#[]⟩ [.mk 5 0 nobody [] 7] [] [] 0
def withB (f : Fn) (s : St) : Fn := ⟨f.name, f.params, f.result, s :: f.body, f.pos⟩
theorem pars_look (pos : Int) (k : ByteArray) : ∀ (ps : List (ByteArray × Int)) (v : View), (∀ x, x ∈ ps → x.1 ≠ k) → lookL (paramsC pos ps v).2 k = lookL v k
  | [], v, _ => by rw [paramsC]
  | p :: l, v, h => by
    rw [paramsC]
    by_cases c1 : (lookL v p.1).isSome
    · rw [if_pos c1]
    rw [if_neg c1]
    by_cases c2 : p.2 < 1 ∨ 3 < p.2
    · rw [if_pos c2]
    rw [if_neg c2, pars_look pos k l _ (fun x hx => h x (List.mem_cons_of_mem _ hx)), lookL_put, if_neg (h p (List.mem_cons_self ..))]
theorem setN_no (F : Funs) (res : Int) (v : View) (h : lookL v nobody = none) : stmtC F res setN v = (v, (52, 5)) := by
  simp [setN, stmtC, shapedC, orF, noC, St.exprs, St.body, St.els, St.op, h]
theorem doN_no (F : Funs) (res : Int) (v : View) (h : lookL F nobody = none) : stmtC F res doN v = (v, (52, 7)) := by
  simp [doN, stmtC, shapedC, exprC, kidsN, orF, St.exprs, St.body, St.els, St.op, h]
theorem named_withB (s : St) (hs : namedS 0 s = 0) (l : List St) : namedC 0 (s :: l) = namedC 0 l := by
  rw [namedC, hs]
theorem func_withB {F G : Funs} {f : Fn} {s : St} {q : Flt} (h : (funcC F f).1 = 0) (hs : namedS 0 s = 0) (hq : ¬ q.1 = 0) (hst : ∀ v, lookL v nobody = none → (stmtC G f.result s v).2 = q) (hl : LowF f) : funcC G (withB f s) = q := by
  unfold funcC at h
  dsimp only at h
  by_cases c1 : (paramsC f.pos f.params []).1.1 ≠ 0
  · rw [if_pos c1] at h; exact absurd h c1
  rw [if_neg c1] at h
  by_cases c2 : f.result < 0 ∨ 3 < f.result
  · rw [if_pos c2] at h; exact absurd h (by simp)
  rw [if_neg c2] at h
  by_cases c3 : 16 < f.params.length ∨ 64 < wrap64 (f.params.length + namedC 0 f.body)
  · rw [if_pos c3] at h; exact absurd h (by simp)
  have hv := hst (paramsC f.pos f.params []).2 ((pars_look f.pos nobody f.params [] hl.2).trans rfl)
  unfold funcC withB
  dsimp only
  rw [if_neg c1, if_neg c2, named_withB s hs, if_neg c3]
  rw [blockC, hv, if_pos hq]
  unfold orF
  rw [if_pos hq]
theorem each_first {G : Funs} {q : Flt} (hq : ¬ q.1 = 0) : ∀ (a : List Fn) (x : Fn) (b : List Fn), (∀ f, f ∈ a → (funcC G f).1 = 0) → funcC G x = q → eachC G (a ++ x :: b) = q
  | [], x, b, _, hx => by
    rw [List.nil_append, eachC, hx]
    unfold orF
    rw [if_pos hq]
  | y :: a, x, b, h, hx => by
    rw [List.cons_append, eachC, or_left (h y (List.mem_cons_self ..))]
    exact each_first hq a x b (fun f hf => h f (List.mem_cons_of_mem _ hf)) hx
theorem name_law {a b : List Fn} {f : Fn} {s : St} {q : Flt} (h : (checkC (a ++ f :: b)).1 = 0) (hs : namedS 0 s = 0) (hq : ¬ q.1 = 0) (hst : ∀ G v, lookL G nobody = none → lookL v nobody = none → (stmtC G f.result s v).2 = q) (hl : ∀ x, x ∈ a ++ f :: b → LowF x) : checkC (a ++ withB f s :: b) = q := by
  obtain ⟨h1, h2, h3⟩ := check_zero h
  have hlen : (a ++ withB f s :: b).length = (a ++ f :: b).length := by simp
  have hnm : (a ++ withB f s :: b).map (·.name) = (a ++ f :: b).map (·.name) := by simp [withB]
  have h0 : (funsC (a ++ withB f s :: b) []).1.1 = 0 := by
    refine (funs_is _ []).1.2 ⟨fun _ _ => rfl, ?_⟩
    rw [hnm]
    exact ((funs_is _ []).1.1 h2).2
  unfold checkC
  rw [if_neg (by omega), if_neg (by simpa using h0)]
  have hext : Ext (funsC (a ++ f :: b) []).2 (funsC (a ++ withB f s :: b) []).2 := fun k g hg => by
    rw [funs_look _ _ _ h2] at hg
    rw [funs_look _ _ _ h0]
    rw [List.find?_append, List.find?_cons] at hg ⊢
    cases ha : a.find? (fun f => decide (f.name = k)) with
    | some y => rw [ha] at hg; cases hg; exact ⟨g, rfl, rfl, rfl⟩
    | none =>
      rw [ha] at hg
      dsimp only [Option.or] at hg ⊢
      have hn : (withB f s).name = f.name := rfl
      rw [hn]
      by_cases hk : f.name = k
      · rw [decide_eq_true hk] at hg ⊢
        cases hg
        exact ⟨withB f s, rfl, rfl, rfl⟩
      · rw [decide_eq_false hk] at hg ⊢
        cases hb : b.find? (fun f => decide (f.name = k)) with
        | some y => rw [hb] at hg; cases hg; exact ⟨g, rfl, rfl, rfl⟩
        | none => rw [hb] at hg; cases hg
  have hno : lookL (funsC (a ++ withB f s :: b) []).2 nobody = none := by
    rw [funs_look _ _ _ h0]
    have : (a ++ withB f s :: b).find? (fun f => decide (f.name = nobody)) = none := by
      rw [List.find?_eq_none]
      intro g hg hgn
      have hgn := of_decide_eq_true hgn
      rcases List.mem_append.1 hg with hg | hg
      · exact (hl g (List.mem_append.2 (.inl hg))).1 hgn
      · rcases List.mem_cons.1 hg with rfl | hg
        · exact (hl f (List.mem_append.2 (.inr (List.mem_cons_self ..)))).1 hgn
        · exact (hl g (List.mem_append.2 (.inr (List.mem_cons_of_mem _ hg)))).1 hgn
    rw [this]
    rfl
  have hf := List.mem_append.2 (Or.inr (List.mem_cons_self ..) : f ∈ a ∨ f ∈ f :: b)
  refine each_first hq a _ b (fun g hg => ?_) (func_withB (h3 f hf) hs hq (fun v hv => hst _ v hno hv) (hl f hf))
  have hga := List.mem_append.2 (Or.inl hg : g ∈ a ∨ g ∈ f :: b)
  rw [func_mono hext g (h3 g hga)]
  exact h3 g hga
theorem name_set {a b : List Fn} {f : Fn} (h : (checkC (a ++ f :: b)).1 = 0) (hl : ∀ x, x ∈ a ++ f :: b → LowF x) : checkC (a ++ withB f setN :: b) = (52, 5) :=
  name_law h (by kernel_rfl) (by decide) (fun G v _ hv => by rw [setN_no G _ v hv]) hl
theorem name_do {a b : List Fn} {f : Fn} (h : (checkC (a ++ f :: b)).1 = 0) (hl : ∀ x, x ∈ a ++ f :: b → LowF x) : checkC (a ++ withB f doN :: b) = (52, 7) :=
  name_law h (by kernel_rfl) (by decide) (fun G v hg _ => by rw [doN_no G _ v hg]) hl
end Go.Proofs.Ytpiamiaigjlafaa
