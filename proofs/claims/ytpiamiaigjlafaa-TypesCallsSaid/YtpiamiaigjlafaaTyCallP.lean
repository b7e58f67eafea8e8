/-
  TypesCalls in plain words: a call with as many arguments as there are parameters, each of its type.
-/
import Derived.Test.YtpiamiaigjlafaaTyHead
namespace Go.Proofs.Ytpiamiaigjlafaa
open Go.RowKit

def nmF : ByteArray := ⟨#[102]⟩
def nmG : ByteArray := ⟨#[103]⟩
def nmP (i : Nat) : ByteArray := ⟨#[UInt8.ofNat (97 + i)]⟩
def fnF (ps : List (ByteArray × Int)) : Fn := ⟨nmF, ps, 0, [], 0⟩
def callX (ks : List Ex) : Ex := .mk 5 0 nmF ks 0
def fnG (ks : List Ex) : Fn := ⟨nmG, [], 0, [.mk 8 ⟨#[]⟩ [callX ks] [] [] 0], 0⟩
def leafX (t : Int) : Ex := .mk t 0 ⟨#[]⟩ [] 0
def okT (t : Int) : Prop := t = 1 ∨ t = 2 ∨ t = 3
/-- parameters from the i-th name on -/
def parsX (i : Nat) : List Int → List (ByteArray × Int)
  | [] => []
  | t :: ts => (nmP i, t) :: parsX (i + 1) ts
theorem parsX_len : ∀ (i : Nat) (ts : List Int), (parsX i ts).length = ts.length
  | _, [] => rfl
  | i, _ :: ts => by rw [parsX, List.length_cons, parsX_len (i + 1) ts, List.length_cons]
theorem parsX_types : ∀ (i : Nat) (ts : List Int), (parsX i ts).map (·.2) = ts
  | _, [] => rfl
  | i, t :: ts => by rw [parsX, List.map_cons, parsX_types (i + 1) ts]
theorem leaf_type (F : Funs) (v : View) {t : Int} (h : okT t) : exprC F v (leafX t) = (t, okF) := by
  rcases h with rfl | rfl | rfl <;> simp [leafX, exprC, kidsN]
theorem all_leaves (F : Funs) (v : View) : ∀ (us ts : List Int), us.length = ts.length → (∀ t, t ∈ us → okT t) → (allC F v (us.map leafX) ts).1 = if us = ts then 0 else 51
  | [], [], _, _ => by rw [if_pos rfl]; simp [allC, okF]
  | [], _ :: _, h, _ => by simp at h
  | _ :: _, [], h, _ => by simp at h
  | u :: us, t :: ts, hl, h => by
    have hu := h u (List.mem_cons_self ..)
    have ih := all_leaves F v us ts (by simpa using hl) (fun x hx => h x (List.mem_cons_of_mem _ hx))
    rw [List.map_cons, allC, leaf_type F v hu]
    by_cases e : u = t
    · subst e
      have hm : mustOf (u, okF) ((u :: ts).headD 0) (leafX u).pos = okF := by simp [mustOf, okF, noC]
      rw [hm]
      simp only [orF, okF, ne_eq, not_true, if_false, List.tail_cons]
      rw [ih]
      simp
    · have hm : mustOf (u, okF) ((t :: ts).headD 0) (leafX u).pos = (51, (leafX u).pos) := by simp [mustOf, okF, noC, e]
      rw [hm, if_neg (by intro h; injection h with h; exact e h)]
      simp [orF]
theorem pars_ok (pos : Int) : ∀ (ts : List Int) (i : Nat) (v : View), i + ts.length ≤ 100 → (∀ t, t ∈ ts → okT t) → (∀ j, i ≤ j → j < 100 → lookL v (nmP j) = none) → (paramsC pos (parsX i ts) v).1 = okF
  | [], i, v, _, _, _ => by rw [parsX, paramsC]
  | t :: ts, i, v, hi, h, hv => by
    have ht := h t (List.mem_cons_self ..)
    rw [List.length_cons] at hi
    have h0 := hv i (Nat.le_refl _) (by omega)
    rw [parsX, paramsC, if_neg (by simp [h0]), if_neg (by rcases ht with rfl | rfl | rfl <;> simp)]
    refine pars_ok pos ts (i + 1) _ (by omega) (fun x hx => h x (List.mem_cons_of_mem _ hx)) (fun j hj hj2 => ?_)
    rw [lookL_put, if_neg, hv j (by omega) hj2]
    intro e
    have e2 : UInt8.ofNat (97 + i) = UInt8.ofNat (97 + j) := by
      have := congrArg (fun x : ByteArray => x.data.toList) e
      simpa [nmP] using this
    have e3 := congrArg UInt8.toNat e2
    simp at e3
    omega
theorem nmFG : ¬ nmF = nmG := by decide
theorem funs_two (ks : List Ex) (ps : List (ByteArray × Int)) : funsC [fnG ks, fnF ps] [] = (okF, [(nmG, fnG ks), (nmF, fnF ps)]) := by
  have h : ¬ nmG = nmF := fun e => nmFG e.symm
  simp [funsC, fnG, fnF, lookL, putL, h, okF]
theorem look_f (ks : List Ex) (ps : List (ByteArray × Int)) : lookL [(nmG, fnG ks), (nmF, fnF ps)] nmF = some (fnF ps) := by
  have h : ¬ nmG = nmF := fun e => nmFG e.symm
  simp [lookL, h]
theorem call_law {ts : List Int} (us : List Int) (hts : ts.length ≤ 15) (h1 : ∀ t, t ∈ ts → okT t) (h2 : ∀ t, t ∈ us → okT t) :
    (checkC [fnG (us.map leafX), fnF (parsX 0 ts)]).1 = if us = ts then 0 else 51 := by
  have hf := funs_two (us.map leafX) (parsX 0 ts)
  have hlen := parsX_len 0 ts
  unfold checkC
  rw [if_neg (by simp), hf]
  simp only [okF, ne_eq, not_true, if_false]
  obtain ⟨F, hF⟩ : ∃ F, F = [(nmG, fnG (us.map leafX)), (nmF, fnF (parsX 0 ts))] := ⟨_, rfl⟩
  have hl : lookL F nmF = some (fnF (parsX 0 ts)) := by rw [hF]; exact look_f _ _
  rw [← hF]
  have hF2 : funcC F (fnF (parsX 0 ts)) = okF := by
    have hp := pars_ok 0 ts 0 [] (by omega) h1 (fun _ _ _ => rfl)
    rw [func_ok (F := F) (f := fnF (parsX 0 ts)) (v := (paramsC 0 (parsX 0 ts) []).2) (Prod.ext hp rfl) (by simp [fnF]) (by simp [fnF, hlen, namedC, wrap64]; omega)]
    simp [fnF, firstF, blockC, orF, noC, okF]
  have hx : (exprC F [] (callX (us.map leafX))).2.1 = if us = ts then 0 else 51 := by
    rw [callX, exprC, if_neg (by simp [kidsN])]
    simp only [show ¬ (5 : Int) = 1 by decide, show ¬ (5 : Int) = 2 by decide, show ¬ (5 : Int) = 3 by decide, show ¬ (5 : Int) = 4 by decide, if_false, if_true, hl]
    by_cases e : us.length = ts.length
    · rw [if_neg (by simp [fnF, hlen, e])]
      simp only [fnF, parsX_types]
      exact all_leaves F [] us ts e h2
    · rw [if_pos (by simp [fnF, hlen]; exact fun q => e q.symm), if_neg (fun q => e (by rw [q]))]
  have hG : (funcC F (fnG (us.map leafX))).1 = if us = ts then 0 else 51 := by
    have hst : stmtC F 0 (.mk 8 ⟨#[]⟩ [callX (us.map leafX)] [] [] 0) [] = ([], firstF [(exprC F [] (callX (us.map leafX))).2, okF]) := by
      rw [st_8 F 0 ⟨#[]⟩ _ [] [] 0 [] rfl, List.headD_cons]
      have hop : noC ((callX (us.map leafX)).op == 5) 51 (callX (us.map leafX)).pos = okF := by simp [callX, Ex.op, noC]
      rw [hop]
    have hb : blockC F 0 [.mk 8 ⟨#[]⟩ [callX (us.map leafX)] [] [] 0] [] = (exprC F [] (callX (us.map leafX))).2 ∨ ((blockC F 0 [.mk 8 ⟨#[]⟩ [callX (us.map leafX)] [] [] 0] []).1 = 0 ∧ (exprC F [] (callX (us.map leafX))).2.1 = 0) := by
      rw [blockC, blockC, hst]
      by_cases e : (exprC F [] (callX (us.map leafX))).2.1 = 0
      · right
        simp [firstF, orF, e, okF]
      · left
        simp [firstF, orF, e]
    rw [func_ok (F := F) (f := fnG (us.map leafX)) (v := []) rfl (by simp [fnG]) (by simp [fnG, namedC, namedS, wrap64])]
    simp only [fnG]
    have hn : noC ((0 : Int) == 0 || endsC [.mk 8 ⟨#[]⟩ [callX (us.map leafX)] [] [] 0]) 54 0 = okF := by simp [noC]
    rw [hn]
    rcases hb with hb | ⟨hb, hb2⟩
    · rw [hb]
      by_cases e : us = ts
      · rw [if_pos e] at hx ⊢
        simp [firstF, orF, hx, okF]
      · rw [if_neg e] at hx ⊢
        simp [firstF, orF, hx]
    · rw [← hx, hb2]
      simp [firstF, orF, hb, okF]
  rw [eachC, eachC, eachC, hF2]
  by_cases e : us = ts
  · rw [if_pos e] at hG ⊢
    simp [orF, hG, okF]
  · rw [if_neg e] at hG ⊢
    simp [orF, hG]
end Go.Proofs.Ytpiamiaigjlafaa
