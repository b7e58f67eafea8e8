/-
  The names of a parsed program are tokens of its text, and begin with a small letter.
-/
import Derived.Test.YtpiamiaigjlafaaParY
import Derived.Test.YtpiamiaigjlafaaTyMono
namespace Go.Proofs.Ytpiamiaigjlafaa
open Go.RowKit

/-- what is left is out of what there was -/
def Suf {α : Type} (p : Par α) : Prop := ∀ l x r, p l = .ok (x, r) → ∀ t, t ∈ r → t ∈ l
theorem Suf.bind {α β : Type} {p : Par α} {f : α → Par β} (h : Suf p) (hf : ∀ x, Suf (f x)) : Suf (p.bind f) := fun l y r e t ht => by
  obtain ⟨x, q, h1, h2⟩ := bind_inv e
  exact h l x q h1 t (hf x q y r h2 t ht)
theorem suf_ok {α : Type} (x : α) : Suf (okP x) := fun l y r e t ht => by cases e; exact ht
theorem tail_mem {l : List Tk} {t : Tk} (h : t ∈ l.tail) : t ∈ l := List.mem_of_mem_tail h
theorem suf_must (en : Int) (s : ByteArray) : Suf (mustP en s) := fun l x r e t ht => by
  unfold mustP at e
  split at e
  · cases e; exact tail_mem ht
  · cases e
theorem suf_kind (en k : Int) : Suf (kindP en k) := fun l x r e t ht => by
  unfold kindP at e
  cases l with
  | nil => cases e
  | cons a q =>
    dsimp only at e
    split at e
    · cases e; exact List.mem_cons_of_mem _ ht
    · cases e
theorem suf_name (en : Int) : Suf (nameP en) := (suf_kind en 1).bind fun _ => suf_ok _
theorem suf_typ (en : Int) : Suf (typP en) := fun l x r e t ht => by
  unfold typP at e
  split at e
  · cases e; exact tail_mem ht
  · split at e
    · cases e; exact tail_mem ht
    · exact (Suf.bind (suf_must en sBytes) fun _ => suf_ok (3 : Int)) l x r e t ht
theorem suf_list {α : Type} (en : Int) (one : Par α) (h : Suf one) : ∀ (f : Nat) (first : Bool) (acc : List α), Suf (listP en one f first acc)
  | 0, _, _ => fun l x r e => by cases e
  | f + 1, first, acc => fun l x r e t ht => by
    rw [listP_succ] at e
    split at e
    · cases e; exact tail_mem ht
    · obtain ⟨_, q, h1, h2⟩ := bind_inv e
      obtain ⟨y, q2, h3, h4⟩ := bind_inv h2
      have g2 := h q y q2 h3 t (suf_list en one h f false (acc ++ [y]) q2 x r h4 t ht)
      cases first
      · exact suf_must _ _ _ _ _ h1 t g2
      · cases h1; exact g2
theorem suf_loop (en : Int) (n : Nat) (N : Par Ex) (h : Suf N) : ∀ (f : Nat) (x : Ex), Suf (loopP en n N f x)
  | 0, x => suf_ok x
  | f + 1, x => fun l y r e t ht => by
    rw [loopP_succ] at e
    split at e
    · cases e; exact ht
    · obtain ⟨z, q, h1, h2⟩ := bind_inv e
      have g1 := h _ _ _ h1
      split at h2
      · cases h2; exact tail_mem (g1 t ht)
      · exact tail_mem (g1 t (suf_loop en n N h f _ q y r h2 t ht))
theorem suf_level (en : Int) (one : Par Ex) (h : Suf one) : ∀ j, Suf (levelP en one j)
  | 0 => h
  | j + 1 => fun l y r e t ht => by
    have hj := suf_level en one h j
    obtain ⟨x, q, h1, h2⟩ := bind_inv (show ((levelP en one j).bind fun x r => loopP en (4 - j) (levelP en one j) (r.length + 1) x r) l = _ from e)
    exact hj _ _ _ h1 t (suf_loop en (4 - j) _ hj _ _ _ _ _ h2 t ht)
theorem suf_inner (en : Int) (E : Par Ex) (h : Suf E) : Suf (innerP en E) :=
  (suf_must en sOpen).bind fun _ => h.bind fun _ => (suf_must en sClose).bind fun _ => suf_ok _
theorem suf_words (en : Int) (E : Par Ex) (h : Suf E) : Suf (wordsP en E) := fun l x r e t ht => by
  unfold wordsP at e
  split at e
  · cases e; exact tail_mem ht
  · split at e
    · cases e; exact tail_mem ht
    · split at e
      · exact suf_inner en E h l x r e t ht
      · split at e
        · exact tail_mem (((suf_inner en E h).bind fun _ => suf_ok _) _ _ _ e t ht)
        · split at e
          · exact tail_mem (((suf_inner en E h).bind fun _ => suf_ok _) _ _ _ e t ht)
          · exact ((suf_must en sLen).bind fun _ => ((suf_inner en E h).bind fun _ => suf_ok _)) l x r e t ht
theorem suf_primary (en : Int) (E : Par Ex) (h : Suf E) : Suf (primaryP en E) := fun l x r e t ht => by
  unfold primaryP at e
  cases l with
  | nil => exact suf_words en E h _ _ _ e t ht
  | cons a q =>
    dsimp only at e
    split at e
    · cases e; exact List.mem_cons_of_mem _ ht
    · split at e
      · cases e; exact List.mem_cons_of_mem _ ht
      · split at e
        · split at e
          · exact List.mem_cons_of_mem _ (tail_mem (((suf_list en E h (q.length + 1) true []).bind fun k => suf_ok (Ex.mk 5 0 a.text k a.pos)) _ _ _ e t ht))
          · cases e; exact List.mem_cons_of_mem _ ht
        · exact suf_words en E h _ _ _ e t ht
theorem suf_one (en : Int) : ∀ k, Suf (oneP en k)
  | 0 => fun l x r e => by cases e
  | k + 1 => fun l x r e t ht => by
    have ih := suf_one en k
    unfold oneP at e
    split at e
    · exact tail_mem ((ih.bind fun _ => suf_ok _) _ _ _ e t ht)
    · split at e
      · exact tail_mem ((ih.bind fun _ => suf_ok _) _ _ _ e t ht)
      · exact suf_primary en _ (suf_level en _ ih 5) l x r e t ht
theorem suf_expr (en : Int) (k : Nat) : Suf (exprP en k) := suf_level en _ (suf_one en k) 5
theorem suf_stmts (en : Int) (P : Par St) (hP : Suf P) : ∀ (f : Nat) (acc : List St), Suf (stmtsP en P f acc)
  | 0, acc => fun l x r e => by cases e
  | f + 1, acc => fun l x r e t ht => by
    rw [stmtsP_succ] at e
    split at e
    · cases e; exact tail_mem ht
    · obtain ⟨y, q, h1, h2⟩ := bind_inv e
      exact hP _ _ _ h1 t (suf_stmts en P hP f _ _ _ _ h2 t ht)
theorem suf_semi (en : Int) (s : St) : Suf (semiP en s) := (suf_must en sSemi).bind fun _ => suf_ok _
theorem suf_stmt (en : Int) (E : Par Ex) (B : Par (List St)) (hE : Suf E) (hB : Suf B) : Suf (stmtP en E B) := fun l x r e t ht => by
  unfold stmtP at e
  dsimp only at e
  split at e
  · exact tail_mem (((suf_name en).bind fun n => ((suf_must en sEq).bind fun _ => (hE.bind fun x => suf_semi en _))) _ _ _ e t ht)
  split at e
  · exact tail_mem ((hE.bind fun x => hB.bind fun b => (fun l x r e t ht => by
      split at e
      · exact tail_mem ((hB.bind fun e => suf_ok _) _ _ _ e t ht)
      · cases e; exact ht : Suf _)) _ _ _ e t ht)
  split at e
  · exact tail_mem (((suf_name en).bind fun n => ((suf_must en sEq).bind fun _ => (hE.bind fun x => ((suf_must en sTo).bind fun _ => (hE.bind fun y => hB.bind fun b => suf_ok _))))) _ _ _ e t ht)
  split at e
  · split at e
    · exact tail_mem (suf_semi en _ _ _ _ e t ht)
    · exact tail_mem ((hE.bind fun x => suf_semi en _) _ _ _ e t ht)
  split at e
  · exact tail_mem (((suf_must en sOpen).bind fun _ => (hE.bind fun x => ((suf_must en sComma).bind fun _ => (hE.bind fun y => ((suf_must en sClose).bind fun _ => suf_semi en _))))) _ _ _ e t ht)
  split at e
  · exact tail_mem (((suf_must en sOpen).bind fun _ => (hE.bind fun x => ((suf_must en sClose).bind fun _ => suf_semi en _))) _ _ _ e t ht)
  split at e <;> split at e <;> first
    | exact ((suf_name en).bind fun n => ((suf_must en sEq).bind fun _ => (hE.bind fun x => suf_semi en _))) _ _ _ e t ht
    | exact (hE.bind fun x => suf_semi en _) _ _ _ e t ht
theorem suf_block (en : Int) : ∀ k, Suf (blockP en k)
  | 0 => fun l x r e => by
    unfold blockP at e
    split at e <;> cases e
  | k + 1 => fun l x r e t ht => by
    unfold blockP at e
    obtain ⟨y, q, h1, h2⟩ := bind_inv e
    exact suf_must en sBegin _ _ _ h1 t (suf_stmts en _ (suf_stmt en _ _ (suf_expr en k) (suf_block en k)) _ _ _ _ _ h2 t ht)
theorem suf_param (en : Int) : Suf (paramP en) := (suf_name en).bind fun _ => ((suf_must en sColon).bind fun _ => ((suf_typ en).bind fun _ => suf_ok _))
theorem suf_func (en : Int) : Suf (funcP en) := fun l x r e t ht => by
  unfold funcP at e
  refine ((suf_must en sFn).bind fun _ => ((suf_name en).bind fun n => ((suf_must en sOpen).bind fun _ => (fun l x r e t ht => ?_ : Suf _)))) _ _ _ e t ht
  refine ((suf_list en _ (suf_param en) _ _ _).bind fun ps => (fun l x r e t ht => ?_ : Suf _)) _ _ _ e t ht
  split at e
  · exact tail_mem (((suf_typ en).bind fun t => (suf_block en 32).bind fun b => suf_ok _) _ _ _ e t ht)
  · exact ((suf_block en 32).bind fun b => suf_ok _) _ _ _ e t ht
/-- the name that nobody has -/
def nobody : ByteArray := ⟨#[78, 79, 66, 79, 68, 89]⟩
def LowT (t : Tk) : Prop := t.kind = 1 → t.text ≠ nobody
theorem next_low {s : List UInt8} {a : Nat} {t : Tk} {q : Nat} (ha : a < s.length) (h : nextT s a = .ok (t, q)) : LowT t := by
  unfold nextT at h
  dsimp only at h
  by_cases hl : letterB (s.getD a 0) = true
  · rw [if_pos hl] at h
    have hx : ∀ k, ({ kind := k, text := ⟨(cutL s a (spanN alnumB s a)).toArray⟩, num := 0, pos := a } : Tk).text ≠ nobody := fun k e => by
      have hc : s.getD a 0 = s[a] := by rw [List.getD_eq_getElem?_getD, List.getElem?_eq_getElem ha]; rfl
      have hal : alnumB s[a] = true := by unfold alnumB; rw [← hc, hl]; rfl
      have hsp := spanN_yes (p := alnumB) ha hal
      have hge : a + 1 ≤ spanN alnumB s (a + 1) := by unfold spanN; omega
      have hcut : cutL s a (spanN alnumB s a) = s[a] :: (s.drop (a + 1)).take (spanN alnumB s a - a - 1) := by
        unfold cutL
        rw [drop_get ha, show spanN alnumB s a - a = (spanN alnumB s a - a - 1) + 1 by omega, List.take_succ_cons]
        rfl
      have e1 : (cutL s a (spanN alnumB s a)).toArray = #[78, 79, 66, 79, 68, 89] := congrArg ByteArray.data e
      have e2 := congrArg Array.toList e1
      rw [hcut] at e2
      have e3 : s[a] = 78 := by
        simp at e2
        exact e2.1
      rw [hc, e3] at hl
      exact absurd hl (by decide)
    split at h
    · cases h; exact fun hk => hx _
    · split at h
      · cases h
      · cases h; exact fun _ => hx _
  · rw [if_neg hl] at h
    intro hk
    exfalso
    split at h
    · split at h
      · cases h
      · cases h; exact absurd (show (2 : Int) = 1 from hk) (by decide)
    · split at h
      · split at h
        · cases h
        · split at h
          · cases h
          · cases h; exact absurd (show (3 : Int) = 1 from hk) (by decide)
      · split at h
        · cases h
        · cases h; exact absurd (show (4 : Int) = 1 from hk) (by decide)
theorem lexG_low (s : List UInt8) : ∀ (f a : Nat) (out l : List Tk), (∀ t, t ∈ out → LowT t) → lexG s f a out = .ok l → ∀ t, t ∈ l → LowT t
  | 0, a, out, l, ho, e => by cases e; exact ho
  | f + 1, a, out, l, ho, e => by
    unfold lexG at e
    split at e
    · rename_i ha
      split at e
      · cases e
      · rename_i t q hn
        split at e
        · cases e
        · refine lexG_low s f _ _ l (fun x hx => ?_) e
          rcases List.mem_append.1 hx with hx | hx
          · exact ho x hx
          · rw [List.mem_singleton] at hx
            subst hx
            exact next_low ha hn
    · cases e; exact ho
theorem lexT_low {s : List UInt8} {l : List Tk} (h : lexT s = .ok l) : ∀ t, t ∈ l → LowT t := by
  unfold lexT at h
  split at h
  · cases h
  · exact lexG_low s _ _ _ l (fun t ht => by cases ht) h
theorem name_low {en : Int} {l r : List Tk} {n : ByteArray} (hl : ∀ t, t ∈ l → LowT t) (h : nameP en l = .ok (n, r)) : n ≠ nobody := by
  obtain ⟨t, q, h1, h2⟩ := bind_inv h
  cases h2
  unfold kindP at h1
  cases l with
  | nil => cases h1
  | cons a l =>
    dsimp only at h1
    split at h1
    · rename_i hk
      cases h1
      exact hl _ (List.mem_cons_self ..) (eq_of_beq hk)
    · cases h1
theorem list_low {en : Int} : ∀ (f : Nat) (first : Bool) (acc : List (ByteArray × Int)) (l r : List Tk) (xs : List (ByteArray × Int)), (∀ t, t ∈ l → LowT t) → (∀ x, x ∈ acc → x.1 ≠ nobody) → listP en (paramP en) f first acc l = .ok (xs, r) → ∀ x, x ∈ xs → x.1 ≠ nobody
  | 0, _, _, _, _, _, _, _, e => by cases e
  | f + 1, first, acc, l, r, xs, hl, ha, e => by
    rw [listP_succ] at e
    split at e
    · cases e; exact ha
    · obtain ⟨_, q, h1, h2⟩ := bind_inv e
      obtain ⟨y, q2, h3, h4⟩ := bind_inv h2
      have hq : ∀ t, t ∈ q → LowT t := fun t ht => by
        cases first
        · exact hl t (suf_must _ _ _ _ _ h1 t ht)
        · cases h1; exact hl t ht
      refine list_low f false _ _ r xs (fun t ht => hq t (suf_param en _ _ _ h3 t ht)) (fun x hx => ?_) h4
      rcases List.mem_append.1 hx with hx | hx
      · exact ha x hx
      · rw [List.mem_singleton] at hx
        subst hx
        obtain ⟨n, q3, g1, g2⟩ := bind_inv h3
        obtain ⟨_, q4, _, g3⟩ := bind_inv g2
        obtain ⟨_, q5, _, g4⟩ := bind_inv g3
        cases g4
        exact name_low hq g1
/-- a function's name and its parameters' -/
def LowF (f : Fn) : Prop := f.name ≠ nobody ∧ ∀ x, x ∈ f.params → x.1 ≠ nobody
theorem func_low {en : Int} {l r : List Tk} {x : Fn} (hl : ∀ t, t ∈ l → LowT t) (e : funcP en l = .ok (x, r)) : LowF x := by
  unfold funcP at e
  obtain ⟨_, q1, h1, e⟩ := bind_inv e
  obtain ⟨n, q2, h2, e⟩ := bind_inv e
  obtain ⟨_, q3, h3, e⟩ := bind_inv e
  obtain ⟨ps, q4, h4, e⟩ := bind_inv e
  have l1 := fun t ht => hl t (suf_must _ _ _ _ _ h1 t ht)
  have l2 := fun t ht => l1 t (suf_name _ _ _ _ h2 t ht)
  have l3 := fun t ht => l2 t (suf_must _ _ _ _ _ h3 t ht)
  have a2 := name_low l1 h2
  have a4 := list_low _ _ _ _ _ _ l3 (fun x hx => by cases hx) h4
  split at e
  · obtain ⟨t, q5, _, e⟩ := bind_inv e
    obtain ⟨b, q6, _, e⟩ := bind_inv e
    cases e
    exact ⟨a2, a4⟩
  · obtain ⟨b, q6, _, e⟩ := bind_inv e
    cases e
    exact ⟨a2, a4⟩
theorem prog_low (en : Int) : ∀ (f : Nat) (acc : List Fn) (l : List Tk) (xs : List Fn) (r : List Tk), (∀ t, t ∈ l → LowT t) → (∀ x, x ∈ acc → LowF x) → progP en f acc l = .ok (xs, r) → ∀ x, x ∈ xs → LowF x
  | 0, acc, l, xs, r, hl, ha, e => by cases e; exact ha
  | f + 1, acc, l, xs, r, hl, ha, e => by
    unfold progP at e
    split at e
    · cases e; exact ha
    · rename_i tk tr
      obtain ⟨x, q, h1, e⟩ := bind_inv e
      refine prog_low en f _ _ _ _ (fun t ht => hl t (suf_func _ _ _ _ h1 t ht)) (fun y hy => ?_) e
      rcases List.mem_append.1 hy with hy | hy
      · exact ha y hy
      · rw [List.mem_singleton] at hy
        subst hy
        exact func_low hl h1
theorem front_low {s : List UInt8} {l : List Fn} (h : frontT s = .ok l) : ∀ f, f ∈ l → LowF f := by
  unfold frontT at h
  split at h
  · cases h
  · rename_i hp
    split at h
    · cases h
    · injection h with h
      subst h
      unfold parseT at hp
      split at hp
      · cases hp
      · rename_i tk ht
        split at hp
        · cases hp
        · rename_i x r hq
          cases hp
          exact prog_low _ _ _ _ _ _ (lexT_low ht) (fun x hx => by cases hx) hq
end Go.Proofs.Ytpiamiaigjlafaa
