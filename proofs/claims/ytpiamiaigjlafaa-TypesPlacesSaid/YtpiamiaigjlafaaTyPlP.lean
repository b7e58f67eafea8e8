/-
  The checker in plain words: places are of no matter; and how much of a program there is.
-/
import Derived.Test.YtpiamiaigjlafaaTokP
namespace Go.Proofs.Ytpiamiaigjlafaa
open Go.RowKit

mutual
/-- an expression without places -/
def stillE : Ex → Ex
  | .mk op num text ks _ => .mk op num text (stillEs ks) 0
def stillEs : List Ex → List Ex
  | [] => []
  | x :: l => stillE x :: stillEs l
end
mutual
/-- a statement without places -/
def stillS : St → St
  | .mk op text es body els _ => .mk op text (stillEs es) (stillSs body) (stillSs els) 0
def stillSs : List St → List St
  | [] => []
  | s :: l => stillS s :: stillSs l
end
def stillF (f : Fn) : Fn := ⟨f.name, f.params, f.result, stillSs f.body, 0⟩
theorem stillEs_map : ∀ l, stillEs l = l.map stillE
  | [] => by rw [stillEs]; rfl
  | x :: l => by rw [stillEs, stillEs_map l]; rfl
theorem stillSs_map : ∀ l, stillSs l = l.map stillS
  | [] => by rw [stillSs]; rfl
  | x :: l => by rw [stillSs, stillSs_map l]; rfl
theorem stillE_op (x : Ex) : (stillE x).op = x.op := by cases x; rw [stillE]; rfl
theorem stillE_pos (x : Ex) : (stillE x).pos = 0 := by cases x; rw [stillE]; rfl
theorem stillE_default : stillE default = default := by
  show stillE (.mk 0 0 ByteArray.empty [] 0) = _
  rw [stillE, stillEs]; rfl
/-- a fault without its place -/
def zf (f : Flt) : Flt := (f.1, 0)
theorem zf_no (b : Bool) (e p : Int) : noC b e 0 = zf (noC b e p) := by cases b <;> rfl
theorem zf_or (a b : Flt) : orF (zf a) (zf b) = zf (orF a b) := by
  unfold orF
  by_cases h : a.1 ≠ 0
  · rw [if_pos h, if_pos (show (zf a).1 ≠ 0 from h)]
  · rw [if_neg h, if_neg (show ¬ (zf a).1 ≠ 0 from h)]
theorem zf_ok : zf okF = okF := rfl
theorem zf_must (r : Int × Flt) (t p : Int) : mustOf (r.1, zf r.2) t 0 = zf (mustOf r t p) := by
  unfold mustOf
  by_cases h : r.2.1 ≠ 0
  · rw [if_pos h, if_pos (show (zf r.2).1 ≠ 0 from h)]
  · rw [if_neg h, if_neg (show ¬ (zf r.2).1 ≠ 0 from h)]
    exact zf_no _ _ _
/-- the same functions, the other one's without places -/
def Zd (F G : Funs) : Prop := ∀ k, lookL G k = (lookL F k).map stillF
mutual
theorem expr_z {F G : Funs} (h : Zd F G) (v : View) : ∀ x : Ex, exprC G v (stillE x) = ((exprC F v x).1, zf (exprC F v x).2)
  | .mk op num text ks pos => by
    rw [stillE, exprC, exprC, all_z h v ks, all_z h v ks, all_z h v ks, all_z h v ks, sides_z h v _ ks, h text, stillEs_map, List.length_map]
    by_cases c1 : kidsN op = -2 ∨ (0 ≤ kidsN op ∧ kidsN op ≠ ks.length)
    · simp only [if_pos c1]; rfl
    simp only [if_neg c1]
    by_cases c2 : op = 1
    · simp only [if_pos c2]; rfl
    simp only [if_neg c2]
    by_cases c3 : op = 2
    · simp only [if_pos c3]; rfl
    simp only [if_neg c3]
    by_cases c4 : op = 3
    · simp only [if_pos c4]; rfl
    simp only [if_neg c4]
    by_cases c5 : op = 4
    · simp only [if_pos c5]
      rw [zf_no _ _ pos]
    simp only [if_neg c5]
    by_cases c6 : op = 5
    · simp only [if_pos c6]
      cases lookL F text with
      | none => rfl
      | some fn =>
        show (if fn.params.length ≠ ks.length then _ else _) = _
        by_cases c7 : fn.params.length ≠ ks.length
        · simp only [if_pos c7]; rfl
        · simp only [if_neg c7]
          rw [← stillEs_map, all_z h v ks]; rfl
    simp only [if_neg c6]
    by_cases c7 : op = 6
    · simp only [if_pos c7]
      by_cases c8 : (signedC text.toList).1 ≠ 0
      · simp only [if_pos c8]
      simp only [if_neg c8]
      by_cases c9 : text.toList ≠ [43] ∧ text.toList ≠ [61, 61] ∧ text.toList ≠ [33, 61]
      · simp only [if_pos c9]; rfl
      simp only [if_neg c9]
      by_cases c10 : (sidesC F v (text.toList == [43]) ks).1.1 ≠ 0
      · simp only [if_pos c10]
        rw [if_pos (show (zf _).1 ≠ 0 from c10)]
      · simp only [if_neg c10]
        rw [if_neg (show ¬ (zf _).1 ≠ 0 from c10), zf_no _ _ pos]
    simp only [if_neg c7]
    by_cases c8 : op = 7
    · simp only [if_pos c8]
      by_cases c9 : text.toList = [45]
      · simp only [if_pos c9]
      simp only [if_neg c9]
      by_cases c10 : text.toList = [33]
      · simp only [if_pos c10]
      · simp only [if_neg c10]; rfl
    simp only [if_neg c8]
    by_cases c9 : op = 9
    · simp only [if_pos c9]
    simp only [if_neg c9]
    by_cases c10 : op = 10
    · simp only [if_pos c10]
    · simp only [if_neg c10]
theorem all_z {F G : Funs} (h : Zd F G) (v : View) : ∀ (l : List Ex) (ts : List Int), allC G v (stillEs l) ts = zf (allC F v l ts)
  | [], ts => by rw [stillEs, allC, allC]; rfl
  | x :: l, ts => by
    rw [stillEs, allC, allC, expr_z h v x, all_z h v l, ← zf_or, stillE_pos]
    rw [zf_must _ _ x.pos]
theorem sides_z {F G : Funs} (h : Zd F G) (v : View) (plus : Bool) : ∀ l : List Ex, sidesC G v plus (stillEs l) = (zf (sidesC F v plus l).1, (sidesC F v plus l).2)
  | [] => by rw [stillEs, sidesC]; rfl
  | x :: l => by
    rw [stillEs, sidesC, sidesC, expr_z h v x, sides_z h v plus l, stillE_pos]
    dsimp only
    by_cases c : (exprC F v x).2.1 = 0
    · rw [if_pos (show (zf (exprC F v x).2).1 = 0 from c), if_pos c, zf_no _ _ x.pos]
      by_cases d : (noC ((exprC F v x).1 != 0 && !(plus && (exprC F v x).1 == 2)) 51 x.pos).1 ≠ 0
      · rw [if_pos d, if_pos (show (zf _).1 ≠ 0 from d)]
      · rw [if_neg d, if_neg (show ¬ (zf _).1 ≠ 0 from d)]
    · rw [if_neg (show ¬ (zf (exprC F v x).2).1 = 0 from c), if_neg c, if_pos (show (zf _).1 ≠ 0 from c), if_pos (show (exprC F v x).2.1 ≠ 0 from c)]
end
theorem must_z {F G : Funs} (h : Zd F G) (v : View) (x : Ex) (t : Int) : mustC G v (stillE x) t = zf (mustC F v x t) := by
  unfold mustC
  rw [expr_z h v x, stillE_pos]
  exact zf_must _ _ _
theorem shaped_z (op : Int) (text : ByteArray) (es : List Ex) (body els : List St) (pos : Int) : shapedC (.mk op text (stillEs es) (stillSs body) (stillSs els) 0) = shapedC (.mk op text es body els pos) := by
  unfold shapedC
  simp only [St.op, St.exprs, St.body, St.els, stillEs_map, stillSs_map, List.length_map]
  rfl
theorem still_head (es : List Ex) : (stillEs es).headD default = stillE (es.headD default) := by
  cases es with
  | nil => rw [stillEs]; exact stillE_default.symm
  | cons x l => rw [stillEs]; rfl
mutual
theorem stmt_z {F G : Funs} (h : Zd F G) (res : Int) : ∀ (s : St) (v : View), stmtC G res (stillS s) v = ((stmtC F res s v).1, zf (stmtC F res s v).2)
  | .mk op text es body els pos, v => by
    rw [stillS, stmtC, stmtC, shaped_z _ _ _ _ _ pos]
    dsimp only
    rw [still_head, expr_z h v, all_z h v es, all_z h v es, must_z h v, must_z h v, block_z h res body, block_z h res body, block_z h res els, stillE_op, stillE_pos, stillEs_map, List.length_map]
    by_cases c0 : shapedC (.mk op text es body els pos) = false
    · simp only [if_pos c0]; rfl
    simp only [if_neg c0]
    by_cases c1 : op = 1
    · simp only [if_pos c1]
      rw [zf_no _ _ (es.headD default).pos, zf_no _ _ pos, zf_or, zf_or]
    simp only [if_neg c1]
    by_cases c2 : op = 2
    · simp only [if_pos c2]
      rw [zf_no _ _ pos, zf_no _ _ pos, zf_or, zf_or]
    simp only [if_neg c2]
    by_cases c3 : op = 3
    · simp only [if_pos c3]
      rw [zf_or, zf_or]
    simp only [if_neg c3]
    by_cases c4 : op = 4
    · simp only [if_pos c4]
      rw [zf_no _ _ pos, zf_or, zf_or]
    simp only [if_neg c4]
    by_cases c5 : op = 5
    · simp only [if_pos c5]
      by_cases c6 : es.length = 0
      · simp only [if_pos c6]
        rw [zf_no _ _ pos]
      · simp only [if_neg c6]
        rw [zf_no _ _ (es.headD default).pos, zf_or]
    simp only [if_neg c5]
    by_cases c8 : op = 8
    · simp only [if_pos c8]
      rw [zf_no _ _ (es.headD default).pos, zf_or]
    · simp only [if_neg c8]
theorem block_z {F G : Funs} (h : Zd F G) (res : Int) : ∀ (l : List St) (v : View), blockC G res (stillSs l) v = zf (blockC F res l v)
  | [], v => by rw [stillSs, blockC, blockC]; rfl
  | s :: l, v => by
    rw [stillSs, blockC, blockC, stmt_z h res s v, block_z h res l]
    by_cases c : (stmtC F res s v).2.1 ≠ 0
    · rw [if_pos c, if_pos (show (zf _).1 ≠ 0 from c)]
    · rw [if_neg c, if_neg (show ¬ (zf _).1 ≠ 0 from c)]
end
mutual
theorem endsS_z : ∀ s : St, endsS (stillS s) = endsS s
  | .mk op text es body els pos => by rw [stillS, endsS, endsS, endsC_z body, endsC_z els]
theorem endsC_z : ∀ l : List St, endsC (stillSs l) = endsC l
  | [] => by rw [stillSs]
  | [s] => by rw [stillSs, stillSs, endsC, endsC, endsS_z s]
  | s :: t :: l => by
    have q := endsC_z (t :: l)
    rw [stillSs] at q
    rw [stillSs, stillSs, endsC, endsC, q]
end
mutual
theorem namedS_z (n : Int) : ∀ s : St, namedS n (stillS s) = namedS n s
  | .mk op text es body els pos => by rw [stillS, namedS, namedS, namedC_z 0 body, namedC_z 0 els]
theorem namedC_z (n : Int) : ∀ l : List St, namedC n (stillSs l) = namedC n l
  | [] => by rw [stillSs]
  | s :: l => by rw [stillSs, namedC, namedC, namedS_z n s, namedC_z _ l]
end
theorem params_z (pos : Int) : ∀ (l : List (ByteArray × Int)) (v : View), paramsC 0 l v = (zf (paramsC pos l v).1, (paramsC pos l v).2)
  | [], v => rfl
  | p :: l, v => by
    rw [paramsC, paramsC, params_z pos l]
    by_cases c : (lookL v p.1).isSome
    · rw [if_pos c, if_pos c]; rfl
    rw [if_neg c, if_neg c]
    by_cases d : p.2 < 1 ∨ 3 < p.2
    · rw [if_pos d, if_pos d]; rfl
    · rw [if_neg d, if_neg d]
theorem func_z {F G : Funs} (h : Zd F G) (f : Fn) : funcC G (stillF f) = zf (funcC F f) := by
  unfold funcC stillF
  dsimp only
  rw [params_z f.pos, block_z h, namedC_z, endsC_z]
  dsimp only
  by_cases c1 : (paramsC f.pos f.params []).1.1 ≠ 0
  · rw [if_pos c1, if_pos (show (zf _).1 ≠ 0 from c1)]
  rw [if_neg c1, if_neg (show ¬ (zf _).1 ≠ 0 from c1)]
  by_cases c2 : f.result < 0 ∨ 3 < f.result
  · rw [if_pos c2, if_pos c2]; rfl
  rw [if_neg c2, if_neg c2]
  by_cases c3 : 16 < f.params.length ∨ 64 < wrap64 (f.params.length + namedC 0 f.body)
  · rw [if_pos c3, if_pos c3]; rfl
  rw [if_neg c3, if_neg c3, zf_no _ _ f.pos, zf_or]
theorem put_z {F G : Funs} (h : Zd F G) (k : ByteArray) (f : Fn) : Zd (putL F k f) (putL G k (stillF f)) := fun j => by
  rw [lookL_put, lookL_put]
  by_cases e : k = j
  · rw [if_pos e, if_pos e]; rfl
  · rw [if_neg e, if_neg e]; exact h j
theorem funs_z : ∀ (l : List Fn) {F G : Funs}, Zd F G → (funsC (l.map stillF) G).1 = zf (funsC l F).1 ∧ Zd (funsC l F).2 (funsC (l.map stillF) G).2
  | [], F, G, h => ⟨rfl, h⟩
  | f :: l, F, G, h => by
    rw [List.map_cons, funsC, funsC]
    have hq : (lookL G (stillF f).name).isSome = (lookL F f.name).isSome := by
      show (lookL G f.name).isSome = _
      rw [h f.name]
      cases lookL F f.name <;> rfl
    rw [hq]
    by_cases c : (lookL F f.name).isSome
    · rw [if_pos c, if_pos c]; exact ⟨rfl, h⟩
    · rw [if_neg c, if_neg c]; exact funs_z l (put_z h f.name f)
theorem each_z {F G : Funs} (h : Zd F G) : ∀ l : List Fn, eachC G (l.map stillF) = zf (eachC F l)
  | [] => rfl
  | f :: l => by rw [List.map_cons, eachC, eachC, func_z h f, each_z h l, zf_or]
/-- whether a program is right, and its error, do not hang on places -/
theorem check_z (l : List Fn) : checkC (l.map stillF) = zf (checkC l) := by
  unfold checkC
  rw [List.length_map]
  by_cases c : 64 < l.length
  · rw [if_pos c, if_pos c]; rfl
  rw [if_neg c, if_neg c]
  obtain ⟨h1, h2⟩ := funs_z l (F := []) (G := []) (fun k => rfl)
  rw [h1]
  by_cases d : (funsC l []).1.1 ≠ 0
  · rw [if_pos d, if_pos (show (zf _).1 ≠ 0 from d)]
  · rw [if_neg d, if_neg (show ¬ (zf _).1 ≠ 0 from d)]; exact each_z h2 l

/-! ### How much there is -/
mutual
/-- as the code counts expressions, up to a bound -/
def exMG (most n : Int) : List Ex → Int
  | [] => n
  | x :: l => if n ≤ most then exMG most (n + exMK (most - n) x) l else n
def exMK (most : Int) : Ex → Int
  | .mk _ _ _ ks _ => min (exMG most (min ks.length (most + 1)) ks) (most + 1)
end
def exMN (most : Int) (l : List Ex) : Int := min (exMG most (min l.length (most + 1)) l) (most + 1)
mutual
def stMG (most n : Int) : List St → Int
  | [] => n
  | s :: l => if n ≤ most then stMG most (n + stMK (most - n) s) l else n
def stMK (most : Int) : St → Int
  | .mk _ _ es body els _ => min (stMG most body.length body) (most + 1) + min (stMG most els.length els) (most + 1) + exMN most es
end
def stMN (most : Int) (l : List St) : Int := min (stMG most l.length l) (most + 1)
def fnMG (n : Int) : List Fn → Int
  | [] => n
  | f :: l => if n ≤ 5000 then fnMG (n + 1 + min (f.params.length : Int) 5000 + stMN 5000 f.body) l else n
def greatB (l : List Fn) : Bool := decide (200 < l.length) || decide (5000 < fnMG 0 l)
theorem exMK_eq (most : Int) (x : Ex) : exMK most x = exMN most x.kids := by cases x; rw [exMK]; rfl
theorem stMK_eq (most : Int) (s : St) : stMK most s = stMN most s.body + stMN most s.els + exMN most s.exprs := by cases s; rw [stMK]; rfl
mutual
/-- no row of expressions within is longer than that -/
def exSmall (b : Nat) : Ex → Prop
  | .mk _ _ _ ks _ => ks.length ≤ b ∧ exsSmall b ks
def exsSmall (b : Nat) : List Ex → Prop
  | [] => True
  | x :: l => exSmall b x ∧ exsSmall b l
end
mutual
def stSmall (b : Nat) : St → Prop
  | .mk _ _ es body els _ => (es.length ≤ b ∧ exsSmall b es) ∧ (body.length ≤ b ∧ stsSmall b body) ∧ (els.length ≤ b ∧ stsSmall b els)
def stsSmall (b : Nat) : List St → Prop
  | [] => True
  | s :: l => stSmall b s ∧ stsSmall b l
end
theorem exsSmall_at {b : Nat} : ∀ {l : List Ex}, exsSmall b l → ∀ x, x ∈ l → exSmall b x
  | y :: l, h, x, hx => by
    rw [exsSmall] at h
    rcases List.mem_cons.1 hx with rfl | hx
    · exact h.1
    · exact exsSmall_at h.2 x hx
theorem stsSmall_at {b : Nat} : ∀ {l : List St}, stsSmall b l → ∀ x, x ∈ l → stSmall b x
  | y :: l, h, x, hx => by
    rw [stsSmall] at h
    rcases List.mem_cons.1 hx with rfl | hx
    · exact h.1
    · exact stsSmall_at h.2 x hx
theorem exMN_nn (most : Int) (l : List Ex) : exMN most l ≤ most + 1 := by unfold exMN; omega
theorem stMN_nn (most : Int) (l : List St) : stMN most l ≤ most + 1 := by unfold stMN; omega
mutual
theorem exMG_ge (most n : Int) (hn : 0 ≤ n) : ∀ l : List Ex, n ≤ exMG most n l
  | [] => by rw [exMG]; exact Int.le_refl _
  | x :: l => by
    rw [exMG]
    by_cases c : n ≤ most
    · rw [if_pos c]
      have h1 := exMK_ge (most - n) (by omega) x
      have h2 := exMG_ge most (n + exMK (most - n) x) (by omega) l
      omega
    · rw [if_neg c]; exact Int.le_refl _
theorem exMK_ge (most : Int) (h : 0 ≤ most) : ∀ x : Ex, 0 ≤ exMK most x
  | .mk _ _ _ ks _ => by
    rw [exMK]
    have := exMG_ge most (min ks.length (most + 1)) (by omega) ks
    omega
end
theorem exMN_ge {most : Int} (h : 0 ≤ most) (l : List Ex) : 0 ≤ exMN most l := by
  unfold exMN
  have := exMG_ge most (min l.length (most + 1)) (by omega) l
  omega
mutual
theorem stMG_ge (most n : Int) (hn : 0 ≤ n) : ∀ l : List St, n ≤ stMG most n l
  | [] => by rw [stMG]; exact Int.le_refl _
  | x :: l => by
    rw [stMG]
    by_cases c : n ≤ most
    · rw [if_pos c]
      have h1 := stMK_ge (most - n) (by omega) x
      have h2 := stMG_ge most (n + stMK (most - n) x) (by omega) l
      omega
    · rw [if_neg c]; exact Int.le_refl _
theorem stMK_ge (most : Int) (h : 0 ≤ most) : ∀ x : St, 0 ≤ stMK most x
  | .mk _ _ es body els _ => by
    rw [stMK]
    have h1 := stMG_ge most body.length (by omega) body
    have h2 := stMG_ge most els.length (by omega) els
    have h3 := exMN_ge h es
    omega
end
theorem stMN_ge {most : Int} (h : 0 ≤ most) (l : List St) : 0 ≤ stMN most l := by
  unfold stMN
  have := stMG_ge most l.length (by omega) l
  omega
mutual
theorem exMG_small (most n : Int) (hn : 0 ≤ n) (b : Nat) (hb : most ≤ b) : ∀ l : List Ex, exMG most n l ≤ most → exsSmall b l
  | [], _ => by rw [exsSmall]; trivial
  | x :: l, h => by
    rw [exMG] at h
    rw [exsSmall]
    by_cases c : n ≤ most
    · rw [if_pos c] at h
      have h1 := exMK_ge (most - n) (by omega) x
      have h2 := exMG_ge most (n + exMK (most - n) x) (by omega) l
      exact ⟨exMK_small (most - n) (by omega) b (by omega) x (by omega), exMG_small most _ (by omega) b hb l h⟩
    · rw [if_neg c] at h; exact absurd h c
theorem exMK_small (most : Int) (h0 : 0 ≤ most) (b : Nat) (hb : most ≤ b) : ∀ x : Ex, exMK most x ≤ most → exSmall b x
  | .mk _ _ _ ks _, h => by
    rw [exMK] at h
    rw [exSmall]
    have := exMG_ge most (min ks.length (most + 1)) (by omega) ks
    exact ⟨by omega, exMG_small most (min ks.length (most + 1)) (by omega) b hb ks (by omega)⟩
end
theorem exMN_small {most : Int} (h0 : 0 ≤ most) {b : Nat} (hb : most ≤ b) {l : List Ex} (h : exMN most l ≤ most) : l.length ≤ b ∧ exsSmall b l := by
  unfold exMN at h
  have := exMG_ge most (min l.length (most + 1)) (by omega) l
  exact ⟨by omega, exMG_small most (min l.length (most + 1)) (by omega) b hb l (by omega)⟩
mutual
theorem stMG_small (most n : Int) (hn : 0 ≤ n) (b : Nat) (hb : most ≤ b) : ∀ l : List St, stMG most n l ≤ most → stsSmall b l
  | [], _ => by rw [stsSmall]; trivial
  | x :: l, h => by
    rw [stMG] at h
    rw [stsSmall]
    by_cases c : n ≤ most
    · rw [if_pos c] at h
      have h1 := stMK_ge (most - n) (by omega) x
      have h2 := stMG_ge most (n + stMK (most - n) x) (by omega) l
      exact ⟨stMK_small (most - n) (by omega) b (by omega) x (by omega), stMG_small most _ (by omega) b hb l h⟩
    · rw [if_neg c] at h; exact absurd h c
theorem stMK_small (most : Int) (h0 : 0 ≤ most) (b : Nat) (hb : most ≤ b) : ∀ x : St, stMK most x ≤ most → stSmall b x
  | .mk _ _ es body els _, h => by
    rw [stMK] at h
    rw [stSmall]
    have h1 := stMG_ge most body.length (by omega) body
    have h2 := stMG_ge most els.length (by omega) els
    have h3 := exMN_ge h0 es
    exact ⟨exMN_small h0 hb (by omega), ⟨by omega, stMG_small most body.length (by omega) b hb body (by omega)⟩, ⟨by omega, stMG_small most els.length (by omega) b hb els (by omega)⟩⟩
end
theorem stMN_small {most : Int} {b : Nat} (hb : most ≤ b) {l : List St} (h : stMN most l ≤ most) : l.length ≤ b ∧ stsSmall b l := by
  unfold stMN at h
  have := stMG_ge most l.length (by omega) l
  exact ⟨by omega, stMG_small most l.length (by omega) b hb l (by omega)⟩
theorem fnMG_ge : ∀ (l : List Fn) (n : Int), 0 ≤ n → n ≤ fnMG n l
  | [], n, _ => Int.le_refl _
  | f :: l, n, h => by
    rw [fnMG]
    by_cases c : n ≤ 5000
    · rw [if_pos c]
      have h1 := stMN_ge (most := 5000) (by omega) f.body
      have h2 := fnMG_ge l (n + 1 + min (f.params.length : Int) 5000 + stMN 5000 f.body) (by omega)
      omega
    · rw [if_neg c]; exact Int.le_refl _
theorem fnMG_small : ∀ (l : List Fn) (n : Int), 0 ≤ n → fnMG n l ≤ 5000 → ∀ f, f ∈ l → f.params.length ≤ 5000 ∧ f.body.length ≤ 5000 ∧ stsSmall 5000 f.body
  | g :: l, n, hn, h, f, hf => by
    rw [fnMG] at h
    by_cases c : n ≤ 5000
    · rw [if_pos c] at h
      have h1 := stMN_ge (most := 5000) (by omega) g.body
      have h2 := fnMG_ge l (n + 1 + min (g.params.length : Int) 5000 + stMN 5000 g.body) (by omega)
      rcases List.mem_cons.1 hf with rfl | hf
      · exact ⟨by omega, stMN_small (most := 5000) (by omega) (by omega)⟩
      · exact fnMG_small l _ (by omega) h f hf
    · rw [if_neg c] at h; exact absurd h c
/-- what is not too much is small, row by row -/
theorem great_small {l : List Fn} (h : greatB l = false) : l.length ≤ 200 ∧ ∀ f, f ∈ l → f.params.length ≤ 5000 ∧ f.body.length ≤ 5000 ∧ stsSmall 5000 f.body := by
  unfold greatB at h
  simp only [Bool.or_eq_false_iff, decide_eq_false_iff_not] at h
  exact ⟨by omega, fnMG_small l 0 (by omega) (by omega)⟩
end Go.Proofs.Ytpiamiaigjlafaa
