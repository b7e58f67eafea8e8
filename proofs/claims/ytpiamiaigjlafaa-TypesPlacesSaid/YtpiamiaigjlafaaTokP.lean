/-
  The lexer, in plain words.
  The parser, in plain words.
  The checker, in plain words.
-/
import Derived.Test.YtpiamiaigjlafaaMem
namespace Go.Proofs.Ytpiamiaigjlafaa

section
open Go.RowKit

/-- a token -/
structure Tk where
  kind : Int
  text : ByteArray
  num : Int
  pos : Int
instance : Inhabited Tk := ⟨⟨0, ByteArray.empty, 0, 0⟩⟩

/-! ### Spans -/
/-- the place behind the bytes of a kind -/
def spanN (p : UInt8 → Bool) (s : List UInt8) (a : Nat) : Nat := a + ((s.drop a).takeWhile p).length
theorem drop_get {s : List UInt8} {a : Nat} (h : a < s.length) : s.drop a = s[a] :: s.drop (a + 1) := List.drop_eq_getElem_cons h
theorem spanN_yes {p : UInt8 → Bool} {s : List UInt8} {a : Nat} (h : a < s.length) (hp : p s[a] = true) : spanN p s a = spanN p s (a + 1) := by
  unfold spanN
  rw [drop_get h, List.takeWhile_cons, if_pos hp, List.length_cons]
  omega
theorem spanN_no {p : UInt8 → Bool} {s : List UInt8} {a : Nat} (h : a < s.length) (hp : p s[a] = false) : spanN p s a = a := by
  unfold spanN
  rw [drop_get h, List.takeWhile_cons, if_neg (by rw [hp]; decide)]
  rfl
theorem spanN_end {p : UInt8 → Bool} {s : List UInt8} {a : Nat} (h : s.length ≤ a) : spanN p s a = a := by
  unfold spanN
  rw [List.drop_eq_nil_of_le h]
  rfl
theorem spanN_ge (p : UInt8 → Bool) (s : List UInt8) (a : Nat) : a ≤ spanN p s a := by unfold spanN; omega
theorem spanN_le {p : UInt8 → Bool} {s : List UInt8} {a : Nat} (h : a ≤ s.length) : spanN p s a ≤ s.length := by
  unfold spanN
  have := (List.takeWhile_sublist p (l := s.drop a)).length_le
  rw [List.length_drop] at this
  omega
/-- what is there is no more of the kind -/
theorem spanN_stop {p : UInt8 → Bool} {s : List UInt8} {a : Nat} (h : spanN p s a < s.length) : p (s[spanN p s a]) = false := by
  by_cases ha : a < s.length
  · by_cases hp : p s[a] = true
    · have e := spanN_yes ha hp
      have h2 : spanN p s (a + 1) < s.length := e ▸ h
      have := spanN_stop h2
      simp only [e]
      exact this
    · have hp : p s[a] = false := by simpa using hp
      have e := spanN_no ha hp
      simp only [e]
      exact hp
  · have := spanN_ge p s a
    omega
termination_by s.length - a
theorem spanN_mem {p : UInt8 → Bool} {s : List UInt8} {a i : Nat} (h1 : a ≤ i) (h2 : i < spanN p s a) (hi : i < s.length) : p s[i] = true := by
  have ha : a < s.length := by omega
  by_cases hp : p s[a] = true
  · by_cases e : i = a
    · subst e; exact hp
    · rw [spanN_yes ha hp] at h2
      exact spanN_mem (by omega) h2 hi
  · have hp : p s[a] = false := by simpa using hp
    rw [spanN_no ha hp] at h2
    omega
termination_by s.length - a

/-! ### Blanks -/
def blankB (c : UInt8) : Bool := c == 9 || c == 10 || c == 13 || c == 32
def noLine (c : UInt8) : Bool := c != 10
/-- how many bytes of blanks; true: within a remark -/
def skipL : Bool → List UInt8 → Nat
  | _, [] => 0
  | false, c :: r => if blankB c then 1 + skipL false r else if c == 35 then 1 + skipL true r else 0
  | true, c :: r => if noLine c then 1 + skipL true r else 1 + skipL false r
def blanksN (s : List UInt8) (a : Nat) : Nat := a + skipL false (s.drop a)
theorem skipL_le : ∀ (b : Bool) (l : List UInt8), skipL b l ≤ l.length
  | _, [] => Nat.le_refl _
  | false, c :: r => by
    have h1 := skipL_le false r
    have h2 := skipL_le true r
    unfold skipL
    simp only [List.length_cons]
    split
    · omega
    · split <;> omega
  | true, c :: r => by
    have h1 := skipL_le false r
    have h2 := skipL_le true r
    unfold skipL
    simp only [List.length_cons]
    split <;> omega
theorem blanksN_ge (s : List UInt8) (a : Nat) : a ≤ blanksN s a := by unfold blanksN; omega
theorem blanksN_le {s : List UInt8} {a : Nat} (h : a ≤ s.length) : blanksN s a ≤ s.length := by
  unfold blanksN
  have := skipL_le false (s.drop a)
  rw [List.length_drop] at this
  omega
theorem skip_blanks : ∀ (l : List UInt8), skipL false l = (l.takeWhile blankB).length + skipL false (l.drop (l.takeWhile blankB).length)
  | [] => rfl
  | c :: r => by
    by_cases h : blankB c = true
    · rw [List.takeWhile_cons, if_pos h, List.length_cons, List.drop_succ_cons]
      have := skip_blanks r
      show skipL false (c :: r) = _
      rw [skipL, if_pos h]
      omega
    · rw [List.takeWhile_cons, if_neg h]
      simp
theorem skip_line : ∀ (l : List UInt8), skipL true l = (l.takeWhile noLine).length + skipL false (l.drop (l.takeWhile noLine).length)
  | [] => rfl
  | c :: r => by
    by_cases h : noLine c = true
    · rw [List.takeWhile_cons, if_pos h, List.length_cons, List.drop_succ_cons]
      have := skip_line r
      show skipL true (c :: r) = _
      rw [skipL, if_pos h]
      omega
    · rw [List.takeWhile_cons, if_neg h]
      have hc : c = 10 := by simpa [noLine] using h
      subst hc
      simp [skipL, noLine, blankB]
theorem drop_add (s : List UInt8) (a k : Nat) : (s.drop a).drop k = s.drop (a + k) := List.drop_drop ..
/-- blanks, as the code goes over them -/
theorem blanksN_step (s : List UInt8) (a : Nat) : blanksN s a = blanksN s (spanN blankB s a) := by
  unfold blanksN spanN
  rw [skip_blanks (s.drop a), drop_add]
  omega
theorem blanksN_end {s : List UInt8} {a : Nat} (h : s.length ≤ a) : blanksN s a = a := by
  unfold blanksN
  rw [List.drop_eq_nil_of_le h]
  rfl
theorem blanksN_no {s : List UInt8} {a : Nat} (h : a < s.length) (h1 : blankB s[a] = false) (h2 : (s[a] == 35) = false) : blanksN s a = a := by
  unfold blanksN
  rw [drop_get h, skipL, if_neg (by rw [h1]; decide), if_neg (by rw [h2]; decide)]
  rfl
theorem blanksN_line {s : List UInt8} {a : Nat} (h : a < s.length) (h2 : (s[a] == 35) = true) : blanksN s a = blanksN s (spanN noLine s a) := by
  unfold blanksN spanN
  have hc : s[a] = 35 := by simpa using h2
  have e : skipL false (s.drop a) = skipL true (s.drop a) := by
    rw [drop_get h, hc]
    simp [skipL, blankB, noLine]
  rw [e, skip_line (s.drop a), drop_add]
  omega
theorem line_more {s : List UInt8} {a : Nat} (h : a < s.length) (h2 : (s[a] == 35) = true) : a < spanN noLine s a := by
  have hc : s[a] = 35 := by simpa using h2
  rw [spanN_yes h (by rw [hc]; rfl)]
  have := spanN_ge noLine s (a + 1)
  omega

/-! ### Numbers, signs, words -/
def numF : List UInt8 → Nat → Option Nat
  | [], n => some n
  | c :: r, n => if (9223372036854775807 - (c.toNat - 48)) / 10 < n then none else numF r (10 * n + (c.toNat - 48))
def signTab : List (List UInt8) := [[61, 61], [33, 61], [60, 61], [62, 61], [38, 38], [124, 124], [40], [41], [123], [125], [44], [59], [58], [61], [60], [62], [43], [45], [42], [47], [37], [33]]
def isSign (l : List UInt8) : Bool := signTab.contains l
def signOf : List UInt8 → List UInt8
  | [] => []
  | [a] => if isSign [a] then [a] else []
  | a :: b :: _ => if isSign [a, b] then [a, b] else if isSign [a] then [a] else []
def wordTab : List (List UInt8) := [[102, 110], [108, 101, 116], [105, 102], [101, 108, 115, 101], [102, 111, 114], [116, 111], [114, 101, 116, 117, 114, 110], [112, 117, 116], [100, 101, 108], [103, 101, 116], [104, 97, 115], [108, 101, 110], [116, 114, 117, 101], [102, 97, 108, 115, 101], [105, 110, 116], [98, 111, 111, 108], [98, 121, 116, 101, 115]]
def wordB (l : List UInt8) : Bool := wordTab.contains l
def letterB (c : UInt8) : Bool := decide (97 ≤ c.toNat) && decide (c.toNat ≤ 122)
def digitB (c : UInt8) : Bool := decide (48 ≤ c.toNat) && decide (c.toNat ≤ 57)
def underB (c : UInt8) : Bool := decide (95 ≤ c.toNat) && decide (c.toNat ≤ 95)
def alnumB (c : UInt8) : Bool := letterB c || digitB c || underB c
def textB (c : UInt8) : Bool := decide (32 ≤ c.toNat) && decide (c.toNat ≤ 126) && c != 34 && c != 92
/-- a piece of the text -/
def cutL (s : List UInt8) (a b : Nat) : List UInt8 := (s.drop a).take (b - a)
def mkTk (k : Int) (l : List UInt8) (n : Nat) (a : Nat) : Tk := ⟨k, ⟨l.toArray⟩, n, a⟩
/-- the token at a place, and the place behind; or the error -/
def nextT (s : List UInt8) (a : Nat) : Except Int (Tk × Nat) :=
  let c := s.getD a 0
  if letterB c then
    let q := spanN alnumB s a
    let l := cutL s a q
    if wordB l then .ok (mkTk 4 l 0 a, q) else if 16 < l.length then .error 32 else .ok (mkTk 1 l 0 a, q)
  else if digitB c then
    let q := spanN digitB s a
    match numF (cutL s a q) 0 with
    | none => .error 32
    | some n => .ok (mkTk 2 [] n a, q)
  else if c == 34 then
    let q := spanN textB s (a + 1)
    if q == s.length || s.getD q 0 != 34 then .error 31
    else if 64 < q - a - 1 then .error 32
    else .ok (mkTk 3 (cutL s (a + 1) q) 0 a, q + 1)
  else
    let l := signOf (cutL s a (min (a + 2) s.length))
    if l = [] then .error 31 else .ok (mkTk 4 l 0 a, a + l.length)
def lexG (s : List UInt8) : Nat → Nat → List Tk → Except (Int × Nat) (List Tk)
  | 0, _, out => .ok out
  | f + 1, a, out =>
    if a < s.length then
      match nextT s a with
      | .error e => .error (e, a)
      | .ok (t, q) => if out.length = 2048 then .error (2, a) else lexG s f (blanksN s q) (out ++ [t])
    else .ok out
def lexT (s : List UInt8) : Except (Int × Nat) (List Tk) := if 4096 < s.length then .error (2, 0) else lexG s (s.length + 1) (blanksN s 0) []
end

section
open Go.RowKit

/-- an expression -/
inductive Ex
  | mk (op num : Int) (text : ByteArray) (kids : List Ex) (pos : Int)
/-- a statement -/
inductive St
  | mk (op : Int) (text : ByteArray) (exprs : List Ex) (body els : List St) (pos : Int)
/-- a function -/
structure Fn where
  name : ByteArray
  params : List (ByteArray × Int)
  result : Int
  body : List St
  pos : Int
instance : Inhabited Ex := ⟨.mk 0 0 ByteArray.empty [] 0⟩
instance : Inhabited St := ⟨.mk 0 ByteArray.empty [] [] [] 0⟩
instance : Inhabited Fn := ⟨⟨ByteArray.empty, [], 0, [], 0⟩⟩

/-- a parser: what is read, and what is left; or the error, and where -/
abbrev Par (α : Type) := List Tk → Except (Int × Int) (α × List Tk)
def Par.bind {α β : Type} (p : Par α) (f : α → Par β) : Par β := fun l => match p l with
  | .error e => .error e
  | .ok (x, r) => f x r
def okP {α : Type} (x : α) : Par α := fun l => .ok (x, l)
def placeS (en : Int) : List Tk → Int
  | [] => en
  | t :: _ => t.pos
def failP {α : Type} (en er : Int) : Par α := fun l => .error (er, placeS en l)
def str (l : List UInt8) : ByteArray := ⟨l.toArray⟩
/-- is the next token but i that sign? -/
def atS (l : List Tk) (i : Nat) (s : ByteArray) : Bool := match l[i]? with
  | some t => t.kind == 4 && t.text.toList == s.toList
  | none => false
def mustP (en : Int) (s : ByteArray) : Par Unit := fun l => if atS l 0 s then .ok ((), l.tail) else .error (41, placeS en l)
def mustsP (en : Int) : List ByteArray → Par Unit
  | [] => okP ()
  | s :: r => (mustP en s).bind fun _ => mustsP en r
def kindP (en k : Int) : Par Tk := fun l => match l with
  | [] => .error (41, en)
  | t :: r => if t.kind == k then .ok (t, r) else .error (41, t.pos)
def nameP (en : Int) : Par ByteArray := (kindP en 1).bind fun t => okP t.text
def sInt := str [105, 110, 116]
def sBool := str [98, 111, 111, 108]
def sBytes := str [98, 121, 116, 101, 115]
def typP (en : Int) : Par Int := fun l =>
  if atS l 0 sInt then .ok (1, l.tail)
  else if atS l 0 sBool then .ok (2, l.tail)
  else (mustP en sBytes).bind (fun _ => okP 3) l

/-! ### Expressions -/
def sOpen := str [40]
def sClose := str [41]
def sComma := str [44]
def levelSigns : Nat → List ByteArray
  | 0 => [str [124, 124]]
  | 1 => [str [38, 38]]
  | 2 => [str [61, 61], str [33, 61], str [60], str [60, 61], str [62], str [62, 61]]
  | 3 => [str [43], str [45]]
  | _ => [str [42], str [47], str [37]]
/-- things with commas between, up to a bracket -/
def listP {α : Type} (en : Int) (one : Par α) : Nat → Bool → List α → Par (List α)
  | 0, _, _ => fun l => .error (41, placeS en l)
  | f + 1, first, acc => fun l =>
    if atS l 0 sClose then .ok (acc, l.tail)
    else ((if first then okP () else mustP en sComma).bind fun _ => one.bind fun x => listP en one f false (acc ++ [x])) l
/-- what is behind the first operand of a level -/
def loopP (en : Int) (n : Nat) (next : Par Ex) : Nat → Ex → Par Ex
  | 0, x => okP x
  | f + 1, x => fun l => match (levelSigns n).find? (fun s => atS l 0 s) with
    | none => .ok (x, l)
    | some s => (next.bind fun y => if n = 2 then okP (.mk 6 0 s [x, y] (placeS en l)) else loopP en n next f (.mk 6 0 s [x, y] (placeS en l))) l.tail
/-- level n, n + 5 - j = 5 -/
def levelP (en : Int) (one : Par Ex) : Nat → Par Ex
  | 0 => one
  | j + 1 => fun l => (levelP en one j).bind (fun x r => loopP en (4 - j) (levelP en one j) (r.length + 1) x r) l
def innerP (en : Int) (expr : Par Ex) : Par Ex := (mustP en sOpen).bind fun _ => expr.bind fun x => (mustP en sClose).bind fun _ => okP x
def sTrue := str [116, 114, 117, 101]
def sFalse := str [102, 97, 108, 115, 101]
def sGet := str [103, 101, 116]
def sHas := str [104, 97, 115]
def sLen := str [108, 101, 110]
def sMinus := str [45]
def sNot := str [33]
def wordsP (en : Int) (expr : Par Ex) : Par Ex := fun l =>
  if atS l 0 sTrue then .ok (.mk 2 1 ByteArray.empty [] (placeS en l), l.tail)
  else if atS l 0 sFalse then .ok (.mk 2 0 ByteArray.empty [] (placeS en l), l.tail)
  else if atS l 0 sOpen then innerP en expr l
  else if atS l 0 sGet then (innerP en expr).bind (fun x => okP (.mk 8 0 ByteArray.empty [x] (placeS en l))) l.tail
  else if atS l 0 sHas then (innerP en expr).bind (fun x => okP (.mk 9 0 ByteArray.empty [x] (placeS en l))) l.tail
  else (mustP en sLen).bind (fun _ => (innerP en expr).bind (fun x => okP (.mk 10 0 ByteArray.empty [x] (placeS en l)))) l
def primaryP (en : Int) (expr : Par Ex) : Par Ex := fun l => match l with
  | [] => wordsP en expr []
  | t :: r =>
    if t.kind = 2 then .ok (.mk 1 t.num ByteArray.empty [] t.pos, r)
    else if t.kind = 3 then .ok (.mk 3 0 t.text [] t.pos, r)
    else if t.kind = 1 then
      if atS r 0 sOpen then ((listP en expr (r.length + 1) true []).bind fun k => okP (.mk 5 0 t.text k t.pos)) r.tail
      else .ok (.mk 4 0 t.text [] t.pos, r)
    else wordsP en expr (t :: r)
/-- what has signs ahead, or none; k: how much deeper it may go -/
def oneP (en : Int) : Nat → Par Ex
  | 0 => failP en 42
  | k + 1 => fun l =>
    if atS l 0 sMinus then (oneP en k).bind (fun x => okP (.mk 7 0 sMinus [x] (placeS en l))) l.tail
    else if atS l 0 sNot then (oneP en k).bind (fun x => okP (.mk 7 0 sNot [x] (placeS en l))) l.tail
    else primaryP en (levelP en (oneP en k) 5) l
def exprP (en : Int) (k : Nat) : Par Ex := levelP en (oneP en k) 5

/-! ### Statements -/
def sLet := str [108, 101, 116]
def sIf := str [105, 102]
def sElse := str [101, 108, 115, 101]
def sFor := str [102, 111, 114]
def sTo := str [116, 111]
def sReturn := str [114, 101, 116, 117, 114, 110]
def sPut := str [112, 117, 116]
def sDel := str [100, 101, 108]
def sEq := str [61]
def sSemi := str [59]
def sColon := str [58]
def sBegin := str [123]
def sEnd := str [125]
def sFn := str [102, 110]
def semiP (en : Int) (s : St) : Par St := (mustP en sSemi).bind fun _ => okP s
def stmtP (en : Int) (expr : Par Ex) (block : Par (List St)) : Par St := fun l =>
  let p := placeS en l
  if atS l 0 sLet then ((nameP en).bind fun n => (mustP en sEq).bind fun _ => expr.bind fun x => semiP en (.mk 1 n [x] [] [] p)) l.tail
  else if atS l 0 sIf then (expr.bind fun x => block.bind fun b => fun r =>
    if atS r 0 sElse then (block.bind fun e => okP (.mk 3 ByteArray.empty [x] b e p)) r.tail else .ok (.mk 3 ByteArray.empty [x] b [] p, r)) l.tail
  else if atS l 0 sFor then ((nameP en).bind fun n => (mustP en sEq).bind fun _ => expr.bind fun x => (mustP en sTo).bind fun _ => expr.bind fun y => block.bind fun b => okP (.mk 4 n [x, y] b [] p)) l.tail
  else if atS l 0 sReturn then (if atS l.tail 0 sSemi then semiP en (.mk 5 ByteArray.empty [] [] [] p) l.tail else (expr.bind fun x => semiP en (.mk 5 ByteArray.empty [x] [] [] p)) l.tail)
  else if atS l 0 sPut then ((mustP en sOpen).bind fun _ => expr.bind fun x => (mustP en sComma).bind fun _ => expr.bind fun y => (mustP en sClose).bind fun _ => semiP en (.mk 6 ByteArray.empty [x, y] [] [] p)) l.tail
  else if atS l 0 sDel then ((mustP en sOpen).bind fun _ => expr.bind fun x => (mustP en sClose).bind fun _ => semiP en (.mk 7 ByteArray.empty [x] [] [] p)) l.tail
  else if (match l with | t :: _ => t.kind == 1 | [] => false) && atS l 1 sEq then ((nameP en).bind fun n => (mustP en sEq).bind fun _ => expr.bind fun x => semiP en (.mk 2 n [x] [] [] p)) l
  else (expr.bind fun x => semiP en (.mk 8 ByteArray.empty [x] [] [] p)) l
/-- the statements of a block, up to its end -/
def stmtsP (en : Int) (one : Par St) : Nat → List St → Par (List St)
  | 0, _ => fun l => .error (41, placeS en l)
  | f + 1, acc => fun l => if atS l 0 sEnd then .ok (acc, l.tail) else (one.bind fun s => stmtsP en one f (acc ++ [s])) l
def blockP (en : Int) : Nat → Par (List St)
  | 0 => fun l => if atS l 0 sBegin then .error (42, placeS en l) else .error (41, placeS en l)
  | k + 1 => fun l => (mustP en sBegin).bind (fun _ r => stmtsP en (stmtP en (exprP en k) (blockP en k)) (r.length + 1) [] r) l
def paramP (en : Int) : Par (ByteArray × Int) := (nameP en).bind fun n => (mustP en sColon).bind fun _ => (typP en).bind fun t => okP (n, t)
def funcP (en : Int) : Par Fn := fun l =>
  ((mustP en sFn).bind fun _ => (nameP en).bind fun n => (mustP en sOpen).bind fun _ => fun r => (listP en (paramP en) (r.length + 1) true []).bind (fun ps => fun r =>
    (if atS r 0 sColon then (typP en).bind (fun t => (blockP en 32).bind fun b => okP (⟨n, ps, t, b, placeS en l⟩ : Fn)) r.tail
     else (blockP en 32).bind (fun b => okP (⟨n, ps, 0, b, placeS en l⟩ : Fn)) r)) r) l
def progP (en : Int) : Nat → List Fn → Par (List Fn)
  | 0, acc => okP acc
  | f + 1, acc => fun l => match l with
    | [] => .ok (acc, [])
    | _ => ((funcP en).bind fun x => progP en f (acc ++ [x])) l
/-- the program that a text is; or the error, and where -/
def parseT (s : List UInt8) : Except (Int × Int) (List Fn) := match lexT s with
  | .error (e, p) => .error (e, p)
  | .ok l => match progP s.length (l.length + 1) [] l with
    | .error e => .error e
    | .ok (x, _) => .ok x
end

section
open Go.RowKit

/-- what is wrong, and where; 0: nothing is -/
abbrev Flt := Int × Int
def okF : Flt := (0, 0)
def noC (b : Bool) (e at' : Int) : Flt := if b then okF else (e, at')
def orF (a b : Flt) : Flt := if a.1 ≠ 0 then a else b
/-- the names in view: their types, and whether they are fixed -/
abbrev View := List (ByteArray × (Int × Bool))
def lookL {α : Type} (m : List (ByteArray × α)) (k : ByteArray) : Option α := match m with
  | [] => none
  | p :: m => if p.1 = k then some p.2 else lookL m k
def putL {α : Type} (m : List (ByteArray × α)) (k : ByteArray) (x : α) : List (ByteArray × α) := match m with
  | [] => [(k, x)]
  | p :: m => if p.1 = k then (p.1, x) :: m else p :: putL m k x
def Ex.op : Ex → Int | .mk op _ _ _ _ => op
def Ex.text : Ex → ByteArray | .mk _ _ t _ _ => t
def Ex.kids : Ex → List Ex | .mk _ _ _ k _ => k
def Ex.pos : Ex → Int | .mk _ _ _ _ p => p
def St.op : St → Int | .mk op _ _ _ _ _ => op
def St.text : St → ByteArray | .mk _ t _ _ _ _ => t
def St.exprs : St → List Ex | .mk _ _ e _ _ _ => e
def St.body : St → List St | .mk _ _ _ b _ _ => b
def St.els : St → List St | .mk _ _ _ _ e _ => e
def St.pos : St → Int | .mk _ _ _ _ _ p => p
/-- how many an expression must have; -1: any; -2: there is no such expression -/
def kidsN (op : Int) : Int := if op = 1 ∨ op = 2 ∨ op = 3 ∨ op = 4 then 0 else if op = 7 ∨ op = 8 ∨ op = 9 ∨ op = 10 then 1 else if op = 6 then 2 else if op = 5 then -1 else -2
/-- what both sides of a sign must be, and what it makes -/
def signedC (s : List UInt8) : Int × Int :=
  if s = [45] ∨ s = [42] ∨ s = [47] ∨ s = [37] then (1, 1)
  else if s = [60] ∨ s = [60, 61] ∨ s = [62] ∨ s = [62, 61] then (1, 2)
  else if s = [38, 38] ∨ s = [124, 124] then (2, 2)
  else (0, 0)
def mustOf (r : Int × Flt) (t pos : Int) : Flt := if r.2.1 ≠ 0 then r.2 else noC (r.1 == t) 51 pos
abbrev Funs := List (ByteArray × Fn)
mutual
/-- an expression's type; what is wrong -/
def exprC (F : Funs) (v : View) : Ex → Int × Flt
  | .mk op _ text ks pos =>
    if kidsN op = -2 ∨ (0 ≤ kidsN op ∧ kidsN op ≠ ks.length) then (0, (51, pos))
    else if op = 1 then (1, okF)
    else if op = 2 then (2, okF)
    else if op = 3 then (3, okF)
    else if op = 4 then (((lookL v text).getD (0, false)).1, noC (lookL v text).isSome 52 pos)
    else if op = 5 then
      match lookL F text with
      | none => (0, (52, pos))
      | some fn => if fn.params.length ≠ ks.length then (0, (51, pos)) else (fn.result, allC F v ks (fn.params.map (·.2)))
    else if op = 6 then
      if (signedC text.toList).1 ≠ 0 then ((signedC text.toList).2, allC F v ks [(signedC text.toList).1, (signedC text.toList).1])
      else if text.toList ≠ [43] ∧ text.toList ≠ [61, 61] ∧ text.toList ≠ [33, 61] then (0, (51, pos))
      else
        let r := sidesC F v (text.toList == [43]) ks
        if r.1.1 ≠ 0 then (0, r.1)
        else (if text.toList = [43] then r.2.getD 0 0 else 2, noC (r.2.getD 0 0 == r.2.getD 1 0) 51 pos)
    else if op = 7 then
      if text.toList = [45] then (1, allC F v ks [1]) else if text.toList = [33] then (2, allC F v ks [2]) else (0, (51, pos))
    else if op = 9 then (2, allC F v ks [3])
    else if op = 10 then (1, allC F v ks [3])
    else (3, allC F v ks [3])
/-- each of these must have its type -/
def allC (F : Funs) (v : View) : List Ex → List Int → Flt
  | [], _ => okF
  | x :: l, ts => orF (mustOf (exprC F v x) (ts.headD 0) x.pos) (allC F v l ts.tail)
/-- the types of a sign's sides -/
def sidesC (F : Funs) (v : View) (plus : Bool) : List Ex → Flt × List Int
  | [] => (okF, [])
  | k :: l =>
    let r := exprC F v k
    let f := if r.2.1 = 0 then noC (r.1 != 0 && !(plus && r.1 == 2)) 51 k.pos else r.2
    if f.1 ≠ 0 then (f, []) else ((sidesC F v plus l).1, r.1 :: (sidesC F v plus l).2)
end
def mustC (F : Funs) (v : View) (x : Ex) (t : Int) : Flt := mustOf (exprC F v x) t x.pos
/-- has a statement the parts that it must have? -/
def shapedC (s : St) : Bool :=
  let n := s.exprs.length; let b := s.body.length == 0; let o := s.els.length == 0
  if s.op = 1 ∨ s.op = 2 ∨ s.op = 7 ∨ s.op = 8 then n == 1 && b && o
  else if s.op = 6 then n == 2 && b && o
  else if s.op = 5 then decide (n ≤ 1) && b && o
  else if s.op = 3 then n == 1
  else if s.op = 4 then n == 2 && o
  else false
mutual
/-- what is in view behind a statement; what is wrong with it -/
def stmtC (F : Funs) (res : Int) : St → View → View × Flt
  | .mk op text es body els pos, v =>
    if shapedC (.mk op text es body els pos) = false then (v, (51, pos))
    else
      let x := es.headD default
      let r := exprC F v x
      if op = 1 then (putL v text (r.1, false), orF r.2 (orF (noC (r.1 != 0) 51 x.pos) (noC (!(lookL v text).isSome) 53 pos)))
      else if op = 2 then (v, orF (noC (lookL v text).isSome 52 pos) (orF (noC (!((lookL v text).getD (0, false)).2) 51 pos) (mustC F v x ((lookL v text).getD (0, false)).1)))
      else if op = 3 then (v, orF (mustC F v x 2) (orF (blockC F res body v) (blockC F res els v)))
      else if op = 4 then (v, orF (allC F v es [1, 1]) (orF (noC (!(lookL v text).isSome) 53 pos) (blockC F res body (putL v text (1, true)))))
      else if op = 5 then (v, if es.length = 0 then noC (res == 0) 51 pos else orF r.2 (noC (r.1 == res && r.1 != 0) 51 x.pos))
      else if op = 8 then (v, orF r.2 (noC (x.op == 5) 51 x.pos))
      else (v, allC F v es [3, 3])
def blockC (F : Funs) (res : Int) : List St → View → Flt
  | [], _ => okF
  | s :: l, v => if (stmtC F res s v).2.1 ≠ 0 then (stmtC F res s v).2 else blockC F res l (stmtC F res s v).1
end
mutual
/-- does a statement end a block? -/
def endsS : St → Bool
  | .mk op _ _ body els _ => op == 5 || (op == 3 && endsC body && endsC els)
def endsC : List St → Bool
  | [] => false
  | [s] => endsS s
  | _ :: t :: l => endsC (t :: l)
end
mutual
/-- how many names statements bring, as the machine counts -/
def namedS (n : Int) : St → Int
  | .mk op _ _ body els _ => wrap64 ((if op = 1 ∨ op = 4 then wrap64 (n + 1) else n) + wrap64 (namedC 0 body + namedC 0 els))
def namedC (n : Int) : List St → Int
  | [] => n
  | s :: l => namedC (namedS n s) l
end
/-- a function's parameters -/
def paramsC (pos : Int) : List (ByteArray × Int) → View → Flt × View
  | [], v => (okF, v)
  | p :: l, v => if (lookL v p.1).isSome then ((53, pos), v) else if p.2 < 1 ∨ 3 < p.2 then ((51, pos), v) else paramsC pos l (putL v p.1 (p.2, false))
def funcC (F : Funs) (f : Fn) : Flt :=
  let r := paramsC f.pos f.params []
  if r.1.1 ≠ 0 then r.1
  else if f.result < 0 ∨ 3 < f.result then (51, f.pos)
  else if 16 < f.params.length ∨ 64 < wrap64 (f.params.length + namedC 0 f.body) then (2, f.pos)
  else orF (blockC F f.result f.body r.2) (noC (f.result == 0 || endsC f.body) 54 f.pos)
/-- the functions by their names -/
def funsC : List Fn → Funs → Flt × Funs
  | [], F => (okF, F)
  | f :: l, F => if (lookL F f.name).isSome then ((53, f.pos), F) else funsC l (putL F f.name f)
def eachC (F : Funs) : List Fn → Flt
  | [] => okF
  | f :: l => orF (funcC F f) (eachC F l)
/-- is a program right? -/
def checkC (l : List Fn) : Flt :=
  if 64 < l.length then (2, 0)
  else if (funsC l []).1.1 ≠ 0 then (funsC l []).1
  else eachC (funsC l []).2 l
/-- the right program that a text is; or the error, and where -/
def frontT (s : List UInt8) : Except (Int × Int) (List Fn) := match parseT s with
  | .error e => .error e
  | .ok l => if (checkC l).1 ≠ 0 then .error (checkC l) else .ok l
theorem lookL_put {α : Type} (m : List (ByteArray × α)) (k j : ByteArray) (x : α) : lookL (putL m k x) j = if k = j then some x else lookL m j := by
  induction m with
  | nil => simp [lookL, putL]
  | cons p m ih =>
    unfold putL
    by_cases h : p.1 = k
    · rw [if_pos h]
      subst h
      by_cases e : p.1 = j
      · simp [lookL, e]
      · simp [lookL, e]
    · rw [if_neg h]
      unfold lookL
      rw [ih]
      by_cases e : p.1 = j
      · rw [if_pos e, if_pos e, if_neg (fun q => h (e.trans q.symm))]
      · rw [if_neg e, if_neg e]
end
end Go.Proofs.Ytpiamiaigjlafaa
