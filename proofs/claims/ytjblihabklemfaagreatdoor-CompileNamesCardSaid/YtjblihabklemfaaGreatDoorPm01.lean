/-
  Compile: part 1 of its proof: see the last text.
-/
import Derived.Test.YtjblihabklemfaaGreatDoorPm00
set_option maxRecDepth 100000
set_option maxHeartbeats 16000000
namespace Go.Proofs.YtjblihabklemfaaGreatDoor
section
section
open Go.RowKit
structure Tk where
 kind : Int
 text : ByteArray
 num : Int
 pos : Int
instance : Inhabited Tk := ⟨⟨0, ByteArray.empty, 0, 0⟩⟩
def aW (p : UInt8 → Bool) (s : List UInt8) (a : Nat) : Nat := a + ((s.drop a).takeWhile p).length
theorem fY {s : List UInt8} {a : Nat} (h : a < s.length) : s.drop a = s[a] :: s.drop (a + 1) := List.drop_eq_getElem_cons h
theorem dE {p : UInt8 → Bool} {s : List UInt8} {a : Nat} (h : a < s.length) (hp : p s[a] = true) : aW p s a = aW p s (a + 1) := by
 unfold aW
 rw [fY h, List.takeWhile_cons, if_pos hp, List.length_cons]
 omega
theorem jM {p : UInt8 → Bool} {s : List UInt8} {a : Nat} (h : a < s.length) (hp : p s[a] = false) : aW p s a = a := by
 unfold aW
 rw [fY h, List.takeWhile_cons, if_neg (by rw [hp]; decide)]
 rfl
theorem nW {p : UInt8 → Bool} {s : List UInt8} {a : Nat} (h : s.length ≤ a) : aW p s a = a := by
 unfold aW
 rw [List.drop_eq_nil_of_le h]
 rfl
theorem dA (p : UInt8 → Bool) (s : List UInt8) (a : Nat) : a ≤ aW p s a := by unfold aW; omega
theorem dM {p : UInt8 → Bool} {s : List UInt8} {a : Nat} (h : a ≤ s.length) : aW p s a ≤ s.length := by
 unfold aW
 have := (List.takeWhile_sublist p (l := s.drop a)).length_le
 rw [List.length_drop] at this
 omega
theorem jJ {p : UInt8 → Bool} {s : List UInt8} {a : Nat} (h : aW p s a < s.length) : p (s[aW p s a]) = false := by
 by_cases ha : a < s.length
 ·by_cases hp : p s[a] = true
  ·have e := dE ha hp
   have h2 : aW p s (a + 1) < s.length := e ▸ h
   have := jJ h2
   simp only [e]
   exact this
  ·have hp : p s[a] = false := by simpa using hp
   have e := jM ha hp
   simp only [e]
   exact hp
 ·have := dA p s a
  omega
termination_by s.length - a
theorem jZ {p : UInt8 → Bool} {s : List UInt8} {a i : Nat} (h1 : a ≤ i) (h2 : i < aW p s a) (hi : i < s.length) : p s[i] = true := by
 have ha : a < s.length := by omega
 by_cases hp : p s[a] = true
 ·by_cases e : i = a
  ·subst e; exact hp
  ·rw [dE ha hp] at h2
   exact jZ (by omega) h2 hi
 ·have hp : p s[a] = false := by simpa using hp
  rw [jM ha hp] at h2
  omega
termination_by s.length - a
def dl (c : UInt8) : Bool := c == 9 || c == 10 || c == 13 || c == 32
def dj (c : UInt8) : Bool := c != 10
def dp : Bool → List UInt8 → Nat
 | _, [] => 0
 | false, c :: r => if dl c then 1 + dp false r else if c == 35 then 1 + dp true r else 0
 | true, c :: r => if dj c then 1 + dp true r else 1 + dp false r
def bq (s : List UInt8) (a : Nat) : Nat := a + dp false (s.drop a)
theorem fQ : ∀ (b : Bool) (l : List UInt8), dp b l ≤ l.length
 | _, [] => Nat.le_refl _
 | false, c :: r => by
  have h1 := fQ false r
  have h2 := fQ true r
  unfold dp
  simp only [List.length_cons]
  split
  ·omega
  ·split <;> omega
 | true, c :: r => by
  have h1 := fQ false r
  have h2 := fQ true r
  unfold dp
  simp only [List.length_cons]
  split <;> omega
theorem mG (s : List UInt8) (a : Nat) : a ≤ bq s a := by unfold bq; omega
theorem jx {s : List UInt8} {a : Nat} (h : a ≤ s.length) : bq s a ≤ s.length := by
 unfold bq
 have := fQ false (s.drop a)
 rw [List.length_drop] at this
 omega
theorem iK : ∀ (l : List UInt8), dp false l = (l.takeWhile dl).length + dp false (l.drop (l.takeWhile dl).length)
 | [] => rfl
 | c :: r => by
  by_cases h : dl c = true
  ·rw [List.takeWhile_cons, if_pos h, List.length_cons, List.drop_succ_cons]
   have := iK r
   show dp false (c :: r) = _
   rw [dp, if_pos h]
   omega
  ·rw [List.takeWhile_cons, if_neg h]
   simp
theorem kj : ∀ (l : List UInt8), dp true l = (l.takeWhile dj).length + dp false (l.drop (l.takeWhile dj).length)
 | [] => rfl
 | c :: r => by
  by_cases h : dj c = true
  ·rw [List.takeWhile_cons, if_pos h, List.length_cons, List.drop_succ_cons]
   have := kj r
   show dp true (c :: r) = _
   rw [dp, if_pos h]
   omega
  ·rw [List.takeWhile_cons, if_neg h]
   have hc : c = 10 := by simpa [dj] using h
   subst hc
   simp [dp, dj, dl]
theorem lC (s : List UInt8) (a k : Nat) : (s.drop a).drop k = s.drop (a + k) := List.drop_drop ..
theorem kA (s : List UInt8) (a : Nat) : bq s a = bq s (aW dl s a) := by
 unfold bq aW
 rw [iK (s.drop a), lC]
 omega
theorem lS {s : List UInt8} {a : Nat} (h : s.length ≤ a) : bq s a = a := by
 unfold bq
 rw [List.drop_eq_nil_of_le h]
 rfl
theorem mz {s : List UInt8} {a : Nat} (h : a < s.length) (h1 : dl s[a] = false) (h2 : (s[a] == 35) = false) : bq s a = a := by
 unfold bq
 rw [fY h, dp, if_neg (by rw [h1]; decide), if_neg (by rw [h2]; decide)]
 rfl
theorem km {s : List UInt8} {a : Nat} (h : a < s.length) (h2 : (s[a] == 35) = true) : bq s a = bq s (aW dj s a) := by
 unfold bq aW
 have hc : s[a] = 35 := by simpa using h2
 have e : dp false (s.drop a) = dp true (s.drop a) := by
  rw [fY h, hc]
  simp [dp, dl, dj]
 rw [e, kj (s.drop a), lC]
 omega
theorem nF {s : List UInt8} {a : Nat} (h : a < s.length) (h2 : (s[a] == 35) = true) : a < aW dj s a := by
 have hc : s[a] = 35 := by simpa using h2
 rw [dE h (by rw [hc]; rfl)]
 have := dA dj s (a + 1)
 omega
def fi : List UInt8 → Nat → Option Nat
 | [], n => some n
 | c :: r, n => if (9223372036854775807 - (c.toNat - 48)) / 10 < n then none else fi r (10 * n + (c.toNat - 48))
def signTab : List (List UInt8) := [[61, 61], [33, 61], [60, 61], [62, 61], [38, 38], [124, 124], [40], [41], [123], [125], [44], [59], [58], [61], [60], [62], [43], [45], [42], [47], [37], [33]]
def fm (l : List UInt8) : Bool := signTab.contains l
def bE : List UInt8 → List UInt8
 | [] => []
 | [a] => if fm [a] then [a] else []
 | a :: b :: _ => if fm [a, b] then [a, b] else if fm [a] then [a] else []
def wordTab : List (List UInt8) := [[102, 110], [108, 101, 116], [105, 102], [101, 108, 115, 101], [102, 111, 114], [116, 111], [114, 101, 116, 117, 114, 110], [112, 117, 116], [100, 101, 108], [103, 101, 116], [104, 97, 115], [108, 101, 110], [116, 114, 117, 101], [102, 97, 108, 115, 101], [105, 110, 116], [98, 111, 111, 108], [98, 121, 116, 101, 115]]
def eZ (l : List UInt8) : Bool := wordTab.contains l
def eG (c : UInt8) : Bool := decide (97 ≤ c.toNat) && decide (c.toNat ≤ 122)
def bY (c : UInt8) : Bool := decide (48 ≤ c.toNat) && decide (c.toNat ≤ 57)
def jf (c : UInt8) : Bool := decide (95 ≤ c.toNat) && decide (c.toNat ≤ 95)
def bZ (c : UInt8) : Bool := eG c || bY c || jf c
def cY (c : UInt8) : Bool := decide (32 ≤ c.toNat) && decide (c.toNat ≤ 126) && c != 34 && c != 92
def bX (s : List UInt8) (a b : Nat) : List UInt8 := (s.drop a).take (b - a)
def ed (k : Int) (l : List UInt8) (n : Nat) (a : Nat) : Tk := ⟨k, ⟨l.toArray⟩, n, a⟩
def b9 (s : List UInt8) (a : Nat) : Except Int (Tk × Nat) :=
 let c := s.getD a 0
 if eG c then
  let q := aW bZ s a
  let l := bX s a q
  if eZ l then .ok (ed 4 l 0 a, q) else if 16 < l.length then .error 32 else .ok (ed 1 l 0 a, q)
 else if bY c then
  let q := aW bY s a
  match fi (bX s a q) 0 with
  | none => .error 32
  | some n => .ok (ed 2 [] n a, q)
 else if c == 34 then
  let q := aW cY s (a + 1)
  if q == s.length || s.getD q 0 != 34 then .error 31
  else if 64 < q - a - 1 then .error 32
  else .ok (ed 3 (bX s (a + 1) q) 0 a, q + 1)
 else
  let l := bE (bX s a (min (a + 2) s.length))
  if l = [] then .error 31 else .ok (ed 4 l 0 a, a + l.length)
def io (s : List UInt8) : Nat → Nat → List Tk → Except (Int × Nat) (List Tk)
 | 0, _, out => .ok out
 | f + 1, a, out =>
  if a < s.length then
   match b9 s a with
   | .error e => .error (e, a)
   | .ok (t, q) => if out.length = 2048 then .error (2, a) else io s f (bq s q) (out ++ [t])
  else .ok out
def fM (s : List UInt8) : Except (Int × Nat) (List Tk) := if 4096 < s.length then .error (2, 0) else io s (s.length + 1) (bq s 0) []
end
section
open Go.RowKit
inductive Ex
 | mk (op num : Int) (text : ByteArray) (kids : List Ex) (pos : Int)
inductive St
 | mk (op : Int) (text : ByteArray) (exprs : List Ex) (body els : List St) (pos : Int)
structure Fn where
 name : ByteArray
 params : List (ByteArray × Int)
 result : Int
 body : List St
 pos : Int
instance : Inhabited Ex := ⟨.mk 0 0 ByteArray.empty [] 0⟩
instance : Inhabited St := ⟨.mk 0 ByteArray.empty [] [] [] 0⟩
instance : Inhabited Fn := ⟨⟨ByteArray.empty, [], 0, [], 0⟩⟩
abbrev Par (α : Type) := List Tk → Except (Int × Int) (α × List Tk)
def Par.bind {α β : Type} (p : Par α) (f : α → Par β) : Par β := fun l => match p l with
 | .error e => .error e
 | .ok (x, r) => f x r
def okP {α : Type} (x : α) : Par α := fun l => .ok (x, l)
def aM (en : Int) : List Tk → Int
 | [] => en
 | t :: _ => t.pos
def rW {α : Type} (en er : Int) : Par α := fun l => .error (er, aM en l)
def str (l : List UInt8) : ByteArray := ⟨l.toArray⟩
def atS (l : List Tk) (i : Nat) (s : ByteArray) : Bool := match l[i]? with
 | some t => t.kind == 4 && t.text.toList == s.toList
 | none => false
def aX (en : Int) (s : ByteArray) : Par Unit := fun l => if atS l 0 s then .ok ((), l.tail) else .error (41, aM en l)
def rg (en : Int) : List ByteArray → Par Unit
 | [] => okP ()
 | s :: r => (aX en s).bind fun _ => rg en r
def dv (en k : Int) : Par Tk := fun l => match l with
 | [] => .error (41, en)
 | t :: r => if t.kind == k then .ok (t, r) else .error (41, t.pos)
def dN (en : Int) : Par ByteArray := (dv en 1).bind fun t => okP t.text
def lH := str [105, 110, 116]
def jo := str [98, 111, 111, 108]
def fD := str [98, 121, 116, 101, 115]
def ig (en : Int) : Par Int := fun l =>
 if atS l 0 lH then .ok (1, l.tail)
 else if atS l 0 jo then .ok (2, l.tail)
 else (aX en fD).bind (fun _ => okP 3) l
def bW := str [40]
def cj := str [41]
def eL := str [44]
def bD : Nat → List ByteArray
 | 0 => [str [124, 124]]
 | 1 => [str [38, 38]]
 | 2 => [str [61, 61], str [33, 61], str [60], str [60, 61], str [62], str [62, 61]]
 | 3 => [str [43], str [45]]
 | _ => [str [42], str [47], str [37]]
def dy {α : Type} (en : Int) (one : Par α) : Nat → Bool → List α → Par (List α)
 | 0, _, _ => fun l => .error (41, aM en l)
 | f + 1, first, acc => fun l =>
  if atS l 0 cj then .ok (acc, l.tail)
  else ((if first then okP () else aX en eL).bind fun _ => one.bind fun x => dy en one f false (acc ++ [x])) l
def dm (en : Int) (n : Nat) (next : Par Ex) : Nat → Ex → Par Ex
 | 0, x => okP x
 | f + 1, x => fun l => match (bD n).find? (fun s => atS l 0 s) with
  | none => .ok (x, l)
  | some s => (next.bind fun y => if n = 2 then okP (.mk 6 0 s [x, y] (aM en l)) else dm en n next f (.mk 6 0 s [x, y] (aM en l))) l.tail
def cF (en : Int) (one : Par Ex) : Nat → Par Ex
 | 0 => one
 | j + 1 => fun l => (cF en one j).bind (fun x r => dm en (4 - j) (cF en one j) (r.length + 1) x r) l
def dc (en : Int) (expr : Par Ex) : Par Ex := (aX en bW).bind fun _ => expr.bind fun x => (aX en cj).bind fun _ => okP x
def qY := str [116, 114, 117, 101]
def o3 := str [102, 97, 108, 115, 101]
def sD := str [103, 101, 116]
def sO := str [104, 97, 115]
def qx := str [108, 101, 110]
def eh := str [45]
def jd := str [33]
def fo (en : Int) (expr : Par Ex) : Par Ex := fun l =>
 if atS l 0 qY then .ok (.mk 2 1 ByteArray.empty [] (aM en l), l.tail)
 else if atS l 0 o3 then .ok (.mk 2 0 ByteArray.empty [] (aM en l), l.tail)
 else if atS l 0 bW then dc en expr l
 else if atS l 0 sD then (dc en expr).bind (fun x => okP (.mk 8 0 ByteArray.empty [x] (aM en l))) l.tail
 else if atS l 0 sO then (dc en expr).bind (fun x => okP (.mk 9 0 ByteArray.empty [x] (aM en l))) l.tail
 else (aX en qx).bind (fun _ => (dc en expr).bind (fun x => okP (.mk 10 0 ByteArray.empty [x] (aM en l)))) l
def cU (en : Int) (expr : Par Ex) : Par Ex := fun l => match l with
 | [] => fo en expr []
 | t :: r =>
  if t.kind = 2 then .ok (.mk 1 t.num ByteArray.empty [] t.pos, r)
  else if t.kind = 3 then .ok (.mk 3 0 t.text [] t.pos, r)
  else if t.kind = 1 then
   if atS r 0 bW then ((dy en expr (r.length + 1) true []).bind fun k => okP (.mk 5 0 t.text k t.pos)) r.tail
   else .ok (.mk 4 0 t.text [] t.pos, r)
  else fo en expr (t :: r)
def ea (en : Int) : Nat → Par Ex
 | 0 => rW en 42
 | k + 1 => fun l =>
  if atS l 0 eh then (ea en k).bind (fun x => okP (.mk 7 0 eh [x] (aM en l))) l.tail
  else if atS l 0 jd then (ea en k).bind (fun x => okP (.mk 7 0 jd [x] (aM en l))) l.tail
  else cU en (cF en (ea en k) 5) l
def gj (en : Int) (k : Nat) : Par Ex := cF en (ea en k) 5
def sW := str [108, 101, 116]
def sIf := str [105, 102]
def q8 := str [101, 108, 115, 101]
def sQ := str [102, 111, 114]
def sTo := str [116, 111]
def ni := str [114, 101, 116, 117, 114, 110]
def r8 := str [112, 117, 116]
def sL := str [100, 101, 108]
def sEq := str [61]
def dK := str [59]
def gO := str [58]
def df := str [123]
def rP := str [125]
def sFn := str [102, 110]
def fK (en : Int) (s : St) : Par St := (aX en dK).bind fun _ => okP s
def gd (en : Int) (expr : Par Ex) (block : Par (List St)) : Par St := fun l =>
 let p := aM en l
 if atS l 0 sW then ((dN en).bind fun n => (aX en sEq).bind fun _ => expr.bind fun x => fK en (.mk 1 n [x] [] [] p)) l.tail
 else if atS l 0 sIf then (expr.bind fun x => block.bind fun b => fun r =>
   if atS r 0 q8 then (block.bind fun e => okP (.mk 3 ByteArray.empty [x] b e p)) r.tail else .ok (.mk 3 ByteArray.empty [x] b [] p, r)) l.tail
 else if atS l 0 sQ then ((dN en).bind fun n => (aX en sEq).bind fun _ => expr.bind fun x => (aX en sTo).bind fun _ => expr.bind fun y => block.bind fun b => okP (.mk 4 n [x, y] b [] p)) l.tail
 else if atS l 0 ni then (if atS l.tail 0 dK then fK en (.mk 5 ByteArray.empty [] [] [] p) l.tail else (expr.bind fun x => fK en (.mk 5 ByteArray.empty [x] [] [] p)) l.tail)
 else if atS l 0 r8 then ((aX en bW).bind fun _ => expr.bind fun x => (aX en eL).bind fun _ => expr.bind fun y => (aX en cj).bind fun _ => fK en (.mk 6 ByteArray.empty [x, y] [] [] p)) l.tail
 else if atS l 0 sL then ((aX en bW).bind fun _ => expr.bind fun x => (aX en cj).bind fun _ => fK en (.mk 7 ByteArray.empty [x] [] [] p)) l.tail
 else if (match l with | t :: _ => t.kind == 1 | [] => false) && atS l 1 sEq then ((dN en).bind fun n => (aX en sEq).bind fun _ => expr.bind fun x => fK en (.mk 2 n [x] [] [] p)) l
 else (expr.bind fun x => fK en (.mk 8 ByteArray.empty [x] [] [] p)) l
def dR (en : Int) (one : Par St) : Nat → List St → Par (List St)
 | 0, _ => fun l => .error (41, aM en l)
 | f + 1, acc => fun l => if atS l 0 rP then .ok (acc, l.tail) else (one.bind fun s => dR en one f (acc ++ [s])) l
def da (en : Int) : Nat → Par (List St)
 | 0 => fun l => if atS l 0 df then .error (42, aM en l) else .error (41, aM en l)
 | k + 1 => fun l => (aX en df).bind (fun _ r => dR en (gd en (gj en k) (da en k)) (r.length + 1) [] r) l
def iz (en : Int) : Par (ByteArray × Int) := (dN en).bind fun n => (aX en gO).bind fun _ => (ig en).bind fun t => okP (n, t)
def ew (en : Int) : Par Fn := fun l =>
 ((aX en sFn).bind fun _ => (dN en).bind fun n => (aX en bW).bind fun _ => fun r => (dy en (iz en) (r.length + 1) true []).bind (fun ps => fun r =>
   (if atS r 0 gO then (ig en).bind (fun t => (da en 32).bind fun b => okP (⟨n, ps, t, b, aM en l⟩ : Fn)) r.tail
    else (da en 32).bind (fun b => okP (⟨n, ps, 0, b, aM en l⟩ : Fn)) r)) r) l
def eD (en : Int) : Nat → List Fn → Par (List Fn)
 | 0, acc => okP acc
 | f + 1, acc => fun l => match l with
  | [] => .ok (acc, [])
  | _ => ((ew en).bind fun x => eD en f (acc ++ [x])) l
def dk (s : List UInt8) : Except (Int × Int) (List Fn) := match fM s with
 | .error (e, p) => .error (e, p)
 | .ok l => match eD s.length (l.length + 1) [] l with
  | .error e => .error e
  | .ok (x, _) => .ok x
end
section
open Go.RowKit
abbrev Flt := Int × Int
def okF : Flt := (0, 0)
def noC (b : Bool) (e at' : Int) : Flt := if b then okF else (e, at')
def orF (a b : Flt) : Flt := if a.1 ≠ 0 then a else b
abbrev aV := List (ByteArray × (Int × Bool))
def aF {α : Type} (m : List (ByteArray × α)) (k : ByteArray) : Option α := match m with
 | [] => none
 | p :: m => if p.1 = k then some p.2 else aF m k
def bJ {α : Type} (m : List (ByteArray × α)) (k : ByteArray) (x : α) : List (ByteArray × α) := match m with
 | [] => [(k, x)]
 | p :: m => if p.1 = k then (p.1, x) :: m else p :: bJ m k x
def Ex.op : Ex → Int | .mk op _ _ _ _ => op
def Ex.text : Ex → ByteArray | .mk _ _ t _ _ => t
def Ex.kids : Ex → List Ex | .mk _ _ _ k _ => k
def Ex.pos : Ex → Int | .mk _ _ _ _ p => p
def St.op : St → Int | .mk op _ _ _ _ _ => op
def St.text : St → ByteArray | .mk _ t _ _ _ _ => t
def St.exprs : St → List Ex | .mk _ _ e _ _ _ => e
def St.body : St → List St | .mk _ _ _ b _ _ => b
def St.els : St → List St | .mk _ _ _ _ e _ => e
def St.pos : St → Int | .mk _ _ _ _ _ p => p
def cf (op : Int) : Int := if op = 1 ∨ op = 2 ∨ op = 3 ∨ op = 4 then 0 else if op = 7 ∨ op = 8 ∨ op = 9 ∨ op = 10 then 1 else if op = 6 then 2 else if op = 5 then -1 else -2
def b8 (s : List UInt8) : Int × Int :=
 if s = [45] ∨ s = [42] ∨ s = [47] ∨ s = [37] then (1, 1)
 else if s = [60] ∨ s = [60, 61] ∨ s = [62] ∨ s = [62, 61] then (1, 2)
 else if s = [38, 38] ∨ s = [124, 124] then (2, 2)
 else (0, 0)
def ip (r : Int × Flt) (t pos : Int) : Flt := if r.2.1 ≠ 0 then r.2 else noC (r.1 == t) 51 pos
abbrev aQ := List (ByteArray × Fn)
mutual
def aG (F : aQ) (v : aV) : Ex → Int × Flt
 | .mk op _ text ks pos =>
  if cf op = -2 ∨ (0 ≤ cf op ∧ cf op ≠ ks.length) then (0, (51, pos))
  else if op = 1 then (1, okF)
  else if op = 2 then (2, okF)
  else if op = 3 then (3, okF)
  else if op = 4 then (((aF v text).getD (0, false)).1, noC (aF v text).isSome 52 pos)
  else if op = 5 then
   match aF F text with
   | none => (0, (52, pos))
   | some fn => if fn.params.length ≠ ks.length then (0, (51, pos)) else (fn.result, bV F v ks (fn.params.map (·.2)))
  else if op = 6 then
   if (b8 text.toList).1 ≠ 0 then ((b8 text.toList).2, bV F v ks [(b8 text.toList).1, (b8 text.toList).1])
   else if text.toList ≠ [43] ∧ text.toList ≠ [61, 61] ∧ text.toList ≠ [33, 61] then (0, (51, pos))
   else
    let r := cH F v (text.toList == [43]) ks
    if r.1.1 ≠ 0 then (0, r.1)
    else (if text.toList = [43] then r.2.getD 0 0 else 2, noC (r.2.getD 0 0 == r.2.getD 1 0) 51 pos)
  else if op = 7 then
   if text.toList = [45] then (1, bV F v ks [1]) else if text.toList = [33] then (2, bV F v ks [2]) else (0, (51, pos))
  else if op = 9 then (2, bV F v ks [3])
  else if op = 10 then (1, bV F v ks [3])
  else (3, bV F v ks [3])
def bV (F : aQ) (v : aV) : List Ex → List Int → Flt
 | [], _ => okF
 | x :: l, ts => orF (ip (aG F v x) (ts.headD 0) x.pos) (bV F v l ts.tail)
def cH (F : aQ) (v : aV) (plus : Bool) : List Ex → Flt × List Int
 | [] => (okF, [])
 | k :: l =>
  let r := aG F v k
  let f := if r.2.1 = 0 then noC (r.1 != 0 && !(plus && r.1 == 2)) 51 k.pos else r.2
  if f.1 ≠ 0 then (f, []) else ((cH F v plus l).1, r.1 :: (cH F v plus l).2)
end
def dn (F : aQ) (v : aV) (x : Ex) (t : Int) : Flt := ip (aG F v x) t x.pos
def cw (s : St) : Bool :=
 let n := s.exprs.length; let b := s.body.length == 0; let o := s.els.length == 0
 if s.op = 1 ∨ s.op = 2 ∨ s.op = 7 ∨ s.op = 8 then n == 1 && b && o
 else if s.op = 6 then n == 2 && b && o
 else if s.op = 5 then decide (n ≤ 1) && b && o
 else if s.op = 3 then n == 1
 else if s.op = 4 then n == 2 && o
 else false
mutual
def bR (F : aQ) (res : Int) : St → aV → aV × Flt
 | .mk op text es body els pos, v =>
  if cw (.mk op text es body els pos) = false then (v, (51, pos))
  else
   let x := es.headD default
   let r := aG F v x
   if op = 1 then (bJ v text (r.1, false), orF r.2 (orF (noC (r.1 != 0) 51 x.pos) (noC (!(aF v text).isSome) 53 pos)))
   else if op = 2 then (v, orF (noC (aF v text).isSome 52 pos) (orF (noC (!((aF v text).getD (0, false)).2) 51 pos) (dn F v x ((aF v text).getD (0, false)).1)))
   else if op = 3 then (v, orF (dn F v x 2) (orF (be F res body v) (be F res els v)))
   else if op = 4 then (v, orF (bV F v es [1, 1]) (orF (noC (!(aF v text).isSome) 53 pos) (be F res body (bJ v text (1, true)))))
   else if op = 5 then (v, if es.length = 0 then noC (res == 0) 51 pos else orF r.2 (noC (r.1 == res && r.1 != 0) 51 x.pos))
   else if op = 8 then (v, orF r.2 (noC (x.op == 5) 51 x.pos))
   else (v, bV F v es [3, 3])
def be (F : aQ) (res : Int) : List St → aV → Flt
 | [], _ => okF
 | s :: l, v => if (bR F res s v).2.1 ≠ 0 then (bR F res s v).2 else be F res l (bR F res s v).1
end
mutual
def endsS : St → Bool
 | .mk op _ _ body els _ => op == 5 || (op == 3 && bK body && bK els)
def bK : List St → Bool
 | [] => false
 | [s] => endsS s
 | _ :: t :: l => bK (t :: l)
end
mutual
def mT (n : Int) : St → Int
 | .mk op _ _ body els _ => wrap64 ((if op = 1 ∨ op = 4 then wrap64 (n + 1) else n) + wrap64 (cy 0 body + cy 0 els))
def cy (n : Int) : List St → Int
 | [] => n
 | s :: l => cy (mT n s) l
end
def cq (pos : Int) : List (ByteArray × Int) → aV → Flt × aV
 | [], v => (okF, v)
 | p :: l, v => if (aF v p.1).isSome then ((53, pos), v) else if p.2 < 1 ∨ 3 < p.2 then ((51, pos), v) else cq pos l (bJ v p.1 (p.2, false))
def dL (F : aQ) (f : Fn) : Flt :=
 let r := cq f.pos f.params []
 if r.1.1 ≠ 0 then r.1
 else if f.result < 0 ∨ 3 < f.result then (51, f.pos)
 else if 16 < f.params.length ∨ 64 < wrap64 (f.params.length + cy 0 f.body) then (2, f.pos)
 else orF (be F f.result f.body r.2) (noC (f.result == 0 || bK f.body) 54 f.pos)
def cD : List Fn → aQ → Flt × aQ
 | [], F => (okF, F)
 | f :: l, F => if (aF F f.name).isSome then ((53, f.pos), F) else cD l (bJ F f.name f)
def eF (F : aQ) : List Fn → Flt
 | [] => okF
 | f :: l => orF (dL F f) (eF F l)
def bw (l : List Fn) : Flt :=
 if 64 < l.length then (2, 0)
 else if (cD l []).1.1 ≠ 0 then (cD l []).1
 else eF (cD l []).2 l
def cW (s : List UInt8) : Except (Int × Int) (List Fn) := match dk s with
 | .error e => .error e
 | .ok l => if (bw l).1 ≠ 0 then .error (bw l) else .ok l
theorem ik {α : Type} (m : List (ByteArray × α)) (k j : ByteArray) (x : α) : aF (bJ m k x) j = if k = j then some x else aF m j := by
 induction m with
 | nil => simp [aF, bJ]
 | cons p m ih =>
  unfold bJ
  by_cases h : p.1 = k
  ·rw [if_pos h]
   subst h
   by_cases e : p.1 = j
   ·simp [aF, e]
   ·simp [aF, e]
  ·rw [if_neg h]
   unfold aF
   rw [ih]
   by_cases e : p.1 = j
   ·rw [if_pos e, if_pos e, if_neg (fun q => h (e.trans q.symm))]
   ·rw [if_neg e, if_neg e]
end
end
end Go.Proofs.YtjblihabklemfaaGreatDoor
