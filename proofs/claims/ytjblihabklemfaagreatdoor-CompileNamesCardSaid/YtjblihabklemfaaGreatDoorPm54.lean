/-
  Compile: part 54 of its proof: see the last text.
-/
import Derived.Test.YtjblihabklemfaaGreatDoorPm20
set_option maxRecDepth 100000
set_option maxHeartbeats 16000000
namespace Go.Proofs.YtjblihabklemfaaGreatDoor
section
open Go.RowKit
def xx (b t : ByteArray) : ByteArray := if t.size = 0 then t else t ++ b
def nmT (op : Int) (b t : ByteArray) : ByteArray := if op = 4 then t ++ b else t
mutual
def vU (b : ByteArray) : Ex → Ex
 | .mk op num text ks _ => .mk op num (nmT op b text) (vS b ks) 1
def vS (b : ByteArray) : List Ex → List Ex
 | [] => []
 | x :: l => vU b x :: vS b l
end
mutual
def vW (b : ByteArray) : St → St
 | .mk op text es body els _ => .mk op (xx b text) (vS b es) (vR b body) (vR b els) 2
def vR (b : ByteArray) : List St → List St
 | [] => []
 | s :: l => vW b s :: vR b l
end
def vT (b : ByteArray) (f : Fn) : Fn := ⟨f.name, f.params.map fun p => (p.1 ++ b, p.2), f.result, vR b f.body, 3⟩
theorem vX (b : ByteArray) : ∀ l, vS b l = l.map (vU b)
 | [] => by rw [vS]; rfl
 | x :: l => by rw [vS, vX b l]; rfl
theorem vZ (b : ByteArray) : ∀ l, vR b l = l.map (vW b)
 | [] => by rw [vR]; rfl
 | x :: l => by rw [vR, vZ b l]; rfl
theorem wA (b : ByteArray) (l : List Ex) : (vS b l).length = l.length := by rw [vX, List.length_map]
theorem xI (b : ByteArray) (l : List St) : (vR b l).length = l.length := by rw [vZ, List.length_map]
theorem xv (b : ByteArray) (x : Ex) : (vU b x).op = x.op := by cases x; rw [vU]; rfl
theorem wU {a c b : ByteArray} (h : a ++ b = c ++ b) : a = c := by
 have := congrArg ByteArray.data h
 rw [ByteArray.data_append, ByteArray.data_append] at this
 have := congrArg Array.toList this
 rw [Array.toList_append, Array.toList_append] at this
 exact ByteArray.ext (Array.ext' (List.append_cancel_right this))
theorem xL {a c b : ByteArray} : a ++ b = c ++ b ↔ a = c := ⟨wU, fun h => h ▸ rfl⟩
def Vr {α : Type} (b : ByteArray) (v v' : List (ByteArray × α)) : Prop := ∀ t, aF v' (t ++ b) = aF v t
theorem Vr.nil {α : Type} (b : ByteArray) : Vr (α := α) b [] [] := fun _ => rfl
theorem Vr.put {α : Type} {b : ByteArray} {v v' : List (ByteArray × α)} (h : Vr b v v') (t : ByteArray) (x : α) : Vr b (bJ v t x) (bJ v' (t ++ b) x) := fun u => by
 rw [ik, ik, h u]
 by_cases e : t = u
 ·rw [if_pos e, if_pos (by rw [e])]
 ·rw [if_neg e, if_neg (fun q => e (wU q))]
theorem or1 {a a' c c' : Flt} (h : a'.1 = a.1) (g : c'.1 = c.1) : (orF a' c').1 = (orF a c).1 := by
 unfold orF
 rw [h]
 split
 ·exact h
 ·exact g
theorem no1 (q : Bool) (e p p' : Int) : (noC q e p').1 = (noC q e p).1 := by cases q <;> rfl
theorem xl {r r' : Int × Flt} (t : Int) {p p' : Int} (h : r'.1 = r.1 ∧ r'.2.1 = r.2.1) : (ip r' t p').1 = (ip r t p).1 := by
 unfold ip
 rw [h.1, h.2]
 split
 ·exact h.2
 ·exact no1 _ _ _ _
def Zn (b : ByteArray) (F G : aQ) : Prop := ∀ k, aF G k = (aF F k).map (vT b)
mutual
theorem wR {b : ByteArray} {F G : aQ} (h : Zn b F G) {v v' : aV} (hv : Vr b v v') : ∀ x : Ex, (aG G v' (vU b x)).1 = (aG F v x).1 ∧ (aG G v' (vU b x)).2.1 = (aG F v x).2.1
 | .mk op num text ks pos => by
  have hA := fun ts => xd h hv ks ts
  have hS := fun plus => wV h hv plus ks
  rw [vU, aG, aG, wA]
  unfold nmT
  by_cases c1 : cf op = -2 ∨ (0 ≤ cf op ∧ cf op ≠ ks.length)
  ·simp only [if_pos c1]; exact ⟨trivial, trivial⟩
  simp only [if_neg c1]
  by_cases c2 : op = 1
  ·simp only [if_pos c2]; exact ⟨trivial, trivial⟩
  simp only [if_neg c2]
  by_cases c3 : op = 2
  ·simp only [if_pos c3]; exact ⟨trivial, trivial⟩
  simp only [if_neg c3]
  by_cases c4 : op = 3
  ·simp only [if_pos c4]; exact ⟨trivial, trivial⟩
  simp only [if_neg c4]
  by_cases c5 : op = 4
  ·simp only [if_pos c5]
   rw [hv text]
   exact ⟨rfl, no1 _ _ _ _⟩
  simp only [if_neg c5]
  by_cases c6 : op = 5
  ·simp only [if_pos c6]
   rw [h text]
   cases aF F text with
   | none => exact ⟨rfl, rfl⟩
   | some fn =>
    rw [Option.map_some]
    dsimp only
    have hp : (vT b fn).params.length = fn.params.length := by unfold vT; simp
    have ht : (vT b fn).params.map (·.2) = fn.params.map (·.2) := by unfold vT; simp
    rw [hp, ht]
    by_cases c7 : fn.params.length ≠ ks.length
    ·simp only [if_pos c7]; exact ⟨trivial, trivial⟩
    ·simp only [if_neg c7]
     exact ⟨rfl, hA _⟩
  simp only [if_neg c6]
  by_cases c7 : op = 6
  ·simp only [if_pos c7]
   by_cases c8 : (b8 text.toList).1 ≠ 0
   ·simp only [if_pos c8]; exact ⟨trivial, hA _⟩
   simp only [if_neg c8]
   by_cases c9 : text.toList ≠ [43] ∧ text.toList ≠ [61, 61] ∧ text.toList ≠ [33, 61]
   ·simp only [if_pos c9]; exact ⟨trivial, trivial⟩
   simp only [if_neg c9]
   obtain ⟨g1, g2⟩ := hS (text.toList == [43])
   rw [g1, g2]
   by_cases c10 : (cH F v (text.toList == [43]) ks).1.1 ≠ 0
   ·simp only [if_pos c10]; exact ⟨trivial, g1⟩
   ·simp only [if_neg c10]; exact ⟨trivial, no1 _ _ _ _⟩
  simp only [if_neg c7]
  by_cases c8 : op = 7
  ·simp only [if_pos c8]
   by_cases c9 : text.toList = [45]
   ·simp only [if_pos c9]; exact ⟨trivial, hA _⟩
   simp only [if_neg c9]
   by_cases c10 : text.toList = [33]
   ·simp only [if_pos c10]; exact ⟨trivial, hA _⟩
   ·simp only [if_neg c10]; exact ⟨trivial, trivial⟩
  simp only [if_neg c8]
  by_cases c9 : op = 9
  ·simp only [if_pos c9]; exact ⟨trivial, hA _⟩
  simp only [if_neg c9]
  by_cases c10 : op = 10
  ·simp only [if_pos c10]; exact ⟨trivial, hA _⟩
  ·simp only [if_neg c10]; exact ⟨trivial, hA _⟩
theorem xd {b : ByteArray} {F G : aQ} (h : Zn b F G) {v v' : aV} (hv : Vr b v v') : ∀ (l : List Ex) (ts : List Int), (bV G v' (vS b l) ts).1 = (bV F v l ts).1
 | [], ts => by rw [vS, bV, bV]
 | x :: l, ts => by
  rw [vS, bV, bV]
  exact or1 (xl _ (wR h hv x)) (xd h hv l _)
theorem wV {b : ByteArray} {F G : aQ} (h : Zn b F G) {v v' : aV} (hv : Vr b v v') (plus : Bool) : ∀ l : List Ex, (cH G v' plus (vS b l)).1.1 = (cH F v plus l).1.1 ∧ (cH G v' plus (vS b l)).2 = (cH F v plus l).2
 | [] => by rw [vS, cH]; exact ⟨rfl, rfl⟩
 | x :: l => by
  obtain ⟨h1, h2⟩ := wR h hv x
  obtain ⟨g1, g2⟩ := wV h hv plus l
  rw [vS, cH, cH]
  have hf : (if (aG G v' (vU b x)).2.1 = 0 then noC ((aG G v' (vU b x)).1 != 0 && !(plus && (aG G v' (vU b x)).1 == 2)) 51 (vU b x).pos else (aG G v' (vU b x)).2).1
      = (if (aG F v x).2.1 = 0 then noC ((aG F v x).1 != 0 && !(plus && (aG F v x).1 == 2)) 51 x.pos else (aG F v x).2).1 := by
   rw [h1, h2]
   split
   ·exact no1 _ _ _ _
   ·exact h2
  generalize (if (aG G v' (vU b x)).2.1 = 0 then noC ((aG G v' (vU b x)).1 != 0 && !(plus && (aG G v' (vU b x)).1 == 2)) 51 (vU b x).pos else (aG G v' (vU b x)).2) = A at *
  generalize (if (aG F v x).2.1 = 0 then noC ((aG F v x).1 != 0 && !(plus && (aG F v x).1 == 2)) 51 x.pos else (aG F v x).2) = B at *
  rw [hf]
  split
  ·exact ⟨hf, rfl⟩
  ·exact ⟨g1, by rw [h1, g2]⟩
end
theorem xe (b : ByteArray) (op : Int) (text t' : ByteArray) (es : List Ex) (body els : List St) (pos : Int) : cw (.mk op t' (vS b es) (vR b body) (vR b els) 2) = cw (.mk op text es body els pos) := by
 unfold cw
 simp only [St.op, St.exprs, St.body, St.els, vX, vZ, List.length_map]
 rfl
theorem wG (b : ByteArray) (es : List Ex) (h : 0 < es.length) : (vS b es).headD default = vU b (es.headD default) := by
 cases es with
 | nil => exact absurd h (by decide)
 | cons x l => rw [vS]; rfl
mutual
def ww : St → Prop
 | .mk op t _ body els _ => (op = 1 ∨ op = 2 ∨ op = 4 → t.size ≠ 0) ∧ vV body ∧ vV els
def vV : List St → Prop
 | [] => True
 | s :: l => ww s ∧ vV l
end
mutual
theorem xy : ∀ s : St, okS s → ww s
 | .mk op t es body els pos => fun h => by
  rw [okS] at h
  rw [ww]
  exact ⟨h.1.2, wb body h.2.2.1, wb els h.2.2.2⟩
theorem wb : ∀ l : List St, dH l → vV l
 | [] => fun _ => by rw [vV]; trivial
 | s :: l => fun h => by
  rw [dH] at h
  rw [vV]
  exact ⟨xy s h.1, wb l h.2⟩
end
theorem vY {b t : ByteArray} (h : t.size ≠ 0) : xx b t = t ++ b := if_neg h
mutual
theorem xG {b : ByteArray} {F G : aQ} (h : Zn b F G) (res : Int) : ∀ (s : St) (v v' : aV), ww s → Vr b v v' → Vr b (bR F res s v).1 (bR G res (vW b s) v').1 ∧ (bR G res (vW b s) v').2.1 = (bR F res s v).2.1
 | .mk op text es body els pos, v, v' => by
  intro hf hv
  rw [ww] at hf
  have hB := fun u u' (hu : Vr b u u') => wv h res body u u' hf.2.1 hu
  have hL := wv h res els v v' hf.2.2 hv
  have hA := fun ts => xd h hv es ts
  rw [vW, bR, bR, xe b _ text _ _ _ _ pos]
  dsimp only
  by_cases c0 : cw (.mk op text es body els pos) = false
  ·simp only [if_pos c0]; exact ⟨hv, trivial⟩
  have hsh := kX c0
  simp only [if_neg c0]
  have hx : 0 < es.length → (vS b es).headD default = vU b (es.headD default) := wG b es
  have hE := wR h hv (es.headD default)
  have hop := xv b (es.headD default)
  rw [wA]
  by_cases c1 : op = 1
  ·simp only [if_pos c1]
   rw [vY (hf.1 (.inl c1)), hx (by have := (hsh.1 (.inl c1)).1; omega), hv text, hE.1]
   exact ⟨hv.put _ _, or1 hE.2 (or1 (no1 _ _ _ _) (no1 _ _ _ _))⟩
  simp only [if_neg c1]
  by_cases c2 : op = 2
  ·simp only [if_pos c2]
   rw [vY (hf.1 (.inr (.inl c2))), hx (by have := (hsh.1 (.inr (.inl c2))).1; omega), hv text]
   exact ⟨hv, or1 (no1 _ _ _ _) (or1 (no1 _ _ _ _) (xl _ hE))⟩
  simp only [if_neg c2]
  by_cases c3 : op = 3
  ·simp only [if_pos c3]
   rw [hx (by have := hsh.2.2.2.1 c3; omega)]
   exact ⟨hv, or1 (xl _ hE) (or1 (hB _ _ hv) hL)⟩
  simp only [if_neg c3]
  by_cases c4 : op = 4
  ·simp only [if_pos c4]
   rw [vY (hf.1 (.inr (.inr c4))), hv text]
   exact ⟨hv, or1 (hA _) (or1 (no1 _ _ _ _) (hB _ _ (hv.put _ _)))⟩
  simp only [if_neg c4]
  by_cases c5 : op = 5
  ·simp only [if_pos c5]
   by_cases c6 : es.length = 0
   ·simp only [if_pos c6]; exact ⟨hv, no1 _ _ _ _⟩
   ·simp only [if_neg c6]
    rw [hx (by omega), hE.1]
    exact ⟨hv, or1 hE.2 (no1 _ _ _ _)⟩
  simp only [if_neg c5]
  by_cases c8 : op = 8
  ·simp only [if_pos c8]
   rw [hx (by have := (hsh.1 (.inr (.inr (.inr c8)))).1; omega), hop]
   exact ⟨hv, or1 hE.2 (no1 _ _ _ _)⟩
  ·simp only [if_neg c8]; exact ⟨hv, hA _⟩
theorem wv {b : ByteArray} {F G : aQ} (h : Zn b F G) (res : Int) : ∀ (l : List St) (v v' : aV), vV l → Vr b v v' → (be G res (vR b l) v').1 = (be F res l v).1
 | [], v, v' => by intro _ _; rw [vR, be, be]
 | s :: l, v, v' => by
  intro hf hv
  rw [vV] at hf
  obtain ⟨h1, h2⟩ := xG h res s v v' hf.1 hv
  rw [vR, be, be, h2]
  split
  ·exact h2
  ·exact wv h res l _ _ hf.2 h1
end
mutual
theorem xz (b : ByteArray) : ∀ s : St, endsS (vW b s) = endsS s
 | .mk op text es body els pos => by rw [vW, endsS, endsS, wg b body, wg b els]
theorem wg (b : ByteArray) : ∀ l : List St, bK (vR b l) = bK l
 | [] => by rw [vR]
 | [s] => by rw [vR, vR, bK, bK, xz b s]
 | s :: t :: l => by
  have q := wg b (t :: l)
  rw [vR] at q
  rw [vR, vR, bK, bK, q]
end
mutual
theorem xp (b : ByteArray) (n : Int) : ∀ s : St, mT n (vW b s) = mT n s
 | .mk op text es body els pos => by rw [vW, mT, mT, wl b 0 body, wl b 0 els]
theorem wl (b : ByteArray) (n : Int) : ∀ l : List St, cy n (vR b l) = cy n l
 | [] => by rw [vR]
 | s :: l => by rw [vR, cy, cy, xp b n s, wl b _ l]
end
theorem wN (b : ByteArray) (pos pos' : Int) : ∀ (l : List (ByteArray × Int)) (v v' : aV), Vr b v v' → (cq pos' (l.map fun p => (p.1 ++ b, p.2)) v').1.1 = (cq pos l v).1.1 ∧ Vr b (cq pos l v).2 (cq pos' (l.map fun p => (p.1 ++ b, p.2)) v').2
 | [], v, v', hv => ⟨rfl, hv⟩
 | p :: l, v, v', hv => by
  rw [List.map_cons, cq, cq, hv p.1]
  split
  ·exact ⟨rfl, hv⟩
  split
  ·exact ⟨rfl, hv⟩
  ·exact wN b pos pos' l _ _ (hv.put _ _)
theorem xE {b : ByteArray} {F G : aQ} (h : Zn b F G) (f : Fn) (hf : vV f.body) : (dL G (vT b f)).1 = (dL F f).1 := by
 obtain ⟨h1, h2⟩ := wN b f.pos 3 f.params [] [] (Vr.nil b)
 unfold dL vT
 dsimp only
 rw [wl, wg, List.length_map, h1]
 split
 ·exact h1
 split
 ·rfl
 split
 ·rfl
 ·exact or1 (wv h _ _ _ _ hf h2) (no1 _ _ _ _)
theorem xN {b : ByteArray} {F G : aQ} (h : Zn b F G) (k : ByteArray) (f : Fn) : Zn b (bJ F k f) (bJ G k (vT b f)) := fun j => by
 rw [ik, ik]
 by_cases e : k = j
 ·rw [if_pos e, if_pos e]; rfl
 ·rw [if_neg e, if_neg e]; exact h j
theorem xk (b : ByteArray) : ∀ (l : List Fn) {F G : aQ}, Zn b F G → (cD (l.map (vT b)) G).1.1 = (cD l F).1.1 ∧ Zn b (cD l F).2 (cD (l.map (vT b)) G).2
 | [], F, G, h => ⟨rfl, h⟩
 | f :: l, F, G, h => by
  rw [List.map_cons, cD, cD]
  have hq : (aF G (vT b f).name).isSome = (aF F f.name).isSome := by
   show (aF G f.name).isSome = _
   rw [h f.name]
   cases aF F f.name <;> rfl
  rw [hq]
  by_cases c : (aF F f.name).isSome
  ·rw [if_pos c, if_pos c]; exact ⟨rfl, h⟩
  ·rw [if_neg c, if_neg c]; exact xk b l (xN h f.name f)
theorem xj {b : ByteArray} {F G : aQ} (h : Zn b F G) : ∀ l : List Fn, (∀ f, f ∈ l → vV f.body) → (eF G (l.map (vT b))).1 = (eF F l).1
 | [] => fun _ => rfl
 | f :: l => fun hf => by
  rw [List.map_cons, eF, eF]
  exact or1 (xE h f (hf f (List.mem_cons_self ..))) (xj h l (fun g hg => hf g (List.mem_cons_of_mem _ hg)))
theorem xB (b : ByteArray) (l : List Fn) (hf : ∀ f, f ∈ l → vV f.body) : (bw (l.map (vT b))).1 = (bw l).1 := by
 unfold bw
 rw [List.length_map]
 split
 ·rfl
 obtain ⟨h1, h2⟩ := xk b l (F := []) (G := []) (fun k => rfl)
 rw [h1]
 split
 ·exact h1
 ·exact xj h2 l hf
theorem wL (b : ByteArray) (t : ByteArray) : ∀ F : List Fn, bI (F.map (vT b)) t = bI F t
 | [] => rfl
 | f :: l => by
  rw [List.map_cons, bI, bI, wL b t l]
  rfl
theorem xf (b : ByteArray) (F : List Fn) (t : ByteArray) : gp (F.map (vT b)) t = gp F t := by
 unfold gp
 rw [wL]
 simp only [List.getD_eq_getElem?_getD, List.getElem?_map]
 cases F[bI F t]? <;> rfl
mutual
theorem wQ {b : ByteArray} {F : List Fn} {v v' : bg} (hv : Vr b v v') : ∀ (x : Ex) (s : CS), cE (F.map (vT b)) v' (vU b x) s = cE F v x s
 | .mk op num text ks pos, s => by
  rw [vU, cE, cE]
  unfold nmT
  dsimp only
  by_cases c4 : op = 4
  ·subst c4
   have q : ((4 : Int) == 6) = false := rfl
   have q1 : ¬ (4 : Int) = 1 := by decide
   have q2 : ¬ (4 : Int) = 2 := by decide
   have q3 : ¬ (4 : Int) = 3 := by decide
   simp only [q, Bool.and_false, Bool.false_eq_true, if_false, if_true, hv text, wu hv ks, if_neg q1, if_neg q2, if_neg q3]
  ·simp only [if_neg c4, xq hv _ ks, wu hv ks, wL]
theorem wu {b : ByteArray} {F : List Fn} {v v' : bg} (hv : Vr b v v') : ∀ (l : List Ex) (s : CS), aD (F.map (vT b)) v' (vS b l) s = aD F v l s
 | [], s => by rw [vS, aD, aD]
 | x :: l, s => by rw [vS, aD, aD, wQ hv x, wu hv l]
theorem xq {b : ByteArray} {F : List Fn} {v v' : bg} (hv : Vr b v v') (isAnd : Bool) : ∀ (l : List Ex) (s : CS), cn (F.map (vT b)) v' isAnd (vS b l) s = cn F v isAnd l s
 | [], s => by rw [vS, cn, cn]
 | [_], s => by rw [vS, vS, cn, cn]
 | x :: y :: l, s => by
  have hy : ∀ s, cE (F.map (vT b)) v' (vU b y) s = cE F v y s := fun s => wQ hv y s
  rw [vS, vS, cn, cn, wQ hv x]
  simp only [hy]
end
mutual
theorem xK {b : ByteArray} {F : List Fn} : ∀ (x : St) (v v' : bg) (s : CS), ww x → kF F x → Vr b v v' → Vr b (dT F x (v, s)).1 (dT (F.map (vT b)) (vW b x) (v', s)).1 ∧ (dT (F.map (vT b)) (vW b x) (v', s)).2 = (dT F x (v, s)).2
 | .mk op text es body els pos, v, v', s => by
  intro hf hg hv
  rw [ww] at hf
  rw [kF] at hg
  have hB := fun u u' (hu : Vr b u u') s => ws body u u' s hf.2.1 hg.2.2.1 hu
  have hL := fun s => ws els v v' s hf.2.2 hg.2.2.2 hv
  rw [vW, dT, dT, wu hv es]
  dsimp only
  generalize aD F v es (aq 1 1 s) = t at *
  by_cases c1 : op = 1
  ·simp only [if_pos c1]
   rw [vY (hf.1 (.inl c1))]
   exact ⟨hv.put _ _, trivial⟩
  simp only [if_neg c1]
  by_cases c2 : op = 2
  ·simp only [if_pos c2]
   rw [vY (hf.1 (.inr (.inl c2))), hv text]
   exact ⟨hv, rfl⟩
  simp only [if_neg c2]
  by_cases c3 : op = 3
  ·simp only [if_pos c3, wg, hB v v' hv]
   split
   ·exact ⟨hv, hL _⟩
   ·refine ⟨hv, ?_⟩
    dsimp only
    rw [hL]
  simp only [if_neg c3]
  by_cases c4 : op = 4
  ·simp only [if_pos c4]
   rw [vY (hf.1 (.inr (.inr c4))), hB _ _ (hv.put text t.slots)]
   exact ⟨hv, rfl⟩
  simp only [if_neg c4]
  by_cases c5 : op = 5
  ·simp only [if_pos c5]; exact ⟨hv, trivial⟩
  simp only [if_neg c5]
  by_cases c6 : op = 6
  ·simp only [if_pos c6]; exact ⟨hv, trivial⟩
  simp only [if_neg c6]
  by_cases c7 : op = 7
  ·simp only [if_pos c7]; exact ⟨hv, trivial⟩
  simp only [if_neg c7]
  by_cases c8 : op = 8
  ·simp only [if_pos c8]
   have hh := hg.1 c8
   rw [wG b es hh.1]
   have he : (vU b (es.headD default)).text = (es.headD default).text := by
    have h5 := hh.2.2
    generalize es.headD default = x at *
    obtain ⟨o, n, t, k, p⟩ := x
    rw [vU]
    show (if o = 4 then t ++ b else t) = t
    rw [if_neg (by rw [show o = 5 from h5]; decide)]
   rw [he, xf]
   exact ⟨hv, rfl⟩
  ·simp only [if_neg c8]; exact ⟨hv, trivial⟩
theorem ws {b : ByteArray} {F : List Fn} : ∀ (l : List St) (v v' : bg) (s : CS), vV l → dO F l → Vr b v v' → (aI (F.map (vT b)) (vR b l) (v', s)).2 = (aI F l (v, s)).2
 | [], v, v', s => by intro _ _ _; rw [vR, aI, aI]
 | x :: l, v, v', s => by
  intro hf hg hv
  rw [vV] at hf
  rw [dO] at hg
  obtain ⟨h1, h2⟩ := xK x v v' s hf.1 hg.1 hv
  rw [vR, aI, aI]
  have e : ∀ p : bg × CS, p = (p.1, p.2) := fun p => rfl
  rw [e (dT (F.map (vT b)) (vW b x) (v', s)), e (dT F x (v, s)), h2]
  exact ws l _ _ _ hf.2 hg.2 h1
end
theorem wP (b : ByteArray) : ∀ (l : List (ByteArray × Int)) (v v' : bg) (n : Int), Vr b v v' → Vr b (aC l (v, n)).1 (aC (l.map fun p => (p.1 ++ b, p.2)) (v', n)).1 ∧ (aC (l.map fun p => (p.1 ++ b, p.2)) (v', n)).2 = (aC l (v, n)).2
 | [], v, v', n, hv => ⟨hv, rfl⟩
 | p :: l, v, v', n, hv => by
  rw [List.map_cons, aC, aC]
  exact wP b l _ _ _ (hv.put _ _)
theorem xH (b : ByteArray) (F : List Fn) (f : Fn) (T : List ByteArray) (hf : vV f.body) (hg : dO F f.body) : cz (F.map (vT b)) (vT b f) T = cz F f T := by
 obtain ⟨h1, h2⟩ := wP b f.params [] [] 0 (Vr.nil b)
 unfold cz
 have e1 : (vT b f).params = f.params.map fun p => (p.1 ++ b, p.2) := rfl
 have e2 : (vT b f).body = vR b f.body := rfl
 have e3 : (vT b f).result = f.result := rfl
 have e4 : (vT b f).name = f.name := rfl
 dsimp only
 rw [e1, e2, e3, e4, h2, ws f.body _ _ _ hf hg h1, List.map_map]
 rfl
theorem wI (b : ByteArray) (F : List Fn) : ∀ (l : List Fn) (p : List Cd × List ByteArray), (∀ f, f ∈ l → vV f.body ∧ dO F f.body) → a8 (F.map (vT b)) (l.map (vT b)) p = a8 F l p
 | [], p => fun _ => rfl
 | f :: l, p => fun h => by
  have hf := h f (List.mem_cons_self ..)
  rw [List.map_cons, a8, a8, xH b F f _ hf.1 hf.2]
  exact wI b F l _ (fun g hg => h g (List.mem_cons_of_mem _ hg))
theorem wZ (b : ByteArray) {l : List Fn} (h : (bw l).1 = 0) (hf : ∀ f, f ∈ l → vV f.body) : cM (l.map (vT b)) = cM l := by
 unfold cM
 rw [wI b l l _ (fun f hm => ⟨hf f hm, ((dF h).2 f hm).1⟩)]
theorem wX (b : ByteArray) {l : List Fn} (h : (bw l).1 = 0) (hf : ∀ f, f ∈ l → vV f.body) : dB (l.map (vT b)) = dB l := by
 have e : cM (l.map (vT b)) = cM l := by
  unfold cM
  rw [wI b l l _ (fun f hm => ⟨hf f hm, ((dF h).2 f hm).1⟩)]
 unfold dB
 rw [xB b l hf, e, h]
end
section
open Go.RowKit
mutual
def smE : Ex → Prop
 | .mk op _ t ks _ => (ks.length ≤ 5000 ∧ wD ks) ∧ (op = 4 → t.size ≤ 64)
def wD : List Ex → Prop
 | [] => True
 | x :: l => smE x ∧ wD l
end
mutual
def smS : St → Prop
 | .mk _ t es body els _ => ((es.length ≤ 5000 ∧ wD es) ∧ (body.length ≤ 5000 ∧ wm body) ∧ (els.length ≤ 5000 ∧ wm els)) ∧ t.size ≤ 64
def wm : List St → Prop
 | [] => True
 | x :: l => smS x ∧ wm l
end
theorem wi : ∀ {l : List Ex}, wD l → ∀ x, x ∈ l → smE x
 | y :: l, h, x, hx => by
  rw [wD] at h
  rcases List.mem_cons.1 hx with rfl | hx
  ·exact h.1
  ·exact wi h.2 x hx
theorem wK : ∀ {l : List St}, wm l → ∀ x, x ∈ l → smS x
 | y :: l, h, x, hx => by
  rw [wm] at h
  rcases List.mem_cons.1 hx with rfl | hx
  ·exact h.1
  ·exact wK h.2 x hx
theorem wB : ∀ l : List Ex, l.length ≤ aN l
 | [] => Nat.zero_le _
 | x :: l => by
  rw [aN]
  have := wB l
  have := tj x
  simp; omega
theorem xC (x : St) : 0 < szS x := by cases x; rw [szS]; omega
theorem wj : ∀ l : List St, l.length ≤ bC l
 | [] => Nat.zero_le _
 | x :: l => by
  rw [bC]
  have := wj l
  have := xC x
  simp; omega
mutual
theorem xF : ∀ x : Ex, szE x ≤ 5000 → okE x → smE x
 | .mk op n t ks p => fun h g => by
  rw [szE] at h
  rw [okE] at g
  rw [smE]
  exact ⟨⟨Nat.le_trans (wB ks) (by omega), wJ ks (by omega) g.2⟩, fun q => g.1.2 (.inr q)⟩
theorem wJ : ∀ l : List Ex, aN l ≤ 5000 → cT l → wD l
 | [] => fun _ _ => by rw [wD]; trivial
 | x :: l => fun h g => by
  rw [aN] at h
  rw [cT] at g
  rw [wD]
  exact ⟨xF x (by omega) g.1, wJ l (by omega) g.2⟩
end
mutual
theorem xJ : ∀ x : St, szS x ≤ 5000 → okS x → smS x
 | .mk op t es body els p => fun h g => by
  rw [szS] at h
  rw [okS] at g
  rw [smS]
  exact ⟨⟨⟨Nat.le_trans (wB es) (by omega), wJ es (by omega) g.2.1⟩, ⟨Nat.le_trans (wj body) (by omega), wt body (by omega) g.2.2.1⟩, Nat.le_trans (wj els) (by omega), wt els (by omega) g.2.2.2⟩, g.1.1⟩
theorem wt : ∀ l : List St, bC l ≤ 5000 → dH l → wm l
 | [] => fun _ _ => by rw [wm]; trivial
 | x :: l => fun h g => by
  rw [bC] at h
  rw [dH] at g
  rw [wm]
  exact ⟨xJ x (by omega) g.1, wt l (by omega) g.2⟩
end
end
end Go.Proofs.YtjblihabklemfaaGreatDoor
