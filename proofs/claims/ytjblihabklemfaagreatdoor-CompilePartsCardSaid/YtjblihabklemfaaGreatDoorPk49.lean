/-
  CompileGas: part 49 of its proof: see the last text.
-/
import Derived.Test.YtjblihabklemfaaGreatDoorPk21
set_option maxRecDepth 100000
namespace Go.Proofs.YtjblihabklemfaaGreatDoor
section
open Go.RowKit
mutual
def tX : Ex → Bool
 | .mk op _ _ ks _ => op == 5 || tL ks
def tL : List Ex → Bool
 | [] => false
 | x :: l => tX x || tL l
end
mutual
def ui : St → Bool
 | .mk _ _ es body els _ => tL es || (tM body || tM els)
def tM : List St → Bool
 | [] => false
 | x :: l => ui x || tM l
end
def Has (s : CS) : Prop := (14 : Int) ∈ eO s.ins
theorem Uses.has {n : Nat} {s s' : CS} (h : Uses n s s') (g : Has s) : Has s' := by
 obtain ⟨t, h1, _, _⟩ := h
 unfold Has
 rw [h1]
 exact List.mem_append_left _ g
theorem tK (o a : Int) {s : CS} (h : Has s) : Has (aq o a s) := by
 show (14 : Int) ∈ (s.ins ++ [(⟨o, a⟩ : Ins)]).map (·.op)
 rw [List.map_append]
 exact List.mem_append_left _ h
theorem vx (a : Int) (s : CS) : Has (aq 14 a s) := by
 show (14 : Int) ∈ (s.ins ++ [(⟨14, a⟩ : Ins)]).map (·.op)
 simp
theorem vK (k : Nat) (s : CS) : eO (cQ k s).ins = eO s.ins := by
 show (s.ins.set k ⟨(s.ins.getD k default).op, s.ins.length⟩).map (·.op) = s.ins.map (·.op)
 rw [List.map_set]
 refine List.ext_getElem? fun i => ?_
 rw [List.getElem?_set]
 split
 ·rename_i e
  subst e
  split
  ·rename_i hl
   rw [List.length_map] at hl
   simp only [List.getElem?_map, List.getElem?_eq_getElem hl, List.getD_eq_getElem?_getD]
   rfl
  ·rename_i hl
   exact (List.getElem?_eq_none (by omega)).symm
 ·rfl
theorem tS (k : Nat) {s : CS} (h : Has s) : Has (cQ k s) := by
 unfold Has
 rw [vK]
 exact h
mutual
theorem uy {F : List Fn} : ∀ (x : Ex) (v : bg) (s : CS), iX F x → tX x = true → Has (cE F v x s)
 | .mk op num text ks pos, v, s => by
  intro hf hc
  have hu := fun (l : List Ex) (t : CS) (h : dw F l) => gP (F := F) l v t h
  rw [iX] at hf
  rw [tX] at hc
  obtain ⟨_, h6, hk⟩ := hf
  rw [cE]
  dsimp only
  by_cases c5 : op = 5
  ·subst c5
   rw [if_neg (by simp), if_neg (by decide), if_neg (by decide), if_neg (by decide), if_neg (by decide), if_pos rfl]
   exact vx _ _
  have hc : tL ks = true := by simpa [c5] using hc
  have h1 : Has (aD F v ks (aq 1 1 s)) := uq ks v _ hk hc
  split
  ·rename_i hq
   exact uS (nS text.toList) ks v _ (h6 (by simp at hq; exact hq.2)) hk hc
  ·split
   ·exact tK _ _ h1
   split
   ·exact tK _ _ h1
   split
   ·exact tK _ _ ((pP text _).has h1)
   split
   ·exact tK _ _ h1
   split
   ·exact tK _ _ h1
   split
   ·exact tK _ _ h1
   split
   ·exact tK _ _ h1
   split
   ·exact tK _ _ h1
   split
   ·exact tK _ _ h1
   exact h1
theorem uq {F : List Fn} : ∀ (l : List Ex) (v : bg) (s : CS), dw F l → tL l = true → Has (aD F v l s)
 | [], v, s => by intro _ h; rw [tL] at h; cases h
 | x :: l, v, s => by
  intro hf hc
  rw [dw] at hf
  rw [tL, Bool.or_eq_true] at hc
  rw [aD]
  by_cases h : tX x = true
  ·exact (gP l v _ hf.2).has (uy x v s hf.1 h)
  ·exact uq l v _ hf.2 (hc.resolve_left h)
theorem uS {F : List Fn} (isAnd : Bool) : ∀ (l : List Ex) (v : bg) (s : CS), l.length = 2 → dw F l → tL l = true → Has (cn F v isAnd l s)
 | [], v, s => by intro h _ _; cases h
 | [_], v, s => by intro h _ _; cases h
 | x :: y :: l, v, s => by
  intro hl hf hc
  obtain rfl : l = [] := List.eq_nil_of_length_eq_zero (by simpa using hl)
  rw [dw, dw] at hf
  rw [tL, tL, tL, Bool.or_false, Bool.or_eq_true] at hc
  rw [cn]
  have key : ∀ s0 : CS, s0 = cE F v x s → (Has s0 ∨ tX y = true) := fun s0 e => by
   rcases hc with h | h
   ·left; rw [e]; exact uy x v s hf.1 h
   ·exact .inr h
  have key := key _ rfl
  generalize cE F v x s = s0 at *
  have hy : ∀ t : CS, (Has t ∨ tX y = true) → Has (cE F v y t) := fun t h => h.elim (fun h => (gw y v t hf.2.1).has h) (fun h => uy y v t hf.2.1 h)
  cases isAnd
  ·rw [if_neg (by decide), if_neg (by decide)]
   exact tS _ (hy _ (key.imp_left fun h => tS _ (tK _ _ (tK _ _ (tK _ _ h)))))
  ·rw [if_pos rfl, if_pos rfl]
   exact tS _ (tK _ _ (tS _ (tK _ _ (hy _ (key.imp_left fun h => tK _ _ h)))))
end
mutual
theorem vu {F : List Fn} : ∀ (x : St) (v : bg) (s : CS), kF F x → lD x → ui x = true → Has (dT F x (v, s)).2
 | .mk op text es body els pos, v, s => by
  intro hf hm hc
  rw [kF] at hf
  rw [lD] at hm
  rw [ui, Bool.or_eq_true, Bool.or_eq_true] at hc
  obtain ⟨_, he, hb, hl⟩ := hf
  obtain ⟨m1, m2, mb, ml⟩ := hm
  rw [dT]
  dsimp only
  have hes : Has (aD F v es (aq 1 1 s)) ∨ tM body = true ∨ tM els = true := hc.imp_left fun h => uq es v _ he h
  generalize aD F v es (aq 1 1 s) = t at *
  have hB : ∀ (v : bg) (t : CS), Has t ∨ tM body = true → Has (aI F body (v, t)).2 := fun v t h => h.elim (fun h => (dG body v t hb mb).has h) (fun h => ud body v t hb mb h)
  have hE : ∀ (v : bg) (t : CS), Has t ∨ tM els = true → Has (aI F els (v, t)).2 := fun v t h => h.elim (fun h => (dG els v t hl ml).has h) (fun h => ud els v t hl ml h)
  by_cases c3 : op = 3
  ·rw [if_neg (by omega), if_neg (by omega), if_pos c3]
   have q : Has (aI F body (v, aq 16 0 t)).2 ∨ tM els = true := by
    rcases hes with h | h | h
    ·exact .inl (hB _ _ (.inl (tK _ _ h)))
    ·exact .inl (hB _ _ (.inr h))
    ·exact .inr h
   generalize (aI F body (v, aq 16 0 t)).2 = t2 at *
   split
   ·exact hE _ _ (q.imp_left fun h => tS _ h)
   ·exact tS _ (hE _ _ (q.imp_left fun h => tS _ (tK _ _ h)))
  have n1 : tM els = true → False := fun h => by rw [m1 c3, tM] at h; cases h
  by_cases c4 : op = 4
  ·rw [if_neg (by omega), if_neg (by omega), if_neg c3, if_pos c4]
   refine tS _ (tK _ _ (tK _ _ (tK _ _ (tK _ _ (tK _ _ (hB _ _ ?_))))))
   rcases hes with h | h | h
   ·exact .inl (tK _ _ (tK _ _ (tK _ _ (tK _ _ (tK _ _ (tK _ _ (tK _ _ h)))))))
   ·exact .inr h
   ·exact absurd h n1
  have h : Has t := hes.elim id fun h => h.elim (fun h => by rw [m2 ⟨c3, c4⟩, tM] at h; cases h) (fun h => absurd h n1)
  by_cases c1 : op = 1
  ·rw [if_pos c1]; exact tK _ _ h
  rw [if_neg c1]
  by_cases c2 : op = 2
  ·rw [if_pos c2]; exact tK _ _ h
  rw [if_neg c2]
  rw [if_neg c3, if_neg c4]
  split
  ·exact tK _ _ h
  split
  ·exact tK _ _ h
  split
  ·exact tK _ _ h
  split
  ·dsimp only
   split
   ·exact h
   ·exact tK _ _ h
  exact h
theorem ud {F : List Fn} : ∀ (l : List St) (v : bg) (s : CS), dO F l → ej l → tM l = true → Has (aI F l (v, s)).2
 | [], v, s => by intro _ _ h; rw [tM] at h; cases h
 | x :: l, v, s => by
  intro hf hm hc
  rw [dO] at hf
  rw [ej] at hm
  rw [tM, Bool.or_eq_true] at hc
  rw [aI]
  by_cases h : ui x = true
  ·exact (dG l _ _ hf.2 hm.2).has (vu x v s hf.1 hm.1 h)
  ·exact ud l _ _ hf.2 hm.2 (hc.resolve_left h)
end
mutual
theorem uk {F F' : List Fn} {v : bg} : ∀ (x : Ex) (s : CS), tX x = false → cE F v x s = cE F' v x s
 | .mk op num text ks pos, s => by
  intro hc
  rw [tX, Bool.or_eq_false_iff] at hc
  have c5 : op ≠ 5 := by simpa using hc.1
  rw [cE, cE]
  dsimp only
  rw [uG (F := F) (F' := F') _ ks _ hc.2, tY (F := F) (F' := F') ks _ hc.2]
  simp only [if_neg c5]
theorem tY {F F' : List Fn} {v : bg} : ∀ (l : List Ex) (s : CS), tL l = false → aD F v l s = aD F' v l s
 | [], s => by intro _; rw [aD, aD]
 | x :: l, s => by
  intro hc
  rw [tL, Bool.or_eq_false_iff] at hc
  rw [aD, aD, uk (F := F) (F' := F') x s hc.1, tY (F := F) (F' := F') l _ hc.2]
theorem uG {F F' : List Fn} {v : bg} (isAnd : Bool) : ∀ (l : List Ex) (s : CS), tL l = false → cn F v isAnd l s = cn F' v isAnd l s
 | [], s => by intro _; rw [cn, cn]
 | [_], s => by intro _; rw [cn, cn]
 | x :: y :: l, s => by
  intro hc
  rw [tL, tL, Bool.or_eq_false_iff, Bool.or_eq_false_iff] at hc
  have hy : ∀ s, cE F v y s = cE F' v y s := fun s => uk y s hc.2.1
  rw [cn, cn, uk (F := F) (F' := F') x s hc.1]
  simp only [hy]
end
mutual
theorem uf {G G' : aQ} {v : aV} : ∀ (x : Ex), tX x = false → aG G v x = aG G' v x
 | .mk op num text ks pos => by
  intro hc
  rw [tX, Bool.or_eq_false_iff] at hc
  have c5 : op ≠ 5 := by simpa using hc.1
  rw [aG, aG]
  simp only [if_neg c5, uw (G := G) (G' := G') ks _ hc.2, ut (G := G) (G' := G') _ ks hc.2]
theorem uw {G G' : aQ} {v : aV} : ∀ (l : List Ex) (ts : List Int), tL l = false → bV G v l ts = bV G' v l ts
 | [], ts => by intro _; rw [bV, bV]
 | x :: l, ts => by
  intro hc
  rw [tL, Bool.or_eq_false_iff] at hc
  rw [bV, bV, uf (G := G) (G' := G') x hc.1, uw (G := G) (G' := G') l _ hc.2]
theorem ut {G G' : aQ} {v : aV} (plus : Bool) : ∀ (l : List Ex), tL l = false → cH G v plus l = cH G' v plus l
 | [] => by intro _; rw [cH, cH]
 | x :: l => by
  intro hc
  rw [tL, Bool.or_eq_false_iff] at hc
  rw [cH, cH, uf (G := G) (G' := G') x hc.1, ut (G := G) (G' := G') plus l hc.2]
end
theorem vg {G G' : aQ} {v : aV} {l : List Ex} (h : tL l = false) : aG G v (l.headD default) = aG G' v (l.headD default) := by
 match l, h with
 | [], _ => exact uf _ (by decide)
 | x :: l, h =>
  rw [tL, Bool.or_eq_false_iff] at h
  exact uf x h.1
mutual
theorem vj {G G' : aQ} (res : Int) : ∀ (x : St) (v : aV), ui x = false → bR G res x v = bR G' res x v
 | .mk op text es body els pos, v => by
  intro hc
  rw [ui, Bool.or_eq_false_iff, Bool.or_eq_false_iff] at hc
  rw [bR, bR]
  simp only [vg (G := G) (G' := G') hc.1, dn, uw (G := G) (G' := G') es _ hc.1, tW (G := G) (G' := G') res body _ hc.2.1, tW (G := G) (G' := G') res els _ hc.2.2]
theorem tW {G G' : aQ} (res : Int) : ∀ (l : List St) (v : aV), tM l = false → be G res l v = be G' res l v
 | [], v => by intro _; rw [be, be]
 | x :: l, v => by
  intro hc
  rw [tM, Bool.or_eq_false_iff] at hc
  rw [be, be, vj (G := G) (G' := G') res x v hc.1, tW (G := G) (G' := G') res l _ hc.2]
end
mutual
def uJ : St → Prop
 | .mk op _ _ body els _ => op ≠ 8 ∧ tU body ∧ tU els
def tU : List St → Prop
 | [] => True
 | x :: l => uJ x ∧ tU l
end
theorem ul : tU [] := by rw [tU]; trivial
theorem vi {l : List Ex} (h : tL l = false) : (l.headD default).op ≠ 5 := by
 match l, h with
 | [], _ => decide
 | .mk op _ _ _ _ :: l, h =>
  rw [tL, Bool.or_eq_false_iff, tX, Bool.or_eq_false_iff] at h
  have q : op ≠ 5 := by simpa using h.1.1
  exact q
mutual
theorem vh {G : aQ} (res : Int) : ∀ (x : St) (v : aV), (bR G res x v).2.1 = 0 → lD x → ui x = false → uJ x
 | .mk op text es body els pos, v => by
  intro e hm hc
  rw [bR] at e
  dsimp only at e
  rw [uJ]
  rw [ui, Bool.or_eq_false_iff, Bool.or_eq_false_iff] at hc
  rw [lD] at hm
  obtain ⟨m1, m2, mb, ml⟩ := hm
  by_cases c0 : cw (.mk op text es body els pos) = false
  ·rw [if_pos c0] at e
   exact absurd e (by simp)
  rw [if_neg c0] at e
  refine ⟨fun h8 => ?_, ?_, ?_⟩
  ·rw [if_neg (by omega), if_neg (by omega), if_neg (by omega), if_neg (by omega), if_neg (by omega), if_pos h8] at e
   exact vi hc.1 (eq_of_beq (ql (by decide) (bG e).2))
  ·by_cases c3 : op = 3
   ·rw [if_neg (by omega), if_neg (by omega), if_pos c3] at e
    exact tO res body v (bG (bG e).2).1 mb hc.2.1
   ·by_cases c4 : op = 4
    ·rw [if_neg (by omega), if_neg (by omega), if_neg c3, if_pos c4] at e
     exact tO res body _ (bG (bG e).2).2 mb hc.2.1
    ·rw [m2 ⟨c3, c4⟩]; exact ul
  ·by_cases c3 : op = 3
   ·rw [if_neg (by omega), if_neg (by omega), if_pos c3] at e
    exact tO res els v (bG (bG e).2).2 ml hc.2.2
   ·rw [m1 c3]; exact ul
theorem tO {G : aQ} (res : Int) : ∀ (l : List St) (v : aV), (be G res l v).1 = 0 → ej l → tM l = false → tU l
 | [], _ => fun _ _ _ => ul
 | x :: l, v => by
  intro e hm hc
  rw [be] at e
  rw [tU]
  rw [tM, Bool.or_eq_false_iff] at hc
  rw [ej] at hm
  by_cases c : (bR G res x v).2.1 ≠ 0
  ·rw [if_pos c] at e
   exact absurd e c
  rw [if_neg c] at e
  exact ⟨vh res x v (by simpa using c) hm.1 hc.1, tO res l _ e hm.2 hc.2⟩
end
mutual
theorem uP {F F' : List Fn} : ∀ (x : St) (p : bg × CS), ui x = false → uJ x → dT F x p = dT F' x p
 | .mk op text es body els pos, (v, s) => by
  intro hc hn
  rw [ui, Bool.or_eq_false_iff, Bool.or_eq_false_iff] at hc
  rw [uJ] at hn
  rw [dT, dT]
  simp only [tY (F := F) (F' := F') es _ hc.1, tQ (F := F) (F' := F') body _ hc.2.1 hn.2.1, tQ (F := F) (F' := F') els _ hc.2.2 hn.2.2, if_neg hn.1]
theorem tQ {F F' : List Fn} : ∀ (l : List St) (p : bg × CS), tM l = false → tU l → aI F l p = aI F' l p
 | [], p => by intro _ _; rw [aI, aI]
 | x :: l, p => by
  intro hc hn
  rw [tM, Bool.or_eq_false_iff] at hc
  rw [tU] at hn
  rw [aI, aI, uP (F := F) (F' := F') x p hc.1 hn.1, tQ (F := F) (F' := F') l _ hc.2 hn.2]
end
theorem uT (F : List Fn) (f : Fn) (T : List ByteArray) : T.length ≤ (cz F f T).2.length := by
 have h := bv F f.body (aC f.params ([], 0)).1 ⟨[], (aC f.params ([], 0)).2, T⟩
 unfold cz
 dsimp only
 split
 ·exact h.2.2.1
 ·exact h.2.2.1
theorem ub (F : List Fn) : ∀ (l : List Fn) (p : List Cd × List ByteArray), p.2.length ≤ (a8 F l p).2.length
 | [], p => by rw [a8]; exact Nat.le_refl _
 | f :: l, p => by
  rw [a8]
  exact Nat.le_trans (uT F f p.2) (ub F l (p.1 ++ [(cz F f p.2).1], (cz F f p.2).2))
theorem uv (F : List Fn) : ∀ (l : List Fn) (p : List Cd × List ByteArray), (a8 F l p).1.length = p.1.length + l.length
 | [], p => by rw [a8]; rfl
 | f :: l, p => by
  rw [a8, uv F l]
  simp
  omega
theorem uu (F : List Fn) : ∀ (l : List Fn) (q : List Cd × List ByteArray) (j : Nat), j < q.1.length → (a8 F l q).1.getD j default = q.1.getD j default
 | [], q, j, _ => by rw [a8]
 | g :: l, q, j, hj => by
  rw [a8, uu F l _ _ (by simp; omega)]
  exact fq _ _ _ hj
theorem ur (F : List Fn) : ∀ (l : List Fn) (p : List Cd × List ByteArray) (i : Nat), i < l.length → (a8 F l p).2 = [] → (a8 F l p).1.getD (p.1.length + i) default = (cz F (l.getD i default) []).1 ∧ (cz F (l.getD i default) []).2 = []
 | f :: l, p, 0, _, ht => by
  have h2 : p.2 = [] := List.eq_nil_of_length_eq_zero (by have := ub F (f :: l) p; rw [ht] at this; simpa using this)
  rw [a8] at ht ⊢
  have h3 : (cz F f p.2).2 = [] := List.eq_nil_of_length_eq_zero (by have := ub F l (p.1 ++ [(cz F f p.2).1], (cz F f p.2).2); rw [ht] at this; simpa using this)
  rw [uu F l _ _ (by simp)]
  rw [h2] at h3 ⊢
  refine ⟨?_, h3⟩
  show (p.1 ++ [(cz F f []).1]).getD p.1.length default = _
  rw [ff]
  rfl
 | f :: l, p, i + 1, h, ht => by
  rw [a8] at ht ⊢
  have q := ur F l (p.1 ++ [(cz F f p.2).1], (cz F f p.2).2) i (by simpa using h) ht
  dsimp only at q
  rw [List.length_append, show [(cz F f p.2).1].length = 1 from rfl, show p.1.length + 1 + i = p.1.length + (i + 1) by omega] at q
  exact q
theorem vF {p : Nat → Bool} {n : Nat} (h : eR p n = true) {i : Nat} (hi : i < n) : p i = true := by
 unfold eR at h
 exact of_decide_eq_true h i hi
theorem vd {l : List Fn} (h : (bw l).1 = 0) (hr : gN (cM l) = true) (ht : (cM l).texts = []) (hn : ∀ i, i < l.length → (14 : Int) ∉ eO ((cM l).codes.getD i default).ins) (i : Nat) (hi : i < l.length) :
    dB [l.getD i default] = .ok ⟨[(cM l).codes.getD i default], []⟩ := by
 have ht' : (a8 l l ([], [])).2 = [] := by
  have : (a8 l l ([], [])).2.map cI = [] := ht
  simpa using this
 obtain ⟨e1, e2⟩ := ur l l ([], []) i hi ht'
 have e1 : (cM l).codes.getD i default = (cz l (l.getD i default) []).1 := by
  rw [← e1]
  show (a8 l l ([], [])).1.getD i default = (a8 l l ([], [])).1.getD (0 + i) default
  rw [Nat.zero_add]
 have hm : l.getD i default ∈ l := by rw [List.getD_eq_getElem?_getD, List.getElem?_eq_getElem hi]; exact List.getElem_mem hi
 have hn := hn i hi
 have hcd : fE ((cM l).codes.getD i default) = true := by
  unfold gN at hr
  simp only [Bool.and_eq_true] at hr
  exact vF hr.2 (by have q := uv l l ([], []); show i < (a8 l l ([], [])).1.length; rw [q]; simpa using hi)
 rw [e1] at hn hcd
 rw [e1]
 have hfit := ((dF h).2 _ hm).1
 have hform := mP h _ hm
 generalize l.getD i default = f at *
 have hnc : tM f.body = false := by
  cases c : tM f.body
  ·rfl
  ·refine absurd ?_ hn
   have q := ud (F := l) f.body (aC f.params ([], 0)).1 ⟨[], (aC f.params ([], 0)).2, []⟩ hfit hform c
   unfold cz
   dsimp only
   split
   ·exact tK 18 0 q
   ·exact q
 have hchk : ∃ G, (dL G f).1 = 0 := by
  unfold bw at h
  split at h
  ·exact absurd h (by decide)
  split at h
  ·rename_i c d
   exact absurd h d
  exact ⟨_, gz h f hm⟩
 obtain ⟨G, hG⟩ := hchk
 have hG1 : (bw [f]).1 = 0 := by
  have e : bw [f] = orF (dL [(f.name, f)] f) okF := rfl
  rw [e]
  have e3 : dL [(f.name, f)] f = dL G f := by
   unfold dL
   simp only [tW (G := [(f.name, f)]) (G' := G) f.result f.body _ hnc]
  rw [e3]
  unfold orF
  rw [if_neg (by rw [hG]; decide)]
  rfl
 have hnone : tU f.body := by
  unfold dL at hG
  dsimp only at hG
  split at hG
  ·rename_i c; exact absurd hG c
  split at hG
  ·exact absurd hG (by simp)
  split at hG
  ·exact absurd hG (by simp)
  exact tO _ _ _ (bG hG).1 hform hnc
 have hmod : cM [f] = ⟨[(cz l f []).1], []⟩ := by
  have e : cz [f] f [] = cz l f [] := by
   unfold cz
   simp only [tQ (F := [f]) (F' := l) f.body _ hnc hnone]
  show (⟨[(cz [f] f []).1], (cz [f] f []).2.map cI⟩ : Mdl) = _
  rw [e, e2]
  rfl
 unfold dB
 rw [if_neg (by rw [hG1]; decide), hmod, if_pos]
 unfold gN
 show (decide (1 ≤ 64) && decide (0 ≤ 1024) && eR _ 0 && eR _ 1) = true
 simp [eR, hcd]
end
end Go.Proofs.YtjblihabklemfaaGreatDoor
