/-
  Compile: part 42 of its proof: see the last text.
-/
import Derived.Test.YtjblihabklemfaaGreatDoorPm41
set_option maxRecDepth 100000
set_option maxHeartbeats 16000000
namespace Go.Proofs.YtjblihabklemfaaGreatDoor
section
open Go.RowKit
structure ParW (B M MB TB NB FB CB IB : Nat) (fv : Value) (F : List Fn) (w0 W w : World) (f : Fn) (fa : Array Value) (s : CS) (v : bg) (ps : List Int) : Prop where
 c : CoW B M MB TB NB fv F w0 w s
 v : SlAt w IB v
 fb : w.heap[FB]? = some (.cells fa 48 (0, 0))
 cb : ∃ pv, w.heap[CB]? = some (.cells #[.string f.name, pv, .int .i64 f.result, .int .i64 0, .slice none 0 0] 35 (0, 0)) ∧ w.ownsRow M 32 1 pv ps.length (jK ps)
 f : Fx B M NB W w
 mW : M = W.heap.size
 im : M ≤ IB
 cm : M ≤ CB
 iN : IB ≠ NB
section
variable {B M MB TB NB FB CB IB PB RB MOB : Nat} {fv : Value} {F : List Fn} {w0 W w w' w9 : World} {f : Fn} {fa : Array Value} {s s' : CS} {v : bg} {ps : List Int} {p : List Cd × List ByteArray}
theorem rK {base e sz n : Nat} {u : Value} {xs : List Value} (h : w.ownsRow base e sz u n xs) (hf : Fx B M NB w w') (hn : ∀ t, ¬ OfTy w NB t) (h1 : e ≠ 73) (h2 : e ≠ 70) (h3 : e ≠ 38) (h4 : e ≠ 22) : w'.ownsRow base e sz u n xs := ba h fun k q => by
 obtain ⟨a, fz, ho⟩ := aZ h q
 exact (hf.obj ho (aA hn ho) h1 h2 h3 h4).trans ho.symm
theorem ParW.fx (h : ParW B M MB TB NB FB CB IB fv F w0 W w f fa s v ps) (hm : MkAt B M w' MB TB NB fv s') (hf : Fx B M NB w w') : ParW B M MB TB NB FB CB IB fv F w0 W w' f fa s' v ps := by
 have hn := h.c.ma.n.noTy
 obtain ⟨pv, h1, h2⟩ := h.cb
 exact ⟨h.c.step hm hf, SlAt.fx hf h.v h.iN, hf.obj h.fb (aA hn h.fb) (by decide) (by decide) (by decide) (by decide), ⟨pv, hf.obj h1 (aA hn h1) (by decide) (by decide) (by decide) (by decide), rK h2 hf hn (by decide) (by decide) (by decide) (by decide)⟩, h.f.trans hf, h.mW, h.im, h.cm, h.iN⟩
theorem ParW.below (h : ParW B M MB TB NB FB CB IB fv F w0 W w f fa s v ps) (hb : Below w.heap.size w w') : ParW B M MB TB NB FB CB IB fv F w0 W w' f fa s v ps := h.fx (h.c.ma.below hb) (Fx.of_below hb)
theorem ParW.put (h : ParW B M MB TB NB FB CB IB fv F w0 W w f fa s v ps) (k : ByteArray) (n : Int) : ParW B M MB TB NB FB CB IB fv F w0 W (eM w IB k (.int .i64 n)) f fa s (bJ v k n) ps := by
 obtain ⟨_, hv3, hon⟩ := gc h.v k n
 have hnt := MapAt.noTy h.v
 have hfr : FxR B M NB IB w (eM w IB k (.int .i64 n)) := OnS.of_on hon (.inl rfl)
 have hB := h.c.ma.mm
 have hk : ∀ {b : Nat} {t : TypeId}, OfTy w b t → (eM w IB k (.int .i64 n)).heap[b]? = w.heap[b]? := fun {b t} ht => hon.block b ht.lt (fun e => by injection e with e; exact hnt t (e ▸ ht))
 obtain ⟨pv, h1, h2⟩ := h.cb
 exact ⟨h.c.stepR (h.c.ma.onMap hon hnt h.iN) hfr (Nat.le_trans hB h.im), hv3, (hk ⟨_, _, h.fb⟩).trans h.fb, ⟨pv, (hk ⟨_, _, h1⟩).trans h1, ba h2 fun b q => hk (aZ h2 q)⟩, h.f.newR hfr (h.mW ▸ h.im), h.mW, h.im, h.cm, h.iN⟩
theorem ParW.push {g cap : Nat} {pv : Value} {t : Int} (h : ParW B M MB TB NB FB CB IB fv F w0 W w f fa s v ps) (h1 : w.heap[CB]? = some (.cells #[.string f.name, pv, .int .i64 f.result, .int .i64 0, .slice none 0 0] 35 (0, 0))) (h2 : w.ownsRow M 32 1 pv ps.length (jK ps)) (hg : w.grownBy w9 pv.ownBlock)
    (ho : w9.ownsRow M 32 1 (.slice (some ⟨g, 0, none⟩) (ps.length + 1) cap) (ps.length + 1) (jK ps ++ [.int .i64 t])) : ParW B M MB TB NB FB CB IB fv F w0 W (w9.setCell ⟨CB, 1, none⟩ (.slice (some ⟨g, 0, none⟩) (ps.length + 1) cap)) f fa s v (ps ++ [t]) := by
 have hk : Keeps (fun t => t ≠ 32) w w9 := Keeps.grown hg h2 (fun h => h rfl)
 have h9 := (hk _ _ (by decide) ⟨_, _, h1⟩ : w9.heap[CB]? = w.heap[CB]?).trans h1
 have hs : Keeps (fun t => t ≠ 35) w9 (w9.setCell ⟨CB, 1, none⟩ (.slice (some ⟨g, 0, none⟩) (ps.length + 1) cap)) := Keeps.set ⟨_, _, h9⟩ (fun h => h rfl) 1 _
 have hks : Keeps (fun t => t ≠ 32 ∧ t ≠ 35) w (w9.setCell ⟨CB, 1, none⟩ (.slice (some ⟨g, 0, none⟩) (ps.length + 1) cap)) := (hk.mono fun t q => q.1).trans (hs.mono fun t q => q.2)
 have hon : OnS (fun k => W.heap.size ≤ k) w (w9.setCell ⟨CB, 1, none⟩ (.slice (some ⟨g, 0, none⟩) (ps.length + 1) cap)) := (OnS.of_grown hg fun k hk => h.mW ▸ (aH h2 hk).1).set (h.mW ▸ h.cm) 1 _
 have hmap : ∀ {r : Nat} {m : List (ByteArray × Value)}, MapAt w r m → (w9.setCell ⟨CB, 1, none⟩ (.slice (some ⟨g, 0, none⟩) (ps.length + 1) cap)).heap[r]? = w.heap[r]? := fun {r m} q =>
  (af _ _ _ _ (fun e => q.noTy 35 (by have e' : r = CB := e; rw [e']; exact ⟨_, _, h1⟩))).trans (hg.block r q.lt (fun e => q.noTy _ (aZ h2 e.symm)))
 have hM := h.c.ma.mm
 have hb : Below B w (w9.setCell ⟨CB, 1, none⟩ (.slice (some ⟨g, 0, none⟩) (ps.length + 1) cap)) := ⟨hon.os, hon.tape, hon.output, hon.size, fun i hi => hon.block i (Nat.lt_of_lt_of_le hi h.c.le) (fun q => by have := h.mW; omega)⟩
 refine ⟨h.c.keep hb (h.c.ma.keep (hks.mono fun t q => by rcases q with rfl | rfl | rfl | rfl | rfl <;> decide) (hmap h.c.ma.n)), MapAt.keep h.v (hmap h.v), (hks _ _ (by decide) ⟨_, _, h.fb⟩).trans h.fb, ⟨_, ai h9 1 _, ?_⟩, h.f.fresh hon, h.mW, h.im, h.cm, h.iN⟩
 rw [List.length_append, show [t].length = 1 from rfl, show jK (ps ++ [t]) = jK ps ++ [.int .i64 t] by simp [jK]]
 exact ba ho fun k q => hs _ _ (by decide) (aZ ho q)
theorem OutW.step {T : List ByteArray} (h : OutW B PB RB MOB TB NB fv F w0 W p) (hf : Fx B W.heap.size NB W w) (hm : TxAt B w TB NB T) : OutW B PB RB MOB TB NB fv F w0 w (p.1, T) := by
 have hk := Keeps.fx hf h.tx.n.noTy
 have hb := hf.below h.le
 exact ⟨h.old.trans hb, h.sg.below hb h.sb, h.sb, h.fn.keep (Stays.of_lt hb), Nat.le_trans h.le hb.size, (hk _ _ (by decide) ⟨_, _, h.pb⟩).trans h.pb, (hk _ _ (by decide) ⟨_, _, h.rb⟩).trans h.rb, h.bm, h.bb, hm, h.cd.keep (hk.mono fun t q => by rcases q with rfl | rfl | rfl | rfl <;> decide)⟩
theorem lj {pv iv : Value} (ho : OutW B PB RB MOB TB NB fv F w0 W p) (g : ParW B M MB TB NB FB CB IB fv F w0 W w f fa s v ps) (hoo : w.ownsRow M 38 2 iv s.ins.length (dU s.ins)) (h1 : w.heap[CB]? = some (.cells #[.string f.name, pv, .int .i64 f.result, .int .i64 0, .slice none 0 0] 35 (0, 0))) (h2 : w.ownsRow M 32 1 pv ps.length (jK ps)) :
    OutW B PB RB MOB TB NB fv F w0 ((w.setCell ⟨CB, 3, none⟩ (.int .i64 s.slots)).setCell ⟨CB, 4, none⟩ iv) (p.1, s.texts) ∧ ((w.setCell ⟨CB, 3, none⟩ (.int .i64 s.slots)).setCell ⟨CB, 4, none⟩ iv).heap[CB]? = some (.cells #[.string f.name, pv, .int .i64 f.result, .int .i64 s.slots, iv] 35 (0, 0)) ∧ CdDone B ((w.setCell ⟨CB, 3, none⟩ (.int .i64 s.slots)).setCell ⟨CB, 4, none⟩ iv) [.string f.name, pv, .int .i64 f.result, .int .i64 s.slots, iv] ⟨f.name, ps, f.result, s.slots, s.ins⟩ := by
 have e1 : (w.setCell ⟨CB, 3, none⟩ (.int .i64 s.slots)).heap[CB]? = some (.cells #[.string f.name, pv, .int .i64 f.result, .int .i64 s.slots, .slice none 0 0] 35 (0, 0)) := ai h1 3 _
 have e2 : ((w.setCell ⟨CB, 3, none⟩ (.int .i64 s.slots)).setCell ⟨CB, 4, none⟩ iv).heap[CB]? = some (.cells #[.string f.name, pv, .int .i64 f.result, .int .i64 s.slots, iv] 35 (0, 0)) := ai e1 4 _
 have hs : Keeps (fun t => t ≠ 35) w ((w.setCell ⟨CB, 3, none⟩ (.int .i64 s.slots)).setCell ⟨CB, 4, none⟩ iv) := (Keeps.set ⟨_, _, h1⟩ (fun h => h rfl) 3 _).trans (Keeps.set ⟨_, _, e1⟩ (fun h => h rfl) 4 _)
 have hon : OnS (fun k => W.heap.size ≤ k) w ((w.setCell ⟨CB, 3, none⟩ (.int .i64 s.slots)).setCell ⟨CB, 4, none⟩ iv) := ((OnS.refl _ _).set (g.mW ▸ g.cm) 3 _).set (g.mW ▸ g.cm) 4 _
 have hmap : ((w.setCell ⟨CB, 3, none⟩ (.int .i64 s.slots)).setCell ⟨CB, 4, none⟩ iv).heap[NB]? = w.heap[NB]? := (af _ _ _ _ (fun e => g.c.ma.n.noTy 35 (by have e' : NB = CB := e; rw [e']; exact ⟨_, _, h1⟩))).trans (af _ _ _ _ (fun e => g.c.ma.n.noTy 35 (by have e' : NB = CB := e; rw [e']; exact ⟨_, _, h1⟩)))
 have hm := g.c.ma.mm
 refine ⟨OutW.step ho (g.mW ▸ (g.f.fresh hon)) (g.c.ma.tx.keep (hs.mono fun t q => by rcases q with rfl | rfl | rfl <;> decide) hmap), e2, pv, iv, rfl, jz (ba h2 fun k q => hs _ _ (by decide) (aZ h2 q)) hm, jz (ba hoo fun k q => hs _ _ (by decide) (aZ hoo q)) hm⟩
theorem l8 {c : Cd} {g cap : Nat} {cv : Value} {cs : Nat → List Value} {new : List Value} (ho : OutW B PB RB MOB TB NB fv F w0 w p) (h1 : w.heap[MOB]? = some (.cells #[cv, .slice none 0 0] 27 (0, 0))) (h2 : w.ownsRow B 35 5 cv p.1.length (cV cs p.1.length)) (h3 : ∀ i, i < p.1.length → CdDone B w (cs i) (p.1.getD i default)) (hd : CdDone B w new c)
    (hg : World.grownBy (w.alloc (.cells new.toArray 35)) w9 cv.ownBlock) (ho9 : w9.ownsRow B 35 5 (.slice (some ⟨g, 0, none⟩) (p.1.length + 1) cap) (p.1.length + 1) (cV cs p.1.length ++ new)) : OutW B PB RB MOB TB NB fv F w0 (w9.setCell ⟨MOB, 0, none⟩ (.slice (some ⟨g, 0, none⟩) (p.1.length + 1) cap)) (p.1 ++ [c], p.2) := by
 have ha : Below w.heap.size w (w.alloc (.cells new.toArray 35)) := ae (Below.refl _ _) _
 have h2a : (w.alloc (.cells new.toArray 35)).ownsRow B 35 5 cv p.1.length (cV cs p.1.length) := bO h2 (Stays.of_below ha)
 have hk : Keeps (fun t => t ≠ 35) w w9 := (Keeps.below ha).trans (Keeps.grown hg h2a (fun h => h rfl))
 have h9 := (hk _ _ (by decide) ⟨_, _, h1⟩ : w9.heap[MOB]? = w.heap[MOB]?).trans h1
 have hs : Keeps (fun t => t ≠ 27) w9 (w9.setCell ⟨MOB, 0, none⟩ (.slice (some ⟨g, 0, none⟩) (p.1.length + 1) cap)) := Keeps.set ⟨_, _, h9⟩ (fun h => h rfl) 0 _
 have hks := (hk.mono (U := fun t => t ≠ 35 ∧ t ≠ 27) fun t q => q.1).trans (hs.mono fun t q => q.2)
 have hn := ho.tx.n
 have hmap : (w9.setCell ⟨MOB, 0, none⟩ (.slice (some ⟨g, 0, none⟩) (p.1.length + 1) cap)).heap[NB]? = w.heap[NB]? := (af _ _ _ _ (fun e => hn.noTy 27 (by have e' : NB = MOB := e; rw [e']; exact ⟨_, _, h1⟩))).trans ((hg.block NB (Nat.lt_of_lt_of_le hn.lt ha.size) (fun e => (hn.below ha).noTy _ (aZ h2a e.symm))).trans (ha.block _ hn.lt))
 have hon : OnS (fun k => B ≤ k) w (w9.setCell ⟨MOB, 0, none⟩ (.slice (some ⟨g, 0, none⟩) (p.1.length + 1) cap)) := ((OnS.of_below ha).trans (OnS.of_grown hg fun k hk => (aH h2a hk).1)).set ho.bb 0 _
 have hb : Below B w (w9.setCell ⟨MOB, 0, none⟩ (.slice (some ⟨g, 0, none⟩) (p.1.length + 1) cap)) := ⟨hon.os, hon.tape, hon.output, hon.size, fun i hi => hon.block i (Nat.lt_of_lt_of_le hi ho.le) (fun q => by omega)⟩
 exact ⟨ho.old.trans hb, ho.sg.below hb ho.sb, ho.sb, ho.fn.keep (Stays.of_lt hb), Nat.le_trans ho.le hb.size, (hks _ _ (by decide) ⟨_, _, ho.pb⟩).trans ho.pb, ((af _ _ _ _ (fun e => ho.bm e)).trans (hk _ _ (by decide) ⟨_, _, ho.rb⟩)).trans ho.rb, ho.bm, ho.bb, ho.tx.keep (hks.mono fun t q => by rcases q with rfl | rfl | rfl <;> decide) hmap, CdsAt.push h1 h3 hd hk ho9⟩
end
def mY (m : Mdl) : Prop := big m.codes.length ∧ (∀ c, c ∈ m.codes → big c.name.size ∧ big c.params.length ∧ big c.ins.length ∧ i64 c.result ∧ i64 c.slots ∧ (∀ t, t ∈ c.params → i64 t) ∧ ∀ x, x ∈ c.ins → i64 x.op ∧ i64 x.a) ∧ big m.texts.length ∧ ∀ t, t ∈ m.texts → big t.length
theorem jL {α : Type} {P : α → Prop} {l : List α} {d : α} (h : ∀ x, x ∈ l → P x) (hd : P d) (i : Nat) : P (l.getD i d) := by
 by_cases hi : i < l.length
 ·exact h _ (dd d hi)
 ·rw [List.getD_eq_getElem?_getD, List.getElem?_eq_none (by omega)]
  exact hd
theorem qR {B : Nat} {w : World} {pv : Value} {l : List Int} (h : w.ownsRow B 32 1 pv l.length (jK l)) (hb : big l.length) (h6 : ∀ t, t ∈ l → i64 t) : RepTys w pv l := by
 obtain ⟨s0, cap, rfl, h1, h2, h3, h4⟩ := aY h
 refine ⟨s0, cap, rfl, hb, h1, h2, h3, fun h0 => ?_, jL h6 (by constructor <;> decide)⟩
 obtain ⟨g, rfl, _, hg, hc⟩ := h4 h0
 refine ⟨g, 0, rfl, hg, fun i hi => ?_⟩
 show w.cell? ⟨g, 0 + i, none⟩ = some (.int .i64 (l.getD i 0))
 rw [Nat.zero_add]
 refine hc i _ ?_
 rw [jK, List.getElem?_map, List.getElem?_eq_getElem hi, List.getD_eq_getElem?_getD, List.getElem?_eq_getElem hi]
 rfl
theorem p5 {B : Nat} {w : World} {iv : Value} {l : List Ins} (h : w.ownsRow B 38 2 iv l.length (dU l)) (hb : big l.length) (h6 : ∀ x, x ∈ l → i64 x.op ∧ i64 x.a) : RepIns w iv l := by
 obtain ⟨s0, cap, rfl, h1, h2, h3, h4⟩ := aY h
 refine ⟨s0, cap, rfl, hb, h1, h2, h3, fun h0 => ?_, jL h6 ⟨by constructor <;> decide, by constructor <;> decide⟩⟩
 obtain ⟨g, rfl, _, hg, hc⟩ := h4 h0
 refine ⟨g, 0, rfl, hg, fun i hi => ?_⟩
 rw [Nat.zero_add]
 exact ⟨hc _ _ (i3 l i hi).1, hc _ _ (i3 l i hi).2⟩
theorem oE {B : Nat} {w : World} {v : Value} {t : ByteArray} (h : ByAt B w v t) (hb : big (cI t).length) : RepBytes w v (cI t) := by
 obtain ⟨b, cap, rfl, ⟨h1, h2⟩, _, ho, hc⟩ := h
 have hl : (cI t).length = t.size := by unfold cI; rw [List.length_map, ByteArray.toList_eq]; rfl
 have hg : ∀ i, i < t.size → (cI t).getD i 0 = ((t.data.toList.getD i 0).toNat : Int) := fun i hi => by
  have hi2 : i < t.data.toList.length := hi
  unfold cI
  rw [ByteArray.toList_eq, List.getD_eq_getElem?_getD, List.getElem?_map, List.getD_eq_getElem?_getD, List.getElem?_eq_getElem hi2]
  rfl
 have hm : t.size ≤ maxLen := by unfold big at hb; unfold maxLen; omega
 refine ⟨some ⟨b, 0, none⟩, cap, by rw [hl], hb, by rw [hl]; exact h1, h2 hm, fun e => (by cases e), fun h0 => ⟨b, 0, rfl, ho.lt, fun i hi => ?_⟩, jL (P := fun x => 0 ≤ x ∧ x ≤ 255) (fun x hx => ?_) (by decide)⟩
 ·rw [hl] at hi
  rw [Nat.zero_add, hc i hi, hg i hi]
 ·unfold cI at hx
  obtain ⟨y, _, rfl⟩ := List.mem_map.1 hx
  have := y.toNat_lt
  omega
theorem qc {B : Nat} {w : World} {cv tv : Value} {l : List Cd} {T : List ByteArray} {cs : Nat → List Value} {vs : List Value} (h2 : w.ownsRow B 35 5 cv l.length (cV cs l.length)) (h3 : ∀ i, i < l.length → CdDone B w (cs i) (l.getD i default)) (g2 : w.ownsRow B 22 1 tv T.length vs) (g3 : ∀ i, i < T.length → ∃ v, vs[i]? = some v ∧ ByAt B w v (T.getD i default)) (hf : mY ⟨l, T.map cI⟩) : RepMdl w (.agg #[cv, tv]) ⟨l, T.map cI⟩ := by
 obtain ⟨f1, f2, f3, f4⟩ := hf
 refine ⟨cv, tv, rfl, ?_, ?_⟩
 ·obtain ⟨s0, cap, rfl, k1, k2, k3, k4⟩ := aY h2
  have hlen : ∀ i, i < l.length → (cs i).length = 5 := fun i hi => (h3 i hi).len
  refine ⟨s0, cap, fun i => (cs i).getD 0 (.int .i64 0), fun i => (cs i).getD 1 (.int .i64 0), fun i => (cs i).getD 2 (.int .i64 0), fun i => (cs i).getD 3 (.int .i64 0), fun i => (cs i).getD 4 (.int .i64 0), rfl, f1, k1, k2, k3, fun h0 => ?_, fun i hi => ?_⟩
  ·obtain ⟨g, rfl, _, hg, hc⟩ := k4 h0
   refine ⟨g, 0, rfl, hg, fun i hi => ?_⟩
   have key : ∀ j, j < 5 → w.cell? ⟨g, 0 + i * 5 + j, none⟩ = some ((cs i).getD j (.int .i64 0)) := fun j hj => by
    rw [Nat.zero_add]
    refine hc _ _ ?_
    rw [lA hlen hi hj, List.getD_eq_getElem?_getD, List.getElem?_eq_getElem (by rw [hlen i hi]; exact hj)]
    rfl
   exact ⟨key 0 (by decide), key 1 (by decide), key 2 (by decide), key 3 (by decide), key 4 (by decide)⟩
  ·obtain ⟨pv, iv, e, q1, q2⟩ := h3 i hi
   obtain ⟨r1, r2, r3, r4, r5, r6, r7⟩ := f2 _ (dd default hi)
   dsimp only
   rw [e]
   exact ⟨rfl, r1, qR q1 r2 r6, rfl, rfl, p5 q2 r3 r7, r4, r5⟩
 ·obtain ⟨s0, cap, rfl, k1, k2, k3, k4⟩ := aY g2
  have hvl : vs.length = T.length := by have := g2.1; omega
  have hTl : (T.map cI).length = T.length := List.length_map ..
  refine ⟨s0, cap, fun i => vs.getD i (.int .i64 0), by rw [hTl], f3, by rw [hTl]; exact k1, k2, k3, fun h0 => ?_, fun i hi => ?_⟩
  ·rw [hTl] at h0
   obtain ⟨g, rfl, _, hg, hc⟩ := k4 h0
   refine ⟨g, 0, rfl, hg, fun i hi => ?_⟩
   rw [hTl] at hi
   show w.cell? ⟨g, 0 + i, none⟩ = some (vs.getD i (.int .i64 0))
   rw [Nat.zero_add]
   obtain ⟨v, e, _⟩ := g3 i hi
   rw [hc i v e, List.getD_eq_getElem?_getD, e]
   rfl
  ·rw [hTl] at hi
   obtain ⟨v, e, q⟩ := g3 i hi
   have e1 : (T.map cI).getD i [] = cI (T.getD i default) := by rw [List.getD_eq_getElem?_getD, List.getElem?_map, List.getD_eq_getElem?_getD, List.getElem?_eq_getElem hi]; rfl
   have e2 : vs.getD i (.int .i64 0) = v := by rw [List.getD_eq_getElem?_getD, e]; rfl
   dsimp only
   rw [e1, e2]
   exact oE q (by rw [← e1]; exact f4 _ (dd _ (by rw [hTl]; exact hi)))
theorem CdDone.stays {B : Nat} {w w' : World} {cs : List Value} {c : Cd} (h : CdDone B w cs c) (hs : Stays (bA B) w w') : CdDone B w' cs c := by
 obtain ⟨pv, iv, rfl, h1, h2⟩ := h
 exact ⟨pv, iv, rfl, bO h1 hs, bO h2 hs⟩
theorem pI {B TB : Nat} {w w1 w' : World} {cv tv : Value} {l : List Cd} {T : List ByteArray} {cs : Nat → List Value} {vs : List Value} (hs : Keeps (fun t => t ≠ 27) w w1) (hst : Stays (bA B) w1 w') (h2 : w.ownsRow B 35 5 cv l.length (cV cs l.length)) (h3 : ∀ i, i < l.length → CdDone B w (cs i) (l.getD i default)) (g2 : w.ownsRow TB 22 1 tv T.length vs) (g3 : ∀ i, i < T.length → ∃ v, vs[i]? = some v ∧ ByAt TB w v (T.getD i default)) (hB : B ≤ TB) (hf : mY ⟨l, T.map cI⟩) : RepMdl w' (.agg #[cv, tv]) ⟨l, T.map cI⟩ :=
 qc (B := B) (bO (ba h2 fun k q => hs _ _ (by decide) (aZ h2 q)) hst) (fun i hi => ((h3 i hi).keep (hs.mono fun t q => by rcases q with rfl | rfl <;> decide)).stays hst) (bO (jz (ba g2 fun k q => hs _ _ (by decide) (aZ g2 q)) hB) hst) (fun i hi => by
   obtain ⟨v, q1, b, cap, q2, q3, q4, q5, q6⟩ := g3 i hi
   have e1 := hs b _ (by decide) q5
   have q7 := q5.keep e1
   have hBb : B ≤ b := Nat.le_trans hB q4
   have e := (hst.block b hBb q7.lt).trans e1
   exact ⟨v, q1, b, cap, q2, q3, hBb, q5.keep e, fun j hj => (World.cell?_of_block (w := w) e).trans (q6 j hj)⟩) hf
theorem pi : ∃ i, Tryz.prog.info? 35 = some i ∧ i.zero = some (.agg #[.string ⟨#[]⟩, .slice none 0 0, .int .i64 0, .int .i64 0, .slice none 0 0]) ∧ i.size = 5 ∧ i.bytes = 80 := by
 have h : (Tryz.prog.info? 35).map (fun i => (i.zero, i.size, i.bytes)) = some (some (.agg #[.string ⟨#[]⟩, .slice none 0 0, .int .i64 0, .int .i64 0, .slice none 0 0]), 5, 80) := by kernel_rfl
 obtain ⟨i, h1, h2⟩ := Option.map_eq_some_iff.1 h
 simp only [Prod.mk.injEq] at h2
 exact ⟨i, h1, h2.1, h2.2.1, h2.2.2⟩
section
variable {B M MB TB NB FB CB IB PB RB MOB : Nat} {fv : Value} {F : List Fn} {w0 W w w' w9 : World} {p : List Cd × List ByteArray}
theorem oq (h : OutW B PB RB MOB TB NB fv F w0 W p) (fa : Array Value) (f : Fn) : ParW B W.heap.size (W.heap.size + 1) TB NB W.heap.size (W.heap.size + 2) (W.heap.size + 3) fv F w0 W ((((W.alloc (.cells fa 48)).alloc (.cells #[.pointer (some ⟨TB, 0, none⟩), fv, .slice none 0 0, .int .i64 0] 73)).alloc (.cells #[.string f.name, .slice none 0 0, .int .i64 f.result, .int .i64 0, .slice none 0 0] 35)).alloc (.map #[] 0)) f fa ⟨[], 0, p.2⟩ [] [] := by
 have hb : Below W.heap.size W ((((W.alloc (.cells fa 48)).alloc (.cells #[.pointer (some ⟨TB, 0, none⟩), fv, .slice none 0 0, .int .i64 0] 73)).alloc (.cells #[.string f.name, .slice none 0 0, .int .i64 f.result, .int .i64 0, .slice none 0 0] 35)).alloc (.map #[] 0)) := ae (ae (ae (ae (Below.refl _ _) _) _) _) _
 have hB := hb.mono h.le
 have hn := h.tx.n.lt
 refine ⟨⟨h.old.trans hB, (h.tx.keep (Keeps.below hb) (hb.block _ hn)).mk' (au _ _ _ _ (au _ _ _ _ (ah _ _ _ (ag _ _)))) h.le (Nat.le_succ _), h.sg.below hB h.sb, h.sb, h.fn.keep (Stays.of_lt hB), Nat.le_trans h.le hb.size⟩, ⟨#[], 0, ah _ _ _ (by rw [ag, ag, ag]), rfl⟩, au _ _ _ _ (au _ _ _ _ (au _ _ _ _ (ah _ _ _ rfl))), ⟨_, au _ _ _ _ (ah _ _ _ (by rw [ag, ag])), fC⟩, Fx.of_below hb, rfl, by omega, by omega, by omega⟩
theorem nM (hr : RepFns (fun b => b < w0.heap.size) w0 fv F) (hs : Signs w0) (hb : Below w0.heap.size w0 W) (hp : W.heap[PB]? = some (.cells #[fv] 42 (0, 0))) (hrb : W.heap[RB]? = some (.cells #[.slice none 0 0, .slice none 0 0] 27 (0, 0))) : OutW w0.heap.size PB RB W.heap.size (W.heap.size + 2) (W.heap.size + 1) fv F w0 (((W.alloc (.cells #[.slice none 0 0, .slice none 0 0] 27)).alloc (.map #[] 0)).alloc (.cells #[.slice none 0 0, .map (some (W.heap.size + 1))] 70)) ([], []) := by
 have h1 : Below W.heap.size W (((W.alloc (.cells #[.slice none 0 0, .slice none 0 0] 27)).alloc (.map #[] 0)).alloc (.cells #[.slice none 0 0, .map (some (W.heap.size + 1))] 70)) := ae (ae (ae (Below.refl _ _) _) _) _
 have h2 := hb.trans (h1.mono hb.size)
 exact ⟨h2, hs.below h2 hs.lt, hs.lt, hr.keep (Stays.of_lt h2), h2.size, (h1.block _ (ad hp)).trans hp, (h1.block _ (ad hrb)).trans hrb, (by have := ad hrb; omega), hb.size, ⟨Nat.le_trans hb.size (by omega), Nat.le_trans hb.size (by omega), ⟨_, [], ah _ _ _ (by rw [ag, ag]), fC, fun i hi => absurd hi (by simp)⟩, ⟨#[], 0, au _ _ _ _ (ah _ _ _ (ag _ _)), rfl⟩⟩, ⟨_, fun _ => [], au _ _ _ _ (au _ _ _ _ (ah _ _ _ rfl)), fC, fun i hi => absurd hi (by simp)⟩⟩
end
theorem iO (F : List Fn) (f : Fn) (T : List ByteArray) : (cz F f T).2.length ≤ T.length + szF f := by
 unfold cz
 dsimp only
 have q := bv F f.body (aC f.params ([], 0)).1 ⟨[], (aC f.params ([], 0)).2, T⟩
 obtain ⟨_, _, _, h, _, _⟩ := q
 dsimp only at h
 unfold szF
 split
 ·show (aI F f.body _).2.texts.length ≤ _; omega
 ·omega
theorem fl (F : List Fn) : ∀ (l : List Fn) (p : List Cd × List ByteArray), (a8 F l p).2.length ≤ p.2.length + du l
 | [], p => by rw [a8]; exact Nat.le_add_right ..
 | x :: l, p => by
  rw [a8, du]
  have h1 := fl F l (p.1 ++ [(cz F x p.2).1], (cz F x p.2).2)
  have h2 := iO F x p.2
  dsimp only at h1
  omega
theorem j6 : ∀ (l : List Fn) (i : Nat), i < l.length → du (l.take i) + szF (l.getD i default) ≤ du l
 | x :: l, 0, _ => by rw [List.take_zero, du, du]; show 0 + szF x ≤ _; omega
 | x :: l, i + 1, h => by
  have := j6 l i (by simpa using h)
  rw [List.take_succ_cons, du, du]
  show szF x + du (l.take i) + szF (l.getD i default) ≤ _
  omega
theorem mV {S : Nat → Prop} {w : World} {f : Fn} {s1 s2 : Option Addr} {c1 c2 : Nat} (h : RepFn S w [.string f.name, .slice s1 f.params.length c1, .int .i64 f.result, .slice s2 f.body.length c2, .int .i64 f.pos] f) : RepPas S w (.slice s1 f.params.length c1) f.params ∧ RepSts S w (.slice s2 f.body.length c2) f.body := by
 obtain ⟨vp, vb, e, h1, h2⟩ := h
 simp only [List.cons.injEq, true_and, and_true] at e
 obtain ⟨e1, e2⟩ := e
 rw [← e1] at h1
 rw [← e2] at h2
 exact ⟨h1, h2⟩
theorem OutW.drew {B PB RB MOB TB NB : Nat} {fv : Value} {F : List Fn} {w0 w : World} {p : List Cd × List ByteArray} (h : OutW B PB RB MOB TB NB fv F w0 w p) : OutW B PB RB MOB TB NB fv F w0 w.drew p :=
 ⟨h.old.trans ((av (Below.refl w.heap.size w)).mono h.le), h.sg, h.sb, h.fn.keep (Stays.of_lt ((av (Below.refl w.heap.size w)).mono h.le)), h.le, h.pb, h.rb, h.bm, h.bb, h.tx.keep (fun _ _ _ _ => rfl) rfl, h.cd.keep (fun _ _ _ _ => rfl)⟩
theorem j8 {B PB RB MOB TB NB CB : Nat} {fv : Value} {F : List Fn} {w0 w : World} {p : List Cd × List ByteArray} {o : Obj} {cs : List Value} {c : Cd} (h : OutW B PB RB MOB TB NB fv F w0 w p ∧ w.heap[CB]? = some o ∧ CdDone B w cs c) : OutW B PB RB MOB TB NB fv F w0 w.drew p ∧ w.drew.heap[CB]? = some o ∧ CdDone B w.drew cs c := ⟨h.1.drew, h.2.1, h.2.2.keep (fun _ _ _ _ => rfl)⟩
theorem pu (F : List Fn) (f : Fn) (T : List ByteArray) (sb : CS) (h : sb = (aI F f.body ((aC f.params ([], 0)).1, ⟨[], (f.params.length : Int), T⟩)).2) (sf : CS) (hs : sf = if f.result = 0 then aq 18 0 sb else sb) : cz F f T = (⟨f.name, f.params.map (·.2), f.result, sf.slots, sf.ins⟩, sf.texts) := by
 have e : (aC f.params ([], 0)).2 = (f.params.length : Int) := by rw [gb]; simp
 unfold cz
 dsimp only
 rw [e, ← h, ← hs]
def d9 (l : List Fn) (w : World) (e : Ending) (w' : World) : Prop :=
 (match dB l with
   | .error er => e = .returned (.tuple #[.agg #[.slice none 0 0, .slice none 0 0], .int .i64 er])
   | .ok m => ∃ v, e = .returned (.tuple #[v, .int .i64 0]) ∧ ∀ w2, Stays (bA w.heap.size) w' w2 → RepMdl w2 v m) ∧ Below w.heap.size w w'
end
end Go.Proofs.YtjblihabklemfaaGreatDoor
