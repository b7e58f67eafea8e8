/-
  Compile: part 57 of its proof: see the last text.
-/
import Derived.Test.YtjblihabklemfaaGreatDoorPm56
import Derived.Test.YtjblihabklemfaaGreatDoorPm50
import Derived.Test.YtjblihabklemfaaGreatDoorPm47
set_option maxRecDepth 100000
set_option maxHeartbeats 16000000
namespace Go.Proofs.YtjblihabklemfaaGreatDoor
section
open Go.RowKit
structure PlW (w W : World) (PB QB : Nat) (pv v : Value) (acc : List Fn) : Prop where
 b : Below w.heap.size w W
 p : W.heap[PB]? = some (.cells #[pv] 42 (0, 0))
 q : W.heap[QB]? = some (.cells #[v] 42 (0, 0))
 le : w.heap.size ≤ PB
 lt : PB < QB
 gr : ∃ cs, W.ownsRow (QB + 1) 48 5 v acc.length (cV cs acc.length) ∧ ∀ i, i < acc.length → (cs i).length = 5 ∧ RepFn (fun b => b ≠ QB ∧ v.ownBlock ≠ some b) W (cs i) (acc.getD i default)
section
variable {w W W' : World} {PB QB : Nat} {pv v : Value} {acc : List Fn}
theorem PlW.form (h : PlW w W PB QB pv v acc) : ∃ s c, v = .slice s acc.length c := by
 obtain ⟨cs, ho, _⟩ := h.gr
 obtain ⟨s0, cap, h1, _⟩ := aY ho
 exact ⟨s0, cap, h1⟩
theorem PlW.below (h : PlW w W PB QB pv v acc) (hb : Below W.heap.size W W') : PlW w W' PB QB pv v acc := by
 obtain ⟨cs, h1, h2⟩ := h.gr
 exact ⟨h.b.trans (hb.mono h.b.size), (hb.block _ (ad h.p)).trans h.p, (hb.block _ (ad h.q)).trans h.q, h.le, h.lt, cs, bO h1 (Stays.of_below hb), fun i hi => ⟨(h2 i hi).1, (h2 i hi).2.keep (Stays.of_below hb)⟩⟩
theorem PlW.row (h : PlW w W PB QB pv v acc) : RepFns Any W v acc := by
 obtain ⟨cs, h1, h2⟩ := h.gr
 obtain ⟨s0, cap, rfl, hle, hm, hn, hc⟩ := aY h1
 refine ⟨cs, ⟨s0, cap, rfl, hle, hm, hn, fun h0 => ?_, fun i hi => (h2 i hi).1⟩, fun i hi => (h2 i hi).2.mono (fun _ _ => trivial)⟩
 obtain ⟨g, e, hg, hl, hcell⟩ := hc h0
 refine ⟨g, 0, e, trivial, hl, fun i hi j hj => ?_⟩
 have hget := lA (fun i hi => (h2 i hi).1) hi hj
 have hlen := (h2 i hi).1
 rw [Nat.zero_add, hcell (i * 5 + j) ((cs i)[j]'(by omega)) (by rw [hget]; exact List.getElem?_eq_getElem _), List.getElem?_eq_getElem (by omega)]
theorem PlW.q9 {W9 : World} (h : PlW w W PB QB pv v acc) (hg : W.grownBy W9 v.ownBlock) : W9.heap[QB]? = some (.cells #[v] 42 (0, 0)) :=
 (hg.block _ (ad h.q) (fun e => by
   obtain ⟨cs', ho, _⟩ := h.gr
   have := (aH ho e.symm).1
   omega)).trans h.q
theorem PlW.push {W9 : World} {g cap' : Nat} {new : List Value} {y : Fn} {cs : Nat → List Value} (h : PlW w W PB QB pv v acc) (hit : ∀ i, i < acc.length → (cs i).length = 5 ∧ RepFn (fun b => b ≠ QB ∧ v.ownBlock ≠ some b) W (cs i) (acc.getD i default)) (hn : new.length = 5) (hy : RepFn (fun b => b ≠ QB ∧ v.ownBlock ≠ some b) W new y)
    (hg : W.grownBy W9 v.ownBlock) (hgl : v.ownBlock = some g ∨ g = W.heap.size) (hown : W9.ownsRow (QB + 1) 48 5 (.slice (some ⟨g, 0, none⟩) (acc.length + 1) cap') (acc.length + 1) (cV cs acc.length ++ new)) :
    PlW w (W9.setCell ⟨QB, 0, none⟩ (.slice (some ⟨g, 0, none⟩) (acc.length + 1) cap')) PB QB pv (.slice (some ⟨g, 0, none⟩) (acc.length + 1) cap') (acc ++ [y]) := by
 have hlow : ∀ b, v.ownBlock = some b → QB + 1 ≤ b := fun b hb => by
  obtain ⟨cs', ho, _⟩ := h.gr
  exact (aH ho hb).1
 have hgq : QB + 1 ≤ g := by
  rcases hgl with e | e
  ·exact hlow g e
  ·rw [e]; exact ad h.q
 have hk : ∀ (c : List Value) (x : Fn), RepFn (fun b => b ≠ QB ∧ v.ownBlock ≠ some b) W c x → RepFn (fun b => b ≠ QB ∧ (Value.slice (some ⟨g, 0, none⟩) (acc.length + 1) cap').ownBlock ≠ some b) (W9.setCell ⟨QB, 0, none⟩ (.slice (some ⟨g, 0, none⟩) (acc.length + 1) cap')) c x := fun c x hx => by
  have h1 : RepFn (fun b => (b ≠ QB ∧ v.ownBlock ≠ some b) ∧ b < W.heap.size) W c x := hx.lies
  have h2 := h1.keep (w' := W9.setCell ⟨QB, 0, none⟩ (.slice (some ⟨g, 0, none⟩) (acc.length + 1) cap')) ⟨by rw [ax]; exact hg.size, fun b hb hl => (af _ _ _ _ hb.1.1).trans (hg.block b hl (fun e => hb.1.2 e.symm))⟩
  refine h2.mono (fun b hb => ⟨hb.1.1, fun e => ?_⟩)
  injection e with e
  have e' : g = b := e
  subst e'
  rcases hgl with q | q
  ·exact hb.1.2 q
  ·have := hb.2; omega
 have hlp := h.lt
 have hle := h.le
 refine ⟨(h.b.grown hg h.b.size (fun k e => by have := hlow k e; omega)).setCell (p := ⟨QB, 0, none⟩) (by show w.heap.size ≤ QB; omega) _, ?_, ?_, h.le, h.lt, fun i => if i < acc.length then cs i else new, ?_, ?_⟩
 ·exact (af _ _ _ _ (by show PB ≠ QB; omega)).trans ((hg.block _ (ad h.p) (fun e => by have := hlow _ e.symm; omega)).trans h.p)
 ·exact ai (h.q9 hg) 0 _
 ·rw [List.length_append, show [y].length = 1 from rfl, ki]
  exact sw hown (Nat.lt_succ_self _)
 ·intro i hi
  by_cases e : i < acc.length
  ·dsimp only
   rw [if_pos e, fq _ _ _ e]
   exact ⟨(hit i e).1, hk _ _ (hit i e).2⟩
  ·have hi2 : i < acc.length + 1 := by simpa using hi
   obtain rfl : i = acc.length := by omega
   dsimp only
   rw [if_neg e, ff]
   exact ⟨hn, hk _ _ hy⟩
end
def wS (bz : ByteArray) (p : ByteArray × Int) : ByteArray × Int := (p.1 ++ bz, p.2)
structure PaW4 (w1 W : World) (v : Value) (acc : List (ByteArray × Int)) (fbk : Nat) (o : Obj) : Prop where
 b : Below w1.heap.size w1 W
 x : W.heap[fbk]? = some o
 lt : fbk < w1.heap.size
 gr : GrowOf rD w1.heap.size 50 2 W v acc
section
variable {w1 W W' : World} {v : Value} {acc : List (ByteArray × Int)} {fbk : Nat} {o : Obj}
theorem PaW4.form (h : PaW4 w1 W v acc fbk o) : ∃ s c, v = .slice s acc.length c := by
 obtain ⟨cs, ho, _⟩ := h.gr
 obtain ⟨s0, cap, h1, _⟩ := aY ho
 exact ⟨s0, cap, h1⟩
theorem PaW4.below (h : PaW4 w1 W v acc fbk o) (hb : Below W.heap.size W W') : PaW4 w1 W' v acc fbk o := ⟨h.b.trans (hb.mono h.b.size), (hb.block _ (ad h.x)).trans h.x, h.lt, h.gr.keep (Stays.of_below hb)⟩
theorem PaW4.push {W9 : World} {g cap' : Nat} {new : List Value} {y : ByteArray × Int} {cs : Nat → List Value} (h : PaW4 w1 W v acc fbk o) (hit : Items rD w1.heap.size 2 W v acc cs) (hn : new.length = 2) (hy : kO (fun b => w1.heap.size ≤ b ∧ v.ownBlock ≠ some b) W new y)
    (hg : W.grownBy W9 v.ownBlock) (hgl : v.ownBlock = some g ∨ g = W.heap.size) (hown : W9.ownsRow w1.heap.size 50 2 (.slice (some ⟨g, 0, none⟩) (acc.length + 1) cap') (acc.length + 1) (cV cs acc.length ++ new)) :
    PaW4 w1 W9 (.slice (some ⟨g, 0, none⟩) (acc.length + 1) cap') (acc ++ [y]) fbk o := by
 have hlow : ∀ b, v.ownBlock = some b → w1.heap.size ≤ b := fun b hb => by
  obtain ⟨cs', ho, _⟩ := h.gr
  exact (aH ho hb).1
 exact ⟨h.b.grown hg h.b.size hlow, (hg.block _ (ad h.x) (fun e => by have := hlow _ e.symm; have := h.lt; omega)).trans h.x, h.lt, GrowOf.push hit hn hy hg hgl hown⟩
end
def erR (R : Except Int Mdl) : Int := match R with | .error er => er | .ok _ => 0
def mdR (R : Except Int Mdl) : Mdl := match R with | .error _ => ⟨[], []⟩ | .ok m => m
theorem xw (w : World) : RepMdl w (.agg #[.slice none 0 0, .slice none 0 0]) ⟨[], []⟩ :=
 ⟨_, _, rfl, ⟨none, 0, fun _ => undef, fun _ => undef, fun _ => undef, fun _ => undef, fun _ => undef, rfl, by unfold big; exact Nat.zero_le _, Nat.le_refl _, by unfold lv; exact Nat.zero_le _, fun _ => rfl, fun h => absurd h (Nat.lt_irrefl 0), fun i h => absurd h (Nat.not_lt_zero i)⟩,
   ⟨none, 0, fun _ => undef, rfl, by unfold big; exact Nat.zero_le _, Nat.le_refl _, by unfold lv; exact Nat.zero_le _, fun _ => rfl, fun h => absurd h (Nat.lt_irrefl 0), fun i h => absurd h (Nat.not_lt_zero i)⟩⟩
theorem wC {l : List Fn} {w : World} {e : Ending} {w' : World} (h : d9 l w e w') : (∃ a n c b m d, e = .returned (.tuple #[.agg #[.slice a n c, .slice b m d], .int .i64 (erR (dB l))]) ∧ ∀ w2, Below w'.heap.size w' w2 → RepMdl w2 (.agg #[.slice a n c, .slice b m d]) (mdR (dB l))) ∧ Below w.heap.size w w' := by
 unfold d9 at h
 obtain ⟨h1, h2⟩ := h
 refine ⟨?_, h2⟩
 cases hk : dB l with
 | error er =>
  rw [hk] at h1
  exact ⟨none, 0, 0, none, 0, 0, h1, fun w2 _ => xw w2⟩
 | ok m =>
  rw [hk] at h1
  obtain ⟨v, he, hr⟩ := h1
  obtain ⟨v0, v1, rfl, ⟨a0, n0, _, _, _, _, _, rfl, _⟩, ⟨a1, n1, _, rfl, _⟩⟩ := hr w' (Stays.refl _ _)
  exact ⟨_, _, _, _, _, _, he, fun w2 hw => hr w2 (Stays.of_below hw)⟩
mutual
theorem xh (bz : ByteArray) : ∀ x : Ex, szE (vU bz x) = szE x
 | .mk op num text ks pos => by rw [vU, szE, szE, wn bz ks]
theorem wn (bz : ByteArray) : ∀ l : List Ex, aN (vS bz l) = aN l
 | [] => by rw [vS]
 | x :: l => by rw [vS, aN, aN, xh bz x, wn bz l]
end
mutual
theorem xu (bz : ByteArray) : ∀ x : St, szS (vW bz x) = szS x
 | .mk op text es body els pos => by rw [vW, szS, szS, wn bz es, wc bz body, wc bz els]
theorem wc (bz : ByteArray) : ∀ l : List St, bC (vR bz l) = bC l
 | [] => by rw [vR]
 | x :: l => by rw [vR, bC, bC, xu bz x, wc bz l]
end
theorem wH (bz : ByteArray) : ∀ l : List Fn, du (l.map (vT bz)) = du l
 | [] => rfl
 | f :: l => by
  rw [List.map_cons, du, du, wH bz l]
  have h1 : szF (vT bz f) = szF f := by
   unfold szF vT
   dsimp only
   rw [List.length_map, wc bz f.body]
  rw [h1]
theorem wE (s0 : Option Addr) (cap : Nat) (s : List UInt8) (bz : ByteArray) (w : World) (hs : SrcAt w s0 s) (hl : s.length ≤ 1152921504606846976) (hc : s.length ≤ cap) (hsig : Signs w) :
    Calls Tryz.prog 4 #[.slice s0 s.length cap, .string bz] w fun e w' => e = .returned (.bool true) ∧ Below w.heap.size w w' := by
 have HH := zh (pF w hsig)
 have HSG := zh hsig
 have HFR : Hid (∀ W, Below w.heap.size w W → Calls Tryz.prog 9 #[.slice s0 s.length cap] W (iw W (cW s))) := zh (fun W hW => kk s0 cap s W (hs.later hW) hl hc)
 have HNN : Hid (∀ er p, cW s = .error (er, p) → er ≠ 0) := zh (fun er p h => vn h)
 have HGD : Hid (∀ l, cW s = .ok l → du l ≤ 2048 ∧ ft l ∧ (bw l).1 = 0) := zh (fun l h => jI h)
 clear hs hsig
 generalize cW s = R at *
 go_enter Tryz.func4, Tryz.ntmps4
 go_wp2_with fail
 refine HH.out.mono ?_
 rintro e w1 ⟨rfl, hb⟩
 have HB := zh hb
 clear hb HH
 go_wp2_with fail
 refine (HFR.out w1 HB.out).mono ?_
 rintro e w2 ⟨hres, hb⟩
 replace HB := zh (HB.out.trans (hb.mono HB.out.size))
 clear hb HFR
 cases R with
 | error q =>
  obtain ⟨er, pos⟩ := q
  obtain ⟨hne, rfl⟩ := hres
  have hne2 : (er != 0) = true := bne_iff_ne.2 hne
  clear hne HNN HGD
  go_wp2_with fail
  go_ret
  exact ⟨rfl, HB.out.trans ((ae (Below.refl _ _) _).mono HB.out.size)⟩
 | ok l =>
  clear HNN
  obtain ⟨g1, g2, g3⟩ := HGD.out l rfl
  have HG := zh (And.intro g1 (And.intro g2 g3))
  have HLN := zh (dF g3).1
  clear g1 g2 g3 HGD
  obtain ⟨v, rfl, hrep⟩ := hres
  have HREP := zh hrep.low
  obtain ⟨cs, ⟨s1, c1, rfl, _⟩, _⟩ := hrep
  by_cases hby : bz.size ≤ 100
  ·have hbl : bz.size ≤ 9223372036854775807 := by omega
   have HBZ := zh hby
   go_upto_region 3 with fail
   have HST3 : Hid (Below w2.heap.size w2 (w2.alloc (.cells #[.slice s1 l.length c1] 42)) ∧ (w2.alloc (.cells #[.slice s1 l.length c1] 42)).heap[w2.heap.size]? = some (.cells #[.slice s1 l.length c1] 42 (0, 0))) := zh ⟨ae (Below.refl _ _) _, ah _ _ _ rfl⟩
   generalize (w2.alloc (.cells #[.slice s1 l.length c1] 42)) = w3 at *
   go_upto_region 6 with fail
   have HST : Hid (PlW w2 (w3.alloc (.cells #[.slice none 0 0] 42)) w2.heap.size w3.heap.size (.slice s1 l.length c1) (.slice none 0 0) []) := zh ⟨HST3.out.1.alloc HST3.out.1.size _, au _ _ _ _ HST3.out.2, ah _ _ _ rfl, Nat.le_refl _, ad HST3.out.2, fun _ => [], fC, fun i hi => absurd hi (by simp)⟩
   generalize (w3.alloc (.cells #[.slice none 0 0] 42)) = w4 at *
   generalize hQB : w3.heap.size = QB at *
   have HQE := zh hQB
   clear hQB HST3
   have HIP := zh rB
   have HI := zh ru
   have hlen : l.length ≤ 9223372036854775807 := by have := HLN.out; omega
   go_wp2_with fail
   go_loopg [10] l.length (fun g t10 wr => ∃ (acc : List Fn) (v : Value), acc.length + g = l.length ∧ t10 = .int .i64 (acc.length : Int) ∧ acc = (l.take acc.length).map (vT bz) ∧ PlW w2 wr w2.heap.size QB (.slice s1 l.length c1) v acc)
   case atStart => exact ⟨[], _, Nat.zero_add _, rfl, rfl, HST.out⟩
   case round =>
    clear HST
    obtain ⟨wo, hwo⟩ : ∃ x, x = wr := ⟨_, rfl⟩
    subst hwo
    obtain ⟨acc, v, hig, rfl, hacc, hst⟩ := hrel
    have HACC := zh hacc
    have HW := zh hst
    obtain ⟨sv, cv, rfl⟩ := hst.form
    have p0 : wo.cell? ⟨w2.heap.size, 0, none⟩ = some (.slice s1 l.length c1) := aa hst.p (j := 0) rfl
    clear hacc hst
    by_cases hlt : acc.length < l.length
    ·obtain ⟨cs, ⟨s9, c9, e9, _, _, _, hrow, _⟩, hit⟩ := HREP.out
     injection e9 with e91 e92 e93
     subst e91
     subst e93
     obtain ⟨b, off, hs0, _, hbl2, hcell⟩ := hrow (by omega)
     subst hs0
     have hrep := hit acc.length hlt
     obtain ⟨nm, s1, n1, d1, rs, s2, n2, c2, pos, hcs⟩ := m9 hrep
     have hc5 : ∀ j, j < 5 → wo.cell? ⟨b, off + acc.length * 5 + j, none⟩ = (cs acc.length)[j]? := fun j hj => (HW.out.b.cell (p := ⟨b, _, none⟩) hbl2).trans (hcell acc.length hlt j hj)
     rw [hcs] at hc5 hrep
     obtain ⟨rfl, rfl, rfl, rfl, rfl⟩ := oN hrep
     have hmem : l.getD acc.length default ∈ l := dd default hlt
     have hsf := m8 HG.out.2.1 _ hmem
     have hsz := kz hmem
     have hsz2 := HG.out.1
     unfold szF at hsz
     have HSM : Hid ((l.getD acc.length default).body.length ≤ 5000 ∧ wm (l.getD acc.length default).body ∧ (l.getD acc.length default).params.length ≤ 5000) := zh ⟨Nat.le_trans (wj _) (by omega), wt _ (by omega) hsf.2.1, by omega⟩
     have HPS := zh hsf.2.2
     have HY9 : Hid (acc ++ [vT bz (l.getD acc.length default)] = (l.take (acc.length + 1)).map (vT bz)) := zh (by rw [← wa (vT bz) default l _ hlt, ← HACC.out])
     generalize hfx : l.getD acc.length default = fx at *
     clear hfx hsz hsz2
     have x0 : wo.cell? ⟨b, off + acc.length * 5, none⟩ = some (.string fx.name) := hc5 0 (by decide)
     have x1 : wo.cell? ⟨b, off + acc.length * 5 + 1, none⟩ = some (.slice s1 fx.params.length d1) := hc5 1 (by decide)
     have x2 : wo.cell? ⟨b, off + acc.length * 5 + 2, none⟩ = some (.int .i64 fx.result) := hc5 2 (by decide)
     have x3 : wo.cell? ⟨b, off + acc.length * 5 + 3, none⟩ = some (.slice s2 fx.body.length c2) := hc5 3 (by decide)
     have x4 : wo.cell? ⟨b, off + acc.length * 5 + 4, none⟩ = some (.int .i64 fx.pos) := hc5 4 (by decide)
     have HRF := zh hrep
     clear hrep hc5 hcs hcell hmem hsf hrow hit
     go_upto_region 11 with fail
     clear p0 x0 x1 x2 x3 x4
     have HFB : Hid ((wo.alloc (.cells #[.string fx.name, .slice s1 fx.params.length d1, .int .i64 fx.result, .slice s2 fx.body.length c2, .int .i64 3] 48)).heap[wo.heap.size]? = some (.cells #[.string fx.name, .slice s1 fx.params.length d1, .int .i64 fx.result, .slice s2 fx.body.length c2, .int .i64 3] 48 (0, 0))) := zh (ah _ _ _ rfl)
     have HB5 : Hid (Below wo.heap.size wo (wo.alloc (.cells #[.string fx.name, .slice s1 fx.params.length d1, .int .i64 fx.result, .slice s2 fx.body.length c2, .int .i64 3] 48))) := zh (ae (Below.refl _ _) _)
     generalize (wo.alloc (.cells #[.string fx.name, .slice s1 fx.params.length d1, .int .i64 fx.result, .slice s2 fx.body.length c2, .int .i64 3] 48)) = w5 at *
     have HW5 : Hid (Below w2.heap.size w2 w5) := zh (HW.out.b.trans (HB5.out.mono HW.out.b.size))
     have hpv : RepPas (fun b => b < w2.heap.size) w2 (.slice s1 fx.params.length d1) fx.params ∧ RepSts (fun b => b < w2.heap.size) w2 (.slice s2 fx.body.length c2) fx.body := by
      obtain ⟨vp, vb, e, h1, h2⟩ := HRF.out
      have e1 := (List.cons.inj (List.cons.inj e).2).1
      have e3 := (List.cons.inj (List.cons.inj (List.cons.inj (List.cons.inj e).2).2).2).1
      subst e1 e3
      exact ⟨h1, h2⟩
     obtain ⟨hpa, hbo⟩ := hpv
     have HBO := zh hbo
     obtain ⟨cp, ⟨sp, kp, ep, _, _, _, hprow, _⟩, hpit⟩ := hpa
     injection ep with ep1 ep2 ep3
     subst ep1
     subst ep3
     have HPR := zh hprow
     have HPI := zh hpit
     clear hbo hprow hpit
     generalize hFB : wo.heap.size = FB at HFB HB5 ⊢
     have HFE := zh hFB
     clear hFB
     have hpl : fx.params.length ≤ 9223372036854775807 := by have := HSM.out.2.2; omega
     go_wp2_with fail
     go_loopg [12, 13] fx.params.length (fun g t12 t13 wr => ∃ xa : List (ByteArray × Int), xa.length + g = fx.params.length ∧ t13 = .int .i64 (xa.length : Int) ∧ xa = (fx.params.take xa.length).map (wS bz) ∧ PaW4 w5 wr t12 xa FB (.cells #[.string fx.name, .slice s1 fx.params.length d1, .int .i64 fx.result, .slice s2 fx.body.length c2, .int .i64 3] 48 (0, 0)))
     case atStart => exact ⟨[], Nat.zero_add _, rfl, rfl, Below.refl _ _, HFB.out, ad HFB.out, GrowOf.nil⟩
     case round =>
      obtain ⟨xa, hxg, rfl, hxa, hsx⟩ := hrel
      have HXA := zh hxa
      have HX := zh hsx
      have y1 : wr.cell? ⟨FB, 1, none⟩ = some (.slice s1 fx.params.length d1) := aa hsx.x (j := 1) rfl
      obtain ⟨sx, cx, rfl⟩ := hsx.form
      clear hxa hsx
      have HWQ : Hid (Below w2.heap.size w2 wr) := zh (HW5.out.trans (HX.out.b.mono HW5.out.size))
      by_cases hxl : xa.length < fx.params.length
      ·obtain ⟨pb, poff, hp0, _, hpbl, hpc⟩ := HPR.out (by omega)
       subst hp0
       have hrp : cp xa.length = [.string (fx.params.getD xa.length default).1, .int .i64 (fx.params.getD xa.length default).2] := HPI.out xa.length hxl
       have z0 : wr.cell? ⟨pb, poff + xa.length * 2, none⟩ = some (.string (fx.params.getD xa.length default).1) := (HWQ.out.cell (p := ⟨pb, _, none⟩) hpbl).trans ((hpc xa.length hxl 0 (by decide)).trans (by rw [hrp]; rfl))
       have z1 : wr.cell? ⟨pb, poff + xa.length * 2 + 1, none⟩ = some (.int .i64 (fx.params.getD xa.length default).2) := (HWQ.out.cell (p := ⟨pb, _, none⟩) hpbl).trans ((hpc xa.length hxl 1 (by decide)).trans (by rw [hrp]; rfl))
       have hps := HPS.out _ (dd default hxl)
       have HY8 : Hid (xa ++ [wS bz (fx.params.getD xa.length default)] = (fx.params.take (xa.length + 1)).map (wS bz)) := zh (by rw [← wa (wS bz) default fx.params _ hxl, ← HXA.out])
       generalize fx.params.getD xa.length default = q at *
       obtain ⟨qn, qt⟩ := q
       dsimp only at z0 z1 hps
       unfold wS at HY8
       have HSTR : Hid (∀ W, (Op.stringOp .add qn bz).run Tryz.prog W = .ok (.string (qn ++ bz)) W) := zh (fun W => run_string_add_sum _ _ _ (by have := HBZ.out; omega))
       clear hpc hrp hps
       go_upto_region 15 with fail
       have hs0 : wr.drew.cell? ⟨FB, 1, none⟩ = some (.slice (some ⟨pb, poff, none⟩) fx.params.length d1) ∧ wr.drew.cell? ⟨pb, poff + xa.length * 2, none⟩ = some (.string qn) ∧ wr.drew.cell? ⟨pb, poff + xa.length * 2 + 1, none⟩ = some (.int .i64 qt) := ⟨y1, z0, z1⟩
       have hstr := HSTR.out
       refine az (S := (fun w' => w'.cell? ⟨FB, 1, none⟩ = some (.slice (some ⟨pb, poff, none⟩) fx.params.length d1) ∧ w'.cell? ⟨pb, poff + xa.length * 2, none⟩ = some (.string qn) ∧ w'.cell? ⟨pb, poff + xa.length * 2 + 1, none⟩ = some (.int .i64 qt))) 17 (by kernel_rfl) (by kernel_rfl) hs0 (fun hHeld => ?_)
       simp only [List.take_succ_cons, List.take_zero, List.drop_succ_cons, List.drop_zero]
       refine tkA 0 ?_
       refine tkA 1 ?_
       refine tkA 2 ?_
       refine tkA 3 ?_
       refine tkA 4 ?_
       refine tkA 5 ?_
       refine tkA 6 ?_
       refine tkA 7 ?_
       refine tkA 8 ?_
       refine tkA 9 ?_
       refine tkA 10 ?_
       refine tkA 11 ?_
       refine tkA 12 ?_
       refine tkA 13 ?_
       refine tkA 14 ?_
       refine tkA 15 ?_
       refine rd1 16 fun K hK => ?_
       go_simp
       refine hK.out _ _ ?_ (fun hHeld2 => ?_)
       ·exact ⟨aj _ y1, aj _ z0, aj _ z1⟩
       clear hK K
       try go_simp
       refine wpAnyH_done (by kernel_rfl) ?_ _
       dsimp only [bT]
       have HB4 := zh (ae (av (Below.refl wr.heap.size wr)) (.cells #[.string (qn ++ bz), .int .i64 qt] 50))
       have HX4 := zh (HX.out.below HB4.out)
       obtain ⟨cs5, hown, hit5⟩ := HX4.out.gr
       have HOWN := zh hown
       have HIT5 := zh hit5
       have HOLD : Hid (∀ b, (Value.slice sx xa.length cx).ownBlock = some b → b < wr.heap.size) := zh (fun b hb => by
         obtain ⟨cs', ho', _⟩ := HX.out.gr
         exact (aH ho' hb).2)
       have HSZ : Hid (w5.heap.size ≤ wr.heap.size) := zh HX.out.b.size
       have HPL := zh HSM.out.2.2
       clear hown hit5 hs0 hHeld hHeld2 y1 z0 z1 hstr
       refine wpList_append_lies _ rfl _ _ _ rfl w5.heap.size 50 HIP.out.choose (.agg #[.string ⟨#[]⟩, .int .i64 0]) 2 24 Tryz.underlying45 HIP.out.choose_spec.1 HIP.out.choose_spec.2.1 HIP.out.choose_spec.2.2.1 HIP.out.choose_spec.2.2.2 rfl (by decide) _ xa.length (cV cs5 xa.length) rfl HOWN.out ⟨wr.heap.size, 0, none⟩ 1 1 [.string (qn ++ bz), .int .i64 qt] rfl rfl (by intro j u hj; rw [Go.WideShapes.add_plain, Nat.zero_add]; exact aw _ _ _ _ _ _ rfl (by simpa using hj)) (by intro u hu; simp at hu; rcases hu with rfl | rfl <;> rfl) (by decide) (by have := HPL.out; unfold maxLen; omega) (by have := HPL.out; omega) HX4.out.b.size _ rfl ?_
       intro g9 cp9 w9 hown9 hgrow9 hgl9 hlt9
       have HPU := zh (HX4.out.push (y := (qn ++ bz, qt)) HIT5.out rfl rfl hgrow9 hgl9 hown9)
       clear hown9 hgrow9 hgl9 hlt9
       go_wp2_with fail
       go_roundg (fx.params.length - xa.length - 1)
       case measure => omega
       case rel => exact ⟨_, by simp; omega, by simp, by rw [List.length_append]; exact HY8.out, HPU.out⟩
      ·have hend : xa.length = fx.params.length := by omega
       have HEX : Hid (xa = fx.params.map (wS bz)) := zh (by have q := HXA.out; rw [hend, List.take_of_length_le (Nat.le_refl _)] at q; exact q)
       have HGP : Hid (RepPas (bA w5.heap.size) wr (.slice sx fx.params.length cx) (fx.params.map (wS bz))) := zh (by have q : RepPas (bA w5.heap.size) wr (.slice sx xa.length cx) xa := HX.out.gr.row; rw [hend] at q; rw [← HEX.out]; exact q)
       have HFQ := zh HX.out.x
       have HFL : Hid (FB < w5.heap.size) := zh HX.out.lt
       have HZ : Hid (w5.heap.size ≤ wr.heap.size) := zh HX.out.b.size
       have HBQ : Hid (Below FB wo wr) := zh (HB5.out.trans (HX.out.b.mono (Nat.le_of_lt HX.out.lt)))
       have f1 : wr.frozen? ⟨FB, 1, none⟩ = false := ab HFQ.out 1
       rw [hend]
       go_upto_region 17 with fail
       have HFN : Hid ((wr.setCell ⟨FB, 1, none⟩ (.slice sx fx.params.length cx)).heap[FB]? = some (.cells #[.string fx.name, .slice sx fx.params.length cx, .int .i64 fx.result, .slice s2 fx.body.length c2, .int .i64 3] 48 (0, 0))) := zh (ai HFQ.out 1 _)
       have HON : Hid (Stays (bA w5.heap.size) wr (wr.setCell ⟨FB, 1, none⟩ (.slice sx fx.params.length cx))) := zh (Stays.of_on ((On.refl FB wr).set 1 (.slice sx fx.params.length cx)) HFL.out)
       have HBN : Hid (Below FB wo (wr.setCell ⟨FB, 1, none⟩ (.slice sx fx.params.length cx))) := zh (HBQ.out.setCell (p := ⟨FB, 1, none⟩) (Nat.le_refl _) _)
       have HZ0 : Hid (w5.heap.size ≤ (wr.setCell ⟨FB, 1, none⟩ (.slice sx fx.params.length cx)).heap.size) := zh (by rw [ax]; exact HZ.out)
       replace HGP := zh (HGP.out.keep HON.out)
       clear HFQ HBQ HON f1 y1 HZ
       generalize (wr.setCell ⟨FB, 1, none⟩ (.slice sx fx.params.length cx)) = w6 at *
       have HWS : Hid (Below w2.heap.size w2 w6) := zh (HW.out.b.trans (HBN.out.mono (by rw [← HFE.out]; exact HW.out.b.size)))
       have y3 : w6.cell? ⟨FB, 3, none⟩ = some (.slice s2 fx.body.length c2) := aa HFN.out (j := 3) rfl
       have HC := zh (wM bz HBZ.out fx.body HSM.out.1 HSM.out.2.1 w6 (.slice s2 fx.body.length c2) ((HBO.out.keep (Stays.of_lt HWS.out)).mono (fun _ _ => trivial)))
       go_wp2_with fail
       refine HC.out.mono ?_
       rintro e w7 ⟨sb, cb, rfl, hrb, hb7⟩
       have HGB : Hid (RepSts (bA w5.heap.size) w7 (.slice sb fx.body.length cb) (vR bz fx.body)) := zh (hrb.mono (fun b hb => Nat.le_trans HZ0.out hb))
       replace HGP := zh (HGP.out.keep (Stays.of_below hb7))
       have HFQ := zh ((hb7.block _ (ad HFN.out)).trans HFN.out)
       have HBQ := zh (HBN.out.trans (hb7.mono (Nat.le_of_lt (ad HFN.out))))
       have HZ : Hid (w5.heap.size ≤ w7.heap.size) := zh (Nat.le_trans HZ0.out hb7.size)
       clear HFN HBN HZ0 y3 hb7 hrb HC HWS
       have f3 : w7.frozen? ⟨FB, 3, none⟩ = false := ab HFQ.out 3
       have y3 : w7.cell? ⟨FB, 3, none⟩ = some (.slice s2 fx.body.length c2) := aa HFQ.out (j := 3) rfl
       go_upto_region 18 with fail
       have HFN : Hid ((w7.setCell ⟨FB, 3, none⟩ (.slice sb fx.body.length cb)).heap[FB]? = some (.cells #[.string fx.name, .slice sx fx.params.length cx, .int .i64 fx.result, .slice sb fx.body.length cb, .int .i64 3] 48 (0, 0))) := zh (ai HFQ.out 3 _)
       have HON : Hid (Stays (bA w5.heap.size) w7 (w7.setCell ⟨FB, 3, none⟩ (.slice sb fx.body.length cb))) := zh (Stays.of_on ((On.refl FB w7).set 3 (.slice sb fx.body.length cb)) HFL.out)
       have HBN : Hid (Below FB wo (w7.setCell ⟨FB, 3, none⟩ (.slice sb fx.body.length cb))) := zh (HBQ.out.setCell (p := ⟨FB, 3, none⟩) (Nat.le_refl _) _)
       replace HGP := zh (HGP.out.keep HON.out)
       replace HGB := zh (HGB.out.keep HON.out)
       clear HFQ HBQ HON f3 y3 HZ
       generalize (w7.setCell ⟨FB, 3, none⟩ (.slice sb fx.body.length cb)) = w8 at *
       have hbn : Below wo.heap.size wo (w8.alloc (.cells #[.string fx.name, .slice sx fx.params.length cx, .int .i64 fx.result, .slice sb fx.body.length cb, .int .i64 3] 48)) := ae (by rw [HFE.out]; exact HBN.out) _
       have HW8 := zh (HW.out.below hbn)
       obtain ⟨cs5, hown, hit5⟩ := HW8.out.gr
       have HOWN := zh hown
       have HIT5 := zh hit5
       have HOLD : Hid (∀ b, (Value.slice sv acc.length cv).ownBlock = some b → QB + 1 ≤ b ∧ b < FB) := zh (fun b hb => by
         obtain ⟨cs', ho', _⟩ := HW.out.gr
         rw [← HFE.out]
         exact aH ho' hb)
       have HQL : Hid (QB < FB) := zh (by rw [← HFE.out]; exact ad HW.out.q)
       have hst9 : Stays (bA w5.heap.size) w8 (w8.alloc (.cells #[.string fx.name, .slice sx fx.params.length cx, .int .i64 fx.result, .slice sb fx.body.length cb, .int .i64 3] 48)) := Stays.of_below (ae (Below.refl _ _) _)
       have HY : Hid (RepFn (fun b => b ≠ QB ∧ (Value.slice sv acc.length cv).ownBlock ≠ some b) (w8.alloc (.cells #[.string fx.name, .slice sx fx.params.length cx, .int .i64 fx.result, .slice sb fx.body.length cb, .int .i64 3] 48)) [.string fx.name, .slice sx fx.params.length cx, .int .i64 fx.result, .slice sb fx.body.length cb, .int .i64 3] (vT bz fx)) := zh (sT (rs := fx.result) (pos := 3) ((HGP.out.keep hst9).mono (fun b (hb : w5.heap.size ≤ b) => ⟨by have := HQL.out; have := HFL.out; omega, fun e => by have := (HOLD.out b e).2; have := HFL.out; omega⟩)) ((HGB.out.keep hst9).mono (fun b (hb : w5.heap.size ≤ b) => ⟨by have := HQL.out; have := HFL.out; omega, fun e => by have := (HOLD.out b e).2; have := HFL.out; omega⟩)))
       have HLE : Hid (QB + 1 ≤ (w8.alloc (.cells #[.string fx.name, .slice sx fx.params.length cx, .int .i64 fx.result, .slice sb fx.body.length cb, .int .i64 3] 48)).heap.size) := zh (Nat.le_trans (Nat.le_trans HQL.out (by rw [← HFE.out]; exact Nat.le_refl _)) hbn.size)
       have q0 : w8.cell? ⟨QB, 0, none⟩ = some (.slice sv acc.length cv) := aa ((HBN.out.block _ HQL.out).trans HW.out.q) (j := 0) rfl
       obtain ⟨y0, y1, y2, y3, y4, -⟩ := css HFN.out
       have HLN2 : Hid (acc.length < 1000) := zh (by have := HLN.out; omega)
       clear hown hit5 hbn hst9
       go_wp2_with (refine wpList_append_lies _ rfl _ _ _ rfl (QB + 1) 48 HI.out.choose _ 5 80 Tryz.underlying40 HI.out.choose_spec.1 HI.out.choose_spec.2.1 HI.out.choose_spec.2.2.1 HI.out.choose_spec.2.2.2 rfl (by decide) _ acc.length (cV cs5 acc.length) rfl HOWN.out ⟨w8.heap.size, 0, none⟩ 1 1 [.string fx.name, .slice sx fx.params.length cx, .int .i64 fx.result, .slice sb fx.body.length cb, .int .i64 3] rfl rfl (by intro j u hj; rw [Go.WideShapes.add_plain, Nat.zero_add]; exact aw _ _ _ _ _ _ rfl (by simpa using hj)) (by intro u hu; simp at hu; rcases hu with rfl | rfl | rfl | rfl | rfl <;> rfl) (by decide) (by have := HLN2.out; unfold maxLen; omega) (by have := HLN2.out; omega) HLE.out _ rfl ?_; intro g9 cp9 w9 hown9 hgrow9 hgl9 hlt9; have HPU := zh (HW8.out.push HIT5.out rfl HY.out hgrow9 hgl9 hown9); have z9 : w9.cell? ⟨QB, 0, none⟩ = some (.slice sv acc.length cv) := aa (HW8.out.q9 hgrow9) (j := 0) rfl; have zf9 : w9.frozen? ⟨QB, 0, none⟩ = false := ab (HW8.out.q9 hgrow9) 0; clear hown9 hgrow9 hgl9 hlt9)
       go_roundg (l.length - acc.length - 1)
       case measure => omega
       case rel => exact ⟨_, _, by simp; omega, by simp, by rw [List.length_append]; exact HY9.out, HPU.out⟩
    ·have hend : acc.length = l.length := by omega
     have HEND : Hid (acc = l.map (vT bz)) := zh (by have q := HACC.out; rw [hend, List.take_of_length_le (Nat.le_refl _)] at q; exact q)
     clear hend
     have HSGW : Hid (∀ W, Below w2.heap.size w2 W → Signs W) := zh (fun W hW => HSG.out.below (HB.out.trans (hW.mono HB.out.size)) HSG.out.lt)
     have HEQ : Hid (dB (l.map (vT bz)) = dB l) := zh (wX bz HG.out.2.2 (fun f hf => wb _ (m8 HG.out.2.1 f hf).2.1))
     have HC1 := zh (gS l (.slice s1 l.length c1) wo (HREP.out.keep (Stays.of_lt HW.out.b)).low (HSGW.out wo HW.out.b) HG.out.1 (fun f hf => Nat.le_trans ((dF HG.out.2.2).2 f hf).2 (by decide)) (fun _ => jl HG.out.1 HG.out.2.1 HG.out.2.2))
     go_wp2_with fail
     refine HC1.out.mono ?_
     rintro e w10 hq
     obtain ⟨⟨ma, mn, mc, mb, mm, md, rfl, hrm⟩, hb10⟩ := wC hq
     have HRM := zh (hrm _ (ae (Below.refl w10.heap.size w10) (.cells #[.slice ma mn mc, .slice mb mm md] 27)))
     have HW10 := zh ((HW.out.below hb10).below (ae (Below.refl w10.heap.size w10) (.cells #[.slice ma mn mc, .slice mb mm md] 27)))
     have HMB := zh (ah w10 (.cells #[.slice ma mn mc, .slice mb mm md] 27) _ rfl)
     clear hq hrm hb10 HC1
     go_upto_region 20 with fail
     generalize (w10.alloc (.cells #[.slice ma mn mc, .slice mb mm md] 27)) = w11 at *
     generalize w10.heap.size = MB at *
     have HRQ : Hid (RepFns Any w11 (.slice sv acc.length cv) (l.map (vT bz))) := zh (by rw [← HEND.out]; exact HW10.out.row)
     have HC2 := zh (gS (l.map (vT bz)) _ w11 HRQ.out.low (HSGW.out w11 HW10.out.b) (by rw [wH]; exact HG.out.1) (fun f hf => by obtain ⟨x, hx, rfl⟩ := List.mem_map.1 hf; show (x.params.map _).length ≤ _; rw [List.length_map]; exact Nat.le_trans ((dF HG.out.2.2).2 x hx).2 (by decide)) (fun _ => by rw [wZ bz HG.out.2.2 (fun f hf => wb _ (m8 HG.out.2.1 f hf).2.1)]; exact jl HG.out.1 HG.out.2.1 HG.out.2.2))
     have q0 : w11.cell? ⟨QB, 0, none⟩ = some (.slice sv acc.length cv) := aa HW10.out.q (j := 0) rfl
     clear p0
     go_wp2_with fail
     ((with_reducible refine HC2.out.mono ?_))
     rintro e w12 hq
     obtain ⟨⟨na, nn, nc, nb, nm, nd, rfl, hrm⟩, hb12⟩ := wC hq
     rw [HEQ.out] at hrm ⊢
     have HRN := zh (hrm _ (ae (Below.refl w12.heap.size w12) (.cells #[.slice na nn nc, .slice nb nm nd] 27)))
     have HB12 := zh hb12
     clear hq hrm hb12 HC2 q0
     generalize erR (dB l) = er at *
     generalize mdR (dB l) = mR at *
     go_upto_region 21 with fail
     have HB13 : Hid (Below w11.heap.size w11 (w12.alloc (.cells #[.slice na nn nc, .slice nb nm nd] 27))) := zh (HB12.out.trans ((ae (Below.refl _ _) _).mono HB12.out.size))
     have HNB := zh (ah w12 (.cells #[.slice na nn nc, .slice nb nm nd] 27) _ rfl)
     generalize (w12.alloc (.cells #[.slice na nn nc, .slice nb nm nd] 27)) = w13 at *
     generalize w12.heap.size = NB at *
     have HSA := zh (vt _ _ mR w13 (HRM.out.later HB13.out) HRN.out)
     obtain ⟨m0, m1, -⟩ := css ((HB13.out.block _ (ad HMB.out)).trans HMB.out)
     obtain ⟨n0, n1, -⟩ := css HNB.out
     go_wp2_with fail
     ((with_reducible refine HSA.out.mono ?_))
     rintro e w14 ⟨rfl, hb14⟩
     have HB14 := zh (HB.out.trans ((HW10.out.b.trans ((HB13.out.trans (hb14.mono HB13.out.size)).mono HW10.out.b.size)).mono HB.out.size))
     clear hb14 m0 m1 n0 n1
     go_wp2_with fail
     go_ret
     exact ⟨rfl, HB14.out⟩
  ·have hby2 : 100 < bz.size := by omega
   have hb3 : decide ((100 : Int) < (bz.size : Int)) = true := decide_eq_true (by omega)
   go_wp2_with fail
   go_ret
   exact ⟨rfl, HB.out.trans ((ae (Below.refl _ _) _).mono HB.out.size)⟩
end
end Go.Proofs.YtjblihabklemfaaGreatDoor
