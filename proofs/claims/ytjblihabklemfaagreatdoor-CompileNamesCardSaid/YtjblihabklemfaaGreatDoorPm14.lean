/-
  Compile: part 14 of its proof: see the last text.
-/
import Derived.Test.YtjblihabklemfaaGreatDoorPm13
import Derived.Test.YtjblihabklemfaaGreatDoorPm12
import Derived.Deep.LoopGhost
set_option maxRecDepth 100000
set_option maxHeartbeats 16000000
namespace Go.Proofs.YtjblihabklemfaaGreatDoor
section
open Go.RowKit
def Strict {α : Type} (p : Par α) : Prop := ∀ l x r, p l = .ok (x, r) → r.length < l.length
def Weak {α : Type} (p : Par α) : Prop := ∀ l x r, p l = .ok (x, r) → r.length ≤ l.length
theorem Strict.weak {α : Type} {p : Par α} (h : Strict p) : Weak p := fun l x r e => Nat.le_of_lt (h l x r e)
theorem aE {α β : Type} {p : Par α} {f : α → Par β} {l r : List Tk} {y : β} (h : p.bind f l = .ok (y, r)) : ∃ x q, p l = .ok (x, q) ∧ f x q = .ok (y, r) := by
 unfold Par.bind at h
 cases hp : p l with
 | error e => rw [hp] at h; cases h
 | ok z =>
  obtain ⟨x, q⟩ := z
  rw [hp] at h
  exact ⟨x, q, rfl, h⟩
theorem Strict.bind {α β : Type} {p : Par α} {f : α → Par β} (h : Strict p) (hf : ∀ x, Weak (f x)) : Strict (p.bind f) := fun l y r e => by
 obtain ⟨x, q, h1, h2⟩ := aE e
 exact Nat.lt_of_le_of_lt (hf x q y r h2) (h l x q h1)
theorem Weak.bind {α β : Type} {p : Par α} {f : α → Par β} (h : Weak p) (hf : ∀ x, Weak (f x)) : Weak (p.bind f) := fun l y r e => by
 obtain ⟨x, q, h1, h2⟩ := aE e
 exact Nat.le_trans (hf x q y r h2) (h l x q h1)
theorem cC {α : Type} (x : α) : Weak (okP x) := fun l y r e => by cases e; exact Nat.le_refl _
theorem aS (en : Int) (s : ByteArray) : Strict (aX en s) := fun l x r e => by have := kv e; omega
theorem lz (en k : Int) : Strict (dv en k) := fun l x r e => by
 unfold dv at e
 cases l with
 | nil => cases e
 | cons t q =>
  dsimp only at e
  split at e
  ·cases e; exact Nat.lt_succ_self _
  ·cases e
theorem cZ (en : Int) : Strict (dN en) := (lz en 1).bind fun _ => cC _
theorem bj {l : List Tk} {s : ByteArray} (h : atS l 0 s = true) : l.tail.length < l.length := by have := ng h; omega
theorem jH (en : Int) : Strict (ig en) := fun l x r e => by
 unfold ig at e
 split at e
 ·rename_i h; cases e; exact bj h
 ·split at e
  ·rename_i h; cases e; exact bj h
  ·exact (Strict.bind (aS en fD) fun _ => cC (3 : Int)) l x r e
theorem fP {α : Type} (en : Int) (one : Par α) (h : Strict one) : ∀ (f : Nat) (first : Bool) (acc : List α), Strict (dy en one f first acc)
 | 0, _, _ => fun l x r e => by cases e
 | f + 1, first, acc => fun l x r e => by
  rw [fF] at e
  split at e
  ·rename_i hq; cases e; exact bj hq
  ·obtain ⟨_, q, h1, h2⟩ := aE e
   obtain ⟨y, q2, h3, h4⟩ := aE h2
   have g2 := h q y q2 h3
   have g3 := fP en one h f false (acc ++ [y]) q2 x r h4
   have g1 : q.length ≤ l.length := by
    cases first
    ·have := kv h1; omega
    ·cases h1; exact Nat.le_refl _
   omega
theorem jY (en : Int) (n : Nat) (N : Par Ex) (h : Weak N) : ∀ (f : Nat) (x : Ex), Weak (dm en n N f x)
 | 0, x => cC x
 | f + 1, x => fun l y r e => by
  rw [gJ] at e
  split at e
  ·cases e; exact Nat.le_refl _
  ·rename_i s hs
   have hl := bj (fT (bD n) 0 hs).choose_spec.2.2
   obtain ⟨z, q, h1, h2⟩ := aE e
   have g1 := h _ _ _ h1
   split at h2
   ·cases h2; omega
   ·have := jY en n N h f _ q y r h2; omega
theorem ck (en : Int) (one : Par Ex) (h : Strict one) : ∀ j, Strict (cF en one j)
 | 0 => h
 | j + 1 => fun l y r e => by
  have hj := ck en one h j
  obtain ⟨x, q, h1, h2⟩ := aE (show ((cF en one j).bind fun x r => dm en (4 - j) (cF en one j) (r.length + 1) x r) l = _ from e)
  have := hj _ _ _ h1
  have := jY en (4 - j) _ hj.weak _ _ _ _ _ h2
  omega
theorem dV (en : Int) (E : Par Ex) (h : Strict E) : Strict (dc en E) :=
 (aS en bW).bind fun _ => h.weak.bind fun _ => (aS en cj).weak.bind fun _ => cC _
theorem ie (en : Int) (E : Par Ex) (h : Strict E) : Strict (fo en E) := fun l x r e => by
 unfold fo at e
 split at e
 ·rename_i hq; cases e; exact bj hq
 ·split at e
  ·rename_i hq; cases e; exact bj hq
  ·split at e
   ·exact dV en E h l x r e
   ·split at e
    ·rename_i hq; exact Nat.lt_trans (((dV en E h).bind fun _ => cC _) _ _ _ e) (bj hq)
    ·split at e
     ·rename_i hq; exact Nat.lt_trans (((dV en E h).bind fun _ => cC _) _ _ _ e) (bj hq)
     ·exact ((aS en qx).bind fun _ => ((dV en E h).weak.bind fun _ => cC _)) l x r e
theorem i9 (en : Int) (E : Par Ex) (h : Strict E) : Strict (cU en E) := fun l x r e => by
 unfold cU at e
 cases l with
 | nil => exact ie en E h _ _ _ e
 | cons t q =>
  dsimp only at e
  split at e
  ·cases e; exact Nat.lt_succ_self _
  ·split at e
   ·cases e; exact Nat.lt_succ_self _
   ·split at e
    ·split at e
     ·rename_i hq
      have h1 := ((fP en E h (q.length + 1) true []).bind fun k => cC (Ex.mk 5 0 t.text k t.pos)) _ _ _ e
      have := bj hq
      simp only [List.length_cons]
      omega
     ·cases e; exact Nat.lt_succ_self _
    ·exact ie en E h _ _ _ e
theorem dt (en : Int) : ∀ k, Strict (ea en k)
 | 0 => fun l x r e => by cases e
 | k + 1 => fun l x r e => by
  have ih := dt en k
  unfold ea at e
  split at e
  ·rename_i hq; exact Nat.lt_trans ((ih.bind fun _ => cC _) _ _ _ e) (bj hq)
  ·split at e
   ·rename_i hq; exact Nat.lt_trans ((ih.bind fun _ => cC _) _ _ _ e) (bj hq)
   ·exact i9 en _ (ck en _ ih 5) l x r e
theorem fU (en : Int) (k : Nat) : Strict (gj en k) := ck en _ (dt en k) 5
theorem lI (rb : Nat) (en : Int) : ∀ (k : Nat) (d : Int), d + k = 33 → 0 ≤ d → (1 ≤ k → bP rb en 131 #[.pointer (some ⟨rb, 0, none⟩), .int .i64 d] (ea en k)) ∧ bP rb en 101 #[.pointer (some ⟨rb, 0, none⟩), .int .i64 d] (gj en k)
 | 0, d, hd, h0 => ⟨fun h => absurd h (by omega), qF rb d (by omega) en _ (kU en (ea en 0) _ (fun _ => rfl) 5)⟩
 | k + 1, d, hd, h0 => by
  have ih := lI rb en k (d + 1) (by omega) (by omega)
  have h1 : bP rb en 131 #[.pointer (some ⟨rb, 0, none⟩), .int .i64 d] (ea en (k + 1)) := by
   have h := pW rb d h0 (by omega) en (ea en k) (cU en (gj en k)) (fun hd1 => ih.1 (by omega)) (fun hd1 l => by
     obtain rfl : k = 0 := by omega
     rfl) (lQ rb d h0 (by omega) en (gj en k) ih.2 (fU en k))
   have e : (fun l => fJ en (ea en k) (cU en (gj en k)) l [eh, jd]) = ea en (k + 1) := by
    funext l
    rw [nI]
    rfl
   rw [← e]
   exact h
  have h5 := mM rb d en _ h1
  have s0 : Strict (cF en (ea en (k + 1)) 0) := ck en _ (dt en (k + 1)) 0
  have l4 := eY rb 4 (by omega) d en (cF en (ea en (k + 1)) 0) h5 s0.weak
  have l3 := eY rb 3 (by omega) d en (cF en (ea en (k + 1)) 1) l4 (ck en _ (dt en (k + 1)) 1).weak
  have l2 := eY rb 2 (by omega) d en (cF en (ea en (k + 1)) 2) l3 (ck en _ (dt en (k + 1)) 2).weak
  have l1 := eY rb 1 (by omega) d en (cF en (ea en (k + 1)) 3) l2 (ck en _ (dt en (k + 1)) 3).weak
  have l0 := eY rb 0 (by omega) d en (cF en (ea en (k + 1)) 4) l1 (ck en _ (dt en (k + 1)) 4).weak
  exact ⟨fun _ => h1, pZ rb d (by omega) en (gj en (k + 1)) l0⟩
end
section
open Go.RowKit
theorem rF : ∃ i, Tryz.prog.info? 62 = some i ∧ i.zero = some (.agg #[.int .i64 0, .string ⟨#[]⟩, .slice none 0 0, .slice none 0 0, .slice none 0 0, .int .i64 0]) ∧ i.size = 6 ∧ i.bytes = 104 := by
 have h : (Tryz.prog.info? 62).map (fun i => (i.zero, i.size, i.bytes)) = some (some (.agg #[.int .i64 0, .string ⟨#[]⟩, .slice none 0 0, .slice none 0 0, .slice none 0 0, .int .i64 0]), 6, 104) := by kernel_rfl
 obtain ⟨i, h1, h2⟩ := Option.map_eq_some_iff.1 h
 simp only [Prod.mk.injEq] at h2
 exact ⟨i, h1, h2.1, h2.2.1, h2.2.2⟩
structure BlW (w : World) (rb : Nat) (en : Int) (W : World) (L : List Tk) (v : Value) (acc : List St) : Prop where
 rd : RdAt W rb L en
 gr : GrowOf stK w.heap.size 62 6 W v acc
 on : On rb w W
 lt : rb < w.heap.size
theorem BlW.call {w W W' : World} {rb : Nat} {en : Int} {L L' : List Tk} {v : Value} {acc : List St} (h : BlW w rb en W L v acc) (ho : On rb W W') (hr : RdAt W' rb L' en) : BlW w rb en W' L' v acc :=
 ⟨hr, h.gr.keep (Stays.of_on ho h.lt), h.on.trans ho, h.lt⟩
theorem BlW.below {w W W' : World} {rb : Nat} {en : Int} {L : List Tk} {v : Value} {acc : List St} (h : BlW w rb en W L v acc) (hb : Below W.heap.size W W') : BlW w rb en W' L v acc :=
 ⟨h.rd.on hb, h.gr.keep (Stays.of_below hb), h.on.trans (On.of_below hb), h.lt⟩
theorem BlW.form {w W : World} {rb : Nat} {en : Int} {L : List Tk} {v : Value} {acc : List St} (h : BlW w rb en W L v acc) : ∃ s c, v = .slice s acc.length c := by
 obtain ⟨cs, ho, _⟩ := h.gr
 obtain ⟨s0, cap, h1, _⟩ := aY ho
 exact ⟨s0, cap, h1⟩
theorem BlW.push {w W3 W9 : World} {rb g cap : Nat} {en : Int} {L : List Tk} {v : Value} {acc : List St} {new : List Value} {y : St} {cs : Nat → List Value} (h : BlW w rb en W3 L v acc) (hit : Items stK w.heap.size 6 W3 v acc cs) (hn : new.length = 6) (hy : RepSt (fun b => w.heap.size ≤ b ∧ v.ownBlock ≠ some b) W3 new y)
    (hg : W3.grownBy W9 v.ownBlock) (hgl : v.ownBlock = some g ∨ g = W3.heap.size) (hown : W9.ownsRow w.heap.size 62 6 (.slice (some ⟨g, 0, none⟩) (acc.length + 1) cap) (acc.length + 1) (cV cs acc.length ++ new)) :
    BlW w rb en W9 L (.slice (some ⟨g, 0, none⟩) (acc.length + 1) cap) (acc ++ [y]) := by
 have hT : OnS (fun b => v.ownBlock = some b) W3 W9 := OnS.of_grown hg fun k hk => hk
 have hlow : ∀ b, v.ownBlock = some b → w.heap.size ≤ b := fun b hb => by
  obtain ⟨cs', ho, _⟩ := h.gr
  exact (aH ho hb).1
 refine ⟨?_, GrowOf.push hit hn hy hg hgl hown, On.of_onS h.on hT fun i hi => .inr (hlow i hi), h.lt⟩
 exact h.rd.offS hT fun b hb => Nat.lt_of_lt_of_le h.lt (hlow b hb)
theorem eB (en : Int) (P : Par St) (f : Nat) (acc : List St) (l : List Tk) : dR en P (f + 1) acc l = if atS l 0 rP then .ok (acc, l.tail) else (P.bind fun s => dR en P f (acc ++ [s])) l := rfl
theorem mJ (rb : Nat) (d en : Int) (hd : d ≤ 32) (P : Par St) (HS : m7 rb en 84 #[.pointer (some ⟨rb, 0, none⟩), .int .i64 d] P) (hP : Strict P) :
    hD rb en 47 #[.pointer (some ⟨rb, 0, none⟩), .int .i64 d] (fun l => (aX en df).bind (fun _ r => dR en P (r.length + 1) [] r) l) := by
 intro l w h
 have HSS := zh HS
 have HPP := zh hP
 have HAT := zh (dS rb 0 df l en w h)
 have HDP := zh (ku rb d w hd)
 have HH := zh h
 have HI := zh rF
 change Calls _ _ _ _ (PSays _ _ _ _ ((aX en df).bind (fun _ r => dR en P (r.length + 1) [] r) l))
 generalize hR : (aX en df).bind (fun _ r => dR en P (r.length + 1) [] r) l = R
 have HF := zh hR.symm
 have HSU := zh (eB en P)
 clear HS hP hd h hR
 go_enter Tryz.func47, Tryz.ntmps47
 go_wp2_with fail
 refine HAT.out.mono ?_
 rintro e we ⟨rfl, rfl⟩
 have HB := zh (ae (Below.refl w.heap.size w) (.cells #[.string ⟨#[123]⟩] 9))
 cases hq : atS l 0 df
 ·go_wp2_with fail
  refine (aU rb w.heap.size df l en _ (HH.out.on HB.out) (aw _ _ _ _ _ _ rfl rfl)).mono ?_
  rintro e w2 hp
  rcases hp.cases with ⟨er, p, hm, rfl, ho⟩ | ⟨x, L, v, hm, rfl, hv, hr, ho⟩
  ·have HE := zh (HF.out.trans (ay hm))
   have HON := zh ((On.of_below HB.out : On rb w _).trans ho)
   clear hp hm ho hq
   unfold Pan
   go_wp2_with fail
   exact ⟨rfl, PSays.err HE.out HON.out⟩
  ·exfalso
   unfold aX at hm
   rw [hq] at hm
   cases hm
 ·go_wp2_with fail
  refine HDP.out.mono ?_
  rintro e we ⟨rfl, rfl⟩
  clear hq
  go_wp2_with fail
  refine (aU rb w.heap.size df l en _ (HH.out.on HB.out) (aw _ _ _ _ _ _ rfl rfl)).mono ?_
  rintro e w2 hp
  rcases hp.cases with ⟨er, p, hm, rfl, ho⟩ | ⟨x, L, v, hm, rfl, hv, hr, ho⟩
  ·have HE := zh (HF.out.trans (ay hm))
   have HON := zh ((On.of_below HB.out : On rb w _).trans ho)
   clear hp hm ho
   unfold Pan
   go_wp2_with fail
   exact ⟨rfl, PSays.err HE.out HON.out⟩
  ·replace HF := zh (HF.out.trans (aB hm))
   have HBL : Hid (BlW w rb en w2 L (.slice none 0 0) []) := zh ⟨hr, GrowOf.nil, (On.of_below HB.out : On rb w _).trans ho, HH.out.lt⟩
   have HFEW := zh hr.few
   subst hv
   clear hp hm ho hr
   have HR0 := zh (show R = dR en P (L.length + 1) [] L from HF.out)
   clear HF
   go_wp2_with fail
   go_loopg [5] (L.length + 1) (fun g s5 wr => ∃ (acc : List St) (lc : List Tk), R = dR en P g acc lc ∧ lc.length < g ∧ acc.length + g ≤ 100001 ∧ BlW w rb en wr lc s5 acc)
   case atStart => exact ⟨[], L, HR0.out, Nat.lt_succ_self _, by have := HFEW.out; simp; omega, HBL.out⟩
   case round =>
    clear HR0 HBL HFEW
    obtain ⟨acc, lc, hR, hlg, hag, hbl⟩ := hrel
    obtain ⟨g, rfl⟩ : ∃ g, gk = g + 1 := ⟨gk - 1, by omega⟩
    have HF := zh (hR.trans (HSU.out g acc lc))
    have HLG := zh hlg
    have HAG := zh hag
    have HW := zh hbl
    obtain ⟨sv, cv, rfl⟩ := hbl.form
    clear hR hlg hag hbl
    go_wp2_with fail
    cases hq : atS lc 0 rP
    ·replace HF := zh (HF.out.trans (if_neg (by rw [hq]; decide)))
     refine (b7 rb _ lc en _ HW.out.rd hq).mono ?_
     rintro e w3 ⟨rfl, hr, ho⟩
     replace HW := zh (HW.out.call ho hr)
     clear hr ho hq
     go_wp2_with fail
     refine (HSS.out lc _ HW.out.rd).mono ?_
     rintro e w4 hp
     rcases hp.cases with ⟨er, p, hm, rfl, ho⟩ | ⟨y, L4, v, hm, rfl, hv, hr, ho⟩
     ·have HE := zh (HF.out.trans (ay hm))
      have HON := zh (HW.out.on.trans ho)
      clear hp hm ho
      unfold Pan
      go_wp2_with fail
      exact ⟨rfl, PSays.err HE.out HON.out⟩
     ·replace HF := zh (HF.out.trans (aB hm))
      have HLT := zh (HPP.out _ _ _ hm)
      have HOW := zh HW.out
      replace HW := zh (HW.out.call ho hr)
      obtain ⟨op, text, s1, n1, c1, s2, n2, c2, s3, n3, c3, pos, rfl, hrep⟩ := hv
      have HREP := zh hrep
      clear hp hm ho hr hrep
      have HB4 := zh (ae (Below.refl w4.heap.size w4) (.cells #[.int .i64 op, .string text, .slice s1 n1 c1, .slice s2 n2 c2, .slice s3 n3 c3, .int .i64 pos] 62))
      have HW4 := zh (HW.out.below HB4.out)
      obtain ⟨cs, hown, hit⟩ := HW4.out.gr
      have HOWN := zh hown
      have HIT := zh hit
      have HOLD : Hid (∀ b, (Value.slice sv acc.length cv).ownBlock = some b → b < w3.heap.size) := zh (fun b hb => by
        obtain ⟨cs', ho', _⟩ := HOW.out.gr
        exact (aH ho' hb).2)
      have HY := zh ((HREP.out.keep (Stays.of_below HB4.out)).mono (S' := fun b => w.heap.size ≤ b ∧ (Value.slice sv acc.length cv).ownBlock ≠ some b) fun b (hb : w3.heap.size ≤ b) => ⟨Nat.le_trans HOW.out.on.size hb, fun e => absurd (HOLD.out b e) (by omega)⟩)
      clear hown hit
      have hal : acc.length ≤ 100000 := by have := HAG.out; omega
      go_wp2_with (refine wpList_append_lies _ rfl _ _ _ rfl w.heap.size 62 HI.out.choose (.agg #[.int .i64 0, .string ⟨#[]⟩, .slice none 0 0, .slice none 0 0, .slice none 0 0, .int .i64 0]) 6 104 Tryz.underlying46 HI.out.choose_spec.1 HI.out.choose_spec.2.1 HI.out.choose_spec.2.2.1 HI.out.choose_spec.2.2.2 rfl (by decide) _ acc.length (cV cs acc.length) rfl HOWN.out ⟨w4.heap.size, 0, none⟩ 1 1 [.int .i64 op, .string text, .slice s1 n1 c1, .slice s2 n2 c2, .slice s3 n3 c3, .int .i64 pos] rfl rfl (by intro j u hj; rw [Go.WideShapes.add_plain, Nat.zero_add]; exact aw _ _ _ _ _ _ rfl (by simpa using hj)) (by intro u hu; simp at hu; rcases hu with rfl | rfl | rfl | rfl | rfl | rfl <;> rfl) (by decide) (by unfold maxLen; omega) (by omega) (by rw [ag]; have := HW.out.on.size; omega) _ rfl ?_; intro g9 cp9 w9 hown9 hgrow9 hgl9 hlt9; have HPU := zh (HW4.out.push HIT.out rfl HY.out hgrow9 hgl9 hown9); clear hown9 hgrow9 hgl9 hlt9)
      go_roundg g
      case measure => exact Nat.lt_succ_self _
      case rel => exact ⟨_, _, HF.out, by have := HLG.out; have := HLT.out; omega, by have := HAG.out; simp; omega, HPU.out⟩
    ·replace HF := zh (HF.out.trans (if_pos hq))
     refine (cu rb _ lc en _ HW.out.rd hq).mono ?_
     rintro e w3 ⟨rfl, hr, ho⟩
     replace HW := zh (HW.out.call ho hr)
     clear hr ho hq
     go_wp2_with fail
     go_ret
     obtain ⟨cs, hrow, hit⟩ := HW.out.gr.row
     exact PSays.ok HF.out ⟨cs, hrow, hit⟩ HW.out.rd HW.out.on
theorem oW (rb : Nat) (d en : Int) (hd : 32 < d) : hD rb en 47 #[.pointer (some ⟨rb, 0, none⟩), .int .i64 d] (da en 0) := by
 intro l w h
 have HAT := zh (dS rb 0 df l en w h)
 have HDP := zh (kB rb l en d w h hd)
 have HH := zh h
 generalize hR : da en 0 l = R
 have HF := zh (show R = if atS l 0 df then .error (42, aM en l) else .error (41, aM en l) from hR.symm)
 clear hd h hR
 go_enter Tryz.func47, Tryz.ntmps47
 go_wp2_with fail
 refine HAT.out.mono ?_
 rintro e we ⟨rfl, rfl⟩
 have HB := zh (ae (Below.refl w.heap.size w) (.cells #[.string ⟨#[123]⟩] 9))
 cases hq : atS l 0 df
 ·replace HF := zh (HF.out.trans (if_neg (by rw [hq]; decide)))
  go_wp2_with fail
  refine (aU rb w.heap.size df l en _ (HH.out.on HB.out) (aw _ _ _ _ _ _ rfl rfl)).mono ?_
  rintro e w2 hp
  have hm0 : aX en df l = .error (41, aM en l) := by unfold aX; rw [hq]; rfl
  rcases hp.cases with ⟨er, p, hm, rfl, ho⟩ | ⟨x, L, v, hm, rfl, hv, hr, ho⟩
  ·rw [hm0] at hm
   injection hm with hm
   injection hm with hm1 hm2
   subst hm1 hm2
   have HON := zh ((On.of_below HB.out : On rb w _).trans ho)
   clear hp ho hq hm0
   unfold Pan
   go_wp2_with fail
   exact ⟨rfl, PSays.err HF.out HON.out⟩
  ·exfalso
   rw [hm0] at hm
   cases hm
 ·replace HF := zh (HF.out.trans (if_pos hq))
  go_wp2_with fail
  refine HDP.out.mono ?_
  rintro e we ⟨rfl, rfl⟩
  clear hq
  unfold Pan
  go_wp2_with fail
  exact ⟨rfl, PSays.err HF.out (On.refl _ _)⟩
theorem jw (en : Int) (P : Par St) (hP : Strict P) : ∀ (f : Nat) (acc : List St), Weak (dR en P f acc)
 | 0, acc => fun l x r e => by cases e
 | f + 1, acc => fun l x r e => by
  rw [eB] at e
  split at e
  ·cases e; simp
  ·obtain ⟨y, q, h1, h2⟩ := aE e
   have := hP _ _ _ h1
   have := jw en P hP f _ _ _ _ h2
   omega
theorem cX (en : Int) (s : St) : Strict (fK en s) := (aS en dK).bind fun _ => cC _
theorem iR (en : Int) (E : Par Ex) (B : Par (List St)) (hE : Strict E) (hB : Weak B) : Strict (gd en E B) := fun l x r e => by
 unfold gd at e
 dsimp only at e
 split at e
 ·rename_i h
  have := bj h
  have := ((cZ en).bind fun n => ((aS en sEq).bind fun _ => (hE.bind fun x => (cX en _).weak).weak).weak) _ _ _ e
  omega
 split at e
 ·rename_i h
  have := bj h
  have := (hE.bind fun x => hB.bind fun b => (fun l x r e => by
    split at e
    · rename_i h
      have := bj h
      have := (hB.bind fun e => cC _) _ _ _ e
      omega
    · cases e; exact Nat.le_refl _ : Weak _)) _ _ _ e
  omega
 split at e
 ·rename_i h
  have := bj h
  have := ((cZ en).bind fun n => ((aS en sEq).bind fun _ => (hE.bind fun x => ((aS en sTo).bind fun _ => (hE.bind fun y => hB.bind fun b => cC _).weak).weak).weak).weak) _ _ _ e
  omega
 split at e
 ·rename_i h
  have := bj h
  split at e
  ·have := cX en _ _ _ _ e; omega
  ·have := (hE.bind fun x => (cX en _).weak) _ _ _ e
   omega
 split at e
 ·rename_i h
  have := bj h
  have := ((aS en bW).bind fun _ => (hE.bind fun x => ((aS en eL).bind fun _ => (hE.bind fun y => ((aS en cj).bind fun _ => (cX en _).weak).weak).weak).weak).weak) _ _ _ e
  omega
 split at e
 ·rename_i h
  have := bj h
  have := ((aS en bW).bind fun _ => (hE.bind fun x => ((aS en cj).bind fun _ => (cX en _).weak).weak).weak) _ _ _ e
  omega
 split at e <;> split at e <;> first
  | exact ((cZ en).bind fun n => ((aS en sEq).bind fun _ => (hE.bind fun x => (cX en _).weak).weak).weak) _ _ _ e
  | exact (hE.bind fun x => (cX en _).weak) _ _ _ e
theorem fA (en : Int) : ∀ k, Weak (da en k)
 | 0 => fun l x r e => by
  unfold da at e
  split at e <;> cases e
 | k + 1 => fun l x r e => by
  unfold da at e
  obtain ⟨y, q, h1, h2⟩ := aE e
  have := aS en df _ _ _ h1
  have := jw en _ (iR en _ _ (fU en k) (fA en k)) _ _ _ _ _ h2
  omega
theorem iC (rb : Nat) (en : Int) : ∀ (k : Nat) (d : Int), d + k = 33 → 0 ≤ d → hD rb en 47 #[.pointer (some ⟨rb, 0, none⟩), .int .i64 d] (da en k)
 | 0, d, h, _ => oW rb d en (by omega)
 | k + 1, d, h, h0 => mJ rb d en (by omega) (gd en (gj en k) (da en k))
     (pJ rb d h0 (by omega) en (gj en k) (da en k) (lI rb en k (d + 1) (by omega) (by omega)).2 (iC rb en k (d + 1) (by omega) (by omega)))
     (iR en _ _ (fU en k) (fA en k))
end
end Go.Proofs.YtjblihabklemfaaGreatDoor
