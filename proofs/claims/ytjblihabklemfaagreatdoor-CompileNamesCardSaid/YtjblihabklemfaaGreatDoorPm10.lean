/-
  Compile: part 10 of its proof: see the last text.
-/
import Derived.Test.YtjblihabklemfaaGreatDoorPm07
import Derived.Test.YtjblihabklemfaaGreatDoorPm08
import Derived.Test.YtjblihabklemfaaGreatDoorPm09
set_option maxRecDepth 100000
set_option maxHeartbeats 16000000
namespace Go.Proofs.YtjblihabklemfaaGreatDoor
section
open Go.RowKit
def nO (xb base : Nat) (arr : Value → Array Value) (t : TypeId) (xs : List Ex) (w' : World) (y : Ex) (r : Value) : Prop := r = .tuple #[] ∧ ∃ v', w'.heap[xb]? = some (.cells (arr v') t) ∧ GrowOf ⟨RepEx, RepEx.keep, RepEx.mono, RepEx.lies⟩ base 65 5 w' v' (xs ++ [y])
def exK : Kind Ex := ⟨RepEx, RepEx.keep, RepEx.mono, RepEx.lies⟩
theorem RdAt.offS {T : Nat → Prop} {w w' : World} {rb : Nat} {l : List Tk} {en : Int} (h : RdAt w rb l en) (ho : OnS T w w') (hk : ∀ b, T b → rb < b) : RdAt w' rb l en := by
 have hnr : ∀ b, b ≤ rb → ¬ T b := fun b hb ht => by have := hk b ht; omega
 obtain ⟨arr, hob⟩ := h.obj
 obtain ⟨s0, cap, h1, h2, h3, h4, h5⟩ := h.rest
 refine ⟨⟨arr, ho.obj (hnr _ (Nat.le_refl _)) hob⟩, ⟨s0, cap, ho.cell (hnr _ (Nat.le_refl _)) h1, h2, h3, fun h0 => ?_, h5⟩, ho.cell (hnr _ (Nat.le_refl _)) h.fin, h.few⟩
 obtain ⟨b, off, e, hbl, hc⟩ := h4 h0
 have hb := hnr b (Nat.le_of_lt (h5 b off e))
 refine ⟨b, off, e, Nat.lt_of_lt_of_le hbl ho.size, fun i hi => ?_⟩
 obtain ⟨x0, x1, x2, x3⟩ := hc i hi
 exact ⟨ho.cell hb x0, ho.cell hb x1, ho.cell hb x2, ho.cell hb x3⟩
def cK (w : World) (g o : Nat) (a b c d e : Value) : World := ((((w.setCell ⟨g, o, none⟩ a).setCell ⟨g, o + 1, none⟩ b).setCell ⟨g, o + 2, none⟩ c).setCell ⟨g, o + 3, none⟩ d).setCell ⟨g, o + 4, none⟩ e
theorem kR {α : Type} (l : Array α) {b c : Nat} (f g : α → α) (h : b ≠ c) : (l.modify b f).modify c g = (l.modify c g).modify b f := by
 refine Array.ext_getElem? fun k => ?_
 simp only [Array.getElem?_modify]
 by_cases h1 : c = k
 ·subst h1
  simp [h]
 ·simp [h1]
theorem dz (w : World) {b c i j : Nat} (u v : Value) (h : b ≠ c) : (w.setCell ⟨b, i, none⟩ u).setCell ⟨c, j, none⟩ v = (w.setCell ⟨c, j, none⟩ v).setCell ⟨b, i, none⟩ u := by
 unfold World.setCell
 dsimp only
 rw [kR _ _ _ h]
theorem eA (w : World) {g xb o j : Nat} (a b c d e v : Value) (h : g ≠ xb) : cK (w.setCell ⟨xb, j, none⟩ v) g o a b c d e = (cK w g o a b c d e).setCell ⟨xb, j, none⟩ v := by
 unfold cK
 rw [dz w _ _ (Ne.symm h), dz _ _ _ (Ne.symm h), dz _ _ _ (Ne.symm h), dz _ _ _ (Ne.symm h), dz _ _ _ (Ne.symm h)]
theorem nx (w : World) (g o : Nat) (a b c d e : Value) : On g w (cK w g o a b c d e) := (((((On.refl g w).set _ a).set _ b).set _ c).set _ d).set _ e
theorem gW {w : World} {base t g n cap : Nat} {l : List Value} {z0 z1 z2 z3 z4 : Value} (h : w.ownsRow base t 5 (.slice (some ⟨g, 0, none⟩) (n + 1) cap) (n + 1) (l ++ [z0, z1, z2, z3, z4])) (hl : l.length = n * 5) (a b c d e : Value) :
    (cK w g (n * 5) a b c d e).ownsRow base t 5 (.slice (some ⟨g, 0, none⟩) (n + 1) cap) (n + 1) (l ++ [a, b, c, d, e]) := by
 have := gq (gq (gq (gq (gq h (n * 5) a) (n * 5 + 1) b) (n * 5 + 2) c) (n * 5 + 3) d) (n * 5 + 4) e
 rw [← hl] at this ⊢
 unfold cK
 simpa [List.set_append] using this
theorem dW {w w' : World} {r : Option Nat} {g o : Nat} {a b c d e : Value} (h : w.grownBy w' r) (hg : r = some g ∨ w.heap.size ≤ g) : w.grownBy (cK w' g o a b c d e) r := by
 have ho := nx w' g o a b c d e
 refine ⟨ho.os.trans h.os, ho.tape.trans h.tape, ho.output.trans h.output, Nat.le_trans h.size ho.size, fun k hk hne => (ho.block k (Nat.lt_of_lt_of_le hk h.size) (fun e => ?_)).trans (h.block k hk hne)⟩
 injection e with e
 subst e
 rcases hg with q | q
 ·exact hne q.symm
 ·omega
theorem oY : ∃ i, Tryz.prog.info? 65 = some i ∧ i.zero = some (.agg #[.int .i64 0, .int .i64 0, .string ⟨#[]⟩, .slice none 0 0, .int .i64 0]) ∧ i.size = 5 ∧ i.bytes = 64 := by
 have h : (Tryz.prog.info? 65).map (fun i => (i.zero, i.size, i.bytes)) = some (some (.agg #[.int .i64 0, .int .i64 0, .string ⟨#[]⟩, .slice none 0 0, .int .i64 0]), 5, 64) := by kernel_rfl
 obtain ⟨i, h1, h2⟩ := Option.map_eq_some_iff.1 h
 simp only [Prod.mk.injEq] at h2
 exact ⟨i, h1, h2.1, h2.2.1, h2.2.2⟩
theorem qU (rb xb bb db base : Nat) (d en : Int) (hd0 : 0 ≤ d) (hd : d ≤ 100) (P : Par Ex) (HE : bP rb en 101 #[.pointer (some ⟨rb, 0, none⟩), .int .i64 (d + 1)] P) (hlt : rb < base ∧ xb < base ∧ bb < base ∧ db < base) (hne : rb < xb ∧ rb < bb ∧ rb < db)
    (l : List Tk) (w : World) (h : RdAt w rb l en) (hbb : w.cell? ⟨bb, 0, none⟩ = some (.pointer (some ⟨rb, 0, none⟩))) (hdb : w.cell? ⟨db, 0, none⟩ = some (.int .i64 d)) (hbase : base ≤ w.heap.size)
    (op num : Int) (text : ByteArray) (pos : Int) (v : Value) (hx : w.heap[xb]? = some (.cells #[.int .i64 op, .int .i64 num, .string text, v, .int .i64 pos] 65)) (xs : List Ex) (hn : xs.length ≤ 100000) (hg : GrowOf exK base 65 5 w v xs) :
    Calls Tryz.prog 137 #[.pointer (some ⟨xb, 0, none⟩), .pointer (some ⟨bb, 0, none⟩), .pointer (some ⟨db, 0, none⟩)] w
     (PSaysT rb en (fun b => b = rb ∨ b = xb ∨ base ≤ b) w (nO xb base (fun v => #[.int .i64 op, .int .i64 num, .string text, v, .int .i64 pos]) 65 xs) (P l)) := by
 obtain ⟨cs, hown, hit⟩ := hg
 obtain ⟨s0, cap, rfl, hle, hcm, hnn, _⟩ := aY hown
 have HEE := zh HE
 have HH := zh h
 have HOWN := zh hown
 have HIT := zh hit
 have HX := zh hx
 have HLT := zh hlt
 have HNE := zh hne
 have HBS := zh hbase
 have HNX := zh hn
 have q0 : w.cell? ⟨xb, 3, none⟩ = some (.slice s0 xs.length cap) := aa hx (j := 3) rfl
 have q1 := hbb
 have q2 := hdb
 have HQ := zh (And.intro q0 (And.intro q1 q2))
 have hw1 : IntKind.i64.wrap (d + 1) = d + 1 := IntWalk.i64_in _ (by omega)
 unfold maxLen at hcm
 obtain ⟨i0, hi0, hz0, hz1, hz2⟩ := oY
 have HI0 := zh hi0
 clear HE h hown hit hx hlt hne hbase hn hbb hdb hi0 hnn
 go_enter Tryz.func137, Tryz.ntmps137
 refine fI (S := (fun w' => w'.cell? ⟨xb, 3, none⟩ = some (.slice s0 xs.length cap) ∧ w'.cell? ⟨bb, 0, none⟩ = some (.pointer (some ⟨rb, 0, none⟩)) ∧ w'.cell? ⟨db, 0, none⟩ = some (.int .i64 d))) 8 (by kernel_rfl) (by kernel_rfl) (by (first | exact ⟨q0, q1, q2⟩ | exact ⟨aj _ q0, aj _ q1, aj _ q2⟩)) (fun hHeld => ?_)
 simp only [List.take_succ_cons, List.take_zero]
 refine tkA 0 ?_
 refine tkA 1 ?_
 refine tkA 2 ?_
 refine tkA 3 ?_
 refine tkA 4 ?_
 refine tkA 6 ?_
 refine wpAnyH_ready (rs := [5, 7]) (by kernel_rfl) (by simp) ?_
 refine (AllReadyH.cons rfl (fun K hK => ?_) (AllReadyH.cons rfl (fun K hK => ?_) AllReadyH.nil))
 ·go_simp
  go_at_call 101
  refine (HEE.out l _ (HH.out.on (av (Below.refl _ _)))).mono ?_
  rintro e w3 hp
  rcases hp.cases with ⟨er, p, hm, rfl, ho⟩ | ⟨y, r, v3, hm, rfl, hv, hr, ho⟩
  ·have ho3 := (On.of_below (av (Below.refl _ _)) : On rb w _).trans ho
   have HO3 := zh ho3
   have HM := zh hm
   clear hp hm ho ho3
   unfold Pan
   (try go_wp2_with fail)
   exact ⟨rfl, PSaysT.err HM.out (OnS.of_on HO3.out (Or.inl rfl))⟩
  ·have ho3 := (On.of_below (av (Below.refl _ _)) : On rb w _).trans ho
   have HM := zh hm
   have HR3 := zh hr
   have HO3 := zh ho3
   have HTS := zh ho.size
   replace q0 := ho3.cell (Nat.ne_of_gt HNE.out.1) HQ.out.1
   replace q1 := ho3.cell (Nat.ne_of_gt HNE.out.2.1) HQ.out.2.1
   replace q2 := ho3.cell (Nat.ne_of_gt HNE.out.2.2) HQ.out.2.2
   obtain ⟨op3, num3, text3, s3, n3, cap3, pos3, rfl, hrep3⟩ := hv
   have HREP3 := zh hrep3
   clear hp hm hr hrep3 ho ho3
   refine hK.out _ _ ?_ (fun hHeld => ?_)
   ·(try dsimp only)
    (first | exact ⟨q0, q1, q2⟩ | exact ⟨aj _ q0, aj _ q1, aj _ q2⟩)
   clear hK K
   try go_simp
   refine rd1 7 fun K hK => ?_
   go_simp
   refine hK.out _ _ ?_ (fun hHeld => ?_)
   ·(try dsimp only)
    (first | exact ⟨q0, q1, q2⟩ | exact ⟨aj _ q0, aj _ q1, aj _ q2⟩)
   clear hK K
   try go_simp
   have HB8 := zh (ae (Below.refl w3.heap.size w3) (.cells #[.int .i64 0, .int .i64 0, .string ⟨#[]⟩, .slice none 0 0, .int .i64 0] 65))
   have HZ8 := zh (ah w3 (.cells #[.int .i64 0, .int .i64 0, .string ⟨#[]⟩, .slice none 0 0, .int .i64 0] 65) _ rfl)
   have HO8 := zh (HO3.out.trans (On.of_below HB8.out))
   have HRD8 := zh (HR3.out.on HB8.out)
   have HREP8 := zh ((HREP3.out.lies.mono (S' := fun b => base ≤ b ∧ b < w3.heap.size ∧ (w.heap.size ≤ b)) (fun b hb => ⟨Nat.le_trans HBS.out hb.1, hb.2, hb.1⟩)).keep (Stays.of_below HB8.out))
   refine wpAnyH_done (by kernel_rfl) ?_ _
   show wpAny _ _ _ _ 5 _ _ _
   refine wpAny_of_held (S := fun _ => True) _ _ _ _ ?_
   have hst8 : Stays (bA base) w (w3.alloc (.cells #[.int .i64 0, .int .i64 0, .string ⟨#[]⟩, .slice none 0 0, .int .i64 0] 65)) := Stays.of_on HO8.out HLT.out.1
   have hown8 := bO HOWN.out hst8
   have HIT8 := zh (HIT.out.keep hst8)
   have HX8 := zh (HO8.out.obj (Nat.ne_of_gt HNE.out.1) HX.out)
   have HBS8 := zh (Nat.le_trans HBS.out HO8.out.size)
   have HOWN8 := zh hown8
   clear hst8 hown8
   have htr : True := trivial
   refine rd1 8 fun K hK => ?_
   refine step_append_lies _ rfl _ _ _ rfl base 65 i0 (.agg #[.int .i64 0, .int .i64 0, .string ⟨#[]⟩, .slice none 0 0, .int .i64 0]) 5 64 Tryz.underlying60 HI0.out hz0 hz1 hz2 rfl (by decide) _ xs.length (cV cs xs.length) rfl HOWN8.out ⟨w3.heap.size, 0, none⟩ 1 1 [.int .i64 0, .int .i64 0, .string ⟨#[]⟩, .slice none 0 0, .int .i64 0] rfl rfl (fZ HZ8.out) (by intro u hu; simp at hu; rcases hu with rfl | rfl | rfl | rfl <;> rfl) (by decide) (by have := HNX.out; unfold maxLen; omega) (by have := HNX.out; omega) HBS8.out _ rfl ?_
   intro g cp w9 hown9 hgrow9 hgl9 hlt9
   replace hgrow9 : World.grownBy _ w9 (Value.slice s0 xs.length cap).ownBlock := hgrow9
   replace hgl9 : (Value.slice s0 xs.length cap).ownBlock = some g ∨ g = _ := hgl9
   refine hK.out _ _ trivial (fun _ => ?_)
   clear hK K
   try go_simp
   have hfx := eQ hown9
   have hln : (cV cs xs.length).length = xs.length * 5 := fN (fun i hi => (HIT.out i hi).1)
   have hgb : base ≤ g := (aH hown9 rfl).1
   have hgx : g ≠ xb := by have := HLT.out; omega
   have z0 := hfx.1 (xs.length * 5) (.int .i64 0) (by rw [List.getElem?_append_right (by omega), hln, Nat.sub_self]; rfl)
   have z1 := hfx.1 (xs.length * 5 + 1) (.int .i64 0) (by rw [List.getElem?_append_right (by omega), hln, Nat.add_sub_cancel_left]; rfl)
   have z2 := hfx.1 (xs.length * 5 + 2) (.string ⟨#[]⟩) (by rw [List.getElem?_append_right (by omega), hln, Nat.add_sub_cancel_left]; rfl)
   have z3 := hfx.1 (xs.length * 5 + 3) (.slice none 0 0) (by rw [List.getElem?_append_right (by omega), hln, Nat.add_sub_cancel_left]; rfl)
   have z4 := hfx.1 (xs.length * 5 + 4) (.int .i64 0) (by rw [List.getElem?_append_right (by omega), hln, Nat.add_sub_cancel_left]; rfl)
   have fz0 := hfx.2 (xs.length * 5)
   have fz1 := hfx.2 (xs.length * 5 + 1)
   have fz2 := hfx.2 (xs.length * 5 + 2)
   have fz3 := hfx.2 (xs.length * 5 + 3)
   have fz4 := hfx.2 (xs.length * 5 + 4)
   have HOWN9 := zh hown9
   have HGR9 := zh hgrow9
   have HGL9 := zh hgl9
   have HX9 := zh (hgrow9.block xb (ad HX8.out) (fun e => by have h1 := (aH HOWN8.out e.symm).1; have := HLT.out; omega) |>.trans HX8.out)
   have x3 : w9.cell? ⟨xb, 3, none⟩ = some (.slice s0 xs.length cap) := aa HX9.out (j := 3) rfl
   have fx3 := ab HX9.out 3
   have HOWNF := zh (gW hown9 hln (.int .i64 op3) (.int .i64 num3) (.string text3) (.slice s3 n3 cap3) (.int .i64 pos3))
   have HGRF := zh (dW (o := xs.length * 5) (a := .int .i64 op3) (b := .int .i64 num3) (c := .string text3) (d := .slice s3 n3 cap3) (e := .int .i64 pos3) hgrow9 (hgl9.imp id (fun e => Nat.le_of_eq e.symm)))
   have HGF := zh (GrowOf.push (cap := cp) HIT8.out rfl (exK.mono HREP8.out (fun b hb => ⟨hb.1, fun e => by have h1 := (aH HOWN.out e).2; have h2 := hb.2.2; omega⟩)) HGRF.out hgl9 HOWNF.out)
   have HXF := zh ((HGRF.out.block xb (ad HX8.out) (fun e => by have h1 := (aH HOWN8.out e.symm).1; have := HLT.out; omega)).trans HX8.out)
   have HOF := zh (OnS.of_grown (T := fun b => b = xb ∨ base ≤ b) HGRF.out (fun k hk => Or.inr (aH HOWN8.out hk).1))
   have HRDF := zh ((HRD8.out).offS (HOF.out.set (k := xb) (Or.inl rfl) 3 (.slice (some ⟨g, 0, none⟩) (xs.length + 1) cp)) (fun b hb => hb.elim (fun e => e ▸ HNE.out.1) (fun e => Nat.lt_of_lt_of_le HLT.out.1 e)))
   have HOT := zh (((OnS.of_on HO8.out (Or.inl rfl) : OnS (fun b => b = rb ∨ b = xb ∨ base ≤ b) w _).trans (HOF.out.mono (fun b hb => Or.inr hb))).set (k := xb) (Or.inr (Or.inl rfl)) 3 (.slice (some ⟨g, 0, none⟩) (xs.length + 1) cp))
   have HGX := zh (HGF.out.keep (Stays.of_on ((On.refl xb _).set 3 (.slice (some ⟨g, 0, none⟩) (xs.length + 1) cp)) HLT.out.2.1))
   have FIN : Hid (PSaysT rb en (fun b => b = rb ∨ b = xb ∨ base ≤ b) w (nO xb base (fun v => #[.int .i64 op, .int .i64 num, .string text, v, .int .i64 pos]) 65 xs) (P l) (.returned (.tuple #[])) ((cK w9 g (xs.length * 5) (.int .i64 op3) (.int .i64 num3) (.string text3) (.slice s3 n3 cap3) (.int .i64 pos3)).setCell ⟨xb, 3, none⟩ (.slice (some ⟨g, 0, none⟩) (xs.length + 1) cp))) := zh (PSaysT.ok HM.out ⟨rfl, .slice (some ⟨g, 0, none⟩) (xs.length + 1) cp, ai HXF.out 3 _, HGX.out⟩ HRDF.out HOT.out)
   clear hfx hown9 hgrow9 hgl9 hln
   have hix : (xs.length : Int) < (xs.length : Int) + 1 := by omega
   refine tkA 9 ?_
   refine tkA 11 ?_
   refine wpAnyH_ready (rs := [10, 12]) (by kernel_rfl) (by simp) ?_
   refine (AllReadyH.cons rfl (fun K hK => ?_) (AllReadyH.cons rfl (fun K hK => ?_) AllReadyH.nil))
   ·go_simp
    refine hK.out _ _ trivial (fun _ => ?_)
    clear hK K
    try go_simp
    refine rd1 12 fun K hK => ?_
    go_simp
    refine hK.out _ _ trivial (fun _ => ?_)
    clear hK K
    try go_simp
    refine wpAnyH_done (by kernel_rfl) ?_ _
    go_end0
    have hfin := FIN.out
    unfold cK at hfin
    exact hfin
   ·go_simp
    refine hK.out _ _ trivial (fun _ => ?_)
    clear hK K
    try go_simp
    refine rd1 10 fun K hK => ?_
    go_simp
    refine hK.out _ _ trivial (fun _ => ?_)
    clear hK K
    try go_simp
    refine wpAnyH_done (by kernel_rfl) ?_ _
    go_end0
    have hfin := FIN.out
    rw [← eA _ _ _ _ _ _ _ hgx] at hfin
    unfold cK at hfin
    exact hfin
 ·go_simp
  refine hK.out _ _ ?_ (fun hHeld => ?_)
  ·(try dsimp only)
   (first | exact ⟨q0, q1, q2⟩ | exact ⟨aj _ q0, aj _ q1, aj _ q2⟩)
  clear hK K
  try go_simp
  refine rd1 5 fun K hK => ?_
  go_simp
  go_at_call 101
  refine (HEE.out l _ (HH.out.on (av (ae (Below.refl w.heap.size w) (.cells #[.int .i64 0, .int .i64 0, .string ⟨#[]⟩, .slice none 0 0, .int .i64 0] 65))))).mono ?_
  rintro e w3 hp
  rcases hp.cases with ⟨er, p, hm, rfl, ho⟩ | ⟨y, r, v3, hm, rfl, hv, hr, ho⟩
  ·have ho3 := (On.of_below (av (ae (Below.refl w.heap.size w) (.cells #[.int .i64 0, .int .i64 0, .string ⟨#[]⟩, .slice none 0 0, .int .i64 0] 65))) : On rb w _).trans ho
   have HO3 := zh ho3
   have HM := zh hm
   clear hp hm ho ho3
   unfold Pan
   (try go_wp2_with fail)
   exact ⟨rfl, PSaysT.err HM.out (OnS.of_on HO3.out (Or.inl rfl))⟩
  ·have ho3 := (On.of_below (av (ae (Below.refl w.heap.size w) (.cells #[.int .i64 0, .int .i64 0, .string ⟨#[]⟩, .slice none 0 0, .int .i64 0] 65))) : On rb w _).trans ho
   have HM := zh hm
   have HR3 := zh hr
   have HO3 := zh ho3
   have HTS := zh ho.size
   replace q0 := ho3.cell (Nat.ne_of_gt HNE.out.1) HQ.out.1
   replace q1 := ho3.cell (Nat.ne_of_gt HNE.out.2.1) HQ.out.2.1
   replace q2 := ho3.cell (Nat.ne_of_gt HNE.out.2.2) HQ.out.2.2
   obtain ⟨op3, num3, text3, s3, n3, cap3, pos3, rfl, hrep3⟩ := hv
   have HZ8 := zh (ho.obj (k' := w.heap.size) (by have := HH.out.lt; omega) (ah w (.cells #[.int .i64 0, .int .i64 0, .string ⟨#[]⟩, .slice none 0 0, .int .i64 0] 65) _ rfl))
   have HREP3 := zh hrep3
   clear hp hm hr hrep3 ho ho3
   refine hK.out _ _ ?_ (fun hHeld => ?_)
   ·(try dsimp only)
    (first | exact ⟨q0, q1, q2⟩ | exact ⟨aj _ q0, aj _ q1, aj _ q2⟩)
   clear hK K
   try go_simp
   have HO8 := HO3
   have HRD8 := HR3
   have HREP8 := zh (HREP3.out.lies.mono (S' := fun b => base ≤ b ∧ b < w3.heap.size ∧ (w.heap.size ≤ b)) (fun b hb => by have h1 : w.heap.size + 1 ≤ b := ag w _ ▸ hb.1; exact ⟨Nat.le_trans HBS.out (by omega), hb.2, by omega⟩))
   refine wpAnyH_done (by kernel_rfl) ?_ _
   show wpAny _ _ _ _ 5 _ _ _
   refine wpAny_of_held (S := fun _ => True) _ _ _ _ ?_
   have hst8 : Stays (bA base) w w3 := Stays.of_on HO8.out HLT.out.1
   have hown8 := bO HOWN.out hst8
   have HIT8 := zh (HIT.out.keep hst8)
   have HX8 := zh (HO8.out.obj (Nat.ne_of_gt HNE.out.1) HX.out)
   have HBS8 := zh (Nat.le_trans HBS.out HO8.out.size)
   have HOWN8 := zh hown8
   clear hst8 hown8
   have htr : True := trivial
   refine rd1 8 fun K hK => ?_
   refine step_append_lies _ rfl _ _ _ rfl base 65 i0 (.agg #[.int .i64 0, .int .i64 0, .string ⟨#[]⟩, .slice none 0 0, .int .i64 0]) 5 64 Tryz.underlying60 HI0.out hz0 hz1 hz2 rfl (by decide) _ xs.length (cV cs xs.length) rfl HOWN8.out ⟨w.heap.size, 0, none⟩ 1 1 [.int .i64 0, .int .i64 0, .string ⟨#[]⟩, .slice none 0 0, .int .i64 0] rfl rfl (fZ HZ8.out) (by intro u hu; simp at hu; rcases hu with rfl | rfl | rfl | rfl <;> rfl) (by decide) (by have := HNX.out; unfold maxLen; omega) (by have := HNX.out; omega) HBS8.out _ rfl ?_
   intro g cp w9 hown9 hgrow9 hgl9 hlt9
   replace hgrow9 : World.grownBy _ w9 (Value.slice s0 xs.length cap).ownBlock := hgrow9
   replace hgl9 : (Value.slice s0 xs.length cap).ownBlock = some g ∨ g = _ := hgl9
   refine hK.out _ _ trivial (fun _ => ?_)
   clear hK K
   try go_simp
   have hfx := eQ hown9
   have hln : (cV cs xs.length).length = xs.length * 5 := fN (fun i hi => (HIT.out i hi).1)
   have hgb : base ≤ g := (aH hown9 rfl).1
   have hgx : g ≠ xb := by have := HLT.out; omega
   have z0 := hfx.1 (xs.length * 5) (.int .i64 0) (by rw [List.getElem?_append_right (by omega), hln, Nat.sub_self]; rfl)
   have z1 := hfx.1 (xs.length * 5 + 1) (.int .i64 0) (by rw [List.getElem?_append_right (by omega), hln, Nat.add_sub_cancel_left]; rfl)
   have z2 := hfx.1 (xs.length * 5 + 2) (.string ⟨#[]⟩) (by rw [List.getElem?_append_right (by omega), hln, Nat.add_sub_cancel_left]; rfl)
   have z3 := hfx.1 (xs.length * 5 + 3) (.slice none 0 0) (by rw [List.getElem?_append_right (by omega), hln, Nat.add_sub_cancel_left]; rfl)
   have z4 := hfx.1 (xs.length * 5 + 4) (.int .i64 0) (by rw [List.getElem?_append_right (by omega), hln, Nat.add_sub_cancel_left]; rfl)
   have fz0 := hfx.2 (xs.length * 5)
   have fz1 := hfx.2 (xs.length * 5 + 1)
   have fz2 := hfx.2 (xs.length * 5 + 2)
   have fz3 := hfx.2 (xs.length * 5 + 3)
   have fz4 := hfx.2 (xs.length * 5 + 4)
   have HOWN9 := zh hown9
   have HGR9 := zh hgrow9
   have HGL9 := zh hgl9
   have HX9 := zh (hgrow9.block xb (ad HX8.out) (fun e => by have h1 := (aH HOWN8.out e.symm).1; have := HLT.out; omega) |>.trans HX8.out)
   have x3 : w9.cell? ⟨xb, 3, none⟩ = some (.slice s0 xs.length cap) := aa HX9.out (j := 3) rfl
   have fx3 := ab HX9.out 3
   have HOWNF := zh (gW hown9 hln (.int .i64 op3) (.int .i64 num3) (.string text3) (.slice s3 n3 cap3) (.int .i64 pos3))
   have HGRF := zh (dW (o := xs.length * 5) (a := .int .i64 op3) (b := .int .i64 num3) (c := .string text3) (d := .slice s3 n3 cap3) (e := .int .i64 pos3) hgrow9 (hgl9.imp id (fun e => Nat.le_of_eq e.symm)))
   have HGF := zh (GrowOf.push (cap := cp) HIT8.out rfl (exK.mono HREP8.out (fun b hb => ⟨hb.1, fun e => by have h1 := (aH HOWN.out e).2; have h2 := hb.2.2; omega⟩)) HGRF.out hgl9 HOWNF.out)
   have HXF := zh ((HGRF.out.block xb (ad HX8.out) (fun e => by have h1 := (aH HOWN8.out e.symm).1; have := HLT.out; omega)).trans HX8.out)
   have HOF := zh (OnS.of_grown (T := fun b => b = xb ∨ base ≤ b) HGRF.out (fun k hk => Or.inr (aH HOWN8.out hk).1))
   have HRDF := zh ((HRD8.out).offS (HOF.out.set (k := xb) (Or.inl rfl) 3 (.slice (some ⟨g, 0, none⟩) (xs.length + 1) cp)) (fun b hb => hb.elim (fun e => e ▸ HNE.out.1) (fun e => Nat.lt_of_lt_of_le HLT.out.1 e)))
   have HOT := zh (((OnS.of_on HO8.out (Or.inl rfl) : OnS (fun b => b = rb ∨ b = xb ∨ base ≤ b) w _).trans (HOF.out.mono (fun b hb => Or.inr hb))).set (k := xb) (Or.inr (Or.inl rfl)) 3 (.slice (some ⟨g, 0, none⟩) (xs.length + 1) cp))
   have HGX := zh (HGF.out.keep (Stays.of_on ((On.refl xb _).set 3 (.slice (some ⟨g, 0, none⟩) (xs.length + 1) cp)) HLT.out.2.1))
   have FIN : Hid (PSaysT rb en (fun b => b = rb ∨ b = xb ∨ base ≤ b) w (nO xb base (fun v => #[.int .i64 op, .int .i64 num, .string text, v, .int .i64 pos]) 65 xs) (P l) (.returned (.tuple #[])) ((cK w9 g (xs.length * 5) (.int .i64 op3) (.int .i64 num3) (.string text3) (.slice s3 n3 cap3) (.int .i64 pos3)).setCell ⟨xb, 3, none⟩ (.slice (some ⟨g, 0, none⟩) (xs.length + 1) cp))) := zh (PSaysT.ok HM.out ⟨rfl, .slice (some ⟨g, 0, none⟩) (xs.length + 1) cp, ai HXF.out 3 _, HGX.out⟩ HRDF.out HOT.out)
   clear hfx hown9 hgrow9 hgl9 hln
   have hix : (xs.length : Int) < (xs.length : Int) + 1 := by omega
   refine tkA 9 ?_
   refine tkA 11 ?_
   refine wpAnyH_ready (rs := [10, 12]) (by kernel_rfl) (by simp) ?_
   refine (AllReadyH.cons rfl (fun K hK => ?_) (AllReadyH.cons rfl (fun K hK => ?_) AllReadyH.nil))
   ·go_simp
    refine hK.out _ _ trivial (fun _ => ?_)
    clear hK K
    try go_simp
    refine rd1 12 fun K hK => ?_
    go_simp
    refine hK.out _ _ trivial (fun _ => ?_)
    clear hK K
    try go_simp
    refine wpAnyH_done (by kernel_rfl) ?_ _
    go_end0
    have hfin := FIN.out
    unfold cK at hfin
    exact hfin
   ·go_simp
    refine hK.out _ _ trivial (fun _ => ?_)
    clear hK K
    try go_simp
    refine rd1 10 fun K hK => ?_
    go_simp
    refine hK.out _ _ trivial (fun _ => ?_)
    clear hK K
    try go_simp
    refine wpAnyH_done (by kernel_rfl) ?_ _
    go_end0
    have hfin := FIN.out
    rw [← eA _ _ _ _ _ _ _ hgx] at hfin
    unfold cK at hfin
    exact hfin
theorem cP (rb xb bb db base : Nat) (d en : Int) (hd0 : 0 ≤ d) (hd : d ≤ 100) (P : Par Ex) (HE : bP rb en 101 #[.pointer (some ⟨rb, 0, none⟩), .int .i64 (d + 1)] P) (hlt : rb < base ∧ xb < base ∧ bb < base ∧ db < base) (hne : rb < xb ∧ rb < bb ∧ rb < db)
    (l : List Tk) (w : World) (h : RdAt w rb l en) (hbb : w.cell? ⟨bb, 0, none⟩ = some (.pointer (some ⟨rb, 0, none⟩))) (hdb : w.cell? ⟨db, 0, none⟩ = some (.int .i64 d)) (hbase : base ≤ w.heap.size)
    (op : Int) (text : ByteArray) (vb vl : Value) (pos : Int) (v : Value) (hx : w.heap[xb]? = some (.cells #[.int .i64 op, .string text, v, vb, vl, .int .i64 pos] 62)) (xs : List Ex) (hn : xs.length ≤ 100000) (hg : GrowOf exK base 65 5 w v xs) :
    Calls Tryz.prog 100 #[.pointer (some ⟨xb, 0, none⟩), .pointer (some ⟨bb, 0, none⟩), .pointer (some ⟨db, 0, none⟩)] w
     (PSaysT rb en (fun b => b = rb ∨ b = xb ∨ base ≤ b) w (nO xb base (fun v => #[.int .i64 op, .string text, v, vb, vl, .int .i64 pos]) 62 xs) (P l)) := by
 obtain ⟨cs, hown, hit⟩ := hg
 obtain ⟨s0, cap, rfl, hle, hcm, hnn, _⟩ := aY hown
 have HEE := zh HE
 have HH := zh h
 have HOWN := zh hown
 have HIT := zh hit
 have HX := zh hx
 have HLT := zh hlt
 have HNE := zh hne
 have HBS := zh hbase
 have HNX := zh hn
 have q0 : w.cell? ⟨xb, 2, none⟩ = some (.slice s0 xs.length cap) := aa hx (j := 2) rfl
 have q1 := hbb
 have q2 := hdb
 have HQ := zh (And.intro q0 (And.intro q1 q2))
 have hw1 : IntKind.i64.wrap (d + 1) = d + 1 := IntWalk.i64_in _ (by omega)
 unfold maxLen at hcm
 obtain ⟨i0, hi0, hz0, hz1, hz2⟩ := oY
 have HI0 := zh hi0
 clear HE h hown hit hx hlt hne hbase hn hbb hdb hi0 hnn
 go_enter Tryz.func100, Tryz.ntmps100
 refine fI (S := (fun w' => w'.cell? ⟨xb, 2, none⟩ = some (.slice s0 xs.length cap) ∧ w'.cell? ⟨bb, 0, none⟩ = some (.pointer (some ⟨rb, 0, none⟩)) ∧ w'.cell? ⟨db, 0, none⟩ = some (.int .i64 d))) 8 (by kernel_rfl) (by kernel_rfl) (by (first | exact ⟨q0, q1, q2⟩ | exact ⟨aj _ q0, aj _ q1, aj _ q2⟩)) (fun hHeld => ?_)
 simp only [List.take_succ_cons, List.take_zero]
 refine tkA 0 ?_
 refine tkA 1 ?_
 refine tkA 2 ?_
 refine tkA 3 ?_
 refine tkA 4 ?_
 refine tkA 6 ?_
 refine wpAnyH_ready (rs := [5, 7]) (by kernel_rfl) (by simp) ?_
 refine (AllReadyH.cons rfl (fun K hK => ?_) (AllReadyH.cons rfl (fun K hK => ?_) AllReadyH.nil))
 ·go_simp
  go_at_call 101
  refine (HEE.out l _ (HH.out.on (av (Below.refl _ _)))).mono ?_
  rintro e w3 hp
  rcases hp.cases with ⟨er, p, hm, rfl, ho⟩ | ⟨y, r, v3, hm, rfl, hv, hr, ho⟩
  ·have ho3 := (On.of_below (av (Below.refl _ _)) : On rb w _).trans ho
   have HO3 := zh ho3
   have HM := zh hm
   clear hp hm ho ho3
   unfold Pan
   (try go_wp2_with fail)
   exact ⟨rfl, PSaysT.err HM.out (OnS.of_on HO3.out (Or.inl rfl))⟩
  ·have ho3 := (On.of_below (av (Below.refl _ _)) : On rb w _).trans ho
   have HM := zh hm
   have HR3 := zh hr
   have HO3 := zh ho3
   have HTS := zh ho.size
   replace q0 := ho3.cell (Nat.ne_of_gt HNE.out.1) HQ.out.1
   replace q1 := ho3.cell (Nat.ne_of_gt HNE.out.2.1) HQ.out.2.1
   replace q2 := ho3.cell (Nat.ne_of_gt HNE.out.2.2) HQ.out.2.2
   obtain ⟨op3, num3, text3, s3, n3, cap3, pos3, rfl, hrep3⟩ := hv
   have HREP3 := zh hrep3
   clear hp hm hr hrep3 ho ho3
   refine hK.out _ _ ?_ (fun hHeld => ?_)
   ·(try dsimp only)
    (first | exact ⟨q0, q1, q2⟩ | exact ⟨aj _ q0, aj _ q1, aj _ q2⟩)
   clear hK K
   try go_simp
   refine rd1 7 fun K hK => ?_
   go_simp
   refine hK.out _ _ ?_ (fun hHeld => ?_)
   ·(try dsimp only)
    (first | exact ⟨q0, q1, q2⟩ | exact ⟨aj _ q0, aj _ q1, aj _ q2⟩)
   clear hK K
   try go_simp
   have HB8 := zh (ae (Below.refl w3.heap.size w3) (.cells #[.int .i64 0, .int .i64 0, .string ⟨#[]⟩, .slice none 0 0, .int .i64 0] 65))
   have HZ8 := zh (ah w3 (.cells #[.int .i64 0, .int .i64 0, .string ⟨#[]⟩, .slice none 0 0, .int .i64 0] 65) _ rfl)
   have HO8 := zh (HO3.out.trans (On.of_below HB8.out))
   have HRD8 := zh (HR3.out.on HB8.out)
   have HREP8 := zh ((HREP3.out.lies.mono (S' := fun b => base ≤ b ∧ b < w3.heap.size ∧ (w.heap.size ≤ b)) (fun b hb => ⟨Nat.le_trans HBS.out hb.1, hb.2, hb.1⟩)).keep (Stays.of_below HB8.out))
   refine wpAnyH_done (by kernel_rfl) ?_ _
   show wpAny _ _ _ _ 5 _ _ _
   refine wpAny_of_held (S := fun _ => True) _ _ _ _ ?_
   have hst8 : Stays (bA base) w (w3.alloc (.cells #[.int .i64 0, .int .i64 0, .string ⟨#[]⟩, .slice none 0 0, .int .i64 0] 65)) := Stays.of_on HO8.out HLT.out.1
   have hown8 := bO HOWN.out hst8
   have HIT8 := zh (HIT.out.keep hst8)
   have HX8 := zh (HO8.out.obj (Nat.ne_of_gt HNE.out.1) HX.out)
   have HBS8 := zh (Nat.le_trans HBS.out HO8.out.size)
   have HOWN8 := zh hown8
   clear hst8 hown8
   have htr : True := trivial
   refine rd1 8 fun K hK => ?_
   refine step_append_lies _ rfl _ _ _ rfl base 65 i0 (.agg #[.int .i64 0, .int .i64 0, .string ⟨#[]⟩, .slice none 0 0, .int .i64 0]) 5 64 Tryz.underlying60 HI0.out hz0 hz1 hz2 rfl (by decide) _ xs.length (cV cs xs.length) rfl HOWN8.out ⟨w3.heap.size, 0, none⟩ 1 1 [.int .i64 0, .int .i64 0, .string ⟨#[]⟩, .slice none 0 0, .int .i64 0] rfl rfl (fZ HZ8.out) (by intro u hu; simp at hu; rcases hu with rfl | rfl | rfl | rfl <;> rfl) (by decide) (by have := HNX.out; unfold maxLen; omega) (by have := HNX.out; omega) HBS8.out _ rfl ?_
   intro g cp w9 hown9 hgrow9 hgl9 hlt9
   replace hgrow9 : World.grownBy _ w9 (Value.slice s0 xs.length cap).ownBlock := hgrow9
   replace hgl9 : (Value.slice s0 xs.length cap).ownBlock = some g ∨ g = _ := hgl9
   refine hK.out _ _ trivial (fun _ => ?_)
   clear hK K
   try go_simp
   have hfx := eQ hown9
   have hln : (cV cs xs.length).length = xs.length * 5 := fN (fun i hi => (HIT.out i hi).1)
   have hgb : base ≤ g := (aH hown9 rfl).1
   have hgx : g ≠ xb := by have := HLT.out; omega
   have z0 := hfx.1 (xs.length * 5) (.int .i64 0) (by rw [List.getElem?_append_right (by omega), hln, Nat.sub_self]; rfl)
   have z1 := hfx.1 (xs.length * 5 + 1) (.int .i64 0) (by rw [List.getElem?_append_right (by omega), hln, Nat.add_sub_cancel_left]; rfl)
   have z2 := hfx.1 (xs.length * 5 + 2) (.string ⟨#[]⟩) (by rw [List.getElem?_append_right (by omega), hln, Nat.add_sub_cancel_left]; rfl)
   have z3 := hfx.1 (xs.length * 5 + 3) (.slice none 0 0) (by rw [List.getElem?_append_right (by omega), hln, Nat.add_sub_cancel_left]; rfl)
   have z4 := hfx.1 (xs.length * 5 + 4) (.int .i64 0) (by rw [List.getElem?_append_right (by omega), hln, Nat.add_sub_cancel_left]; rfl)
   have fz0 := hfx.2 (xs.length * 5)
   have fz1 := hfx.2 (xs.length * 5 + 1)
   have fz2 := hfx.2 (xs.length * 5 + 2)
   have fz3 := hfx.2 (xs.length * 5 + 3)
   have fz4 := hfx.2 (xs.length * 5 + 4)
   have HOWN9 := zh hown9
   have HGR9 := zh hgrow9
   have HGL9 := zh hgl9
   have HX9 := zh (hgrow9.block xb (ad HX8.out) (fun e => by have h1 := (aH HOWN8.out e.symm).1; have := HLT.out; omega) |>.trans HX8.out)
   have x3 : w9.cell? ⟨xb, 2, none⟩ = some (.slice s0 xs.length cap) := aa HX9.out (j := 2) rfl
   have fx3 := ab HX9.out 2
   have HOWNF := zh (gW hown9 hln (.int .i64 op3) (.int .i64 num3) (.string text3) (.slice s3 n3 cap3) (.int .i64 pos3))
   have HGRF := zh (dW (o := xs.length * 5) (a := .int .i64 op3) (b := .int .i64 num3) (c := .string text3) (d := .slice s3 n3 cap3) (e := .int .i64 pos3) hgrow9 (hgl9.imp id (fun e => Nat.le_of_eq e.symm)))
   have HGF := zh (GrowOf.push (cap := cp) HIT8.out rfl (exK.mono HREP8.out (fun b hb => ⟨hb.1, fun e => by have h1 := (aH HOWN.out e).2; have h2 := hb.2.2; omega⟩)) HGRF.out hgl9 HOWNF.out)
   have HXF := zh ((HGRF.out.block xb (ad HX8.out) (fun e => by have h1 := (aH HOWN8.out e.symm).1; have := HLT.out; omega)).trans HX8.out)
   have HOF := zh (OnS.of_grown (T := fun b => b = xb ∨ base ≤ b) HGRF.out (fun k hk => Or.inr (aH HOWN8.out hk).1))
   have HRDF := zh ((HRD8.out).offS (HOF.out.set (k := xb) (Or.inl rfl) 2 (.slice (some ⟨g, 0, none⟩) (xs.length + 1) cp)) (fun b hb => hb.elim (fun e => e ▸ HNE.out.1) (fun e => Nat.lt_of_lt_of_le HLT.out.1 e)))
   have HOT := zh (((OnS.of_on HO8.out (Or.inl rfl) : OnS (fun b => b = rb ∨ b = xb ∨ base ≤ b) w _).trans (HOF.out.mono (fun b hb => Or.inr hb))).set (k := xb) (Or.inr (Or.inl rfl)) 2 (.slice (some ⟨g, 0, none⟩) (xs.length + 1) cp))
   have HGX := zh (HGF.out.keep (Stays.of_on ((On.refl xb _).set 2 (.slice (some ⟨g, 0, none⟩) (xs.length + 1) cp)) HLT.out.2.1))
   have FIN : Hid (PSaysT rb en (fun b => b = rb ∨ b = xb ∨ base ≤ b) w (nO xb base (fun v => #[.int .i64 op, .string text, v, vb, vl, .int .i64 pos]) 62 xs) (P l) (.returned (.tuple #[])) ((cK w9 g (xs.length * 5) (.int .i64 op3) (.int .i64 num3) (.string text3) (.slice s3 n3 cap3) (.int .i64 pos3)).setCell ⟨xb, 2, none⟩ (.slice (some ⟨g, 0, none⟩) (xs.length + 1) cp))) := zh (PSaysT.ok HM.out ⟨rfl, .slice (some ⟨g, 0, none⟩) (xs.length + 1) cp, ai HXF.out 2 _, HGX.out⟩ HRDF.out HOT.out)
   clear hfx hown9 hgrow9 hgl9 hln
   have hix : (xs.length : Int) < (xs.length : Int) + 1 := by omega
   refine tkA 9 ?_
   refine tkA 11 ?_
   refine wpAnyH_ready (rs := [10, 12]) (by kernel_rfl) (by simp) ?_
   refine (AllReadyH.cons rfl (fun K hK => ?_) (AllReadyH.cons rfl (fun K hK => ?_) AllReadyH.nil))
   ·go_simp
    refine hK.out _ _ trivial (fun _ => ?_)
    clear hK K
    try go_simp
    refine rd1 12 fun K hK => ?_
    go_simp
    refine hK.out _ _ trivial (fun _ => ?_)
    clear hK K
    try go_simp
    refine wpAnyH_done (by kernel_rfl) ?_ _
    go_end0
    have hfin := FIN.out
    unfold cK at hfin
    exact hfin
   ·go_simp
    refine hK.out _ _ trivial (fun _ => ?_)
    clear hK K
    try go_simp
    refine rd1 10 fun K hK => ?_
    go_simp
    refine hK.out _ _ trivial (fun _ => ?_)
    clear hK K
    try go_simp
    refine wpAnyH_done (by kernel_rfl) ?_ _
    go_end0
    have hfin := FIN.out
    rw [← eA _ _ _ _ _ _ _ hgx] at hfin
    unfold cK at hfin
    exact hfin
 ·go_simp
  refine hK.out _ _ ?_ (fun hHeld => ?_)
  ·(try dsimp only)
   (first | exact ⟨q0, q1, q2⟩ | exact ⟨aj _ q0, aj _ q1, aj _ q2⟩)
  clear hK K
  try go_simp
  refine rd1 5 fun K hK => ?_
  go_simp
  go_at_call 101
  refine (HEE.out l _ (HH.out.on (av (ae (Below.refl w.heap.size w) (.cells #[.int .i64 0, .int .i64 0, .string ⟨#[]⟩, .slice none 0 0, .int .i64 0] 65))))).mono ?_
  rintro e w3 hp
  rcases hp.cases with ⟨er, p, hm, rfl, ho⟩ | ⟨y, r, v3, hm, rfl, hv, hr, ho⟩
  ·have ho3 := (On.of_below (av (ae (Below.refl w.heap.size w) (.cells #[.int .i64 0, .int .i64 0, .string ⟨#[]⟩, .slice none 0 0, .int .i64 0] 65))) : On rb w _).trans ho
   have HO3 := zh ho3
   have HM := zh hm
   clear hp hm ho ho3
   unfold Pan
   (try go_wp2_with fail)
   exact ⟨rfl, PSaysT.err HM.out (OnS.of_on HO3.out (Or.inl rfl))⟩
  ·have ho3 := (On.of_below (av (ae (Below.refl w.heap.size w) (.cells #[.int .i64 0, .int .i64 0, .string ⟨#[]⟩, .slice none 0 0, .int .i64 0] 65))) : On rb w _).trans ho
   have HM := zh hm
   have HR3 := zh hr
   have HO3 := zh ho3
   have HTS := zh ho.size
   replace q0 := ho3.cell (Nat.ne_of_gt HNE.out.1) HQ.out.1
   replace q1 := ho3.cell (Nat.ne_of_gt HNE.out.2.1) HQ.out.2.1
   replace q2 := ho3.cell (Nat.ne_of_gt HNE.out.2.2) HQ.out.2.2
   obtain ⟨op3, num3, text3, s3, n3, cap3, pos3, rfl, hrep3⟩ := hv
   have HZ8 := zh (ho.obj (k' := w.heap.size) (by have := HH.out.lt; omega) (ah w (.cells #[.int .i64 0, .int .i64 0, .string ⟨#[]⟩, .slice none 0 0, .int .i64 0] 65) _ rfl))
   have HREP3 := zh hrep3
   clear hp hm hr hrep3 ho ho3
   refine hK.out _ _ ?_ (fun hHeld => ?_)
   ·(try dsimp only)
    (first | exact ⟨q0, q1, q2⟩ | exact ⟨aj _ q0, aj _ q1, aj _ q2⟩)
   clear hK K
   try go_simp
   have HO8 := HO3
   have HRD8 := HR3
   have HREP8 := zh (HREP3.out.lies.mono (S' := fun b => base ≤ b ∧ b < w3.heap.size ∧ (w.heap.size ≤ b)) (fun b hb => by have h1 : w.heap.size + 1 ≤ b := ag w _ ▸ hb.1; exact ⟨Nat.le_trans HBS.out (by omega), hb.2, by omega⟩))
   refine wpAnyH_done (by kernel_rfl) ?_ _
   show wpAny _ _ _ _ 5 _ _ _
   refine wpAny_of_held (S := fun _ => True) _ _ _ _ ?_
   have hst8 : Stays (bA base) w w3 := Stays.of_on HO8.out HLT.out.1
   have hown8 := bO HOWN.out hst8
   have HIT8 := zh (HIT.out.keep hst8)
   have HX8 := zh (HO8.out.obj (Nat.ne_of_gt HNE.out.1) HX.out)
   have HBS8 := zh (Nat.le_trans HBS.out HO8.out.size)
   have HOWN8 := zh hown8
   clear hst8 hown8
   have htr : True := trivial
   refine rd1 8 fun K hK => ?_
   refine step_append_lies _ rfl _ _ _ rfl base 65 i0 (.agg #[.int .i64 0, .int .i64 0, .string ⟨#[]⟩, .slice none 0 0, .int .i64 0]) 5 64 Tryz.underlying60 HI0.out hz0 hz1 hz2 rfl (by decide) _ xs.length (cV cs xs.length) rfl HOWN8.out ⟨w.heap.size, 0, none⟩ 1 1 [.int .i64 0, .int .i64 0, .string ⟨#[]⟩, .slice none 0 0, .int .i64 0] rfl rfl (fZ HZ8.out) (by intro u hu; simp at hu; rcases hu with rfl | rfl | rfl | rfl <;> rfl) (by decide) (by have := HNX.out; unfold maxLen; omega) (by have := HNX.out; omega) HBS8.out _ rfl ?_
   intro g cp w9 hown9 hgrow9 hgl9 hlt9
   replace hgrow9 : World.grownBy _ w9 (Value.slice s0 xs.length cap).ownBlock := hgrow9
   replace hgl9 : (Value.slice s0 xs.length cap).ownBlock = some g ∨ g = _ := hgl9
   refine hK.out _ _ trivial (fun _ => ?_)
   clear hK K
   try go_simp
   have hfx := eQ hown9
   have hln : (cV cs xs.length).length = xs.length * 5 := fN (fun i hi => (HIT.out i hi).1)
   have hgb : base ≤ g := (aH hown9 rfl).1
   have hgx : g ≠ xb := by have := HLT.out; omega
   have z0 := hfx.1 (xs.length * 5) (.int .i64 0) (by rw [List.getElem?_append_right (by omega), hln, Nat.sub_self]; rfl)
   have z1 := hfx.1 (xs.length * 5 + 1) (.int .i64 0) (by rw [List.getElem?_append_right (by omega), hln, Nat.add_sub_cancel_left]; rfl)
   have z2 := hfx.1 (xs.length * 5 + 2) (.string ⟨#[]⟩) (by rw [List.getElem?_append_right (by omega), hln, Nat.add_sub_cancel_left]; rfl)
   have z3 := hfx.1 (xs.length * 5 + 3) (.slice none 0 0) (by rw [List.getElem?_append_right (by omega), hln, Nat.add_sub_cancel_left]; rfl)
   have z4 := hfx.1 (xs.length * 5 + 4) (.int .i64 0) (by rw [List.getElem?_append_right (by omega), hln, Nat.add_sub_cancel_left]; rfl)
   have fz0 := hfx.2 (xs.length * 5)
   have fz1 := hfx.2 (xs.length * 5 + 1)
   have fz2 := hfx.2 (xs.length * 5 + 2)
   have fz3 := hfx.2 (xs.length * 5 + 3)
   have fz4 := hfx.2 (xs.length * 5 + 4)
   have HOWN9 := zh hown9
   have HGR9 := zh hgrow9
   have HGL9 := zh hgl9
   have HX9 := zh (hgrow9.block xb (ad HX8.out) (fun e => by have h1 := (aH HOWN8.out e.symm).1; have := HLT.out; omega) |>.trans HX8.out)
   have x3 : w9.cell? ⟨xb, 2, none⟩ = some (.slice s0 xs.length cap) := aa HX9.out (j := 2) rfl
   have fx3 := ab HX9.out 2
   have HOWNF := zh (gW hown9 hln (.int .i64 op3) (.int .i64 num3) (.string text3) (.slice s3 n3 cap3) (.int .i64 pos3))
   have HGRF := zh (dW (o := xs.length * 5) (a := .int .i64 op3) (b := .int .i64 num3) (c := .string text3) (d := .slice s3 n3 cap3) (e := .int .i64 pos3) hgrow9 (hgl9.imp id (fun e => Nat.le_of_eq e.symm)))
   have HGF := zh (GrowOf.push (cap := cp) HIT8.out rfl (exK.mono HREP8.out (fun b hb => ⟨hb.1, fun e => by have h1 := (aH HOWN.out e).2; have h2 := hb.2.2; omega⟩)) HGRF.out hgl9 HOWNF.out)
   have HXF := zh ((HGRF.out.block xb (ad HX8.out) (fun e => by have h1 := (aH HOWN8.out e.symm).1; have := HLT.out; omega)).trans HX8.out)
   have HOF := zh (OnS.of_grown (T := fun b => b = xb ∨ base ≤ b) HGRF.out (fun k hk => Or.inr (aH HOWN8.out hk).1))
   have HRDF := zh ((HRD8.out).offS (HOF.out.set (k := xb) (Or.inl rfl) 2 (.slice (some ⟨g, 0, none⟩) (xs.length + 1) cp)) (fun b hb => hb.elim (fun e => e ▸ HNE.out.1) (fun e => Nat.lt_of_lt_of_le HLT.out.1 e)))
   have HOT := zh (((OnS.of_on HO8.out (Or.inl rfl) : OnS (fun b => b = rb ∨ b = xb ∨ base ≤ b) w _).trans (HOF.out.mono (fun b hb => Or.inr hb))).set (k := xb) (Or.inr (Or.inl rfl)) 2 (.slice (some ⟨g, 0, none⟩) (xs.length + 1) cp))
   have HGX := zh (HGF.out.keep (Stays.of_on ((On.refl xb _).set 2 (.slice (some ⟨g, 0, none⟩) (xs.length + 1) cp)) HLT.out.2.1))
   have FIN : Hid (PSaysT rb en (fun b => b = rb ∨ b = xb ∨ base ≤ b) w (nO xb base (fun v => #[.int .i64 op, .string text, v, vb, vl, .int .i64 pos]) 62 xs) (P l) (.returned (.tuple #[])) ((cK w9 g (xs.length * 5) (.int .i64 op3) (.int .i64 num3) (.string text3) (.slice s3 n3 cap3) (.int .i64 pos3)).setCell ⟨xb, 2, none⟩ (.slice (some ⟨g, 0, none⟩) (xs.length + 1) cp))) := zh (PSaysT.ok HM.out ⟨rfl, .slice (some ⟨g, 0, none⟩) (xs.length + 1) cp, ai HXF.out 2 _, HGX.out⟩ HRDF.out HOT.out)
   clear hfx hown9 hgrow9 hgl9 hln
   have hix : (xs.length : Int) < (xs.length : Int) + 1 := by omega
   refine tkA 9 ?_
   refine tkA 11 ?_
   refine wpAnyH_ready (rs := [10, 12]) (by kernel_rfl) (by simp) ?_
   refine (AllReadyH.cons rfl (fun K hK => ?_) (AllReadyH.cons rfl (fun K hK => ?_) AllReadyH.nil))
   ·go_simp
    refine hK.out _ _ trivial (fun _ => ?_)
    clear hK K
    try go_simp
    refine rd1 12 fun K hK => ?_
    go_simp
    refine hK.out _ _ trivial (fun _ => ?_)
    clear hK K
    try go_simp
    refine wpAnyH_done (by kernel_rfl) ?_ _
    go_end0
    have hfin := FIN.out
    unfold cK at hfin
    exact hfin
   ·go_simp
    refine hK.out _ _ trivial (fun _ => ?_)
    clear hK K
    try go_simp
    refine rd1 10 fun K hK => ?_
    go_simp
    refine hK.out _ _ trivial (fun _ => ?_)
    clear hK K
    try go_simp
    refine wpAnyH_done (by kernel_rfl) ?_ _
    go_end0
    have hfin := FIN.out
    rw [← eA _ _ _ _ _ _ _ hgx] at hfin
    unfold cK at hfin
    exact hfin
end
end Go.Proofs.YtjblihabklemfaaGreatDoor
