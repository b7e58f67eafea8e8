/-
  Compile: part 13 of its proof: see the last text.
-/
import Derived.Test.YtjblihabklemfaaGreatDoorPm11
set_option maxRecDepth 100000
set_option maxHeartbeats 16000000
namespace Go.Proofs.YtjblihabklemfaaGreatDoor
section
open Go.RowKit
theorem o2 (k n p : Int) (t : ByteArray) (W : World) : (Instr.field 110 (.agg #[.int .i64 k, .string t, .int .i64 n, .int .i64 p]) 2).run Tryz.prog W = .ok (.int .i64 n) W := by kernel_rfl
theorem oy {en : Int} (t : Tk) (r : List Tk) : dv en t.kind (t :: r) = .ok (t, r) := by
 unfold dv
 dsimp only
 rw [if_pos (by simp)]
theorem lQ (rb : Nat) (d : Int) (hd0 : 0 ≤ d) (hd : d ≤ 32) (en : Int) (E : Par Ex) (HE : bP rb en 101 #[.pointer (some ⟨rb, 0, none⟩), .int .i64 (d + 1)] E) (hE : ∀ l x r, E l = .ok (x, r) → r.length < l.length) : bP rb en 136 #[.pointer (some ⟨rb, 0, none⟩), .int .i64 d] (cU en E) := by
 intro l w h
 have HEE := zh HE
 have HLT := zh h.lt
 have HINN := zh (oa rb d hd0 hd en E HE)
 have HB0 := zh (ae (ae (ae (Below.refl w.heap.size w) (.cells #[.pointer (some ⟨rb, 0, none⟩)] 86)) (.cells #[.int .i64 d] 3)) (.cells #[.int .i64 0, .int .i64 0, .string ⟨#[]⟩, .slice none 0 0, .int .i64 0] 65))
 have HRD := zh (h.on HB0.out)
 have HON := zh (On.of_below HB0.out : On rb w _)
 generalize hR : cU en E l = R
 have HF := zh hR.symm
 generalize hpl : aM en l = pl at *
 have HPL := zh hpl
 have HBR := zh (au _ _ (.cells #[.int .i64 0, .int .i64 0, .string ⟨#[]⟩, .slice none 0 0, .int .i64 0] 65) _ (au _ _ (.cells #[.int .i64 d] 3) _ (ah w (.cells #[.pointer (some ⟨rb, 0, none⟩)] 86) _ rfl)))
 have HBD := zh (au _ _ (.cells #[.int .i64 0, .int .i64 0, .string ⟨#[]⟩, .slice none 0 0, .int .i64 0] 65) _ (ah (w.alloc (.cells #[.pointer (some ⟨rb, 0, none⟩)] 86)) (.cells #[.int .i64 d] 3) _ (ag _ _)))
 have HRES := zh (ah ((w.alloc (.cells #[.pointer (some ⟨rb, 0, none⟩)] 86)).alloc (.cells #[.int .i64 d] 3)) (.cells #[.int .i64 0, .int .i64 0, .string ⟨#[]⟩, .slice none 0 0, .int .i64 0] 65) (w.heap.size + 1 + 1) (by rw [ag, ag]))
 have HSH := zh hE
 clear HE h hR hpl hE
 go_enter Tryz.func136, Tryz.ntmps136
 go_wp2_with fail
 refine (dZ rb l en _ HRD.out).mono ?_
 rintro e w1 ⟨rfl, rfl⟩
 rw [HPL.out]
 generalize hW0 : ((w.alloc (.cells #[.pointer (some ⟨rb, 0, none⟩)] 86)).alloc (.cells #[.int .i64 d] 3)).alloc (.cells #[.int .i64 0, .int .i64 0, .string ⟨#[]⟩, .slice none 0 0, .int .i64 0] 65) = W0 at *
 have HZ0 := zh (show W0.heap.size = w.heap.size + 1 + 1 + 1 from by rw [← hW0, ag, ag, ag])
 have HNB := zh (show W0.heap.size ≠ rb ∧ w.heap.size + 1 + 1 ≠ rb ∧ w.heap.size ≠ rb ∧ w.heap.size + 1 ≠ rb from by have := HLT.out; have := HZ0.out; omega)
 have hl0 : w.heap.size < W0.heap.size ∧ w.heap.size + 1 < W0.heap.size ∧ w.heap.size + 1 + 1 < W0.heap.size ∧ rb < W0.heap.size := by have := HZ0.out; have := HLT.out; omega
 have HBX := zh (ae (Below.refl W0.heap.size W0) (.cells #[.int .i64 0, .int .i64 0, .string ⟨#[]⟩, .slice none 0 0, .int .i64 pl] 65))
 clear hW0
 cases l with
 | nil =>
  obtain ⟨s0, cap, hc0, hle, hcm, _, _⟩ := HRD.out.rest
  have hcc : W0.cell? ⟨rb, 0, none⟩ = some (.slice s0 0 cap) := hc0
  clear hc0 hle hcm
  have b0 := aa HBR.out (j := 0) rfl
  have b1 := aa HBD.out (j := 0) rfl
  replace HF := zh (show R = fo en E [] from HF.out)
  obtain ⟨L, hL⟩ : ∃ L : List Tk, L = [] := ⟨_, rfl⟩
  rw [← hL] at HF HRD
  have HNIL := zh (fun s => show atS L 0 s = false from by rw [hL]; exact i6 0 s)
  replace HPL := zh (show aM en L = pl from by rw [hL]; exact HPL.out)
  clear hL
  go_wp2_with fail
  clear b0 b1 hcc
  have HX := zh (ah W0 (.cells #[.int .i64 0, .int .i64 0, .string ⟨#[]⟩, .slice none 0 0, .int .i64 pl] 65) _ rfl)
  replace HBR := zh ((HBX.out.block _ (ad HBR.out)).trans HBR.out)
  replace HBD := zh ((HBX.out.block _ (ad HBD.out)).trans HBD.out)
  replace HRES := zh ((HBX.out.block _ (ad HRES.out)).trans HRES.out)
  replace HON := zh (HON.out.trans (On.of_below HBX.out))
  replace HRD := zh (HRD.out.on HBX.out)
  replace HF := zh (HF.out.trans (if_neg (by rw [HNIL.out]; decide)))
  refine (b7 rb _ L en _ HRD.out (HNIL.out _)).mono ?_
  rintro e w2 ⟨rfl, hr, ho⟩
  replace HRD := zh hr
  replace HX := zh (ho.obj HNB.out.1 HX.out)
  replace HRES := zh (ho.obj HNB.out.2.1 HRES.out)
  replace HBR := zh (ho.obj HNB.out.2.2.1 HBR.out)
  replace HBD := zh (ho.obj HNB.out.2.2.2 HBD.out)
  replace HON := zh (HON.out.trans ho)
  clear hr ho
  have b0 := aa HBR.out (j := 0) rfl
  have b1 := aa HBD.out (j := 0) rfl
  go_wp2_with fail
  clear b0 b1
  replace HF := zh (HF.out.trans (if_neg (by rw [HNIL.out]; decide)))
  refine (b7 rb _ L en _ HRD.out (HNIL.out _)).mono ?_
  rintro e w3 ⟨rfl, hr, ho⟩
  replace HRD := zh hr
  replace HX := zh (ho.obj HNB.out.1 HX.out)
  replace HRES := zh (ho.obj HNB.out.2.1 HRES.out)
  replace HBR := zh (ho.obj HNB.out.2.2.1 HBR.out)
  replace HBD := zh (ho.obj HNB.out.2.2.2 HBD.out)
  replace HON := zh (HON.out.trans ho)
  clear hr ho
  have b0 := aa HBR.out (j := 0) rfl
  have b1 := aa HBD.out (j := 0) rfl
  go_wp2_with fail
  clear b0 b1
  replace HF := zh (HF.out.trans (if_neg (by rw [HNIL.out]; decide)))
  have HAT := zh (dS rb 0 bW L en _ HRD.out)
  rw [HNIL.out] at HAT
  refine HAT.out.mono ?_
  rintro e we ⟨rfl, rfl⟩
  clear HAT
  have b0 := aa HBR.out (j := 0) rfl
  have b1 := aa HBD.out (j := 0) rfl
  go_wp2_with fail
  clear b0 b1
  replace HF := zh (HF.out.trans (if_neg (by rw [HNIL.out]; decide)))
  refine (b7 rb _ L en _ HRD.out (HNIL.out _)).mono ?_
  rintro e w5 ⟨rfl, hr, ho⟩
  replace HRD := zh hr
  replace HX := zh (ho.obj HNB.out.1 HX.out)
  replace HRES := zh (ho.obj HNB.out.2.1 HRES.out)
  replace HBR := zh (ho.obj HNB.out.2.2.1 HBR.out)
  replace HBD := zh (ho.obj HNB.out.2.2.2 HBD.out)
  replace HON := zh (HON.out.trans ho)
  clear hr ho
  have b0 := aa HBR.out (j := 0) rfl
  have b1 := aa HBD.out (j := 0) rfl
  go_wp2_with fail
  clear b0 b1
  replace HF := zh (HF.out.trans (if_neg (by rw [HNIL.out]; decide)))
  refine (b7 rb _ L en _ HRD.out (HNIL.out _)).mono ?_
  rintro e w6 ⟨rfl, hr, ho⟩
  replace HRD := zh hr
  replace HX := zh (ho.obj HNB.out.1 HX.out)
  replace HRES := zh (ho.obj HNB.out.2.1 HRES.out)
  replace HBR := zh (ho.obj HNB.out.2.2.1 HBR.out)
  replace HBD := zh (ho.obj HNB.out.2.2.2 HBD.out)
  replace HON := zh (HON.out.trans ho)
  clear hr ho
  have b0 := aa HBR.out (j := 0) rfl
  have b1 := aa HBD.out (j := 0) rfl
  go_wp2_with fail
  clear b0 b1
  have HB := zh (ae (Below.refl w6.heap.size w6) (.cells #[.string ⟨[108, 101, 110].toArray⟩] 9))
  replace HX := zh ((HB.out.block _ (ad HX.out)).trans HX.out)
  replace HRES := zh ((HB.out.block _ (ad HRES.out)).trans HRES.out)
  replace HBR := zh ((HB.out.block _ (ad HBR.out)).trans HBR.out)
  replace HBD := zh ((HB.out.block _ (ad HBD.out)).trans HBD.out)
  replace HON := zh (HON.out.trans (On.of_below HB.out))
  refine (aU rb w6.heap.size _ L en _ (HRD.out.on HB.out) (aw _ _ _ _ _ _ rfl rfl)).mono ?_
  rintro e w7 hp
  rcases hp.cases with ⟨er, p, hm, rfl, ho⟩ | ⟨x, r2, v, hm, rfl, hv, hr, ho⟩
  ·have HE := zh (HF.out.trans (ay hm))
   replace HON := zh (HON.out.trans ho)
   clear hp hm ho
   unfold Pan
   go_wp2_with fail
   exact ⟨rfl, PSays.err HE.out HON.out⟩
  ·exfalso
   have hno := HNIL.out (str [108, 101, 110])
   unfold aX at hm
   rw [show (⟨[108, 101, 110].toArray⟩ : ByteArray) = str [108, 101, 110] from rfl, hno] at hm
   cases hm
 | cons t r =>
  obtain ⟨s0, cap, hc0, hle, hcm, hrow, hsb⟩ := HRD.out.rest
  obtain ⟨b, off, hs, hbl, hcell⟩ := hrow (by simp)
  subst hs
  obtain ⟨x0, x1, x2, x3⟩ := hcell 0 (by simp)
  have y0 : W0.cell? ⟨b, off, none⟩ = some (.int .i64 t.kind) := by simpa using x0
  have y1 : W0.cell? ⟨b, off + 1, none⟩ = some (.string t.text) := by simpa using x1
  have y2 : W0.cell? ⟨b, off + 2, none⟩ = some (.int .i64 t.num) := by simpa using x2
  have y3 : W0.cell? ⟨b, off + 3, none⟩ = some (.int .i64 t.pos) := by simpa using x3
  have hn2 : (0 : Int) < ((t :: r).length : Int) := by simp
  have hn3 : 0 < (t :: r).length := by simp
  have HFEW := zh HRD.out.few
  have HKS := zh (oy (en := en) t r)
  have HKD := zh (lO rb t.kind (t :: r) en)
  obtain rfl : pl = t.pos := HPL.out.symm
  clear hrow hsb hcell x0 x1 x2 x3 hle
  have HX := zh (ah W0 (.cells #[.int .i64 0, .int .i64 0, .string ⟨#[]⟩, .slice none 0 0, .int .i64 t.pos] 65) _ rfl)
  have HTK := zh (ae (Below.refl (W0.alloc (.cells #[.int .i64 0, .int .i64 0, .string ⟨#[]⟩, .slice none 0 0, .int .i64 t.pos] 65)).heap.size (W0.alloc (.cells #[.int .i64 0, .int .i64 0, .string ⟨#[]⟩, .slice none 0 0, .int .i64 t.pos] 65))) (.cells #[.int .i64 t.kind, .string t.text, .int .i64 t.num, .int .i64 t.pos] 110))
  have b0 := aa HBR.out (j := 0) rfl
  have b1 := aa HBD.out (j := 0) rfl
  by_cases hk : t.kind = 2
  ·replace HF := zh (HF.out.trans (if_pos hk))
   have hk2 : (t.kind == 2) = true := by simp [hk]
   clear hk
   go_wp2_with fail
   clear b0 b1 hc0 hn2 hn3 y0 y1 y2 y3 hcm
   replace HBR := zh ((HBX.out.block _ (ad HBR.out)).trans HBR.out)
   replace HBD := zh ((HBX.out.block _ (ad HBD.out)).trans HBD.out)
   replace HRES := zh ((HBX.out.block _ (ad HRES.out)).trans HRES.out)
   replace HON := zh (HON.out.trans (On.of_below HBX.out))
   replace HRD := zh (HRD.out.on HBX.out)
   have HXX := zh ((HTK.out.block _ (ad HX.out)).trans HX.out)
   replace HX := HXX
   replace HBR := zh ((HTK.out.block _ (ad HBR.out)).trans HBR.out)
   replace HBD := zh ((HTK.out.block _ (ad HBD.out)).trans HBD.out)
   replace HRES := zh ((HTK.out.block _ (ad HRES.out)).trans HRES.out)
   replace HON := zh (HON.out.trans (On.of_below HTK.out))
   replace HRD := zh (HRD.out.on HTK.out)
   refine (HKS.out ▸ HKD.out _ HRD.out).mono ?_
   rintro e w2 ⟨⟨v, rfl, hv, hr⟩, ho⟩
   subst hv
   replace HRD := zh hr
   replace HX := zh (ho.obj HNB.out.1 HX.out)
   replace HRES := zh (ho.obj HNB.out.2.1 HRES.out)
   replace HBR := zh (ho.obj HNB.out.2.2.1 HBR.out)
   replace HBD := zh (ho.obj HNB.out.2.2.2 HBD.out)
   replace HON := zh (HON.out.trans ho)
   clear hr ho
   unfold tkV
   have hfl := o2 t.kind t.num t.pos t.text w2
   have hset : On W0.heap.size w2 ((w2.setCell ⟨W0.heap.size, 0, none⟩ (.int .i64 1)).setCell ⟨W0.heap.size, 1, none⟩ (.int .i64 t.num)) := (On.set (On.set (On.refl _ _) 0 (.int .i64 1)) 1 (.int .i64 t.num))
   have hx := HX.out
   have hres0 := HRES.out
   have hnr : W0.heap.size ≠ (w.heap.size + 1 + 1) := by have := HZ0.out; omega
   have e0 := aa hx (j := 0) rfl
   have g0 := ab hx 0
   have e1 := aa hx (j := 1) rfl
   have g1 := ab hx 1
   have e2 := aa hx (j := 2) rfl
   have g2 := ab hx 2
   have e3 := aa hx (j := 3) rfl
   have g3 := ab hx 3
   have e4 := aa hx (j := 4) rfl
   have g4 := ab hx 4
   have c0 := aa hres0 (j := 0) rfl
   have f0 := ab hres0 0
   have c1 := aa hres0 (j := 1) rfl
   have f1 := ab hres0 1
   have c2 := aa hres0 (j := 2) rfl
   have f2 := ab hres0 2
   have c3 := aa hres0 (j := 3) rfl
   have f3 := ab hres0 3
   have c4 := aa hres0 (j := 4) rfl
   have f4 := ab hres0 4
   replace HRD := zh (HRD.out.off hset (by have := HLT.out; have := HZ0.out; omega))
   replace HON := zh (HON.out.new hset (by have := HZ0.out; omega))
   have HREPX := zh (show RepEx (bA (W0.heap.size + 1)) ((w2.setCell ⟨W0.heap.size, 0, none⟩ (.int .i64 1)).setCell ⟨W0.heap.size, 1, none⟩ (.int .i64 t.num)) _ _ from RepEx.of (op := 1) (num := t.num) (pos := t.pos) (text := ⟨#[]⟩) (RepExs.nil _ _))
   clear hx hres0 hset
   have b0 := aa HBR.out (j := 0) rfl
   have b1 := aa HBD.out (j := 0) rfl
   go_wp2_with fail
   have HSET : On (w.heap.size + 1 + 1) ((w2.setCell ⟨W0.heap.size, 0, none⟩ (.int .i64 1)).setCell ⟨W0.heap.size, 1, none⟩ (.int .i64 t.num)) (set5 ((w2.setCell ⟨W0.heap.size, 0, none⟩ (.int .i64 1)).setCell ⟨W0.heap.size, 1, none⟩ (.int .i64 t.num)) (w.heap.size + 1 + 1) (.int .i64 1) (.int .i64 t.num) (.string ⟨#[]⟩) (.slice none 0 0) (.int .i64 t.pos)) := (On.refl _ _).set5 _ _ _ _ _
   refine bodyPost_ret (v := .agg #[.int .i64 1, .int .i64 t.num, .string ⟨#[]⟩, .slice none 0 0, .int .i64 t.pos]) (by simp [results, Tryz.results136, go_sem, c0, c1, c2, c3, c4]) rfl ?_
   exact PSays.ok HF.out ⟨_, _, _, _, _, _, _, rfl, RepEx.down (base := W0.heap.size + 1) (base' := w.heap.size) (HREPX.out.keep (Stays.of_ne (S := bA (W0.heap.size + 1)) HSET (fun h => by have h' : W0.heap.size + 1 ≤ w.heap.size + 1 + 1 := h; have := HZ0.out; omega))) (by have := HZ0.out; omega)⟩ (HRD.out.off HSET (by have := HLT.out; omega)) (HON.out.new HSET (by omega))
  ·have hk2 := hk
   clear hk
   by_cases hk : t.kind = 3
   ·replace HF := zh ((HF.out.trans (if_neg hk2)).trans (if_pos hk))
    have hk2b : (t.kind == 2) = false := by simp [hk2]
    have hk3 : (t.kind == 3) = true := by simp [hk]
    clear hk hk2
    go_wp2_with fail
    clear b0 b1 hc0 hn2 hn3 y0 y1 y2 y3 hcm
    replace HBR := zh ((HBX.out.block _ (ad HBR.out)).trans HBR.out)
    replace HBD := zh ((HBX.out.block _ (ad HBD.out)).trans HBD.out)
    replace HRES := zh ((HBX.out.block _ (ad HRES.out)).trans HRES.out)
    replace HON := zh (HON.out.trans (On.of_below HBX.out))
    replace HRD := zh (HRD.out.on HBX.out)
    have HXX := zh ((HTK.out.block _ (ad HX.out)).trans HX.out)
    replace HX := HXX
    replace HBR := zh ((HTK.out.block _ (ad HBR.out)).trans HBR.out)
    replace HBD := zh ((HTK.out.block _ (ad HBD.out)).trans HBD.out)
    replace HRES := zh ((HTK.out.block _ (ad HRES.out)).trans HRES.out)
    replace HON := zh (HON.out.trans (On.of_below HTK.out))
    replace HRD := zh (HRD.out.on HTK.out)
    refine (HKS.out ▸ HKD.out _ HRD.out).mono ?_
    rintro e w2 ⟨⟨v, rfl, hv, hr⟩, ho⟩
    subst hv
    replace HRD := zh hr
    replace HX := zh (ho.obj HNB.out.1 HX.out)
    replace HRES := zh (ho.obj HNB.out.2.1 HRES.out)
    replace HBR := zh (ho.obj HNB.out.2.2.1 HBR.out)
    replace HBD := zh (ho.obj HNB.out.2.2.2 HBD.out)
    replace HON := zh (HON.out.trans ho)
    clear hr ho
    unfold tkV
    have hfl := jT t.kind t.num t.pos t.text w2
    have hset : On W0.heap.size w2 ((w2.setCell ⟨W0.heap.size, 0, none⟩ (.int .i64 3)).setCell ⟨W0.heap.size, 2, none⟩ (.string t.text)) := (On.set (On.set (On.refl _ _) 0 (.int .i64 3)) 2 (.string t.text))
    have hx := HX.out
    have hres0 := HRES.out
    have hnr : W0.heap.size ≠ (w.heap.size + 1 + 1) := by have := HZ0.out; omega
    have e0 := aa hx (j := 0) rfl
    have g0 := ab hx 0
    have e1 := aa hx (j := 1) rfl
    have g1 := ab hx 1
    have e2 := aa hx (j := 2) rfl
    have g2 := ab hx 2
    have e3 := aa hx (j := 3) rfl
    have g3 := ab hx 3
    have e4 := aa hx (j := 4) rfl
    have g4 := ab hx 4
    have c0 := aa hres0 (j := 0) rfl
    have f0 := ab hres0 0
    have c1 := aa hres0 (j := 1) rfl
    have f1 := ab hres0 1
    have c2 := aa hres0 (j := 2) rfl
    have f2 := ab hres0 2
    have c3 := aa hres0 (j := 3) rfl
    have f3 := ab hres0 3
    have c4 := aa hres0 (j := 4) rfl
    have f4 := ab hres0 4
    replace HRD := zh (HRD.out.off hset (by have := HLT.out; have := HZ0.out; omega))
    replace HON := zh (HON.out.new hset (by have := HZ0.out; omega))
    have HREPX := zh (show RepEx (bA (W0.heap.size + 1)) ((w2.setCell ⟨W0.heap.size, 0, none⟩ (.int .i64 3)).setCell ⟨W0.heap.size, 2, none⟩ (.string t.text)) _ _ from RepEx.of (op := 3) (num := 0) (pos := t.pos) (text := t.text) (RepExs.nil _ _))
    clear hx hres0 hset
    have b0 := aa HBR.out (j := 0) rfl
    have b1 := aa HBD.out (j := 0) rfl
    go_wp2_with fail
    have HSET : On (w.heap.size + 1 + 1) ((w2.setCell ⟨W0.heap.size, 0, none⟩ (.int .i64 3)).setCell ⟨W0.heap.size, 2, none⟩ (.string t.text)) (set5 ((w2.setCell ⟨W0.heap.size, 0, none⟩ (.int .i64 3)).setCell ⟨W0.heap.size, 2, none⟩ (.string t.text)) (w.heap.size + 1 + 1) (.int .i64 3) (.int .i64 0) (.string t.text) (.slice none 0 0) (.int .i64 t.pos)) := (On.refl _ _).set5 _ _ _ _ _
    refine bodyPost_ret (v := .agg #[.int .i64 3, .int .i64 0, .string t.text, .slice none 0 0, .int .i64 t.pos]) (by simp [results, Tryz.results136, go_sem, c0, c1, c2, c3, c4]) rfl ?_
    exact PSays.ok HF.out ⟨_, _, _, _, _, _, _, rfl, RepEx.down (base := W0.heap.size + 1) (base' := w.heap.size) (HREPX.out.keep (Stays.of_ne (S := bA (W0.heap.size + 1)) HSET (fun h => by have h' : W0.heap.size + 1 ≤ w.heap.size + 1 + 1 := h; have := HZ0.out; omega))) (by have := HZ0.out; omega)⟩ (HRD.out.off HSET (by have := HLT.out; omega)) (HON.out.new HSET (by omega))
   ·have hk3 := hk
    clear hk
    by_cases hk : t.kind = 1
    ·replace HF := zh (((HF.out.trans (if_neg hk2)).trans (if_neg hk3)).trans (if_pos hk))
     have hk2b : (t.kind == 2) = false := by simp [hk2]
     have hk3b : (t.kind == 3) = false := by simp [hk3]
     have hk1b : (t.kind == 1) = true := by simp [hk]
     have HNM := zh (show dN en (t :: r) = .ok (t.text, r) from by unfold dN; rw [aB (show dv en 1 (t :: r) = .ok (t, r) from hk ▸ HKS.out)]; rfl)
     clear hk hk2 hk3
     go_wp2_with fail
     clear b0 b1 hc0 hn2 hn3 y0 y1 y2 y3 hcm
     replace HBR := zh ((HBX.out.block _ (ad HBR.out)).trans HBR.out)
     replace HBD := zh ((HBX.out.block _ (ad HBD.out)).trans HBD.out)
     replace HRES := zh ((HBX.out.block _ (ad HRES.out)).trans HRES.out)
     replace HON := zh (HON.out.trans (On.of_below HBX.out))
     replace HRD := zh (HRD.out.on HBX.out)
     have HXX := zh ((HTK.out.block _ (ad HX.out)).trans HX.out)
     replace HX := HXX
     replace HBR := zh ((HTK.out.block _ (ad HBR.out)).trans HBR.out)
     replace HBD := zh ((HTK.out.block _ (ad HBD.out)).trans HBD.out)
     replace HRES := zh ((HTK.out.block _ (ad HRES.out)).trans HRES.out)
     replace HON := zh (HON.out.trans (On.of_below HTK.out))
     replace HRD := zh (HRD.out.on HTK.out)
     refine (HNM.out ▸ fd rb (t :: r) en _ HRD.out).mono ?_
     rintro e w2 ⟨⟨v, rfl, hv, hr⟩, ho⟩
     subst hv
     replace HRD := zh hr
     have HLB := zh (show W0.heap.size + 1 + 1 ≤ w2.heap.size from by have := ho.size; rw [ag, ag] at this; omega)
     replace HX := zh (ho.obj HNB.out.1 HX.out)
     replace HRES := zh (ho.obj HNB.out.2.1 HRES.out)
     replace HBR := zh (ho.obj HNB.out.2.2.1 HBR.out)
     replace HBD := zh (ho.obj HNB.out.2.2.2 HBD.out)
     replace HON := zh (HON.out.trans ho)
     clear hr ho
     have HL2 := zh (ad HX.out)
     have hx := HX.out
     have e0 := aa hx (j := 0) rfl
     have g0 := ab hx 0
     have e2 := aa hx (j := 2) rfl
     have g2 := ab hx 2
     clear hx
     have b0 := aa HBR.out (j := 0) rfl
     have b1 := aa HBD.out (j := 0) rfl
     go_wp2_with fail
     clear e0 g0 e2 g2 b0 b1
     have hset : On W0.heap.size w2 ((w2.setCell ⟨W0.heap.size, 0, none⟩ (.int .i64 4)).setCell ⟨W0.heap.size, 2, none⟩ (.string t.text)) := ((On.refl _ _).set 0 _).set 2 _
     replace HRD := zh (HRD.out.off hset (by have := HLT.out; have := HZ0.out; omega))
     replace HX := zh (ai (ai HX.out 0 (.int .i64 4)) 2 (.string t.text))
     replace HON := zh (HON.out.new hset (by have := HZ0.out; omega))
     replace HBR := zh (hset.obj (by omega) HBR.out)
     replace HBD := zh (hset.obj (by omega) HBD.out)
     replace HRES := zh (hset.obj (by omega) HRES.out)
     clear hset
     cases hq : atS r 0 bW
     ·replace HF := zh (HF.out.trans (if_neg (by rw [hq]; decide)))
      refine (b7 rb _ r en _ HRD.out hq).mono ?_
      rintro e w3 ⟨rfl, hr, ho⟩
      replace HRD := zh hr
      replace HX := zh (ho.obj HNB.out.1 HX.out)
      replace HRES := zh (ho.obj HNB.out.2.1 HRES.out)
      replace HBR := zh (ho.obj HNB.out.2.2.1 HBR.out)
      replace HBD := zh (ho.obj HNB.out.2.2.2 HBD.out)
      replace HON := zh (HON.out.trans ho)
      clear hr ho hq
      have hset : On W0.heap.size w3 w3 := (On.refl _ _)
      have hx := HX.out
      have hres0 := HRES.out
      have hnr : W0.heap.size ≠ (w.heap.size + 1 + 1) := by have := HZ0.out; omega
      have e0 := aa hx (j := 0) rfl
      have g0 := ab hx 0
      have e1 := aa hx (j := 1) rfl
      have g1 := ab hx 1
      have e2 := aa hx (j := 2) rfl
      have g2 := ab hx 2
      have e3 := aa hx (j := 3) rfl
      have g3 := ab hx 3
      have e4 := aa hx (j := 4) rfl
      have g4 := ab hx 4
      have c0 := aa hres0 (j := 0) rfl
      have f0 := ab hres0 0
      have c1 := aa hres0 (j := 1) rfl
      have f1 := ab hres0 1
      have c2 := aa hres0 (j := 2) rfl
      have f2 := ab hres0 2
      have c3 := aa hres0 (j := 3) rfl
      have f3 := ab hres0 3
      have c4 := aa hres0 (j := 4) rfl
      have f4 := ab hres0 4
      replace HRD := zh (HRD.out.off hset (by have := HLT.out; have := HZ0.out; omega))
      replace HON := zh (HON.out.new hset (by have := HZ0.out; omega))
      have HREPX := zh (show RepEx (bA (W0.heap.size + 1)) w3 _ _ from RepEx.of (op := 4) (num := 0) (pos := t.pos) (text := t.text) (RepExs.nil _ _))
      clear hx hres0 hset
      go_wp2_with fail
      have HSET : On (w.heap.size + 1 + 1) w3 (set5 w3 (w.heap.size + 1 + 1) (.int .i64 4) (.int .i64 0) (.string t.text) (.slice none 0 0) (.int .i64 t.pos)) := (On.refl _ _).set5 _ _ _ _ _
      refine bodyPost_ret (v := .agg #[.int .i64 4, .int .i64 0, .string t.text, .slice none 0 0, .int .i64 t.pos]) (by simp [results, Tryz.results136, go_sem, c0, c1, c2, c3, c4]) rfl ?_
      exact PSays.ok HF.out ⟨_, _, _, _, _, _, _, rfl, RepEx.down (base := W0.heap.size + 1) (base' := w.heap.size) (HREPX.out.keep (Stays.of_ne (S := bA (W0.heap.size + 1)) HSET (fun h => by have h' : W0.heap.size + 1 ≤ w.heap.size + 1 + 1 := h; have := HZ0.out; omega))) (by have := HZ0.out; omega)⟩ (HRD.out.off HSET (by have := HLT.out; omega)) (HON.out.new HSET (by omega))
     ·replace HF := zh (HF.out.trans (if_pos hq))
      refine (cu rb _ r en _ HRD.out hq).mono ?_
      rintro e w3 ⟨rfl, hr, ho⟩
      replace HRD := zh hr
      replace HX := zh (ho.obj HNB.out.1 HX.out)
      replace HRES := zh (ho.obj HNB.out.2.1 HRES.out)
      replace HBR := zh (ho.obj HNB.out.2.2.1 HBR.out)
      replace HBD := zh (ho.obj HNB.out.2.2.2 HBD.out)
      replace HON := zh (HON.out.trans ho)
      have HL3 := zh (show W0.heap.size + 1 + 1 ≤ w3.heap.size from by have h1 := HL2.out; have h2 := HLB.out; have h3 := ho.size; have h4 := ax; simp only [ax] at h3; omega)
      clear hr ho hq
      have hx := HX.out
      have e0 := aa hx (j := 0) rfl
      have g0 := ab hx 0
      clear hx
      have b0 := aa HBR.out (j := 0) rfl
      have b1 := aa HBD.out (j := 0) rfl
      go_wp2_with fail
      clear e0 g0 b0 b1
      have hset : On W0.heap.size w3 (w3.setCell ⟨W0.heap.size, 0, none⟩ (.int .i64 5)) := (On.refl _ _).set 0 _
      replace HRD := zh (HRD.out.off hset (by have := HLT.out; have := HZ0.out; omega))
      replace HX := zh (ai HX.out 0 (.int .i64 5))
      replace HON := zh (HON.out.new hset (by have := HZ0.out; omega))
      replace HBR := zh (hset.obj (by omega) HBR.out)
      replace HBD := zh (hset.obj (by omega) HBD.out)
      replace HRES := zh (hset.obj (by omega) HRES.out)
      have hszz := hset.size
      clear hset
      have HONE := zh (fun (l' : List Tk) (W : World) (acc : List Ex) (hacc : acc.length ≤ 100000) (hrd : RdAt W rb l' en) (hi : (fun (W : World) (acc : List Ex) => (∃ v, W.heap[W0.heap.size]? = some (.cells #[.int .i64 5, .int .i64 0, .string t.text, v, .int .i64 t.pos] 65) ∧ GrowOf exK (W0.heap.size + 1 + 1) 65 5 W v acc) ∧ W.cell? ⟨w.heap.size, 0, none⟩ = some (.pointer (some ⟨rb, 0, none⟩)) ∧ W.cell? ⟨w.heap.size + 1, 0, none⟩ = some (.int .i64 d) ∧ W0.heap.size + 1 + 1 ≤ W.heap.size) W acc) => (show Calls Tryz.prog 137 #[.pointer (some ⟨W0.heap.size, 0, none⟩), .pointer (some ⟨w.heap.size, 0, none⟩), .pointer (some ⟨w.heap.size + 1, 0, none⟩)] W (PSaysT rb en (fun b => b = rb ∨ b = W0.heap.size ∨ W0.heap.size + 1 + 1 ≤ b) W (fun w' y v => v = .tuple #[] ∧ (fun (W : World) (acc : List Ex) => (∃ v, W.heap[W0.heap.size]? = some (.cells #[.int .i64 5, .int .i64 0, .string t.text, v, .int .i64 t.pos] 65) ∧ GrowOf exK (W0.heap.size + 1 + 1) 65 5 W v acc) ∧ W.cell? ⟨w.heap.size, 0, none⟩ = some (.pointer (some ⟨rb, 0, none⟩)) ∧ W.cell? ⟨w.heap.size + 1, 0, none⟩ = some (.int .i64 d) ∧ W0.heap.size + 1 + 1 ≤ W.heap.size) w' (acc ++ [y])) (E l')) from by
        obtain ⟨⟨v, h1, h2⟩, h3, h4, h5⟩ := hi
        refine (qU rb W0.heap.size w.heap.size (w.heap.size + 1) (W0.heap.size + 1 + 1) d en hd0 (by omega) E HEE.out (by have := HZ0.out; have := HLT.out; omega) (by have := HZ0.out; have := HLT.out; omega) l' W hrd h3 h4 h5 5 0 t.text t.pos v h1 acc hacc h2).mono ?_
        intro e W' hp
        rcases hp.cases with ⟨er, p, hm, rfl, ho⟩ | ⟨y, r5, v5, hm, rfl, hv, hr, ho⟩
        · exact PSaysT.err hm ho
        · obtain ⟨q1, v', q2, q3⟩ := hv
          exact PSaysT.ok hm ⟨q1, ⟨v', q2, q3⟩, ho.cell (by have := HZ0.out; have := HLT.out; omega) h3, ho.cell (by have := HZ0.out; have := HLT.out; omega) h4, Nat.le_trans h5 ho.size⟩ hr ho))
      have HLST := zh (lM rb en (fun b => b = rb ∨ b = W0.heap.size ∨ W0.heap.size + 1 + 1 ≤ b) (Or.inl rfl) 137 #[.pointer (some ⟨W0.heap.size, 0, none⟩), .pointer (some ⟨w.heap.size, 0, none⟩), .pointer (some ⟨w.heap.size + 1, 0, none⟩)] (fun _ _ => Tryz.call137 _ _) E (fun (W : World) (acc : List Ex) => (∃ v, W.heap[W0.heap.size]? = some (.cells #[.int .i64 5, .int .i64 0, .string t.text, v, .int .i64 t.pos] 65) ∧ GrowOf exK (W0.heap.size + 1 + 1) 65 5 W v acc) ∧ W.cell? ⟨w.heap.size, 0, none⟩ = some (.pointer (some ⟨rb, 0, none⟩)) ∧ W.cell? ⟨w.heap.size + 1, 0, none⟩ = some (.int .i64 d) ∧ W0.heap.size + 1 + 1 ≤ W.heap.size) (fun W W' acc hi ho => ⟨(by obtain ⟨v, h1, h2⟩ := hi.1; exact ⟨v, ho.obj HNB.out.1 h1, h2.keep (Stays.of_on ho (by have := HZ0.out; have := HLT.out; omega))⟩), ho.cell HNB.out.2.2.1 hi.2.1, ho.cell HNB.out.2.2.2 hi.2.2.1, Nat.le_trans hi.2.2.2 ho.size⟩) HSH.out HONE.out (r.length + 1) r.tail (by simp; omega) (by have := HFEW.out; simp at this; omega) _ HRD.out ⟨⟨_, HX.out, GrowOf.nil⟩, aa HBR.out (j := 0) rfl, aa HBD.out (j := 0) rfl, by have := HL3.out; omega⟩)
      refine HLST.out.mono ?_
      rintro e w4 hp
      rcases hp.cases with ⟨er, p, hm, rfl, ho⟩ | ⟨ks, r4, v4, hm, rfl, hv, hr, ho⟩
      ·have HE := zh (HF.out.trans (ay hm))
       replace HON := zh (On.of_onS HON.out ho (fun i hi => by have := HZ0.out; have := HLT.out; omega))
       clear hp hm ho
       unfold Pan
       go_wp2_with fail
       exact ⟨rfl, PSays.err HE.out HON.out⟩
      ·replace HF := zh (HF.out.trans (aB hm))
       replace HRD := zh hr
       obtain ⟨hv1, ⟨v5, hx5, hg5⟩, _, _, _⟩ := hv
       subst hv1
       obtain ⟨cs5, hrow5, hit5⟩ := hg5.row
       have HRS := zh (show RepExs (bA (W0.heap.size + 1 + 1)) w4 v5 ks from ⟨cs5, hrow5, hit5⟩)
       obtain ⟨s5, cap5, rfl, _⟩ := hrow5
       replace HX := zh hx5
       replace HRES := zh (ho.obj (by have := HZ0.out; have := HLT.out; omega) HRES.out)
       replace HON := zh (On.of_onS HON.out ho (fun i hi => by have := HZ0.out; have := HLT.out; omega))
       clear hp hm ho hr hg5 hx5 hit5
       have hset : On W0.heap.size w4 w4 := (On.refl _ _)
       have hx := HX.out
       have hres0 := HRES.out
       have hnr : W0.heap.size ≠ (w.heap.size + 1 + 1) := by have := HZ0.out; omega
       have e0 := aa hx (j := 0) rfl
       have g0 := ab hx 0
       have e1 := aa hx (j := 1) rfl
       have g1 := ab hx 1
       have e2 := aa hx (j := 2) rfl
       have g2 := ab hx 2
       have e3 := aa hx (j := 3) rfl
       have g3 := ab hx 3
       have e4 := aa hx (j := 4) rfl
       have g4 := ab hx 4
       have c0 := aa hres0 (j := 0) rfl
       have f0 := ab hres0 0
       have c1 := aa hres0 (j := 1) rfl
       have f1 := ab hres0 1
       have c2 := aa hres0 (j := 2) rfl
       have f2 := ab hres0 2
       have c3 := aa hres0 (j := 3) rfl
       have f3 := ab hres0 3
       have c4 := aa hres0 (j := 4) rfl
       have f4 := ab hres0 4
       replace HRD := zh (HRD.out.off hset (by have := HLT.out; have := HZ0.out; omega))
       replace HON := zh (HON.out.new hset (by have := HZ0.out; omega))
       have HREPX := zh (show RepEx (bA (W0.heap.size + 1)) w4 _ _ from (RepEx.of (op := 5) (num := 0) (pos := t.pos) (text := t.text) HRS.out).down (Nat.le_succ _))
       clear hx hres0 hset
       go_wp2_with fail
       have HSET : On (w.heap.size + 1 + 1) w4 (set5 w4 (w.heap.size + 1 + 1) (.int .i64 5) (.int .i64 0) (.string t.text) (.slice s5 ks.length cap5) (.int .i64 t.pos)) := (On.refl _ _).set5 _ _ _ _ _
       refine bodyPost_ret (v := .agg #[.int .i64 5, .int .i64 0, .string t.text, .slice s5 ks.length cap5, .int .i64 t.pos]) (by simp [results, Tryz.results136, go_sem, c0, c1, c2, c3, c4]) rfl ?_
       exact PSays.ok HF.out ⟨_, _, _, _, _, _, _, rfl, RepEx.down (base := W0.heap.size + 1) (base' := w.heap.size) (HREPX.out.keep (Stays.of_ne (S := bA (W0.heap.size + 1)) HSET (fun h => by have h' : W0.heap.size + 1 ≤ w.heap.size + 1 + 1 := h; have := HZ0.out; omega))) (by have := HZ0.out; omega)⟩ (HRD.out.off HSET (by have := HLT.out; omega)) (HON.out.new HSET (by omega))
    ·have hk1 := hk
     clear hk
     replace HF := zh (((HF.out.trans (if_neg hk2)).trans (if_neg hk3)).trans (if_neg hk1))
     have hk2b : (t.kind == 2) = false := by simp [hk2]
     have hk3b : (t.kind == 3) = false := by simp [hk3]
     have hk1b : (t.kind == 1) = false := by simp [hk1]
     clear hk1 hk2 hk3
     go_wp2_with fail
     clear b0 b1 hc0 hn2 hn3 y0 y1 y2 y3 hcm
     replace HBR := zh ((HBX.out.block _ (ad HBR.out)).trans HBR.out)
     replace HBD := zh ((HBX.out.block _ (ad HBD.out)).trans HBD.out)
     replace HRES := zh ((HBX.out.block _ (ad HRES.out)).trans HRES.out)
     replace HON := zh (HON.out.trans (On.of_below HBX.out))
     replace HRD := zh (HRD.out.on HBX.out)
     have HXX := zh ((HTK.out.block _ (ad HX.out)).trans HX.out)
     replace HX := HXX
     replace HBR := zh ((HTK.out.block _ (ad HBR.out)).trans HBR.out)
     replace HBD := zh ((HTK.out.block _ (ad HBD.out)).trans HBD.out)
     replace HRES := zh ((HTK.out.block _ (ad HRES.out)).trans HRES.out)
     replace HON := zh (HON.out.trans (On.of_below HTK.out))
     replace HRD := zh (HRD.out.on HTK.out)
     obtain ⟨L, hL⟩ : ∃ L : List Tk, L = t :: r := ⟨_, rfl⟩
     rw [← hL] at HF HRD HPL
     generalize t.pos = pl at *
     clear hL
     cases hq : atS L 0 qY
     ·replace HF := zh (HF.out.trans (if_neg (by rw [hq]; decide)))
      refine (b7 rb _ L en _ HRD.out hq).mono ?_
      rintro e w2 ⟨rfl, hr, ho⟩
      replace HRD := zh hr
      replace HX := zh (ho.obj HNB.out.1 HX.out)
      replace HRES := zh (ho.obj HNB.out.2.1 HRES.out)
      replace HBR := zh (ho.obj HNB.out.2.2.1 HBR.out)
      replace HBD := zh (ho.obj HNB.out.2.2.2 HBD.out)
      replace HON := zh (HON.out.trans ho)
      clear hr ho hq
      have b0 := aa HBR.out (j := 0) rfl
      have b1 := aa HBD.out (j := 0) rfl
      go_wp2_with fail
      clear b0 b1
      cases hq : atS L 0 o3
      ·replace HF := zh (HF.out.trans (if_neg (by rw [hq]; decide)))
       refine (b7 rb _ L en _ HRD.out hq).mono ?_
       rintro e w3 ⟨rfl, hr, ho⟩
       replace HRD := zh hr
       replace HX := zh (ho.obj HNB.out.1 HX.out)
       replace HRES := zh (ho.obj HNB.out.2.1 HRES.out)
       replace HBR := zh (ho.obj HNB.out.2.2.1 HBR.out)
       replace HBD := zh (ho.obj HNB.out.2.2.2 HBD.out)
       replace HON := zh (HON.out.trans ho)
       clear hr ho hq
       have b0 := aa HBR.out (j := 0) rfl
       have b1 := aa HBD.out (j := 0) rfl
       go_wp2_with fail
       clear b0 b1
       cases hq : atS L 0 bW
       ·replace HF := zh (HF.out.trans (if_neg (by rw [hq]; decide)))
        have HAT := zh (dS rb 0 bW L en _ HRD.out)
        rw [hq] at HAT
        refine HAT.out.mono ?_
        rintro e we ⟨rfl, rfl⟩
        clear hq HAT
        have b0 := aa HBR.out (j := 0) rfl
        have b1 := aa HBD.out (j := 0) rfl
        go_wp2_with fail
        clear b0 b1
        cases hq : atS L 0 sD
        ·replace HF := zh (HF.out.trans (if_neg (by rw [hq]; decide)))
         refine (b7 rb _ L en _ HRD.out hq).mono ?_
         rintro e w5 ⟨rfl, hr, ho⟩
         replace HRD := zh hr
         replace HX := zh (ho.obj HNB.out.1 HX.out)
         replace HRES := zh (ho.obj HNB.out.2.1 HRES.out)
         replace HBR := zh (ho.obj HNB.out.2.2.1 HBR.out)
         replace HBD := zh (ho.obj HNB.out.2.2.2 HBD.out)
         replace HON := zh (HON.out.trans ho)
         clear hr ho hq
         have b0 := aa HBR.out (j := 0) rfl
         have b1 := aa HBD.out (j := 0) rfl
         go_wp2_with fail
         clear b0 b1
         cases hq : atS L 0 sO
         ·replace HF := zh (HF.out.trans (if_neg (by rw [hq]; decide)))
          refine (b7 rb _ L en _ HRD.out hq).mono ?_
          rintro e w6 ⟨rfl, hr, ho⟩
          replace HRD := zh hr
          replace HX := zh (ho.obj HNB.out.1 HX.out)
          replace HRES := zh (ho.obj HNB.out.2.1 HRES.out)
          replace HBR := zh (ho.obj HNB.out.2.2.1 HBR.out)
          replace HBD := zh (ho.obj HNB.out.2.2.2 HBD.out)
          replace HON := zh (HON.out.trans ho)
          clear hr ho hq
          have b0 := aa HBR.out (j := 0) rfl
          have b1 := aa HBD.out (j := 0) rfl
          go_wp2_with fail
          clear b0 b1
          have HB := zh (ae (Below.refl w6.heap.size w6) (.cells #[.string ⟨[108, 101, 110].toArray⟩] 9))
          replace HX := zh ((HB.out.block _ (ad HX.out)).trans HX.out)
          replace HRES := zh ((HB.out.block _ (ad HRES.out)).trans HRES.out)
          replace HBR := zh ((HB.out.block _ (ad HBR.out)).trans HBR.out)
          replace HBD := zh ((HB.out.block _ (ad HBD.out)).trans HBD.out)
          replace HON := zh (HON.out.trans (On.of_below HB.out))
          refine (aU rb w6.heap.size _ L en _ (HRD.out.on HB.out) (aw _ _ _ _ _ _ rfl rfl)).mono ?_
          rintro e w7 hp
          rcases hp.cases with ⟨er, p, hm, rfl, ho⟩ | ⟨x, r2, v, hm, rfl, hv, hr, ho⟩
          ·have HE := zh (HF.out.trans (ay hm))
           replace HON := zh (HON.out.trans ho)
           clear hp hm ho
           unfold Pan
           go_wp2_with fail
           exact ⟨rfl, PSays.err HE.out HON.out⟩
          ·replace HF := zh (HF.out.trans (aB hm))
           replace HRD := zh hr
           replace HX := zh (ho.obj HNB.out.1 HX.out)
           replace HRES := zh (ho.obj HNB.out.2.1 HRES.out)
           replace HBR := zh (ho.obj HNB.out.2.2.1 HBR.out)
           replace HBD := zh (ho.obj HNB.out.2.2.2 HBD.out)
           replace HON := zh (HON.out.trans ho)
           subst hv
           clear hp hm ho hr
           obtain ⟨LL, rfl⟩ : ∃ q, q = r2 := ⟨_, rfl⟩
           have b0 := aa HBR.out (j := 0) rfl
           have b1 := aa HBD.out (j := 0) rfl
           go_wp2_with fail
           clear b0 b1
           refine (HINN.out LL _ HRD.out).mono ?_
           rintro e w8 hp
           rcases hp.cases with ⟨er, p, hm, rfl, ho⟩ | ⟨x, r2, v, hm, rfl, hv, hr, ho⟩
           ·have HE := zh (HF.out.trans (ay hm))
            replace HON := zh (HON.out.trans ho)
            clear hp hm ho
            unfold Pan
            go_wp2_with fail
            exact ⟨rfl, PSays.err HE.out HON.out⟩
           ·replace HF := zh (HF.out.trans (aB hm))
            replace HF := zh (by have hq := HF.out; rw [HPL.out] at hq; exact hq)
            have hlw := ad HX.out
            replace HRD := zh hr
            replace HX := zh (ho.obj HNB.out.1 HX.out)
            replace HRES := zh (ho.obj HNB.out.2.1 HRES.out)
            replace HBR := zh (ho.obj HNB.out.2.2.1 HBR.out)
            replace HBD := zh (ho.obj HNB.out.2.2.2 HBD.out)
            replace HON := zh (HON.out.trans ho)
            obtain ⟨op6, num6, text6, s6, n6, cap6, pos6, rfl, hrep⟩ := hv
            have HREP := zh (hrep.down (base' := W0.heap.size + 1) hlw)
            have HLW6 := zh (ad HX.out)
            clear hlw
            have HB8 := zh (ae (Below.refl w8.heap.size w8) (.cells #[.int .i64 op6, .int .i64 num6, .string text6, .slice s6 n6 cap6, .int .i64 pos6] 65))
            replace HX := zh ((HB8.out.block _ (ad HX.out)).trans HX.out)
            replace HRES := zh ((HB8.out.block _ (ad HRES.out)).trans HRES.out)
            replace HRD := zh (HRD.out.on HB8.out)
            replace HON := zh (HON.out.trans (On.of_below HB8.out))
            clear hp hm ho hr hrep
            have hset : On W0.heap.size (w8.alloc (.cells #[.int .i64 op6, .int .i64 num6, .string text6, .slice s6 n6 cap6, .int .i64 pos6] 65)) (((w8.alloc (.cells #[.int .i64 op6, .int .i64 num6, .string text6, .slice s6 n6 cap6, .int .i64 pos6] 65)).setCell ⟨W0.heap.size, 0, none⟩ (.int .i64 10)).setCell ⟨W0.heap.size, 3, none⟩ (.slice (some ⟨w8.heap.size, 0, none⟩) 1 1)) := (On.set (On.set (On.refl _ _) 0 (.int .i64 10)) 3 (.slice (some ⟨w8.heap.size, 0, none⟩) 1 1))
            have hx := HX.out
            have hres0 := HRES.out
            have hnr : W0.heap.size ≠ (w.heap.size + 1 + 1) := by have := HZ0.out; omega
            have e0 := aa hx (j := 0) rfl
            have g0 := ab hx 0
            have e1 := aa hx (j := 1) rfl
            have g1 := ab hx 1
            have e2 := aa hx (j := 2) rfl
            have g2 := ab hx 2
            have e3 := aa hx (j := 3) rfl
            have g3 := ab hx 3
            have e4 := aa hx (j := 4) rfl
            have g4 := ab hx 4
            have c0 := aa hres0 (j := 0) rfl
            have f0 := ab hres0 0
            have c1 := aa hres0 (j := 1) rfl
            have f1 := ab hres0 1
            have c2 := aa hres0 (j := 2) rfl
            have f2 := ab hres0 2
            have c3 := aa hres0 (j := 3) rfl
            have f3 := ab hres0 3
            have c4 := aa hres0 (j := 4) rfl
            have f4 := ab hres0 4
            replace HRD := zh (HRD.out.off hset (by have := HLT.out; have := HZ0.out; omega))
            replace HON := zh (HON.out.new hset (by have := HZ0.out; omega))
            have HREPX := zh (show RepEx (bA (W0.heap.size + 1)) (((w8.alloc (.cells #[.int .i64 op6, .int .i64 num6, .string text6, .slice s6 n6 cap6, .int .i64 pos6] 65)).setCell ⟨W0.heap.size, 0, none⟩ (.int .i64 10)).setCell ⟨W0.heap.size, 3, none⟩ (.slice (some ⟨w8.heap.size, 0, none⟩) 1 1)) _ _ from RepEx.of (op := 10) (num := 0) (pos := pl) (text := ⟨#[]⟩) (i4 ((HREP.out.keep (Stays.of_below HB8.out)).keep (Stays.of_ne hset (fun h => by have h' : W0.heap.size + 1 ≤ W0.heap.size := h; omega))) (b := w8.heap.size) (by have := HLW6.out; show W0.heap.size + 1 ≤ _; omega) (hset.obj (by have := HLW6.out; omega) (ah _ _ _ rfl))))
            clear hx hres0 hset
            go_wp2_with fail
            have HSET : On (w.heap.size + 1 + 1) (((w8.alloc (.cells #[.int .i64 op6, .int .i64 num6, .string text6, .slice s6 n6 cap6, .int .i64 pos6] 65)).setCell ⟨W0.heap.size, 0, none⟩ (.int .i64 10)).setCell ⟨W0.heap.size, 3, none⟩ (.slice (some ⟨w8.heap.size, 0, none⟩) 1 1)) (set5 (((w8.alloc (.cells #[.int .i64 op6, .int .i64 num6, .string text6, .slice s6 n6 cap6, .int .i64 pos6] 65)).setCell ⟨W0.heap.size, 0, none⟩ (.int .i64 10)).setCell ⟨W0.heap.size, 3, none⟩ (.slice (some ⟨w8.heap.size, 0, none⟩) 1 1)) (w.heap.size + 1 + 1) (.int .i64 10) (.int .i64 0) (.string ⟨#[]⟩) (.slice (some ⟨w8.heap.size, 0, none⟩) 1 1) (.int .i64 pl)) := (On.refl _ _).set5 _ _ _ _ _
            refine bodyPost_ret (v := .agg #[.int .i64 10, .int .i64 0, .string ⟨#[]⟩, .slice (some ⟨w8.heap.size, 0, none⟩) 1 1, .int .i64 pl]) (by simp [results, Tryz.results136, go_sem, c0, c1, c2, c3, c4]) rfl ?_
            exact PSays.ok HF.out ⟨_, _, _, _, _, _, _, rfl, RepEx.down (base := W0.heap.size + 1) (base' := w.heap.size) (HREPX.out.keep (Stays.of_ne (S := bA (W0.heap.size + 1)) HSET (fun h => by have h' : W0.heap.size + 1 ≤ w.heap.size + 1 + 1 := h; have := HZ0.out; omega))) (by have := HZ0.out; omega)⟩ (HRD.out.off HSET (by have := HLT.out; omega)) (HON.out.new HSET (by omega))
         ·replace HF := zh (HF.out.trans (if_pos hq))
          refine (cu rb _ L en _ HRD.out hq).mono ?_
          rintro e w6 ⟨rfl, hr, ho⟩
          replace HRD := zh hr
          replace HX := zh (ho.obj HNB.out.1 HX.out)
          replace HRES := zh (ho.obj HNB.out.2.1 HRES.out)
          replace HBR := zh (ho.obj HNB.out.2.2.1 HBR.out)
          replace HBD := zh (ho.obj HNB.out.2.2.2 HBD.out)
          replace HON := zh (HON.out.trans ho)
          clear hr ho hq
          generalize hLL : L.tail = LL at *
          clear hLL
          have b0 := aa HBR.out (j := 0) rfl
          have b1 := aa HBD.out (j := 0) rfl
          go_wp2_with fail
          clear b0 b1
          refine (HINN.out LL _ HRD.out).mono ?_
          rintro e w8 hp
          rcases hp.cases with ⟨er, p, hm, rfl, ho⟩ | ⟨x, r2, v, hm, rfl, hv, hr, ho⟩
          ·have HE := zh (HF.out.trans (ay hm))
           replace HON := zh (HON.out.trans ho)
           clear hp hm ho
           unfold Pan
           go_wp2_with fail
           exact ⟨rfl, PSays.err HE.out HON.out⟩
          ·replace HF := zh (HF.out.trans (aB hm))
           replace HF := zh (by have hq := HF.out; rw [HPL.out] at hq; exact hq)
           have hlw := ad HX.out
           replace HRD := zh hr
           replace HX := zh (ho.obj HNB.out.1 HX.out)
           replace HRES := zh (ho.obj HNB.out.2.1 HRES.out)
           replace HBR := zh (ho.obj HNB.out.2.2.1 HBR.out)
           replace HBD := zh (ho.obj HNB.out.2.2.2 HBD.out)
           replace HON := zh (HON.out.trans ho)
           obtain ⟨op6, num6, text6, s6, n6, cap6, pos6, rfl, hrep⟩ := hv
           have HREP := zh (hrep.down (base' := W0.heap.size + 1) hlw)
           have HLW6 := zh (ad HX.out)
           clear hlw
           have HB8 := zh (ae (Below.refl w8.heap.size w8) (.cells #[.int .i64 op6, .int .i64 num6, .string text6, .slice s6 n6 cap6, .int .i64 pos6] 65))
           replace HX := zh ((HB8.out.block _ (ad HX.out)).trans HX.out)
           replace HRES := zh ((HB8.out.block _ (ad HRES.out)).trans HRES.out)
           replace HRD := zh (HRD.out.on HB8.out)
           replace HON := zh (HON.out.trans (On.of_below HB8.out))
           clear hp hm ho hr hrep
           have hset : On W0.heap.size (w8.alloc (.cells #[.int .i64 op6, .int .i64 num6, .string text6, .slice s6 n6 cap6, .int .i64 pos6] 65)) (((w8.alloc (.cells #[.int .i64 op6, .int .i64 num6, .string text6, .slice s6 n6 cap6, .int .i64 pos6] 65)).setCell ⟨W0.heap.size, 0, none⟩ (.int .i64 9)).setCell ⟨W0.heap.size, 3, none⟩ (.slice (some ⟨w8.heap.size, 0, none⟩) 1 1)) := (On.set (On.set (On.refl _ _) 0 (.int .i64 9)) 3 (.slice (some ⟨w8.heap.size, 0, none⟩) 1 1))
           have hx := HX.out
           have hres0 := HRES.out
           have hnr : W0.heap.size ≠ (w.heap.size + 1 + 1) := by have := HZ0.out; omega
           have e0 := aa hx (j := 0) rfl
           have g0 := ab hx 0
           have e1 := aa hx (j := 1) rfl
           have g1 := ab hx 1
           have e2 := aa hx (j := 2) rfl
           have g2 := ab hx 2
           have e3 := aa hx (j := 3) rfl
           have g3 := ab hx 3
           have e4 := aa hx (j := 4) rfl
           have g4 := ab hx 4
           have c0 := aa hres0 (j := 0) rfl
           have f0 := ab hres0 0
           have c1 := aa hres0 (j := 1) rfl
           have f1 := ab hres0 1
           have c2 := aa hres0 (j := 2) rfl
           have f2 := ab hres0 2
           have c3 := aa hres0 (j := 3) rfl
           have f3 := ab hres0 3
           have c4 := aa hres0 (j := 4) rfl
           have f4 := ab hres0 4
           replace HRD := zh (HRD.out.off hset (by have := HLT.out; have := HZ0.out; omega))
           replace HON := zh (HON.out.new hset (by have := HZ0.out; omega))
           have HREPX := zh (show RepEx (bA (W0.heap.size + 1)) (((w8.alloc (.cells #[.int .i64 op6, .int .i64 num6, .string text6, .slice s6 n6 cap6, .int .i64 pos6] 65)).setCell ⟨W0.heap.size, 0, none⟩ (.int .i64 9)).setCell ⟨W0.heap.size, 3, none⟩ (.slice (some ⟨w8.heap.size, 0, none⟩) 1 1)) _ _ from RepEx.of (op := 9) (num := 0) (pos := pl) (text := ⟨#[]⟩) (i4 ((HREP.out.keep (Stays.of_below HB8.out)).keep (Stays.of_ne hset (fun h => by have h' : W0.heap.size + 1 ≤ W0.heap.size := h; omega))) (b := w8.heap.size) (by have := HLW6.out; show W0.heap.size + 1 ≤ _; omega) (hset.obj (by have := HLW6.out; omega) (ah _ _ _ rfl))))
           clear hx hres0 hset
           go_wp2_with fail
           have HSET : On (w.heap.size + 1 + 1) (((w8.alloc (.cells #[.int .i64 op6, .int .i64 num6, .string text6, .slice s6 n6 cap6, .int .i64 pos6] 65)).setCell ⟨W0.heap.size, 0, none⟩ (.int .i64 9)).setCell ⟨W0.heap.size, 3, none⟩ (.slice (some ⟨w8.heap.size, 0, none⟩) 1 1)) (set5 (((w8.alloc (.cells #[.int .i64 op6, .int .i64 num6, .string text6, .slice s6 n6 cap6, .int .i64 pos6] 65)).setCell ⟨W0.heap.size, 0, none⟩ (.int .i64 9)).setCell ⟨W0.heap.size, 3, none⟩ (.slice (some ⟨w8.heap.size, 0, none⟩) 1 1)) (w.heap.size + 1 + 1) (.int .i64 9) (.int .i64 0) (.string ⟨#[]⟩) (.slice (some ⟨w8.heap.size, 0, none⟩) 1 1) (.int .i64 pl)) := (On.refl _ _).set5 _ _ _ _ _
           refine bodyPost_ret (v := .agg #[.int .i64 9, .int .i64 0, .string ⟨#[]⟩, .slice (some ⟨w8.heap.size, 0, none⟩) 1 1, .int .i64 pl]) (by simp [results, Tryz.results136, go_sem, c0, c1, c2, c3, c4]) rfl ?_
           exact PSays.ok HF.out ⟨_, _, _, _, _, _, _, rfl, RepEx.down (base := W0.heap.size + 1) (base' := w.heap.size) (HREPX.out.keep (Stays.of_ne (S := bA (W0.heap.size + 1)) HSET (fun h => by have h' : W0.heap.size + 1 ≤ w.heap.size + 1 + 1 := h; have := HZ0.out; omega))) (by have := HZ0.out; omega)⟩ (HRD.out.off HSET (by have := HLT.out; omega)) (HON.out.new HSET (by omega))
        ·replace HF := zh (HF.out.trans (if_pos hq))
         refine (cu rb _ L en _ HRD.out hq).mono ?_
         rintro e w5 ⟨rfl, hr, ho⟩
         replace HRD := zh hr
         replace HX := zh (ho.obj HNB.out.1 HX.out)
         replace HRES := zh (ho.obj HNB.out.2.1 HRES.out)
         replace HBR := zh (ho.obj HNB.out.2.2.1 HBR.out)
         replace HBD := zh (ho.obj HNB.out.2.2.2 HBD.out)
         replace HON := zh (HON.out.trans ho)
         clear hr ho hq
         generalize hLL : L.tail = LL at *
         clear hLL
         have b0 := aa HBR.out (j := 0) rfl
         have b1 := aa HBD.out (j := 0) rfl
         go_wp2_with fail
         clear b0 b1
         refine (HINN.out LL _ HRD.out).mono ?_
         rintro e w8 hp
         rcases hp.cases with ⟨er, p, hm, rfl, ho⟩ | ⟨x, r2, v, hm, rfl, hv, hr, ho⟩
         ·have HE := zh (HF.out.trans (ay hm))
          replace HON := zh (HON.out.trans ho)
          clear hp hm ho
          unfold Pan
          go_wp2_with fail
          exact ⟨rfl, PSays.err HE.out HON.out⟩
         ·replace HF := zh (HF.out.trans (aB hm))
          replace HF := zh (by have hq := HF.out; rw [HPL.out] at hq; exact hq)
          have hlw := ad HX.out
          replace HRD := zh hr
          replace HX := zh (ho.obj HNB.out.1 HX.out)
          replace HRES := zh (ho.obj HNB.out.2.1 HRES.out)
          replace HBR := zh (ho.obj HNB.out.2.2.1 HBR.out)
          replace HBD := zh (ho.obj HNB.out.2.2.2 HBD.out)
          replace HON := zh (HON.out.trans ho)
          obtain ⟨op6, num6, text6, s6, n6, cap6, pos6, rfl, hrep⟩ := hv
          have HREP := zh (hrep.down (base' := W0.heap.size + 1) hlw)
          have HLW6 := zh (ad HX.out)
          clear hlw
          have HB8 := zh (ae (Below.refl w8.heap.size w8) (.cells #[.int .i64 op6, .int .i64 num6, .string text6, .slice s6 n6 cap6, .int .i64 pos6] 65))
          replace HX := zh ((HB8.out.block _ (ad HX.out)).trans HX.out)
          replace HRES := zh ((HB8.out.block _ (ad HRES.out)).trans HRES.out)
          replace HRD := zh (HRD.out.on HB8.out)
          replace HON := zh (HON.out.trans (On.of_below HB8.out))
          clear hp hm ho hr hrep
          have hset : On W0.heap.size (w8.alloc (.cells #[.int .i64 op6, .int .i64 num6, .string text6, .slice s6 n6 cap6, .int .i64 pos6] 65)) (((w8.alloc (.cells #[.int .i64 op6, .int .i64 num6, .string text6, .slice s6 n6 cap6, .int .i64 pos6] 65)).setCell ⟨W0.heap.size, 0, none⟩ (.int .i64 8)).setCell ⟨W0.heap.size, 3, none⟩ (.slice (some ⟨w8.heap.size, 0, none⟩) 1 1)) := (On.set (On.set (On.refl _ _) 0 (.int .i64 8)) 3 (.slice (some ⟨w8.heap.size, 0, none⟩) 1 1))
          have hx := HX.out
          have hres0 := HRES.out
          have hnr : W0.heap.size ≠ (w.heap.size + 1 + 1) := by have := HZ0.out; omega
          have e0 := aa hx (j := 0) rfl
          have g0 := ab hx 0
          have e1 := aa hx (j := 1) rfl
          have g1 := ab hx 1
          have e2 := aa hx (j := 2) rfl
          have g2 := ab hx 2
          have e3 := aa hx (j := 3) rfl
          have g3 := ab hx 3
          have e4 := aa hx (j := 4) rfl
          have g4 := ab hx 4
          have c0 := aa hres0 (j := 0) rfl
          have f0 := ab hres0 0
          have c1 := aa hres0 (j := 1) rfl
          have f1 := ab hres0 1
          have c2 := aa hres0 (j := 2) rfl
          have f2 := ab hres0 2
          have c3 := aa hres0 (j := 3) rfl
          have f3 := ab hres0 3
          have c4 := aa hres0 (j := 4) rfl
          have f4 := ab hres0 4
          replace HRD := zh (HRD.out.off hset (by have := HLT.out; have := HZ0.out; omega))
          replace HON := zh (HON.out.new hset (by have := HZ0.out; omega))
          have HREPX := zh (show RepEx (bA (W0.heap.size + 1)) (((w8.alloc (.cells #[.int .i64 op6, .int .i64 num6, .string text6, .slice s6 n6 cap6, .int .i64 pos6] 65)).setCell ⟨W0.heap.size, 0, none⟩ (.int .i64 8)).setCell ⟨W0.heap.size, 3, none⟩ (.slice (some ⟨w8.heap.size, 0, none⟩) 1 1)) _ _ from RepEx.of (op := 8) (num := 0) (pos := pl) (text := ⟨#[]⟩) (i4 ((HREP.out.keep (Stays.of_below HB8.out)).keep (Stays.of_ne hset (fun h => by have h' : W0.heap.size + 1 ≤ W0.heap.size := h; omega))) (b := w8.heap.size) (by have := HLW6.out; show W0.heap.size + 1 ≤ _; omega) (hset.obj (by have := HLW6.out; omega) (ah _ _ _ rfl))))
          clear hx hres0 hset
          go_wp2_with fail
          have HSET : On (w.heap.size + 1 + 1) (((w8.alloc (.cells #[.int .i64 op6, .int .i64 num6, .string text6, .slice s6 n6 cap6, .int .i64 pos6] 65)).setCell ⟨W0.heap.size, 0, none⟩ (.int .i64 8)).setCell ⟨W0.heap.size, 3, none⟩ (.slice (some ⟨w8.heap.size, 0, none⟩) 1 1)) (set5 (((w8.alloc (.cells #[.int .i64 op6, .int .i64 num6, .string text6, .slice s6 n6 cap6, .int .i64 pos6] 65)).setCell ⟨W0.heap.size, 0, none⟩ (.int .i64 8)).setCell ⟨W0.heap.size, 3, none⟩ (.slice (some ⟨w8.heap.size, 0, none⟩) 1 1)) (w.heap.size + 1 + 1) (.int .i64 8) (.int .i64 0) (.string ⟨#[]⟩) (.slice (some ⟨w8.heap.size, 0, none⟩) 1 1) (.int .i64 pl)) := (On.refl _ _).set5 _ _ _ _ _
          refine bodyPost_ret (v := .agg #[.int .i64 8, .int .i64 0, .string ⟨#[]⟩, .slice (some ⟨w8.heap.size, 0, none⟩) 1 1, .int .i64 pl]) (by simp [results, Tryz.results136, go_sem, c0, c1, c2, c3, c4]) rfl ?_
          exact PSays.ok HF.out ⟨_, _, _, _, _, _, _, rfl, RepEx.down (base := W0.heap.size + 1) (base' := w.heap.size) (HREPX.out.keep (Stays.of_ne (S := bA (W0.heap.size + 1)) HSET (fun h => by have h' : W0.heap.size + 1 ≤ w.heap.size + 1 + 1 := h; have := HZ0.out; omega))) (by have := HZ0.out; omega)⟩ (HRD.out.off HSET (by have := HLT.out; omega)) (HON.out.new HSET (by omega))
       ·replace HF := zh (HF.out.trans (if_pos hq))
        have HAT := zh (dS rb 0 bW L en _ HRD.out)
        rw [hq] at HAT
        refine HAT.out.mono ?_
        rintro e we ⟨rfl, rfl⟩
        clear hq HAT
        have b0 := aa HBR.out (j := 0) rfl
        have b1 := aa HBD.out (j := 0) rfl
        go_wp2_with fail
        clear b0 b1
        refine (HINN.out L _ HRD.out).mono ?_
        rintro e w7 hp
        rcases hp.cases with ⟨er, p, hm, rfl, ho⟩ | ⟨x, r2, v, hm, rfl, hv, hr, ho⟩
        ·have HE := zh (HF.out.trans hm)
         replace HON := zh (HON.out.trans ho)
         clear hp hm ho
         unfold Pan
         go_wp2_with fail
         exact ⟨rfl, PSays.err HE.out HON.out⟩
        ·replace HF := zh (HF.out.trans hm)
         have hlw := ad HX.out
         replace HRD := zh hr
         replace HX := zh (ho.obj HNB.out.1 HX.out)
         replace HRES := zh (ho.obj HNB.out.2.1 HRES.out)
         replace HBR := zh (ho.obj HNB.out.2.2.1 HBR.out)
         replace HBD := zh (ho.obj HNB.out.2.2.2 HBD.out)
         replace HON := zh (HON.out.trans ho)
         obtain ⟨op6, num6, text6, s6, n6, cap6, pos6, rfl, hrep⟩ := hv
         have HREP := zh (hrep.down (base' := W0.heap.size + 1) hlw)
         clear hp hm ho hr hrep
         have hres := HRES.out
         have c0 := aa hres (j := 0) rfl
         have f0 := ab hres 0
         have c1 := aa hres (j := 1) rfl
         have f1 := ab hres 1
         have c2 := aa hres (j := 2) rfl
         have f2 := ab hres 2
         have c3 := aa hres (j := 3) rfl
         have f3 := ab hres 3
         have c4 := aa hres (j := 4) rfl
         have f4 := ab hres 4
         clear hres
         go_wp2_with fail
         have HSET : On (w.heap.size + 1 + 1) w7 (set5 w7 (w.heap.size + 1 + 1) (.int .i64 op6) (.int .i64 num6) (.string text6) (.slice s6 n6 cap6) (.int .i64 pos6)) := (On.refl _ _).set5 _ _ _ _ _
         refine bodyPost_ret (v := .agg #[.int .i64 op6, .int .i64 num6, .string text6, .slice s6 n6 cap6, .int .i64 pos6]) (by simp [results, Tryz.results136, go_sem, c0, c1, c2, c3, c4]) rfl ?_
         exact PSays.ok HF.out ⟨_, _, _, _, _, _, _, rfl, RepEx.down (base := W0.heap.size + 1) (base' := w.heap.size) (HREP.out.keep (Stays.of_ne (S := bA (W0.heap.size + 1)) HSET (fun h => by have h' : W0.heap.size + 1 ≤ w.heap.size + 1 + 1 := h; have := HZ0.out; omega))) (by have := HZ0.out; omega)⟩ (HRD.out.off HSET (by have := HLT.out; omega)) (HON.out.new HSET (by omega))
      ·replace HF := zh (HF.out.trans (if_pos hq))
       refine (cu rb _ L en _ HRD.out hq).mono ?_
       rintro e w3 ⟨rfl, hr, ho⟩
       replace HRD := zh hr
       replace HX := zh (ho.obj HNB.out.1 HX.out)
       replace HRES := zh (ho.obj HNB.out.2.1 HRES.out)
       replace HBR := zh (ho.obj HNB.out.2.2.1 HBR.out)
       replace HBD := zh (ho.obj HNB.out.2.2.2 HBD.out)
       replace HON := zh (HON.out.trans ho)
       clear hr ho hq
       generalize hLL : L.tail = LL at *
       clear hLL
       replace HF := zh (by have hq := HF.out; rw [HPL.out] at hq; exact hq)
       have hset : On W0.heap.size w3 (w3.setCell ⟨W0.heap.size, 0, none⟩ (.int .i64 2)) := (On.set (On.refl _ _) 0 (.int .i64 2))
       have hx := HX.out
       have hres0 := HRES.out
       have hnr : W0.heap.size ≠ (w.heap.size + 1 + 1) := by have := HZ0.out; omega
       have e0 := aa hx (j := 0) rfl
       have g0 := ab hx 0
       have e1 := aa hx (j := 1) rfl
       have g1 := ab hx 1
       have e2 := aa hx (j := 2) rfl
       have g2 := ab hx 2
       have e3 := aa hx (j := 3) rfl
       have g3 := ab hx 3
       have e4 := aa hx (j := 4) rfl
       have g4 := ab hx 4
       have c0 := aa hres0 (j := 0) rfl
       have f0 := ab hres0 0
       have c1 := aa hres0 (j := 1) rfl
       have f1 := ab hres0 1
       have c2 := aa hres0 (j := 2) rfl
       have f2 := ab hres0 2
       have c3 := aa hres0 (j := 3) rfl
       have f3 := ab hres0 3
       have c4 := aa hres0 (j := 4) rfl
       have f4 := ab hres0 4
       replace HRD := zh (HRD.out.off hset (by have := HLT.out; have := HZ0.out; omega))
       replace HON := zh (HON.out.new hset (by have := HZ0.out; omega))
       have HREPX := zh (show RepEx (bA (W0.heap.size + 1)) (w3.setCell ⟨W0.heap.size, 0, none⟩ (.int .i64 2)) _ _ from RepEx.of (op := 2) (num := 0) (pos := pl) (text := ⟨#[]⟩) (RepExs.nil _ _))
       clear hx hres0 hset
       have b0 := aa HBR.out (j := 0) rfl
       have b1 := aa HBD.out (j := 0) rfl
       go_wp2_with fail
       have HSET : On (w.heap.size + 1 + 1) (w3.setCell ⟨W0.heap.size, 0, none⟩ (.int .i64 2)) (set5 (w3.setCell ⟨W0.heap.size, 0, none⟩ (.int .i64 2)) (w.heap.size + 1 + 1) (.int .i64 2) (.int .i64 0) (.string ⟨#[]⟩) (.slice none 0 0) (.int .i64 pl)) := (On.refl _ _).set5 _ _ _ _ _
       refine bodyPost_ret (v := .agg #[.int .i64 2, .int .i64 0, .string ⟨#[]⟩, .slice none 0 0, .int .i64 pl]) (by simp [results, Tryz.results136, go_sem, c0, c1, c2, c3, c4]) rfl ?_
       exact PSays.ok HF.out ⟨_, _, _, _, _, _, _, rfl, RepEx.down (base := W0.heap.size + 1) (base' := w.heap.size) (HREPX.out.keep (Stays.of_ne (S := bA (W0.heap.size + 1)) HSET (fun h => by have h' : W0.heap.size + 1 ≤ w.heap.size + 1 + 1 := h; have := HZ0.out; omega))) (by have := HZ0.out; omega)⟩ (HRD.out.off HSET (by have := HLT.out; omega)) (HON.out.new HSET (by omega))
     ·replace HF := zh (HF.out.trans (if_pos hq))
      refine (cu rb _ L en _ HRD.out hq).mono ?_
      rintro e w2 ⟨rfl, hr, ho⟩
      replace HRD := zh hr
      replace HX := zh (ho.obj HNB.out.1 HX.out)
      replace HRES := zh (ho.obj HNB.out.2.1 HRES.out)
      replace HBR := zh (ho.obj HNB.out.2.2.1 HBR.out)
      replace HBD := zh (ho.obj HNB.out.2.2.2 HBD.out)
      replace HON := zh (HON.out.trans ho)
      clear hr ho hq
      generalize hLL : L.tail = LL at *
      clear hLL
      replace HF := zh (by have hq := HF.out; rw [HPL.out] at hq; exact hq)
      have hset : On W0.heap.size w2 ((w2.setCell ⟨W0.heap.size, 0, none⟩ (.int .i64 2)).setCell ⟨W0.heap.size, 1, none⟩ (.int .i64 1)) := (On.set (On.set (On.refl _ _) 0 (.int .i64 2)) 1 (.int .i64 1))
      have hx := HX.out
      have hres0 := HRES.out
      have hnr : W0.heap.size ≠ (w.heap.size + 1 + 1) := by have := HZ0.out; omega
      have e0 := aa hx (j := 0) rfl
      have g0 := ab hx 0
      have e1 := aa hx (j := 1) rfl
      have g1 := ab hx 1
      have e2 := aa hx (j := 2) rfl
      have g2 := ab hx 2
      have e3 := aa hx (j := 3) rfl
      have g3 := ab hx 3
      have e4 := aa hx (j := 4) rfl
      have g4 := ab hx 4
      have c0 := aa hres0 (j := 0) rfl
      have f0 := ab hres0 0
      have c1 := aa hres0 (j := 1) rfl
      have f1 := ab hres0 1
      have c2 := aa hres0 (j := 2) rfl
      have f2 := ab hres0 2
      have c3 := aa hres0 (j := 3) rfl
      have f3 := ab hres0 3
      have c4 := aa hres0 (j := 4) rfl
      have f4 := ab hres0 4
      replace HRD := zh (HRD.out.off hset (by have := HLT.out; have := HZ0.out; omega))
      replace HON := zh (HON.out.new hset (by have := HZ0.out; omega))
      have HREPX := zh (show RepEx (bA (W0.heap.size + 1)) ((w2.setCell ⟨W0.heap.size, 0, none⟩ (.int .i64 2)).setCell ⟨W0.heap.size, 1, none⟩ (.int .i64 1)) _ _ from RepEx.of (op := 2) (num := 1) (pos := pl) (text := ⟨#[]⟩) (RepExs.nil _ _))
      clear hx hres0 hset
      have b0 := aa HBR.out (j := 0) rfl
      have b1 := aa HBD.out (j := 0) rfl
      go_wp2_with fail
      have HSET : On (w.heap.size + 1 + 1) ((w2.setCell ⟨W0.heap.size, 0, none⟩ (.int .i64 2)).setCell ⟨W0.heap.size, 1, none⟩ (.int .i64 1)) (set5 ((w2.setCell ⟨W0.heap.size, 0, none⟩ (.int .i64 2)).setCell ⟨W0.heap.size, 1, none⟩ (.int .i64 1)) (w.heap.size + 1 + 1) (.int .i64 2) (.int .i64 1) (.string ⟨#[]⟩) (.slice none 0 0) (.int .i64 pl)) := (On.refl _ _).set5 _ _ _ _ _
      refine bodyPost_ret (v := .agg #[.int .i64 2, .int .i64 1, .string ⟨#[]⟩, .slice none 0 0, .int .i64 pl]) (by simp [results, Tryz.results136, go_sem, c0, c1, c2, c3, c4]) rfl ?_
      exact PSays.ok HF.out ⟨_, _, _, _, _, _, _, rfl, RepEx.down (base := W0.heap.size + 1) (base' := w.heap.size) (HREPX.out.keep (Stays.of_ne (S := bA (W0.heap.size + 1)) HSET (fun h => by have h' : W0.heap.size + 1 ≤ w.heap.size + 1 + 1 := h; have := HZ0.out; omega))) (by have := HZ0.out; omega)⟩ (HRD.out.off HSET (by have := HLT.out; omega)) (HON.out.new HSET (by omega))
end
end Go.Proofs.YtjblihabklemfaaGreatDoor
