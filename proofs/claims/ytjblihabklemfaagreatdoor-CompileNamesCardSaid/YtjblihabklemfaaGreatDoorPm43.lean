/-
  Compile: part 43 of its proof: see the last text.
-/
import Derived.Test.YtjblihabklemfaaGreatDoorPm42
set_option maxRecDepth 100000
set_option maxHeartbeats 16000000
namespace Go.Proofs.YtjblihabklemfaaGreatDoor
section
open Go.RowKit
theorem gS (l : List Fn) (u : Value) (w : World) (hr : RepFns (fun b => b < w.heap.size) w u l) (hsig : Signs w) (hsz : du l ≤ 2048) (hpar : ∀ f, f ∈ l → f.params.length ≤ 100000) (hfine : (bw l).1 = 0 → mY (cM l)) :
    Calls Tryz.prog 11 #[.agg #[u]] w (d9 l w) := by
 have HRP := zh hr
 obtain ⟨cs, ⟨s0, cap, rfl, hle, hcm, hnn, hrow, hszr⟩, hit⟩ := hr
 have HROW := zh hrow
 have HIT := zh hit
 have HSG := zh hsig
 have HSZ := zh hsz
 have HFI := zh hfine
 have HPA := zh hpar
 unfold maxLen at hcm
 have hlen : l.length ≤ 9223372036854775807 := by omega
 have HE0 : Hid ((bw l).1 ≠ 0 → dB l = .error (bw l).1) := zh (fun h => by unfold dB; rw [if_pos h])
 have HE1 : Hid ((bw l).1 = 0 → gN (cM l) = true → dB l = .ok (cM l)) := zh (fun h g => by unfold dB; rw [if_neg (fun q => q h), if_pos g])
 have HE2 : Hid ((bw l).1 = 0 → gN (cM l) = false → dB l = .error 2) := zh (fun h g => by unfold dB; rw [if_neg (fun q => q h), if_neg (by rw [g]; decide)])
 have HFT : Hid ((bw l).1 = 0 → l.length ≤ 64 ∧ ∀ f, f ∈ l → dO l f.body ∧ f.params.length ≤ 16) := zh (fun h => dF h)
 have HB1 : Hid (Below w.heap.size w ((w.alloc (.cells #[.slice s0 l.length cap] 42)).alloc (.cells #[.slice none 0 0, .slice none 0 0] 27))) := zh (ae (ae (Below.refl _ _) _) _)
 have HPB : Hid (((w.alloc (.cells #[.slice s0 l.length cap] 42)).alloc (.cells #[.slice none 0 0, .slice none 0 0] 27)).heap[w.heap.size]? = some (.cells #[.slice s0 l.length cap] 42 (0, 0))) := zh (au _ _ _ _ (ah _ _ _ rfl))
 have HRB : Hid (((w.alloc (.cells #[.slice s0 l.length cap] 42)).alloc (.cells #[.slice none 0 0, .slice none 0 0] 27)).heap[w.heap.size + 1]? = some (.cells #[.slice none 0 0, .slice none 0 0] 27 (0, 0))) := zh (ah _ _ _ (ag _ _))
 have HCK := zh (kQ l hpar ((w.alloc (.cells #[.slice s0 l.length cap] 42)).alloc (.cells #[.slice none 0 0, .slice none 0 0] 27)) (.slice s0 l.length cap) ((HRP.out.keep (Stays.of_lt HB1.out)).mono (fun _ _ => trivial)))
 have hmm := @run_makeMap Tryz.prog
 clear hrow hit hszr hle hcm hnn hsig hsz hfine hpar
 go_enter Tryz.func11, Tryz.ntmps11
 go_upto_region 1 with fail
 generalize ((w.alloc (.cells #[.slice s0 l.length cap] 42)).alloc (.cells #[.slice none 0 0, .slice none 0 0] 27)) = w1 at *
 generalize hRBE : w.heap.size + 1 = RB at *
 have HRBE := zh hRBE
 clear hRBE
 obtain ⟨PB, hPBE⟩ : ∃ x, x = w.heap.size := ⟨_, rfl⟩
 rw [← hPBE] at HPB ⊢
 have HPBE := zh hPBE
 clear hPBE
 generalize hck : bw l = q at *
 obtain ⟨ce, ca⟩ := q
 dsimp only at HCK HE0 HE1 HE2 HFI HFT
 have p0 : w1.cell? ⟨PB, 0, none⟩ = some (.slice s0 l.length cap) := aa HPB.out (j := 0) rfl
 go_wp2_with fail
 refine HCK.out.mono ?_
 rintro e w2 ⟨rfl, hb2⟩
 clear p0 HCK
 replace HRB := zh ((hb2.block _ (ad HRB.out)).trans HRB.out)
 replace HPB := zh ((hb2.block _ (ad HPB.out)).trans HPB.out)
 replace HB1 := zh (HB1.out.trans (hb2.mono HB1.out.size))
 clear hb2
 have hrlt := ad HRB.out
 have hplt := ad HPB.out
 by_cases hz : ce = 0
 ·subst hz
  have HO : Hid (OutW w.heap.size PB RB w2.heap.size (w2.heap.size + 2) (w2.heap.size + 1) (.slice s0 l.length cap) l w (((w2.alloc (.cells #[.slice none 0 0, .slice none 0 0] 27)).alloc (.map #[] 0)).alloc (.cells #[.slice none 0 0, .map (some (w2.heap.size + 1))] 70)) ([], [])) := zh (nM HRP.out HSG.out HB1.out HPB.out HRB.out)
  go_upto_region 6 with fail
  clear hmm
  generalize (((w2.alloc (.cells #[.slice none 0 0, .slice none 0 0] 27)).alloc (.map #[] 0)).alloc (.cells #[.slice none 0 0, .map (some (w2.heap.size + 1))] 70)) = w3 at *
  generalize w2.heap.size + 2 = TB at *
  generalize w2.heap.size + 1 = NB at *
  generalize w2.heap.size = MOB at *
  clear HPB HRB HB1 hrlt hplt
  rw [← HPBE.out] at HO
  have p0 : w3.cell? ⟨PB, 0, none⟩ = some (.slice s0 l.length cap) := aa HO.out.pb (j := 0) rfl
  go_wp2_with fail
  clear p0
  go_loopg [30] l.length (fun g t30 wr => ∃ i : Nat, i + g = l.length ∧ t30 = .int .i64 (i : Int) ∧ OutW PB PB RB MOB TB NB (.slice s0 l.length cap) l w wr (a8 l (l.take i) ([], [])))
  case atStart => exact ⟨0, Nat.zero_add _, rfl, by rw [List.take_zero, a8]; exact HO.out⟩
  case round =>
   clear HO
   obtain ⟨wo, hwo⟩ : ∃ x, x = wr := ⟨_, rfl⟩
   subst hwo
   obtain ⟨i, hig, rfl, hew⟩ := hrel
   have HO := zh hew
   clear hew
   by_cases hil : i < l.length
   ·have g1 : (i : Int) < (l.length : Int) := by omega
    have g3 : (0 : Int) ≤ (i : Int) := by omega
    obtain ⟨b, off, hs0, hSb, hbl, hcell⟩ := HROW.out (by omega)
    subst hs0
    have hrep := HIT.out i hil
    obtain ⟨s1, c1, s2, c2, hcs⟩ := hO hrep
    rw [hcs] at hrep
    have hc5 : ∀ j, j < 5 → wo.cell? ⟨b, off + i * 5 + j, none⟩ = (cs i)[j]? := fun j hj => (HO.out.old.cell (p := ⟨b, _, none⟩) (by rw [HPBE.out]; exact hSb)).trans (hcell i hil j hj)
    rw [hcs] at hc5
    have x0 : wo.cell? ⟨b, off + i * 5, none⟩ = some (.string (l.getD i default).name) := hc5 0 (by decide)
    have x1 : wo.cell? ⟨b, off + i * 5 + 1, none⟩ = some (.slice s1 (l.getD i default).params.length c1) := hc5 1 (by decide)
    have x2 : wo.cell? ⟨b, off + i * 5 + 2, none⟩ = some (.int .i64 (l.getD i default).result) := hc5 2 (by decide)
    have x3 : wo.cell? ⟨b, off + i * 5 + 3, none⟩ = some (.slice s2 (l.getD i default).body.length c2) := hc5 3 (by decide)
    have x4 : wo.cell? ⟨b, off + i * 5 + 4, none⟩ = some (.int .i64 (l.getD i default).pos) := hc5 4 (by decide)
    have HFX := zh ((HFT.out (by simp)).2 _ (dd default hil))
    have HRO : Hid ((a8 l (l.take i) ([], [])).2.length ≤ 2048 ∧ bC (l.getD i default).body ≤ 2048 ∧ (l.getD i default).params.length ≤ 16) := zh (by have q1 := fl l (l.take i) ([], []); have q2 := j6 l i hil; have q3 := HSZ.out; have q4 := HFX.out.2; unfold szF at q2; dsimp only [List.length_nil] at q1; exact ⟨by omega, by omega, q4⟩)
    have HNC : Hid ((a8 l (l.take i) ([], [])).1.length ≤ 2048) := zh (by have q1 := fu l (l.take i) ([], []); have q2 := (HFT.out (by simp)).1; have q3 := List.length_take_le i l; dsimp only [List.length_nil] at q1; omega)
    have HSN := zh (iJ l (l.take i) (l.getD i default) ([], []))
    rw [← cS default l i hil] at HSN
    generalize l.getD i default = f at *
    generalize a8 l (l.take i) ([], []) = p at *
    obtain ⟨cds, txs⟩ := p
    dsimp only at HRO HSN HNC
    obtain ⟨hrpa, hrbo⟩ := mV hrep
    have HRPA := zh hrpa
    have HRBO := zh hrbo
    clear hrpa hrbo hrep hc5 hcs hcell
    obtain ⟨fa, hfa⟩ : ∃ x : Array Value, x = #[.string f.name, .slice s1 f.params.length c1, .int .i64 f.result, .slice s2 f.body.length c2, .int .i64 f.pos] := ⟨_, rfl⟩
    have HFA := zh hfa
    clear hfa
    have p0 : wo.cell? ⟨PB, 0, none⟩ = some (.slice (some ⟨b, off, none⟩) l.length cap) := aa HO.out.pb (j := 0) rfl
    have hplt := ad HO.out.pb
    have hmm := @run_makeMap Tryz.prog
    have HP := zh (oq HO.out #[.string f.name, .slice s1 f.params.length c1, .int .i64 f.result, .slice s2 f.body.length c2, .int .i64 f.pos] f)
    go_upto_region 12 with fail
    clear hmm p0 x0 x1 x2 x3 x4 hplt
    generalize ((((wo.alloc (.cells #[.string f.name, .slice s1 f.params.length c1, .int .i64 f.result, .slice s2 f.body.length c2, .int .i64 f.pos] 48)).alloc (.cells #[.pointer (some ⟨TB, 0, none⟩), .slice (some ⟨b, off, none⟩) l.length cap, .slice none 0 0, .int .i64 0] 73)).alloc (.cells #[.string f.name, .slice none 0 0, .int .i64 f.result, .int .i64 0, .slice none 0 0] 35)).alloc (.map #[] 0)) = w4 at *
    generalize hM : wo.heap.size = M at *
    generalize hIB : M + 3 = IB at *
    generalize hCB : M + 2 = CB at *
    generalize hMB : M + 1 = MB at *
    have HAD := zh (And.intro hM (And.intro hMB (And.intro hCB hIB)))
    clear hM hIB hCB hMB
    dsimp only at HP
    have f1 : w4.cell? ⟨M, 1, none⟩ = some (.slice s1 f.params.length c1) := aa HP.out.fb (j := 1) rfl
    obtain ⟨pcs, ⟨ps0, pcap, hpv, hple, hpcm, hpnn, hprow, hpsz⟩, hpit⟩ := HRPA.out
    injection hpv with hpv1 hpv2 hpv3
    subst hpv1 hpv3
    unfold maxLen at hpcm
    have hplen : f.params.length ≤ 9223372036854775807 := by omega
    have HPROW := zh hprow
    have HPIT := zh hpit
    clear hpv2 hprow hpit hpsz hpnn hple hpcm
    go_wp2_with fail
    clear f1
    go_loopg [48] f.params.length (fun g t48 wq => ∃ j : Nat, j + g = f.params.length ∧ t48 = .int .i64 (j : Int) ∧ ParW PB M MB TB NB M CB IB (.slice (some ⟨b, off, none⟩) l.length cap) l w wo wq f #[.string f.name, .slice s1 f.params.length c1, .int .i64 f.result, .slice s2 f.body.length c2, .int .i64 f.pos] ⟨[], (j : Int), txs⟩ (aC (f.params.take j) ([], 0)).1 ((f.params.take j).map (·.2)))
    case atStart => exact ⟨0, Nat.zero_add _, rfl, by rw [List.take_zero, aC]; exact HP.out⟩
    case round =>
     clear HP
     obtain ⟨wq, hwq⟩ : ∃ x, x = wr := ⟨_, rfl⟩
     subst hwq
     obtain ⟨j, hjg, rfl, hpw⟩ := hrel
     have HP := zh hpw
     clear hpw
     by_cases hjl : j < f.params.length
     ·have h1 : (j : Int) < (f.params.length : Int) := by omega
      have h3 : (0 : Int) ≤ (j : Int) := by omega
      obtain ⟨pb, poff, hps0, hpSb, hpbl, hpcell⟩ := HPROW.out (by omega)
      subst hps0
      have hrepp := HPIT.out j hjl
      unfold kO at hrepp
      have hc2 : ∀ k, k < 2 → wq.cell? ⟨pb, poff + j * 2 + k, none⟩ = (pcs j)[k]? := fun k hk => (HP.out.c.old.cell (p := ⟨pb, _, none⟩) (by rw [HPBE.out]; exact hpSb)).trans (hpcell j hjl k hk)
      rw [hrepp] at hc2
      have HSNP := zh (ic (f.params.take j) (f.params.getD j default) ([], 0))
      have HTS := zh (cS default f.params j hjl)
      rw [← HTS.out] at HSNP
      have HLK : Hid ((aC (f.params.take j) ([], 0)).2 = (j : Int)) := zh (by rw [gb, List.length_take]; simp; omega)
      rw [HLK.out] at HSNP
      have HPL : Hid (((f.params.take j).map (·.2)).length = j ∧ j ≤ 16) := zh (by rw [List.length_map, List.length_take]; have := HRO.out; omega)
      have HPS : Hid ((f.params.take (j + 1)).map (·.2) = (f.params.take j).map (·.2) ++ [(f.params.getD j default).2]) := zh (by rw [HTS.out, List.map_append]; rfl)
      generalize f.params.getD j default = q at *
      obtain ⟨pn, pt⟩ := q
      dsimp only at hc2 HSNP HPS
      have y0 : wq.cell? ⟨pb, poff + j * 2, none⟩ = some (.string pn) := hc2 0 (by decide)
      have y1 : wq.cell? ⟨pb, poff + j * 2 + 1, none⟩ = some (.int .i64 pt) := hc2 1 (by decide)
      clear hc2 hrepp hpcell HTS HLK
      generalize (aC (f.params.take j) ([], 0)).1 = vw at *
      generalize (f.params.take j).map (·.2) = ps at *
      go_upto_region 15 with fail
      clear y0 y1
      have HX : Hid ((wq.alloc (.cells #[.string pn, .int .i64 pt] 50)).heap[wq.heap.size]? = some (.cells #[.string pn, .int .i64 pt] 50 (0, 0))) := zh (ah _ _ _ rfl)
      replace HP := zh (HP.out.below (ae (Below.refl _ _) (.cells #[.string pn, .int .i64 pt] 50)))
      generalize (wq.alloc (.cells #[.string pn, .int .i64 pt] 50)) = wx at *
      generalize wq.heap.size = XB at *
      have hs0 : wx.drew.cell? ⟨XB, 0, none⟩ = some (.string pn) := aa HX.out (j := 0) rfl
      refine wp_region_held (S := (fun w' : World => w'.cell? ⟨XB, 0, none⟩ = some (.string pn))) (by kernel_rfl) ?_
      refine tkA 0 ?_
      refine tkA 1 ?_
      refine tkA 2 ?_
      refine tkA 3 ?_
      clear hs0
      replace HP := zh (HP.out.below (av (Below.refl _ _)))
      replace HX : Hid (wx.drew.heap[XB]? = some (.cells #[.string pn, .int .i64 pt] 50 (0, 0))) := zh HX.out
      have HSLC := zh (gV PB M MB TB NB _ _ wx.drew HP.out.c.ma (by show (0 : Int) ≤ (j : Int); omega) (by show (j : Int) ≤ 1000000; have := HPL.out; omega))
      dsimp only at HSLC
      refine rd1 4 fun K hK => ?_
      go_simp
      go_at_call 17
      refine HSLC.out.mono ?_
      rintro e wy ⟨rfl, hm, hf⟩
      replace HX := zh (hf.obj HX.out (aA HP.out.c.ma.n.noTy HX.out) (by decide) (by decide) (by decide) (by decide))
      replace HP := zh (HP.out.fx hm hf)
      clear hm hf HSLC
      go_simp
      refine hK.out _ _ ?_ (fun hHeld => ?_)
      ·exact aa HX.out (j := 0) rfl
      clear hK K
      try go_simp
      have hput := (gc HP.out.v pn (j : Int)).1
      have HXI : Hid (XB ≠ IB) := zh (fun e => MapAt.noTy HP.out.v 50 (by rw [← e]; exact ⟨_, _, HX.out⟩))
      have hon := (gc HP.out.v pn (j : Int)).2.2
      replace HX := zh (hon.obj HXI.out HX.out)
      replace HP := zh (HP.out.put pn (j : Int))
      clear hon
      generalize eM wy IB pn (.int .i64 (j : Int)) = wz at *
      refine rd1 5 fun K hK => ?_
      go_simp
      refine hK.out _ _ ?_ (fun hHeld => ?_)
      ·exact aa HX.out (j := 0) rfl
      clear hK K hput
      refine wpAnyH_done (by kernel_rfl) ?_ _
      obtain ⟨pv, hcb, hown⟩ := HP.out.cb
      obtain ⟨sp, cp, rfl, _, hcp, _, _⟩ := aY hown
      have z1 : wz.cell? ⟨CB, 1, none⟩ = some (.slice sp ps.length cp) := aa hcb (j := 1) rfl
      have z2 : wz.cell? ⟨XB, 1, none⟩ = some (.int .i64 pt) := aa HX.out (j := 1) rfl
      have HBA : Hid (Below wz.heap.size wz (wz.alloc (.cells #[.int .i64 pt] 32))) := zh (ae (Below.refl _ _) _)
      have HCB := zh ((HBA.out.block _ (ad hcb)).trans hcb)
      have HOW := zh (bO hown (Stays.of_below HBA.out))
      have HNW := zh (ah wz (.cells #[.int .i64 pt] 32) _ rfl)
      replace HP := zh (HP.out.below HBA.out)
      clear hcb hown
      have HNB : Hid (some CB ≠ (Value.slice sp ps.length cp).ownBlock) := zh fun e => (aZ HOW.out e.symm).ne (⟨_, _, HCB.out⟩ : OfTy _ CB 35) (by decide) rfl
      have HI := zh pm
      have hBle : M ≤ (wz.alloc (.cells #[.int .i64 pt] 32)).heap.size := by have q := ad HCB.out; have := HAD.out; omega
      go_wp2_with (refine wpList_append_lies _ rfl _ _ _ rfl M 32 HI.out.choose (.int .i64 0) 1 8 Tryz.underlying31 HI.out.choose_spec.1 HI.out.choose_spec.2.1 HI.out.choose_spec.2.2.1 HI.out.choose_spec.2.2.2 rfl (by decide) _ ps.length (jK ps) rfl HOW.out ⟨wz.heap.size, 0, none⟩ 1 1 [.int .i64 pt] rfl rfl (by intro j u hj; rw [Go.WideShapes.add_plain, Nat.zero_add]; exact aa HNW.out (by simpa using hj)) (by intro u hu; simp at hu; subst hu; rfl) (by decide) (by have := HPL.out; unfold maxLen; omega) (by have := HPL.out; omega) hBle _ rfl ?_; intro g9 cp9 w9 hown9 hgrow9 hgl9 hlt9; have q9 := (hgrow9.block CB (ad HCB.out) HNB.out).trans HCB.out; have x9 := aa q9 (j := 1) rfl; have v9 := ab q9 1; have HO9 := zh hown9; have HG9 := zh hgrow9; clear hown9 hgrow9 hgl9 hlt9 q9)
      replace HP := zh (HP.out.push HCB.out HOW.out HG9.out HO9.out)
      rw [← HPS.out] at HP
      go_roundg (f.params.length - j - 1)
      case measure => omega
      case rel => exact ⟨j + 1, by omega, by go_num, by rw [HSNP.out]; exact HP.out⟩
     ·obtain rfl : j = f.params.length := by omega
      rw [List.take_of_length_le (Nat.le_refl _)] at HP
      have HBD : Hid (RepSts (fun b => b < PB) w (.slice s2 f.body.length c2) f.body) := zh (by rw [HPBE.out]; exact HRBO.out)
      have HIBB : Hid (PB ≤ IB) := zh (Nat.le_trans HP.out.c.ma.mm HP.out.im)
      have HGO := zh (gL PB M MB TB NB (.slice (some ⟨b, off, none⟩) l.length cap) l w f.body (.slice s2 f.body.length c2) HBD.out HFX.out.1 wq _ IB _ HP.out.c HP.out.v HP.out.iN HIBB.out (by have := HRO.out; unfold jP; dsimp only [List.length_nil]; exact ⟨by omega, by omega, by omega, by omega⟩))
      obtain ⟨sb, hsb⟩ : ∃ x, x = (aI l f.body ((aC f.params ([], 0)).1, ⟨[], (f.params.length : Int), txs⟩)).2 := ⟨_, rfl⟩
      rw [← hsb] at HGO
      have HSB : Hid (sb.ins.length ≤ 100000) := zh (by have q := bv l f.body (aC f.params ([], 0)).1 ⟨[], (f.params.length : Int), txs⟩; rw [← hsb] at q; obtain ⟨_, q, _⟩ := q; dsimp only [List.length_nil] at q; have := HRO.out; omega)
      have HFK := zh (pu l f txs sb hsb)
      clear hsb
      generalize (aC f.params ([], 0)).1 = vw at *
      have y3 : wq.cell? ⟨M, 3, none⟩ = some (.slice s2 f.body.length c2) := aa HP.out.fb (j := 3) rfl
      go_wp2_with fail
      refine HGO.out.mono ?_
      rintro e w6 ⟨rfl, hm, hf⟩
      replace HP := zh (HP.out.fx hm hf)
      clear hm hf y3 HGO
      have y2 : w6.cell? ⟨M, 2, none⟩ = some (.int .i64 f.result) := aa HP.out.fb (j := 2) rfl
      by_cases hR : f.result = 0
      ·have hRq : (f.result == 0) = true := beq_iff_eq.2 hR
       have HRQ := zh hR
       clear hR
       go_wp2_with fail
       refine (aP PB M MB TB NB _ sb 18 0 _ HP.out.c.ma (by have := HSB.out; omega)).mono ?_
       rintro e w7 ⟨cl, rfl, _, hm, hf⟩
       clear y2
       replace HP := zh (HP.out.fx hm hf)
       clear hm hf
       replace HFK := zh (HFK.out (aq 18 0 sb) (by rw [if_pos HRQ.out]))
       generalize aq 18 0 sb = sf at *
       go_upto_region 21 with fail
       generalize hps : f.params.map (·.2) = ps at *
       clear hps
       obtain ⟨iv, hmm, hoo⟩ := HP.out.c.ma.m
       obtain ⟨si, ci, rfl, _, _, _, _⟩ := aY hoo
       obtain ⟨pv, hcb, hown⟩ := HP.out.cb
       obtain ⟨sp, cp, rfl, _, hcp, _, _⟩ := aY hown
       obtain ⟨-, -, m2, m3, -⟩ := css hmm
       have HCM : Hid (CB ≠ MB) := zh (OfTy.ne (⟨_, _, hcb⟩ : OfTy _ CB 35) (⟨_, _, hmm⟩ : OfTy _ MB 73) (by decide))
       have HFD := zh (j8 (lj HO.out HP.out hoo hcb hown))
       dsimp only at HFD
       have k3 : w7.drew.frozen? ⟨CB, 3, none⟩ = false := ab hcb 3
       have l3 : w7.drew.cell? ⟨CB, 3, none⟩ = some (.int .i64 0) := aa hcb (j := 3) rfl
       have k4 : w7.frozen? ⟨CB, 4, none⟩ = false := ab hcb 4
       have l4 : w7.cell? ⟨CB, 4, none⟩ = some (.slice none 0 0) := aa hcb (j := 4) rfl
       clear hmm hoo hcb hown
       have hs0 : w7.drew.cell? ⟨MB, 2, none⟩ = some (.slice si sf.ins.length ci) ∧ w7.drew.cell? ⟨MB, 3, none⟩ = some (.int .i64 sf.slots) := ⟨m2, m3⟩
       refine wp_region_held (S := (fun w' : World => w'.cell? ⟨MB, 2, none⟩ = some (.slice si sf.ins.length ci) ∧ w'.cell? ⟨MB, 3, none⟩ = some (.int .i64 sf.slots))) (by kernel_rfl) ?_
       refine tk (v := ?_) 0 (fun w hSw => ?_) ?_; rotate_left
       ·obtain ⟨hSa, hSb⟩ := hSw; go_simp; try with_reducible rfl
       refine tk (v := ?_) 1 (fun w hSw => ?_) ?_; rotate_left
       ·obtain ⟨hSa, hSb⟩ := hSw; go_simp; try with_reducible rfl
       refine tk (v := ?_) 2 (fun w hSw => ?_) ?_; rotate_left
       ·obtain ⟨hSa, hSb⟩ := hSw; go_simp; try with_reducible rfl
       refine tk (v := ?_) 3 (fun w hSw => ?_) ?_; rotate_left
       ·obtain ⟨hSa, hSb⟩ := hSw; go_simp; try with_reducible rfl
       refine tk (v := ?_) 4 (fun w hSw => ?_) ?_; rotate_left
       ·obtain ⟨hSa, hSb⟩ := hSw; go_simp; try with_reducible rfl
       refine tk (v := ?_) 5 (fun w hSw => ?_) ?_; rotate_left
       ·obtain ⟨hSa, hSb⟩ := hSw; go_simp; try with_reducible rfl
       refine tk (v := ?_) 6 (fun w hSw => ?_) ?_; rotate_left
       ·obtain ⟨hSa, hSb⟩ := hSw; go_simp; try with_reducible rfl
       refine tk (v := ?_) 7 (fun w hSw => ?_) ?_; rotate_left
       ·obtain ⟨hSa, hSb⟩ := hSw; go_simp; try with_reducible rfl
       refine tk (v := ?_) 8 (fun w hSw => ?_) ?_; rotate_left
       ·obtain ⟨hSa, hSb⟩ := hSw; go_simp; try with_reducible rfl
       clear hs0
       refine rd1 9 fun K hK => ?_
       go_simp
       refine hK.out _ _ ?_ (fun hHeld => ?_)
       ·exact ⟨(World.cell?_setCell_far _ _ _ _ HCM.out).trans m2, (World.cell?_setCell_far _ _ _ _ HCM.out).trans m3⟩
       clear hK K k3 l3
       try go_simp
       refine tk (v := ?_) 10 (fun w hSw => ?_) ?_; rotate_left
       ·obtain ⟨hSa, hSb⟩ := hSw; go_simp; try with_reducible rfl
       refine rd1 11 fun K hK => ?_
       go_simp
       refine hK.out _ _ ?_ (fun hHeld2 => ?_)
       ·exact ⟨(World.cell?_setCell_far _ _ _ _ HCM.out).trans hHeld.1, (World.cell?_setCell_far _ _ _ _ HCM.out).trans hHeld.2⟩
       clear hK K m2 m3 k4 l4 hHeld hHeld2
       try go_simp
       refine wpAnyH_done (by kernel_rfl) ?_ _
       have hfd := HFD.out
       generalize ((w7.setCell ⟨CB, 3, none⟩ (.int .i64 sf.slots)).setCell ⟨CB, 4, none⟩ (.slice si sf.ins.length ci)).drew = w8 at *
       obtain ⟨ho8, hcb8, hdn8⟩ := hfd
       have HO8 := zh ho8
       have HCB8 := zh hcb8
       have HDN8 := zh hdn8
       clear ho8 hcb8 hdn8 HFD
       obtain ⟨cv, ccs, hmo, hco, hcd⟩ := HO8.out.cd
       dsimp only at hco hcd
       obtain ⟨sc, cc, rfl, _, hcc, _, _⟩ := aY hco
       have a0 : w8.cell? ⟨MOB, 0, none⟩ = some (.slice sc cds.length cc) := aa hmo (j := 0) rfl
       obtain ⟨b0, b1, b2, b3, b4, -⟩ := css HCB8.out
       have HMO := zh hmo
       have HCO := zh hco
       have HCD := zh hcd
       have HBA : Hid (Below w8.heap.size w8 (w8.alloc (.cells #[.string f.name, .slice sp ps.length cp, .int .i64 f.result, .int .i64 sf.slots, .slice si sf.ins.length ci] 35))) := zh (ae (Below.refl _ _) _)
       have HMO2 := zh ((HBA.out.block _ (ad hmo)).trans hmo)
       have HCO2 := zh (bO hco (Stays.of_below HBA.out))
       have HNW := zh (ah w8 (.cells #[.string f.name, .slice sp ps.length cp, .int .i64 f.result, .int .i64 sf.slots, .slice si sf.ins.length ci] 35) _ rfl)
       clear hmo hco hcd
       have HNB : Hid (some MOB ≠ (Value.slice sc cds.length cc).ownBlock) := zh fun e => (aZ HCO2.out e.symm).ne (⟨_, _, HMO2.out⟩ : OfTy _ MOB 27) (by decide) rfl
       have HI := zh pi
       have hBle : PB ≤ (w8.alloc (.cells #[.string f.name, .slice sp ps.length cp, .int .i64 f.result, .int .i64 sf.slots, .slice si sf.ins.length ci] 35)).heap.size := Nat.le_trans HO8.out.le HBA.out.size
       go_wp2_with (refine wpList_append_lies _ rfl _ _ _ rfl PB 35 HI.out.choose _ 5 80 Tryz.underlying24 HI.out.choose_spec.1 HI.out.choose_spec.2.1 HI.out.choose_spec.2.2.1 HI.out.choose_spec.2.2.2 rfl (by decide) _ cds.length (cV ccs cds.length) rfl HCO2.out ⟨w8.heap.size, 0, none⟩ 1 1 [.string f.name, .slice sp ps.length cp, .int .i64 f.result, .int .i64 sf.slots, .slice si sf.ins.length ci] rfl rfl (by intro j u hj; rw [Go.WideShapes.add_plain, Nat.zero_add]; exact aa HNW.out (by simpa using hj)) (by intro u hu; simp at hu; rcases hu with rfl | rfl | rfl | rfl | rfl <;> rfl) (by decide) (by have := HNC.out; unfold maxLen; omega) (by have := HNC.out; omega) hBle _ rfl ?_; intro g9 cp9 w9 hown9 hgrow9 hgl9 hlt9; have q9 := (hgrow9.block MOB (ad HMO2.out) HNB.out).trans HMO2.out; have x9 := aa q9 (j := 0) rfl; have v9 := ab q9 0; have HO9 := zh hown9; have HG9 := zh hgrow9; clear hown9 hgrow9 hgl9 hlt9 q9)
       have HNX := zh (l8 HO8.out HMO.out HCO.out HCD.out HDN8.out HG9.out HO9.out)
       dsimp only at HNX
       go_roundg (l.length - i - 1)
       case measure => omega
       case rel => exact ⟨i + 1, by omega, by go_num, by rw [HSN.out, HFK.out]; exact HNX.out⟩
      ·have hRq : (f.result == 0) = false := beq_false_of_ne hR
       have HRQ := zh hR
       clear hR
       replace HFK := zh (HFK.out sb (by rw [if_neg HRQ.out]))
       go_upto_region 21 with fail
       clear y2
       generalize hps : f.params.map (·.2) = ps at *
       clear hps
       obtain ⟨iv, hmm, hoo⟩ := HP.out.c.ma.m
       obtain ⟨si, ci, rfl, _, _, _, _⟩ := aY hoo
       obtain ⟨pv, hcb, hown⟩ := HP.out.cb
       obtain ⟨sp, cp, rfl, _, hcp, _, _⟩ := aY hown
       obtain ⟨-, -, m2, m3, -⟩ := css hmm
       have HCM : Hid (CB ≠ MB) := zh (OfTy.ne (⟨_, _, hcb⟩ : OfTy _ CB 35) (⟨_, _, hmm⟩ : OfTy _ MB 73) (by decide))
       have HFD := zh (j8 (lj HO.out HP.out hoo hcb hown))
       dsimp only at HFD
       have k3 : w6.drew.frozen? ⟨CB, 3, none⟩ = false := ab hcb 3
       have l3 : w6.drew.cell? ⟨CB, 3, none⟩ = some (.int .i64 0) := aa hcb (j := 3) rfl
       have k4 : w6.frozen? ⟨CB, 4, none⟩ = false := ab hcb 4
       have l4 : w6.cell? ⟨CB, 4, none⟩ = some (.slice none 0 0) := aa hcb (j := 4) rfl
       clear hmm hoo hcb hown
       have hs0 : w6.drew.cell? ⟨MB, 2, none⟩ = some (.slice si sb.ins.length ci) ∧ w6.drew.cell? ⟨MB, 3, none⟩ = some (.int .i64 sb.slots) := ⟨m2, m3⟩
       refine wp_region_held (S := (fun w' : World => w'.cell? ⟨MB, 2, none⟩ = some (.slice si sb.ins.length ci) ∧ w'.cell? ⟨MB, 3, none⟩ = some (.int .i64 sb.slots))) (by kernel_rfl) ?_
       refine tk (v := ?_) 0 (fun w hSw => ?_) ?_; rotate_left
       ·obtain ⟨hSa, hSb⟩ := hSw; go_simp; try with_reducible rfl
       refine tk (v := ?_) 1 (fun w hSw => ?_) ?_; rotate_left
       ·obtain ⟨hSa, hSb⟩ := hSw; go_simp; try with_reducible rfl
       refine tk (v := ?_) 2 (fun w hSw => ?_) ?_; rotate_left
       ·obtain ⟨hSa, hSb⟩ := hSw; go_simp; try with_reducible rfl
       refine tk (v := ?_) 3 (fun w hSw => ?_) ?_; rotate_left
       ·obtain ⟨hSa, hSb⟩ := hSw; go_simp; try with_reducible rfl
       refine tk (v := ?_) 4 (fun w hSw => ?_) ?_; rotate_left
       ·obtain ⟨hSa, hSb⟩ := hSw; go_simp; try with_reducible rfl
       refine tk (v := ?_) 5 (fun w hSw => ?_) ?_; rotate_left
       ·obtain ⟨hSa, hSb⟩ := hSw; go_simp; try with_reducible rfl
       refine tk (v := ?_) 6 (fun w hSw => ?_) ?_; rotate_left
       ·obtain ⟨hSa, hSb⟩ := hSw; go_simp; try with_reducible rfl
       refine tk (v := ?_) 7 (fun w hSw => ?_) ?_; rotate_left
       ·obtain ⟨hSa, hSb⟩ := hSw; go_simp; try with_reducible rfl
       refine tk (v := ?_) 8 (fun w hSw => ?_) ?_; rotate_left
       ·obtain ⟨hSa, hSb⟩ := hSw; go_simp; try with_reducible rfl
       clear hs0
       refine rd1 9 fun K hK => ?_
       go_simp
       refine hK.out _ _ ?_ (fun hHeld => ?_)
       ·exact ⟨(World.cell?_setCell_far _ _ _ _ HCM.out).trans m2, (World.cell?_setCell_far _ _ _ _ HCM.out).trans m3⟩
       clear hK K k3 l3
       try go_simp
       refine tk (v := ?_) 10 (fun w hSw => ?_) ?_; rotate_left
       ·obtain ⟨hSa, hSb⟩ := hSw; go_simp; try with_reducible rfl
       refine rd1 11 fun K hK => ?_
       go_simp
       refine hK.out _ _ ?_ (fun hHeld2 => ?_)
       ·exact ⟨(World.cell?_setCell_far _ _ _ _ HCM.out).trans hHeld.1, (World.cell?_setCell_far _ _ _ _ HCM.out).trans hHeld.2⟩
       clear hK K m2 m3 k4 l4 hHeld hHeld2
       try go_simp
       refine wpAnyH_done (by kernel_rfl) ?_ _
       have hfd := HFD.out
       generalize ((w6.setCell ⟨CB, 3, none⟩ (.int .i64 sb.slots)).setCell ⟨CB, 4, none⟩ (.slice si sb.ins.length ci)).drew = w8 at *
       obtain ⟨ho8, hcb8, hdn8⟩ := hfd
       have HO8 := zh ho8
       have HCB8 := zh hcb8
       have HDN8 := zh hdn8
       clear ho8 hcb8 hdn8 HFD
       obtain ⟨cv, ccs, hmo, hco, hcd⟩ := HO8.out.cd
       dsimp only at hco hcd
       obtain ⟨sc, cc, rfl, _, hcc, _, _⟩ := aY hco
       have a0 : w8.cell? ⟨MOB, 0, none⟩ = some (.slice sc cds.length cc) := aa hmo (j := 0) rfl
       obtain ⟨b0, b1, b2, b3, b4, -⟩ := css HCB8.out
       have HMO := zh hmo
       have HCO := zh hco
       have HCD := zh hcd
       have HBA : Hid (Below w8.heap.size w8 (w8.alloc (.cells #[.string f.name, .slice sp ps.length cp, .int .i64 f.result, .int .i64 sb.slots, .slice si sb.ins.length ci] 35))) := zh (ae (Below.refl _ _) _)
       have HMO2 := zh ((HBA.out.block _ (ad hmo)).trans hmo)
       have HCO2 := zh (bO hco (Stays.of_below HBA.out))
       have HNW := zh (ah w8 (.cells #[.string f.name, .slice sp ps.length cp, .int .i64 f.result, .int .i64 sb.slots, .slice si sb.ins.length ci] 35) _ rfl)
       clear hmo hco hcd
       have HNB : Hid (some MOB ≠ (Value.slice sc cds.length cc).ownBlock) := zh fun e => (aZ HCO2.out e.symm).ne (⟨_, _, HMO2.out⟩ : OfTy _ MOB 27) (by decide) rfl
       have HI := zh pi
       have hBle : PB ≤ (w8.alloc (.cells #[.string f.name, .slice sp ps.length cp, .int .i64 f.result, .int .i64 sb.slots, .slice si sb.ins.length ci] 35)).heap.size := Nat.le_trans HO8.out.le HBA.out.size
       go_wp2_with (refine wpList_append_lies _ rfl _ _ _ rfl PB 35 HI.out.choose _ 5 80 Tryz.underlying24 HI.out.choose_spec.1 HI.out.choose_spec.2.1 HI.out.choose_spec.2.2.1 HI.out.choose_spec.2.2.2 rfl (by decide) _ cds.length (cV ccs cds.length) rfl HCO2.out ⟨w8.heap.size, 0, none⟩ 1 1 [.string f.name, .slice sp ps.length cp, .int .i64 f.result, .int .i64 sb.slots, .slice si sb.ins.length ci] rfl rfl (by intro j u hj; rw [Go.WideShapes.add_plain, Nat.zero_add]; exact aa HNW.out (by simpa using hj)) (by intro u hu; simp at hu; rcases hu with rfl | rfl | rfl | rfl | rfl <;> rfl) (by decide) (by have := HNC.out; unfold maxLen; omega) (by have := HNC.out; omega) hBle _ rfl ?_; intro g9 cp9 w9 hown9 hgrow9 hgl9 hlt9; have q9 := (hgrow9.block MOB (ad HMO2.out) HNB.out).trans HMO2.out; have x9 := aa q9 (j := 0) rfl; have v9 := ab q9 0; have HO9 := zh hown9; have HG9 := zh hgrow9; clear hown9 hgrow9 hgl9 hlt9 q9)
       have HNX := zh (l8 HO8.out HMO.out HCO.out HCD.out HDN8.out HG9.out HO9.out)
       dsimp only at HNX
       go_roundg (l.length - i - 1)
       case measure => omega
       case rel => exact ⟨i + 1, by omega, by go_num, by rw [HSN.out, HFK.out]; exact HNX.out⟩
   ·obtain rfl : i = l.length := by omega
    rw [List.take_of_length_le (Nat.le_refl _)] at HO
    have HMK : Hid (cM l = ⟨(a8 l l ([], [])).1, (a8 l l ([], [])).2.map cI⟩) := zh rfl
    have HFM := zh (HFI.out (by simp))
    rw [HMK.out] at HFM
    generalize a8 l l ([], []) = p at *
    obtain ⟨cds, txs⟩ := p
    dsimp only at HMK HFM
    obtain ⟨cv, ccs, hmo, hco, hcd⟩ := HO.out.cd
    dsimp only at hco hcd
    obtain ⟨sc, cc, rfl, _, _, _, _⟩ := aY hco
    obtain ⟨tv, vs, htb, hto, htx⟩ := HO.out.tx.t
    dsimp only at hto htx
    obtain ⟨st, ct, rfl, _, _, _, _⟩ := aY hto
    have t0 : wo.cell? ⟨TB, 0, none⟩ = some (.slice st txs.length ct) := aa htb (j := 0) rfl
    have m1 : wo.cell? ⟨MOB, 1, none⟩ = some (.slice none 0 0) := aa hmo (j := 1) rfl
    have k1 : wo.frozen? ⟨MOB, 1, none⟩ = false := ab hmo 1
    have HMO : Hid ((wo.setCell ⟨MOB, 1, none⟩ (.slice st txs.length ct)).heap[MOB]? = some (.cells #[.slice sc cds.length cc, .slice st txs.length ct] 27 (0, 0))) := zh (ai hmo 1 _)
    have HK : Hid (Keeps (fun t => t ≠ 27) wo (wo.setCell ⟨MOB, 1, none⟩ (.slice st txs.length ct))) := zh (Keeps.set ⟨_, _, hmo⟩ (fun h => h rfl) 1 _)
    have HRB : Hid ((wo.setCell ⟨MOB, 1, none⟩ (.slice st txs.length ct)).heap[RB]? = _) := zh ((af _ _ _ _ HO.out.bm).trans HO.out.rb)
    have HB5 : Hid (Below PB w (wo.setCell ⟨MOB, 1, none⟩ (.slice st txs.length ct))) := zh (HO.out.old.setCell (p := ⟨MOB, 1, none⟩) HO.out.bb _)
    have HDO : Hid (∀ w1 w' : World, Keeps (fun t => t ≠ 27) wo w1 → Stays (bA PB) w1 w' → RepMdl w' (.agg #[.slice sc cds.length cc, .slice st txs.length ct]) ⟨cds, txs.map cI⟩) := zh (fun w1 w' hs hst => pI hs hst hco hcd hto htx (Nat.le_refl _) HFM.out)
    clear hmo hco hcd htb hto htx HO
    go_upto_region 25 with fail
    clear t0 m1 k1
    generalize (wo.setCell ⟨MOB, 1, none⟩ (.slice st txs.length ct)) = w5 at *
    have HRT := zh (ns (HDO.out _ _ HK.out (Stays.refl _ _)))
    rw [← HMK.out] at HRT
    obtain ⟨m0, m1, -⟩ := css HMO.out
    go_wp2_with fail
    refine HRT.out.mono ?_
    rintro e w6 ⟨rfl, hb⟩
    clear m0 m1 HRT
    replace HMO := zh ((hb.block _ (ad HMO.out)).trans HMO.out)
    replace HRB := zh ((hb.block _ (ad HRB.out)).trans HRB.out)
    replace HK := zh (HK.out.trans (Keeps.below hb))
    replace HB5 := zh (HB5.out.trans (hb.mono (by rw [HPBE.out]; exact HB5.out.size)))
    clear hb
    have HRG : Hid (PB ≤ RB) := zh (by have := HRBE.out; have := HPBE.out; omega)
    obtain ⟨r0, r1, -⟩ := css HRB.out
    obtain ⟨k0, k1, -⟩ := fzs HRB.out
    cases hrm : gN (cM l)
    ·have HE := zh (HE2.out (by simp) hrm)
     clear hrm
     go_wp2_with fail
     refine bodyPost_ret (v := .tuple #[.agg #[.slice none 0 0, .slice none 0 0], .int .i64 2]) (by simp [results, Tryz.results11, go_sem, r0, r1]) rfl ?_
     unfold d9
     rw [HE.out]
     refine ⟨rfl, ?_⟩
     rw [← HPBE.out]
     exact (HB5.out.setCell (p := ⟨RB, 0, none⟩) HRG.out _).setCell (p := ⟨RB, 1, none⟩) HRG.out _
    ·have HE := zh (HE1.out (by simp) hrm)
     clear hrm
     obtain ⟨m0, m1, -⟩ := css HMO.out
     go_wp2_with fail
     refine bodyPost_ret (v := .tuple #[.agg #[.slice sc cds.length cc, .slice st txs.length ct], .int .i64 0]) (by simp [results, Tryz.results11, go_sem, r0, r1]) rfl ?_
     unfold d9
     rw [HE.out]
     refine ⟨⟨_, rfl, ?_⟩, ?_⟩
     ·intro w9 hst
      rw [HMK.out]
      rw [← HPBE.out] at hst
      exact HDO.out _ _ ((HK.out.trans (Keeps.set ⟨_, _, HRB.out⟩ (fun h => h rfl) 0 _)).trans (Keeps.set ⟨_, _, ai HRB.out 0 _⟩ (fun h => h rfl) 1 _)) hst
     ·rw [← HPBE.out]
      exact (HB5.out.setCell (p := ⟨RB, 0, none⟩) HRG.out _).setCell (p := ⟨RB, 1, none⟩) HRG.out _
 ·have r0 : w2.cell? ⟨RB, 0, none⟩ = some (.slice none 0 0) := aa HRB.out (j := 0) rfl
  have r1 : w2.cell? ⟨RB, 1, none⟩ = some (.slice none 0 0) := aa HRB.out (j := 1) rfl
  obtain ⟨k0, k1, -⟩ := fzs HRB.out
  have hne2 : (ce != 0) = true := bne_iff_ne.2 hz
  have HNE := zh hz
  clear hz
  go_wp2_with fail
  refine bodyPost_ret (v := .tuple #[.agg #[.slice none 0 0, .slice none 0 0], .int .i64 ce]) (by simp [results, Tryz.results11, go_sem, r0, r1]) rfl ?_
  have e := HE0.out HNE.out
  have hwr : w.heap.size ≤ RB := by have := HRBE.out; omega
  unfold d9
  rw [e]
  exact ⟨rfl, (HB1.out.setCell (p := ⟨RB, 0, none⟩) hwr _).setCell (p := ⟨RB, 1, none⟩) hwr _⟩
end
end Go.Proofs.YtjblihabklemfaaGreatDoor
