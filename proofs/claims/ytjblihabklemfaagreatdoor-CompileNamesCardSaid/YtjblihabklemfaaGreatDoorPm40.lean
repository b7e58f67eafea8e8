/-
  Compile: part 40 of its proof: see the last text.
-/
import Derived.Test.YtjblihabklemfaaGreatDoorPm39
set_option maxRecDepth 100000
set_option maxHeartbeats 16000000
namespace Go.Proofs.YtjblihabklemfaaGreatDoor
section
open Go.RowKit
theorem kM {w wr : World} {P : Nat} (h : w.heap.size = P) (hb : Below P w wr) : P ≤ wr.heap.size := by rw [← h]; exact hb.size
theorem m9 {S : Nat → Prop} {w : World} {cs : List Value} {f : Fn} (h : RepFn S w cs f) : ∃ nm s1 n1 c1 rs s2 n2 c2 pos, cs = [.string nm, .slice s1 n1 c1, .int .i64 rs, .slice s2 n2 c2, .int .i64 pos] := by
 obtain ⟨vp, vb, rfl, ⟨c, ⟨a1, a2, rfl, _⟩, _⟩, ⟨c', ⟨b1, b2, rfl, _⟩, _⟩⟩ := h
 exact ⟨_, _, _, _, _, _, _, _, _, rfl⟩
theorem oN {S : Nat → Prop} {w : World} {f : Fn} {nm : ByteArray} {rs pos : Int} {s1 s2 : Option Addr} {n1 c1 n2 c2 : Nat} (h : RepFn S w [.string nm, .slice s1 n1 c1, .int .i64 rs, .slice s2 n2 c2, .int .i64 pos] f) : nm = f.name ∧ n1 = f.params.length ∧ rs = f.result ∧ n2 = f.body.length ∧ pos = f.pos := by
 obtain ⟨vp, vb, e, ⟨c, ⟨a1, a2, rfl, _⟩, _⟩, ⟨c', ⟨b1, b2, rfl, _⟩, _⟩⟩ := h
 simp only [List.cons.injEq, Value.int.injEq, Value.string.injEq, Value.slice.injEq, true_and, and_true] at e
 exact ⟨e.1, e.2.1.2.1, e.2.2.1, e.2.2.2.1.2.1, e.2.2.2.2⟩
theorem FunR.put {w : World} (k : ByteArray) {u : Value} {f : Fn} (hf : FnV w u f) : ∀ {m : List (ByteArray × Value)} {F : aQ}, FunR w m F → FunR w (bJ m k u) (bJ F k f)
 | [], [], _ => ⟨rfl, hf, trivial⟩
 | p :: m, q :: F, ⟨h1, h2, h3⟩ => by
  simp only [bJ]
  rw [h1]
  split
  ·exact ⟨rfl, hf, h3⟩
  ·exact ⟨h1, h2, h3.put k hf⟩
theorem qd {F : aQ} {k : ByteArray} {f : Fn} (h : ∀ p, p ∈ F → p.2.params.length ≤ 100000) (hf : f.params.length ≤ 100000) : ∀ p, p ∈ bJ F k f → p.2.params.length ≤ 100000 := by
 induction F with
 | nil =>
  intro p hp
  simp only [bJ, List.mem_singleton] at hp
  subst hp
  exact hf
 | cons q F ih =>
  intro p hp
  simp only [bJ] at hp
  split at hp
  ·rcases List.mem_cons.1 hp with rfl | hp
   ·exact hf
   ·exact h p (List.mem_cons_of_mem _ hp)
  ·rcases List.mem_cons.1 hp with rfl | hp
   ·exact h _ (List.mem_cons_self ..)
   ·exact ih (fun p hp => h p (List.mem_cons_of_mem _ hp)) p hp
theorem qK (l : List Fn) (i : Nat) (hi : i < l.length) (F : aQ) : cD (l.drop i) F = if (aF F (l.getD i default).name).isSome then ((53, (l.getD i default).pos), F) else cD (l.drop (i + 1)) (bJ F (l.getD i default).name (l.getD i default)) := by
 rw [List.drop_eq_getElem_cons hi, cD, List.getD_eq_getElem?_getD, List.getElem?_eq_getElem hi]
 rfl
theorem qT (F : aQ) (l : List Fn) (i : Nat) (hi : i < l.length) : eF F (l.drop i) = orF (dL F (l.getD i default)) (eF F (l.drop (i + 1))) := by
 rw [List.drop_eq_getElem_cons hi, eF, List.getD_eq_getElem?_getD, List.getElem?_eq_getElem hi]
 rfl
theorem mQ {l : List Fn} (h : 64 < l.length) : bw l = (2, 0) := by
 unfold bw
 rw [if_pos h]
theorem oo {l : List Fn} (h : ¬ 64 < l.length) : bw l = if (cD l []).1.1 ≠ 0 then (cD l []).1 else eF (cD l []).2 l := by
 unfold bw
 rw [if_neg h]
theorem kW {l : List Fn} {q : Flt} {G : aQ} (h : cD l [] = (q, G)) (hq : ¬ q.1 = 0) : (if (cD l []).1.1 ≠ 0 then (cD l []).1 else eF (cD l []).2 l) = q := by
 rw [h, if_pos hq]
theorem mv {l : List Fn} {G : aQ} (h : cD l [] = (okF, G)) : (if (cD l []).1.1 ≠ 0 then (cD l []).1 else eF (cD l []).2 l) = eF G l := by
 rw [h, if_neg (by simp [okF])]
theorem kQ (l : List Fn) (hp : ∀ f, f ∈ l → f.params.length ≤ 100000) (w : World) (u : Value) (hr : RepFns Any w u l) :
    Calls Tryz.prog 15 #[.agg #[u]] w fun e w' => e = .returned (.tuple #[.int .i64 (bw l).1, .int .i64 (bw l).2]) ∧ Below w.heap.size w w' := by
 obtain ⟨cs, ⟨s0, cap, rfl, hle, hcm, _, hrow, hsz⟩, hit⟩ := hr
 have HROW := zh hrow
 have HIT : Hid (∀ i, i < l.length → RepFn (fun b => b < w.heap.size) w (cs i) (l.getD i default)) := zh (fun i hi => (hit i hi).lies.mono (fun _ h => h.2))
 have HCM := zh (And.intro hle hcm)
 have HP := zh hp
 generalize hC : bw l = C
 have HC := zh hC.symm
 clear hrow hit hsz hle hcm hC hp
 by_cases h64 : (64 : Int) < (l.length : Int)
 ·have HCE := zh (HC.out.trans (mQ (by omega)))
  go_enter Tryz.func15, Tryz.ntmps15
  go_wp2_with fail
  refine bodyPost_ret (v := .tuple #[.int .i64 2, .int .i64 0]) (by simp [results, Tryz.results15, go_sem]) rfl ⟨by rw [HCE.out], ae (Below.refl _ _) _⟩
 replace HC := zh (HC.out.trans (oo (by omega)))
 have HB : Hid (Below w.heap.size w (((w.alloc (.cells #[.slice s0 l.length cap] 42)).alloc (.map #[] 0)).alloc (.cells #[.map (some (w.heap.size + 1)), .int .i64 0] 93))) := zh (ae (ae (ae (Below.refl _ _) _) _) _)
 have HPB : Hid ((((w.alloc (.cells #[.slice s0 l.length cap] 42)).alloc (.map #[] 0)).alloc (.cells #[.map (some (w.heap.size + 1)), .int .i64 0] 93)).heap[w.heap.size]? = some (.cells #[.slice s0 l.length cap] 42 (0, 0))) := zh (au _ _ _ _ (au _ _ _ _ (ah _ _ _ rfl)))
 have HOB : Hid ((((w.alloc (.cells #[.slice s0 l.length cap] 42)).alloc (.map #[] 0)).alloc (.cells #[.map (some (w.heap.size + 1)), .int .i64 0] 93)).heap[w.heap.size + 2]? = some (.cells #[.map (some (w.heap.size + 1)), .int .i64 0] 93 (0, 0))) := zh (ah _ _ _ (by rw [ag, ag]))
 have HM : Hid (MapAt (((w.alloc (.cells #[.slice s0 l.length cap] 42)).alloc (.map #[] 0)).alloc (.cells #[.map (some (w.heap.size + 1)), .int .i64 0] 93)) (w.heap.size + 1) []) := zh ⟨#[], 0, au _ _ _ _ (ah _ _ _ (ag _ _)), rfl⟩
 have hmm := @run_makeMap Tryz.prog
 have H64 := zh h64
 obtain ⟨PF, hPF⟩ : ∃ PF, PF = cD l [] := ⟨_, rfl⟩
 have HPF := zh hPF
 clear hPF
 go_enter Tryz.func15, Tryz.ntmps15
 go_upto_region 4 with fail
 clear hmm h64
 generalize (((w.alloc (.cells #[.slice s0 l.length cap] 42)).alloc (.map #[] 0)).alloc (.cells #[.map (some (w.heap.size + 1)), .int .i64 0] 93)) = w1 at *
 generalize hCB : w.heap.size + 2 = CB at *
 generalize hFR : w.heap.size + 1 = FR at *
 generalize hPB : w.heap.size = PB at *
 have HAD := zh (And.intro hPB (And.intro hFR hCB))
 clear hPB hFR hCB
 have p0 : w1.cell? ⟨PB, 0, none⟩ = some (.slice s0 l.length cap) := aa HPB.out (j := 0) rfl
 go_wp2_with fail
 clear p0
 go_loopg [22] l.length (fun g t22 wr => ∃ (i : Nat) (F : aQ) (m : List (ByteArray × Value)), i + g = l.length ∧ t22 = .int .i64 (i : Int) ∧ PF = cD (l.drop i) F ∧ MapAt wr FR m ∧ (∀ W, Stays (fun b => b < PB) w W → FunR W m F) ∧ (∀ p, p ∈ F → p.2.params.length ≤ 100000) ∧ Below PB w wr ∧ wr.heap[PB]? = some (.cells #[.slice s0 l.length cap] 42 (0, 0)) ∧ wr.heap[CB]? = some (.cells #[.map (some FR), .int .i64 0] 93 (0, 0)))
 case atStart => exact ⟨0, [], [], Nat.zero_add _, rfl, HPF.out, HM.out, fun _ _ => trivial, fun _ h => (by cases h), HB.out, HPB.out, HOB.out⟩
 case round =>
  obtain ⟨i, F, m, hig, rfl, hpf, hm, hfr, hfp, hb, hpb, hob⟩ := hrel
  clear HB HPB HOB HM
  have HPFI := zh hpf
  have HM := zh hm
  have HFR := zh hfr
  have HFP := zh hfp
  have HB := zh hb
  have HPB := zh hpb
  have HOB := zh hob
  clear hpf hm hfr hfp hb hpb hob
  by_cases hil : i < l.length
  ·obtain ⟨hle2, hcm2⟩ := HCM.out
   unfold maxLen at hcm2
   have g1 : (i : Int) < (l.length : Int) := by omega
   have g3 : (0 : Int) ≤ (i : Int) := by omega
   obtain ⟨b, off, hs0, hSb, hbl, hcell⟩ := HROW.out (by omega)
   subst hs0
   have hrep := HIT.out i hil
   obtain ⟨nm, s1, n1, c1, rs, s2, n2, c2, pos, hcs⟩ := m9 hrep
   rw [hcs] at hrep
   have hc5 : ∀ j, j < 5 → wr.cell? ⟨b, off + i * 5 + j, none⟩ = (cs i)[j]? := fun j hj => (HB.out.cell (p := ⟨b, _, none⟩) hbl).trans (hcell i hil j hj)
   rw [hcs] at hc5
   have x0 : wr.cell? ⟨b, off + i * 5, none⟩ = some (.string nm) := hc5 0 (by decide)
   have x1 : wr.cell? ⟨b, off + i * 5 + 1, none⟩ = some (.slice s1 n1 c1) := hc5 1 (by decide)
   have x2 : wr.cell? ⟨b, off + i * 5 + 2, none⟩ = some (.int .i64 rs) := hc5 2 (by decide)
   have x3 : wr.cell? ⟨b, off + i * 5 + 3, none⟩ = some (.slice s2 n2 c2) := hc5 3 (by decide)
   have x4 : wr.cell? ⟨b, off + i * 5 + 4, none⟩ = some (.int .i64 pos) := hc5 4 (by decide)
   have hmem : l.getD i default ∈ l := by rw [List.getD_eq_getElem?_getD, List.getElem?_eq_getElem hil]; exact List.getElem_mem hil
   have hfp := HP.out _ hmem
   have hfn := oN hrep
   have HAT := zh (HPFI.out.trans (qK l i hil F))
   generalize l.getD i default = f at *
   have HREP := zh hrep
   have HFN := zh hfn
   have HFP2 := zh hfp
   clear hc5 hrep hcell hcs hmem hfn hfp
   go_upto_region 7 with fail
   have hb2 : Below wr.heap.size wr (wr.alloc (.cells #[.string nm, .slice s1 n1 c1, .int .i64 rs, .slice s2 n2 c2, .int .i64 pos] 48)) := ae (Below.refl _ _) _
   have HFB : Hid ((wr.alloc (.cells #[.string nm, .slice s1 n1 c1, .int .i64 rs, .slice s2 n2 c2, .int .i64 pos] 48)).heap[wr.heap.size]? = some (.cells #[.string nm, .slice s1 n1 c1, .int .i64 rs, .slice s2 n2 c2, .int .i64 pos] 48 (0, 0))) := zh (ah _ _ _ rfl)
   have HLT : Hid (PB ≤ wr.heap.size ∧ CB < wr.heap.size ∧ FR < wr.heap.size) := zh ⟨kM HAD.out.1 HB.out, ad HOB.out, HM.out.lt⟩
   replace HPB := zh ((hb2.block _ (ad HPB.out)).trans HPB.out)
   replace HOB := zh ((hb2.block _ (ad HOB.out)).trans HOB.out)
   replace HM := zh (HM.out.below hb2)
   replace HB := zh (HB.out.trans (hb2.mono (kM HAD.out.1 HB.out)))
   clear hb2 x0 x1 x2 x3 x4
   generalize (wr.alloc (.cells #[.string nm, .slice s1 n1 c1, .int .i64 rs, .slice s2 n2 c2, .int .i64 pos] 48)) = w3 at *
   generalize wr.heap.size = FB at *
   have hlk : ∃ qnm qs1 qn1 qc1 qrs qs2 qn2 qc2 qps bb, (∀ W : World, Below w3.heap.size w3 W → (Instr.lookup 91 (.map (some FR)) (.string nm) true).run Tryz.prog W = .ok (.tuple #[.agg #[.string qnm, .slice qs1 qn1 qc1, .int .i64 qrs, .slice qs2 qn2 qc2, .int .i64 qps], .bool bb]) W) ∧ bb = (aF F nm).isSome := by
    have hfr := HFR.out w3 (Stays.of_below (by rw [HAD.out.1]; exact HB.out))
    rcases hfr.look nm with ⟨e1, e2⟩ | ⟨u, f, e1, e2, qnm, qs1, qn1, qc1, qrs, qs2, qn2, qc2, qps, rfl, _⟩
    ·refine ⟨⟨#[]⟩, none, 0, 0, 0, none, 0, 0, 0, false, fun W hW => ?_, by rw [e2]; rfl⟩
     have q := dY (HM.out.below hW) gg ez (iZ W) nm
     rw [e1] at q
     exact q
    ·refine ⟨qnm, qs1, qn1, qc1, qrs, qs2, qn2, qc2, qps, true, fun W hW => ?_, by rw [e2]; rfl⟩
     have q := dY (HM.out.below hW) gg ez (iZ W) nm
     rw [e1] at q
     exact q
   obtain ⟨qnm, qs1, qn1, qc1, qrs, qs2, qn2, qc2, qps, bb, hlk, hbb⟩ := hlk
   have HLK := zh hlk
   have HBB := zh hbb
   clear hlk hbb
   have hs0 : w3.drew.cell? ⟨CB, 0, none⟩ = some (.map (some FR)) ∧ w3.drew.cell? ⟨FB, 0, none⟩ = some (.string nm) ∧ (Instr.lookup 91 (.map (some FR)) (.string nm) true).run Tryz.prog w3.drew = .ok (.tuple #[.agg #[.string qnm, .slice qs1 qn1 qc1, .int .i64 qrs, .slice qs2 qn2 qc2, .int .i64 qps], .bool bb]) w3.drew := ⟨aa HOB.out (j := 0) rfl, aa HFB.out (j := 0) rfl, HLK.out _ (av (Below.refl _ _))⟩
   refine wp_region_held (S := (fun w' : World => w'.cell? ⟨CB, 0, none⟩ = some (.map (some FR)) ∧ w'.cell? ⟨FB, 0, none⟩ = some (.string nm) ∧ (Instr.lookup 91 (.map (some FR)) (.string nm) true).run Tryz.prog w' = .ok (.tuple #[.agg #[.string qnm, .slice qs1 qn1 qc1, .int .i64 qrs, .slice qs2 qn2 qc2, .int .i64 qps], .bool bb]) w')) (by kernel_rfl) ?_
   refine tkA 0 ?_
   refine tkA 1 ?_
   refine tkA 2 ?_
   refine tkA 3 ?_
   refine tkA 4 ?_
   refine tkA 5 ?_
   refine tkA 6 ?_
   refine tkA 7 ?_
   refine tkA 8 ?_
   refine tkA 9 ?_
   refine rd1 10 fun K hK => ?_
   go_simp
   refine hK.out _ _ ?_ (fun hHeld => ?_)
   ·exact ⟨aj _ hs0.1, aj _ hs0.2.1, HLK.out _ (ae (av (Below.refl _ _)) _)⟩
   clear hK K
   try go_simp
   refine rd1 11 fun K hK => ?_
   go_simp
   refine hK.out _ _ ?_ (fun hHeld => ?_)
   ·exact ⟨aj _ hs0.1, aj _ hs0.2.1, HLK.out _ (ae (av (Below.refl _ _)) _)⟩
   clear hK K
   try go_simp
   refine rd1 12 fun K hK => ?_
   go_simp
   refine hK.out _ _ ?_ (fun hHeld => ?_)
   ·exact ⟨aj _ hs0.1, aj _ hs0.2.1, HLK.out _ (ae (av (Below.refl _ _)) _)⟩
   clear hK K
   try go_simp
   refine wpAnyH_done (by kernel_rfl) ?_ _
   clear hs0
   have hb4 : Below w3.heap.size w3 (w3.alloc (.cells #[.string qnm, .slice qs1 qn1 qc1, .int .i64 qrs, .slice qs2 qn2 qc2, .int .i64 qps] 48)).drew := av (ae (Below.refl _ _) _)
   replace HPB := zh ((hb4.block _ (ad HPB.out)).trans HPB.out)
   replace HOB := zh ((hb4.block _ (ad HOB.out)).trans HOB.out)
   replace HM := zh (HM.out.below hb4)
   replace HFB := zh ((hb4.block _ (ad HFB.out)).trans HFB.out)
   replace HB := zh (HB.out.trans (hb4.mono (kM HAD.out.1 HB.out)))
   clear hb4 HLK
   generalize (w3.alloc (.cells #[.string qnm, .slice qs1 qn1 qc1, .int .i64 qrs, .slice qs2 qn2 qc2, .int .i64 qps] 48)).drew = w4 at *
   cases bb
   ·replace HAT := zh (HAT.out.trans (if_neg (by rw [← HFN.out.1, ← HBB.out]; simp)))
    go_upto_region 10 with fail
    have hs0 : w4.drew.cell? ⟨CB, 0, none⟩ = some (.map (some FR)) ∧ w4.drew.cell? ⟨FB, 0, none⟩ = some (.string nm) ∧ w4.drew.cell? ⟨FB, 1, none⟩ = some (.slice s1 n1 c1) ∧ w4.drew.cell? ⟨FB, 2, none⟩ = some (.int .i64 rs) ∧ w4.drew.cell? ⟨FB, 3, none⟩ = some (.slice s2 n2 c2) ∧ w4.drew.cell? ⟨FB, 4, none⟩ = some (.int .i64 pos) := ⟨aa HOB.out (j := 0) rfl, aa HFB.out (j := 0) rfl, aa HFB.out (j := 1) rfl, aa HFB.out (j := 2) rfl, aa HFB.out (j := 3) rfl, aa HFB.out (j := 4) rfl⟩
    refine az (S := (fun w' : World => w'.cell? ⟨CB, 0, none⟩ = some (.map (some FR)) ∧ w'.cell? ⟨FB, 0, none⟩ = some (.string nm) ∧ w'.cell? ⟨FB, 1, none⟩ = some (.slice s1 n1 c1) ∧ w'.cell? ⟨FB, 2, none⟩ = some (.int .i64 rs) ∧ w'.cell? ⟨FB, 3, none⟩ = some (.slice s2 n2 c2) ∧ w'.cell? ⟨FB, 4, none⟩ = some (.int .i64 pos))) 7 (by kernel_rfl) (by kernel_rfl) (by exact hs0) (fun hHeld => ?_)
    simp only [List.take_succ_cons, List.take_zero, List.drop_succ_cons, List.drop_zero]
    refine tkA 0 ?_
    refine tkA 1 ?_
    refine tkA 2 ?_
    refine tkA 3 ?_
    refine tkA 4 ?_
    refine tkA 5 ?_
    refine tkA 6 ?_
    refine wpAnyH_done (by kernel_rfl) ?_ _
    dsimp only [bT]
    clear hs0
    have HMD : Hid (MapAt w4.drew FR m) := zh (HM.out.keep rfl)
    have hp := fO HMD.out gg ez nm (.agg #[.string nm, .slice s1 n1 c1, .int .i64 rs, .slice s2 n2 c2, .int .i64 pos])
    have HPV := zh (i5 HMD.out nm (.agg #[.string nm, .slice s1 n1 c1, .int .i64 rs, .slice s2 n2 c2, .int .i64 pos]))
    have HPO := zh (gU w4.drew FR nm (.agg #[.string nm, .slice s1 n1 c1, .int .i64 rs, .slice s2 n2 c2, .int .i64 pos]))
    go_wp2_with fail
    go_roundg (l.length - i - 1)
    case measure => omega
    case rel =>
     have hne : PB ≠ FR ∧ CB ≠ FR := by have := HAD.out; omega
     refine ⟨i + 1, _, _, by omega, rfl, HAT.out, HPV.out, fun W hW => ?_, ?_, ?_, HPO.out.obj hne.1 HPB.out, HPO.out.obj hne.2 HOB.out⟩
     ·rw [← HFN.out.1]
      exact (HFR.out W hW).put nm ⟨nm, s1, n1, c1, rs, s2, n2, c2, pos, rfl, (HREP.out.keep hW).mono (fun _ _ => trivial)⟩
     ·exact qd HFP.out HFP2.out
     ·have q := HPO.out.base (B := w) (by rw [HAD.out.1]; exact HB.out.drew) (by have := HAD.out; omega)
      rw [HAD.out.1] at q
      exact q
   have HCE := zh (HC.out.trans (kW (q := (53, f.pos)) (G := F) (HPF.out.symm.trans (HAT.out.trans (if_pos (by rw [← HFN.out.1, ← HBB.out])))) (by simp)))
   go_upto_region 9 with fail
   have hs0 : w4.drew.cell? ⟨FB, 4, none⟩ = some (.int .i64 pos) := aa HFB.out (j := 4) rfl
   refine wp_region_held (S := (fun w' : World => w'.cell? ⟨FB, 4, none⟩ = some (.int .i64 pos))) (by kernel_rfl) ?_
   refine tkA 0 ?_
   refine tkA 1 ?_
   refine rd1 2 fun K hK => ?_
   go_simp
   refine hK.out _ _ ?_ (fun hHeld => ?_)
   ·exact hs0
   clear hK K
   try go_simp
   refine rd1 3 fun K hK => ?_
   go_simp
   refine hK.out _ _ ?_ (fun hHeld => ?_)
   ·exact hs0
   clear hK K
   try go_simp
   refine wpAnyH_done (by kernel_rfl) ?_ _
   go_wp2_with fail
   exact bodyPost_ret (v := .tuple #[.int .i64 53, .int .i64 pos]) (by simp [results, Tryz.results15, go_sem]) rfl ⟨by rw [HCE.out, HFN.out.2.2.2.2], by rw [HAD.out.1]; exact HB.out.drew⟩
  obtain rfl : i = l.length := by omega
  have g1 : ¬ (l.length : Int) < (l.length : Int) := by omega
  replace HPFI := zh (HPF.out.symm.trans (HPFI.out.trans (by rw [List.drop_eq_nil_of_le (Nat.le_refl _), cD] : _ = (okF, F))))
  replace HC := zh (HC.out.trans (mv HPFI.out))
  clear HPFI HPF
  have p0 : wr.cell? ⟨PB, 0, none⟩ = some (.slice s0 l.length cap) := aa HPB.out (j := 0) rfl
  go_wp2_with fail
  clear p0
  have hcr : C = eF F (l.drop 0) := HC.out
  go_loopg [50] l.length (fun g t50 wr => ∃ (i : Nat) (r : Int), i + g = l.length ∧ t50 = .int .i64 (i : Int) ∧ C = eF F (l.drop i) ∧ MapAt wr FR m ∧ Below PB w wr ∧ wr.heap[CB]? = some (.cells #[.map (some FR), .int .i64 r] 93 (0, 0)))
  case atStart => exact ⟨0, 0, Nat.zero_add _, rfl, hcr, HM.out, HB.out, HOB.out⟩
  case round =>
   obtain ⟨i, r, hig, rfl, hce, hm, hb, hob⟩ := hrel
   clear HB HM HOB hcr HC
   have HC := zh hce
   have HM := zh hm
   have HB := zh hb
   have HOB := zh hob
   clear hce hm hb hob
   by_cases hil : i < l.length
   ·obtain ⟨hle2, hcm2⟩ := HCM.out
    unfold maxLen at hcm2
    have g1 : (i : Int) < (l.length : Int) := by omega
    have g3 : (0 : Int) ≤ (i : Int) := by omega
    obtain ⟨b, off, hs0, hSb, hbl, hcell⟩ := HROW.out (by omega)
    subst hs0
    have hrep := HIT.out i hil
    obtain ⟨nm, s1, n1, c1, rs, s2, n2, c2, pos, hcs⟩ := m9 hrep
    rw [hcs] at hrep
    have hc5 : ∀ j, j < 5 → wr.cell? ⟨b, off + i * 5 + j, none⟩ = (cs i)[j]? := fun j hj => (HB.out.cell (p := ⟨b, _, none⟩) hbl).trans (hcell i hil j hj)
    rw [hcs] at hc5
    have x0 : wr.cell? ⟨b, off + i * 5, none⟩ = some (.string nm) := hc5 0 (by decide)
    have x1 : wr.cell? ⟨b, off + i * 5 + 1, none⟩ = some (.slice s1 n1 c1) := hc5 1 (by decide)
    have x2 : wr.cell? ⟨b, off + i * 5 + 2, none⟩ = some (.int .i64 rs) := hc5 2 (by decide)
    have x3 : wr.cell? ⟨b, off + i * 5 + 3, none⟩ = some (.slice s2 n2 c2) := hc5 3 (by decide)
    have x4 : wr.cell? ⟨b, off + i * 5 + 4, none⟩ = some (.int .i64 pos) := hc5 4 (by decide)
    have HAT := zh (HC.out.trans (qT F l i hil))
    generalize l.getD i default = f at *
    have HREP := zh hrep
    clear hc5 hrep hcell hcs
    go_upto_region 15 with fail
    have hb2 : Below wr.heap.size wr (wr.alloc (.cells #[.string nm, .slice s1 n1 c1, .int .i64 rs, .slice s2 n2 c2, .int .i64 pos] 48)) := ae (Below.refl _ _) _
    have HFB : Hid ((wr.alloc (.cells #[.string nm, .slice s1 n1 c1, .int .i64 rs, .slice s2 n2 c2, .int .i64 pos] 48)).heap[wr.heap.size]? = some (.cells #[.string nm, .slice s1 n1 c1, .int .i64 rs, .slice s2 n2 c2, .int .i64 pos] 48 (0, 0))) := zh (ah _ _ _ rfl)
    replace HOB := zh ((hb2.block _ (ad HOB.out)).trans HOB.out)
    replace HM := zh (HM.out.below hb2)
    replace HB := zh (HB.out.trans (hb2.mono (kM HAD.out.1 HB.out)))
    clear hb2 x0 x1 x2 x3 x4
    generalize (wr.alloc (.cells #[.string nm, .slice s1 n1 c1, .int .i64 rs, .slice s2 n2 c2, .int .i64 pos] 48)) = w3 at *
    generalize wr.heap.size = FB at *
    have HST : Hid (Stays (fun b => b < PB) w w3) := zh (Stays.of_below (by rw [HAD.out.1]; exact HB.out))
    have HCK := zh (qr CB PB FR F HFP.out m f w3 r (by have := HAD.out; omega) (by have := HAD.out; omega) HOB.out HM.out (fun W hW => HFR.out W (HST.out.trans hW)) nm s1 n1 c1 rs s2 n2 c2 pos (HREP.out.keep HST.out))
    generalize dL F f = q at *
    obtain ⟨fe, fa⟩ := q
    unfold bz at HCK
    dsimp only at HCK
    obtain ⟨y0, y1, y2, y3, y4, -⟩ := css HFB.out
    go_wp2_with fail
    refine HCK.out.mono ?_
    rintro e w4 ⟨rfl, ho, r2, hob⟩
    clear y0 y1 y2 y3 y4 HST HCK
    replace HM := zh (HM.out.keep (ho.block _ HM.out.lt (fun e => by injection e with e; have := HAD.out; omega)))
    replace HB : Hid (Below PB w w4) := zh (by have q := ho.base (B := w) (by rw [HAD.out.1]; exact HB.out) (by have := HAD.out; omega); rw [HAD.out.1] at q; exact q)
    replace HOB := zh hob
    clear ho hob HFB
    go_upto_region 16 with fail
    have hb2 : Below w4.heap.size w4 (w4.alloc (.cells #[.int .i64 fe, .int .i64 fa] 96)) := ae (Below.refl _ _) _
    have HFB : Hid ((w4.alloc (.cells #[.int .i64 fe, .int .i64 fa] 96)).heap[w4.heap.size]? = some (.cells #[.int .i64 fe, .int .i64 fa] 96 (0, 0))) := zh (ah _ _ _ rfl)
    replace HOB := zh ((hb2.block _ (ad HOB.out)).trans HOB.out)
    replace HM := zh (HM.out.below hb2)
    replace HB := zh (HB.out.trans (hb2.mono (kM HAD.out.1 HB.out)))
    clear hb2
    generalize (w4.alloc (.cells #[.int .i64 fe, .int .i64 fa] 96)) = w5 at *
    generalize w4.heap.size = EB at *
    by_cases he : fe = 0
    ·subst he
     have z0 : w5.cell? ⟨EB, 0, none⟩ = some (.int .i64 0) := aa HFB.out (j := 0) rfl
     go_wp2_with fail
     go_roundg (l.length - i - 1)
     case measure => omega
     case rel => exact ⟨i + 1, r2, by omega, rfl, HAT.out.trans (by simp [orF]), HM.out, HB.out, HOB.out⟩
    have HCE := zh (HAT.out.trans (show orF (fe, fa) _ = (fe, fa) by simp [orF, he]))
    have z0 : w5.cell? ⟨EB, 0, none⟩ = some (.int .i64 fe) := aa HFB.out (j := 0) rfl
    go_upto_region 17 with fail
    have hs0 : w5.drew.cell? ⟨EB, 0, none⟩ = some (.int .i64 fe) ∧ w5.drew.cell? ⟨EB, 1, none⟩ = some (.int .i64 fa) := ⟨aa HFB.out (j := 0) rfl, aa HFB.out (j := 1) rfl⟩
    refine wp_region_held (S := (fun w' : World => w'.cell? ⟨EB, 0, none⟩ = some (.int .i64 fe) ∧ w'.cell? ⟨EB, 1, none⟩ = some (.int .i64 fa))) (by kernel_rfl) ?_
    refine tkA 0 ?_
    refine tkA 1 ?_
    refine tkA 2 ?_
    refine tkA 3 ?_
    refine rd1 4 fun K hK => ?_
    go_simp
    refine hK.out _ _ ?_ (fun hHeld => ?_)
    ·exact hs0
    clear hK K
    try go_simp
    refine rd1 5 fun K hK => ?_
    go_simp
    refine hK.out _ _ ?_ (fun hHeld => ?_)
    ·exact hs0
    clear hK K
    try go_simp
    refine wpAnyH_done (by kernel_rfl) ?_ _
    go_wp2_with fail
    exact bodyPost_ret (v := .tuple #[.int .i64 fe, .int .i64 fa]) (by simp [results, Tryz.results15, go_sem]) rfl ⟨by rw [HCE.out], by rw [HAD.out.1]; exact HB.out.drew⟩
   obtain rfl : i = l.length := by omega
   have g1 : ¬ (l.length : Int) < (l.length : Int) := by omega
   have HCE := zh (HC.out.trans (by rw [List.drop_eq_nil_of_le (Nat.le_refl _), eF] : _ = okF))
   go_wp2_with fail
   exact bodyPost_ret (v := .tuple #[.int .i64 0, .int .i64 0]) (by simp [results, Tryz.results15, go_sem]) rfl ⟨by rw [HCE.out]; rfl, by rw [HAD.out.1]; exact HB.out⟩
end
end Go.Proofs.YtjblihabklemfaaGreatDoor
