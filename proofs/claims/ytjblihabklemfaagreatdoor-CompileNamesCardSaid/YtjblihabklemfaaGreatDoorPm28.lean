/-
  Compile: part 28 of its proof: see the last text.
-/
import Derived.Test.YtjblihabklemfaaGreatDoorPm27
set_option maxRecDepth 100000
set_option maxHeartbeats 16000000
namespace Go.Proofs.YtjblihabklemfaaGreatDoor
section
open Go.RowKit
theorem pf {α : Type} {m : List (ByteArray × α)} {k : ByteArray} {x : α} (h : aF m k = some x) : ∃ p, p ∈ m ∧ p.2 = x := by
 induction m with
 | nil => cases h
 | cons p m ih =>
  unfold aF at h
  split at h
  ·injection h with h
   exact ⟨p, by simp, h⟩
  ·obtain ⟨q, hq, e⟩ := ih h
   exact ⟨q, by simp [hq], e⟩
def gB (F : aQ) (v : aV) (text : ByteArray) (ks : List Ex) (pos : Int) : Int × Flt := match aF F text with
 | none => (0, (52, pos))
 | some fn => if fn.params.length ≠ ks.length then (0, (51, pos)) else (fn.result, bV F v ks (fn.params.map (·.2)))
theorem gg : Tryz.prog.underlying 91 = some (.map 9 48) := by kernel_rfl
def rq : Value := .agg #[.string ⟨#[]⟩, .slice none 0 0, .int .i64 0, .slice none 0 0, .int .i64 0]
theorem iZ (w : World) : (zeroValue 48).run Tryz.prog w = .ok rq w := by kernel_rfl
theorem pm : ∃ i, Tryz.prog.info? 32 = some i ∧ i.zero = some (.int .i64 0) ∧ i.size = 1 ∧ i.bytes = 8 := by
 have h : (Tryz.prog.info? 32).map (fun i => (i.zero, i.size, i.bytes)) = some (some (.int .i64 0), 1, 8) := by kernel_rfl
 obtain ⟨i, h1, h2⟩ := Option.map_eq_some_iff.1 h
 simp only [Prod.mk.injEq] at h2
 exact ⟨i, h1, h2.1, h2.2.1, h2.2.2⟩
theorem qz (cb : Nat) (F : aQ) (res : Int) (ks : List Ex) (hl : ∀ x, x ∈ ks → gG cb F res x) (hF : ∀ p, p ∈ F → p.2.params.length ≤ 100000) (v : aV) (vr : Nat) (w : World) (op num pos : Int) (text : ByteArray) (s : Option Addr) (n c : Nat) (h : CtxAt w cb F res vr v) (hr : RepEx Any w [.int .i64 op, .int .i64 num, .string text, .slice s n c, .int .i64 pos] (.mk op num text ks pos)) :
    Calls Tryz.prog 128 #[.pointer (some ⟨cb, 0, none⟩), .agg #[.int .i64 op, .int .i64 num, .string text, .slice s n c, .int .i64 pos], .map (some vr)] w fun e w' => e = .returned (.tuple #[.int .i64 (gB F v text ks pos).1, bz (gB F v text ks pos).2]) ∧ Below w.heap.size w w' := by
 obtain ⟨ks', e, hn, hks⟩ := bL hr
 injection e with _ _ _ e _
 subst e
 subst hn
 have HCT := zh h
 have HLL := zh hl
 have HKS := zh hks
 have HFF := zh hF
 obtain ⟨⟨fr, hob, m, hm, hfr⟩, _⟩ := h
 have HOB := zh hob
 have HM := zh hm
 have HFR := zh hfr
 generalize hC : gB F v text ks pos = C
 have HC := zh hC.symm
 have HB1 : Hid (Below w.heap.size w ((w.alloc (.cells #[.int .i64 op, .int .i64 num, .string text, .slice s ks.length c, .int .i64 pos] 65)).alloc (.cells #[.int .i64 0, .int .i64 0] 96))) := zh (ae (ae (Below.refl _ _) _) _)
 have HX1 : Hid (((w.alloc (.cells #[.int .i64 op, .int .i64 num, .string text, .slice s ks.length c, .int .i64 pos] 65)).alloc (.cells #[.int .i64 0, .int .i64 0] 96)).heap[w.heap.size]? = some (.cells #[.int .i64 op, .int .i64 num, .string text, .slice s ks.length c, .int .i64 pos] 65 (0, 0))) := zh (au _ _ _ _ (ah _ _ _ rfl))
 have HR1 : Hid (((w.alloc (.cells #[.int .i64 op, .int .i64 num, .string text, .slice s ks.length c, .int .i64 pos] 65)).alloc (.cells #[.int .i64 0, .int .i64 0] 96)).heap[w.heap.size + 1]? = some (.cells #[.int .i64 0, .int .i64 0] 96 (0, 0))) := zh (ah _ _ _ (ag _ _))
 have HSZ : Hid (((w.alloc (.cells #[.int .i64 op, .int .i64 num, .string text, .slice s ks.length c, .int .i64 pos] 65)).alloc (.cells #[.int .i64 0, .int .i64 0] 96)).heap.size = w.heap.size + 1 + 1) := zh (by simp only [ag])
 clear hl hr hks hob hm hfr hC hF
 go_enter Tryz.func128, Tryz.ntmps128
 go_upto_region 1 with fail
 generalize (w.alloc (.cells #[.int .i64 op, .int .i64 num, .string text, .slice s ks.length c, .int .i64 pos] 65)).alloc (.cells #[.int .i64 0, .int .i64 0] 96) = w1 at *
 have HXR : Hid (w.heap.size < w.heap.size + 1 ∧ w.heap.size + 1 < w1.heap.size ∧ cb < w.heap.size) := zh ⟨Nat.lt_succ_self _, ad HR1.out, ad HOB.out⟩
 generalize hRB : w.heap.size + 1 = RB at *
 generalize hX : w.heap.size = X at *
 replace HXR : Hid (w.heap.size = X ∧ X < RB ∧ RB < w1.heap.size ∧ cb < X) := zh ⟨hX, HXR.out.1, HXR.out.2.1, HXR.out.2.2⟩
 clear hRB hX HSZ
 have hlk : ∃ nm s1 n1 c1 rs s2 n2 c2 ps bb, (∀ W : World, Below X w W → (Instr.lookup 91 (.map (some fr)) (.string text) true).run Tryz.prog W = .ok (.tuple #[.agg #[.string nm, .slice s1 n1 c1, .int .i64 rs, .slice s2 n2 c2, .int .i64 ps], .bool bb]) W) ∧ ((bb = false ∧ aF F text = none) ∨ (bb = true ∧ ∃ f, aF F text = some f ∧ RepFn Any w [.string nm, .slice s1 n1 c1, .int .i64 rs, .slice s2 n2 c2, .int .i64 ps] f)) := by
  have hX := HXR.out.1
  rcases HFR.out.look text with ⟨e1, e2⟩ | ⟨u, f, e1, e2, nm, s1, n1, c1, rs, s2, n2, c2, ps, rfl, hrep⟩
  ·refine ⟨⟨#[]⟩, none, 0, 0, 0, none, 0, 0, 0, false, fun W hW => ?_, .inl ⟨rfl, e2⟩⟩
   have q := dY (HM.out.below (by rw [hX]; exact hW)) gg ez (iZ W) text
   rw [e1] at q
   exact q
  ·refine ⟨nm, s1, n1, c1, rs, s2, n2, c2, ps, true, fun W hW => ?_, .inr ⟨rfl, f, e2, hrep⟩⟩
   have q := dY (HM.out.below (by rw [hX]; exact hW)) gg ez (iZ W) text
   rw [e1] at q
   exact q
 obtain ⟨nm, s1, n1, c1, rs, s2, n2, c2, ps, bb, hlk, hcase⟩ := hlk
 have HLK := zh hlk
 have HCASE := zh hcase
 clear hlk hcase
 have HS0 : Hid (w1.drew.cell? ⟨cb, 0, none⟩ = some (.map (some fr)) ∧ w1.drew.cell? ⟨X, 2, none⟩ = some (.string text) ∧ (Instr.lookup 91 (.map (some fr)) (.string text) true).run Tryz.prog w1.drew = .ok (.tuple #[.agg #[.string nm, .slice s1 n1 c1, .int .i64 rs, .slice s2 n2 c2, .int .i64 ps], .bool bb]) w1.drew) := zh ⟨(HB1.out.cell (p := ⟨cb, 0, none⟩) HXR.out.2.2.2).trans (aa HOB.out (j := 0) rfl), aa HX1.out (j := 2) rfl, HLK.out _ (HB1.out.drew)⟩
 have hs0 := HS0.out
 refine wp_region_held (S := (fun w' : World => w'.cell? ⟨cb, 0, none⟩ = some (.map (some fr)) ∧ w'.cell? ⟨X, 2, none⟩ = some (.string text) ∧ (Instr.lookup 91 (.map (some fr)) (.string text) true).run Tryz.prog w' = .ok (.tuple #[.agg #[.string nm, .slice s1 n1 c1, .int .i64 rs, .slice s2 n2 c2, .int .i64 ps], .bool bb]) w')) (by kernel_rfl) ?_
 refine tkA 0 ?_
 refine tkA 1 ?_
 refine tkA 2 ?_
 refine tkA 3 ?_
 refine tkA 4 ?_
 refine tkA 5 ?_
 refine tkA 6 ?_
 refine tkA 7 ?_
 refine tkA 8 ?_
 refine tkA 9 ?_
 have HSA : Hid (∀ o : Obj, (w1.drew.alloc o).cell? ⟨cb, 0, none⟩ = some (.map (some fr)) ∧ (w1.drew.alloc o).cell? ⟨X, 2, none⟩ = some (.string text) ∧ (Instr.lookup 91 (.map (some fr)) (.string text) true).run Tryz.prog (w1.drew.alloc o) = .ok (.tuple #[.agg #[.string nm, .slice s1 n1 c1, .int .i64 rs, .slice s2 n2 c2, .int .i64 ps], .bool bb]) (w1.drew.alloc o)) := zh (fun o => ⟨aj _ HS0.out.1, aj _ HS0.out.2.1, HLK.out _ (HB1.out.drew.alloc (by have h := HB1.out.size; rw [HXR.out.1] at h; exact h) _)⟩)
 refine rd1 10 fun K hK => ?_
 go_simp
 refine hK.out _ _ ?_ (fun hHeld => ?_)
 ·(try dsimp only)
  exact HSA.out _
 clear hK K
 try go_simp
 refine rd1 11 fun K hK => ?_
 go_simp
 refine hK.out _ _ ?_ (fun hHeld => ?_)
 ·(try dsimp only)
  exact HSA.out _
 clear hK K
 try go_simp
 refine tkA 12 ?_
 refine wpAnyH_done (by kernel_rfl) ?_ _
 have HB2 : Hid (Below X w (w1.alloc (.cells #[.string nm, .slice s1 n1 c1, .int .i64 rs, .slice s2 n2 c2, .int .i64 ps] 48)).drew) := zh (HB1.out.alloc (by have h := HB1.out.size; rw [HXR.out.1] at h; exact h) _).drew
 have HX2 : Hid ((w1.alloc (.cells #[.string nm, .slice s1 n1 c1, .int .i64 rs, .slice s2 n2 c2, .int .i64 ps] 48)).drew.heap[X]? = some (.cells #[.int .i64 op, .int .i64 num, .string text, .slice s ks.length c, .int .i64 pos] 65 (0, 0))) := zh (au _ _ _ _ HX1.out)
 have HR2 : Hid ((w1.alloc (.cells #[.string nm, .slice s1 n1 c1, .int .i64 rs, .slice s2 n2 c2, .int .i64 ps] 48)).drew.heap[RB]? = some (.cells #[.int .i64 0, .int .i64 0] 96 (0, 0))) := zh (au _ _ _ _ HR1.out)
 have HF2 : Hid ((w1.alloc (.cells #[.string nm, .slice s1 n1 c1, .int .i64 rs, .slice s2 n2 c2, .int .i64 ps] 48)).drew.heap[w1.heap.size]? = some (.cells #[.string nm, .slice s1 n1 c1, .int .i64 rs, .slice s2 n2 c2, .int .i64 ps] 48 (0, 0))) := zh (ah _ _ _ rfl)
 have HRF : Hid (RB < w1.heap.size) := zh HXR.out.2.2.1
 clear hs0 HS0 HSA hHeld
 generalize (w1.alloc (.cells #[.string nm, .slice s1 n1 c1, .int .i64 rs, .slice s2 n2 c2, .int .i64 ps] 48)).drew = w2 at *
 generalize w1.heap.size = FB at *
 have x4 : w2.cell? ⟨X, 4, none⟩ = some (.int .i64 pos) := aa HX2.out (j := 4) rfl
 have x3 : w2.cell? ⟨X, 3, none⟩ = some (.slice s ks.length c) := aa HX2.out (j := 3) rfl
 obtain ⟨r0, r1, -⟩ := css HR2.out
 obtain ⟨k0, k1, -⟩ := fzs HR2.out
 have hne : ¬ RB = X := by have := HXR.out; omega
 have hne2 : ¬ X = RB := by have := HXR.out; omega
 rcases HCASE.out with ⟨rfl, hno⟩ | ⟨rfl, f, hyes, hrep⟩
 ·have HE := zh (show C = (0, (52, pos)) from HC.out.trans (by unfold gB; rw [hno]))
  go_upto_region 3 with fail
  go_region
  go_wp2_with fail
  refine bodyPost_ret (v := .tuple #[.int .i64 0, .agg #[.int .i64 52, .int .i64 pos]]) (by simp [results, Tryz.results128, go_sem, r0, r1]) rfl ⟨by rw [HE.out]; rfl, ?_⟩
  rw [HXR.out.1]
  exact ((HB2.out.setCell (p := ⟨RB, 0, none⟩) (Nat.le_of_lt HXR.out.2.1) _).setCell (p := ⟨RB, 1, none⟩) (Nat.le_of_lt HXR.out.2.1) _).drew
 ·obtain ⟨vp, vb, ecs, hps, _⟩ := hrep
  simp only [List.cons.injEq, Value.int.injEq, Value.string.injEq, true_and, and_true] at ecs
  obtain ⟨rfl, rfl, rfl, rfl, rfl⟩ := ecs
  obtain ⟨cp, ⟨sp, capp, ep, hple, hpcm, _, hprow, hpsz⟩, hpit⟩ := hps
  injection ep with ep1 ep2 ep3
  subst ep1 ep2 ep3
  obtain ⟨-, f1, f2, -⟩ := css HF2.out
  have HPR := zh hprow
  have HPI := zh hpit
  have HYES := zh hyes
  have HPL : Hid (f.params.length ≤ 100000) := zh (by
    obtain ⟨p, hp, rfl⟩ : ∃ p, p ∈ F ∧ p.2 = f := pf hyes
    exact HFF.out p hp)
  clear hprow hpit hyes hpsz hple hpcm
  by_cases hlen : f.params.length = ks.length
  ·have HE := zh (show C = (f.result, bV F v ks (f.params.map (·.2))) from HC.out.trans (by unfold gB; rw [HYES.out]; exact if_neg (by simp [hlen])))
   have g1 : (f.params.length : Int) = (ks.length : Int) := by omega
   have HLEN := zh hlen
   have HI := zh pm
   clear hlen
   have g1b : ((f.params.length : Int) != (ks.length : Int)) = false := by simp [g1]
   clear g1
   go_wp2_with fail
   clear g1b x4 f1
   go_loopg [10, 43] f.params.length (fun q s10 s43 wr => ∃ i : Nat, i + q = f.params.length ∧ s43 = .int .i64 (i : Int) ∧ wr.ownsRow w2.heap.size 32 1 s10 i ((f.params.take i).map fun p => Value.int .i64 p.2) ∧ Below w2.heap.size w2 wr)
   case atStart => exact ⟨0, Nat.zero_add _, rfl, fC, Below.refl _ _⟩
   case round =>
    obtain ⟨i, hig, rfl, hown, hbr⟩ := hrel
    have HOWN := zh hown
    have HBR := zh hbr
    obtain ⟨so, co, rfl, hco, hcm, _, _⟩ := aY hown
    unfold maxLen at hcm
    clear hown hbr
    have HBW : Hid (Below X w wr) := zh (HB2.out.trans (HBR.out.mono (by have h := HB2.out.size; rw [HXR.out.1] at h; exact h)))
    by_cases hil : i < f.params.length
    ·have g4 : (f.params.length : Int) ≤ 100000 := by have := HPL.out; omega
     have g1 : (i : Int) < (f.params.length : Int) := by omega
     have g3 : (0 : Int) ≤ (i : Int) := by omega
     obtain ⟨b, off, hs, _, hbl, hcell⟩ := HPR.out (by omega)
     subst hs
     have hcp := HPI.out i hil
     unfold kO at hcp
     have y0 : wr.cell? ⟨b, off + i * 2, none⟩ = some (.string (f.params.getD i default).1) := (HBW.out.cell (p := ⟨b, _, none⟩) (by rw [← HXR.out.1]; exact hbl)).trans (by have q := hcell i hil 0 (by decide); rw [hcp] at q; exact q)
     have y1 : wr.cell? ⟨b, off + i * 2 + 1, none⟩ = some (.int .i64 (f.params.getD i default).2) := (HBW.out.cell (p := ⟨b, _, none⟩) (by rw [← HXR.out.1]; exact hbl)).trans (by have q := hcell i hil 1 (by decide); rw [hcp] at q; exact q)
     have HTK : Hid ((f.params.take (i + 1)).map (fun p => Value.int .i64 p.2) = (f.params.take i).map (fun p => Value.int .i64 p.2) ++ [.int .i64 (f.params.getD i default).2]) := zh (by rw [List.take_add_one, List.map_append, List.getElem?_eq_getElem hil, List.getD_eq_getElem?_getD, List.getElem?_eq_getElem hil]; rfl)
     generalize (f.params.getD i default).1 = pn at *
     generalize (f.params.getD i default).2 = pt at *
     clear hcp hcell
     have HOW2 : Hid (((wr.alloc (.cells #[.string pn, .int .i64 pt] 50)).alloc (.cells #[.int .i64 pt] 32)).ownsRow w2.heap.size 32 1 (.slice so i co) i ((f.params.take i).map fun p => Value.int .i64 p.2)) := zh (iF HOWN.out (ae (ae (Below.refl _ _) _) _))
     have HBP : Hid (Below w2.heap.size w2 ((wr.alloc (.cells #[.string pn, .int .i64 pt] 50)).alloc (.cells #[.int .i64 pt] 32))) := zh (HBR.out.trans ((ae (ae (Below.refl wr.heap.size wr) _) _).mono HBR.out.size))
     have HIL := zh (show i ≤ 100000 from by have := HPL.out; omega)
     go_wp2_with (refine wpList_append_lies _ rfl _ _ _ rfl w2.heap.size 32 HI.out.choose (.int .i64 0) 1 8 Tryz.underlying31 HI.out.choose_spec.1 HI.out.choose_spec.2.1 HI.out.choose_spec.2.2.1 HI.out.choose_spec.2.2.2 rfl (by decide) _ i _ rfl HOW2.out ⟨wr.heap.size + 1, 0, none⟩ 1 1 [.int .i64 pt] rfl rfl (by intro j u hj; rw [Go.WideShapes.add_plain, Nat.zero_add]; exact aw _ _ _ _ _ _ (ag _ _) (by simpa using hj)) (by intro u hu; simp at hu; subst hu; rfl) (by decide) (by have := HIL.out; unfold maxLen; omega) (by have := HIL.out; omega) HBP.out.size _ rfl ?_; intro g9 cp9 w9 hown9 hgrow9 hgl9 hlt9; have HO9 := zh hown9; have HG9 := zh hgrow9; clear hown9 hgrow9 hgl9 hlt9)
     go_roundg (f.params.length - i - 1)
     case measure => omega
     case rel => exact ⟨i + 1, by omega, rfl, by rw [HTK.out]; exact HO9.out, HBP.out.trans ⟨HG9.out.os, HG9.out.tape, HG9.out.output, HG9.out.size, fun j hj => HG9.out.block j (Nat.lt_of_lt_of_le hj HBP.out.size) (fun e => by have := (aH HOW2.out e.symm).1; omega)⟩⟩
    ·obtain rfl : i = f.params.length := by omega
     have g1 : ¬ (f.params.length : Int) < (f.params.length : Int) := by omega
     have HTY : Hid (TysAt wr (.slice so f.params.length co) (f.params.map (·.2))) := zh (by
        refine ⟨so, co, by rw [List.length_map], by rw [List.length_map]; have := HPL.out; omega, fun h0 => ?_⟩
        rw [List.length_map] at h0
        obtain ⟨_, _, e, _, _, _, hc⟩ := aY HOWN.out
        injection e with e _ _
        obtain ⟨g, e2, hg1, hg2, hg3⟩ := hc h0
        rw [← e] at e2
        refine ⟨g, 0, e2, hg2, fun j hj => ?_⟩
        rw [List.length_map] at hj
        rw [Nat.zero_add]
        refine hg3 j _ ?_
        rw [List.take_length, List.getElem?_map, List.getElem?_eq_getElem hj, List.getD_eq_getElem?_getD, List.getElem?_map, List.getElem?_eq_getElem hj]
        rfl)
     have HS0 : Hid (wr.drew.cell? ⟨FB, 2, none⟩ = some (.int .i64 f.result) ∧ wr.drew.cell? ⟨X, 3, none⟩ = some (.slice s ks.length c)) := zh ⟨(HBR.out.cell (p := ⟨FB, 2, none⟩) (am f2)).trans f2, (HBR.out.cell (p := ⟨X, 3, none⟩) (am x3)).trans x3⟩
     have HR3 := zh ((HBR.out.block _ (ad HR2.out)).trans HR2.out)
     have HL3 : Hid (RB < w2.heap.size ∧ X < w2.heap.size ∧ FB < w2.heap.size) := zh ⟨ad HR2.out, am x3, am f2⟩
     clear r0 r1 k0 k1 f2 x3
     have HALL := zh (fun W (hW : Below wr.heap.size wr W) => fh cb F res ks HLL.out v vr W (.slice s ks.length c) (.slice so f.params.length co) (f.params.map (·.2)) (HCT.out.below (by rw [HXR.out.1]; exact HBW.out.trans (hW.mono (by have h := HBW.out.size; rw [HXR.out.1] at h; exact h)))) (HKS.out.keep (Stays.of_below (by rw [HXR.out.1]; exact HBW.out.trans (hW.mono (by have h := HBW.out.size; rw [HXR.out.1] at h; exact h))))) (HTY.out.below hW) (by rw [List.length_map]; exact Nat.le_of_eq HLEN.out.symm))
     generalize bV F v ks (f.params.map (·.2)) = q at *
     obtain ⟨qe, qa⟩ := q
     unfold bz at HALL
     dsimp only at HALL
     go_upto_region 12 with fail
     refine az (S := (fun w' : World => w'.cell? ⟨FB, 2, none⟩ = some (.int .i64 f.result) ∧ w'.cell? ⟨X, 3, none⟩ = some (.slice s ks.length c))) 8 (by kernel_rfl) (by kernel_rfl) (by exact HS0.out) (fun hHeld => ?_)
     simp only [List.take_succ_cons, List.take_zero, List.drop_succ_cons, List.drop_zero]
     refine tkA 0 ?_
     refine tkA 1 ?_
     refine tkA 2 ?_
     refine tkA 3 ?_
     refine tkA 4 ?_
     refine tkA 5 ?_
     refine tkA 6 ?_
     refine rd1 7 fun K hK => ?_
     go_simp
     go_at_call 116
     refine (HALL.out _ (av (Below.refl _ _))).mono ?_
     rintro e w5 ⟨rfl, hb5⟩
     have hb5' : Below wr.heap.size wr w5 := ak (av (Below.refl _ _)) hb5
     have HS5 : Hid (w5.cell? ⟨FB, 2, none⟩ = some (.int .i64 f.result) ∧ w5.cell? ⟨X, 3, none⟩ = some (.slice s ks.length c)) := zh ⟨(hb5'.cell (p := ⟨FB, 2, none⟩) (Nat.lt_of_lt_of_le HL3.out.2.2 HBR.out.size)).trans HS0.out.1, (hb5'.cell (p := ⟨X, 3, none⟩) (Nat.lt_of_lt_of_le HL3.out.2.1 HBR.out.size)).trans HS0.out.2⟩
     have HR5 := zh ((hb5'.block _ (Nat.lt_of_lt_of_le HL3.out.1 HBR.out.size)).trans HR3.out)
     have HB5 : Hid (Below X w w5) := zh (HBW.out.trans (hb5'.mono (by have h := HBW.out.size; rw [HXR.out.1] at h; exact h)))
     clear hb5 hb5'
     go_simp
     refine hK.out _ _ ?_ (fun hHeld => ?_)
     ·(try dsimp only)
      exact HS5.out
     clear hK K
     try go_simp
     refine wpAnyH_done (by kernel_rfl) ?_ _
     dsimp only [bT]
     obtain ⟨r0, r1, -⟩ := css HR5.out
     obtain ⟨k0, k1, -⟩ := fzs HR5.out
     go_wp2_with fail
     refine bodyPost_ret (v := .tuple #[.int .i64 f.result, .agg #[.int .i64 qe, .int .i64 qa]]) (by simp [results, Tryz.results128, go_sem, r0, r1]) rfl ⟨by rw [HE.out]; rfl, ?_⟩
     rw [HXR.out.1]
     exact (HB5.out.setCell (p := ⟨RB, 0, none⟩) (Nat.le_of_lt HXR.out.2.1) _).setCell (p := ⟨RB, 1, none⟩) (Nat.le_of_lt HXR.out.2.1) _
  ·have HE := zh (show C = (0, (51, pos)) from HC.out.trans (by unfold gB; rw [HYES.out]; exact if_pos hlen))
   have g1 : ¬ (f.params.length : Int) = (ks.length : Int) := by omega
   go_upto_region 5 with fail
   go_region
   go_wp2_with fail
   refine bodyPost_ret (v := .tuple #[.int .i64 0, .agg #[.int .i64 51, .int .i64 pos]]) (by simp [results, Tryz.results128, go_sem, r0, r1]) rfl ⟨by rw [HE.out]; rfl, ?_⟩
   rw [HXR.out.1]
   exact ((HB2.out.setCell (p := ⟨RB, 0, none⟩) (Nat.le_of_lt HXR.out.2.1) _).setCell (p := ⟨RB, 1, none⟩) (Nat.le_of_lt HXR.out.2.1) _).drew
end
end Go.Proofs.YtjblihabklemfaaGreatDoor
