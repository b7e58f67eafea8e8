/-
  CompileGas: part 47 of its proof: see the last text.
-/
import Derived.Test.YtjblihabklemfaaGreatDoorPk46
import Derived.KernelRfl
import Derived.Lib.SlBytesConst
import Derived.Test.YtjblihabklemfaaGreatDoorPk34
set_option maxRecDepth 100000
namespace Go.Proofs.YtjblihabklemfaaGreatDoor
section
open Go.RowKit
def p9 : List UInt8 := [102, 110, 32, 102, 40, 41, 58, 32, 105, 110, 116, 32, 123, 32, 114, 101, 116, 117, 114, 110, 32, 50, 59, 32, 125]
def cdC : Cd := ⟨⟨#[102]⟩, [], 1, 0, [⟨1, 1⟩, ⟨1, 1⟩, ⟨2, 2⟩, ⟨18, 0⟩]⟩
theorem rp : jt p9 = .ok ⟨[cdC], []⟩ := by kernel_rfl
def fn0 : Fn := ⟨⟨#[]⟩, [], 0, [], 0⟩
theorem ta : dB [fn0, fn0] = .error 53 := by kernel_rfl
theorem rl : (bw [fn0, fn0]).1 ≠ 0 := by
 have h : (bw [fn0, fn0]).1 = 53 := by kernel_rfl
 rw [h]; decide
theorem pX (W : World) (s : List UInt8) (t : TypeId) (arr : Array Value) (fz : Nat × Nat) (ha : arr = (s.map fun b => Value.int .u8 (b.toNat : Int)).toArray) : SrcAt (W.alloc (.cells arr t fz)) (some ⟨W.heap.size, 0, none⟩) s := fun _ => by
 refine ⟨_, 0, rfl, by rw [ag]; exact Nat.lt_succ_self _, fun i hi => ?_⟩
 rw [Nat.zero_add]
 refine aa (ah _ _ _ rfl) ?_
 subst ha
 simp [hi, List.getD_eq_getElem?_getD]
theorem qj {S : Nat → Prop} {W : World} {b : Nat} {arr : Array Value} {t : TypeId} {fz : Nat × Nat} (sz n : Nat) (h : W.heap[b]? = some (.cells arr t fz)) (hS : S b) (hn : n ≤ maxLen) (hs : arr.size = n * sz) :
    RowOf S W (.slice (some ⟨b, 0, none⟩) n n) sz n (fun i => (arr.toList.drop (i * sz)).take sz) := by
 refine ⟨_, n, rfl, Nat.le_refl _, hn, fun h => (by cases h), fun _ => ⟨b, 0, rfl, hS, ad h, fun i hi j hj => ?_⟩, fun i hi => ?_⟩
 ·have hlt : i * sz + j < arr.size := by
    rw [hs]
    calc i * sz + j < i * sz + sz := by omega
     _ = (i + 1) * sz := by rw [Nat.add_mul, Nat.one_mul]
     _ ≤ n * sz := Nat.mul_le_mul_right _ hi
  rw [Nat.zero_add]
  rw [aa h (j := i * sz + j) (u := arr[i * sz + j]) (by simp [hlt])]
  simp [hj]
 ·have : i * sz + sz ≤ n * sz := by
    rw [show i * sz + sz = (i + 1) * sz by rw [Nat.add_mul, Nat.one_mul]]
    exact Nat.mul_le_mul_right _ hi
  simp [hs]
  omega
theorem sT {S : Nat → Prop} {W : World} {nm : ByteArray} {rs pos : Int} {vp vb : Value} {ps : List (ByteArray × Int)} {body : List St} (hp : RepPas S W vp ps) (hb : RepSts S W vb body) : RepFn S W [.string nm, vp, .int .i64 rs, vb, .int .i64 pos] ⟨nm, ps, rs, body, pos⟩ := ⟨_, _, rfl, hp, hb⟩
theorem qg (S : Nat → Prop) (W : World) : RepPas S W (.slice none 0 0) [] := ⟨fun _ => [], RowOf.nil _ _ _ _, fun i hi => absurd hi (by simp)⟩
theorem oU {W : World} {b : Nat} {x0 x1 x2 x3 x4 y0 y1 y2 y3 y4 : Value} {f g : Fn} {t : TypeId} {fz : Nat × Nat} (h : W.heap[b]? = some (.cells #[x0, x1, x2, x3, x4, y0, y1, y2, y3, y4] t fz)) (hf : RepFn Any W [x0, x1, x2, x3, x4] f) (hg : RepFn Any W [y0, y1, y2, y3, y4] g) :
    RepFns Any W (.slice (some ⟨b, 0, none⟩) 2 2) [f, g] :=
 ⟨_, qj 5 2 h trivial (by decide) rfl, fun i hi => by
   rcases (show i = 0 ∨ i = 1 by simp at hi; omega) with rfl | rfl
   · exact hf
   · exact hg⟩
theorem nj (S : Nat → Prop) (W : World) : RepFn S W [.string ⟨#[]⟩, .slice none 0 0, .int .i64 0, .slice none 0 0, .int .i64 0] fn0 := sT (qg S W) (RepSts.nil S W)
theorem tA {w : World} {v : Value} (h : RepMdl w v ⟨[cdC], []⟩) : ∃ b off n0 a1 n1 bi offi ci, v = .agg #[.slice (some ⟨b, off, none⟩) 1 n0, .slice a1 0 n1] ∧ b < w.heap.size ∧ bi < w.heap.size ∧ w.cell? ⟨b, off + 4, none⟩ = some (.slice (some ⟨bi, offi, none⟩) 4 ci) ∧ w.cell? ⟨bi, offi + 4, none⟩ = some (.int .i64 2) ∧ w.cell? ⟨bi, offi + 4 + 1, none⟩ = some (.int .i64 2) := by
 obtain ⟨v0, v1, rfl, ⟨a0, n0, c0, c1, c2, c3, c4, rfl, _, _, _, _, hrow, hcd⟩, ⟨a1, n1, _, rfl, _⟩⟩ := h
 obtain ⟨b, off, rfl, hbl, hcells⟩ := hrow (by decide)
 obtain ⟨_, _, _, _, q4⟩ := hcells 0 (by decide)
 obtain ⟨si, ci, hc4, _, _, _, _, hri, _⟩ := (hcd 0 (by decide)).ins
 obtain ⟨bi, offi, rfl, hbi, hi⟩ := hri (by decide)
 obtain ⟨i1, i2⟩ := hi 2 (by decide)
 rw [hc4, Nat.zero_mul, Nat.add_zero] at q4
 exact ⟨b, off, n0, a1, n1, bi, offi, ci, rfl, hbl, hbi, q4, i1, i2⟩
set_option maxHeartbeats 8000000 in
theorem pF (w : World) (hsig : Signs w) : Calls Tryz.prog 7 #[] w fun e w' => e = .returned (.bool true) ∧ Below w.heap.size w w' := by
 have HF1 := zh (fun (W : World) (b : Nat) (hs : SrcAt W (some ⟨b, 0, none⟩) p9) (hg : Signs W) => (oH (some ⟨b, 0, none⟩) 25 p9 W hs (by decide) (by decide) hg : Calls Tryz.prog 8 #[.slice (some ⟨b, 0, none⟩) 25 25] W (eS p9 W)))
 have HF2 := zh (fun (W : World) (b : Nat) (t : TypeId) (fz : Nat × Nat) (hg : Signs W) (h : W.heap[b]? = some (.cells #[.string ⟨#[]⟩, .slice none 0 0, .int .i64 0, .slice none 0 0, .int .i64 0, .string ⟨#[]⟩, .slice none 0 0, .int .i64 0, .slice none 0 0, .int .i64 0] t fz)) => (gS [fn0, fn0] (.slice (some ⟨b, 0, none⟩) 2 2) W (oU h (nj _ _) (nj _ _)).low hg (by decide) (fun f hf => by simp at hf; rw [hf]; decide) (fun h => absurd h rl)))
 have hcv := fun w C n c => Lib.run_convert_bytes_const (P := Tryz.prog) w 22 5 C n c (by kernel_rfl) (by kernel_rfl)
 have HSG := zh hsig
 clear hsig
 go_enter Tryz.func7, Tryz.ntmps7
 go_wp2_with fail
 refine (HF1.out _ _ (pX _ _ _ _ _ (by kernel_rfl)) (HSG.out.below (ae (Below.refl _ _) _) HSG.out.lt)).mono ?_
 rintro e w1 ⟨hres, hb1⟩
 rw [rp] at hres
 obtain ⟨v, rfl, hmd⟩ := hres
 obtain ⟨b, off, n0, a1, n1, bi, offi, ci, rfl, hbl, hbi, q1, q2, q3⟩ := tA hmd
 have HB1 := zh (ak (ae (Below.refl w.heap.size w) _) hb1)
 replace HSG := zh (HSG.out.below HB1.out HSG.out.lt)
 have HQ : Hid (∀ W, Below w1.heap.size w1 W → W.cell? ⟨b, off + 4, none⟩ = some (.slice (some ⟨bi, offi, none⟩) 4 ci) ∧ W.cell? ⟨bi, offi + 4, none⟩ = some (.int .i64 2) ∧ W.cell? ⟨bi, offi + 4 + 1, none⟩ = some (.int .i64 2)) := zh (fun W hW => ⟨(aK hW _ _ hbl).trans q1, (aK hW _ _ hbi).trans q2, (aK hW _ _ hbi).trans q3⟩)
 clear hmd q1 q2 q3 hb1 hbl hbi HF1
 go_upto_region 2 with fail
 have HB2 : Hid (Below w1.heap.size w1 (w1.alloc (.cells #[.slice (some ⟨b, off, none⟩) 1 n0, .slice a1 0 n1] 27))) := zh (ae (Below.refl _ _) _)
 have HMB := zh (ah w1 (.cells #[.slice (some ⟨b, off, none⟩) 1 n0, .slice a1 0 n1] 27) _ rfl)
 replace HSG := zh (HSG.out.below HB2.out HSG.out.lt)
 generalize (w1.alloc (.cells #[.slice (some ⟨b, off, none⟩) 1 n0, .slice a1 0 n1] 27)) = w2 at *
 generalize hMB : w1.heap.size = MB at *
 have HME := zh hMB
 clear hMB
 go_wp2_with fail
 refine (HF2.out _ _ _ _ (HSG.out.below (ae (Below.refl _ _) _) HSG.out.lt) (ah _ _ _ rfl)).mono ?_
 rintro e w3 ⟨hres, hb3⟩
 rw [ta] at hres
 obtain rfl := hres
 have hb3' := ak (ae (Below.refl w2.heap.size w2) _) hb3
 replace HMB := zh ((hb3'.block _ (ad HMB.out)).trans HMB.out)
 replace HB2 := zh (HB2.out.trans (hb3'.mono (by rw [← HME.out]; exact HB2.out.size)))
 clear hb3 hb3'
 go_upto_region 3 with fail
 have hb3' : Below w3.heap.size w3 (w3.alloc (.cells #[.slice none 0 0, .slice none 0 0] 27)) := ae (Below.refl _ _) _
 replace HMB := zh ((hb3'.block _ (ad HMB.out)).trans HMB.out)
 replace HB2 := zh (HB2.out.trans (hb3'.mono (by rw [← HME.out]; exact HB2.out.size)))
 clear hb3'
 generalize (w3.alloc (.cells #[.slice none 0 0, .slice none 0 0] 27)) = w4 at *
 have m0 : w4.cell? ⟨MB, 0, none⟩ = some (.slice (some ⟨b, off, none⟩) 1 n0) := aa HMB.out (j := 0) rfl
 obtain ⟨q1, q2, q3⟩ := HQ.out w4 (by rw [← HME.out]; rw [← HME.out] at HB2; exact HB2.out)
 go_wp2_with fail
 refine bodyPost_ret (v := .bool true) (by simp [results, Tryz.results7, go_sem]) rfl ⟨rfl, ?_⟩
 exact HB1.out.trans (HB2.out.mono (by rw [← HME.out]; exact HB1.out.size))
end
section
open Go.RowKit
theorem qM {l : List Fn} {m : Mdl} (h : dB l = .ok m) : m = cM l ∧ (bw l).1 = 0 := by
 unfold dB at h
 split at h
 ·cases h
 ·rename_i q
  split at h
  ·injection h with h
   exact ⟨h.symm, by simpa using q⟩
  ·cases h
theorem pg {l : List Fn} {er : Int} (h : dB l = .error er) : er ≠ 0 := by
 unfold dB at h
 split at h
 ·rename_i q
  injection h with h
  rw [← h]; exact q
 ·split at h
  ·cases h
  ·injection h with h
   rw [← h]; decide
theorem oD : ∃ m, dB [] = .ok m := by
 have h : (match dB [] with | .ok _ => true | .error _ => false) = true := by kernel_rfl
 cases e : dB [] with
 | ok m => exact ⟨m, rfl⟩
 | error er => rw [e] at h; cases h
def fX (l : List Ins) (k : Nat) : Nat := (eO (l.take k)).count 1
theorem mh (l : List Ins) (k : Nat) (h : k < l.length) : fX l (k + 1) = fX l k + if (l.getD k default).op = 1 then 1 else 0 := by
 unfold fX eO
 rw [cS default l k h, List.map_append, List.count_append]
 simp [List.count_cons]
theorem pS (l : List Ins) (k : Nat) : fX l k ≤ k := by
 unfold fX eO
 refine Nat.le_trans List.count_le_length ?_
 rw [List.length_map, List.length_take]
 omega
set_option maxHeartbeats 8000000 in
theorem qs (s0 : Option Addr) (cap : Nat) (s : List UInt8) (w : World) (hs : SrcAt w s0 s) (hl : s.length ≤ 1152921504606846976) (hc : s.length ≤ cap) (hsig : Signs w) :
    Calls Tryz.prog 5 #[.slice s0 s.length cap] w fun e w' => e = .returned (.bool true) ∧ Below w.heap.size w w' := by
 have HH := zh (pF w hsig)
 have HSG := zh hsig
 have HFR : Hid (∀ W, Below w.heap.size w W → Calls Tryz.prog 9 #[.slice s0 s.length cap] W (iw W (cW s))) := zh (fun W hW => kk s0 cap s W (hs.later hW) hl hc)
 have HGD : Hid (∀ l, cW s = .ok l → du l ≤ 2048 ∧ ft l ∧ (bw l).1 = 0) := zh (fun l h => jI h)
 clear hs hsig
 generalize cW s = R at *
 go_enter Tryz.func5, Tryz.ntmps5
 go_wp2_with fail
 refine HH.out.mono ?_
 rintro e w1 ⟨rfl, hb⟩
 have HB := zh hb
 clear hb HH
 go_wp2_with fail
 refine (HFR.out w1 HB.out).mono ?_
 rintro e w2 ⟨hres, hb⟩
 replace HB := zh (HB.out.trans (hb.mono HB.out.size))
 clear hb HFR
 cases R with
 | error q =>
  obtain ⟨er, pos⟩ := q
  obtain ⟨hne, rfl⟩ := hres
  have hne2 : (er != 0) = true := bne_iff_ne.2 hne
  clear hne
  obtain ⟨m0, hm0⟩ := oD
  have HM0 := zh hm0
  clear hm0
  go_upto_region 3 with fail
  have hbx : Below w2.heap.size w2 (w2.alloc (.cells #[.slice none 0 0] 42)) := ae (Below.refl _ _) _
  replace HB := zh (HB.out.trans (hbx.mono HB.out.size))
  have HPB := zh (ah w2 (.cells #[.slice none 0 0] 42) _ rfl)
  clear hbx
  generalize (w2.alloc (.cells #[.slice none 0 0] 42)) = w3 at *
  generalize w2.heap.size = PB at *
  have HCM := zh (gS [] (.slice none 0 0) w3 (RepFns.nil _ _) (HSG.out.below HB.out HSG.out.lt) (by decide) (fun f hf => by cases hf) (fun h => jl (by rw [du]; decide) (by rw [ft]; trivial) h))
  have p0 : w3.cell? ⟨PB, 0, none⟩ = some (.slice none 0 0) := aa HPB.out (j := 0) rfl
  go_wp2_with fail
  refine HCM.out.mono ?_
  rintro e w4 hq
  unfold d9 at hq
  rw [HM0.out] at hq
  obtain ⟨⟨v, rfl, hrm⟩, hb⟩ := hq
  obtain ⟨v0, v1, rfl, ⟨a0, n0, _, _, _, _, _, rfl, _⟩, ⟨a1, n1, _, rfl, _⟩⟩ := hrm w4 (Stays.refl _ _)
  clear p0
  replace HB := zh (HB.out.trans (hb.mono HB.out.size))
  clear hb
  go_wp2_with fail
  go_ret
  exact ⟨rfl, HB.out.trans ((ae (Below.refl _ _) _).mono HB.out.size)⟩
 | ok l =>
  obtain ⟨g1, g2, g3⟩ := HGD.out l rfl
  have HG := zh (And.intro g1 (And.intro (fun f hf => Nat.le_trans ((dF g3).2 f hf).2 (by decide) : ∀ f, f ∈ l → f.params.length ≤ 100000) (jl g1 g2 g3)))
  have HLN := zh (dF g3).1
  have HGL := zh (qH g3)
  clear g1 g2 g3 HGD
  obtain ⟨v, rfl, hrep⟩ := hres
  have HREP := zh hrep
  obtain ⟨cs, ⟨s1, c1, rfl, _⟩, _⟩ := hrep
  go_upto_region 3 with fail
  replace HREP := zh (HREP.out.keep (Stays.of_below (ae (Below.refl w2.heap.size w2) (.cells #[.slice s1 l.length c1] 42))))
  have hbx : Below w2.heap.size w2 (w2.alloc (.cells #[.slice s1 l.length c1] 42)) := ae (Below.refl _ _) _
  replace HB := zh (HB.out.trans (hbx.mono HB.out.size))
  have HPB := zh (ah w2 (.cells #[.slice s1 l.length c1] 42) _ rfl)
  clear hbx
  generalize (w2.alloc (.cells #[.slice s1 l.length c1] 42)) = w3 at *
  generalize w2.heap.size = PB at *
  replace HREP := zh HREP.out.low
  have HCM := zh (gS l (.slice s1 l.length c1) w3 HREP.out (HSG.out.below HB.out HSG.out.lt) HG.out.1 HG.out.2.1 (fun _ => HG.out.2.2))
  have p0 : w3.cell? ⟨PB, 0, none⟩ = some (.slice s1 l.length c1) := aa HPB.out (j := 0) rfl
  go_wp2_with fail
  refine HCM.out.mono ?_
  rintro e w4 hq
  clear p0 HCM
  unfold d9 at hq
  cases hK : dB l with
  | error er =>
   rw [hK] at hq
   obtain ⟨rfl, hb⟩ := hq
   replace HB := zh (HB.out.trans (hb.mono HB.out.size))
   have hne2 : (er != 0) = true := bne_iff_ne.2 (pg hK)
   clear hb hK
   go_wp2_with fail
   go_ret
   exact ⟨rfl, HB.out.trans ((ae (Below.refl _ _) _).mono HB.out.size)⟩
  | ok m =>
   rw [hK] at hq
   obtain ⟨⟨v, rfl, hrm⟩, hb⟩ := hq
   obtain ⟨rfl, _⟩ := qM hK
   clear hK
   replace HB := zh (HB.out.trans (hb.mono HB.out.size))
   replace HPB := zh ((hb.block _ (ad HPB.out)).trans HPB.out)
   replace HREP := zh (HREP.out.keep (Stays.of_lt hb))
   have HB4 := zh hb.size
   clear hb
   have HCL : Hid ((cM l).codes.length = l.length) := zh (by have q := fu l l ([], []); show (a8 l l ([], [])).1.length = l.length; simpa using q)
   have hv : ∃ a0 n0 a1 tn n1, v = .agg #[.slice a0 l.length n0, .slice a1 tn n1] := by
    obtain ⟨v0, v1, rfl, ⟨a0, n0, _, _, _, _, _, rfl, _⟩, ⟨a1, n1, _, rfl, _⟩⟩ := hrm w4 (Stays.refl _ _)
    exact ⟨a0, n0, a1, _, n1, by rw [HCL.out]⟩
   obtain ⟨a0, n0, a1, tn, n1, rfl⟩ := hv
   have HRM := zh (hrm _ (Stays.of_below (ae (Below.refl w4.heap.size w4) (.cells #[.slice a0 l.length n0, .slice a1 tn n1] 27))))
   clear hrm
   go_upto_region 4 with fail
   replace HPB := zh (((ae (Below.refl w4.heap.size w4) (.cells #[.slice a0 l.length n0, .slice a1 tn n1] 27)).block _ (ad HPB.out)).trans HPB.out)
   replace HREP := zh (HREP.out.keep (Stays.of_lt ((ae (Below.refl w4.heap.size w4) (.cells #[.slice a0 l.length n0, .slice a1 tn n1] 27)).mono HB4.out)))
   have hbx : Below w4.heap.size w4 (w4.alloc (.cells #[.slice a0 l.length n0, .slice a1 tn n1] 27)) := ae (Below.refl _ _) _
   replace HB := zh (HB.out.trans (hbx.mono HB.out.size))
   have HMB := zh (ah w4 (.cells #[.slice a0 l.length n0, .slice a1 tn n1] 27) _ rfl)
   clear hbx
   generalize (w4.alloc (.cells #[.slice a0 l.length n0, .slice a1 tn n1] 27)) = w5 at *
   have HB3 : Hid (w3.heap.size ≤ w5.heap.size) := zh (Nat.le_trans HB4.out (Nat.le_of_lt (ad HMB.out)))
   generalize w4.heap.size = MB at *
   obtain ⟨u0, u1, hvv, ⟨b0, m0, k0, k1, k2, k3, k4, hv0, _, _, _, _, hrow, hcd⟩, _⟩ := HRM.out
   have e1 : u0 = .slice a0 l.length n0 := by have q := congrArg Array.toList (Value.agg.inj hvv); simp only [List.cons.injEq] at q; exact q.1.symm
   rw [e1] at hv0
   injection hv0 with e2 e3 e4
   clear e3 e4
   subst e2
   rw [HCL.out] at hrow hcd
   have HROW := zh hrow
   have HCD := zh hcd
   clear hvv hrow hcd e1 HRM HCL
   have HMC : Hid (∀ W, Below w5.heap.size w5 W → W.cell? ⟨MB, 0, none⟩ = some (.slice a0 l.length n0) ∧ W.cell? ⟨PB, 0, none⟩ = some (.slice s1 l.length c1)) := zh (fun W hW => ⟨aa ((hW.block _ (ad HMB.out)).trans HMB.out) (j := 0) rfl, aa ((hW.block _ (ad HPB.out)).trans HPB.out) (j := 0) rfl⟩)
   generalize (cM l).codes = C at *
   have hlen : l.length ≤ 9223372036854775807 := by have := HLN.out; omega
   obtain ⟨p0, p1⟩ := HMC.out w5 (Below.refl _ _)
   go_wp2_with fail
   clear p0 p1
   go_loopg [9] l.length (fun g t9 wr => ∃ i : Nat, i + g = l.length ∧ t9 = .int .i64 (i : Int) ∧ Below w5.heap.size w5 wr)
   case atStart => exact ⟨0, Nat.zero_add _, rfl, Below.refl _ _⟩
   case round =>
    obtain ⟨wo, hwo⟩ : ∃ x, x = wr := ⟨_, rfl⟩
    subst hwo
    obtain ⟨i, hig, rfl, hb⟩ := hrel
    have HW := zh hb
    clear hb
    obtain ⟨p0, p1⟩ := HMC.out wo HW.out
    by_cases hlt : i < l.length
    ·obtain ⟨cb, coff, ha, hcb, hcell⟩ := HROW.out (by omega)
     subst ha
     obtain ⟨is0, icap, hk4, hbig, _, _, _, hirow, _⟩ := (HCD.out i hlt).ins
     have hc4 := (hcell i hlt).2.2.2.2
     rw [hk4] at hc4
     obtain ⟨hg1, hg2⟩ := HGL.out i hlt
     unfold big at hbig
     generalize (C.getD i default).ins = IL at *
     have HG1 := zh hg1
     have HG2 := zh hg2
     have HIR := zh hirow
     have hil : IL.length ≤ 9223372036854775807 := by omega
     have HC4 : Hid (∀ W, Below w5.heap.size w5 W → W.cell? ⟨cb, coff + i * 5 + 4, none⟩ = some (.slice is0 IL.length icap)) := zh (fun W hW => (hW.cell (p := ⟨cb, _, none⟩) hcb).trans hc4)
     clear hcell hc4 hg1 hg2 hirow hk4
     have x4 := HC4.out wo HW.out
     go_wp2_with fail
     go_loopg [10, 11] IL.length (fun g t10 t11 wr => ∃ k : Nat, k + g = IL.length ∧ t10 = .int .i64 ((fX IL k : Nat) : Int) ∧ t11 = .int .i64 (k : Int) ∧ Below w5.heap.size w5 wr)
     case atStart => exact ⟨0, Nat.zero_add _, rfl, rfl, HW.out⟩
     case round =>
      clear p0 p1 x4 HW
      obtain ⟨wq, hwq⟩ : ∃ x, x = wr := ⟨_, rfl⟩
      subst hwq
      obtain ⟨k, hkg, rfl, rfl, hb⟩ := hrel
      have HW := zh hb
      clear hb
      obtain ⟨p0, p1⟩ := HMC.out wq HW.out
      have x4 := HC4.out wq HW.out
      by_cases hkl : k < IL.length
      ·obtain ⟨ib, ioff, hi0, hib, hicell⟩ := HIR.out (by omega)
       subst hi0
       have y0 := (HW.out.cell (p := ⟨ib, _, none⟩) hib).trans (hicell k hkl).1
       have y1 := (HW.out.cell (p := ⟨ib, _, none⟩) hib).trans (hicell k hkl).2
       dsimp only at y0 y1
       have HN := zh (mh IL k hkl)
       have HO := zh (HG2.out _ (dd default hkl))
       have hgl : fX IL k + 1 ≤ 9223372036854775807 := by have := pS IL k; omega
       generalize fX IL k = a at *
       generalize IL.getD k default = x at *
       obtain ⟨xo, xa⟩ := x
       dsimp only at y0 y1 HN HO
       clear hicell
       by_cases h1 : xo = 1
       ·subst h1
        have hxa := HO.out rfl
        subst hxa
        clear HO
        go_wp2_with fail
        go_roundg (IL.length - k - 1)
        case measure => omega
        case rel => exact ⟨k + 1, by omega, by rw [HN.out]; go_num, by go_num, HW.out.trans ((ae (Below.refl _ _) _).mono HW.out.size)⟩
       ·have h1b : (xo == 1) = false := beq_false_of_ne h1
        have HN2 : Hid (fX IL (k + 1) = a) := zh (by rw [HN.out, if_neg h1]; rfl)
        clear HO HN h1
        go_wp2_with fail
        go_roundg (IL.length - k - 1)
        case measure => omega
        case rel => exact ⟨k + 1, by omega, by rw [HN2.out], by go_num, HW.out.trans ((ae (Below.refl _ _) _).mono HW.out.size)⟩
      ·obtain rfl : k = IL.length := by omega
       have HCNT : Hid (fX IL IL.length = aJ (l.getD i default).body) := zh (by unfold fX; rw [List.take_of_length_le (Nat.le_refl _)]; exact HG1.out)
       obtain ⟨fcs, ⟨fs0, fcap, hfv, _, _, _, hfrow, _⟩, hfit⟩ := HREP.out
       injection hfv with hf1 hf2 hf3
       clear hf2 hf3
       subst hf1
       obtain ⟨fb, foff, hf0, _, hfb, hfcell⟩ := hfrow (by omega)
       subst hf0
       have hrf := hfit i hlt
       obtain ⟨q1, q2, q3, q4, hfcs⟩ := hO hrf
       rw [hfcs] at hrf
       have hbody := (mV hrf).2
       have y3 : wq.cell? ⟨fb, foff + i * 5 + 3, none⟩ = some (.slice q3 (l.getD i default).body.length q4) := (HW.out.cell (p := ⟨fb, _, none⟩) hfb).trans ((hfcell i hlt 3 (by decide)).trans (by rw [hfcs]; rfl))
       have HST := zh (ir _ _ wq ((hbody.keep (Stays.of_lt (HW.out.mono HB3.out))).mono (fun _ _ => trivial)) (by have h1 := kz (dd default hlt); have h2 := HG.out.1; unfold szF at h1; omega))
       rw [HCNT.out]
       generalize aJ (l.getD i default).body = n at *
       generalize (l.getD i default).body.length = bl at *
       clear hfcell hfcs hrf hbody hfit hfrow
       go_wp2_with fail
       refine HST.out.mono ?_
       rintro e w9 ⟨rfl, hb⟩
       have HB9 := zh hb
       clear hb
       go_wp2_with fail
       go_roundg (l.length - i - 1)
       case measure => omega
       case rel => exact ⟨i + 1, by omega, by go_num, HW.out.trans (HB9.out.mono HW.out.size)⟩
    ·obtain rfl : i = l.length := by omega
     go_wp2_with fail
     go_ret
     exact ⟨rfl, HB.out.trans (HW.out.mono HB.out.size)⟩
end
end Go.Proofs.YtjblihabklemfaaGreatDoor
