/-
  Compile: part 47 of its proof: see the last text.
-/
import Derived.Test.YtjblihabklemfaaGreatDoorPm46
import Derived.KernelRfl
import Derived.Lib.SlBytesConst
set_option maxRecDepth 100000
set_option maxHeartbeats 16000000
namespace Go.Proofs.YtjblihabklemfaaGreatDoor
section
open Go.RowKit
def p9 : List UInt8 := [102, 110, 32, 102, 40, 41, 58, 32, 105, 110, 116, 32, 123, 32, 114, 101, 116, 117, 114, 110, 32, 50, 59, 32, 125]
def cdC : Cd := ⟨⟨#[102]⟩, [], 1, 0, [⟨1, 1⟩, ⟨1, 1⟩, ⟨2, 2⟩, ⟨18, 0⟩]⟩
theorem rp : jt p9 = .ok ⟨[cdC], []⟩ := by kernel_rfl
def fn0 : Fn := ⟨⟨#[]⟩, [], 0, [], 0⟩
theorem ta : dB [fn0, fn0] = .error 53 := by kernel_rfl
theorem rl : (bw [fn0, fn0]).1 ≠ 0 := by
 have h : (bw [fn0, fn0]).1 = 53 := by kernel_rfl
 rw [h]; decide
theorem pX (W : World) (s : List UInt8) (t : TypeId) (arr : Array Value) (fz : Nat × Nat) (ha : arr = (s.map fun b => Value.int .u8 (b.toNat : Int)).toArray) : SrcAt (W.alloc (.cells arr t fz)) (some ⟨W.heap.size, 0, none⟩) s := fun _ => by
 refine ⟨_, 0, rfl, by rw [ag]; exact Nat.lt_succ_self _, fun i hi => ?_⟩
 rw [Nat.zero_add]
 refine aa (ah _ _ _ rfl) ?_
 subst ha
 simp [hi, List.getD_eq_getElem?_getD]
theorem qj {S : Nat → Prop} {W : World} {b : Nat} {arr : Array Value} {t : TypeId} {fz : Nat × Nat} (sz n : Nat) (h : W.heap[b]? = some (.cells arr t fz)) (hS : S b) (hn : n ≤ maxLen) (hs : arr.size = n * sz) :
    RowOf S W (.slice (some ⟨b, 0, none⟩) n n) sz n (fun i => (arr.toList.drop (i * sz)).take sz) := by
 refine ⟨_, n, rfl, Nat.le_refl _, hn, fun h => (by cases h), fun _ => ⟨b, 0, rfl, hS, ad h, fun i hi j hj => ?_⟩, fun i hi => ?_⟩
 ·have hlt : i * sz + j < arr.size := by
    rw [hs]
    calc i * sz + j < i * sz + sz := by omega
     _ = (i + 1) * sz := by rw [Nat.add_mul, Nat.one_mul]
     _ ≤ n * sz := Nat.mul_le_mul_right _ hi
  rw [Nat.zero_add]
  rw [aa h (j := i * sz + j) (u := arr[i * sz + j]) (by simp [hlt])]
  simp [hj]
 ·have : i * sz + sz ≤ n * sz := by
    rw [show i * sz + sz = (i + 1) * sz by rw [Nat.add_mul, Nat.one_mul]]
    exact Nat.mul_le_mul_right _ hi
  simp [hs]
  omega
theorem sT {S : Nat → Prop} {W : World} {nm : ByteArray} {rs pos : Int} {vp vb : Value} {ps : List (ByteArray × Int)} {body : List St} (hp : RepPas S W vp ps) (hb : RepSts S W vb body) : RepFn S W [.string nm, vp, .int .i64 rs, vb, .int .i64 pos] ⟨nm, ps, rs, body, pos⟩ := ⟨_, _, rfl, hp, hb⟩
theorem qg (S : Nat → Prop) (W : World) : RepPas S W (.slice none 0 0) [] := ⟨fun _ => [], RowOf.nil _ _ _ _, fun i hi => absurd hi (by simp)⟩
theorem oU {W : World} {b : Nat} {x0 x1 x2 x3 x4 y0 y1 y2 y3 y4 : Value} {f g : Fn} {t : TypeId} {fz : Nat × Nat} (h : W.heap[b]? = some (.cells #[x0, x1, x2, x3, x4, y0, y1, y2, y3, y4] t fz)) (hf : RepFn Any W [x0, x1, x2, x3, x4] f) (hg : RepFn Any W [y0, y1, y2, y3, y4] g) :
    RepFns Any W (.slice (some ⟨b, 0, none⟩) 2 2) [f, g] :=
 ⟨_, qj 5 2 h trivial (by decide) rfl, fun i hi => by
   rcases (show i = 0 ∨ i = 1 by simp at hi; omega) with rfl | rfl
   · exact hf
   · exact hg⟩
theorem nj (S : Nat → Prop) (W : World) : RepFn S W [.string ⟨#[]⟩, .slice none 0 0, .int .i64 0, .slice none 0 0, .int .i64 0] fn0 := sT (qg S W) (RepSts.nil S W)
theorem tA {w : World} {v : Value} (h : RepMdl w v ⟨[cdC], []⟩) : ∃ b off n0 a1 n1 bi offi ci, v = .agg #[.slice (some ⟨b, off, none⟩) 1 n0, .slice a1 0 n1] ∧ b < w.heap.size ∧ bi < w.heap.size ∧ w.cell? ⟨b, off + 4, none⟩ = some (.slice (some ⟨bi, offi, none⟩) 4 ci) ∧ w.cell? ⟨bi, offi + 4, none⟩ = some (.int .i64 2) ∧ w.cell? ⟨bi, offi + 4 + 1, none⟩ = some (.int .i64 2) := by
 obtain ⟨v0, v1, rfl, ⟨a0, n0, c0, c1, c2, c3, c4, rfl, _, _, _, _, hrow, hcd⟩, ⟨a1, n1, _, rfl, _⟩⟩ := h
 obtain ⟨b, off, rfl, hbl, hcells⟩ := hrow (by decide)
 obtain ⟨_, _, _, _, q4⟩ := hcells 0 (by decide)
 obtain ⟨si, ci, hc4, _, _, _, _, hri, _⟩ := (hcd 0 (by decide)).ins
 obtain ⟨bi, offi, rfl, hbi, hi⟩ := hri (by decide)
 obtain ⟨i1, i2⟩ := hi 2 (by decide)
 rw [hc4, Nat.zero_mul, Nat.add_zero] at q4
 exact ⟨b, off, n0, a1, n1, bi, offi, ci, rfl, hbl, hbi, q4, i1, i2⟩
theorem pF (w : World) (hsig : Signs w) : Calls Tryz.prog 7 #[] w fun e w' => e = .returned (.bool true) ∧ Below w.heap.size w w' := by
 have HF1 := zh (fun (W : World) (b : Nat) (hs : SrcAt W (some ⟨b, 0, none⟩) p9) (hg : Signs W) => (oH (some ⟨b, 0, none⟩) 25 p9 W hs (by decide) (by decide) hg : Calls Tryz.prog 8 #[.slice (some ⟨b, 0, none⟩) 25 25] W (eS p9 W)))
 have HF2 := zh (fun (W : World) (b : Nat) (t : TypeId) (fz : Nat × Nat) (hg : Signs W) (h : W.heap[b]? = some (.cells #[.string ⟨#[]⟩, .slice none 0 0, .int .i64 0, .slice none 0 0, .int .i64 0, .string ⟨#[]⟩, .slice none 0 0, .int .i64 0, .slice none 0 0, .int .i64 0] t fz)) => (gS [fn0, fn0] (.slice (some ⟨b, 0, none⟩) 2 2) W (oU h (nj _ _) (nj _ _)).low hg (by decide) (fun f hf => by simp at hf; rw [hf]; decide) (fun h => absurd h rl)))
 have hcv := fun w C n c => Lib.run_convert_bytes_const (P := Tryz.prog) w 22 5 C n c (by kernel_rfl) (by kernel_rfl)
 have HSG := zh hsig
 clear hsig
 go_enter Tryz.func7, Tryz.ntmps7
 go_wp2_with fail
 refine (HF1.out _ _ (pX _ _ _ _ _ (by kernel_rfl)) (HSG.out.below (ae (Below.refl _ _) _) HSG.out.lt)).mono ?_
 rintro e w1 ⟨hres, hb1⟩
 rw [rp] at hres
 obtain ⟨v, rfl, hmd⟩ := hres
 obtain ⟨b, off, n0, a1, n1, bi, offi, ci, rfl, hbl, hbi, q1, q2, q3⟩ := tA hmd
 have HB1 := zh (ak (ae (Below.refl w.heap.size w) _) hb1)
 replace HSG := zh (HSG.out.below HB1.out HSG.out.lt)
 have HQ : Hid (∀ W, Below w1.heap.size w1 W → W.cell? ⟨b, off + 4, none⟩ = some (.slice (some ⟨bi, offi, none⟩) 4 ci) ∧ W.cell? ⟨bi, offi + 4, none⟩ = some (.int .i64 2) ∧ W.cell? ⟨bi, offi + 4 + 1, none⟩ = some (.int .i64 2)) := zh (fun W hW => ⟨(aK hW _ _ hbl).trans q1, (aK hW _ _ hbi).trans q2, (aK hW _ _ hbi).trans q3⟩)
 clear hmd q1 q2 q3 hb1 hbl hbi HF1
 go_upto_region 2 with fail
 have HB2 : Hid (Below w1.heap.size w1 (w1.alloc (.cells #[.slice (some ⟨b, off, none⟩) 1 n0, .slice a1 0 n1] 27))) := zh (ae (Below.refl _ _) _)
 have HMB := zh (ah w1 (.cells #[.slice (some ⟨b, off, none⟩) 1 n0, .slice a1 0 n1] 27) _ rfl)
 replace HSG := zh (HSG.out.below HB2.out HSG.out.lt)
 generalize (w1.alloc (.cells #[.slice (some ⟨b, off, none⟩) 1 n0, .slice a1 0 n1] 27)) = w2 at *
 generalize hMB : w1.heap.size = MB at *
 have HME := zh hMB
 clear hMB
 go_wp2_with fail
 refine (HF2.out _ _ _ _ (HSG.out.below (ae (Below.refl _ _) _) HSG.out.lt) (ah _ _ _ rfl)).mono ?_
 rintro e w3 ⟨hres, hb3⟩
 rw [ta] at hres
 obtain rfl := hres
 have hb3' := ak (ae (Below.refl w2.heap.size w2) _) hb3
 replace HMB := zh ((hb3'.block _ (ad HMB.out)).trans HMB.out)
 replace HB2 := zh (HB2.out.trans (hb3'.mono (by rw [← HME.out]; exact HB2.out.size)))
 clear hb3 hb3'
 go_upto_region 3 with fail
 have hb3' : Below w3.heap.size w3 (w3.alloc (.cells #[.slice none 0 0, .slice none 0 0] 27)) := ae (Below.refl _ _) _
 replace HMB := zh ((hb3'.block _ (ad HMB.out)).trans HMB.out)
 replace HB2 := zh (HB2.out.trans (hb3'.mono (by rw [← HME.out]; exact HB2.out.size)))
 clear hb3'
 generalize (w3.alloc (.cells #[.slice none 0 0, .slice none 0 0] 27)) = w4 at *
 have m0 : w4.cell? ⟨MB, 0, none⟩ = some (.slice (some ⟨b, off, none⟩) 1 n0) := aa HMB.out (j := 0) rfl
 obtain ⟨q1, q2, q3⟩ := HQ.out w4 (by rw [← HME.out]; rw [← HME.out] at HB2; exact HB2.out)
 go_wp2_with fail
 refine bodyPost_ret (v := .bool true) (by simp [results, Tryz.results7, go_sem]) rfl ⟨rfl, ?_⟩
 exact HB1.out.trans (HB2.out.mono (by rw [← HME.out]; exact HB1.out.size))
end
end Go.Proofs.YtjblihabklemfaaGreatDoor
