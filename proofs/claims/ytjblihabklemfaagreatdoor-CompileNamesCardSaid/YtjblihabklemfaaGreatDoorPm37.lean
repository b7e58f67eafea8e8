/-
  Compile: part 37 of its proof: see the last text.
-/
import Derived.Test.YtjblihabklemfaaGreatDoorPm36
import Derived.Test.YtjblihabklemfaaGreatDoorPm07
set_option maxRecDepth 100000
set_option maxHeartbeats 16000000
namespace Go.Proofs.YtjblihabklemfaaGreatDoor
section
open Go.RowKit
theorem cJ {W : World} {s1 : Option Addr} {n1 c1 : Nat} {l : List Ex} (hr : RepExs Any W (.slice s1 n1 c1) l) (h0 : 0 < l.length) : ∃ b off xop xnum xt xs xn xc xpos, s1 = some ⟨b, off, none⟩ ∧ 0 < n1 ∧ b < W.heap.size ∧
    W.cell? ⟨b, off, none⟩ = some (.int .i64 xop) ∧ W.cell? ⟨b, off + 1, none⟩ = some (.int .i64 xnum) ∧ W.cell? ⟨b, off + 2, none⟩ = some (.string xt) ∧ W.cell? ⟨b, off + 3, none⟩ = some (.slice xs xn xc) ∧ W.cell? ⟨b, off + 4, none⟩ = some (.int .i64 xpos) ∧
    RepEx Any W [.int .i64 xop, .int .i64 xnum, .string xt, .slice xs xn xc, .int .i64 xpos] (l.headD default) := by
 obtain ⟨cs, ⟨s0, cap, e, hle, hcm, _, hrow, hsz⟩, hit⟩ := hr
 injection e with e1 e2 e3
 subst e1 e2 e3
 obtain ⟨b, off, rfl, _, hbl, hcell⟩ := hrow h0
 have hrep := hit 0 h0
 obtain ⟨op, num, text, ev, pos, hcs, s, n, c, hev⟩ := hrep.form
 subst hev
 have hc5 : ∀ j, j < 5 → W.cell? ⟨b, off + 0 * 5 + j, none⟩ = (cs 0)[j]? := fun j hj => hcell 0 h0 j hj
 rw [hcs] at hrep hc5
 have e0 : l.headD default = l.getD 0 default := by cases l <;> rfl
 rw [Nat.zero_mul, Nat.add_zero] at hc5
 exact ⟨b, off, op, num, text, s, n, c, pos, rfl, h0, hbl, hc5 0 (by decide), hc5 1 (by decide), hc5 2 (by decide), hc5 3 (by decide), hc5 4 (by decide), by rw [e0]; exact hrep⟩
theorem sM {W0 : World} {TP SP : Nat} {t : Int} {op pos : Int} {text : ByteArray} {s1 s2 s3 : Option Addr} {n1 c1 n2 c2 n3 c3 : Nat} {l : List Ex} (h0 : 0 < l.length) (hr : RepExs Any W0 (.slice s1 n1 c1) l) (h : W0.heap[TP]? = some (.cells #[.int .i64 t] 32 (0, 0))) (hs : W0.heap[SP]? = some (.cells #[.int .i64 op, .string text, .slice s1 n1 c1, .slice s2 n2 c2, .slice s3 n3 c3, .int .i64 pos] 62 (0, 0))) : FnTells W0 (.func (.func 105) #[] #[.pointer (some ⟨TP, 0, none⟩), .pointer (some ⟨SP, 0, none⟩)]) (noC (t != 0) 51 (l.headD default).pos) := by
 obtain ⟨b, off, xop, xnum, xt, xs, xn, xc, xpos, rfl, hn0, hbl, y0, y1, y2, y3, y4, hrep⟩ := cJ hr h0
 have HPOS : Hid ((l.headD default).pos = xpos ∧ (l.headD default).op = xop) := zh (by obtain ⟨_, e, _⟩ := bL hrep; rw [e]; exact ⟨rfl, rfl⟩)
 have HREP := zh hrep
 have gn0 : (0 : Int) < (n1 : Int) := by omega
 clear hrep
 rw [HPOS.out.1]
 refine ⟨_, _, rfl, enters_of Tryz.func105 (by kernel_rfl) rfl, fun W hW => ?_⟩
 have HP := zh ((hW.block _ (ad h)).trans h)
 have hl0 := ad HP.out
 have HS := zh ((hW.block _ (ad hs)).trans hs)
 have hl1 := ad HS.out
 have HN := zh (cg (t != 0) 51 xpos)
 generalize noC (t != 0) 51 xpos = q at *
 obtain ⟨fe, fa⟩ := q
 have hbD : Below W.heap.size W (W.alloc (.cells #[.int .i64 0, .int .i64 0] 96)) := ae (Below.refl _ _) _
 have HZ : Hid ((W.alloc (.cells #[.int .i64 0, .int .i64 0] 96)).heap[W.heap.size]? = some (.cells #[.int .i64 0, .int .i64 0] 96 (0, 0))) := zh (ah _ _ _ rfl)
 have HSW : Hid (W.cell? ⟨TP, 0, none⟩ = some (.int .i64 t) ∧ W.cell? ⟨SP, 2, none⟩ = some (.slice (some ⟨b, off, none⟩) n1 c1) ∧ W.cell? ⟨b, off + 4, none⟩ = some (.int .i64 xpos)) := zh ⟨aa HP.out (j := 0) rfl, aa HS.out (j := 2) rfl, (hW.cell (p := ⟨b, _, none⟩) hbl).trans y4⟩
 have HLW : Hid (TP < W.heap.size ∧ SP < W.heap.size ∧ b < W.heap.size) := zh ⟨hl0, hl1, Nat.lt_of_lt_of_le hbl hW.size⟩
 go_enter Tryz.func105, Tryz.ntmps105
 go_upto_region 1 with fail
 have HB := zh hbD
 have HS0 : Hid ((W.alloc (.cells #[.int .i64 0, .int .i64 0] 96)).drew.cell? ⟨TP, 0, none⟩ = some (.int .i64 t) ∧ (W.alloc (.cells #[.int .i64 0, .int .i64 0] 96)).drew.cell? ⟨SP, 2, none⟩ = some (.slice (some ⟨b, off, none⟩) n1 c1) ∧ (W.alloc (.cells #[.int .i64 0, .int .i64 0] 96)).drew.cell? ⟨b, off + 4, none⟩ = some (.int .i64 xpos)) := zh ⟨(hbD.cell (p := ⟨TP, 0, none⟩) HLW.out.1).trans HSW.out.1, (hbD.cell (p := ⟨SP, 2, none⟩) HLW.out.2.1).trans HSW.out.2.1, (hbD.cell (p := ⟨b, off + 4, none⟩) HLW.out.2.2).trans HSW.out.2.2⟩
 have HSZ : Hid (W.heap.size < (W.alloc (.cells #[.int .i64 0, .int .i64 0] 96)).heap.size) := zh (ad HZ.out)
 clear hbD
 generalize (W.alloc (.cells #[.int .i64 0, .int .i64 0] 96)) = w1 at *
 have hs0 := HS0.out
 refine az (S := (fun w' : World => w'.cell? ⟨TP, 0, none⟩ = some (.int .i64 t) ∧ w'.cell? ⟨SP, 2, none⟩ = some (.slice (some ⟨b, off, none⟩) n1 c1) ∧ w'.cell? ⟨b, off + 4, none⟩ = some (.int .i64 xpos))) 8 (by kernel_rfl) (by kernel_rfl) (by exact HS0.out) (fun hHeld => ?_)
 simp only [List.take_succ_cons, List.take_zero, List.drop_succ_cons, List.drop_zero]
 refine tkA 0 ?_
 refine tkA 1 ?_
 refine tkA 2 ?_
 refine tkA 3 ?_
 refine tkA 4 ?_
 refine tkA 5 ?_
 refine tkA 6 ?_
 refine rd1 7 fun K hK => ?_
 go_simp
 go_at_call 53
 refine (HN.out _).mono ?_
 rintro e w2 ⟨rfl, hb2⟩
 have hb2' : Below w1.heap.size w1 w2 := ak (av (Below.refl _ _)) hb2
 have HZ2 := zh ((hb2'.block _ (ad HZ.out)).trans HZ.out)
 have HB2 := zh (ak HB.out hb2')
 have HS5 : Hid (w2.cell? ⟨TP, 0, none⟩ = some (.int .i64 t) ∧ w2.cell? ⟨SP, 2, none⟩ = some (.slice (some ⟨b, off, none⟩) n1 c1) ∧ w2.cell? ⟨b, off + 4, none⟩ = some (.int .i64 xpos)) := zh ⟨(hb2'.cell (p := ⟨TP, 0, none⟩) (Nat.lt_trans HLW.out.1 HSZ.out)).trans HS0.out.1, (hb2'.cell (p := ⟨SP, 2, none⟩) (Nat.lt_trans HLW.out.2.1 HSZ.out)).trans HS0.out.2.1, (hb2'.cell (p := ⟨b, off + 4, none⟩) (Nat.lt_trans HLW.out.2.2 HSZ.out)).trans HS0.out.2.2⟩
 clear hb2 hb2' hs0
 unfold bz
 dsimp only
 go_simp
 refine hK.out _ _ ?_ (fun hHeld => ?_)
 ·(try dsimp only)
  exact HS5.out
 clear hK K
 try go_simp
 refine wpAnyH_done (by kernel_rfl) ?_ _
 dsimp only [bT]
 obtain ⟨r0, r1, -⟩ := css HZ2.out
 obtain ⟨k0, k1, -⟩ := fzs HZ2.out
 go_wp2_with fail
 refine bodyPost_ret (v := .agg #[.int .i64 fe, .int .i64 fa]) (by simp [results, Tryz.results105, go_sem, r0, r1]) rfl ⟨rfl, ?_⟩
 exact (HB2.out.setCell (p := ⟨W.heap.size, 0, none⟩) (Nat.le_refl _) _).setCell (p := ⟨W.heap.size, 1, none⟩) (Nat.le_refl _) _
theorem oP {W0 : World} {SP : Nat} {op pos : Int} {text : ByteArray} {s1 s2 s3 : Option Addr} {n1 c1 n2 c2 n3 c3 : Nat} {l : List Ex} (h0 : 0 < l.length) (hr : RepExs Any W0 (.slice s1 n1 c1) l) (hs : W0.heap[SP]? = some (.cells #[.int .i64 op, .string text, .slice s1 n1 c1, .slice s2 n2 c2, .slice s3 n3 c3, .int .i64 pos] 62 (0, 0))) : FnTells W0 (.func (.func 122) #[] #[.pointer (some ⟨SP, 0, none⟩)]) (noC ((l.headD default).op == 5) 51 (l.headD default).pos) := by
 obtain ⟨b, off, xop, xnum, xt, xs, xn, xc, xpos, rfl, hn0, hbl, y0, y1, y2, y3, y4, hrep⟩ := cJ hr h0
 have HPOS : Hid ((l.headD default).pos = xpos ∧ (l.headD default).op = xop) := zh (by obtain ⟨_, e, _⟩ := bL hrep; rw [e]; exact ⟨rfl, rfl⟩)
 have HREP := zh hrep
 have gn0 : (0 : Int) < (n1 : Int) := by omega
 clear hrep
 rw [HPOS.out.1, HPOS.out.2]
 refine ⟨_, _, rfl, enters_of Tryz.func122 (by kernel_rfl) rfl, fun W hW => ?_⟩
 have HS := zh ((hW.block _ (ad hs)).trans hs)
 have hl0 := ad HS.out
 have HN := zh (cg (xop == 5) 51 xpos)
 generalize noC (xop == 5) 51 xpos = q at *
 obtain ⟨fe, fa⟩ := q
 have hbD : Below W.heap.size W (W.alloc (.cells #[.int .i64 0, .int .i64 0] 96)) := ae (Below.refl _ _) _
 have HZ : Hid ((W.alloc (.cells #[.int .i64 0, .int .i64 0] 96)).heap[W.heap.size]? = some (.cells #[.int .i64 0, .int .i64 0] 96 (0, 0))) := zh (ah _ _ _ rfl)
 have HSW : Hid (W.cell? ⟨SP, 2, none⟩ = some (.slice (some ⟨b, off, none⟩) n1 c1) ∧ W.cell? ⟨b, off, none⟩ = some (.int .i64 xop) ∧ W.cell? ⟨b, off + 4, none⟩ = some (.int .i64 xpos)) := zh ⟨aa HS.out (j := 2) rfl, (hW.cell (p := ⟨b, _, none⟩) hbl).trans y0, (hW.cell (p := ⟨b, _, none⟩) hbl).trans y4⟩
 have HLW : Hid (SP < W.heap.size ∧ b < W.heap.size ∧ b < W.heap.size) := zh ⟨hl0, Nat.lt_of_lt_of_le hbl hW.size, Nat.lt_of_lt_of_le hbl hW.size⟩
 go_enter Tryz.func122, Tryz.ntmps122
 go_upto_region 1 with fail
 have HB := zh hbD
 have HS0 : Hid ((W.alloc (.cells #[.int .i64 0, .int .i64 0] 96)).drew.cell? ⟨SP, 2, none⟩ = some (.slice (some ⟨b, off, none⟩) n1 c1) ∧ (W.alloc (.cells #[.int .i64 0, .int .i64 0] 96)).drew.cell? ⟨b, off, none⟩ = some (.int .i64 xop) ∧ (W.alloc (.cells #[.int .i64 0, .int .i64 0] 96)).drew.cell? ⟨b, off + 4, none⟩ = some (.int .i64 xpos)) := zh ⟨(hbD.cell (p := ⟨SP, 2, none⟩) HLW.out.1).trans HSW.out.1, (hbD.cell (p := ⟨b, off, none⟩) HLW.out.2.1).trans HSW.out.2.1, (hbD.cell (p := ⟨b, off + 4, none⟩) HLW.out.2.2).trans HSW.out.2.2⟩
 have HSZ : Hid (W.heap.size < (W.alloc (.cells #[.int .i64 0, .int .i64 0] 96)).heap.size) := zh (ad HZ.out)
 clear hbD
 generalize (W.alloc (.cells #[.int .i64 0, .int .i64 0] 96)) = w1 at *
 have hs0 := HS0.out
 refine az (S := (fun w' : World => w'.cell? ⟨SP, 2, none⟩ = some (.slice (some ⟨b, off, none⟩) n1 c1) ∧ w'.cell? ⟨b, off, none⟩ = some (.int .i64 xop) ∧ w'.cell? ⟨b, off + 4, none⟩ = some (.int .i64 xpos))) 12 (by kernel_rfl) (by kernel_rfl) (by exact HS0.out) (fun hHeld => ?_)
 simp only [List.take_succ_cons, List.take_zero, List.drop_succ_cons, List.drop_zero]
 refine tkA 0 ?_
 refine tkA 1 ?_
 refine tkA 2 ?_
 refine tkA 3 ?_
 refine tkA 4 ?_
 refine tkA 5 ?_
 refine tkA 6 ?_
 refine tkA 7 ?_
 refine tkA 8 ?_
 refine tkA 9 ?_
 refine tkA 10 ?_
 refine rd1 11 fun K hK => ?_
 go_simp
 go_at_call 53
 refine (HN.out _).mono ?_
 rintro e w2 ⟨rfl, hb2⟩
 have hb2' : Below w1.heap.size w1 w2 := ak (av (Below.refl _ _)) hb2
 have HZ2 := zh ((hb2'.block _ (ad HZ.out)).trans HZ.out)
 have HB2 := zh (ak HB.out hb2')
 have HS5 : Hid (w2.cell? ⟨SP, 2, none⟩ = some (.slice (some ⟨b, off, none⟩) n1 c1) ∧ w2.cell? ⟨b, off, none⟩ = some (.int .i64 xop) ∧ w2.cell? ⟨b, off + 4, none⟩ = some (.int .i64 xpos)) := zh ⟨(hb2'.cell (p := ⟨SP, 2, none⟩) (Nat.lt_trans HLW.out.1 HSZ.out)).trans HS0.out.1, (hb2'.cell (p := ⟨b, off, none⟩) (Nat.lt_trans HLW.out.2.1 HSZ.out)).trans HS0.out.2.1, (hb2'.cell (p := ⟨b, off + 4, none⟩) (Nat.lt_trans HLW.out.2.2 HSZ.out)).trans HS0.out.2.2⟩
 clear hb2 hb2' hs0
 unfold bz
 dsimp only
 go_simp
 refine hK.out _ _ ?_ (fun hHeld => ?_)
 ·(try dsimp only)
  exact HS5.out
 clear hK K
 try go_simp
 refine wpAnyH_done (by kernel_rfl) ?_ _
 dsimp only [bT]
 obtain ⟨r0, r1, -⟩ := css HZ2.out
 obtain ⟨k0, k1, -⟩ := fzs HZ2.out
 go_wp2_with fail
 refine bodyPost_ret (v := .agg #[.int .i64 fe, .int .i64 fa]) (by simp [results, Tryz.results122, go_sem, r0, r1]) rfl ⟨rfl, ?_⟩
 exact (HB2.out.setCell (p := ⟨W.heap.size, 0, none⟩) (Nat.le_refl _) _).setCell (p := ⟨W.heap.size, 1, none⟩) (Nat.le_refl _) _
theorem sK {W0 : World} {SP : Nat} {op pos : Int} {text : ByteArray} {s1 s2 s3 : Option Addr} {n1 c1 n2 c2 n3 c3 : Nat} {cb : Nat} {F : aQ} {res : Int} {v : aV} {vr CP VP : Nat} (hx : CtxAt W0 cb F res vr v) (hc : W0.heap[CP]? = some (.cells #[.pointer (some ⟨cb, 0, none⟩)] 90 (0, 0))) (hv : W0.heap[VP]? = some (.cells #[.map (some vr)] 121 (0, 0))) {l : List Ex} (h0 : 0 < l.length) (hr : RepExs Any W0 (.slice s1 n1 c1) l) (hl : gG cb F res (l.headD default)) (hs : W0.heap[SP]? = some (.cells #[.int .i64 op, .string text, .slice s1 n1 c1, .slice s2 n2 c2, .slice s3 n3 c3, .int .i64 pos] 62 (0, 0))) : FnTells W0 (.func (.func 112) #[] #[.pointer (some ⟨CP, 0, none⟩), .pointer (some ⟨SP, 0, none⟩), .pointer (some ⟨VP, 0, none⟩)]) (dn F v (l.headD default) 2) := by
 obtain ⟨b, off, xop, xnum, xt, xs, xn, xc, xpos, rfl, hn0, hbl, y0, y1, y2, y3, y4, hrep⟩ := cJ hr h0
 have HPOS : Hid ((l.headD default).pos = xpos ∧ (l.headD default).op = xop) := zh (by obtain ⟨_, e, _⟩ := bL hrep; rw [e]; exact ⟨rfl, rfl⟩)
 have HREP := zh hrep
 have gn0 : (0 : Int) < (n1 : Int) := by omega
 clear hrep
 refine ⟨_, _, rfl, enters_of Tryz.func112 (by kernel_rfl) rfl, fun W hW => ?_⟩
 have HC := zh ((hW.block _ (ad hc)).trans hc)
 have hl0 := ad HC.out
 have HS := zh ((hW.block _ (ad hs)).trans hs)
 have hl1 := ad HS.out
 have HV := zh ((hW.block _ (ad hv)).trans hv)
 have hl2 := ad HV.out
 have HN := zh (fun W1 (h1 : Below W0.heap.size W0 W1) => iY cb F res (l.headD default) hl v vr 2 W1 xop xnum xpos xt xs xn xc (hx.below h1) (HREP.out.keep (Stays.of_below h1)))
 generalize dn F v (l.headD default) 2 = q at *
 obtain ⟨fe, fa⟩ := q
 have hbD : Below W.heap.size W (W.alloc (.cells #[.int .i64 0, .int .i64 0] 96)) := ae (Below.refl _ _) _
 have HZ : Hid ((W.alloc (.cells #[.int .i64 0, .int .i64 0] 96)).heap[W.heap.size]? = some (.cells #[.int .i64 0, .int .i64 0] 96 (0, 0))) := zh (ah _ _ _ rfl)
 have HSW : Hid (W.cell? ⟨CP, 0, none⟩ = some (.pointer (some ⟨cb, 0, none⟩)) ∧ W.cell? ⟨SP, 2, none⟩ = some (.slice (some ⟨b, off, none⟩) n1 c1) ∧ W.cell? ⟨VP, 0, none⟩ = some (.map (some vr)) ∧ W.cell? ⟨b, off, none⟩ = some (.int .i64 xop) ∧ W.cell? ⟨b, off + 1, none⟩ = some (.int .i64 xnum) ∧ W.cell? ⟨b, off + 2, none⟩ = some (.string xt) ∧ W.cell? ⟨b, off + 3, none⟩ = some (.slice xs xn xc) ∧ W.cell? ⟨b, off + 4, none⟩ = some (.int .i64 xpos)) := zh ⟨aa HC.out (j := 0) rfl, aa HS.out (j := 2) rfl, aa HV.out (j := 0) rfl, (hW.cell (p := ⟨b, _, none⟩) hbl).trans y0, (hW.cell (p := ⟨b, _, none⟩) hbl).trans y1, (hW.cell (p := ⟨b, _, none⟩) hbl).trans y2, (hW.cell (p := ⟨b, _, none⟩) hbl).trans y3, (hW.cell (p := ⟨b, _, none⟩) hbl).trans y4⟩
 have HLW : Hid (CP < W.heap.size ∧ SP < W.heap.size ∧ VP < W.heap.size ∧ b < W.heap.size ∧ b < W.heap.size ∧ b < W.heap.size ∧ b < W.heap.size ∧ b < W.heap.size) := zh ⟨hl0, hl1, hl2, Nat.lt_of_lt_of_le hbl hW.size, Nat.lt_of_lt_of_le hbl hW.size, Nat.lt_of_lt_of_le hbl hW.size, Nat.lt_of_lt_of_le hbl hW.size, Nat.lt_of_lt_of_le hbl hW.size⟩
 go_enter Tryz.func112, Tryz.ntmps112
 go_upto_region 1 with fail
 have HB := zh hbD
 have HS0 : Hid ((W.alloc (.cells #[.int .i64 0, .int .i64 0] 96)).drew.cell? ⟨CP, 0, none⟩ = some (.pointer (some ⟨cb, 0, none⟩)) ∧ (W.alloc (.cells #[.int .i64 0, .int .i64 0] 96)).drew.cell? ⟨SP, 2, none⟩ = some (.slice (some ⟨b, off, none⟩) n1 c1) ∧ (W.alloc (.cells #[.int .i64 0, .int .i64 0] 96)).drew.cell? ⟨VP, 0, none⟩ = some (.map (some vr)) ∧ (W.alloc (.cells #[.int .i64 0, .int .i64 0] 96)).drew.cell? ⟨b, off, none⟩ = some (.int .i64 xop) ∧ (W.alloc (.cells #[.int .i64 0, .int .i64 0] 96)).drew.cell? ⟨b, off + 1, none⟩ = some (.int .i64 xnum) ∧ (W.alloc (.cells #[.int .i64 0, .int .i64 0] 96)).drew.cell? ⟨b, off + 2, none⟩ = some (.string xt) ∧ (W.alloc (.cells #[.int .i64 0, .int .i64 0] 96)).drew.cell? ⟨b, off + 3, none⟩ = some (.slice xs xn xc) ∧ (W.alloc (.cells #[.int .i64 0, .int .i64 0] 96)).drew.cell? ⟨b, off + 4, none⟩ = some (.int .i64 xpos)) := zh ⟨(hbD.cell (p := ⟨CP, 0, none⟩) HLW.out.1).trans HSW.out.1, (hbD.cell (p := ⟨SP, 2, none⟩) HLW.out.2.1).trans HSW.out.2.1, (hbD.cell (p := ⟨VP, 0, none⟩) HLW.out.2.2.1).trans HSW.out.2.2.1, (hbD.cell (p := ⟨b, off, none⟩) HLW.out.2.2.2.1).trans HSW.out.2.2.2.1, (hbD.cell (p := ⟨b, off + 1, none⟩) HLW.out.2.2.2.2.1).trans HSW.out.2.2.2.2.1, (hbD.cell (p := ⟨b, off + 2, none⟩) HLW.out.2.2.2.2.2.1).trans HSW.out.2.2.2.2.2.1, (hbD.cell (p := ⟨b, off + 3, none⟩) HLW.out.2.2.2.2.2.2.1).trans HSW.out.2.2.2.2.2.2.1, (hbD.cell (p := ⟨b, off + 4, none⟩) HLW.out.2.2.2.2.2.2.2).trans HSW.out.2.2.2.2.2.2.2⟩
 have HSZ : Hid (W.heap.size < (W.alloc (.cells #[.int .i64 0, .int .i64 0] 96)).heap.size) := zh (ad HZ.out)
 clear hbD
 generalize (W.alloc (.cells #[.int .i64 0, .int .i64 0] 96)) = w1 at *
 have hs0 := HS0.out
 refine az (S := (fun w' : World => w'.cell? ⟨CP, 0, none⟩ = some (.pointer (some ⟨cb, 0, none⟩)) ∧ w'.cell? ⟨SP, 2, none⟩ = some (.slice (some ⟨b, off, none⟩) n1 c1) ∧ w'.cell? ⟨VP, 0, none⟩ = some (.map (some vr)) ∧ w'.cell? ⟨b, off, none⟩ = some (.int .i64 xop) ∧ w'.cell? ⟨b, off + 1, none⟩ = some (.int .i64 xnum) ∧ w'.cell? ⟨b, off + 2, none⟩ = some (.string xt) ∧ w'.cell? ⟨b, off + 3, none⟩ = some (.slice xs xn xc) ∧ w'.cell? ⟨b, off + 4, none⟩ = some (.int .i64 xpos))) 7 (by kernel_rfl) (by kernel_rfl) (by exact HS0.out) (fun hHeld => ?_)
 simp only [List.take_succ_cons, List.take_zero, List.drop_succ_cons, List.drop_zero]
 refine tkA 0 ?_
 refine tkA 1 ?_
 refine tkA 2 ?_
 refine tkA 3 ?_
 refine tkA 4 ?_
 refine tkA 5 ?_
 refine rd1 6 fun K hK => ?_
 go_simp
 go_at_call 111
 refine (HN.out _ (hW.trans ((ak HB.out (av (Below.refl _ _))).mono hW.size))).mono ?_
 rintro e w2 ⟨rfl, hb2⟩
 have hb2' : Below w1.heap.size w1 w2 := ak (av (Below.refl _ _)) hb2
 have HZ2 := zh ((hb2'.block _ (ad HZ.out)).trans HZ.out)
 have HB2 := zh (ak HB.out hb2')
 have HS5 : Hid (w2.cell? ⟨CP, 0, none⟩ = some (.pointer (some ⟨cb, 0, none⟩)) ∧ w2.cell? ⟨SP, 2, none⟩ = some (.slice (some ⟨b, off, none⟩) n1 c1) ∧ w2.cell? ⟨VP, 0, none⟩ = some (.map (some vr)) ∧ w2.cell? ⟨b, off, none⟩ = some (.int .i64 xop) ∧ w2.cell? ⟨b, off + 1, none⟩ = some (.int .i64 xnum) ∧ w2.cell? ⟨b, off + 2, none⟩ = some (.string xt) ∧ w2.cell? ⟨b, off + 3, none⟩ = some (.slice xs xn xc) ∧ w2.cell? ⟨b, off + 4, none⟩ = some (.int .i64 xpos)) := zh ⟨(hb2'.cell (p := ⟨CP, 0, none⟩) (Nat.lt_trans HLW.out.1 HSZ.out)).trans HS0.out.1, (hb2'.cell (p := ⟨SP, 2, none⟩) (Nat.lt_trans HLW.out.2.1 HSZ.out)).trans HS0.out.2.1, (hb2'.cell (p := ⟨VP, 0, none⟩) (Nat.lt_trans HLW.out.2.2.1 HSZ.out)).trans HS0.out.2.2.1, (hb2'.cell (p := ⟨b, off, none⟩) (Nat.lt_trans HLW.out.2.2.2.1 HSZ.out)).trans HS0.out.2.2.2.1, (hb2'.cell (p := ⟨b, off + 1, none⟩) (Nat.lt_trans HLW.out.2.2.2.2.1 HSZ.out)).trans HS0.out.2.2.2.2.1, (hb2'.cell (p := ⟨b, off + 2, none⟩) (Nat.lt_trans HLW.out.2.2.2.2.2.1 HSZ.out)).trans HS0.out.2.2.2.2.2.1, (hb2'.cell (p := ⟨b, off + 3, none⟩) (Nat.lt_trans HLW.out.2.2.2.2.2.2.1 HSZ.out)).trans HS0.out.2.2.2.2.2.2.1, (hb2'.cell (p := ⟨b, off + 4, none⟩) (Nat.lt_trans HLW.out.2.2.2.2.2.2.2 HSZ.out)).trans HS0.out.2.2.2.2.2.2.2⟩
 clear hb2 hb2' hs0
 unfold bz
 dsimp only
 go_simp
 refine hK.out _ _ ?_ (fun hHeld => ?_)
 ·(try dsimp only)
  exact HS5.out
 clear hK K
 try go_simp
 refine wpAnyH_done (by kernel_rfl) ?_ _
 dsimp only [bT]
 obtain ⟨r0, r1, -⟩ := css HZ2.out
 obtain ⟨k0, k1, -⟩ := fzs HZ2.out
 go_wp2_with fail
 refine bodyPost_ret (v := .agg #[.int .i64 fe, .int .i64 fa]) (by simp [results, Tryz.results112, go_sem, r0, r1]) rfl ⟨rfl, ?_⟩
 exact (HB2.out.setCell (p := ⟨W.heap.size, 0, none⟩) (Nat.le_refl _) _).setCell (p := ⟨W.heap.size, 1, none⟩) (Nat.le_refl _) _
theorem sJ {W0 : World} {SP NP : Nat} {nt : Int} {nf : Bool} {op pos : Int} {text : ByteArray} {s1 s2 s3 : Option Addr} {n1 c1 n2 c2 n3 c3 : Nat} {cb : Nat} {F : aQ} {res : Int} {v : aV} {vr CP VP : Nat} (hx : CtxAt W0 cb F res vr v) (hc : W0.heap[CP]? = some (.cells #[.pointer (some ⟨cb, 0, none⟩)] 90 (0, 0))) (hv : W0.heap[VP]? = some (.cells #[.map (some vr)] 121 (0, 0))) {l : List Ex} (h0 : 0 < l.length) (hr : RepExs Any W0 (.slice s1 n1 c1) l) (hl : gG cb F res (l.headD default)) (hs : W0.heap[SP]? = some (.cells #[.int .i64 op, .string text, .slice s1 n1 c1, .slice s2 n2 c2, .slice s3 n3 c3, .int .i64 pos] 62 (0, 0))) (hn : W0.heap[NP]? = some (.cells #[.int .i64 nt, .bool nf] 123 (0, 0))) : FnTells W0 (.func (.func 110) #[] #[.pointer (some ⟨CP, 0, none⟩), .pointer (some ⟨SP, 0, none⟩), .pointer (some ⟨VP, 0, none⟩), .pointer (some ⟨NP, 0, none⟩)]) (dn F v (l.headD default) nt) := by
 obtain ⟨b, off, xop, xnum, xt, xs, xn, xc, xpos, rfl, hn0, hbl, y0, y1, y2, y3, y4, hrep⟩ := cJ hr h0
 have HPOS : Hid ((l.headD default).pos = xpos ∧ (l.headD default).op = xop) := zh (by obtain ⟨_, e, _⟩ := bL hrep; rw [e]; exact ⟨rfl, rfl⟩)
 have HREP := zh hrep
 have gn0 : (0 : Int) < (n1 : Int) := by omega
 clear hrep
 refine ⟨_, _, rfl, enters_of Tryz.func110 (by kernel_rfl) rfl, fun W hW => ?_⟩
 have HC := zh ((hW.block _ (ad hc)).trans hc)
 have hl0 := ad HC.out
 have HS := zh ((hW.block _ (ad hs)).trans hs)
 have hl1 := ad HS.out
 have HV := zh ((hW.block _ (ad hv)).trans hv)
 have hl2 := ad HV.out
 have HNM := zh ((hW.block _ (ad hn)).trans hn)
 have hl3 := ad HNM.out
 have HN := zh (fun W1 (h1 : Below W0.heap.size W0 W1) => iY cb F res (l.headD default) hl v vr nt W1 xop xnum xpos xt xs xn xc (hx.below h1) (HREP.out.keep (Stays.of_below h1)))
 generalize dn F v (l.headD default) nt = q at *
 obtain ⟨fe, fa⟩ := q
 have hbD : Below W.heap.size W (W.alloc (.cells #[.int .i64 0, .int .i64 0] 96)) := ae (Below.refl _ _) _
 have HZ : Hid ((W.alloc (.cells #[.int .i64 0, .int .i64 0] 96)).heap[W.heap.size]? = some (.cells #[.int .i64 0, .int .i64 0] 96 (0, 0))) := zh (ah _ _ _ rfl)
 have HSW : Hid (W.cell? ⟨CP, 0, none⟩ = some (.pointer (some ⟨cb, 0, none⟩)) ∧ W.cell? ⟨SP, 2, none⟩ = some (.slice (some ⟨b, off, none⟩) n1 c1) ∧ W.cell? ⟨VP, 0, none⟩ = some (.map (some vr)) ∧ W.cell? ⟨b, off, none⟩ = some (.int .i64 xop) ∧ W.cell? ⟨b, off + 1, none⟩ = some (.int .i64 xnum) ∧ W.cell? ⟨b, off + 2, none⟩ = some (.string xt) ∧ W.cell? ⟨b, off + 3, none⟩ = some (.slice xs xn xc) ∧ W.cell? ⟨b, off + 4, none⟩ = some (.int .i64 xpos) ∧ W.cell? ⟨NP, 0, none⟩ = some (.int .i64 nt)) := zh ⟨aa HC.out (j := 0) rfl, aa HS.out (j := 2) rfl, aa HV.out (j := 0) rfl, (hW.cell (p := ⟨b, _, none⟩) hbl).trans y0, (hW.cell (p := ⟨b, _, none⟩) hbl).trans y1, (hW.cell (p := ⟨b, _, none⟩) hbl).trans y2, (hW.cell (p := ⟨b, _, none⟩) hbl).trans y3, (hW.cell (p := ⟨b, _, none⟩) hbl).trans y4, aa HNM.out (j := 0) rfl⟩
 have HLW : Hid (CP < W.heap.size ∧ SP < W.heap.size ∧ VP < W.heap.size ∧ b < W.heap.size ∧ b < W.heap.size ∧ b < W.heap.size ∧ b < W.heap.size ∧ b < W.heap.size ∧ NP < W.heap.size) := zh ⟨hl0, hl1, hl2, Nat.lt_of_lt_of_le hbl hW.size, Nat.lt_of_lt_of_le hbl hW.size, Nat.lt_of_lt_of_le hbl hW.size, Nat.lt_of_lt_of_le hbl hW.size, Nat.lt_of_lt_of_le hbl hW.size, hl3⟩
 go_enter Tryz.func110, Tryz.ntmps110
 go_upto_region 1 with fail
 have HB := zh hbD
 have HS0 : Hid ((W.alloc (.cells #[.int .i64 0, .int .i64 0] 96)).drew.cell? ⟨CP, 0, none⟩ = some (.pointer (some ⟨cb, 0, none⟩)) ∧ (W.alloc (.cells #[.int .i64 0, .int .i64 0] 96)).drew.cell? ⟨SP, 2, none⟩ = some (.slice (some ⟨b, off, none⟩) n1 c1) ∧ (W.alloc (.cells #[.int .i64 0, .int .i64 0] 96)).drew.cell? ⟨VP, 0, none⟩ = some (.map (some vr)) ∧ (W.alloc (.cells #[.int .i64 0, .int .i64 0] 96)).drew.cell? ⟨b, off, none⟩ = some (.int .i64 xop) ∧ (W.alloc (.cells #[.int .i64 0, .int .i64 0] 96)).drew.cell? ⟨b, off + 1, none⟩ = some (.int .i64 xnum) ∧ (W.alloc (.cells #[.int .i64 0, .int .i64 0] 96)).drew.cell? ⟨b, off + 2, none⟩ = some (.string xt) ∧ (W.alloc (.cells #[.int .i64 0, .int .i64 0] 96)).drew.cell? ⟨b, off + 3, none⟩ = some (.slice xs xn xc) ∧ (W.alloc (.cells #[.int .i64 0, .int .i64 0] 96)).drew.cell? ⟨b, off + 4, none⟩ = some (.int .i64 xpos) ∧ (W.alloc (.cells #[.int .i64 0, .int .i64 0] 96)).drew.cell? ⟨NP, 0, none⟩ = some (.int .i64 nt)) := zh ⟨(hbD.cell (p := ⟨CP, 0, none⟩) HLW.out.1).trans HSW.out.1, (hbD.cell (p := ⟨SP, 2, none⟩) HLW.out.2.1).trans HSW.out.2.1, (hbD.cell (p := ⟨VP, 0, none⟩) HLW.out.2.2.1).trans HSW.out.2.2.1, (hbD.cell (p := ⟨b, off, none⟩) HLW.out.2.2.2.1).trans HSW.out.2.2.2.1, (hbD.cell (p := ⟨b, off + 1, none⟩) HLW.out.2.2.2.2.1).trans HSW.out.2.2.2.2.1, (hbD.cell (p := ⟨b, off + 2, none⟩) HLW.out.2.2.2.2.2.1).trans HSW.out.2.2.2.2.2.1, (hbD.cell (p := ⟨b, off + 3, none⟩) HLW.out.2.2.2.2.2.2.1).trans HSW.out.2.2.2.2.2.2.1, (hbD.cell (p := ⟨b, off + 4, none⟩) HLW.out.2.2.2.2.2.2.2.1).trans HSW.out.2.2.2.2.2.2.2.1, (hbD.cell (p := ⟨NP, 0, none⟩) HLW.out.2.2.2.2.2.2.2.2).trans HSW.out.2.2.2.2.2.2.2.2⟩
 have HSZ : Hid (W.heap.size < (W.alloc (.cells #[.int .i64 0, .int .i64 0] 96)).heap.size) := zh (ad HZ.out)
 clear hbD
 generalize (W.alloc (.cells #[.int .i64 0, .int .i64 0] 96)) = w1 at *
 have hs0 := HS0.out
 refine az (S := (fun w' : World => w'.cell? ⟨CP, 0, none⟩ = some (.pointer (some ⟨cb, 0, none⟩)) ∧ w'.cell? ⟨SP, 2, none⟩ = some (.slice (some ⟨b, off, none⟩) n1 c1) ∧ w'.cell? ⟨VP, 0, none⟩ = some (.map (some vr)) ∧ w'.cell? ⟨b, off, none⟩ = some (.int .i64 xop) ∧ w'.cell? ⟨b, off + 1, none⟩ = some (.int .i64 xnum) ∧ w'.cell? ⟨b, off + 2, none⟩ = some (.string xt) ∧ w'.cell? ⟨b, off + 3, none⟩ = some (.slice xs xn xc) ∧ w'.cell? ⟨b, off + 4, none⟩ = some (.int .i64 xpos) ∧ w'.cell? ⟨NP, 0, none⟩ = some (.int .i64 nt))) 9 (by kernel_rfl) (by kernel_rfl) (by exact HS0.out) (fun hHeld => ?_)
 simp only [List.take_succ_cons, List.take_zero, List.drop_succ_cons, List.drop_zero]
 refine tkA 0 ?_
 refine tkA 1 ?_
 refine tkA 2 ?_
 refine tkA 3 ?_
 refine tkA 4 ?_
 refine tkA 5 ?_
 refine tkA 6 ?_
 refine tkA 7 ?_
 refine rd1 8 fun K hK => ?_
 go_simp
 go_at_call 111
 refine (HN.out _ (hW.trans ((ak HB.out (av (Below.refl _ _))).mono hW.size))).mono ?_
 rintro e w2 ⟨rfl, hb2⟩
 have hb2' : Below w1.heap.size w1 w2 := ak (av (Below.refl _ _)) hb2
 have HZ2 := zh ((hb2'.block _ (ad HZ.out)).trans HZ.out)
 have HB2 := zh (ak HB.out hb2')
 have HS5 : Hid (w2.cell? ⟨CP, 0, none⟩ = some (.pointer (some ⟨cb, 0, none⟩)) ∧ w2.cell? ⟨SP, 2, none⟩ = some (.slice (some ⟨b, off, none⟩) n1 c1) ∧ w2.cell? ⟨VP, 0, none⟩ = some (.map (some vr)) ∧ w2.cell? ⟨b, off, none⟩ = some (.int .i64 xop) ∧ w2.cell? ⟨b, off + 1, none⟩ = some (.int .i64 xnum) ∧ w2.cell? ⟨b, off + 2, none⟩ = some (.string xt) ∧ w2.cell? ⟨b, off + 3, none⟩ = some (.slice xs xn xc) ∧ w2.cell? ⟨b, off + 4, none⟩ = some (.int .i64 xpos) ∧ w2.cell? ⟨NP, 0, none⟩ = some (.int .i64 nt)) := zh ⟨(hb2'.cell (p := ⟨CP, 0, none⟩) (Nat.lt_trans HLW.out.1 HSZ.out)).trans HS0.out.1, (hb2'.cell (p := ⟨SP, 2, none⟩) (Nat.lt_trans HLW.out.2.1 HSZ.out)).trans HS0.out.2.1, (hb2'.cell (p := ⟨VP, 0, none⟩) (Nat.lt_trans HLW.out.2.2.1 HSZ.out)).trans HS0.out.2.2.1, (hb2'.cell (p := ⟨b, off, none⟩) (Nat.lt_trans HLW.out.2.2.2.1 HSZ.out)).trans HS0.out.2.2.2.1, (hb2'.cell (p := ⟨b, off + 1, none⟩) (Nat.lt_trans HLW.out.2.2.2.2.1 HSZ.out)).trans HS0.out.2.2.2.2.1, (hb2'.cell (p := ⟨b, off + 2, none⟩) (Nat.lt_trans HLW.out.2.2.2.2.2.1 HSZ.out)).trans HS0.out.2.2.2.2.2.1, (hb2'.cell (p := ⟨b, off + 3, none⟩) (Nat.lt_trans HLW.out.2.2.2.2.2.2.1 HSZ.out)).trans HS0.out.2.2.2.2.2.2.1, (hb2'.cell (p := ⟨b, off + 4, none⟩) (Nat.lt_trans HLW.out.2.2.2.2.2.2.2.1 HSZ.out)).trans HS0.out.2.2.2.2.2.2.2.1, (hb2'.cell (p := ⟨NP, 0, none⟩) (Nat.lt_trans HLW.out.2.2.2.2.2.2.2.2 HSZ.out)).trans HS0.out.2.2.2.2.2.2.2.2⟩
 clear hb2 hb2' hs0
 unfold bz
 dsimp only
 go_simp
 refine hK.out _ _ ?_ (fun hHeld => ?_)
 ·(try dsimp only)
  exact HS5.out
 clear hK K
 try go_simp
 refine wpAnyH_done (by kernel_rfl) ?_ _
 dsimp only [bT]
 obtain ⟨r0, r1, -⟩ := css HZ2.out
 obtain ⟨k0, k1, -⟩ := fzs HZ2.out
 go_wp2_with fail
 refine bodyPost_ret (v := .agg #[.int .i64 fe, .int .i64 fa]) (by simp [results, Tryz.results110, go_sem, r0, r1]) rfl ⟨rfl, ?_⟩
 exact (HB2.out.setCell (p := ⟨W.heap.size, 0, none⟩) (Nat.le_refl _) _).setCell (p := ⟨W.heap.size, 1, none⟩) (Nat.le_refl _) _
theorem rJ {W0 : World} {SP : Nat} {op pos : Int} {text : ByteArray} {s1 s2 s3 : Option Addr} {n1 c1 n2 c2 n3 c3 : Nat} {cb : Nat} {F : aQ} {res : Int} {v : aV} {vr CP VP : Nat} (hx : CtxAt W0 cb F res vr v) (hc : W0.heap[CP]? = some (.cells #[.pointer (some ⟨cb, 0, none⟩)] 90 (0, 0))) (hv : W0.heap[VP]? = some (.cells #[.map (some vr)] 121 (0, 0))) {l : List St} (hl : ∀ x, x ∈ l → kL cb F res x) (hr : RepSts Any W0 (.slice s2 n2 c2) l) (hs : W0.heap[SP]? = some (.cells #[.int .i64 op, .string text, .slice s1 n1 c1, .slice s2 n2 c2, .slice s3 n3 c3, .int .i64 pos] 62 (0, 0))) : FnTells W0 (.func (.func 118) #[] #[.pointer (some ⟨CP, 0, none⟩), .pointer (some ⟨SP, 0, none⟩), .pointer (some ⟨VP, 0, none⟩)]) (be F res l (bJ v text (1, true))) := by
 refine ⟨_, _, rfl, enters_of Tryz.func118 (by kernel_rfl) rfl, fun W hW => ?_⟩
 have HC := zh ((hW.block _ (ad hc)).trans hc)
 have hl0 := ad HC.out
 have HS := zh ((hW.block _ (ad hs)).trans hs)
 have hl1 := ad HS.out
 have HV := zh ((hW.block _ (ad hv)).trans hv)
 have hl2 := ad HV.out
 have HWI := zh (fun W1 (h1 : Below W0.heap.size W0 W1) => la vr v text 1 true W1 (hx.below h1).view)
 have HN := zh (fun W1 (h1 : Below W0.heap.size W0 W1) r' (h2 : ViewAt W1 r' (bJ v text (1, true))) => hU cb F res l hl (bJ v text (1, true)) r' W1 _ ⟨(hx.below h1).obj, h2⟩ (hr.keep (Stays.of_below h1)))
 generalize be F res l (bJ v text (1, true)) = q at *
 obtain ⟨fe, fa⟩ := q
 have hbD : Below W.heap.size W (W.alloc (.cells #[.int .i64 0, .int .i64 0] 96)) := ae (Below.refl _ _) _
 have HZ : Hid ((W.alloc (.cells #[.int .i64 0, .int .i64 0] 96)).heap[W.heap.size]? = some (.cells #[.int .i64 0, .int .i64 0] 96 (0, 0))) := zh (ah _ _ _ rfl)
 have HSW : Hid (W.cell? ⟨CP, 0, none⟩ = some (.pointer (some ⟨cb, 0, none⟩)) ∧ W.cell? ⟨SP, 1, none⟩ = some (.string text) ∧ W.cell? ⟨SP, 3, none⟩ = some (.slice s2 n2 c2) ∧ W.cell? ⟨VP, 0, none⟩ = some (.map (some vr))) := zh ⟨aa HC.out (j := 0) rfl, aa HS.out (j := 1) rfl, aa HS.out (j := 3) rfl, aa HV.out (j := 0) rfl⟩
 have HLW : Hid (CP < W.heap.size ∧ SP < W.heap.size ∧ SP < W.heap.size ∧ VP < W.heap.size) := zh ⟨hl0, hl1, hl1, hl2⟩
 go_enter Tryz.func118, Tryz.ntmps118
 go_upto_region 1 with fail
 have HB := zh hbD
 have HS0 : Hid ((W.alloc (.cells #[.int .i64 0, .int .i64 0] 96)).drew.cell? ⟨CP, 0, none⟩ = some (.pointer (some ⟨cb, 0, none⟩)) ∧ (W.alloc (.cells #[.int .i64 0, .int .i64 0] 96)).drew.cell? ⟨SP, 1, none⟩ = some (.string text) ∧ (W.alloc (.cells #[.int .i64 0, .int .i64 0] 96)).drew.cell? ⟨SP, 3, none⟩ = some (.slice s2 n2 c2) ∧ (W.alloc (.cells #[.int .i64 0, .int .i64 0] 96)).drew.cell? ⟨VP, 0, none⟩ = some (.map (some vr))) := zh ⟨(hbD.cell (p := ⟨CP, 0, none⟩) HLW.out.1).trans HSW.out.1, (hbD.cell (p := ⟨SP, 1, none⟩) HLW.out.2.1).trans HSW.out.2.1, (hbD.cell (p := ⟨SP, 3, none⟩) HLW.out.2.2.1).trans HSW.out.2.2.1, (hbD.cell (p := ⟨VP, 0, none⟩) HLW.out.2.2.2).trans HSW.out.2.2.2⟩
 have HSZ : Hid (W.heap.size < (W.alloc (.cells #[.int .i64 0, .int .i64 0] 96)).heap.size) := zh (ad HZ.out)
 clear hbD
 generalize (W.alloc (.cells #[.int .i64 0, .int .i64 0] 96)) = w1 at *
 have hs0 := HS0.out
 refine az (S := (fun w' : World => w'.cell? ⟨CP, 0, none⟩ = some (.pointer (some ⟨cb, 0, none⟩)) ∧ w'.cell? ⟨SP, 1, none⟩ = some (.string text) ∧ w'.cell? ⟨SP, 3, none⟩ = some (.slice s2 n2 c2) ∧ w'.cell? ⟨VP, 0, none⟩ = some (.map (some vr)))) 9 (by kernel_rfl) (by kernel_rfl) (by exact HS0.out) (fun hHeld => ?_)
 simp only [List.take_succ_cons, List.take_zero, List.drop_succ_cons, List.drop_zero]
 refine tkA 0 ?_
 refine tkA 1 ?_
 refine tkA 2 ?_
 refine tkA 3 ?_
 refine tkA 4 ?_
 refine tkA 5 ?_
 refine tkA 6 ?_
 refine rd1 7 fun K hK => ?_
 go_simp
 go_at_call 107
 refine (HWI.out _ (hW.trans ((ak HB.out (av (Below.refl _ _))).mono hW.size))).mono ?_
 rintro e w2 ⟨r2, rfl, hv2, hb2⟩
 have hb2' : Below w1.heap.size w1 w2 := ak (av (Below.refl _ _)) hb2
 have HZ2 := zh ((hb2'.block _ (ad HZ.out)).trans HZ.out)
 have HB2 := zh (ak HB.out hb2')
 have HS5 : Hid (w2.cell? ⟨CP, 0, none⟩ = some (.pointer (some ⟨cb, 0, none⟩)) ∧ w2.cell? ⟨SP, 1, none⟩ = some (.string text) ∧ w2.cell? ⟨SP, 3, none⟩ = some (.slice s2 n2 c2) ∧ w2.cell? ⟨VP, 0, none⟩ = some (.map (some vr))) := zh ⟨(hb2'.cell (p := ⟨CP, 0, none⟩) (Nat.lt_trans HLW.out.1 HSZ.out)).trans HS0.out.1, (hb2'.cell (p := ⟨SP, 1, none⟩) (Nat.lt_trans HLW.out.2.1 HSZ.out)).trans HS0.out.2.1, (hb2'.cell (p := ⟨SP, 3, none⟩) (Nat.lt_trans HLW.out.2.2.1 HSZ.out)).trans HS0.out.2.2.1, (hb2'.cell (p := ⟨VP, 0, none⟩) (Nat.lt_trans HLW.out.2.2.2 HSZ.out)).trans HS0.out.2.2.2⟩
 clear hb2 hb2' hs0
 go_simp
 refine hK.out _ _ ?_ (fun hHeld => ?_)
 ·(try dsimp only)
  exact HS5.out
 clear hK K
 try go_simp
 refine rd1 8 fun K hK => ?_
 go_simp
 go_at_call 51
 refine (HN.out _ (hW.trans (HB2.out.mono hW.size)) _ hv2).mono ?_
 rintro e w3 ⟨rfl, hb3⟩
 have HZ3 := zh ((hb3.block _ (ad HZ2.out)).trans HZ2.out)
 have HB3 := zh (ak HB2.out hb3)
 have HS6 : Hid (w3.cell? ⟨CP, 0, none⟩ = some (.pointer (some ⟨cb, 0, none⟩)) ∧ w3.cell? ⟨SP, 1, none⟩ = some (.string text) ∧ w3.cell? ⟨SP, 3, none⟩ = some (.slice s2 n2 c2) ∧ w3.cell? ⟨VP, 0, none⟩ = some (.map (some vr))) := zh ⟨(hb3.cell (p := ⟨CP, 0, none⟩) (am HS5.out.1)).trans HS5.out.1, (hb3.cell (p := ⟨SP, 1, none⟩) (am HS5.out.2.1)).trans HS5.out.2.1, (hb3.cell (p := ⟨SP, 3, none⟩) (am HS5.out.2.2.1)).trans HS5.out.2.2.1, (hb3.cell (p := ⟨VP, 0, none⟩) (am HS5.out.2.2.2)).trans HS5.out.2.2.2⟩
 clear hb3
 unfold bz
 dsimp only
 go_simp
 refine hK.out _ _ ?_ (fun hHeld => ?_)
 ·(try dsimp only)
  exact HS6.out
 clear hK K
 try go_simp
 refine wpAnyH_done (by kernel_rfl) ?_ _
 dsimp only [bT]
 obtain ⟨r0, r1, -⟩ := css HZ3.out
 obtain ⟨k0, k1, -⟩ := fzs HZ3.out
 go_wp2_with fail
 refine bodyPost_ret (v := .agg #[.int .i64 fe, .int .i64 fa]) (by simp [results, Tryz.results118, go_sem, r0, r1]) rfl ⟨rfl, ?_⟩
 exact (HB3.out.setCell (p := ⟨W.heap.size, 0, none⟩) (Nat.le_refl _) _).setCell (p := ⟨W.heap.size, 1, none⟩) (Nat.le_refl _) _
theorem rA {W0 : World} {TP SP : Nat} {t : Int} {op pos : Int} {text : ByteArray} {s1 s2 s3 : Option Addr} {n1 c1 n2 c2 n3 c3 : Nat} {cb : Nat} {F : aQ} {res : Int} {v : aV} {vr CP : Nat} (hx : CtxAt W0 cb F res vr v) (hc : W0.heap[CP]? = some (.cells #[.pointer (some ⟨cb, 0, none⟩)] 90 (0, 0))) {l : List Ex} (h0 : 0 < l.length) (hr : RepExs Any W0 (.slice s1 n1 c1) l) (h : W0.heap[TP]? = some (.cells #[.int .i64 t] 32 (0, 0))) (hs : W0.heap[SP]? = some (.cells #[.int .i64 op, .string text, .slice s1 n1 c1, .slice s2 n2 c2, .slice s3 n3 c3, .int .i64 pos] 62 (0, 0))) : FnTells W0 (.func (.func 120) #[] #[.pointer (some ⟨TP, 0, none⟩), .pointer (some ⟨CP, 0, none⟩), .pointer (some ⟨SP, 0, none⟩)]) (noC (t == res && t != 0) 51 (l.headD default).pos) := by
 obtain ⟨b, off, xop, xnum, xt, xs, xn, xc, xpos, rfl, hn0, hbl, y0, y1, y2, y3, y4, hrep⟩ := cJ hr h0
 have HPOS : Hid ((l.headD default).pos = xpos ∧ (l.headD default).op = xop) := zh (by obtain ⟨_, e, _⟩ := bL hrep; rw [e]; exact ⟨rfl, rfl⟩)
 have HREP := zh hrep
 have gn0 : (0 : Int) < (n1 : Int) := by omega
 clear hrep
 rw [HPOS.out.1]
 obtain ⟨frr, hob, _⟩ := hx.obj
 refine ⟨_, _, rfl, enters_of Tryz.func120 (by kernel_rfl) rfl, fun W hW => ?_⟩
 have HP := zh ((hW.block _ (ad h)).trans h)
 have hl0 := ad HP.out
 have HC := zh ((hW.block _ (ad hc)).trans hc)
 have hl1 := ad HC.out
 have HS := zh ((hW.block _ (ad hs)).trans hs)
 have hl2 := ad HS.out
 have HO := zh ((hW.block _ (ad hob)).trans hob)
 have hl3 := ad HO.out
 by_cases htr : res = t
 ·subst htr
  have hrr : (res == res && res != 0) = (res != 0) := by simp
  rw [hrr]
  clear hrr
  have HN := zh (cg (res != 0) 51 xpos)
  generalize noC (res != 0) 51 xpos = q at *
  obtain ⟨fe, fa⟩ := q
  have hbD : Below W.heap.size W (W.alloc (.cells #[.int .i64 0, .int .i64 0] 96)) := ae (Below.refl _ _) _
  have HZ : Hid ((W.alloc (.cells #[.int .i64 0, .int .i64 0] 96)).heap[W.heap.size]? = some (.cells #[.int .i64 0, .int .i64 0] 96 (0, 0))) := zh (ah _ _ _ rfl)
  have HSW : Hid (W.cell? ⟨TP, 0, none⟩ = some (.int .i64 res) ∧ W.cell? ⟨CP, 0, none⟩ = some (.pointer (some ⟨cb, 0, none⟩)) ∧ W.cell? ⟨SP, 2, none⟩ = some (.slice (some ⟨b, off, none⟩) n1 c1) ∧ W.cell? ⟨cb, 1, none⟩ = some (.int .i64 res) ∧ W.cell? ⟨b, off + 4, none⟩ = some (.int .i64 xpos)) := zh ⟨aa HP.out (j := 0) rfl, aa HC.out (j := 0) rfl, aa HS.out (j := 2) rfl, aa HO.out (j := 1) rfl, (hW.cell (p := ⟨b, _, none⟩) hbl).trans y4⟩
  have HLW : Hid (TP < W.heap.size ∧ CP < W.heap.size ∧ SP < W.heap.size ∧ cb < W.heap.size ∧ b < W.heap.size) := zh ⟨hl0, hl1, hl2, hl3, Nat.lt_of_lt_of_le hbl hW.size⟩
  go_enter Tryz.func120, Tryz.ntmps120
  go_upto_region 1 with fail
  have HB := zh hbD
  have HS0 : Hid ((W.alloc (.cells #[.int .i64 0, .int .i64 0] 96)).drew.cell? ⟨TP, 0, none⟩ = some (.int .i64 res) ∧ (W.alloc (.cells #[.int .i64 0, .int .i64 0] 96)).drew.cell? ⟨CP, 0, none⟩ = some (.pointer (some ⟨cb, 0, none⟩)) ∧ (W.alloc (.cells #[.int .i64 0, .int .i64 0] 96)).drew.cell? ⟨SP, 2, none⟩ = some (.slice (some ⟨b, off, none⟩) n1 c1) ∧ (W.alloc (.cells #[.int .i64 0, .int .i64 0] 96)).drew.cell? ⟨cb, 1, none⟩ = some (.int .i64 res) ∧ (W.alloc (.cells #[.int .i64 0, .int .i64 0] 96)).drew.cell? ⟨b, off + 4, none⟩ = some (.int .i64 xpos)) := zh ⟨(hbD.cell (p := ⟨TP, 0, none⟩) HLW.out.1).trans HSW.out.1, (hbD.cell (p := ⟨CP, 0, none⟩) HLW.out.2.1).trans HSW.out.2.1, (hbD.cell (p := ⟨SP, 2, none⟩) HLW.out.2.2.1).trans HSW.out.2.2.1, (hbD.cell (p := ⟨cb, 1, none⟩) HLW.out.2.2.2.1).trans HSW.out.2.2.2.1, (hbD.cell (p := ⟨b, off + 4, none⟩) HLW.out.2.2.2.2).trans HSW.out.2.2.2.2⟩
  have HSZ : Hid (W.heap.size < (W.alloc (.cells #[.int .i64 0, .int .i64 0] 96)).heap.size) := zh (ad HZ.out)
  clear hbD
  generalize (W.alloc (.cells #[.int .i64 0, .int .i64 0] 96)) = w1 at *
  have hs0 := HS0.out
  refine az (S := (fun w' : World => w'.cell? ⟨TP, 0, none⟩ = some (.int .i64 res) ∧ w'.cell? ⟨CP, 0, none⟩ = some (.pointer (some ⟨cb, 0, none⟩)) ∧ w'.cell? ⟨SP, 2, none⟩ = some (.slice (some ⟨b, off, none⟩) n1 c1) ∧ w'.cell? ⟨cb, 1, none⟩ = some (.int .i64 res) ∧ w'.cell? ⟨b, off + 4, none⟩ = some (.int .i64 xpos))) 16 (by kernel_rfl) (by kernel_rfl) (by exact HS0.out) (fun hHeld => ?_)
  simp only [List.take_succ_cons, List.take_zero, List.drop_succ_cons, List.drop_zero]
  refine tkA 0 ?_
  refine tkA 1 ?_
  refine tkA 2 ?_
  refine tkA 3 ?_
  refine tkA 4 ?_
  refine tkA 5 ?_
  refine tkA 6 ?_
  refine tkA 7 ?_
  refine tkA 8 ?_
  refine tkA 9 ?_
  refine tkA 10 ?_
  refine tkA 11 ?_
  refine tkA 12 ?_
  refine tkA 13 ?_
  refine tkA 14 ?_
  refine rd1 15 fun K hK => ?_
  go_simp
  go_at_call 53
  refine (HN.out _).mono ?_
  rintro e w2 ⟨rfl, hb2⟩
  have hb2' : Below w1.heap.size w1 w2 := ak (av (Below.refl _ _)) hb2
  have HZ2 := zh ((hb2'.block _ (ad HZ.out)).trans HZ.out)
  have HB2 := zh (ak HB.out hb2')
  have HS5 : Hid (w2.cell? ⟨TP, 0, none⟩ = some (.int .i64 res) ∧ w2.cell? ⟨CP, 0, none⟩ = some (.pointer (some ⟨cb, 0, none⟩)) ∧ w2.cell? ⟨SP, 2, none⟩ = some (.slice (some ⟨b, off, none⟩) n1 c1) ∧ w2.cell? ⟨cb, 1, none⟩ = some (.int .i64 res) ∧ w2.cell? ⟨b, off + 4, none⟩ = some (.int .i64 xpos)) := zh ⟨(hb2'.cell (p := ⟨TP, 0, none⟩) (Nat.lt_trans HLW.out.1 HSZ.out)).trans HS0.out.1, (hb2'.cell (p := ⟨CP, 0, none⟩) (Nat.lt_trans HLW.out.2.1 HSZ.out)).trans HS0.out.2.1, (hb2'.cell (p := ⟨SP, 2, none⟩) (Nat.lt_trans HLW.out.2.2.1 HSZ.out)).trans HS0.out.2.2.1, (hb2'.cell (p := ⟨cb, 1, none⟩) (Nat.lt_trans HLW.out.2.2.2.1 HSZ.out)).trans HS0.out.2.2.2.1, (hb2'.cell (p := ⟨b, off + 4, none⟩) (Nat.lt_trans HLW.out.2.2.2.2 HSZ.out)).trans HS0.out.2.2.2.2⟩
  clear hb2 hb2' hs0
  unfold bz
  dsimp only
  go_simp
  refine hK.out _ _ ?_ (fun hHeld => ?_)
  ·(try dsimp only)
   exact HS5.out
  clear hK K
  try go_simp
  refine wpAnyH_done (by kernel_rfl) ?_ _
  dsimp only [bT]
  obtain ⟨r0, r1, -⟩ := css HZ2.out
  obtain ⟨k0, k1, -⟩ := fzs HZ2.out
  go_wp2_with fail
  refine bodyPost_ret (v := .agg #[.int .i64 fe, .int .i64 fa]) (by simp [results, Tryz.results120, go_sem, r0, r1]) rfl ⟨rfl, ?_⟩
  exact (HB2.out.setCell (p := ⟨W.heap.size, 0, none⟩) (Nat.le_refl _) _).setCell (p := ⟨W.heap.size, 1, none⟩) (Nat.le_refl _) _
 ·have htr2 : ¬ t = res := fun e => htr e.symm
  have hfalse : (t == res && t != 0) = false := by simp [htr2]
  rw [hfalse]
  clear hfalse
  have hbf : (t == res) = false := by simp [htr2]
  have HN := zh (cg (false) 51 xpos)
  generalize noC (false) 51 xpos = q at *
  obtain ⟨fe, fa⟩ := q
  have hbD : Below W.heap.size W (W.alloc (.cells #[.int .i64 0, .int .i64 0] 96)) := ae (Below.refl _ _) _
  have HZ : Hid ((W.alloc (.cells #[.int .i64 0, .int .i64 0] 96)).heap[W.heap.size]? = some (.cells #[.int .i64 0, .int .i64 0] 96 (0, 0))) := zh (ah _ _ _ rfl)
  have HSW : Hid (W.cell? ⟨TP, 0, none⟩ = some (.int .i64 t) ∧ W.cell? ⟨CP, 0, none⟩ = some (.pointer (some ⟨cb, 0, none⟩)) ∧ W.cell? ⟨SP, 2, none⟩ = some (.slice (some ⟨b, off, none⟩) n1 c1) ∧ W.cell? ⟨cb, 1, none⟩ = some (.int .i64 res) ∧ W.cell? ⟨b, off + 4, none⟩ = some (.int .i64 xpos)) := zh ⟨aa HP.out (j := 0) rfl, aa HC.out (j := 0) rfl, aa HS.out (j := 2) rfl, aa HO.out (j := 1) rfl, (hW.cell (p := ⟨b, _, none⟩) hbl).trans y4⟩
  have HLW : Hid (TP < W.heap.size ∧ CP < W.heap.size ∧ SP < W.heap.size ∧ cb < W.heap.size ∧ b < W.heap.size) := zh ⟨hl0, hl1, hl2, hl3, Nat.lt_of_lt_of_le hbl hW.size⟩
  go_enter Tryz.func120, Tryz.ntmps120
  go_upto_region 1 with fail
  have HB := zh hbD
  have HS0 : Hid ((W.alloc (.cells #[.int .i64 0, .int .i64 0] 96)).drew.cell? ⟨TP, 0, none⟩ = some (.int .i64 t) ∧ (W.alloc (.cells #[.int .i64 0, .int .i64 0] 96)).drew.cell? ⟨CP, 0, none⟩ = some (.pointer (some ⟨cb, 0, none⟩)) ∧ (W.alloc (.cells #[.int .i64 0, .int .i64 0] 96)).drew.cell? ⟨SP, 2, none⟩ = some (.slice (some ⟨b, off, none⟩) n1 c1) ∧ (W.alloc (.cells #[.int .i64 0, .int .i64 0] 96)).drew.cell? ⟨cb, 1, none⟩ = some (.int .i64 res) ∧ (W.alloc (.cells #[.int .i64 0, .int .i64 0] 96)).drew.cell? ⟨b, off + 4, none⟩ = some (.int .i64 xpos)) := zh ⟨(hbD.cell (p := ⟨TP, 0, none⟩) HLW.out.1).trans HSW.out.1, (hbD.cell (p := ⟨CP, 0, none⟩) HLW.out.2.1).trans HSW.out.2.1, (hbD.cell (p := ⟨SP, 2, none⟩) HLW.out.2.2.1).trans HSW.out.2.2.1, (hbD.cell (p := ⟨cb, 1, none⟩) HLW.out.2.2.2.1).trans HSW.out.2.2.2.1, (hbD.cell (p := ⟨b, off + 4, none⟩) HLW.out.2.2.2.2).trans HSW.out.2.2.2.2⟩
  have HSZ : Hid (W.heap.size < (W.alloc (.cells #[.int .i64 0, .int .i64 0] 96)).heap.size) := zh (ad HZ.out)
  clear hbD
  generalize (W.alloc (.cells #[.int .i64 0, .int .i64 0] 96)) = w1 at *
  have hs0 := HS0.out
  refine az (S := (fun w' : World => w'.cell? ⟨TP, 0, none⟩ = some (.int .i64 t) ∧ w'.cell? ⟨CP, 0, none⟩ = some (.pointer (some ⟨cb, 0, none⟩)) ∧ w'.cell? ⟨SP, 2, none⟩ = some (.slice (some ⟨b, off, none⟩) n1 c1) ∧ w'.cell? ⟨cb, 1, none⟩ = some (.int .i64 res) ∧ w'.cell? ⟨b, off + 4, none⟩ = some (.int .i64 xpos))) 16 (by kernel_rfl) (by kernel_rfl) (by exact HS0.out) (fun hHeld => ?_)
  simp only [List.take_succ_cons, List.take_zero, List.drop_succ_cons, List.drop_zero]
  refine tkA 0 ?_
  refine tkA 1 ?_
  refine tkA 2 ?_
  refine tkA 3 ?_
  refine tkA 4 ?_
  refine tkA 5 ?_
  refine tkA 6 ?_
  refine wpAnyH_take (i := 7) rfl (by kernel_rfl) (by kernel_rfl) (by kernel_rfl) (fun _ _ _ h => h) (Or.inr ⟨by rfl, rfl⟩) (by assumption) ?_
  try go_simp
  refine wpAnyH_take (i := 8) rfl (by kernel_rfl) (by kernel_rfl) (by kernel_rfl) (fun _ _ _ h => h) (Or.inr ⟨by rfl, rfl⟩) (by assumption) ?_
  try go_simp
  refine tkA 9 ?_
  refine tkA 10 ?_
  refine tkA 11 ?_
  refine tkA 12 ?_
  refine tkA 13 ?_
  refine tkA 14 ?_
  refine rd1 15 fun K hK => ?_
  go_simp
  go_at_call 53
  refine (HN.out _).mono ?_
  rintro e w2 ⟨rfl, hb2⟩
  have hb2' : Below w1.heap.size w1 w2 := ak (av (Below.refl _ _)) hb2
  have HZ2 := zh ((hb2'.block _ (ad HZ.out)).trans HZ.out)
  have HB2 := zh (ak HB.out hb2')
  have HS5 : Hid (w2.cell? ⟨TP, 0, none⟩ = some (.int .i64 t) ∧ w2.cell? ⟨CP, 0, none⟩ = some (.pointer (some ⟨cb, 0, none⟩)) ∧ w2.cell? ⟨SP, 2, none⟩ = some (.slice (some ⟨b, off, none⟩) n1 c1) ∧ w2.cell? ⟨cb, 1, none⟩ = some (.int .i64 res) ∧ w2.cell? ⟨b, off + 4, none⟩ = some (.int .i64 xpos)) := zh ⟨(hb2'.cell (p := ⟨TP, 0, none⟩) (Nat.lt_trans HLW.out.1 HSZ.out)).trans HS0.out.1, (hb2'.cell (p := ⟨CP, 0, none⟩) (Nat.lt_trans HLW.out.2.1 HSZ.out)).trans HS0.out.2.1, (hb2'.cell (p := ⟨SP, 2, none⟩) (Nat.lt_trans HLW.out.2.2.1 HSZ.out)).trans HS0.out.2.2.1, (hb2'.cell (p := ⟨cb, 1, none⟩) (Nat.lt_trans HLW.out.2.2.2.1 HSZ.out)).trans HS0.out.2.2.2.1, (hb2'.cell (p := ⟨b, off + 4, none⟩) (Nat.lt_trans HLW.out.2.2.2.2 HSZ.out)).trans HS0.out.2.2.2.2⟩
  clear hb2 hb2' hs0
  unfold bz
  dsimp only
  go_simp
  refine hK.out _ _ ?_ (fun hHeld => ?_)
  ·(try dsimp only)
   exact HS5.out
  clear hK K
  try go_simp
  refine wpAnyH_done (by kernel_rfl) ?_ _
  dsimp only [bT]
  obtain ⟨r0, r1, -⟩ := css HZ2.out
  obtain ⟨k0, k1, -⟩ := fzs HZ2.out
  go_wp2_with fail
  refine bodyPost_ret (v := .agg #[.int .i64 fe, .int .i64 fa]) (by simp [results, Tryz.results120, go_sem, r0, r1]) rfl ⟨rfl, ?_⟩
  exact (HB2.out.setCell (p := ⟨W.heap.size, 0, none⟩) (Nat.le_refl _) _).setCell (p := ⟨W.heap.size, 1, none⟩) (Nat.le_refl _) _
end
end Go.Proofs.YtjblihabklemfaaGreatDoor
