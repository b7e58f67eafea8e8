/-
  Compile: part 36 of its proof: see the last text.
-/
import Derived.Test.YtjblihabklemfaaGreatDoorPm31
import Derived.Shelf.Abstract
set_option maxRecDepth 100000
set_option maxHeartbeats 16000000
namespace Go.Proofs.YtjblihabklemfaaGreatDoor
section
open Go.RowKit
theorem sZ {W0 : World} {P : Nat} {fe fa : Int} (h : W0.heap[P]? = some (.cells #[.int .i64 fe, .int .i64 fa] 96 (0, 0))) : FnTells W0 (.func (.func 104) #[] #[.pointer (some ⟨P, 0, none⟩)]) (fe, fa) := by
 refine ⟨_, _, rfl, enters_of Tryz.func104 (by kernel_rfl) rfl, fun W hW => ?_⟩
 have HP := zh ((hW.block _ (ad h)).trans h)
 have hl0 := ad HP.out
 obtain ⟨f0, f1, -⟩ := css HP.out
 go_enter Tryz.func104, Tryz.ntmps104
 go_wp2_with fail
 refine bodyPost_ret (v := .agg #[.int .i64 fe, .int .i64 fa]) (by simp [results, Tryz.results104, go_sem]) rfl ⟨rfl, ?_⟩
 repeat (first | assumption | exact Below.refl _ _ | refine Below.setCell ?_ (Nat.le_refl _) _ | refine Below.alloc ?_ (Nat.le_refl _) _)
theorem rf {W0 : World} {P : Nat} {fe fa : Int} (h : W0.heap[P]? = some (.cells #[.int .i64 fe, .int .i64 fa] 96 (0, 0))) : FnTells W0 (.func (.func 119) #[] #[.pointer (some ⟨P, 0, none⟩)]) (fe, fa) := by
 refine ⟨_, _, rfl, enters_of Tryz.func119 (by kernel_rfl) rfl, fun W hW => ?_⟩
 have HP := zh ((hW.block _ (ad h)).trans h)
 have hl0 := ad HP.out
 obtain ⟨f0, f1, -⟩ := css HP.out
 go_enter Tryz.func119, Tryz.ntmps119
 go_wp2_with fail
 refine bodyPost_ret (v := .agg #[.int .i64 fe, .int .i64 fa]) (by simp [results, Tryz.results119, go_sem]) rfl ⟨rfl, ?_⟩
 repeat (first | assumption | exact Below.refl _ _ | refine Below.setCell ?_ (Nat.le_refl _) _ | refine Below.alloc ?_ (Nat.le_refl _) _)
theorem pC {W0 : World} {P : Nat} {fe fa : Int} (h : W0.heap[P]? = some (.cells #[.int .i64 fe, .int .i64 fa] 96 (0, 0))) : FnTells W0 (.func (.func 121) #[] #[.pointer (some ⟨P, 0, none⟩)]) (fe, fa) := by
 refine ⟨_, _, rfl, enters_of Tryz.func121 (by kernel_rfl) rfl, fun W hW => ?_⟩
 have HP := zh ((hW.block _ (ad h)).trans h)
 have hl0 := ad HP.out
 obtain ⟨f0, f1, -⟩ := css HP.out
 go_enter Tryz.func121, Tryz.ntmps121
 go_wp2_with fail
 refine bodyPost_ret (v := .agg #[.int .i64 fe, .int .i64 fa]) (by simp [results, Tryz.results121, go_sem]) rfl ⟨rfl, ?_⟩
 repeat (first | assumption | exact Below.refl _ _ | refine Below.setCell ?_ (Nat.le_refl _) _ | refine Below.alloc ?_ (Nat.le_refl _) _)
theorem sF {W0 : World} {BP SP : Nat} {b : Bool} {op pos : Int} {text : ByteArray} {s1 s2 s3 : Option Addr} {n1 c1 n2 c2 n3 c3 : Nat} (h : W0.heap[BP]? = some (.cells #[.bool b] 4 (0, 0))) (hs : W0.heap[SP]? = some (.cells #[.int .i64 op, .string text, .slice s1 n1 c1, .slice s2 n2 c2, .slice s3 n3 c3, .int .i64 pos] 62 (0, 0))) : FnTells W0 (.func (.func 106) #[] #[.pointer (some ⟨BP, 0, none⟩), .pointer (some ⟨SP, 0, none⟩)]) (noC (!b) 53 pos) := by
 refine ⟨_, _, rfl, enters_of Tryz.func106 (by kernel_rfl) rfl, fun W hW => ?_⟩
 have HP := zh ((hW.block _ (ad h)).trans h)
 have hl0 := ad HP.out
 have HS := zh ((hW.block _ (ad hs)).trans hs)
 have hl1 := ad HS.out
 have f0 : W.cell? ⟨BP, 0, none⟩ = some (.bool b) := aa HP.out (j := 0) rfl
 have f5 : W.cell? ⟨SP, 5, none⟩ = some (.int .i64 pos) := aa HS.out (j := 5) rfl
 have HN := zh (cg (!b) 53 pos)
 generalize noC (!b) 53 pos = q at *
 obtain ⟨fe, fa⟩ := q
 have HB : Hid (Below W.heap.size W (W.alloc (.cells #[.int .i64 0, .int .i64 0] 96))) := zh (ae (Below.refl _ _) _)
 have HZ : Hid ((W.alloc (.cells #[.int .i64 0, .int .i64 0] 96)).heap[W.heap.size]? = some (.cells #[.int .i64 0, .int .i64 0] 96 (0, 0))) := zh (ah _ _ _ rfl)
 go_enter Tryz.func106, Tryz.ntmps106
 go_wp2_with fail
 refine (HN.out _).mono ?_
 rintro e w2 ⟨rfl, hb2⟩
 have HZ2 := zh ((hb2.block _ (ad HZ.out)).trans HZ.out)
 have HB2 := zh (ak HB.out hb2)
 clear hb2
 unfold bz
 dsimp only
 obtain ⟨r0, r1, -⟩ := css HZ2.out
 obtain ⟨k0, k1, -⟩ := fzs HZ2.out
 go_wp2_with fail
 refine bodyPost_ret (v := .agg #[.int .i64 fe, .int .i64 fa]) (by simp [results, Tryz.results106, go_sem, r0, r1]) rfl ⟨rfl, ?_⟩
 exact (HB2.out.setCell (p := ⟨W.heap.size, 0, none⟩) (Nat.le_refl _) _).setCell (p := ⟨W.heap.size, 1, none⟩) (Nat.le_refl _) _
theorem rh {W0 : World} {BP SP : Nat} {b : Bool} {op pos : Int} {text : ByteArray} {s1 s2 s3 : Option Addr} {n1 c1 n2 c2 n3 c3 : Nat} (h : W0.heap[BP]? = some (.cells #[.bool b] 4 (0, 0))) (hs : W0.heap[SP]? = some (.cells #[.int .i64 op, .string text, .slice s1 n1 c1, .slice s2 n2 c2, .slice s3 n3 c3, .int .i64 pos] 62 (0, 0))) : FnTells W0 (.func (.func 117) #[] #[.pointer (some ⟨BP, 0, none⟩), .pointer (some ⟨SP, 0, none⟩)]) (noC (!b) 53 pos) := by
 refine ⟨_, _, rfl, enters_of Tryz.func117 (by kernel_rfl) rfl, fun W hW => ?_⟩
 have HP := zh ((hW.block _ (ad h)).trans h)
 have hl0 := ad HP.out
 have HS := zh ((hW.block _ (ad hs)).trans hs)
 have hl1 := ad HS.out
 have f0 : W.cell? ⟨BP, 0, none⟩ = some (.bool b) := aa HP.out (j := 0) rfl
 have f5 : W.cell? ⟨SP, 5, none⟩ = some (.int .i64 pos) := aa HS.out (j := 5) rfl
 have HN := zh (cg (!b) 53 pos)
 generalize noC (!b) 53 pos = q at *
 obtain ⟨fe, fa⟩ := q
 have HB : Hid (Below W.heap.size W (W.alloc (.cells #[.int .i64 0, .int .i64 0] 96))) := zh (ae (Below.refl _ _) _)
 have HZ : Hid ((W.alloc (.cells #[.int .i64 0, .int .i64 0] 96)).heap[W.heap.size]? = some (.cells #[.int .i64 0, .int .i64 0] 96 (0, 0))) := zh (ah _ _ _ rfl)
 go_enter Tryz.func117, Tryz.ntmps117
 go_wp2_with fail
 refine (HN.out _).mono ?_
 rintro e w2 ⟨rfl, hb2⟩
 have HZ2 := zh ((hb2.block _ (ad HZ.out)).trans HZ.out)
 have HB2 := zh (ak HB.out hb2)
 clear hb2
 unfold bz
 dsimp only
 obtain ⟨r0, r1, -⟩ := css HZ2.out
 obtain ⟨k0, k1, -⟩ := fzs HZ2.out
 go_wp2_with fail
 refine bodyPost_ret (v := .agg #[.int .i64 fe, .int .i64 fa]) (by simp [results, Tryz.results117, go_sem, r0, r1]) rfl ⟨rfl, ?_⟩
 exact (HB2.out.setCell (p := ⟨W.heap.size, 0, none⟩) (Nat.le_refl _) _).setCell (p := ⟨W.heap.size, 1, none⟩) (Nat.le_refl _) _
theorem rY {W0 : World} {BP SP : Nat} {b : Bool} {op pos : Int} {text : ByteArray} {s1 s2 s3 : Option Addr} {n1 c1 n2 c2 n3 c3 : Nat} (h : W0.heap[BP]? = some (.cells #[.bool b] 4 (0, 0))) (hs : W0.heap[SP]? = some (.cells #[.int .i64 op, .string text, .slice s1 n1 c1, .slice s2 n2 c2, .slice s3 n3 c3, .int .i64 pos] 62 (0, 0))) : FnTells W0 (.func (.func 108) #[] #[.pointer (some ⟨BP, 0, none⟩), .pointer (some ⟨SP, 0, none⟩)]) (noC (b) 52 pos) := by
 refine ⟨_, _, rfl, enters_of Tryz.func108 (by kernel_rfl) rfl, fun W hW => ?_⟩
 have HP := zh ((hW.block _ (ad h)).trans h)
 have hl0 := ad HP.out
 have HS := zh ((hW.block _ (ad hs)).trans hs)
 have hl1 := ad HS.out
 have f0 : W.cell? ⟨BP, 0, none⟩ = some (.bool b) := aa HP.out (j := 0) rfl
 have f5 : W.cell? ⟨SP, 5, none⟩ = some (.int .i64 pos) := aa HS.out (j := 5) rfl
 have HN := zh (cg (b) 52 pos)
 generalize noC (b) 52 pos = q at *
 obtain ⟨fe, fa⟩ := q
 have HB : Hid (Below W.heap.size W (W.alloc (.cells #[.int .i64 0, .int .i64 0] 96))) := zh (ae (Below.refl _ _) _)
 have HZ : Hid ((W.alloc (.cells #[.int .i64 0, .int .i64 0] 96)).heap[W.heap.size]? = some (.cells #[.int .i64 0, .int .i64 0] 96 (0, 0))) := zh (ah _ _ _ rfl)
 go_enter Tryz.func108, Tryz.ntmps108
 go_wp2_with fail
 refine (HN.out _).mono ?_
 rintro e w2 ⟨rfl, hb2⟩
 have HZ2 := zh ((hb2.block _ (ad HZ.out)).trans HZ.out)
 have HB2 := zh (ak HB.out hb2)
 clear hb2
 unfold bz
 dsimp only
 obtain ⟨r0, r1, -⟩ := css HZ2.out
 obtain ⟨k0, k1, -⟩ := fzs HZ2.out
 go_wp2_with fail
 refine bodyPost_ret (v := .agg #[.int .i64 fe, .int .i64 fa]) (by simp [results, Tryz.results108, go_sem, r0, r1]) rfl ⟨rfl, ?_⟩
 exact (HB2.out.setCell (p := ⟨W.heap.size, 0, none⟩) (Nat.le_refl _) _).setCell (p := ⟨W.heap.size, 1, none⟩) (Nat.le_refl _) _
theorem rX {W0 : World} {NP SP : Nat} {nt : Int} {b : Bool} {op pos : Int} {text : ByteArray} {s1 s2 s3 : Option Addr} {n1 c1 n2 c2 n3 c3 : Nat} (h : W0.heap[NP]? = some (.cells #[.int .i64 nt, .bool b] 123 (0, 0))) (hs : W0.heap[SP]? = some (.cells #[.int .i64 op, .string text, .slice s1 n1 c1, .slice s2 n2 c2, .slice s3 n3 c3, .int .i64 pos] 62 (0, 0))) : FnTells W0 (.func (.func 109) #[] #[.pointer (some ⟨NP, 0, none⟩), .pointer (some ⟨SP, 0, none⟩)]) (noC (!b) 51 pos) := by
 refine ⟨_, _, rfl, enters_of Tryz.func109 (by kernel_rfl) rfl, fun W hW => ?_⟩
 have HP := zh ((hW.block _ (ad h)).trans h)
 have hl0 := ad HP.out
 have HS := zh ((hW.block _ (ad hs)).trans hs)
 have hl1 := ad HS.out
 have f1 : W.cell? ⟨NP, 1, none⟩ = some (.bool b) := aa HP.out (j := 1) rfl
 have f5 : W.cell? ⟨SP, 5, none⟩ = some (.int .i64 pos) := aa HS.out (j := 5) rfl
 have HN := zh (cg (!b) 51 pos)
 generalize noC (!b) 51 pos = q at *
 obtain ⟨fe, fa⟩ := q
 have HB : Hid (Below W.heap.size W (W.alloc (.cells #[.int .i64 0, .int .i64 0] 96))) := zh (ae (Below.refl _ _) _)
 have HZ : Hid ((W.alloc (.cells #[.int .i64 0, .int .i64 0] 96)).heap[W.heap.size]? = some (.cells #[.int .i64 0, .int .i64 0] 96 (0, 0))) := zh (ah _ _ _ rfl)
 go_enter Tryz.func109, Tryz.ntmps109
 go_wp2_with fail
 refine (HN.out _).mono ?_
 rintro e w2 ⟨rfl, hb2⟩
 have HZ2 := zh ((hb2.block _ (ad HZ.out)).trans HZ.out)
 have HB2 := zh (ak HB.out hb2)
 clear hb2
 unfold bz
 dsimp only
 obtain ⟨r0, r1, -⟩ := css HZ2.out
 obtain ⟨k0, k1, -⟩ := fzs HZ2.out
 go_wp2_with fail
 refine bodyPost_ret (v := .agg #[.int .i64 fe, .int .i64 fa]) (by simp [results, Tryz.results109, go_sem, r0, r1]) rfl ⟨rfl, ?_⟩
 exact (HB2.out.setCell (p := ⟨W.heap.size, 0, none⟩) (Nat.le_refl _) _).setCell (p := ⟨W.heap.size, 1, none⟩) (Nat.le_refl _) _
theorem sN {W0 : World} {cb : Nat} {F : aQ} {res : Int} {v : aV} {vr CP SP VP : Nat} {op pos : Int} {text : ByteArray} {s1 s2 s3 : Option Addr} {n1 c1 n2 c2 n3 c3 : Nat} {l : List St} (hl : ∀ x, x ∈ l → kL cb F res x) (hx : CtxAt W0 cb F res vr v) (hr : RepSts Any W0 (.slice s2 n2 c2) l) (hc : W0.heap[CP]? = some (.cells #[.pointer (some ⟨cb, 0, none⟩)] 90 (0, 0))) (hs : W0.heap[SP]? = some (.cells #[.int .i64 op, .string text, .slice s1 n1 c1, .slice s2 n2 c2, .slice s3 n3 c3, .int .i64 pos] 62 (0, 0))) (hv : W0.heap[VP]? = some (.cells #[.map (some vr)] 121 (0, 0))) : FnTells W0 (.func (.func 113) #[] #[.pointer (some ⟨CP, 0, none⟩), .pointer (some ⟨SP, 0, none⟩), .pointer (some ⟨VP, 0, none⟩)]) (be F res l v) := by
 refine ⟨_, _, rfl, enters_of Tryz.func113 (by kernel_rfl) rfl, fun W hW => ?_⟩
 have HC := zh ((hW.block _ (ad hc)).trans hc)
 have hl0 := ad HC.out
 have HS := zh ((hW.block _ (ad hs)).trans hs)
 have hl1 := ad HS.out
 have HV := zh ((hW.block _ (ad hv)).trans hv)
 have hl2 := ad HV.out
 have p0 : W.cell? ⟨CP, 0, none⟩ = some (.pointer (some ⟨cb, 0, none⟩)) := aa HC.out (j := 0) rfl
 have p1 : W.cell? ⟨SP, 3, none⟩ = some (.slice s2 n2 c2) := aa HS.out (j := 3) rfl
 have p2 : W.cell? ⟨VP, 0, none⟩ = some (.map (some vr)) := aa HV.out (j := 0) rfl
 have HB : Hid (Below W.heap.size W (W.alloc (.cells #[.int .i64 0, .int .i64 0] 96))) := zh (ae (Below.refl _ _) _)
 have HZ : Hid ((W.alloc (.cells #[.int .i64 0, .int .i64 0] 96)).heap[W.heap.size]? = some (.cells #[.int .i64 0, .int .i64 0] 96 (0, 0))) := zh (ah _ _ _ rfl)
 have hW2 := hW.trans (HB.out.mono hW.size)
 have HN := zh (hU cb F res l hl v vr _ _ (hx.below hW2) (hr.keep (Stays.of_below hW2)))
 generalize be F res l v = q at *
 obtain ⟨fe, fa⟩ := q
 go_enter Tryz.func113, Tryz.ntmps113
 go_wp2_with fail
 refine HN.out.mono ?_
 rintro e w2 ⟨rfl, hb2⟩
 have HZ2 := zh ((hb2.block _ (ad HZ.out)).trans HZ.out)
 have HB2 := zh (ak HB.out hb2)
 clear hb2
 unfold bz
 dsimp only
 obtain ⟨r0, r1, -⟩ := css HZ2.out
 obtain ⟨k0, k1, -⟩ := fzs HZ2.out
 go_wp2_with fail
 refine bodyPost_ret (v := .agg #[.int .i64 fe, .int .i64 fa]) (by simp [results, Tryz.results113, go_sem, r0, r1]) rfl ⟨rfl, ?_⟩
 exact (HB2.out.setCell (p := ⟨W.heap.size, 0, none⟩) (Nat.le_refl _) _).setCell (p := ⟨W.heap.size, 1, none⟩) (Nat.le_refl _) _
theorem sj {W0 : World} {cb : Nat} {F : aQ} {res : Int} {v : aV} {vr CP SP VP : Nat} {op pos : Int} {text : ByteArray} {s1 s2 s3 : Option Addr} {n1 c1 n2 c2 n3 c3 : Nat} {l : List St} (hl : ∀ x, x ∈ l → kL cb F res x) (hx : CtxAt W0 cb F res vr v) (hr : RepSts Any W0 (.slice s3 n3 c3) l) (hc : W0.heap[CP]? = some (.cells #[.pointer (some ⟨cb, 0, none⟩)] 90 (0, 0))) (hs : W0.heap[SP]? = some (.cells #[.int .i64 op, .string text, .slice s1 n1 c1, .slice s2 n2 c2, .slice s3 n3 c3, .int .i64 pos] 62 (0, 0))) (hv : W0.heap[VP]? = some (.cells #[.map (some vr)] 121 (0, 0))) : FnTells W0 (.func (.func 114) #[] #[.pointer (some ⟨CP, 0, none⟩), .pointer (some ⟨SP, 0, none⟩), .pointer (some ⟨VP, 0, none⟩)]) (be F res l v) := by
 refine ⟨_, _, rfl, enters_of Tryz.func114 (by kernel_rfl) rfl, fun W hW => ?_⟩
 have HC := zh ((hW.block _ (ad hc)).trans hc)
 have hl0 := ad HC.out
 have HS := zh ((hW.block _ (ad hs)).trans hs)
 have hl1 := ad HS.out
 have HV := zh ((hW.block _ (ad hv)).trans hv)
 have hl2 := ad HV.out
 have p0 : W.cell? ⟨CP, 0, none⟩ = some (.pointer (some ⟨cb, 0, none⟩)) := aa HC.out (j := 0) rfl
 have p1 : W.cell? ⟨SP, 4, none⟩ = some (.slice s3 n3 c3) := aa HS.out (j := 4) rfl
 have p2 : W.cell? ⟨VP, 0, none⟩ = some (.map (some vr)) := aa HV.out (j := 0) rfl
 have HB : Hid (Below W.heap.size W (W.alloc (.cells #[.int .i64 0, .int .i64 0] 96))) := zh (ae (Below.refl _ _) _)
 have HZ : Hid ((W.alloc (.cells #[.int .i64 0, .int .i64 0] 96)).heap[W.heap.size]? = some (.cells #[.int .i64 0, .int .i64 0] 96 (0, 0))) := zh (ah _ _ _ rfl)
 have hW2 := hW.trans (HB.out.mono hW.size)
 have HN := zh (hU cb F res l hl v vr _ _ (hx.below hW2) (hr.keep (Stays.of_below hW2)))
 generalize be F res l v = q at *
 obtain ⟨fe, fa⟩ := q
 go_enter Tryz.func114, Tryz.ntmps114
 go_wp2_with fail
 refine HN.out.mono ?_
 rintro e w2 ⟨rfl, hb2⟩
 have HZ2 := zh ((hb2.block _ (ad HZ.out)).trans HZ.out)
 have HB2 := zh (ak HB.out hb2)
 clear hb2
 unfold bz
 dsimp only
 obtain ⟨r0, r1, -⟩ := css HZ2.out
 obtain ⟨k0, k1, -⟩ := fzs HZ2.out
 go_wp2_with fail
 refine bodyPost_ret (v := .agg #[.int .i64 fe, .int .i64 fa]) (by simp [results, Tryz.results114, go_sem, r0, r1]) rfl ⟨rfl, ?_⟩
 exact (HB2.out.setCell (p := ⟨W.heap.size, 0, none⟩) (Nat.le_refl _) _).setCell (p := ⟨W.heap.size, 1, none⟩) (Nat.le_refl _) _
theorem re {W0 : World} {cb : Nat} {F : aQ} {res : Int} {v : aV} {vr CP SP VP : Nat} {op pos : Int} {text : ByteArray} {s1 s2 s3 : Option Addr} {n1 c1 n2 c2 n3 c3 : Nat} {l : List Ex} (hl : ∀ x, x ∈ l → gG cb F res x) (hlen : l.length ≤ 2) (hx : CtxAt W0 cb F res vr v) (hr : RepExs Any W0 (.slice s1 n1 c1) l) (hc : W0.heap[CP]? = some (.cells #[.pointer (some ⟨cb, 0, none⟩)] 90 (0, 0))) (hs : W0.heap[SP]? = some (.cells #[.int .i64 op, .string text, .slice s1 n1 c1, .slice s2 n2 c2, .slice s3 n3 c3, .int .i64 pos] 62 (0, 0))) (hv : W0.heap[VP]? = some (.cells #[.map (some vr)] 121 (0, 0))) : FnTells W0 (.func (.func 115) #[] #[.pointer (some ⟨CP, 0, none⟩), .pointer (some ⟨SP, 0, none⟩), .pointer (some ⟨VP, 0, none⟩)]) (bV F v l [1, 1]) := by
 refine ⟨_, _, rfl, enters_of Tryz.func115 (by kernel_rfl) rfl, fun W hW => ?_⟩
 have HC := zh ((hW.block _ (ad hc)).trans hc)
 have hl0 := ad HC.out
 have HS := zh ((hW.block _ (ad hs)).trans hs)
 have hl1 := ad HS.out
 have HV := zh ((hW.block _ (ad hv)).trans hv)
 have hl2 := ad HV.out
 have p0 : W.cell? ⟨CP, 0, none⟩ = some (.pointer (some ⟨cb, 0, none⟩)) := aa HC.out (j := 0) rfl
 have p1 : W.cell? ⟨SP, 2, none⟩ = some (.slice s1 n1 c1) := aa HS.out (j := 2) rfl
 have p2 : W.cell? ⟨VP, 0, none⟩ = some (.map (some vr)) := aa HV.out (j := 0) rfl
 have HB : Hid (Below W.heap.size W ((W.alloc (.cells #[.int .i64 0, .int .i64 0] 96)).alloc (.cells #[.int .i64 1, .int .i64 1] 32))) := zh (ae (ae (Below.refl _ _) _) _)
 have HZ : Hid (((W.alloc (.cells #[.int .i64 0, .int .i64 0] 96)).alloc (.cells #[.int .i64 1, .int .i64 1] 32)).heap[W.heap.size]? = some (.cells #[.int .i64 0, .int .i64 0] 96 (0, 0))) := zh (au _ _ _ _ (ah _ _ _ rfl))
 have hW2 := hW.trans (HB.out.mono hW.size)
 have HTY : Hid (TysAt ((W.alloc (.cells #[.int .i64 0, .int .i64 0] 96)).alloc (.cells #[.int .i64 1, .int .i64 1] 32)) (.slice (some ⟨(W.alloc (.cells #[.int .i64 0, .int .i64 0] 96)).heap.size, 0, none⟩) 2 2) [1, 1]) := zh ⟨_, 2, rfl, by show (2:Nat) ≤ 1000000; decide, fun _ => ⟨_, 0, rfl, by rw [ag (W.alloc (.cells #[.int .i64 0, .int .i64 0] 96))]; exact Nat.lt_succ_self _, fun i hi => by
     rw [Nat.zero_add]
     have hi2 : i < 2 := hi
     rcases (show i = 0 ∨ i = 1 by omega) with rfl | rfl
     · exact aw _ _ _ _ _ _ rfl rfl
     · exact aw _ _ _ _ _ _ rfl rfl⟩⟩
 have HN := zh (fh cb F res l hl v vr _ (.slice s1 n1 c1) _ [1, 1] (hx.below hW2) (hr.keep (Stays.of_below hW2)) HTY.out hlen)
 generalize bV F v l [1, 1] = q at *
 obtain ⟨fe, fa⟩ := q
 rw [ag] at HN
 go_enter Tryz.func115, Tryz.ntmps115
 go_wp2_with fail
 refine HN.out.mono ?_
 rintro e w2 ⟨rfl, hb2⟩
 have HZ2 := zh ((hb2.block _ (ad HZ.out)).trans HZ.out)
 have HB2 := zh (ak HB.out hb2)
 clear hb2
 unfold bz
 dsimp only
 obtain ⟨r0, r1, -⟩ := css HZ2.out
 obtain ⟨k0, k1, -⟩ := fzs HZ2.out
 go_wp2_with fail
 refine bodyPost_ret (v := .agg #[.int .i64 fe, .int .i64 fa]) (by simp [results, Tryz.results115, go_sem, r0, r1]) rfl ⟨rfl, ?_⟩
 exact (HB2.out.setCell (p := ⟨W.heap.size, 0, none⟩) (Nat.le_refl _) _).setCell (p := ⟨W.heap.size, 1, none⟩) (Nat.le_refl _) _
end
end Go.Proofs.YtjblihabklemfaaGreatDoor
