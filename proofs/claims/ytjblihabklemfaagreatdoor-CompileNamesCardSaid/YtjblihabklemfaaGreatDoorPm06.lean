/-
  Compile: part 6 of its proof: see the last text.
-/
import Derived.Test.YtjblihabklemfaaGreatDoorPm05
set_option maxRecDepth 100000
set_option maxHeartbeats 16000000
namespace Go.Proofs.YtjblihabklemfaaGreatDoor
section
section
open Go.RowKit
theorem pZ (rb : Nat) (d : Int) (hd : d ≤ 32) (en : Int) (P : Par Ex) (HE : bP rb en 126 #[.pointer (some ⟨rb, 0, none⟩), .int .i64 0, .int .i64 d] P) : bP rb en 101 #[.pointer (some ⟨rb, 0, none⟩), .int .i64 d] P := by
 intro l w h
 have HEE := zh HE
 have HLT := zh h.lt
 have HB0 : Below w.heap.size w (w.alloc (.cells #[.int .i64 0, .int .i64 0, .string ⟨#[]⟩, .slice none 0 0, .int .i64 0] 65)) := ae (Below.refl _ _) _
 have HH := zh (h.on HB0)
 have HO0 := zh (On.of_below HB0 : On rb w _)
 clear HE h HB0
 go_enter Tryz.func101, Tryz.ntmps101
 go_wp2_with fail
 refine (ku rb d _ hd).mono ?_
 rintro e w1 ⟨rfl, rfl⟩
 go_wp2_with fail
 refine (HEE.out l _ HH.out).mono ?_
 rintro e w2 hp
 rcases hp.cases with ⟨er, p, hm, rfl, ho⟩ | ⟨x, r, v, hm, rfl, hv, hr, ho⟩
 ·have HF := zh hm
  have HO1 := zh (HO0.out.trans ho)
  clear hp hm ho
  unfold Pan
  go_wp2_with fail
  exact ⟨rfl, PSays.err HF.out HO1.out⟩
 ·have HF := zh hm
  have HO1 := zh (HO0.out.trans ho)
  have HR1 := zh hr
  have hc3 := ho.obj (k' := w.heap.size) (o := .cells #[.int .i64 0, .int .i64 0, .string ⟨#[]⟩, .slice none 0 0, .int .i64 0] 65) (by have := HLT.out; omega) (ah _ _ _ rfl)
  have hsz : w.heap.size + 1 = (w.alloc (.cells #[.int .i64 0, .int .i64 0, .string ⟨#[]⟩, .slice none 0 0, .int .i64 0] 65)).heap.size := (ag _ _).symm
  rw [← hsz] at hv
  obtain ⟨op, num, text, s0, n, cap, pos, rfl, hrep⟩ := hv
  have HREP := zh hrep
  have f0 := ab hc3 0
  have f1 := ab hc3 1
  have f2 := ab hc3 2
  have f3 := ab hc3 3
  have f4 := ab hc3 4
  have c0 := aa hc3 (j := 0) rfl
  have c1 := aa hc3 (j := 1) rfl
  have c2 := aa hc3 (j := 2) rfl
  have c3 := aa hc3 (j := 3) rfl
  have c4 := aa hc3 (j := 4) rfl
  clear hp hm ho hr hrep hc3
  go_wp2_with fail
  have HON : On w.heap.size w2 (set5 w2 w.heap.size (.int .i64 op) (.int .i64 num) (.string text) (.slice s0 n cap) (.int .i64 pos)) := (On.refl _ _).set5 _ _ _ _ _
  have HR5 := HR1.out.off HON HLT.out
  have HO5 := HO1.out.new HON (Nat.le_refl _)
  have HX5 := HREP.out.keep (Stays.of_on HON (Nat.lt_succ_self _))
  refine bodyPost_ret (v := .agg #[.int .i64 op, .int .i64 num, .string text, .slice s0 n cap, .int .i64 pos]) (by simp [results, Tryz.results101, go_sem, c0, c1, c2, c3, c4]) rfl ?_
  exact PSays.ok HF.out ⟨_, _, _, _, _, _, _, rfl, HX5.down (Nat.le_succ _)⟩ HR5 HO5
theorem qF (rb : Nat) (d : Int) (hd : 32 < d) (en : Int) (P : Par Ex) (hP : ∀ l, P l = .error (42, aM en l)) : bP rb en 101 #[.pointer (some ⟨rb, 0, none⟩), .int .i64 d] P := by
 intro l w h
 have HP := zh (hP l)
 have HB0 : Below w.heap.size w (w.alloc (.cells #[.int .i64 0, .int .i64 0, .string ⟨#[]⟩, .slice none 0 0, .int .i64 0] 65)) := ae (Below.refl _ _) _
 have HH := zh (h.on HB0)
 have HO0 := zh (On.of_below HB0 : On rb w _)
 clear hP h HB0
 go_enter Tryz.func101, Tryz.ntmps101
 go_wp2_with fail
 refine (kB rb l en d _ HH.out hd).mono ?_
 rintro e w1 ⟨rfl, rfl⟩
 unfold Pan
 go_wp2_with fail
 exact ⟨rfl, PSays.err HP.out HO0.out⟩
theorem kU (en : Int) (one : Par Ex) (e : List Tk → Int × Int) (h : ∀ l, one l = .error (e l)) (j : Nat) (l : List Tk) : cF en one j l = .error (e l) := by
 induction j generalizing l with
 | zero => exact h l
 | succ j ih =>
  show Par.bind (cF en one j) _ l = _
  unfold Par.bind
  rw [ih]
end
section
open Go.RowKit
def bf (n : Nat) : Array Value := ((bD n).map Value.string).toArray
theorem ox (n : Nat) (hn : n ≤ 4) (w : World) : Calls Tryz.prog 133 #[.int .i64 n] w fun e w' => e = .returned (.slice (some ⟨w.heap.size, 0, none⟩) (bD n).length (bD n).length) ∧ w' = w.alloc (.cells (bf n) 9) := by
 rcases (show n = 0 ∨ n = 1 ∨ n = 2 ∨ n = 3 ∨ n = 4 by omega) with rfl | rfl | rfl | rfl | rfl
 all_goals
  go_enter Tryz.func133, Tryz.ntmps133
  go_wp2_with fail
  go_ret
  exact ⟨rfl, rfl⟩
def ee (l : List Tk) : List ByteArray → Nat → Int
 | [], _ => -1
 | s :: r, i => if atS l 0 s then (i : Int) else ee l r (i + 1)
theorem qJ (rb bb : Nat) (s : ByteArray) (l : List Tk) (en : Int) (w : World) (h : RdAt w rb l en) (hb : w.cell? ⟨bb, 0, none⟩ = some (.pointer (some ⟨rb, 0, none⟩))) :
    Calls Tryz.prog 134 #[.string s, .pointer (some ⟨bb, 0, none⟩)] w fun e w' => e = .returned (.bool (atS l 0 s)) ∧ w = w' := by
 have HA := zh (dS rb 0 s l en w h)
 clear h
 generalize atS l 0 s = q at *
 go_enter Tryz.func134, Tryz.ntmps134
 go_wp2_with fail
 refine HA.out.mono ?_
 rintro e w1 ⟨rfl, rfl⟩
 go_wp2_with fail
 go_ret
 exact ⟨rfl, rfl⟩
theorem n7 (rb bb sb : Nat) (sl : List ByteArray) (hl : sl.length ≤ 6) (l : List Tk) (en : Int) (w : World) (h : RdAt w rb l en) (hb : w.cell? ⟨bb, 0, none⟩ = some (.pointer (some ⟨rb, 0, none⟩))) (hs : ∀ i, (hi : i < sl.length) → w.cell? ⟨sb, i, none⟩ = some (.string sl[i])) :
    Calls Tryz.prog 132 #[.slice (some ⟨sb, 0, none⟩) sl.length sl.length, .func (.func 134) #[] #[.pointer (some ⟨bb, 0, none⟩)]] w fun e w' => e = .returned (.int .i64 (ee l sl 0)) ∧ w = w' := by
 have HS := zh hs
 have HA := zh (fun s => qJ rb bb s l en w h hb)
 have hcf : ∀ args W, Sem.run Tryz.prog (callFunc 134 args) W = .ok (.enter 134 args) W := fun _ _ => Tryz.call134 _ _
 clear hs h hb
 go_enter Tryz.func132, Tryz.ntmps132
 go_wp2_with fail
 go_loopw [8] (fun s8 wr => ∃ k : Nat, k ≤ sl.length ∧ s8 = .int .i64 k ∧ ee l sl 0 = ee l (sl.drop k) k ∧ w = wr) (fun s8 _ => sl.length - (intOf s8).toNat)
 case atStart => exact ⟨0, Nat.zero_le _, rfl, rfl, rfl⟩
 case round =>
  obtain ⟨k, hk, rfl, hsp, rfl⟩ := hrel
  have HSP := zh hsp
  clear hsp
  by_cases hlt : k < sl.length
  ·have y0 := HS.out k hlt
   have HC := zh (HA.out sl[k])
   have HD : Hid (∀ q, atS l 0 sl[k] = q → ee l sl 0 = if q then (k : Int) else ee l (sl.drop (k + 1)) (k + 1)) := zh (fun q hq => by
     rw [HSP.out, List.drop_eq_getElem_cons hlt]
     show (if atS l 0 sl[k] = true then (k : Int) else _) = _
     rw [hq])
   have HD2 := zh (HD.out _ rfl)
   clear HD
   generalize atS l 0 sl[k] = q at *
   generalize sl[k] = sg at *
   go_wp2_with fail
   refine HC.out.mono ?_
   rintro e w1 ⟨rfl, rfl⟩
   cases q
   ·go_wp2_with fail
    go_roundw
    case rel => exact ⟨k + 1, by omega, by go_num, HD2.out, trivial⟩
    case measure => simp [intOf]; omega
   ·go_wp2_with fail
    go_ret
    exact ⟨cr (by rw [HD2.out]; rfl), rfl⟩
  ·have hke : k = sl.length := by omega
   subst hke
   clear hlt
   go_wp2_with fail
   go_ret
   exact ⟨cr (by rw [HSP.out, List.drop_length]; rfl), rfl⟩
end
section
open Go.RowKit
def fJ (en : Int) (O PR : Par Ex) (l : List Tk) : List ByteArray → Except (Int × Int) (Ex × List Tk)
 | [] => PR l
 | s :: r => if atS l 0 s then (match O l.tail with | .error e => .error e | .ok (x, r) => .ok (.mk 7 0 s [x] (aM en l), r)) else fJ en O PR l r
theorem nI (en : Int) (O PR : Par Ex) (l : List Tk) : fJ en O PR l [eh, jd] = (if atS l 0 eh then (O.bind fun x => okP (.mk 7 0 eh [x] (aM en l))) l.tail else if atS l 0 jd then (O.bind fun x => okP (.mk 7 0 jd [x] (aM en l))) l.tail else PR l) := by
 unfold fJ fJ fJ Par.bind okP
 split
 ·cases O l.tail <;> rfl
 ·split
  ·cases O l.tail <;> rfl
  ·rfl
theorem i4 {S : Nat → Prop} {b : Nat} {w : World} {op num pos : Int} {text : ByteArray} {s0 : Option Addr} {n cap : Nat} {x : Ex} (h : RepEx S w [.int .i64 op, .int .i64 num, .string text, .slice s0 n cap, .int .i64 pos] x) (hb : S b) (hl : w.heap[b]? = some (.cells #[.int .i64 op, .int .i64 num, .string text, .slice s0 n cap, .int .i64 pos] 65 (0, 0))) :
    RepExs S w (.slice (some ⟨b, 0, none⟩) 1 1) [x] := by
 refine ⟨fun _ => [.int .i64 op, .int .i64 num, .string text, .slice s0 n cap, .int .i64 pos], ⟨some ⟨b, 0, none⟩, 1, rfl, Nat.le_refl _, by unfold maxLen; omega, fun e => (by cases e), fun _ => ⟨b, 0, rfl, hb, ad hl, fun i hi j hj => ?_⟩, fun i _ => rfl⟩, fun i hi => ?_⟩
 ·obtain rfl : i = 0 := by simp at hi; exact hi
  rcases (show j = 0 ∨ j = 1 ∨ j = 2 ∨ j = 3 ∨ j = 4 by omega) with rfl | rfl | rfl | rfl | rfl <;> exact aa hl rfl
 ·obtain rfl : i = 0 := by simp at hi; exact hi
  exact h
theorem pW (rb : Nat) (d : Int) (hd0 : 0 ≤ d) (hd : d ≤ 32) (en : Int) (O PR : Par Ex) (HO : d + 1 ≤ 32 → bP rb en 131 #[.pointer (some ⟨rb, 0, none⟩), .int .i64 (d + 1)] O) (HO2 : 32 < d + 1 → ∀ l, O l = .error (42, aM en l)) (HP : bP rb en 136 #[.pointer (some ⟨rb, 0, none⟩), .int .i64 d] PR) :
    bP rb en 131 #[.pointer (some ⟨rb, 0, none⟩), .int .i64 d] (fun l => fJ en O PR l [eh, jd]) := by
 intro l w h
 have HOO := zh HO
 have HOO2 := zh HO2
 have HPP := zh HP
 have HLT := zh h.lt
 have HB0 : Below w.heap.size w (w.alloc (.cells #[.int .i64 0, .int .i64 0, .string ⟨#[]⟩, .slice none 0 0, .int .i64 0] 65)) := ae (Below.refl _ _) _
 have HH := zh (h.on HB0)
 have HB1 := ae HB0 (.cells #[.string ⟨[45].toArray⟩, .string ⟨[33].toArray⟩] 9)
 have HH1 := zh (h.on HB1)
 have HO0 := zh (On.of_below HB1 : On rb w _)
 have HT := zh (fun (s : ByteArray) (W : World) (hW : RdAt W rb l en) => gl rb s l en W hW)
 have hdi : d + 1 < 100 := by omega
 have HD := zh hd
 have HRES : Hid (∀ v, (fJ en O PR l [eh, jd] = v) → (fun l => fJ en O PR l [eh, jd]) l = v) := zh (fun v h => h)
 clear HO HO2 HP h HB0 HB1 hd
 dsimp only
 generalize hR : fJ en O PR l [eh, jd] = R at *
 have HR := zh hR
 clear hR HRES
 unfold eh jd str at *
 go_enter Tryz.func131, Tryz.ntmps131
 go_wp2_with fail
 refine (dZ rb l en _ HH.out).mono ?_
 rintro e w1 ⟨rfl, rfl⟩
 go_wp2_with fail
 generalize hW0 : ((w.alloc (.cells #[.int .i64 0, .int .i64 0, .string ⟨#[]⟩, .slice none 0 0, .int .i64 0] 65)).alloc (.cells #[.string ⟨[45].toArray⟩, .string ⟨[33].toArray⟩] 9)) = W0 at *
 have HW0 := zh hW0
 have hobj0 : W0.heap[w.heap.size]? = some (.cells #[.int .i64 0, .int .i64 0, .string ⟨#[]⟩, .slice none 0 0, .int .i64 0] 65) := by rw [← hW0]; exact au _ _ _ _ (ah _ _ _ rfl)
 have hsg0 : W0.heap[w.heap.size + 1]? = some (.cells #[.string ⟨[45].toArray⟩, .string ⟨[33].toArray⟩] 9) := by rw [← hW0]; exact ah _ _ _ (ag _ _)
 have HOBJ0 := zh hobj0
 have HSG0 := zh hsg0
 clear hobj0 hsg0 hW0
 generalize hpl : aM en l = pl at *
 have HPL := zh hpl
 clear hpl
 go_loopw [12] (fun s12 wr => ∃ j : Nat, j ≤ 2 ∧ s12 = .int .i64 j ∧ R = fJ en O PR l (([⟨[45].toArray⟩, ⟨[33].toArray⟩] : List ByteArray).drop j) ∧ RdAt wr rb l en ∧ On rb W0 wr) (fun s12 _ => 2 - (intOf s12).toNat)
 case atStart => exact ⟨0, by omega, rfl, HR.out.symm, HH1.out, On.refl _ _⟩
 case round =>
  obtain ⟨j, hj, rfl, hRj, hrd, hon⟩ := hrel
  have HRJ := zh hRj
  have HRD := zh hrd
  have HON := zh hon
  have HLB := zh (show w.heap.size ≠ rb ∧ w.heap.size + 1 ≠ rb from by have := HLT.out; omega)
  have HOBJ := zh (hon.obj HLB.out.1 HOBJ0.out)
  clear hRj hrd
  by_cases hj2 : j = 2
  ·subst hj2
   clear hon
   go_wp2_with fail
   refine (HPP.out l _ HRD.out).mono ?_
   rintro e w2 hp
   rcases hp.cases with ⟨er, p, hm, rfl, ho⟩ | ⟨x, r, v, hm, rfl, hv, hr, ho⟩
   ·have HF := zh (show R = .error (er, p) from HRJ.out.trans hm)
    have HO1 := zh (HO0.out.trans (HON.out.trans ho))
    clear hp hm ho
    unfold Pan
    go_wp2_with fail
    exact ⟨rfl, PSays.err HF.out HO1.out⟩
   ·have HF := zh (show R = .ok (x, r) from HRJ.out.trans hm)
    have HO1 := zh (HO0.out.trans (HON.out.trans ho))
    have HR1 := zh hr
    have hlt1 := ad HOBJ.out
    have hc3 := ho.obj (k' := w.heap.size) HLB.out.1 HOBJ.out
    obtain ⟨op, num, text, s0, n, cap, pos, rfl, hrep⟩ := hv
    have HREP := zh hrep
    have f0 := ab hc3 0
    have f1 := ab hc3 1
    have f2 := ab hc3 2
    have f3 := ab hc3 3
    have f4 := ab hc3 4
    have c0 := aa hc3 (j := 0) rfl
    have c1 := aa hc3 (j := 1) rfl
    have c2 := aa hc3 (j := 2) rfl
    have c3 := aa hc3 (j := 3) rfl
    have c4 := aa hc3 (j := 4) rfl
    clear hp hm ho hr hrep hc3
    go_wp2_with fail
    have HSET : On w.heap.size w2 (set5 w2 w.heap.size (.int .i64 op) (.int .i64 num) (.string text) (.slice s0 n cap) (.int .i64 pos)) := (On.refl _ _).set5 _ _ _ _ _
    have HR5 := HR1.out.off HSET HLT.out
    have HO5 := HO1.out.new HSET (Nat.le_refl _)
    have HX5 := HREP.out.keep (Stays.of_on HSET hlt1)
    refine bodyPost_ret (v := .agg #[.int .i64 op, .int .i64 num, .string text, .slice s0 n cap, .int .i64 pos]) (by simp [results, Tryz.results131, go_sem, c0, c1, c2, c3, c4]) rfl ?_
    exact PSays.ok HF.out ⟨_, _, _, _, _, _, _, rfl, HX5.down (Nat.le_of_lt hlt1)⟩ HR5 HO5
  ·obtain ⟨sg, y0, hdrop⟩ : ∃ sg, wr.cell? ⟨w.heap.size + 1, j, none⟩ = some (.string sg) ∧ (([⟨[45].toArray⟩, ⟨[33].toArray⟩] : List ByteArray).drop j) = sg :: (([⟨[45].toArray⟩, ⟨[33].toArray⟩] : List ByteArray).drop (j + 1)) := by
     rcases (show j = 0 ∨ j = 1 by omega) with rfl | rfl
     ·exact ⟨_, aa (hon.obj HLB.out.2 HSG0.out) rfl, rfl⟩
     ·exact ⟨_, aa (hon.obj HLB.out.2 HSG0.out) rfl, rfl⟩
   have hlt : j < 2 := by omega
   have HRQ : Hid (∀ q, atS l 0 sg = q → R = if q then (match O l.tail with | .error e => .error e | .ok (x, r) => .ok (.mk 7 0 sg [x] (aM en l), r)) else fJ en O PR l (([⟨[45].toArray⟩, ⟨[33].toArray⟩] : List ByteArray).drop (j + 1))) := zh (fun q hq => by
     rw [HRJ.out, hdrop, ← hq]
     rfl)
   clear hdrop hon hj2 hj
   have HTK := zh (HT.out sg wr HRD.out)
   cases hq : atS l 0 sg
   ·rw [hq] at HTK
    have HRN := zh (HRQ.out _ hq)
    clear hq
    go_wp2_with fail
    refine HTK.out.mono ?_
    rintro e w2 ⟨rfl, hr2, ho2⟩
    have HR2 := zh hr2
    have HO2 := zh (HON.out.trans ho2)
    clear hr2 ho2
    go_wp2_with fail
    go_roundw
    case rel => exact ⟨j + 1, by omega, by go_num, by simpa using HRN.out, HR2.out, HO2.out⟩
    case measure => simp [intOf]; omega
   ·rw [hq] at HTK
    have HRN := zh (HRQ.out _ hq)
    clear hq
    go_wp2_with fail
    refine HTK.out.mono ?_
    rintro e w2 ⟨rfl, hr2, ho2⟩
    have HR2 := zh hr2
    have HO2 := zh (HO0.out.trans (HON.out.trans ho2))
    have HOBJ2 := zh (ho2.obj HLB.out.1 HOBJ.out)
    clear hr2 ho2 y0
    by_cases hdd : d + 1 ≤ 32
    ·go_wp2_with fail
     refine (ku rb _ _ hdd).mono ?_
     rintro e w3 ⟨rfl, rfl⟩
     go_wp2_with fail
     refine (HOO.out hdd l.tail _ HR2.out).mono ?_
     rintro e w3 hp
     rcases hp.cases with ⟨er, p, hm, rfl, ho⟩ | ⟨x, r, v, hm, rfl, hv, hr, ho⟩
     ·have HF := zh (show R = .error (er, p) from by rw [HRN.out, hm]; rfl)
      have HO3 := zh (HO2.out.trans ho)
      clear hp hm ho
      unfold Pan
      go_wp2_with fail
      exact ⟨rfl, PSays.err HF.out HO3.out⟩
     ·have HF := zh (show R = .ok (.mk 7 0 sg [x] pl, r) from by rw [HRN.out, hm, HPL.out]; rfl)
      have HO3 := zh (HO2.out.trans ho)
      have HR3 := zh hr
      have hlt1 := ad HOBJ2.out
      have hsz3 := ho.size
      obtain ⟨op, num, text, s0, n, cap, pos, rfl, hrep⟩ := hv
      have HREP := zh hrep
      have hb4 : Below w3.heap.size w3 (w3.alloc (.cells #[.int .i64 op, .int .i64 num, .string text, .slice s0 n cap, .int .i64 pos] 65)) := ae (Below.refl _ _) _
      have HB4 := zh hb4
      have hc3 := (On.of_below hb4 : On rb w3 _).obj HLB.out.1 (ho.obj (k' := w.heap.size) HLB.out.1 HOBJ2.out)
      have f0 := ab hc3 0
      have f1 := ab hc3 1
      have f2 := ab hc3 2
      have f3 := ab hc3 3
      have f4 := ab hc3 4
      have c0 := aa hc3 (j := 0) rfl
      have c1 := aa hc3 (j := 1) rfl
      have c2 := aa hc3 (j := 2) rfl
      have c3 := aa hc3 (j := 3) rfl
      have c4 := aa hc3 (j := 4) rfl
      clear hp hm ho hr hrep hc3 hb4
      go_wp2_with fail
      have HSET : On w.heap.size (w3.alloc (.cells #[.int .i64 op, .int .i64 num, .string text, .slice s0 n cap, .int .i64 pos] 65)) (set5 (w3.alloc (.cells #[.int .i64 op, .int .i64 num, .string text, .slice s0 n cap, .int .i64 pos] 65)) w.heap.size (.int .i64 7) (.int .i64 0) (.string sg) (.slice (some ⟨w3.heap.size, 0, none⟩) 1 1) (.int .i64 pl)) := (On.refl _ _).set5 _ _ _ _ _
      have HR5 := (HR3.out.on HB4.out).off HSET HLT.out
      have HO5 := (HO3.out.trans (On.of_below HB4.out)).new HSET (Nat.le_refl _)
      have HX5 := HREP.out.keep ((Stays.of_below HB4.out).trans (Stays.of_on HSET hlt1))
      have HX6 := RepEx.of (op := 7) (num := 0) (pos := pl) (text := sg) (i4 HX5 hsz3 (HSET.obj (by omega) (ah _ _ _ rfl)))
      refine bodyPost_ret (v := .agg #[.int .i64 7, .int .i64 0, .string sg, .slice (some ⟨w3.heap.size, 0, none⟩) 1 1, .int .i64 pl]) (by simp [results, Tryz.results131, go_sem, c0, c1, c2, c3, c4]) rfl ?_
      exact PSays.ok HF.out ⟨_, _, _, _, _, _, _, rfl, HX6.down (Nat.le_of_lt hlt1)⟩ HR5 HO5
    ·have hdd' : 32 < d + 1 := by omega
     go_wp2_with fail
     refine (kB rb l.tail en _ _ HR2.out hdd').mono ?_
     rintro e w3 ⟨rfl, rfl⟩
     have HF := zh (show R = .error (42, aM en l.tail) from by rw [HRN.out, HOO2.out hdd' l.tail]; rfl)
     unfold Pan
     go_wp2_with fail
     exact ⟨rfl, PSays.err HF.out HO2.out⟩
end
section
open Go.RowKit
theorem mM (rb : Nat) (d en : Int) (P : Par Ex) (HE : bP rb en 131 #[.pointer (some ⟨rb, 0, none⟩), .int .i64 d] P) : bP rb en 126 #[.pointer (some ⟨rb, 0, none⟩), .int .i64 5, .int .i64 d] P := by
 intro l w h
 have HEE := zh HE
 have HLT := zh h.lt
 have HB0 : Below w.heap.size w ((w.alloc (.cells #[.pointer (some ⟨rb, 0, none⟩)] 86)).alloc (.cells #[.int .i64 0, .int .i64 0, .string ⟨#[]⟩, .slice none 0 0, .int .i64 0] 65)) := ae (ae (Below.refl _ _) _) _
 have HH := zh (h.on HB0)
 have HO0 := zh (On.of_below HB0 : On rb w _)
 clear HE h HB0
 go_enter Tryz.func126, Tryz.ntmps126
 go_wp2_with fail
 refine (HEE.out l _ HH.out).mono ?_
 rintro e w2 hp
 rcases hp.cases with ⟨er, p, hm, rfl, ho⟩ | ⟨x, r, v, hm, rfl, hv, hr, ho⟩
 ·have HF := zh hm
  have HO1 := zh (HO0.out.trans ho)
  clear hp hm ho
  unfold Pan
  go_wp2_with fail
  exact ⟨rfl, PSays.err HF.out HO1.out⟩
 ·have HF := zh hm
  have HO1 := zh (HO0.out.trans ho)
  have HR1 := zh hr
  have hc3 := ho.obj (k' := w.heap.size + 1) (o := .cells #[.int .i64 0, .int .i64 0, .string ⟨#[]⟩, .slice none 0 0, .int .i64 0] 65) (by have := HLT.out; omega) (ah _ _ _ (ag _ _))
  have hsz : w.heap.size + 1 + 1 = ((w.alloc (.cells #[.pointer (some ⟨rb, 0, none⟩)] 86)).alloc (.cells #[.int .i64 0, .int .i64 0, .string ⟨#[]⟩, .slice none 0 0, .int .i64 0] 65)).heap.size := by rw [ag, ag]
  rw [← hsz] at hv
  obtain ⟨op, num, text, s0, n, cap, pos, rfl, hrep⟩ := hv
  have HREP := zh hrep
  have f0 := ab hc3 0
  have f1 := ab hc3 1
  have f2 := ab hc3 2
  have f3 := ab hc3 3
  have f4 := ab hc3 4
  have c0 := aa hc3 (j := 0) rfl
  have c1 := aa hc3 (j := 1) rfl
  have c2 := aa hc3 (j := 2) rfl
  have c3 := aa hc3 (j := 3) rfl
  have c4 := aa hc3 (j := 4) rfl
  clear hp hm ho hr hrep hc3 hsz
  go_wp2_with fail
  have HON : On (w.heap.size + 1) w2 (set5 w2 (w.heap.size + 1) (.int .i64 op) (.int .i64 num) (.string text) (.slice s0 n cap) (.int .i64 pos)) := (On.refl _ _).set5 _ _ _ _ _
  have HR5 := HR1.out.off HON (Nat.lt_succ_of_lt HLT.out)
  have HO5 := HO1.out.new HON (Nat.le_succ _)
  have HX5 := HREP.out.keep (Stays.of_on HON (Nat.lt_succ_self _))
  refine bodyPost_ret (v := .agg #[.int .i64 op, .int .i64 num, .string text, .slice s0 n cap, .int .i64 pos]) (by simp [results, Tryz.results126, go_sem, c0, c1, c2, c3, c4]) rfl ?_
  exact PSays.ok HF.out ⟨_, _, _, _, _, _, _, rfl, HX5.down (by omega)⟩ HR5 HO5
end
section
open Go.RowKit
theorem ai {w : World} {k : Nat} {arr : Array Value} {t : TypeId} {fz : Nat × Nat} (h : w.heap[k]? = some (.cells arr t fz)) (j : Nat) (v : Value) : (w.setCell ⟨k, j, none⟩ v).heap[k]? = some (.cells (arr.setIfInBounds j v) t fz) := by
 show (w.heap.modify k _)[k]? = _
 rw [Array.getElem?_modify, if_pos rfl, h]
 rfl
theorem jk {w : World} {k : Nat} {a b c d e a' b' c' d' e' : Value} {t : TypeId} (h : w.heap[k]? = some (.cells #[a, b, c, d, e] t (0, 0))) : (set5 w k a' b' c' d' e').heap[k]? = some (.cells #[a', b', c', d', e'] t (0, 0)) :=
 ai (ai (ai (ai (ai h 0 a') 1 b') 2 c') 3 d') 4 e'
theorem rS (w : World) (k : Nat) (a b c d e : Value) : (set5 w k a b c d e).heap.size = w.heap.size := by simp [set5, World.setCell]
theorem kG {S : Nat → Prop} {b : Nat} {w : World} {op num pos op2 num2 pos2 : Int} {text text2 : ByteArray} {s0 s2 : Option Addr} {n cap n2 cap2 : Nat} {x y : Ex} (h : RepEx S w [.int .i64 op, .int .i64 num, .string text, .slice s0 n cap, .int .i64 pos] x)
    (h2 : RepEx S w [.int .i64 op2, .int .i64 num2, .string text2, .slice s2 n2 cap2, .int .i64 pos2] y) (hb : S b) (hl : w.heap[b]? = some (.cells #[.int .i64 op, .int .i64 num, .string text, .slice s0 n cap, .int .i64 pos, .int .i64 op2, .int .i64 num2, .string text2, .slice s2 n2 cap2, .int .i64 pos2] 65 (0, 0))) :
    RepExs S w (.slice (some ⟨b, 0, none⟩) 2 2) [x, y] := by
 refine ⟨fun i => if i = 0 then [.int .i64 op, .int .i64 num, .string text, .slice s0 n cap, .int .i64 pos] else [.int .i64 op2, .int .i64 num2, .string text2, .slice s2 n2 cap2, .int .i64 pos2], ⟨some ⟨b, 0, none⟩, 2, rfl, Nat.le_refl _, by unfold maxLen; omega, fun e => (by cases e), fun _ => ⟨b, 0, rfl, hb, ad hl, fun i hi j hj => ?_⟩, fun i _ => ?_⟩, fun i hi => ?_⟩
 ·have hi2 : i < 2 := hi
  rcases (show i = 0 ∨ i = 1 by omega) with rfl | rfl <;> rcases (show j = 0 ∨ j = 1 ∨ j = 2 ∨ j = 3 ∨ j = 4 by omega) with rfl | rfl | rfl | rfl | rfl <;> exact aa hl rfl
 ·dsimp only
  split <;> rfl
 ·have hi2 : i < 2 := hi
  rcases (show i = 0 ∨ i = 1 by omega) with rfl | rfl
  ·exact h
  ·exact h2
end
end
end Go.Proofs.YtjblihabklemfaaGreatDoor
