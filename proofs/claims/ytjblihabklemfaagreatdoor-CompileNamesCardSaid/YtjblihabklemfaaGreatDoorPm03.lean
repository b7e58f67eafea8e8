/-
  Compile: part 3 of its proof: see the last text.
-/
import Derived.Test.YtjblihabklemfaaGreatDoorPm02
set_option maxRecDepth 100000
set_option maxHeartbeats 16000000
namespace Go.Proofs.YtjblihabklemfaaGreatDoor
section
open Go.RowKit
theorem dC {a b : World} (h : Below a.heap.size a b) {k j : Nat} (hk : a.heap.size ≤ k) (u : Value) : Below a.heap.size a (b.setCell ⟨k, j, none⟩ u) := rG h (p := ⟨k, j, none⟩) hk u
def tkV (k : Int) (t : ByteArray) (n p : Int) : Value := .agg #[.int .i64 k, .string t, .int .i64 n, .int .i64 p]
def o4 (w : World) (r : Except Int (Tk × Nat)) (e : Ending) (w' : World) : Prop :=
 (match r with
  | .error er => ∃ k t n p, e = .returned (.tuple #[tkV k t n p, .int .i64 0, .int .i64 er])
  | .ok (t, q) => e = .returned (.tuple #[tkV t.kind t.text t.num t.pos, .int .i64 (q : Int), .int .i64 0])) ∧ Below w.heap.size w w'
theorem il (lo hi : Int) (w : World) : Calls Tryz.prog 74 #[.int .u8 lo, .int .u8 hi] w fun e w' => e = .returned (.func (.func 96) #[] #[.pointer (some ⟨w.heap.size, 0, none⟩), .pointer (some ⟨w.heap.size + 1, 0, none⟩)]) ∧ Below w.heap.size w w' ∧
    w'.cell? ⟨w.heap.size, 0, none⟩ = some (.int .u8 lo) ∧ w'.cell? ⟨w.heap.size + 1, 0, none⟩ = some (.int .u8 hi) ∧ w'.heap.size = w.heap.size + 2 := by
 go_enter Tryz.func74, Tryz.ntmps74
 go_wp2_with fail
 go_ret
 exact ⟨rfl, ae (ae (Below.refl _ _) _) _, aj _ (aw _ _ _ _ _ _ rfl rfl), aw _ _ _ _ _ _ (ag _ _) rfl, by rw [ag, ag]⟩
theorem IsKind.two {w : World} {f : FuncId} {x y : Value} {p : UInt8 → Bool} (h : IsKind w f #[x, y] p) (c : UInt8) (W : World) (hW : Below w.heap.size w W) : Calls Tryz.prog f #[.int .u8 (c.toNat : Int), x, y] W fun e W' => e = .returned (.bool (p c)) ∧ Below W.heap.size W W' := h c W hW
theorem IsKind.cast {w : World} {f : FuncId} {caps : Array Value} {p q : UInt8 → Bool} (h : IsKind w f caps p) (hpq : p = q) : IsKind w f caps q := hpq ▸ h
theorem oV (s0 : Option Addr) (n cap : Nat) (w : World) : Calls Tryz.prog 75 #[.slice s0 n cap] w fun e w' => e = .returned (.func (.func 97) #[] #[.pointer (some ⟨w.heap.size, 0, none⟩)]) ∧ Below w.heap.size w w' ∧ w'.cell? ⟨w.heap.size, 0, none⟩ = some (.slice s0 n cap) :=
 (mC s0 n cap w).mono fun e w' ⟨h1, h2⟩ => ⟨h1, by rw [h2]; exact ae (Below.refl _ _) _, by rw [h2]; exact aw _ _ _ _ _ _ rfl rfl⟩
theorem fn3 {w : World} {b : Nat} {k0 k1 k2 : Array Value} {q0 q1 q2 : UInt8 → Bool} (h0 : w.cell? ⟨b, 0, none⟩ = some (.func (.func 96) #[] k0)) (h1 : w.cell? ⟨b, 1, none⟩ = some (.func (.func 96) #[] k1)) (h2 : w.cell? ⟨b, 2, none⟩ = some (.func (.func 96) #[] k2))
    (g0 : IsKind w 96 k0 q0) (g1 : IsKind w 96 k1 q1) (g2 : IsKind w 96 k2 q2) : FnAt w b 3 (fun _ => 96) (fun i => if i = 0 then k0 else if i = 1 then k1 else k2) (fun i => if i = 0 then q0 else if i = 1 then q1 else q2) := by
 refine ⟨fun i hi => ?_, fun i _ args W => Tryz.call96 _ _, fun i hi => ?_⟩
 ·rcases (show i = 0 ∨ i = 1 ∨ i = 2 by omega) with rfl | rfl | rfl
  ·exact h0
  ·exact h1
  ·exact h2
 ·rcases (show i = 0 ∨ i = 1 ∨ i = 2 by omega) with rfl | rfl | rfl
  ·exact g0
  ·exact g1
  ·exact g2
theorem mE (l : List UInt8) : (bE l).length ≤ 2 := by
 match l with
 | [] => simp [bE]
 | [a] =>
  simp only [bE]
  split <;> simp
 | a :: b :: t =>
  simp only [bE]
  split
  ·simp
  ·split <;> simp
theorem jS (p : Nat → UInt8 → Bool) (h0 : p 0 = eG) (h1 : p 1 = bY) (h2 : p 2 = jf) : (fun c => decide (0 ≤ dq p c 3 0)) = bZ := by
 funext c
 unfold bZ
 simp only [dq, h0, h1, h2]
 cases eG c <;> cases bY c <;> cases jf c <;> rfl
theorem oJ (b off cap : Nat) (s : List UInt8) (a : Nat) (w : World) (hs : SrcAt w (some ⟨b, off, none⟩) s) (ha : a < s.length) (hl : s.length ≤ 100000) (hc : s.length ≤ cap) :
    Calls Tryz.prog 39 #[.slice (some ⟨b, off, none⟩) s.length cap, .int .i64 a] w (o4 w (b9 s a)) := by
 have HS := zh hs
 obtain ⟨b', off', e, hbl, hrow⟩ := hs (by omega)
 injection e with e
 injection e with e1 e2
 subst e1 e2
 have y0 := hrow a ha
 clear hrow hs
 have hge : s.getD a 0 = s[a] := by rw [List.getD_eq_getElem?_getD, List.getElem?_eq_getElem ha]; rfl
 have HC : Hid (s.getD a 0 = s[a]) := zh hge
 have HQ : Hid (∀ p : UInt8 → Bool, p s[a] = true → a < aW p s a) := zh (fun p hp => by
   rw [dE ha hp]
   have := dA p s (a + 1)
   omega)
 rw [hge] at y0
 clear hge
 generalize s[a] = c at *
 have hcb := u8i c
 go_enter Tryz.func39, Tryz.ntmps39
 go_wp2_with fail
 have hb0 : Below w.heap.size w ((w.alloc (.cells #[.int .i64 0, .string ⟨#[]⟩, .int .i64 0, .int .i64 0] 110)).alloc (.cells #[.int .i64 0, .string ⟨#[]⟩, .int .i64 0, .int .i64 (a : Int)] 110)) := ae (ae (Below.refl _ _) _) _
 refine (il _ _ _).mono ?_
 rintro e w1 ⟨rfl, hb1, d1, d2, hz1⟩
 rw [ag, ag] at hz1 d1 d2
 have HB1 := zh (ak hb0 hb1)
 obtain ⟨ar, hr1⟩ : ∃ arr, w1.heap[w.heap.size]? = some (.cells arr 110 (0, 0)) ∧ arr = #[.int .i64 0, .string ⟨#[]⟩, .int .i64 0, .int .i64 0] := ⟨_, (hb1.block _ (by rw [ag, ag]; omega)).trans (au _ _ _ _ (ah _ _ _ rfl)), rfl⟩
 obtain ⟨at_, ht1⟩ : ∃ arr, w1.heap[w.heap.size + 1]? = some (.cells arr 110 (0, 0)) ∧ arr = #[.int .i64 0, .string ⟨#[]⟩, .int .i64 0, .int .i64 (a : Int)] := ⟨_, (hb1.block _ (by rw [ag, ag]; omega)).trans (ah _ _ _ (ag _ _)), rfl⟩
 obtain ⟨hr1, rfl⟩ := hr1
 obtain ⟨ht1, rfl⟩ := ht1
 have HR1 := zh hr1
 have HT1 := zh ht1
 clear hr1 ht1 hb1 hb0
 go_wp2_with fail
 refine (il _ _ _).mono ?_
 rintro e w2 ⟨rfl, hb2, l1, l2, hz2⟩
 have HB2 := zh (ak HB1.out hb2)
 have HD1 := zh ((aK hb2 _ _ (by omega)).trans d1)
 have HD2 := zh ((aK hb2 _ _ (by omega)).trans d2)
 have HL1 := zh l1
 have HL2 := zh l2
 have HR2 := zh ((hb2.block _ (by omega)).trans HR1.out)
 have HT2 := zh ((hb2.block _ (by omega)).trans HT1.out)
 rw [hz1] at hz2 HL1 HL2
 have x0 := (aK HB2.out _ _ hbl).trans y0
 have HLET := zh (fun (W : World) (hW : Below w2.heap.size w2 W) => IsKind.cast (q := eG) (fB 97 122 _ _ W ((aK hW _ _ (by omega)).trans HL1.out) ((aK hW _ _ (by omega)).trans HL2.out)) rfl)
 have HDIG := zh (fun (W : World) (hW : Below w2.heap.size w2 W) => IsKind.cast (q := bY) (fB 48 57 _ _ W ((aK hW _ _ (by omega)).trans HD1.out) ((aK hW _ _ (by omega)).trans HD2.out)) rfl)
 clear d1 d2 l1 l2 hb2 y0
 go_wp2_with fail
 refine ((HLET.out w2 (Below.refl _ _)).two c w2 (Below.refl _ _)).mono ?_
 rintro e w3 ⟨rfl, hb3⟩
 have HB3 := zh hb3
 have hz3 := hb3.size
 have HR3 := zh ((hb3.block _ (by omega)).trans HR2.out)
 have HT3 := zh ((hb3.block _ (by omega)).trans HT2.out)
 clear hb3
 cases hlet : eG c
 ·have HN : Hid (∀ d q : Bool, bY c = d → (c == 34) = q → b9 s a = if d then (match fi (bX s a (aW bY s a)) 0 with
      | none => .error 32
      | some n => .ok (ed 2 [] n a, aW bY s a)) else if q then
        (if aW cY s (a + 1) == s.length || s.getD (aW cY s (a + 1)) 0 != 34 then .error 31
          else if 64 < aW cY s (a + 1) - a - 1 then .error 32 else .ok (ed 3 (bX s (a + 1) (aW cY s (a + 1))) 0 a, aW cY s (a + 1) + 1))
      else (if bE (bX s a (min (a + 2) s.length)) = [] then .error 31 else .ok (ed 4 (bE (bX s a (min (a + 2) s.length))) 0 a, a + (bE (bX s a (min (a + 2) s.length))).length))) := zh (fun d q hd hq => by
    unfold b9
    rw [HC.out]
    simp only [hlet, hd, hq]
    rfl)
  clear hlet x0
  go_wp2_with fail
  refine ((HDIG.out w3 HB3.out).two c w3 (Below.refl _ _)).mono ?_
  rintro e w4 ⟨rfl, hb4⟩
  have HB4 := zh (HB3.out.trans (hb4.mono hz3))
  have HB24 := zh (ak HB2.out HB4.out)
  have hz4 := hb4.size
  have HR4 := zh ((hb4.block _ (by omega)).trans HR3.out)
  have HT4 := zh ((hb4.block _ (by omega)).trans HT3.out)
  clear hb4
  cases hdig : bY c
  ·have h34 := ms c 34
   have h34' : ((c.toNat : Int) == 34) = (c == 34) := h34
   have HN2 := zh (HN.out _ (c == 34) hdig rfl)
   clear h34 hdig
   cases hq : (c == 34)
   ·rw [hq] at h34' HN2
    have HSG := zh (pL b off cap s a w4 (HS.out.later HB24.out) (by omega) (by omega) (by omega))
    have t0 := aa HT4.out (j := 0) rfl
    have t1 := aa HT4.out (j := 1) rfl
    have t2 := aa HT4.out (j := 2) rfl
    have t3 := aa HT4.out (j := 3) rfl
    have tf0 := ab HT4.out 0
    have tf1 := ab HT4.out 1
    have tf2 := ab HT4.out 2
    have tf3 := ab HT4.out 3
    have r0 := aa HR4.out (j := 0) rfl
    have r1 := aa HR4.out (j := 1) rfl
    have r2 := aa HR4.out (j := 2) rfl
    have r3 := aa HR4.out (j := 3) rfl
    have rf0 := ab HR4.out 0
    have rf1 := ab HR4.out 1
    have rf2 := ab HR4.out 2
    have rf3 := ab HR4.out 3
    have hll : ((bE (bX s a (min (a + 2) s.length))).length : Int) ≤ 2 := by have := mE (bX s a (min (a + 2) s.length)); omega
    generalize bE (bX s a (min (a + 2) s.length)) = l at *
    have HN3 : Hid (b9 s a = if l = [] then .error 31 else .ok (ed 4 l 0 a, a + l.length)) := zh (by have h := HN2.out; simp at h; exact h)
    have HLS : Hid ((⟨l.toArray⟩ : ByteArray).toList = l) := zh (by rw [ByteArray.toList_eq])
    clear hq
    go_wp2_with fail
    refine HSG.out.mono ?_
    rintro e w5 ⟨rfl, rfl⟩
    by_cases hl0 : l = []
    ·have HF : Hid (b9 s a = .error 31) := zh (by rw [HN3.out, if_pos hl0])
     subst hl0
     go_wp2_with fail
     refine bodyPost_ret (v := .tuple #[tkV 4 ⟨#[]⟩ 0 (a : Int), .int .i64 0, .int .i64 31]) (by simp [results, Tryz.results39, go_sem, tkV, r0, r1, r2, r3]) rfl ?_
     rw [HF.out]
     refine ⟨⟨_, _, _, _, rfl⟩, ?_⟩
     repeat (with_reducible first | exact HB24.out | refine av ?_ | refine cG ?_ _ | refine dC ?_ (by omega) _)
    ·have HF : Hid (b9 s a = .ok (ed 4 l 0 a, a + l.length)) := zh (by rw [HN3.out, if_neg hl0])
     have hle : l.isEmpty = false := by cases l with
      | nil => exact absurd rfl hl0
      | cons x t => rfl
     clear hl0
     go_wp2_with fail
     go_region
     go_wp2_with fail
     refine bodyPost_ret (v := .tuple #[tkV 4 ⟨l.toArray⟩ 0 (a : Int), .int .i64 ((a : Int) + (l.length : Int)), .int .i64 0]) (by simp [results, Tryz.results39, go_sem, tkV, r0, r1, r2, r3]) rfl ?_
     rw [HF.out]
     refine ⟨rfl, ?_⟩
     repeat (with_reducible first | exact HB24.out | refine av ?_ | refine cG ?_ _ | refine dC ?_ (by omega) _)
   ·rw [hq] at h34' HN2
    have HN3 : Hid (b9 s a = if aW cY s (a + 1) == s.length || s.getD (aW cY s (a + 1)) 0 != 34 then .error 31
          else if 64 < aW cY s (a + 1) - a - 1 then .error 32 else .ok (ed 3 (bX s (a + 1) (aW cY s (a + 1))) 0 a, aW cY s (a + 1) + 1)) := zh (by have h := HN2.out; simp only [Bool.false_eq_true, if_false, if_true] at h; exact h)
    clear hq
    go_wp2_with fail
    refine (gf _ cap s (a + 1) 78 _ cY w4 (HS.out.later HB24.out) (by omega) (by omega) (fun _ _ => Tryz.call78 _ _) (og w4)).mono ?_
    rintro e w5 ⟨rfl, hb5⟩
    have HB5 := zh (ak HB24.out hb5)
    have hz5 := hb5.size
    have HR5 := zh ((hb5.block _ (by omega)).trans HR4.out)
    have HT5 := zh ((hb5.block _ (by omega)).trans HT4.out)
    have HSRC := zh ((HS.out.later HB24.out).later hb5)
    have q1 := dA cY s (a + 1)
    have q2 := dM (p := cY) (show a + 1 ≤ s.length by omega)
    clear hb5
    generalize aW cY s (a + 1) = q at *
    have t0 := aa HT5.out (j := 0) rfl
    have t1 := aa HT5.out (j := 1) rfl
    have t2 := aa HT5.out (j := 2) rfl
    have t3 := aa HT5.out (j := 3) rfl
    have tf0 := ab HT5.out 0
    have tf1 := ab HT5.out 1
    have tf2 := ab HT5.out 2
    have tf3 := ab HT5.out 3
    have r0 := aa HR5.out (j := 0) rfl
    have r1 := aa HR5.out (j := 1) rfl
    have r2 := aa HR5.out (j := 2) rfl
    have r3 := aa HR5.out (j := 3) rfl
    have rf0 := ab HR5.out 0
    have rf1 := ab HR5.out 1
    have rf2 := ab HR5.out 2
    have rf3 := ab HR5.out 3
    by_cases hqe : q = s.length
    ·have hd : ((q : Int) == (s.length : Int)) = true := by simp [hqe]
     have HF : Hid (b9 s a = .error 31) := zh (by rw [HN3.out, hqe]; simp)
     clear hqe
     go_wp2_with fail
     refine bodyPost_ret (v := .tuple #[tkV 0 ⟨#[]⟩ 0 (a : Int), .int .i64 0, .int .i64 31]) (by simp [results, Tryz.results39, go_sem, tkV, r0, r1, r2, r3]) rfl ?_
     rw [HF.out]
     refine ⟨⟨_, _, _, _, rfl⟩, ?_⟩
     repeat (with_reducible first | exact HB5.out | refine av ?_ | refine cG ?_ _ | refine dC ?_ (by omega) _)
    have hd : ((q : Int) == (s.length : Int)) = false := by simp; omega
    have hql : q < s.length := by omega
    obtain ⟨b', off', e, _, hrow⟩ := HSRC.out (by omega)
    injection e with e
    injection e with e1 e2
    subst e1 e2
    have g0 := hrow q hql
    generalize hch : s.getD q 0 = ch at *
    have g34 : ((ch.toNat : Int) == 34) = (ch == 34) := ms ch 34
    have HN4 : Hid (∀ z, (ch == 34) = z → b9 s a = if !z then .error 31 else if 64 < q - a - 1 then .error 32 else .ok (ed 3 (bX s (a + 1) q) 0 a, q + 1)) := zh (fun z hz => by
      rw [HN3.out]
      have : (q == s.length) = false := by simp; omega
      simp only [this, Bool.false_or, bne, hz])
    have HN5 := zh (HN4.out _ rfl)
    have gn : ((ch.toNat : Int) != 34) = !(ch == 34) := by rw [← g34]; rfl
    have hchb := u8i ch
    clear hrow hqe hch g34
    generalize (ch == 34) = z at *
    generalize ch.toNat = ch' at *
    cases z
    ·have gn' : ((ch' : Int) != 34) = true := gn
     have HF : Hid (b9 s a = .error 31) := zh (by rw [HN5.out]; rfl)
     clear gn
     go_wp2_with fail
     refine bodyPost_ret (v := .tuple #[tkV 0 ⟨#[]⟩ 0 (a : Int), .int .i64 0, .int .i64 31]) (by simp [results, Tryz.results39, go_sem, tkV, r0, r1, r2, r3]) rfl ?_
     rw [HF.out]
     refine ⟨⟨_, _, _, _, rfl⟩, ?_⟩
     repeat (with_reducible first | exact HB5.out | refine av ?_ | refine cG ?_ _ | refine dC ?_ (by omega) _)
    have gn' : ((ch' : Int) != 34) = false := gn
    clear gn
    by_cases hlong : 64 < q - a - 1
    ·have hb64 : (64 : Int) < (q : Int) - (a : Int) - 1 := by omega
     have HF : Hid (b9 s a = .error 32) := zh (by rw [HN5.out, if_neg (by decide), if_pos hlong])
     clear hlong
     go_wp2_with fail
     refine bodyPost_ret (v := .tuple #[tkV 0 ⟨#[]⟩ 0 (a : Int), .int .i64 0, .int .i64 32]) (by simp [results, Tryz.results39, go_sem, tkV, r0, r1, r2, r3]) rfl ?_
     rw [HF.out]
     refine ⟨⟨_, _, _, _, rfl⟩, ?_⟩
     repeat (with_reducible first | exact HB5.out | refine av ?_ | refine cG ?_ _ | refine dC ?_ (by omega) _)
    have hb64 : ¬ (64 : Int) < (q : Int) - (a : Int) - 1 := by omega
    have HF : Hid (b9 s a = .ok (ed 3 (bX s (a + 1) q) 0 a, q + 1)) := zh (by rw [HN5.out, if_neg (by decide), if_neg hlong])
    clear hlong
    have kd : ∀ (W : World), (∀ k, k ≠ w.heap.size + 1 → W.heap[k]? = w5.heap[k]?) → (convert 22 9 (.slice (some ⟨b, off + (a + 1), none⟩) (q - (a + 1)) (cap - (a + 1)))).run Tryz.prog W = .ok (.string ⟨(bX s (a + 1) q).toArray⟩) W := fun W hW => jc (fun h0 => by
      obtain ⟨b', off', e, hl', hrow⟩ := HSRC.out h0
      injection e with e
      injection e with e1 e2
      subst e1 e2
      exact ⟨b, off, rfl, by have := hW b (by omega); rw [Array.getElem?_eq_getElem hl'] at this; exact ad this, fun i hi => (World.cell?_of_block (w := w5) (hW b (by omega))).trans (hrow i hi)⟩) (by omega) (cap - (a + 1)) (q - (a + 1)) rfl
    have kc1 := kd w5.drew (fun _ _ => rfl)
    have kc2 := kd (w5.setCell ⟨w.heap.size + 1, 0, none⟩ (.int .i64 3)).drew (fun k hk => af _ _ _ _ hk)
    generalize bX s (a + 1) q = l at *
    clear kd
    go_wp2_with fail
    go_region
    clear kc1 kc2
    go_wp2_with fail
    refine bodyPost_ret (v := .tuple #[tkV 3 ⟨l.toArray⟩ 0 (a : Int), .int .i64 ((q : Int) + 1), .int .i64 0]) (by simp [results, Tryz.results39, go_sem, tkV, r0, r1, r2, r3]) rfl ?_
    rw [HF.out]
    refine ⟨rfl, ?_⟩
    repeat (with_reducible first | exact HB5.out | refine av ?_ | refine cG ?_ _ | refine dC ?_ (by omega) _)
  ·have HN2 := zh (HN.out _ _ hdig rfl)
   have HQ3 := zh (HQ.out bY hdig)
   clear hdig
   go_wp2_with fail
   refine (gf _ cap s a 96 _ bY w4 (HS.out.later HB24.out) (by omega) (by omega) (fun _ _ => Tryz.call96 _ _) (HDIG.out w4 HB4.out)).mono ?_
   rintro e w5 ⟨rfl, hb5⟩
   have HB5 := zh (ak HB24.out hb5)
   have hz5 := hb5.size
   have HR5 := zh ((hb5.block _ (by omega)).trans HR4.out)
   have HT5 := zh ((hb5.block _ (by omega)).trans HT4.out)
   have q2 := dM (p := bY) (show a ≤ s.length by omega)
   have q3 := HQ3.out
   have HDD : Hid (∀ i, i < (bX s a (aW bY s a)).length → bY ((bX s a (aW bY s a)).getD i 0) = true) := zh (fun i hi => by
     rw [dI q2] at hi
     have hlt : a + i < s.length := by omega
     rw [kI (by omega), List.getD_eq_getElem?_getD, List.getElem?_eq_getElem hlt]
     exact jZ (p := bY) (a := a) (i := a + i) (by omega) (by omega) hlt)
   clear hb5
   generalize aW bY s a = q at *
   go_wp2_with fail
   refine (pr _ _ _ (bX s a q) w5 (dI q2).symm ((HS.out.later HB5.out).cut q2) (by rw [dI q2]; omega) HDD.out).mono ?_
   rintro e w6 ⟨rfl, hb6⟩
   have HB6 := zh (ak HB5.out hb6)
   have HR6 := zh ((hb6.block _ (by omega)).trans HR5.out)
   have HT6 := zh ((hb6.block _ (by omega)).trans HT5.out)
   have t0 := aa HT6.out (j := 0) rfl
   have t1 := aa HT6.out (j := 1) rfl
   have t2 := aa HT6.out (j := 2) rfl
   have t3 := aa HT6.out (j := 3) rfl
   have tf0 := ab HT6.out 0
   have tf1 := ab HT6.out 1
   have tf2 := ab HT6.out 2
   have tf3 := ab HT6.out 3
   have r0 := aa HR6.out (j := 0) rfl
   have r1 := aa HR6.out (j := 1) rfl
   have r2 := aa HR6.out (j := 2) rfl
   have r3 := aa HR6.out (j := 3) rfl
   have rf0 := ab HR6.out 0
   have rf1 := ab HR6.out 1
   have rf2 := ab HR6.out 2
   have rf3 := ab HR6.out 3
   clear hb6
   cases hnum : fi (bX s a q) 0 with
   | none =>
    have HF : Hid (b9 s a = .error 32) := zh (by have h := HN2.out; simp [hnum] at h; exact h)
    clear hnum
    unfold p3
    go_wp2_with fail
    refine bodyPost_ret (v := .tuple #[tkV 0 ⟨#[]⟩ 0 (a : Int), .int .i64 0, .int .i64 32]) (by simp [results, Tryz.results39, go_sem, tkV, r0, r1, r2, r3]) rfl ?_
    rw [HF.out]
    refine ⟨⟨_, _, _, _, rfl⟩, ?_⟩
    repeat (with_reducible first | exact HB6.out | refine av ?_ | refine cG ?_ _ | refine dC ?_ (by omega) _)
   | some n =>
    have HF : Hid (b9 s a = .ok (ed 2 [] n a, q)) := zh (by have h := HN2.out; simp [hnum] at h; exact h)
    clear hnum
    unfold p3
    go_wp2_with fail
    refine bodyPost_ret (v := .tuple #[tkV 2 ⟨#[]⟩ (n : Int) (a : Int), .int .i64 (q : Int), .int .i64 0]) (by simp [results, Tryz.results39, go_sem, tkV, r0, r1, r2, r3]) rfl ?_
    rw [HF.out]
    refine ⟨rfl, ?_⟩
    repeat (with_reducible first | exact HB6.out | refine av ?_ | refine cG ?_ _ | refine dC ?_ (by omega) _)
 ·have HN : Hid (b9 s a = if eZ (bX s a (aW bZ s a)) then .ok (ed 4 (bX s a (aW bZ s a)) 0 a, aW bZ s a) else if 16 < (bX s a (aW bZ s a)).length then .error 32 else .ok (ed 1 (bX s a (aW bZ s a)) 0 a, aW bZ s a)) := zh (by
    unfold b9
    rw [HC.out]
    simp only [hlet, if_true])
  have HQ3 := zh (HQ.out bZ (by unfold bZ; rw [hlet]; rfl))
  clear hlet x0
  go_wp2_with fail
  refine (il _ _ _).mono ?_
  rintro e w4 ⟨rfl, hb4, u1, u2, hz4⟩
  have HB4 := zh (HB3.out.trans (hb4.mono hz3))
  have HU := zh (fun (W : World) (hW : Below w4.heap.size w4 W) => IsKind.cast (q := jf) (fB 95 95 _ _ W ((aK hW _ _ (by omega)).trans u1) ((aK hW _ _ (by omega)).trans u2)) rfl)
  have HR4 := zh ((hb4.block _ (by omega)).trans HR3.out)
  have HT4 := zh ((hb4.block _ (by omega)).trans HT3.out)
  have HZ4 := zh hz4
  have hz4' : w3.heap.size + 2 ≤ w4.heap.size := by omega
  clear hb4 u1 u2 hz4
  go_wp2_with fail
  refine (oV _ _ _ _).mono ?_
  rintro e w5 ⟨rfl, hb5, v1⟩
  have z5 := hb5.size
  rw [ag] at z5 v1
  have HB45 := zh (ak (ae (Below.refl w4.heap.size w4) _) hb5)
  have HB5 := zh (ak (ae HB4.out _) hb5)
  have HF5 : Hid (FnAt w5 w4.heap.size 3 _ _ _) := zh (fn3 (q0 := eG) (q1 := bY) (q2 := jf) ((aK hb5 _ _ (by rw [ag]; omega)).trans (aw _ _ _ _ _ _ rfl rfl)) ((aK hb5 _ _ (by rw [ag]; omega)).trans (aw _ _ _ _ _ _ rfl rfl)) ((aK hb5 _ _ (by rw [ag]; omega)).trans (aw _ _ _ _ _ _ rfl rfl))
    (HLET.out w5 HB5.out) (HDIG.out w5 HB5.out) (HU.out w5 HB45.out))
  have HBW5 := zh (ak HB2.out HB5.out)
  have HK5 := zh (IsKind.cast (q := bZ) (lp (w4.heap.size + 1) w4.heap.size 3 _ _ _ w5 (by omega) HF5.out v1) (jS _ rfl rfl rfl))
  have HR5 := zh ((hb5.block _ (by rw [ag]; omega)).trans (au _ _ _ _ HR4.out))
  have HT5 := zh ((hb5.block _ (by rw [ag]; omega)).trans (au _ _ _ _ HT4.out))
  clear hb5 v1
  go_wp2_with fail
  refine (gf _ cap s a 97 _ bZ w5 (HS.out.later HBW5.out) (by omega) (by omega) (fun _ _ => Tryz.call97 _ _) HK5.out).mono ?_
  rintro e w6 ⟨rfl, hb6⟩
  have HB6 := zh (ak HBW5.out hb6)
  have HB65 := zh hb6
  have z6 := hb6.size
  have HR6 := zh ((hb6.block _ (by omega)).trans HR5.out)
  have HT6 := zh ((hb6.block _ (by omega)).trans HT5.out)
  have q1 := dA bZ s a
  have q2 := dM (p := bZ) (show a ≤ s.length by omega)
  have q3 := HQ3.out
  clear hb6
  generalize aW bZ s a = q at *
  have t0 := aa HT6.out (j := 0) rfl
  have t1 := aa HT6.out (j := 1) rfl
  have t2 := aa HT6.out (j := 2) rfl
  have t3 := aa HT6.out (j := 3) rfl
  have tf0 := ab HT6.out 0
  have tf1 := ab HT6.out 1
  have HSRC := zh (HS.out.later HBW5.out |>.later HB65.out)
  have kd : ∀ (W : World), (∀ k, k ≠ w.heap.size + 1 → W.heap[k]? = w6.heap[k]?) → (convert 22 9 (.slice (some ⟨b, off + a, none⟩) (q - a) (cap - a))).run Tryz.prog W = .ok (.string ⟨(bX s a q).toArray⟩) W := fun W hW => jc (fun h0 => by
    obtain ⟨b', off', e, hl', hrow⟩ := HSRC.out h0
    injection e with e
    injection e with e1 e2
    subst e1 e2
    exact ⟨b, off, rfl, by have := hW b (by omega); rw [Array.getElem?_eq_getElem hl'] at this; exact ad this, fun i hi => (World.cell?_of_block (w := w6) (hW b (by omega))).trans (hrow i hi)⟩) q2 (cap - a) (q - a) rfl
  have kc1 := kd w6.drew (fun _ _ => rfl)
  have kc2 := kd (w6.setCell ⟨w.heap.size + 1, 0, none⟩ (.int .i64 1)).drew (fun k hk => af _ _ _ _ hk)
  generalize bX s a q = l at *
  clear kd
  go_wp2_with fail
  go_region
  clear kc1 kc2
  have HWD : Hid (eZ (⟨l.toArray⟩ : ByteArray).toList = eZ l) := zh (by rw [ByteArray.toList_eq])
  have HLL : Hid (((⟨l.toArray⟩ : ByteArray).size : Nat) = l.length) := zh rfl
  have r0 := aa HR6.out (j := 0) rfl
  have r1 := aa HR6.out (j := 1) rfl
  have r2 := aa HR6.out (j := 2) rfl
  have r3 := aa HR6.out (j := 3) rfl
  have rf0 := ab HR6.out 0
  have rf1 := ab HR6.out 1
  have rf2 := ab HR6.out 2
  have rf3 := ab HR6.out 3
  go_wp2_with fail
  refine (pp _ _).mono ?_
  rintro e w7 ⟨rfl, rfl⟩
  rw [HWD.out]
  cases hwd : eZ l
  ·have HN2 : Hid (b9 s a = if 16 < l.length then .error 32 else .ok (ed 1 l 0 a, q)) := zh (by rw [HN.out, hwd]; rfl)
   clear hwd
   by_cases hlong : 16 < l.length
   ·have hb16 : (16 : Int) < (l.length : Int) := by omega
    have HF : Hid (b9 s a = .error 32) := zh (by rw [HN2.out, if_pos hlong])
    clear hlong
    go_wp2_with fail
    refine bodyPost_ret (v := .tuple #[tkV 1 ⟨l.toArray⟩ 0 (a : Int), .int .i64 0, .int .i64 32]) (by simp [results, Tryz.results39, go_sem, tkV, r0, r1, r2, r3]) rfl ?_
    rw [HF.out]
    refine ⟨⟨_, _, _, _, rfl⟩, ?_⟩
    repeat (with_reducible first | exact HB6.out | refine av ?_ | refine cG ?_ _ | refine dC ?_ (by omega) _)
   ·have hb16 : ¬ (16 : Int) < (l.length : Int) := by omega
    have HF : Hid (b9 s a = .ok (ed 1 l 0 a, q)) := zh (by rw [HN2.out, if_neg hlong])
    clear hlong
    go_wp2_with fail
    refine bodyPost_ret (v := .tuple #[tkV 1 ⟨l.toArray⟩ 0 (a : Int), .int .i64 (q : Int), .int .i64 0]) (by simp [results, Tryz.results39, go_sem, tkV, r0, r1, r2, r3]) rfl ?_
    rw [HF.out]
    refine ⟨rfl, ?_⟩
    repeat (with_reducible first | exact HB6.out | refine av ?_ | refine cG ?_ _ | refine dC ?_ (by omega) _)
  ·have HF : Hid (b9 s a = .ok (ed 4 l 0 a, q)) := zh (by rw [HN.out, hwd]; rfl)
   clear hwd
   go_wp2_with fail
   refine bodyPost_ret (v := .tuple #[tkV 4 ⟨l.toArray⟩ 0 a, .int .i64 q, .int .i64 0]) (by simp [results, Tryz.results39, go_sem, tkV, r0, r1, r2, r3]) rfl ?_
   rw [HF.out]
   refine ⟨rfl, ?_⟩
   repeat (with_reducible first | exact HB6.out | refine av ?_ | refine cG ?_ _ | refine dC ?_ (by omega) _)
end
end Go.Proofs.YtjblihabklemfaaGreatDoor
