/-
  Compile: part 2 of its proof: see the last text.
-/
import Derived.Shelf.Small.Strs
import Derived.Shelf.Strings.Search1
import Derived.Test.YtjblihabklemfaaGreatDoorRows
import Derived.Test.YtjblihabklemfaaGreatDoorPm01
import Derived.Test.YtjblihabklemfaaGreatDoorPm00
import Derived.Deep.LoopGhost
set_option maxRecDepth 100000
set_option maxHeartbeats 16000000
namespace Go.Proofs.YtjblihabklemfaaGreatDoor
section
open Go.Shelf
def l5 : Go.Shelf.Ren := ⟨fun | 137 => 72 | 217 => 95 | 266 => 124 | n => n, fun | 9 => 9 | 5 => 5 | 3 => 3 | n => n, fun | n => n⟩
theorem qN : Go.Proofs.Lays.n137 Tryz.prog l5 := {
  mixed := by kernel_rfl
  f137 := Tryz.func72.trans (congrArg some (by kernel_rfl))
  f217 := Tryz.func95.trans (congrArg some (by kernel_rfl))
  f266 := Tryz.func124.trans (congrArg some (by kernel_rfl))
  t3 := Tryz.underlying3
  a3 := Tryz.isAgg3
  z3 := Tryz.sizeOf3
  v3 := Tryz.zeroValue3
  t5 := Tryz.underlying5
  a5 := Tryz.isAgg5
  z5 := Tryz.sizeOf5
  v5 := Tryz.zeroValue5
  t9 := Tryz.underlying9
  a9 := Tryz.isAgg9
  z9 := Tryz.sizeOf9
  v9 := Tryz.zeroValue9 }
theorem jR (s : ByteArray) (c : Int) (w : World) :
    Calls Tryz.prog 72 #[.string s, .int .u8 c] w fun e w' => e = .returned (.int .i64 (Lib.indexByte s.data.toList c.toNat.toUInt8)) ∧ w' = w := Any.strings_IndexByte qN s c w
end
section
open Go.RowKit
def SrcAt (w : World) (s0 : Option Addr) (s : List UInt8) : Prop := 0 < s.length → ∃ b off, s0 = some ⟨b, off, none⟩ ∧ b < w.heap.size ∧ ∀ i, i < s.length → w.cell? ⟨b, off + i, none⟩ = some (.int .u8 ((s.getD i 0).toNat : Int))
theorem SrcAt.later {w W : World} {s0 : Option Addr} {s : List UInt8} (h : SrcAt w s0 s) (hb : Below w.heap.size w W) : SrcAt W s0 s := fun h0 => by
 obtain ⟨b, off, h1, h2, h3⟩ := h h0
 exact ⟨b, off, h1, Nat.lt_of_lt_of_le h2 hb.size, fun i hi => (aK hb b _ h2).trans (h3 i hi)⟩
def IsKind (w : World) (f : FuncId) (caps : Array Value) (p : UInt8 → Bool) : Prop := ∀ (c : UInt8) (W : World), Below w.heap.size w W → Calls Tryz.prog f (#[.int .u8 (c.toNat : Int)] ++ caps) W fun e W' => e = .returned (.bool (p c)) ∧ Below W.heap.size W W'
theorem gf (s0 : Option Addr) (cap : Nat) (s : List UInt8) (a : Nat) (f : FuncId) (caps : Array Value) (p : UInt8 → Bool) (w : World) (hs : SrcAt w s0 s) (ha : a ≤ s.length) (hl : s.length ≤ 1152921504606846976) (hcf : ∀ args W, Sem.run Tryz.prog (callFunc f args) W = .ok (.enter f args) W) (hk : IsKind w f caps p) :
    Calls Tryz.prog 70 #[.slice s0 s.length cap, .int .i64 a, .func (.func f) #[] caps] w fun e w' => e = .returned (.int .i64 (aW p s a)) ∧ Below w.heap.size w w' := by
 have HS := zh hs
 have HK := zh hk
 clear hs hk
 go_enter Tryz.func70, Tryz.ntmps70
 go_wp2_with fail
 go_loopw [1] (fun s1 wr => ∃ k : Nat, k ≤ s.length ∧ s1 = .int .i64 k ∧ aW p s a = aW p s k ∧ Below w.heap.size w wr) (fun s1 _ => s.length - (intOf s1).toNat)
 case atStart => exact ⟨a, ha, rfl, rfl, Below.refl _ _⟩
 case round =>
  obtain ⟨k, hk, rfl, hsp, hbw⟩ := hrel
  have HSP := zh hsp
  have HBW := zh hbw
  clear hsp hbw
  by_cases hlt : k < s.length
  ·obtain ⟨b, off, hs0, hbl, hrow⟩ := HS.out (by omega)
   subst hs0
   have y0 := (aK HBW.out _ _ hbl).trans (hrow k hlt)
   clear hrow
   have hget : s.getD k 0 = s[k] := by rw [List.getD_eq_getElem?_getD, List.getElem?_eq_getElem hlt]; rfl
   rw [hget] at y0
   have HY := zh (dE (p := p) hlt)
   have HN := zh (jM (p := p) hlt)
   clear hget
   generalize s[k] = c at *
   have HC := zh (HK.out c wr HBW.out)
   generalize p c = q at *
   go_wp2_with fail
   refine HC.out.mono ?_
   rintro e w1 ⟨rfl, hb1⟩
   have HB1 := zh (ak HBW.out hb1)
   clear hb1
   cases q
   ·go_wp2_with fail
    go_ret
    exact ⟨cr (by rw [HSP.out, HN.out (by simp)]), HB1.out⟩
   ·go_wp2_with fail
    go_roundw
    case rel => exact ⟨k + 1, by omega, by go_num, by rw [HSP.out, HY.out (by simp)], HB1.out⟩
    case measure => simp [intOf]; omega
  ·have hke : k = s.length := by omega
   subst hke
   clear hlt
   go_wp2_with fail
   go_ret
   exact ⟨cr (by rw [HSP.out, nW (Nat.le_refl _)]), HBW.out⟩
theorem u8i (c : UInt8) : 0 ≤ (c.toNat : Int) ∧ (c.toNat : Int) ≤ 255 := by
 have := c.toNat_lt
 omega
theorem ms (c d : UInt8) : (((c.toNat : Int)) == ((d.toNat : Int))) = (c == d) := by
 rw [Bool.eq_iff_iff]
 simp only [beq_iff_eq]
 constructor
 ·intro h
  exact UInt8.toNat_inj.1 (by omega)
 ·intro h
  rw [h]
theorem od (c : UInt8) : decide (0 ≤ Lib.indexByte [9, 10, 13, 32] c) = dl c := by
 unfold dl
 by_cases h1 : c = 9
 ·subst h1; rfl
 by_cases h2 : c = 10
 ·subst h2; rfl
 by_cases h3 : c = 13
 ·subst h3; rfl
 by_cases h4 : c = 32
 ·subst h4; rfl
 simp [Lib.indexByte, h1, h2, h3, h4, Ne.symm h1, Ne.symm h2, Ne.symm h3, Ne.symm h4]
theorem mF (w : World) : IsKind w 71 #[] dl := by
 intro c W _
 have hq := zh (od c)
 go_enter Tryz.func71, Tryz.ntmps71
 go_wp2_with fail
 refine (jR _ _ _).mono ?_
 rintro e w1 ⟨rfl, rfl⟩
 have e2 : ((c.toNat : Int)).toNat.toUInt8 = c := by simp
 rw [e2]
 clear e2
 generalize Lib.indexByte _ c = x at *
 go_wp2_with fail
 go_ret
 exact ⟨bF hq.out, Below.refl _ _⟩
theorem nT (w : World) : IsKind w 73 #[] dj := by
 intro c W _
 have hc := u8i c
 have hq := zh (ms c 10)
 go_enter Tryz.func73, Tryz.ntmps73
 go_wp2_with fail
 go_ret
 refine ⟨bF ?_, Below.refl _ _⟩
 unfold dj
 show (!((c.toNat : Int) == 10)) = !(c == 10)
 rw [← ms c 10]
 rfl
theorem og (w : World) : IsKind w 78 #[] cY := by
 intro c W _
 have hc := u8i c
 have h1 := ms c 34
 have h2 := ms c 92
 have HT : Hid (∀ x y, (c == 34) = x → (c == 92) = y → cY c = (decide (32 ≤ c.toNat) && decide (c.toNat ≤ 126) && !x && !y)) := zh (fun x y hx hy => by unfold cY; simp only [bne, hx, hy])
 have g1 : (((c.toNat : Int)) == 34) = (c == 34) := h1
 have g2 : (((c.toNat : Int)) == 92) = (c == 92) := h2
 have HT2 := HT.out _ _ rfl rfl
 clear h1 h2 HT
 have HT3 := zh HT2
 clear HT2
 generalize (c == 34) = x at *
 generalize (c == 92) = y at *
 generalize cY c = z at *
 generalize c.toNat = n at *
 go_enter Tryz.func78, Tryz.ntmps78
 go_wp2_with fail
 all_goals
  go_ret
  refine ⟨bF ?_, Below.refl _ _⟩
  rw [HT3.out, ← g1, ← g2, Bool.eq_iff_iff]
  simp
  try omega
theorem qW (lo hi : UInt8) (w : World) : Calls Tryz.prog 74 #[.int .u8 (lo.toNat : Int), .int .u8 (hi.toNat : Int)] w fun e w' => e = .returned (.func (.func 96) #[] #[.pointer (some ⟨w.heap.size, 0, none⟩), .pointer (some ⟨w.heap.size + 1, 0, none⟩)]) ∧ w' = (w.alloc (.cells #[.int .u8 (lo.toNat : Int)] 5)).alloc (.cells #[.int .u8 (hi.toNat : Int)] 5) := by
 go_enter Tryz.func74, Tryz.ntmps74
 go_wp2_with fail
 go_ret
 exact ⟨rfl, rfl⟩
theorem fB (lo hi : UInt8) (b d : Nat) (w : World) (h1 : w.cell? ⟨b, 0, none⟩ = some (.int .u8 (lo.toNat : Int))) (h2 : w.cell? ⟨d, 0, none⟩ = some (.int .u8 (hi.toNat : Int))) :
    IsKind w 96 #[.pointer (some ⟨b, 0, none⟩), .pointer (some ⟨d, 0, none⟩)] (fun c => decide (lo.toNat ≤ c.toNat) && decide (c.toNat ≤ hi.toNat)) := by
 intro c W hW
 have hc := u8i c
 have g1 := (aK hW _ _ (am h1)).trans h1
 have g2 := (aK hW _ _ (am h2)).trans h2
 clear h1 h2
 show Calls Tryz.prog 96 #[.int .u8 (c.toNat : Int), .pointer (some ⟨b, 0, none⟩), .pointer (some ⟨d, 0, none⟩)] W _
 dsimp only
 generalize c.toNat = x at *
 generalize lo.toNat = y at *
 generalize hi.toNat = z at *
 go_enter Tryz.func96, Tryz.ntmps96
 go_wp2_with fail
 all_goals
  go_ret
  refine ⟨bF ?_, Below.refl _ _⟩
  rw [Bool.eq_iff_iff]
  simp
  try omega
structure FnAt (w : World) (b : Nat) (n : Nat) (f : Nat → FuncId) (caps : Nat → Array Value) (p : Nat → UInt8 → Bool) : Prop where
 cell : ∀ i, i < n → w.cell? ⟨b, i, none⟩ = some (.func (.func (f i)) #[] (caps i))
 enter : ∀ i, i < n → ∀ args W, Sem.run Tryz.prog (callFunc (f i) args) W = .ok (.enter (f i) args) W
 kind : ∀ i, i < n → IsKind w (f i) (caps i) (p i)
theorem IsKind.later {w W : World} {f : FuncId} {caps : Array Value} {p : UInt8 → Bool} (h : IsKind w f caps p) (hb : Below w.heap.size w W) : IsKind W f caps p := fun c V hV => h c V (hb.trans (hV.mono hb.size))
def dq (p : Nat → UInt8 → Bool) (c : UInt8) : Nat → Nat → Int
 | 0, _ => -1
 | m + 1, i => if p i c then (i : Int) else dq p c m (i + 1)
theorem pj (f : FuncId) (caps : Array Value) (p : UInt8 → Bool) (c : UInt8) (d : Nat) (w : World) (hcf : ∀ args W, Sem.run Tryz.prog (callFunc f args) W = .ok (.enter f args) W) (hk : IsKind w f caps p) (hd : w.cell? ⟨d, 0, none⟩ = some (.int .u8 (c.toNat : Int))) :
    Calls Tryz.prog 99 #[.func (.func f) #[] caps, .pointer (some ⟨d, 0, none⟩)] w fun e w' => e = .returned (.bool (p c)) ∧ Below w.heap.size w w' := by
 have HK := zh (hk c w (Below.refl _ _))
 have hc := u8i c
 clear hk
 generalize p c = q at *
 go_enter Tryz.func99, Tryz.ntmps99
 go_wp2_with fail
 refine HK.out.mono ?_
 rintro e w1 ⟨rfl, hb1⟩
 have HB1 := zh hb1
 clear hb1
 go_wp2_with fail
 go_ret
 exact ⟨rfl, HB1.out⟩
theorem oI (b n d : Nat) (c : UInt8) (f : Nat → FuncId) (caps : Nat → Array Value) (p : Nat → UInt8 → Bool) (w : World) (hn : n ≤ 1000) (hf : FnAt w b n f caps p) (hd : w.cell? ⟨d, 0, none⟩ = some (.int .u8 (c.toNat : Int))) :
    Calls Tryz.prog 125 #[.slice (some ⟨b, 0, none⟩) n n, .func (.func 99) #[] #[.pointer (some ⟨d, 0, none⟩)]] w fun e w' => e = .returned (.int .i64 (dq p c n 0)) ∧ Below w.heap.size w w' := by
 have HF := zh hf
 have HD := zh hd
 clear hf hd
 go_enter Tryz.func125, Tryz.ntmps125
 go_wp2_with fail
 go_loopw [8] (fun s8 wr => ∃ i : Nat, i ≤ n ∧ s8 = .int .i64 i ∧ dq p c n 0 = dq p c (n - i) i ∧ Below w.heap.size w wr) (fun s8 _ => n - (intOf s8).toNat)
 case atStart => exact ⟨0, Nat.zero_le _, rfl, rfl, Below.refl _ _⟩
 case round =>
  obtain ⟨i, hi, rfl, hfi, hbw⟩ := hrel
  have HFI := zh hfi
  have HBW := zh hbw
  clear hfi hbw
  by_cases hlt : i < n
  ·have hcell := HF.out.cell i hlt
   have y0 := (aK HBW.out _ _ (am hcell)).trans hcell
   have HC := zh (pj (f i) (caps i) (p i) c d wr (HF.out.enter i hlt) ((HF.out.kind i hlt).later HBW.out) ((aK HBW.out _ _ (am HD.out)).trans HD.out))
   have HN : Hid (dq p c (n - i) i = if p i c then (i : Int) else dq p c (n - (i + 1)) (i + 1)) := zh (by
     rw [show n - i = (n - (i + 1)) + 1 by omega]
     rfl)
   clear hcell
   generalize p i c = q at *
   go_wp2_with fail
   refine HC.out.mono ?_
   rintro e w1 ⟨rfl, hb1⟩
   have HB1 := zh (ak HBW.out hb1)
   clear hb1
   cases q
   ·go_wp2_with fail
    go_roundw
    case rel => exact ⟨i + 1, by omega, by go_num, by rw [HFI.out, HN.out]; simp, HB1.out⟩
    case measure => simp [intOf]; omega
   ·go_wp2_with fail
    go_ret
    exact ⟨cr (by rw [HFI.out, HN.out]; simp), HB1.out⟩
  ·have hie : i = n := by omega
   subst hie
   clear hlt
   go_wp2_with fail
   go_ret
   exact ⟨cr (by rw [HFI.out, Nat.sub_self]; rfl), HBW.out⟩
theorem ou (b n d : Nat) (c : UInt8) (f : Nat → FuncId) (caps : Nat → Array Value) (p : Nat → UInt8 → Bool) (w : World) (hn : n ≤ 1000) (hf : FnAt w b n f caps p) (hd : w.cell? ⟨d, 0, none⟩ = some (.int .u8 (c.toNat : Int))) :
    Calls Tryz.prog 98 #[.slice (some ⟨b, 0, none⟩) n n, .func (.func 99) #[] #[.pointer (some ⟨d, 0, none⟩)]] w fun e w' => e = .returned (.bool (decide (0 ≤ dq p c n 0))) ∧ Below w.heap.size w w' := by
 have HC := zh (oI b n d c f caps p w hn hf hd)
 clear hf hd
 generalize dq p c n 0 = x at *
 go_enter Tryz.func98, Tryz.ntmps98
 go_wp2_with fail
 refine HC.out.mono ?_
 rintro e w1 ⟨rfl, hb1⟩
 have HB1 := zh hb1
 clear hb1
 go_wp2_with fail
 go_ret
 exact ⟨rfl, HB1.out⟩
theorem FnAt.later {w W : World} {b n : Nat} {f : Nat → FuncId} {caps : Nat → Array Value} {p : Nat → UInt8 → Bool} (h : FnAt w b n f caps p) (hb : Below w.heap.size w W) : FnAt W b n f caps p :=
 ⟨fun i hi => (aK hb _ _ (am (h.cell i hi))).trans (h.cell i hi), h.enter, fun i hi => (h.kind i hi).later hb⟩
theorem lp (a b n : Nat) (f : Nat → FuncId) (caps : Nat → Array Value) (p : Nat → UInt8 → Bool) (w : World) (hn : n ≤ 1000) (hf : FnAt w b n f caps p) (ha : w.cell? ⟨a, 0, none⟩ = some (.slice (some ⟨b, 0, none⟩) n n)) :
    IsKind w 97 #[.pointer (some ⟨a, 0, none⟩)] (fun c => decide (0 ≤ dq p c n 0)) := by
 intro c W hW
 show Calls Tryz.prog 97 #[.int .u8 (c.toNat : Int), .pointer (some ⟨a, 0, none⟩)] W _
 have hB0 := ae (Below.refl W.heap.size W) (.cells #[.int .u8 (c.toNat : Int)] 5)
 have HC := zh (ou b n W.heap.size c f caps p (W.alloc (.cells #[.int .u8 (c.toNat : Int)] 5)) hn (hf.later (hW.trans (hB0.mono hW.size))) (aw _ _ _ _ _ _ rfl rfl))
 have g1 := (aK hW _ _ (am ha)).trans ha
 have hal := am g1
 have HB0 := zh hB0
 clear hf ha hW hB0
 dsimp only
 generalize decide (0 ≤ dq p c n 0) = x at *
 go_enter Tryz.func97, Tryz.ntmps97
 go_wp2_with fail
 refine HC.out.mono ?_
 rintro e w1 ⟨rfl, hb1⟩
 have HB1 := zh (ak HB0.out hb1)
 clear hb1
 go_wp2_with fail
 go_ret
 exact ⟨rfl, HB1.out⟩
theorem mC (s0 : Option Addr) (n cap : Nat) (w : World) : Calls Tryz.prog 75 #[.slice s0 n cap] w fun e w' => e = .returned (.func (.func 97) #[] #[.pointer (some ⟨w.heap.size, 0, none⟩)]) ∧ w' = w.alloc (.cells #[.slice s0 n cap] 158) := by
 go_enter Tryz.func75, Tryz.ntmps75
 go_wp2_with fail
 go_ret
 exact ⟨rfl, rfl⟩
theorem je (s0 : Option Addr) (cap : Nat) (s : List UInt8) (a : Nat) (w : World) (hs : SrcAt w s0 s) (ha : a ≤ s.length) (hl : s.length ≤ 1152921504606846976) :
    Calls Tryz.prog 38 #[.slice s0 s.length cap, .int .i64 a] w fun e w' => e = .returned (.int .i64 (bq s a)) ∧ Below w.heap.size w w' := by
 have HS := zh hs
 have HC1 := zh (fun (W : World) (hW : Below w.heap.size w W) (k : Nat) (hk : k ≤ s.length) => gf s0 cap s k 71 #[] dl W (hs.later hW) hk hl (fun _ _ => Tryz.call71 _ _) (mF W))
 have HC2 := zh (fun (W : World) (hW : Below w.heap.size w W) (k : Nat) (hk : k ≤ s.length) => gf s0 cap s k 73 #[] dj W (hs.later hW) hk hl (fun _ _ => Tryz.call73 _ _) (nT W))
 clear hs
 go_enter Tryz.func38, Tryz.ntmps38
 go_wp2_with fail
 go_loopw [1] (fun s1 wr => ∃ k : Nat, k ≤ s.length ∧ s1 = .int .i64 k ∧ bq s a = bq s k ∧ Below w.heap.size w wr) (fun s1 _ => s.length - (intOf s1).toNat)
 case atStart => exact ⟨a, ha, rfl, rfl, Below.refl _ _⟩
 case round =>
  obtain ⟨k, hk, rfl, hbk, hbw⟩ := hrel
  have HBK := zh (hbk.trans (kA s k))
  have HBW := zh hbw
  clear hbk hbw
  go_wp2_with fail
  refine (HC1.out _ HBW.out k hk).mono ?_
  rintro e w1 ⟨rfl, hb1⟩
  have HB1 := zh (ak HBW.out hb1)
  have hge := dA dl s k
  have hle := dM (p := dl) hk
  have HSTOP := zh (jJ (p := dl) (s := s) (a := k))
  clear hb1
  generalize aW dl s k = q at *
  by_cases hq : q = s.length
  ·have hd : ((q : Int) == (s.length : Int)) = true := by simp [hq]
   have HF : Hid (bq s a = q) := zh (by rw [HBK.out, lS (by omega)])
   clear hq
   go_wp2_with fail
   go_ret
   exact ⟨cr (by rw [HF.out]), HB1.out⟩
  ·have hql : q < s.length := by omega
   have hd : ((q : Int) == (s.length : Int)) = false := by simp; omega
   obtain ⟨b, off, hs0, hbl, hrow⟩ := HS.out (by omega)
   subst hs0
   have hget : s.getD q 0 = s[q] := by rw [List.getD_eq_getElem?_getD, List.getElem?_eq_getElem hql]; rfl
   have y0 := (aK HB1.out _ _ hbl).trans (hrow q hql)
   rw [hget] at y0
   have h35 := ms s[q] 35
   have HNO := zh (mz hql (HSTOP.out hql))
   have HYES := zh (km hql)
   have HMORE := zh (nF hql)
   clear hrow hget
   have h35' : (((s[q].toNat : Nat) : Int) == 35) = (s[q] == 35) := h35
   generalize (s[q] == 35) = z at *
   generalize s[q].toNat = c at *
   clear h35
   have hz0 : ((c : Int) != 35) = !z := by rw [← h35']; rfl
   cases z
   ·have hz : ((c : Int) != 35) = true := hz0
    have HF : Hid (bq s a = q) := zh (by rw [HBK.out, HNO.out rfl])
    clear hz0 h35'
    go_wp2_with fail
    go_ret
    exact ⟨cr (by rw [HF.out]), HB1.out⟩
   ·have hz : ((c : Int) != 35) = false := hz0
    have HF : Hid (bq s a = bq s (aW dj s q)) := zh (by rw [HBK.out, HYES.out rfl])
    have hmore := HMORE.out rfl
    clear hz0 h35'
    go_wp2_with fail
    refine (HC2.out _ HB1.out q (by omega)).mono ?_
    rintro e w2 ⟨rfl, hb2⟩
    have HB2 := zh (ak HB1.out hb2)
    have hle2 := dM (p := dj) (show q ≤ s.length by omega)
    clear hb2
    generalize aW dj s q = q2 at *
    go_wp2_with fail
    go_roundw
    case rel => exact ⟨q2, hle2, rfl, HF.out, HB2.out⟩
    case measure => simp [intOf]; omega
end
section
section
open Go.RowKit
theorem dI {s : List UInt8} {a b : Nat} (hb : b ≤ s.length) : (bX s a b).length = b - a := by
 unfold bX
 rw [List.length_take, List.length_drop]
 omega
theorem kI {s : List UInt8} {a b i : Nat} (h : a + i < b) : (bX s a b).getD i 0 = s.getD (a + i) 0 := by
 unfold bX
 rw [List.getD_eq_getElem?_getD, List.getD_eq_getElem?_getD, List.getElem?_take, if_pos (by omega), List.getElem?_drop]
theorem SrcAt.cut {w : World} {b off : Nat} {s : List UInt8} {x y : Nat} (h : SrcAt w (some ⟨b, off, none⟩) s) (hy : y ≤ s.length) : SrcAt w (some ⟨b, off + x, none⟩) (bX s x y) := by
 intro h0
 rw [dI hy] at h0
 obtain ⟨b', off', e, hbl, hrow⟩ := h (by omega)
 injection e with e
 injection e with e1 e2
 subst e1 e2
 refine ⟨b, off + x, rfl, hbl, fun i hi => ?_⟩
 rw [dI hy] at hi
 rw [kI (by omega), Nat.add_assoc]
 exact hrow (x + i) (by omega)
def p3 : Option Nat → Value
 | none => .tuple #[.int .i64 0, .bool false]
 | some n => .tuple #[.int .i64 (n : Int), .bool true]
theorem nY (c : UInt8) (r : List UInt8) (n : Nat) : fi (c :: r) n = if (9223372036854775807 - (c.toNat - 48)) / 10 < n then none else fi r (10 * n + (c.toNat - 48)) := rfl
theorem my (s0 : Option Addr) (cap : Nat) (s : List UInt8) (w : World) (hs : SrcAt w s0 s) (hl : s.length ≤ 100000) (hd : ∀ i, i < s.length → bY (s.getD i 0) = true) :
    Calls Tryz.prog 77 #[.slice s0 s.length cap] w fun e w' => e = .returned (p3 (fi s 0)) ∧ Below w.heap.size w w' := by
 have HS := zh hs
 have HD := zh hd
 clear hs hd
 go_enter Tryz.func77, Tryz.ntmps77
 go_wp2_with fail
 go_loopw [4, 10] (fun s4 s10 wr => ∃ k n : Nat, k ≤ s.length ∧ s10 = .int .i64 k ∧ s4 = .int .i64 n ∧ (n : Int) ≤ 9223372036854775807 ∧ fi s 0 = fi (s.drop k) n ∧ w = wr) (fun _ s10 _ => s.length - (intOf s10).toNat)
 case atStart => exact ⟨0, 0, Nat.zero_le _, rfl, rfl, by simp, rfl, rfl⟩
 case round =>
  obtain ⟨k, n, hk, rfl, rfl, hn, hnum, rfl⟩ := hrel
  have HN := zh hnum
  clear hnum
  by_cases hlt : k < s.length
  ·obtain ⟨b, off, hs0, hbl, hrow⟩ := HS.out (by omega)
   subst hs0
   have y0 := hrow k hlt
   have hdig := HD.out k hlt
   have hget : s.getD k 0 = s[k] := by rw [List.getD_eq_getElem?_getD, List.getElem?_eq_getElem hlt]; rfl
   have HX := zh (nY s[k] (s.drop (k + 1)) n)
   have HDR := zh (fY hlt)
   rw [hget] at y0 hdig
   unfold bY at hdig
   simp only [Bool.and_eq_true, decide_eq_true_eq] at hdig
   obtain ⟨d1, d2⟩ := hdig
   clear hrow hget
   generalize s[k] = ch at *
   generalize hcd : ch.toNat = c at *
   have hc48 : IntKind.u8.wrap ((c : Int) - 48) = (c : Int) - 48 := IntWalk.u8_in _ (by omega)
   obtain ⟨d, rfl⟩ : ∃ d, c = d + 48 := ⟨c - 48, by omega⟩
   have hc1 : 0 ≤ ((d + 48 : Nat) : Int) - 48 ∧ ((d + 48 : Nat) : Int) - 48 ≤ 9 := by omega
   have HX2 : Hid (fi s 0 = if (9223372036854775807 - d) / 10 < n then none else fi (s.drop (k + 1)) (10 * n + d)) := zh (by
     rw [HN.out, HDR.out, HX.out, Nat.add_sub_cancel])
   clear hcd
   by_cases hbig : (9223372036854775807 - d) / 10 < n
   ·have hb2 : (9223372036854775807 - (d : Int)) / 10 < (n : Int) := by omega
    have HF : Hid (fi s 0 = none) := zh (by rw [HX2.out, if_pos hbig])
    clear hbig
    go_wp2_with fail
    go_ret2
    exact ⟨by rw [HF.out]; rfl, Below.refl _ _⟩
   ·have hb2 : ¬ ((9223372036854775807 - (d : Int)) / 10 < (n : Int)) := by omega
    have HF : Hid (fi s 0 = fi (s.drop (k + 1)) (10 * n + d)) := zh (by rw [HX2.out, if_neg hbig])
    clear hbig
    go_wp2_with fail
    go_roundw
    case rel => exact ⟨k + 1, 10 * n + d, by omega, by go_num, by go_num, by omega, HF.out, by first | rfl | trivial⟩
    case measure => simp [intOf]; omega
  ·have hke : k = s.length := by omega
   subst hke
   have HF : Hid (fi s 0 = some n) := zh (by rw [HN.out, List.drop_length]; rfl)
   clear hlt
   go_wp2_with fail
   go_ret2
   exact ⟨by rw [HF.out]; rfl, Below.refl _ _⟩
theorem pp (s : ByteArray) (w : World) : Calls Tryz.prog 76 #[.string s] w fun e w' => e = .returned (.bool (eZ s.toList)) ∧ w = w' := by
 have HW : Hid (∀ l, s.toList = l → eZ s.toList = eZ l) := zh (fun l h => by rw [h])
 have HN : Hid ((∀ l ∈ wordTab, (s.toList == l) = false) → eZ s.toList = false) := zh (fun h => by
   unfold eZ
   rw [Bool.eq_false_iff]
   intro hc
   have := h _ (List.contains_iff_mem.1 hc)
   simp at this)
 generalize eZ s.toList = q at *
 go_enter Tryz.func76, Tryz.ntmps76
 go_wp2_with fail
 all_goals first
  | (exfalso; simp_all; done)
  | (go_ret
     first
       | (refine ⟨bF ?_, rfl⟩; rw [HW.out _ (eq_of_beq (by assumption))]; rfl)
       | (refine ⟨bF ?_, rfl⟩; rw [HN.out (by simp only [wordTab, List.forall_mem_cons]; simp only [*]; simp)]))
end
section
open Go.RowKit
theorem rv {s : List UInt8} {a b j : Nat} (hb : b ≤ s.length) (hj : j < (bX s a b).length) : (bX s a b)[j] = s.getD (a + j) 0 := by
 rw [dI hb] at hj
 rw [← kI (b := b) (by omega), List.getD_eq_getElem?_getD, List.getElem?_eq_getElem (by rw [dI hb]; exact hj)]
 rfl
theorem jc {w : World} {b off : Nat} {s : List UInt8} {x y : Nat} (h : SrcAt w (some ⟨b, off, none⟩) s) (hy : y ≤ s.length) (c n : Nat) (hn : n = y - x) :
    (convert 22 9 (.slice (some ⟨b, off + x, none⟩) n c)).run Tryz.prog w = .ok (.string ⟨(bX s x y).toArray⟩) w := by
 have hl := dI (a := x) hy
 subst hn
 rw [← hl]
 refine run_convert_bytes_back w 22 9 5 ⟨b, off + x, none⟩ c (bX s x y) Tryz.underlying22 Tryz.underlying5 Tryz.underlying9 (fun j hj => ?_)
 obtain ⟨b', off', e, _, hrow⟩ := h (by omega)
 injection e with e
 injection e with e1 e2
 subst e1 e2
 rw [Go.WideShapes.add_plain, Nat.add_assoc, rv hy hj]
 exact hrow (x + j) (by rw [hl] at hj; omega)
theorem pr (s0 : Option Addr) (n cap : Nat) (s : List UInt8) (w : World) (hn : n = s.length) (hs : SrcAt w s0 s) (hl : s.length ≤ 100000) (hd : ∀ i, i < s.length → bY (s.getD i 0) = true) :
    Calls Tryz.prog 77 #[.slice s0 n cap] w fun e w' => e = .returned (p3 (fi s 0)) ∧ Below w.heap.size w w' := by
 subst hn
 exact my s0 cap s w hs hl hd
theorem oM {r : List UInt8} (h : fm r = true) : bE r = r := by
 match r, h with
 | [], h => rfl
 | [a], h => simp [bE, h]
 | [a, b], h => simp [bE, h]
 | a :: b :: c :: t, h => simp [fm, signTab] at h
theorem qG {r : List UInt8} (h : fm r = false) (hl : r.length ≤ 2) : bE r = bE r.dropLast := by
 match r, h, hl with
 | [], _, _ => rfl
 | [a], h, _ => simp [bE, h]
 | [a, b], h, _ =>
  show (if fm [a, b] then _ else _) = _
  rw [h]
  rfl
theorem lN (r : ByteArray) : (⟨r.toList.toArray⟩ : ByteArray) = r := by
 rw [ByteArray.toList_eq]
theorem m5 {a b : ByteArray} (h : a = b) : Ending.returned (.string a) = .returned (.string b) := by rw [h]
theorem pL (b off cap : Nat) (s : List UInt8) (a : Nat) (w : World) (hs : SrcAt w (some ⟨b, off, none⟩) s) (ha : a < s.length) (hl : s.length ≤ 100000) (hc : s.length ≤ cap) :
    Calls Tryz.prog 79 #[.slice (some ⟨b, off, none⟩) s.length cap, .int .i64 a] w fun e w' => e = .returned (.string ⟨(bE (bX s a (min (a + 2) s.length))).toArray⟩) ∧ w = w' := by
 have key : ∀ y, min (a + 2) s.length = y → a < y → y ≤ s.length → y ≤ a + 2 → Calls Tryz.prog 79 #[.slice (some ⟨b, off, none⟩) s.length cap, .int .i64 a] w fun e w' => e = .returned (.string ⟨(bE (bX s a y)).toArray⟩) ∧ w = w' := by
  intro y hy h1 h2 h3
  have kc := jc hs h2 (cap - a) (y - a) rfl
  have hcl := dI (a := a) h2
  have HL := zh hcl
  generalize bX s a y = l at *
  clear hcl hs
  have hmin : min ((a : Int) + 2) (s.length : Int) = (y : Int) := by omega
  have hya : y - a ≤ 2 := by omega
  have HYA := zh hya
  clear hy hya
  go_enter Tryz.func79, Tryz.ntmps79
  go_wp2_with fail
  go_step3
  go_wp2_with fail
  go_step3
  go_wp2_with fail
  clear kc hmin
  go_loopg [5] 2 (fun g s5 wr => ∃ r : ByteArray, s5 = .string r ∧ r.toList.length ≤ g ∧ g ≤ 2 ∧ bE l = bE r.toList ∧ wr = w)
  case atStart => exact ⟨_, rfl, by rw [ByteArray.toList_eq]; show l.length ≤ 2; rw [HL.out]; exact HYA.out, Nat.le_refl _, by rw [ByteArray.toList_eq], rfl⟩
  case round =>
   obtain ⟨r, rfl, hr2, hg2, hso, rfl⟩ := hrel
   have HSO := zh hso
   clear hso
   have hsz : r.size = r.toList.length := by rw [ByteArray.toList_eq]; rfl
   have HSZ := zh hsz
   by_cases h0 : r.toList = []
   ·have hd : (!r.toList.isEmpty) = false := by rw [h0]; rfl
    have HF : Hid (bE l = r.toList) := zh (by rw [HSO.out, h0]; rfl)
    clear h0 hsz
    go_wp2_with fail
    (try rw [Exit.noGoto_ret])
    go_ret
    exact ⟨m5 (by rw [HF.out, lN]), rfl⟩
   have hd : (!r.toList.isEmpty) = true := by cases hq : r.toList with
    | nil => exact absurd hq h0
    | cons x t => rfl
   have hlen : 1 ≤ r.toList.length := by
    rcases Nat.eq_zero_or_pos r.toList.length with h | h
    ·exact absurd (List.eq_nil_of_length_eq_zero h) h0
    ·exact h
   obtain ⟨g2, rfl⟩ : ∃ g2, gk = g2 + 1 := ⟨gk - 1, by omega⟩
   cases hsg : fm r.toList
   ·have hi1 : 1 ≤ (r.size : Int) := by omega
    have hi2 : (r.size : Int) ≤ 2 := by omega
    have HNO : ∀ t ∈ signTab, (r.toList == t) = false := fun t ht => by
     rw [Bool.eq_false_iff]
     intro hc
     have e := eq_of_beq hc
     rw [e] at hsg
     unfold fm at hsg
     rw [List.contains_iff_mem.2 ht] at hsg
     cases hsg
    have f0 : (r.toList == [61, 61]) = false := HNO _ (by simp [signTab])
    have f1 : (r.toList == [33, 61]) = false := HNO _ (by simp [signTab])
    have f2 : (r.toList == [60, 61]) = false := HNO _ (by simp [signTab])
    have f3 : (r.toList == [62, 61]) = false := HNO _ (by simp [signTab])
    have f4 : (r.toList == [38, 38]) = false := HNO _ (by simp [signTab])
    have f5 : (r.toList == [124, 124]) = false := HNO _ (by simp [signTab])
    have f6 : (r.toList == [40]) = false := HNO _ (by simp [signTab])
    have f7 : (r.toList == [41]) = false := HNO _ (by simp [signTab])
    have f8 : (r.toList == [123]) = false := HNO _ (by simp [signTab])
    have f9 : (r.toList == [125]) = false := HNO _ (by simp [signTab])
    have f10 : (r.toList == [44]) = false := HNO _ (by simp [signTab])
    have f11 : (r.toList == [59]) = false := HNO _ (by simp [signTab])
    have f12 : (r.toList == [58]) = false := HNO _ (by simp [signTab])
    have f13 : (r.toList == [61]) = false := HNO _ (by simp [signTab])
    have f14 : (r.toList == [60]) = false := HNO _ (by simp [signTab])
    have f15 : (r.toList == [62]) = false := HNO _ (by simp [signTab])
    have f16 : (r.toList == [43]) = false := HNO _ (by simp [signTab])
    have f17 : (r.toList == [45]) = false := HNO _ (by simp [signTab])
    have f18 : (r.toList == [42]) = false := HNO _ (by simp [signTab])
    have f19 : (r.toList == [47]) = false := HNO _ (by simp [signTab])
    have f20 : (r.toList == [37]) = false := HNO _ (by simp [signTab])
    have f21 : (r.toList == [33]) = false := HNO _ (by simp [signTab])
    have HX : Hid (bE l = bE (r.extract 0 (r.size - 1)).toList ∧ (r.extract 0 (r.size - 1)).toList.length ≤ g2) := zh (by
      have e : (r.extract 0 (r.size - 1)).toList = r.toList.dropLast := by
        rw [ByteArray.toList_eq, ByteArray.toList_eq]
        simp [List.dropLast_eq_take]
      rw [e]
      exact ⟨by rw [HSO.out, qG hsg (by omega)], by rw [List.length_dropLast]; omega⟩)
    clear HNO hsg hsz h0 hlen
    go_wp2_with fail
    go_roundg g2
    case measure => omega
    case rel => exact ⟨_, rfl, HX.out.2, by omega, HX.out.1, rfl⟩
   ·have hmem : r.toList ∈ signTab := List.contains_iff_mem.1 hsg
    have HSR := zh (show bE l = r.toList from by rw [HSO.out, oM hsg])
    have hr := (lN r).symm
    clear hsg hsz h0 hlen hd hr2
    simp only [signTab, List.mem_cons, List.not_mem_nil, or_false] at hmem
    rcases hmem with h | h | h | h | h | h | h | h | h | h | h | h | h | h | h | h | h | h | h | h | h | h
    all_goals
     rw [h] at hr
     have HF := zh (HSR.out.trans h)
     clear HSR HSO HSZ h
     subst hr
     go_wp2_with fail
     (try rw [Exit.noGoto_ret])
     go_ret
     exact ⟨m5 (by rw [HF.out]), rfl⟩
 by_cases h2 : a + 2 ≤ s.length
 ·have e : min (a + 2) s.length = a + 2 := by omega
  rw [e]
  exact key (a + 2) e (by omega) h2 (Nat.le_refl _)
 ·have e : min (a + 2) s.length = s.length := by omega
  rw [e]
  exact key s.length e ha (Nat.le_refl _) (by omega)
end
end
end Go.Proofs.YtjblihabklemfaaGreatDoor
