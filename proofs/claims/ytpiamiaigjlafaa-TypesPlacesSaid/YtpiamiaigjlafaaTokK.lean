/-
  The lexer: kinds of bytes, spans, blanks.
-/
import Derived.Test.YtpiamiaigjlafaaRows
import Derived.Test.YtpiamiaigjlafaaTokP
import Derived.Test.YtpiamiaigjlafaaMem
import Derived.Test.YtpiamiaigjlafaaShelfIdx
namespace Go.Proofs.Ytpiamiaigjlafaa
open Go.RowKit
def SrcAt (w : World) (s0 : Option Addr) (s : List UInt8) : Prop := 0 < s.length → ∃ b off, s0 = some ⟨b, off, none⟩ ∧ b < w.heap.size ∧ ∀ i, i < s.length → w.cell? ⟨b, off + i, none⟩ = some (.int .u8 ((s.getD i 0).toNat : Int))
theorem SrcAt.later {w W : World} {s0 : Option Addr} {s : List UInt8} (h : SrcAt w s0 s) (hb : Below w.heap.size w W) : SrcAt W s0 s := fun h0 => by
  obtain ⟨b, off, h1, h2, h3⟩ := h h0
  exact ⟨b, off, h1, Nat.lt_of_lt_of_le h2 hb.size, fun i hi => (up_cell hb b _ h2).trans (h3 i hi)⟩
/-- a function value answers whether a byte is of a kind -/
def IsKind (w : World) (f : FuncId) (caps : Array Value) (p : UInt8 → Bool) : Prop := ∀ (c : UInt8) (W : World), Below w.heap.size w W → Calls Try.prog f (#[.int .u8 (c.toNat : Int)] ++ caps) W fun e W' => e = .returned (.bool (p c)) ∧ Below W.heap.size W W'

set_option maxRecDepth 100000 in
set_option maxHeartbeats 1000000 in
theorem span_any (s0 : Option Addr) (cap : Nat) (s : List UInt8) (a : Nat) (f : FuncId) (caps : Array Value) (p : UInt8 → Bool) (w : World) (hs : SrcAt w s0 s) (ha : a ≤ s.length) (hl : s.length ≤ 1152921504606846976) (hcf : ∀ args W, Sem.run Try.prog (callFunc f args) W = .ok (.enter f args) W) (hk : IsKind w f caps p) :
    Calls Try.prog 40 #[.slice s0 s.length cap, .int .i64 a, .func (.func f) #[] caps] w fun e w' => e = .returned (.int .i64 (spanN p s a)) ∧ Below w.heap.size w w' := by
  have HS := Lib.hid hs
  have HK := Lib.hid hk
  clear hs hk
  go_enter Try.func40, Try.ntmps40
  go_wp2_with fail
  go_loopw [1] (fun s1 wr => ∃ k : Nat, k ≤ s.length ∧ s1 = .int .i64 k ∧ spanN p s a = spanN p s k ∧ Below w.heap.size w wr) (fun s1 _ => s.length - (intOf s1).toNat)
  case atStart => exact ⟨a, ha, rfl, rfl, Below.refl _ _⟩
  case round =>
    obtain ⟨k, hk, rfl, hsp, hbw⟩ := hrel
    have HSP := Lib.hid hsp
    have HBW := Lib.hid hbw
    clear hsp hbw
    by_cases hlt : k < s.length
    · obtain ⟨b, off, hs0, hbl, hrow⟩ := HS.out (by omega)
      subst hs0
      have y0 := (up_cell HBW.out _ _ hbl).trans (hrow k hlt)
      clear hrow
      have hget : s.getD k 0 = s[k] := by rw [List.getD_eq_getElem?_getD, List.getElem?_eq_getElem hlt]; rfl
      rw [hget] at y0
      have HY := Lib.hid (spanN_yes (p := p) hlt)
      have HN := Lib.hid (spanN_no (p := p) hlt)
      clear hget
      generalize s[k] = c at *
      have HC := Lib.hid (HK.out c wr HBW.out)
      generalize p c = q at *
      go_wp2_with fail
      refine HC.out.mono ?_
      rintro e w1 ⟨rfl, hb1⟩
      have HB1 := Lib.hid (up_trans HBW.out hb1)
      clear hb1
      cases q
      · go_wp2_with fail
        go_ret
        exact ⟨ret_int (by rw [HSP.out, HN.out (by simp)]), HB1.out⟩
      · go_wp2_with fail
        go_roundw
        case rel => exact ⟨k + 1, by omega, by go_num, by rw [HSP.out, HY.out (by simp)], HB1.out⟩
        case measure => simp [intOf]; omega
    · have hke : k = s.length := by omega
      subst hke
      clear hlt
      go_wp2_with fail
      go_ret
      exact ⟨ret_int (by rw [HSP.out, spanN_end (Nat.le_refl _)]), HBW.out⟩

theorem u8i (c : UInt8) : 0 ≤ (c.toNat : Int) ∧ (c.toNat : Int) ≤ 255 := by
  have := c.toNat_lt
  omega
theorem u8eq (c d : UInt8) : (((c.toNat : Int)) == ((d.toNat : Int))) = (c == d) := by
  rw [Bool.eq_iff_iff]
  simp only [beq_iff_eq]
  constructor
  · intro h
    exact UInt8.toNat_inj.1 (by omega)
  · intro h
    rw [h]
theorem idx_blank (c : UInt8) : decide (0 ≤ Lib.indexByte [9, 10, 13, 32] c) = blankB c := by
  unfold blankB
  by_cases h1 : c = 9
  · subst h1; rfl
  by_cases h2 : c = 10
  · subst h2; rfl
  by_cases h3 : c = 13
  · subst h3; rfl
  by_cases h4 : c = 32
  · subst h4; rfl
  simp [Lib.indexByte, h1, h2, h3, h4, Ne.symm h1, Ne.symm h2, Ne.symm h3, Ne.symm h4]
set_option maxRecDepth 100000 in
set_option maxHeartbeats 1000000 in
theorem blank_kind (w : World) : IsKind w 41 #[] blankB := by
  intro c W _
  have hq := Lib.hid (idx_blank c)
  go_enter Try.func41, Try.ntmps41
  go_wp2_with fail
  refine (indexByte_any _ _ _).mono ?_
  rintro e w1 ⟨rfl, rfl⟩
  have e2 : ((c.toNat : Int)).toNat.toUInt8 = c := by simp
  rw [e2]
  clear e2
  generalize Lib.indexByte _ c = x at *
  go_wp2_with fail
  go_ret
  exact ⟨ret_bool hq.out, Below.refl _ _⟩
theorem line_kind (w : World) : IsKind w 43 #[] noLine := by
  intro c W _
  have hc := u8i c
  have hq := Lib.hid (u8eq c 10)
  go_enter Try.func43, Try.ntmps43
  go_wp2_with fail
  go_ret
  refine ⟨ret_bool ?_, Below.refl _ _⟩
  unfold noLine
  show (!((c.toNat : Int) == 10)) = !(c == 10)
  rw [← u8eq c 10]
  rfl
theorem text_kind (w : World) : IsKind w 48 #[] textB := by
  intro c W _
  have hc := u8i c
  have h1 := u8eq c 34
  have h2 := u8eq c 92
  have HT : Hid (∀ x y, (c == 34) = x → (c == 92) = y → textB c = (decide (32 ≤ c.toNat) && decide (c.toNat ≤ 126) && !x && !y)) := Lib.hid (fun x y hx hy => by unfold textB; simp only [bne, hx, hy])
  have g1 : (((c.toNat : Int)) == 34) = (c == 34) := h1
  have g2 : (((c.toNat : Int)) == 92) = (c == 92) := h2
  have HT2 := HT.out _ _ rfl rfl
  clear h1 h2 HT
  have HT3 := Lib.hid HT2
  clear HT2
  generalize (c == 34) = x at *
  generalize (c == 92) = y at *
  generalize textB c = z at *
  generalize c.toNat = n at *
  go_enter Try.func48, Try.ntmps48
  go_wp2_with fail
  all_goals
    go_ret
    refine ⟨ret_bool ?_, Below.refl _ _⟩
    rw [HT3.out, ← g1, ← g2, Bool.eq_iff_iff]
    simp
    try omega
theorem between_any (lo hi : UInt8) (w : World) : Calls Try.prog 44 #[.int .u8 (lo.toNat : Int), .int .u8 (hi.toNat : Int)] w fun e w' => e = .returned (.func (.func 77) #[] #[.pointer (some ⟨w.heap.size, 0, none⟩), .pointer (some ⟨w.heap.size + 1, 0, none⟩)]) ∧ w' = (w.alloc (.cells #[.int .u8 (lo.toNat : Int)] 5)).alloc (.cells #[.int .u8 (hi.toNat : Int)] 5) := by
  go_enter Try.func44, Try.ntmps44
  go_wp2_with fail
  go_ret
  exact ⟨rfl, rfl⟩
theorem between_kind (lo hi : UInt8) (b d : Nat) (w : World) (h1 : w.cell? ⟨b, 0, none⟩ = some (.int .u8 (lo.toNat : Int))) (h2 : w.cell? ⟨d, 0, none⟩ = some (.int .u8 (hi.toNat : Int))) :
    IsKind w 77 #[.pointer (some ⟨b, 0, none⟩), .pointer (some ⟨d, 0, none⟩)] (fun c => decide (lo.toNat ≤ c.toNat) && decide (c.toNat ≤ hi.toNat)) := by
  intro c W hW
  have hc := u8i c
  have g1 := (up_cell hW _ _ (lt_of_cell h1)).trans h1
  have g2 := (up_cell hW _ _ (lt_of_cell h2)).trans h2
  clear h1 h2
  show Calls Try.prog 77 #[.int .u8 (c.toNat : Int), .pointer (some ⟨b, 0, none⟩), .pointer (some ⟨d, 0, none⟩)] W _
  dsimp only
  generalize c.toNat = x at *
  generalize lo.toNat = y at *
  generalize hi.toNat = z at *
  go_enter Try.func77, Try.ntmps77
  go_wp2_with fail
  all_goals
    go_ret
    refine ⟨ret_bool ?_, Below.refl _ _⟩
    rw [Bool.eq_iff_iff]
    simp
    try omega

/-! ### One of some kinds -/
/-- what is known of a slice of function values -/
structure FnAt (w : World) (b : Nat) (n : Nat) (f : Nat → FuncId) (caps : Nat → Array Value) (p : Nat → UInt8 → Bool) : Prop where
  cell : ∀ i, i < n → w.cell? ⟨b, i, none⟩ = some (.func (.func (f i)) #[] (caps i))
  enter : ∀ i, i < n → ∀ args W, Sem.run Try.prog (callFunc (f i) args) W = .ok (.enter (f i) args) W
  kind : ∀ i, i < n → IsKind w (f i) (caps i) (p i)
theorem IsKind.later {w W : World} {f : FuncId} {caps : Array Value} {p : UInt8 → Bool} (h : IsKind w f caps p) (hb : Below w.heap.size w W) : IsKind W f caps p := fun c V hV => h c V (hb.trans (hV.mono hb.size))
/-- the first of some that answers yes -/
def firstOf (p : Nat → UInt8 → Bool) (c : UInt8) : Nat → Nat → Int
  | 0, _ => -1
  | m + 1, i => if p i c then (i : Int) else firstOf p c m (i + 1)

set_option maxRecDepth 100000 in
set_option maxHeartbeats 1000000 in
theorem one_kind (f : FuncId) (caps : Array Value) (p : UInt8 → Bool) (c : UInt8) (d : Nat) (w : World) (hcf : ∀ args W, Sem.run Try.prog (callFunc f args) W = .ok (.enter f args) W) (hk : IsKind w f caps p) (hd : w.cell? ⟨d, 0, none⟩ = some (.int .u8 (c.toNat : Int))) :
    Calls Try.prog 80 #[.func (.func f) #[] caps, .pointer (some ⟨d, 0, none⟩)] w fun e w' => e = .returned (.bool (p c)) ∧ Below w.heap.size w w' := by
  have HK := Lib.hid (hk c w (Below.refl _ _))
  have hc := u8i c
  clear hk
  generalize p c = q at *
  go_enter Try.func80, Try.ntmps80
  go_wp2_with fail
  refine HK.out.mono ?_
  rintro e w1 ⟨rfl, hb1⟩
  have HB1 := Lib.hid hb1
  clear hb1
  go_wp2_with fail
  go_ret
  exact ⟨rfl, HB1.out⟩

set_option maxRecDepth 100000 in
set_option maxHeartbeats 1000000 in
theorem idxFn_any (b n d : Nat) (c : UInt8) (f : Nat → FuncId) (caps : Nat → Array Value) (p : Nat → UInt8 → Bool) (w : World) (hn : n ≤ 1000) (hf : FnAt w b n f caps p) (hd : w.cell? ⟨d, 0, none⟩ = some (.int .u8 (c.toNat : Int))) :
    Calls Try.prog 88 #[.slice (some ⟨b, 0, none⟩) n n, .func (.func 80) #[] #[.pointer (some ⟨d, 0, none⟩)]] w fun e w' => e = .returned (.int .i64 (firstOf p c n 0)) ∧ Below w.heap.size w w' := by
  have HF := Lib.hid hf
  have HD := Lib.hid hd
  clear hf hd
  go_enter Try.func88, Try.ntmps88
  go_wp2_with fail
  go_loopw [8] (fun s8 wr => ∃ i : Nat, i ≤ n ∧ s8 = .int .i64 i ∧ firstOf p c n 0 = firstOf p c (n - i) i ∧ Below w.heap.size w wr) (fun s8 _ => n - (intOf s8).toNat)
  case atStart => exact ⟨0, Nat.zero_le _, rfl, rfl, Below.refl _ _⟩
  case round =>
    obtain ⟨i, hi, rfl, hfi, hbw⟩ := hrel
    have HFI := Lib.hid hfi
    have HBW := Lib.hid hbw
    clear hfi hbw
    by_cases hlt : i < n
    · have hcell := HF.out.cell i hlt
      have y0 := (up_cell HBW.out _ _ (lt_of_cell hcell)).trans hcell
      have HC := Lib.hid (one_kind (f i) (caps i) (p i) c d wr (HF.out.enter i hlt) ((HF.out.kind i hlt).later HBW.out) ((up_cell HBW.out _ _ (lt_of_cell HD.out)).trans HD.out))
      have HN : Hid (firstOf p c (n - i) i = if p i c then (i : Int) else firstOf p c (n - (i + 1)) (i + 1)) := Lib.hid (by
        rw [show n - i = (n - (i + 1)) + 1 by omega]
        rfl)
      clear hcell
      generalize p i c = q at *
      go_wp2_with fail
      refine HC.out.mono ?_
      rintro e w1 ⟨rfl, hb1⟩
      have HB1 := Lib.hid (up_trans HBW.out hb1)
      clear hb1
      cases q
      · go_wp2_with fail
        go_roundw
        case rel => exact ⟨i + 1, by omega, by go_num, by rw [HFI.out, HN.out]; simp, HB1.out⟩
        case measure => simp [intOf]; omega
      · go_wp2_with fail
        go_ret
        exact ⟨ret_int (by rw [HFI.out, HN.out]; simp), HB1.out⟩
    · have hie : i = n := by omega
      subst hie
      clear hlt
      go_wp2_with fail
      go_ret
      exact ⟨ret_int (by rw [HFI.out, Nat.sub_self]; rfl), HBW.out⟩

set_option maxRecDepth 100000 in
set_option maxHeartbeats 1000000 in
theorem hasFn_any (b n d : Nat) (c : UInt8) (f : Nat → FuncId) (caps : Nat → Array Value) (p : Nat → UInt8 → Bool) (w : World) (hn : n ≤ 1000) (hf : FnAt w b n f caps p) (hd : w.cell? ⟨d, 0, none⟩ = some (.int .u8 (c.toNat : Int))) :
    Calls Try.prog 79 #[.slice (some ⟨b, 0, none⟩) n n, .func (.func 80) #[] #[.pointer (some ⟨d, 0, none⟩)]] w fun e w' => e = .returned (.bool (decide (0 ≤ firstOf p c n 0))) ∧ Below w.heap.size w w' := by
  have HC := Lib.hid (idxFn_any b n d c f caps p w hn hf hd)
  clear hf hd
  generalize firstOf p c n 0 = x at *
  go_enter Try.func79, Try.ntmps79
  go_wp2_with fail
  refine HC.out.mono ?_
  rintro e w1 ⟨rfl, hb1⟩
  have HB1 := Lib.hid hb1
  clear hb1
  go_wp2_with fail
  go_ret
  exact ⟨rfl, HB1.out⟩
theorem FnAt.later {w W : World} {b n : Nat} {f : Nat → FuncId} {caps : Nat → Array Value} {p : Nat → UInt8 → Bool} (h : FnAt w b n f caps p) (hb : Below w.heap.size w W) : FnAt W b n f caps p :=
  ⟨fun i hi => (up_cell hb _ _ (lt_of_cell (h.cell i hi))).trans (h.cell i hi), h.enter, fun i hi => (h.kind i hi).later hb⟩

set_option maxRecDepth 100000 in
set_option maxHeartbeats 1000000 in
theorem either_kind (a b n : Nat) (f : Nat → FuncId) (caps : Nat → Array Value) (p : Nat → UInt8 → Bool) (w : World) (hn : n ≤ 1000) (hf : FnAt w b n f caps p) (ha : w.cell? ⟨a, 0, none⟩ = some (.slice (some ⟨b, 0, none⟩) n n)) :
    IsKind w 78 #[.pointer (some ⟨a, 0, none⟩)] (fun c => decide (0 ≤ firstOf p c n 0)) := by
  intro c W hW
  show Calls Try.prog 78 #[.int .u8 (c.toNat : Int), .pointer (some ⟨a, 0, none⟩)] W _
  have hB0 := up_alloc (Below.refl W.heap.size W) (.cells #[.int .u8 (c.toNat : Int)] 5)
  have HC := Lib.hid (hasFn_any b n W.heap.size c f caps p (W.alloc (.cells #[.int .u8 (c.toNat : Int)] 5)) hn (hf.later (hW.trans (hB0.mono hW.size))) (new_cell _ _ _ _ _ _ rfl rfl))
  have g1 := (up_cell hW _ _ (lt_of_cell ha)).trans ha
  have hal := lt_of_cell g1
  have HB0 := Lib.hid hB0
  clear hf ha hW hB0
  dsimp only
  generalize decide (0 ≤ firstOf p c n 0) = x at *
  go_enter Try.func78, Try.ntmps78
  go_wp2_with fail
  refine HC.out.mono ?_
  rintro e w1 ⟨rfl, hb1⟩
  have HB1 := Lib.hid (up_trans HB0.out hb1)
  clear hb1
  go_wp2_with fail
  go_ret
  exact ⟨rfl, HB1.out⟩
theorem either_any (s0 : Option Addr) (n cap : Nat) (w : World) : Calls Try.prog 45 #[.slice s0 n cap] w fun e w' => e = .returned (.func (.func 78) #[] #[.pointer (some ⟨w.heap.size, 0, none⟩)]) ∧ w' = w.alloc (.cells #[.slice s0 n cap] 120) := by
  go_enter Try.func45, Try.ntmps45
  go_wp2_with fail
  go_ret
  exact ⟨rfl, rfl⟩

/-! ### Blanks -/
set_option maxRecDepth 100000 in
set_option maxHeartbeats 1000000 in
theorem blanks_any (s0 : Option Addr) (cap : Nat) (s : List UInt8) (a : Nat) (w : World) (hs : SrcAt w s0 s) (ha : a ≤ s.length) (hl : s.length ≤ 1152921504606846976) :
    Calls Try.prog 29 #[.slice s0 s.length cap, .int .i64 a] w fun e w' => e = .returned (.int .i64 (blanksN s a)) ∧ Below w.heap.size w w' := by
  have HS := Lib.hid hs
  have HC1 := Lib.hid (fun (W : World) (hW : Below w.heap.size w W) (k : Nat) (hk : k ≤ s.length) => span_any s0 cap s k 41 #[] blankB W (hs.later hW) hk hl (fun _ _ => Try.call41 _ _) (blank_kind W))
  have HC2 := Lib.hid (fun (W : World) (hW : Below w.heap.size w W) (k : Nat) (hk : k ≤ s.length) => span_any s0 cap s k 43 #[] noLine W (hs.later hW) hk hl (fun _ _ => Try.call43 _ _) (line_kind W))
  clear hs
  go_enter Try.func29, Try.ntmps29
  go_wp2_with fail
  go_loopw [1] (fun s1 wr => ∃ k : Nat, k ≤ s.length ∧ s1 = .int .i64 k ∧ blanksN s a = blanksN s k ∧ Below w.heap.size w wr) (fun s1 _ => s.length - (intOf s1).toNat)
  case atStart => exact ⟨a, ha, rfl, rfl, Below.refl _ _⟩
  case round =>
    obtain ⟨k, hk, rfl, hbk, hbw⟩ := hrel
    have HBK := Lib.hid (hbk.trans (blanksN_step s k))
    have HBW := Lib.hid hbw
    clear hbk hbw
    go_wp2_with fail
    refine (HC1.out _ HBW.out k hk).mono ?_
    rintro e w1 ⟨rfl, hb1⟩
    have HB1 := Lib.hid (up_trans HBW.out hb1)
    have hge := spanN_ge blankB s k
    have hle := spanN_le (p := blankB) hk
    have HSTOP := Lib.hid (spanN_stop (p := blankB) (s := s) (a := k))
    clear hb1
    generalize spanN blankB s k = q at *
    by_cases hq : q = s.length
    · have hd : ((q : Int) == (s.length : Int)) = true := by simp [hq]
      have HF : Hid (blanksN s a = q) := Lib.hid (by rw [HBK.out, blanksN_end (by omega)])
      clear hq
      go_wp2_with fail
      go_ret
      exact ⟨ret_int (by rw [HF.out]), HB1.out⟩
    · have hql : q < s.length := by omega
      have hd : ((q : Int) == (s.length : Int)) = false := by simp; omega
      obtain ⟨b, off, hs0, hbl, hrow⟩ := HS.out (by omega)
      subst hs0
      have hget : s.getD q 0 = s[q] := by rw [List.getD_eq_getElem?_getD, List.getElem?_eq_getElem hql]; rfl
      have y0 := (up_cell HB1.out _ _ hbl).trans (hrow q hql)
      rw [hget] at y0
      have h35 := u8eq s[q] 35
      have HNO := Lib.hid (blanksN_no hql (HSTOP.out hql))
      have HYES := Lib.hid (blanksN_line hql)
      have HMORE := Lib.hid (line_more hql)
      clear hrow hget
      have h35' : (((s[q].toNat : Nat) : Int) == 35) = (s[q] == 35) := h35
      generalize (s[q] == 35) = z at *
      generalize s[q].toNat = c at *
      clear h35
      have hz0 : ((c : Int) != 35) = !z := by rw [← h35']; rfl
      cases z
      · have hz : ((c : Int) != 35) = true := hz0
        have HF : Hid (blanksN s a = q) := Lib.hid (by rw [HBK.out, HNO.out rfl])
        clear hz0 h35'
        go_wp2_with fail
        go_ret
        exact ⟨ret_int (by rw [HF.out]), HB1.out⟩
      · have hz : ((c : Int) != 35) = false := hz0
        have HF : Hid (blanksN s a = blanksN s (spanN noLine s q)) := Lib.hid (by rw [HBK.out, HYES.out rfl])
        have hmore := HMORE.out rfl
        clear hz0 h35'
        go_wp2_with fail
        refine (HC2.out _ HB1.out q (by omega)).mono ?_
        rintro e w2 ⟨rfl, hb2⟩
        have HB2 := Lib.hid (up_trans HB1.out hb2)
        have hle2 := spanN_le (p := noLine) (show q ≤ s.length by omega)
        clear hb2
        generalize spanN noLine s q = q2 at *
        go_wp2_with fail
        go_roundw
        case rel => exact ⟨q2, hle2, rfl, HF.out, HB2.out⟩
        case measure => simp [intOf]; omega
end Go.Proofs.Ytpiamiaigjlafaa
