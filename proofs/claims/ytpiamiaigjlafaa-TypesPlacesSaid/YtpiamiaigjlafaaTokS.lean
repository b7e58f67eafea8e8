/-
  The lexer: numbers, signs, words.
  The lexer: the longest sign.
-/
import Derived.Test.YtpiamiaigjlafaaTokK
import Derived.Deep.LoopGhost
namespace Go.Proofs.Ytpiamiaigjlafaa

section
open Go.RowKit

theorem cut_len {s : List UInt8} {a b : Nat} (hb : b ≤ s.length) : (cutL s a b).length = b - a := by

  unfold cutL
  rw [List.length_take, List.length_drop]
  omega
theorem cut_get {s : List UInt8} {a b i : Nat} (h : a + i < b) : (cutL s a b).getD i 0 = s.getD (a + i) 0 := by
  unfold cutL
  rw [List.getD_eq_getElem?_getD, List.getD_eq_getElem?_getD, List.getElem?_take, if_pos (by omega), List.getElem?_drop]
/-- a piece of the text lies in the text's own row -/
theorem SrcAt.cut {w : World} {b off : Nat} {s : List UInt8} {x y : Nat} (h : SrcAt w (some ⟨b, off, none⟩) s) (hy : y ≤ s.length) : SrcAt w (some ⟨b, off + x, none⟩) (cutL s x y) := by
  intro h0
  rw [cut_len hy] at h0
  obtain ⟨b', off', e, hbl, hrow⟩ := h (by omega)
  injection e with e
  injection e with e1 e2
  subst e1 e2
  refine ⟨b, off + x, rfl, hbl, fun i hi => ?_⟩
  rw [cut_len hy] at hi
  rw [cut_get (by omega), Nat.add_assoc]
  exact hrow (x + i) (by omega)

/-- what 'number' hands back -/
def numV : Option Nat → Value
  | none => .tuple #[.int .i64 0, .bool false]
  | some n => .tuple #[.int .i64 (n : Int), .bool true]
theorem numF_cons (c : UInt8) (r : List UInt8) (n : Nat) : numF (c :: r) n = if (9223372036854775807 - (c.toNat - 48)) / 10 < n then none else numF r (10 * n + (c.toNat - 48)) := rfl
set_option maxRecDepth 100000 in
set_option maxHeartbeats 1000000 in
theorem number_any (s0 : Option Addr) (cap : Nat) (s : List UInt8) (w : World) (hs : SrcAt w s0 s) (hl : s.length ≤ 100000) (hd : ∀ i, i < s.length → digitB (s.getD i 0) = true) :
    Calls Try.prog 47 #[.slice s0 s.length cap] w fun e w' => e = .returned (numV (numF s 0)) ∧ Below w.heap.size w w' := by
  have HS := Lib.hid hs
  have HD := Lib.hid hd
  clear hs hd
  go_enter Try.func47, Try.ntmps47
  go_wp2_with fail
  go_loopw [4, 10] (fun s4 s10 wr => ∃ k n : Nat, k ≤ s.length ∧ s10 = .int .i64 k ∧ s4 = .int .i64 n ∧ (n : Int) ≤ 9223372036854775807 ∧ numF s 0 = numF (s.drop k) n ∧ w = wr) (fun _ s10 _ => s.length - (intOf s10).toNat)
  case atStart => exact ⟨0, 0, Nat.zero_le _, rfl, rfl, by simp, rfl, rfl⟩
  case round =>
    obtain ⟨k, n, hk, rfl, rfl, hn, hnum, rfl⟩ := hrel
    have HN := Lib.hid hnum
    clear hnum
    by_cases hlt : k < s.length
    · obtain ⟨b, off, hs0, hbl, hrow⟩ := HS.out (by omega)
      subst hs0
      have y0 := hrow k hlt
      have hdig := HD.out k hlt
      have hget : s.getD k 0 = s[k] := by rw [List.getD_eq_getElem?_getD, List.getElem?_eq_getElem hlt]; rfl
      have HX := Lib.hid (numF_cons s[k] (s.drop (k + 1)) n)
      have HDR := Lib.hid (drop_get hlt)
      rw [hget] at y0 hdig
      unfold digitB at hdig
      simp only [Bool.and_eq_true, decide_eq_true_eq] at hdig
      obtain ⟨d1, d2⟩ := hdig
      clear hrow hget
      generalize s[k] = ch at *
      generalize hcd : ch.toNat = c at *
      have hc48 : IntKind.u8.wrap ((c : Int) - 48) = (c : Int) - 48 := IntWalk.u8_in _ (by omega)
      obtain ⟨d, rfl⟩ : ∃ d, c = d + 48 := ⟨c - 48, by omega⟩
      have hc1 : 0 ≤ ((d + 48 : Nat) : Int) - 48 ∧ ((d + 48 : Nat) : Int) - 48 ≤ 9 := by omega
      have HX2 : Hid (numF s 0 = if (9223372036854775807 - d) / 10 < n then none else numF (s.drop (k + 1)) (10 * n + d)) := Lib.hid (by
        rw [HN.out, HDR.out, HX.out, Nat.add_sub_cancel])
      clear hcd
      by_cases hbig : (9223372036854775807 - d) / 10 < n
      · have hb2 : (9223372036854775807 - (d : Int)) / 10 < (n : Int) := by omega
        have HF : Hid (numF s 0 = none) := Lib.hid (by rw [HX2.out, if_pos hbig])
        clear hbig
        go_wp2_with fail
        go_ret2
        exact ⟨by rw [HF.out]; rfl, Below.refl _ _⟩
      · have hb2 : ¬ ((9223372036854775807 - (d : Int)) / 10 < (n : Int)) := by omega
        have HF : Hid (numF s 0 = numF (s.drop (k + 1)) (10 * n + d)) := Lib.hid (by rw [HX2.out, if_neg hbig])
        clear hbig
        go_wp2_with fail
        go_roundw
        case rel => exact ⟨k + 1, 10 * n + d, by omega, by go_num, by go_num, by omega, HF.out, by first | rfl | trivial⟩
        case measure => simp [intOf]; omega
    · have hke : k = s.length := by omega
      subst hke
      have HF : Hid (numF s 0 = some n) := Lib.hid (by rw [HN.out, List.drop_length]; rfl)
      clear hlt
      go_wp2_with fail
      go_ret2
      exact ⟨by rw [HF.out]; rfl, Below.refl _ _⟩

/-! ### Words and signs -/
set_option maxRecDepth 100000 in
set_option maxHeartbeats 1000000 in
theorem word_any (s : ByteArray) (w : World) : Calls Try.prog 46 #[.string s] w fun e w' => e = .returned (.bool (wordB s.toList)) ∧ w = w' := by
  have HW : Hid (∀ l, s.toList = l → wordB s.toList = wordB l) := Lib.hid (fun l h => by rw [h])
  have HN : Hid ((∀ l ∈ wordTab, (s.toList == l) = false) → wordB s.toList = false) := Lib.hid (fun h => by
    unfold wordB
    rw [Bool.eq_false_iff]
    intro hc
    have := h _ (List.contains_iff_mem.1 hc)
    simp at this)
  generalize wordB s.toList = q at *
  go_enter Try.func46, Try.ntmps46
  go_wp2_with fail
  all_goals first
    | (exfalso; simp_all; done)
    | (go_ret
       first
         | (refine ⟨ret_bool ?_, rfl⟩; rw [HW.out _ (eq_of_beq (by assumption))]; rfl)
         | (refine ⟨ret_bool ?_, rfl⟩; rw [HN.out (by simp only [wordTab, List.forall_mem_cons]; simp only [*]; simp)]))
end

section
open Go.RowKit

theorem cut_at {s : List UInt8} {a b j : Nat} (hb : b ≤ s.length) (hj : j < (cutL s a b).length) : (cutL s a b)[j] = s.getD (a + j) 0 := by
  rw [cut_len hb] at hj
  rw [← cut_get (b := b) (by omega), List.getD_eq_getElem?_getD, List.getElem?_eq_getElem (by rw [cut_len hb]; exact hj)]
  rfl
/-- string(src[x:y]) -/
theorem conv_src {w : World} {b off : Nat} {s : List UInt8} {x y : Nat} (h : SrcAt w (some ⟨b, off, none⟩) s) (hy : y ≤ s.length) (c n : Nat) (hn : n = y - x) :
    (convert 22 9 (.slice (some ⟨b, off + x, none⟩) n c)).run Try.prog w = .ok (.string ⟨(cutL s x y).toArray⟩) w := by
  have hl := cut_len (a := x) hy
  subst hn
  rw [← hl]
  refine run_convert_bytes_back w 22 9 5 ⟨b, off + x, none⟩ c (cutL s x y) Try.underlying22 Try.underlying5 Try.underlying9 (fun j hj => ?_)
  obtain ⟨b', off', e, _, hrow⟩ := h (by omega)
  injection e with e
  injection e with e1 e2
  subst e1 e2
  rw [Go.WideShapes.add_plain, Nat.add_assoc, cut_at hy hj]
  exact hrow (x + j) (by rw [hl] at hj; omega)

theorem number_n (s0 : Option Addr) (n cap : Nat) (s : List UInt8) (w : World) (hn : n = s.length) (hs : SrcAt w s0 s) (hl : s.length ≤ 100000) (hd : ∀ i, i < s.length → digitB (s.getD i 0) = true) :
    Calls Try.prog 47 #[.slice s0 n cap] w fun e w' => e = .returned (numV (numF s 0)) ∧ Below w.heap.size w w' := by
  subst hn
  exact number_any s0 cap s w hs hl hd
theorem sign_yes {r : List UInt8} (h : isSign r = true) : signOf r = r := by
  match r, h with
  | [], h => rfl
  | [a], h => simp [signOf, h]
  | [a, b], h => simp [signOf, h]
  | a :: b :: c :: t, h => simp [isSign, signTab] at h
theorem sign_no {r : List UInt8} (h : isSign r = false) (hl : r.length ≤ 2) : signOf r = signOf r.dropLast := by
  match r, h, hl with
  | [], _, _ => rfl
  | [a], h, _ => simp [signOf, h]
  | [a, b], h, _ =>
    show (if isSign [a, b] then _ else _) = _
    rw [h]
    rfl
theorem str_list (r : ByteArray) : (⟨r.toList.toArray⟩ : ByteArray) = r := by
  rw [ByteArray.toList_eq]
theorem ret_str {a b : ByteArray} (h : a = b) : Ending.returned (.string a) = .returned (.string b) := by rw [h]

set_option maxRecDepth 100000 in
set_option maxHeartbeats 4000000 in
theorem sign_any (b off cap : Nat) (s : List UInt8) (a : Nat) (w : World) (hs : SrcAt w (some ⟨b, off, none⟩) s) (ha : a < s.length) (hl : s.length ≤ 100000) (hc : s.length ≤ cap) :
    Calls Try.prog 49 #[.slice (some ⟨b, off, none⟩) s.length cap, .int .i64 a] w fun e w' => e = .returned (.string ⟨(signOf (cutL s a (min (a + 2) s.length))).toArray⟩) ∧ w = w' := by
  have key : ∀ y, min (a + 2) s.length = y → a < y → y ≤ s.length → y ≤ a + 2 → Calls Try.prog 49 #[.slice (some ⟨b, off, none⟩) s.length cap, .int .i64 a] w fun e w' => e = .returned (.string ⟨(signOf (cutL s a y)).toArray⟩) ∧ w = w' := by
    intro y hy h1 h2 h3
    have kc := conv_src hs h2 (cap - a) (y - a) rfl
    have hcl := cut_len (a := a) h2
    have HL := Lib.hid hcl
    generalize cutL s a y = l at *
    clear hcl hs
    have hmin : min ((a : Int) + 2) (s.length : Int) = (y : Int) := by omega
    have hya : y - a ≤ 2 := by omega
    have HYA := Lib.hid hya
    clear hy hya
    go_enter Try.func49, Try.ntmps49
    go_wp2_with fail
    go_step3
    go_wp2_with fail
    go_step3
    go_wp2_with fail
    clear kc hmin
    go_loopg [5] 2 (fun g s5 wr => ∃ r : ByteArray, s5 = .string r ∧ r.toList.length ≤ g ∧ g ≤ 2 ∧ signOf l = signOf r.toList ∧ wr = w)
    case atStart => exact ⟨_, rfl, by rw [ByteArray.toList_eq]; show l.length ≤ 2; rw [HL.out]; exact HYA.out, Nat.le_refl _, by rw [ByteArray.toList_eq], rfl⟩
    case round =>
      obtain ⟨r, rfl, hr2, hg2, hso, rfl⟩ := hrel
      have HSO := Lib.hid hso
      clear hso
      have hsz : r.size = r.toList.length := by rw [ByteArray.toList_eq]; rfl
      have HSZ := Lib.hid hsz
      by_cases h0 : r.toList = []
      · have hd : (!r.toList.isEmpty) = false := by rw [h0]; rfl
        have HF : Hid (signOf l = r.toList) := Lib.hid (by rw [HSO.out, h0]; rfl)
        clear h0 hsz
        go_wp2_with fail
        (try rw [Exit.noGoto_ret])
        go_ret
        exact ⟨ret_str (by rw [HF.out, str_list]), rfl⟩
      have hd : (!r.toList.isEmpty) = true := by cases hq : r.toList with
        | nil => exact absurd hq h0
        | cons x t => rfl
      have hlen : 1 ≤ r.toList.length := by
        rcases Nat.eq_zero_or_pos r.toList.length with h | h
        · exact absurd (List.eq_nil_of_length_eq_zero h) h0
        · exact h
      obtain ⟨g2, rfl⟩ : ∃ g2, gk = g2 + 1 := ⟨gk - 1, by omega⟩
      cases hsg : isSign r.toList
      · have hi1 : 1 ≤ (r.size : Int) := by omega
        have hi2 : (r.size : Int) ≤ 2 := by omega
        have HNO : ∀ t ∈ signTab, (r.toList == t) = false := fun t ht => by
          rw [Bool.eq_false_iff]
          intro hc
          have e := eq_of_beq hc
          rw [e] at hsg
          unfold isSign at hsg
          rw [List.contains_iff_mem.2 ht] at hsg
          cases hsg
        have f0 : (r.toList == [61, 61]) = false := HNO _ (by simp [signTab])
        have f1 : (r.toList == [33, 61]) = false := HNO _ (by simp [signTab])
        have f2 : (r.toList == [60, 61]) = false := HNO _ (by simp [signTab])
        have f3 : (r.toList == [62, 61]) = false := HNO _ (by simp [signTab])
        have f4 : (r.toList == [38, 38]) = false := HNO _ (by simp [signTab])
        have f5 : (r.toList == [124, 124]) = false := HNO _ (by simp [signTab])
        have f6 : (r.toList == [40]) = false := HNO _ (by simp [signTab])
        have f7 : (r.toList == [41]) = false := HNO _ (by simp [signTab])
        have f8 : (r.toList == [123]) = false := HNO _ (by simp [signTab])
        have f9 : (r.toList == [125]) = false := HNO _ (by simp [signTab])
        have f10 : (r.toList == [44]) = false := HNO _ (by simp [signTab])
        have f11 : (r.toList == [59]) = false := HNO _ (by simp [signTab])
        have f12 : (r.toList == [58]) = false := HNO _ (by simp [signTab])
        have f13 : (r.toList == [61]) = false := HNO _ (by simp [signTab])
        have f14 : (r.toList == [60]) = false := HNO _ (by simp [signTab])
        have f15 : (r.toList == [62]) = false := HNO _ (by simp [signTab])
        have f16 : (r.toList == [43]) = false := HNO _ (by simp [signTab])
        have f17 : (r.toList == [45]) = false := HNO _ (by simp [signTab])
        have f18 : (r.toList == [42]) = false := HNO _ (by simp [signTab])
        have f19 : (r.toList == [47]) = false := HNO _ (by simp [signTab])
        have f20 : (r.toList == [37]) = false := HNO _ (by simp [signTab])
        have f21 : (r.toList == [33]) = false := HNO _ (by simp [signTab])
        have HX : Hid (signOf l = signOf (r.extract 0 (r.size - 1)).toList ∧ (r.extract 0 (r.size - 1)).toList.length ≤ g2) := Lib.hid (by
          have e : (r.extract 0 (r.size - 1)).toList = r.toList.dropLast := by
            rw [ByteArray.toList_eq, ByteArray.toList_eq]
            simp [List.dropLast_eq_take]
          rw [e]
          exact ⟨by rw [HSO.out, sign_no hsg (by omega)], by rw [List.length_dropLast]; omega⟩)
        clear HNO hsg hsz h0 hlen
        go_wp2_with fail
        go_roundg g2
        case measure => omega
        case rel => exact ⟨_, rfl, HX.out.2, by omega, HX.out.1, rfl⟩
      · have hmem : r.toList ∈ signTab := List.contains_iff_mem.1 hsg
        have HSR := Lib.hid (show signOf l = r.toList from by rw [HSO.out, sign_yes hsg])
        have hr := (str_list r).symm
        clear hsg hsz h0 hlen hd hr2
        simp only [signTab, List.mem_cons, List.not_mem_nil, or_false] at hmem
        rcases hmem with h | h | h | h | h | h | h | h | h | h | h | h | h | h | h | h | h | h | h | h | h | h
        all_goals
          rw [h] at hr
          have HF := Lib.hid (HSR.out.trans h)
          clear HSR HSO HSZ h
          subst hr
          go_wp2_with fail
          (try rw [Exit.noGoto_ret])
          go_ret
          exact ⟨ret_str (by rw [HF.out]), rfl⟩
  by_cases h2 : a + 2 ≤ s.length
  · have e : min (a + 2) s.length = a + 2 := by omega
    rw [e]
    exact key (a + 2) e (by omega) h2 (Nat.le_refl _)
  · have e : min (a + 2) s.length = s.length := by omega
    rw [e]
    exact key s.length e ha (Nat.le_refl _) (by omega)
end
end Go.Proofs.Ytpiamiaigjlafaa
