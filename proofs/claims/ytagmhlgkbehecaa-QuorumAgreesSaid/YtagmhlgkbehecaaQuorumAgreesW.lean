/-
  QuorumAgrees returns true for every input.
-/
import Derived.Test.YtagmhlgkbehecaaQuorumHead
namespace Go.Proofs.Ytagmhlgkbehecaa
open Go.RowKit
attribute [local go_sem ↓] Go.wp_at_zero Go.wp_at_succ

/-- the mask of those that answer yes -/
def hv (b : Nat → Bool) : Nat → Nat
  | 0 => 0
  | i + 1 => bif b i then hv b i ||| 2 ^ i else hv b i
def cntG (b : Nat → Bool) : Nat → Nat
  | 0 => 0
  | i + 1 => bif b i then cntG b i + 1 else cntG b i
theorem cntG_eq (p : Int → Bool) (f : Nat → Int) (n : Nat) : cntG (fun i => p (f i)) n = cnt p f n := by
  induction n with
  | zero => rfl
  | succ n ih =>
    simp only [cntG, cnt, ih]
    cases p (f n) <;> simp
theorem hv_lt (b : Nat → Bool) (i : Nat) : hv b i < 2 ^ i := by
  induction i with
  | zero => simp [hv]
  | succ i ih =>
    have h : 2 ^ i < 2 ^ (i + 1) := Nat.pow_lt_pow_succ (by omega)
    simp only [hv]
    cases b i
    · simp only [cond_false]; omega
    · simp only [cond_true]; exact Nat.or_lt_two_pow (by omega) h
theorem ones_hvB (k : Nat) (hk : k ≤ 3) (g : Nat → Bool) : ones (hv g 7 % 2 ^ (2 * k + 1)) = cntG g (2 * k + 1) := by
  have : k = 0 ∨ k = 1 ∨ k = 2 ∨ k = 3 := by omega
  rcases this with rfl | rfl | rfl | rfl
  all_goals
    simp only [hv, cntG]
    generalize g 0 = b0
    try generalize g 1 = b1
    try generalize g 2 = b2
    try generalize g 3 = b3
    try generalize g 4 = b4
    try generalize g 5 = b5
    try generalize g 6 = b6
    revert b0 b1 b2 b3 b4 b5 b6
    decide +kernel
theorem ones_hv (k : Nat) (hk : k ≤ 3) (p : Int → Bool) (f : Nat → Int) : ones (hv (fun i => p (f i)) 7 % 2 ^ (2 * k + 1)) = cnt p f (2 * k + 1) := by
  rw [ones_hvB k hk, cntG_eq]

def geB (n : Int) (F : Nat → Int) (j : Nat) : Bool := decide (n ≤ F j)
def gtB (n : Int) (F : Nat → Int) (j : Nat) : Bool := decide (n < F j)
theorem hv_yes (b : Nat → Bool) (i : Nat) (hi : i ≤ 6) (h : b i = true) : Value.int .u64 (bits .or .u64 ((hv b i : Nat) : Int) (IntKind.u64.wrap ((2 : Int) ^ i))) = Value.int .u64 ((hv b (i + 1) : Nat) : Int) := by
  have h1 := hv_lt b i
  have h2 : 2 ^ i ≤ 2 ^ 6 := Nat.pow_le_pow_right (by omega) hi
  have h3 : (2 : Nat) ^ 6 = 64 := by decide
  rw [wrap_pow i hi, u64_or_nat _ _ (by omega) (by omega)]
  simp only [hv, h, cond_true]
theorem hv_no (b : Nat → Bool) (i : Nat) (h : b i = false) : Value.int .u64 ((hv b i : Nat) : Int) = Value.int .u64 ((hv b (i + 1) : Nat) : Int) := by
  simp only [hv, h, cond_false]
theorem few_nat (f : Int) : (fewF f).toNat ≤ 3 := by unfold fewF; omega
theorem most_have {k : Nat} (hk : k ≤ 3) {f : Nat → Int} {v : Int} (h : IsAgreed k f v) (hp : ∀ i, 0 ≤ f i) :
    mostN k (hv (geB (max 0 v) f) 7) = true ∧ mostN k (hv (gtB (max 0 v) f) 7) = false := by
  obtain ⟨h1, h2⟩ := h
  have hv0 : 0 ≤ v := by
    by_cases h0 : 0 ≤ v
    · exact h0
    · rw [cnt_all _ f (2 * k + 1) (fun i _ => by have := hp i; simp; omega)] at h2
      omega
  rw [Int.max_eq_right hv0]
  unfold mostN
  rw [show geB v f = fun i => (fun x => decide (v ≤ x)) (f i) from rfl, show gtB v f = fun i => (fun x => decide (v < x)) (f i) from rfl, ones_hv k hk (fun x => decide (v ≤ x)) f, ones_hv k hk (fun x => decide (v < x)) f]
  constructor
  · exact decide_eq_true h1
  · exact decide_eq_false (by omega)
theorem own_ge {w : World} {base : Nat} {e : TypeId} {size : Nat} {v : Value} {n : Nat} {xs : List Value} (h : w.ownsRow base e size v n xs) : ∀ q, v.ownBlock = some q → base ≤ q := by
  intro q hq
  rcases h.2 with ⟨rfl, _⟩ | ⟨g, cap, cur, rfl, hg, _⟩
  · cases hq
  · simp [Value.ownBlock] at hq
    omega
theorem own_form {w : World} {base : Nat} {e : TypeId} {v : Value} {n : Nat} {zs : Nat → Int} (h : w.ownsRow base e 1 v n ((List.range n).map fun j => Value.int .i64 (zs j))) :
    ∃ sa cp, v = .slice sa n cp ∧ (0 < n → ∃ g, sa = some ⟨g, 0, none⟩ ∧ g < w.heap.size ∧ ∀ j, j < n → w.cell? ⟨g, j, none⟩ = some (.int .i64 (zs j))) := by
  have h' := h
  rcases h.2 with ⟨rfl, rfl⟩ | ⟨g, cap, cur, rfl, hg, hh, _⟩
  · exact ⟨none, 0, rfl, fun h => absurd h (by omega)⟩
  · refine ⟨_, cap, rfl, fun h0 => ⟨g, rfl, lt_of_block hh, fun j hj => ?_⟩⟩
    rw [World.ownsRow.cellAt h' j (by omega), List.getElem?_map, List.getElem?_range hj]
    rfl

theorem info64 : (Try.prog.info? 2).map (fun i => (i.zero, i.size, i.bytes)) = some (some (.int .i64 0), 1, 8) := by kernel_rfl

set_option maxRecDepth 100000 in
set_option maxHeartbeats 4000000 in
theorem agrees_row (f : Int) (s0 : Option Addr) (len cap : Nat) (zs : Nat → Int) (w : World) (hf : -9223372036854775808 ≤ f ∧ f ≤ 9223372036854775807) (hlen : len ≤ 1000)
    (hc : 0 < len → ∃ b off, s0 = some ⟨b, off, none⟩ ∧ b < w.heap.size ∧ ∀ i, i < len → w.cell? ⟨b, off + i, none⟩ = some (.int .u16 (zs i))) (hz : ∀ i, i < len → 0 ≤ zs i ∧ zs i ≤ 65535) :
    Calls Try.prog 5 #[.int .i64 f, .slice s0 len cap] w fun e w' => e = .returned (.bool true) ∧ Below w.heap.size w w' := by
  have HC := Lib.hid hc
  clear hc
  have hl0 : decide (1000 < (len : Int)) = false := by simp; omega
  obtain ⟨i0, hi, hz0, hz1, hz2⟩ := info_parts info64
  have HI := Lib.hid hi
  have HZ := Lib.hid (And.intro hz0 (And.intro hz1 hz2))
  clear hi hz0 hz1 hz2
  go_enter Try.func5, Try.ntmps5
  go_wp2_with fail
  refine (head_any _).mono ?_
  rintro e w1 ⟨rfl, hb1⟩
  go_wp2_with fail
  go_loopw [6, 7] (fun v i wr => ∃ k : Nat, k ≤ len ∧ i = .int .i64 k ∧ wr.ownsRow w.heap.size 2 1 v k ((List.range k).map fun j => Value.int .i64 (zs j)) ∧ Below w.heap.size w wr) (fun _ i _ => len - (intOf i).toNat)
  case atStart => exact ⟨0, Nat.zero_le _, rfl, World.ownsRow_nil _ _ _ _, hb1⟩
  case round =>
    obtain ⟨k, hk, rfl, hown, hbw⟩ := hrel
    by_cases hlt : k < len
    · obtain ⟨b, off, rfl, hbb, hcell⟩ := HC.out (by omega)
      have hcx : wr.cell? ⟨b, off + k, none⟩ = some (.int .u16 (zs k)) := (hbw.cell (p := ⟨b, off + k, none⟩) hbb).trans (hcell k hlt)
      have hzk := hz k hlt
      go_wp2_with (at_builtin; refine wpList_append_own _ rfl _ _ 23 rfl w.heap.size 2 i0 (.int .i64 0) 1 8 Try.underlying23 HI.out HZ.out.1 HZ.out.2.1 HZ.out.2.2 rfl (by decide) _ _ _ rfl (hown.alloc _) ⟨wr.heap.size, 0, none⟩ 1 1 [.int .i64 (zs k)] rfl rfl ?c1 ?c2 ?c3 ?c4 ?c5 ?_)
      case c1 =>
        intro j u hj
        match j, hj with
        | 0, hj => simp at hj; subst hj; simp [Addr.add]
      case c2 => intro u hu; simp at hu; subst hu; rfl
      case c3 => unfold maxLen; omega
      case c4 => omega
      case c5 => have := hbw.size; simp; omega
      · intro v' w2 hown2 hgrow _
        have hbw2 : Below w.heap.size w w2 := (up_alloc hbw _).grown hgrow (by have := hbw.size; simp; omega) (own_ge hown)
        go_wp2_with fail
        go_roundw
        case rel => exact ⟨k + 1, by omega, by go_num, by rw [List.range_succ, List.map_append]; exact hown2, hbw2⟩
        case measure => simp [intOf]; omega
    · obtain rfl : k = len := by omega
      obtain ⟨sa, cp, hform, hrow⟩ := own_form hown
      subst hform
      have HR := Lib.hid hrow
      clear hrow hown
      go_wp2_with fail
      refine (agreed_any f sa k cp zs wr hf (by omega) (fun h0 => ?_) (fun i hi => by have := hz i hi; omega)).mono ?_
      · obtain ⟨g, rfl, _, hcell⟩ := HR.out h0
        exact ⟨_, rfl, fun i hi => by rw [Go.WideShapes.add_plain, Nat.zero_add]; exact hcell i hi⟩
      rintro e w3 ⟨⟨v, rfl, hv⟩, hb3⟩
      have hbw3 := up_trans hbw hb3
      have hpos : ∀ i, 0 ≤ pad zs k i := fun i => by
        unfold pad
        split
        · exact (hz i (by assumption)).1
        · omega
      obtain ⟨m1, m2⟩ := most_have (few_nat f) hv hpos
      have M1 := Lib.hid m1
      have M2 := Lib.hid m2
      clear m1 m2 hv
      generalize max 0 v = n at M1 M2
      have HB : ∀ g, g < wr.heap.size → ∀ j x, wr.cell? ⟨g, j, none⟩ = some x → w3.cell? ⟨g, j, none⟩ = some x := fun g hg j x h => (hb3.cell (p := ⟨g, j, none⟩) hg).trans h
      have HB := Lib.hid HB
      go_wp2_with fail
      go_loopw [9, 10, 11, 12] (fun s9 s10 s11 _ wx => ∃ i : Nat, i ≤ 7 ∧ s11 = .int .i64 i ∧ s9 = .int .u64 (hv (geB n (pad zs k)) i : Nat) ∧ s10 = .int .u64 (hv (gtB n (pad zs k)) i : Nat) ∧ w3 = wx) (fun _ _ i _ _ => 7 - (intOf i).toNat)
      case atStart => exact ⟨0, by omega, rfl, rfl, rfl, rfl⟩
      case round =>
        obtain ⟨i, hi7, rfl, rfl, rfl, rfl⟩ := hrel
        by_cases hi : i < 7
        · by_cases hik : i < k
          · obtain ⟨g, rfl, hg, hcell⟩ := HR.out (by omega)
            have hcx := HB.out g hg i _ (hcell i hik)
            have hpad : pad zs k i = zs i := if_pos hik
            have HP := Lib.hid hpad
            clear hpad hcell
            generalize zs i = x at HP hcx
            by_cases c1 : n ≤ x
            · have b1 := Lib.hid (show geB n (pad zs k) i = true by unfold geB; rw [HP.out]; simpa using c1)
              by_cases c2 : n < x
              · have b2 := Lib.hid (show gtB n (pad zs k) i = true by unfold gtB; rw [HP.out]; simpa using c2)
                go_wp2_with fail
                go_roundw
                case rel => exact ⟨i + 1, by omega, by go_num, hv_yes _ _ (by omega) b1.out, hv_yes _ _ (by omega) b2.out, trivial⟩
                case measure => simp [intOf]; omega
              · have b2 := Lib.hid (show gtB n (pad zs k) i = false by unfold gtB; rw [HP.out]; simp; omega)
                go_wp2_with fail
                go_roundw
                case rel => exact ⟨i + 1, by omega, by go_num, hv_yes _ _ (by omega) b1.out, hv_no _ _ b2.out, trivial⟩
                case measure => simp [intOf]; omega
            · have b1 := Lib.hid (show geB n (pad zs k) i = false by unfold geB; rw [HP.out]; simp; omega)
              have b2 := Lib.hid (show gtB n (pad zs k) i = false by unfold gtB; rw [HP.out]; simp; omega)
              have c2 : ¬ n < x := by omega
              go_wp2_with fail
              go_roundw
              case rel => exact ⟨i + 1, by omega, by go_num, hv_no _ _ b1.out, hv_no _ _ b2.out, trivial⟩
              case measure => simp [intOf]; omega
          · have hpad : pad zs k i = 0 := if_neg hik
            have HP := Lib.hid hpad
            clear hpad
            by_cases c1 : n ≤ 0
            · have b1 := Lib.hid (show geB n (pad zs k) i = true by unfold geB; rw [HP.out]; simpa using c1)
              by_cases c2 : n < 0
              · have b2 := Lib.hid (show gtB n (pad zs k) i = true by unfold gtB; rw [HP.out]; simpa using c2)
                go_wp2_with fail
                go_roundw
                case rel => exact ⟨i + 1, by omega, by go_num, hv_yes _ _ (by omega) b1.out, hv_yes _ _ (by omega) b2.out, trivial⟩
                case measure => simp [intOf]; omega
              · have b2 := Lib.hid (show gtB n (pad zs k) i = false by unfold gtB; rw [HP.out]; simp; omega)
                go_wp2_with fail
                go_roundw
                case rel => exact ⟨i + 1, by omega, by go_num, hv_yes _ _ (by omega) b1.out, hv_no _ _ b2.out, trivial⟩
                case measure => simp [intOf]; omega
            · have b1 := Lib.hid (show geB n (pad zs k) i = false by unfold geB; rw [HP.out]; simp; omega)
              have b2 := Lib.hid (show gtB n (pad zs k) i = false by unfold gtB; rw [HP.out]; simp; omega)
              have c2 : ¬ n < 0 := by omega
              go_wp2_with fail
              go_roundw
              case rel => exact ⟨i + 1, by omega, by go_num, hv_no _ _ b1.out, hv_no _ _ b2.out, trivial⟩
              case measure => simp [intOf]; omega
        · obtain rfl : i = 7 := by omega
          have l1 := hv_lt (geB n (pad zs k)) 7
          have l2 := hv_lt (gtB n (pad zs k)) 7
          have h27 : (2 : Nat) ^ 7 = 128 := by decide
          have K1 := Lib.hid (fun w => most_any f (hv (geB n (pad zs k)) 7) w hf (by omega))
          have K2 := Lib.hid (fun w => most_any f (hv (gtB n (pad zs k)) 7) w hf (by omega))
          unfold mostF at K1 K2
          rw [M1.out] at K1
          rw [M2.out] at K2
          clear h27 l1 l2
          go_wp2_with fail
          refine (K1.out _).mono ?_
          rintro e w4 ⟨rfl, rfl⟩
          go_wp2_with fail
          refine (K2.out _).mono ?_
          rintro e w4 ⟨rfl, rfl⟩
          go_wp2_with fail
          go_ret
          exact ⟨rfl, hbw3⟩

set_option maxRecDepth 100000 in
set_option maxHeartbeats 1000000 in
theorem agrees_long (f : Int) (a : Option Addr) (len cap : Nat) (w : World) (h : 1000 < len) (hm : len ≤ 9223372036854775807) :
    Calls Try.prog 5 #[.int .i64 f, .slice a len cap] w fun e w' => e = .returned (.bool true) ∧ Below w.heap.size w w' := by
  go_enter Try.func5, Try.ntmps5
  go_wp2_with fail
  refine (head_any _).mono ?_
  rintro e w1 ⟨rfl, hb1⟩
  go_wp2_with fail
  go_ret
  exact ⟨rfl, hb1⟩

theorem agrees_any (f : Int) (a : Option Addr) (len cap : Nat) (zs : List Int) (w : World) (hf : -9223372036854775808 ≤ f ∧ f ≤ 9223372036854775807) (h : IsRow .u16 w a len cap zs) (hcap : len ≤ maxLen) :
    Calls Try.prog 5 #[.int .i64 f, .slice a len cap] w fun e w' => e = .returned (.bool true) ∧ Below w.heap.size w w' := by
  by_cases hlen : len ≤ 1000
  · rcases h.parts with rfl | ⟨b, off, rfl, hb, hlc, hcm, hcell, hwf⟩
    · exact agrees_row f a 0 cap (fun _ => 0) w hf (by omega) (fun h => absurd h (by omega)) (fun i h => absurd h (by omega))
    · exact agrees_row f _ len cap (fun i => zs.getD i 0) w hf hlen (fun _ => ⟨b, off, rfl, hb, hcell⟩) (fun i hi => by simpa [Lit.wf, IntKind.min, IntKind.max, IntKind.signed, IntKind.bits] using hwf i hi)
  · unfold maxLen at hcap
    exact agrees_long f a len cap w (by omega) (by omega)
end Go.Proofs.Ytagmhlgkbehecaa
