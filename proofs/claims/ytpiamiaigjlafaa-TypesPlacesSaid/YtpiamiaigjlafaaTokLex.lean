/-
  The lexer: its contract.
-/
import Derived.Test.YtpiamiaigjlafaaTokX
namespace Go.Proofs.Ytpiamiaigjlafaa
open Go.RowKit

theorem nextT_err {s : List UInt8} {a : Nat} {er : Int} (h : nextT s a = .error er) : er = 31 ∨ er = 32 := by
  unfold nextT at h
  dsimp only at h
  repeat' split at h
  all_goals first
    | (injection h with h; omega)
    | (cases h; done)
theorem nextT_ok {s : List UInt8} {a : Nat} {t : Tk} {q : Nat} (ha : a < s.length) (h : nextT s a = .ok (t, q)) : a < q ∧ q ≤ s.length := by
  have hge : s.getD a 0 = s[a] := by rw [List.getD_eq_getElem?_getD, List.getElem?_eq_getElem ha]; rfl
  have hq : ∀ p : UInt8 → Bool, p s[a] = true → a < spanN p s a ∧ spanN p s a ≤ s.length := fun p hp => by
    refine ⟨?_, spanN_le (by omega)⟩
    rw [spanN_yes ha hp]
    have := spanN_ge p s (a + 1)
    omega
  unfold nextT at h
  rw [hge] at h
  dsimp only at h
  split at h
  · rename_i hl
    have := hq alnumB (by unfold alnumB; rw [hl]; rfl)
    split at h
    · injection h with h; injection h with _ h; omega
    · split at h
      · cases h
      · injection h with h; injection h with _ h; omega
  · split at h
    · rename_i hd
      have := hq digitB hd
      split at h
      · cases h
      · injection h with h; injection h with _ h; omega
    · split at h
      · split at h
        · cases h
        · rename_i hne
          split at h
          · cases h
          · injection h with h; injection h with _ h
            have h1 := spanN_ge textB s (a + 1)
            have h2 := spanN_le (p := textB) (s := s) (a := a + 1) (by omega)
            have h3 : spanN textB s (a + 1) ≠ s.length := fun e => hne (by simp [e])
            omega
      · split at h
        · cases h
        · rename_i hne
          injection h with h; injection h with _ h
          have h1 : 0 < (signOf (cutL s a (min (a + 2) s.length))).length := List.length_pos_iff.2 hne
          have h2 : (signOf (cutL s a (min (a + 2) s.length))).length ≤ (cutL s a (min (a + 2) s.length)).length := by
            generalize cutL s a (min (a + 2) s.length) = l
            match l with
            | [] => simp [signOf]
            | [x] => simp only [signOf]; split <;> simp
            | x :: y :: r =>
              simp only [signOf]
              split
              · simp
              · split <;> simp
          rw [cut_len (by omega)] at h2
          omega
/-- the tokens' cells, one behind the other -/
def tksV (l : List Tk) : List Value := l.flatMap fun t => [.int .i64 t.kind, .string t.text, .int .i64 t.num, .int .i64 t.pos]
theorem tksV_snoc (l : List Tk) (t : Tk) : tksV (l ++ [t]) = tksV l ++ [.int .i64 t.kind, .string t.text, .int .i64 t.num, .int .i64 t.pos] := by simp [tksV]
theorem tksV_at : ∀ (l : List Tk) (i : Nat), i < l.length → (tksV l)[i * 4]? = some (.int .i64 (l.getD i default).kind) ∧ (tksV l)[i * 4 + 1]? = some (.string (l.getD i default).text) ∧ (tksV l)[i * 4 + 2]? = some (.int .i64 (l.getD i default).num) ∧ (tksV l)[i * 4 + 3]? = some (.int .i64 (l.getD i default).pos)
  | [], i, h => by simp at h
  | x :: l, i, h => by
    have e : tksV (x :: l) = .int .i64 x.kind :: .string x.text :: .int .i64 x.num :: .int .i64 x.pos :: tksV l := rfl
    rw [e]
    cases i with
    | zero => exact ⟨rfl, rfl, rfl, rfl⟩
    | succ i =>
      have := tksV_at l i (by simpa using h)
      rw [show (i + 1) * 4 = i * 4 + 1 + 1 + 1 + 1 by omega]
      simpa using this
/-- a row of tokens -/
def RowTk (w : World) (s0 : Option Addr) (l : List Tk) : Prop :=
  0 < l.length → ∃ b off, s0 = some ⟨b, off, none⟩ ∧ b < w.heap.size ∧ ∀ i, i < l.length → w.cell? ⟨b, off + i * 4, none⟩ = some (.int .i64 (l.getD i default).kind) ∧ w.cell? ⟨b, off + i * 4 + 1, none⟩ = some (.string (l.getD i default).text) ∧
    w.cell? ⟨b, off + i * 4 + 2, none⟩ = some (.int .i64 (l.getD i default).num) ∧ w.cell? ⟨b, off + i * 4 + 3, none⟩ = some (.int .i64 (l.getD i default).pos)
def TokAt (w : World) (v : Value) (l : List Tk) : Prop := ∃ s0 cap, v = .slice s0 l.length cap ∧ l.length ≤ cap ∧ cap ≤ maxLen ∧ (s0 = none → cap = 0) ∧ RowTk w s0 l
theorem own_toks {w : World} {base : Nat} {v : Value} {l : List Tk} (h : w.ownsRow base 87 4 v l.length (tksV l)) : TokAt w v l := by
  obtain ⟨s0, cap, rfl, h1, h2, h3, h4⟩ := own_form h
  refine ⟨s0, cap, rfl, h1, h2, h3, fun h0 => ?_⟩
  obtain ⟨g, rfl, _, hg, hc⟩ := h4 h0
  refine ⟨g, 0, rfl, hg, fun i hi => ?_⟩
  obtain ⟨a0, a1, a2, a3⟩ := tksV_at l i hi
  rw [Nat.zero_add]
  exact ⟨hc _ _ a0, hc _ _ a1, hc _ _ a2, hc _ _ a3⟩
theorem own_below {W W' : World} {base e s : Nat} {v : Value} {n : Nat} {xs : List Value} (h : W.ownsRow base e s v n xs) (hb : Below W.heap.size W W') : W'.ownsRow base e s v n xs :=
  h.kept (row := none) ⟨hb.os, hb.tape, hb.output, hb.size, fun k hk _ => hb.block k hk⟩ (by cases hv : v.ownBlock <;> simp)
theorem news_blk {W : World} {g : Nat} {arr : Array Value} {t : TypeId} {fz : Nat × Nat} (h : W.heap[g]? = some (.cells arr t fz)) : ∀ j u, arr.toList[j]? = some u → W.cell? ((⟨g, 0, none⟩ : Addr).add j) = some u := by
  intro j u hj
  rw [Go.WideShapes.add_plain, Nat.zero_add]
  exact cell_of h (by simpa using hj)
/-- what 'Lex' hands back -/
def LexSays (w : World) (r : Except (Int × Nat) (List Tk)) (e : Ending) (w' : World) : Prop :=
  (match r with
  | .error (er, p) => e = .returned (.tuple #[.slice none 0 0, .int .i64 er, .int .i64 (p : Int)])
  | .ok l => ∃ v, e = .returned (.tuple #[v, .int .i64 0, .int .i64 0]) ∧ TokAt w' v l) ∧ Below w.heap.size w w'
theorem infoTk : ∃ i, Try.prog.info? 87 = some i ∧ i.zero = some (.agg #[.int .i64 0, .string ⟨#[]⟩, .int .i64 0, .int .i64 0]) ∧ i.size = 4 ∧ i.bytes = 40 := by
  have h : (Try.prog.info? 87).map (fun i => (i.zero, i.size, i.bytes)) = some (some (.agg #[.int .i64 0, .string ⟨#[]⟩, .int .i64 0, .int .i64 0]), 4, 40) := by kernel_rfl
  obtain ⟨i, h1, h2⟩ := Option.map_eq_some_iff.1 h
  simp only [Prod.mk.injEq] at h2
  exact ⟨i, h1, h2.1, h2.2.1, h2.2.2⟩

set_option maxRecDepth 100000 in
set_option maxHeartbeats 4000000 in
theorem lex_any (s0 : Option Addr) (cap : Nat) (s : List UInt8) (w : World) (hs : SrcAt w s0 s) (hl : s.length ≤ 1152921504606846976) (hc : s.length ≤ cap) :
    Calls Try.prog 18 #[.slice s0 s.length cap] w (LexSays w (lexT s)) := by
  have HS := Lib.hid hs
  by_cases hbig : 4096 < s.length
  · have HF : Hid (lexT s = .error (2, 0)) := Lib.hid (by unfold lexT; rw [if_pos hbig])
    have hb : (4096 : Int) < (s.length : Int) := by omega
    clear hs hbig
    go_enter Try.func18, Try.ntmps18
    go_wp2_with fail
    go_ret3
    rw [HF.out]
    exact ⟨rfl, Below.refl _ _⟩
  have hb : ¬ (4096 : Int) < (s.length : Int) := by omega
  have HT : Hid (lexT s = lexG s (s.length + 1) (blanksN s 0) []) := Lib.hid (by unfold lexT; rw [if_neg hbig])
  have hl2 : s.length ≤ 4096 := by omega
  clear hs hbig hl
  go_enter Try.func18, Try.ntmps18
  go_wp2_with fail
  refine (blanks_any s0 cap s 0 w HS.out (by omega) (by omega)).mono ?_
  rintro e w1 ⟨rfl, hb1⟩
  have HB1 := Lib.hid hb1
  have hle := blanksN_le (s := s) (a := 0) (by omega)
  clear hb1
  obtain ⟨i0, hi0, hz0, hz1, hz2⟩ := infoTk
  have HI0 := Lib.hid hi0
  clear hi0
  go_wp2_with fail
  generalize hA : blanksN s 0 = A0 at *
  have HA := Lib.hid hA
  clear hA
  go_loopg [5, 6] (s.length + 1) (fun g s5 s6 wr => ∃ (a : Nat) (v : Value) (out : List Tk), s5 = v ∧ s6 = .int .i64 a ∧ a ≤ s.length ∧ s.length - a < g ∧ out.length ≤ 2048 ∧ lexT s = lexG s g a out ∧ wr.ownsRow w.heap.size 87 4 v out.length (tksV out) ∧ Below w.heap.size w wr)
  case atStart => exact ⟨A0, _, [], rfl, rfl, hle, by omega, by simp, HT.out, own_nil, HB1.out⟩
  case round =>
    obtain ⟨a, v, out, rfl, rfl, ha, hg, hout, hlex, hown, hbw⟩ := hrel
    obtain ⟨g, rfl⟩ : ∃ g, gk = g + 1 := ⟨gk - 1, by omega⟩
    have HLX : Hid (lexT s = if a < s.length then (match nextT s a with | .error e => .error (e, a) | .ok (t, q) => if out.length = 2048 then .error (2, a) else lexG s g (blanksN s q) (out ++ [t])) else .ok out) := Lib.hid hlex
    have HOWN := Lib.hid hown
    have HBW := Lib.hid hbw
    obtain ⟨sv, cv, hv, _⟩ := own_form hown
    clear hlex hown hbw
    by_cases hlt : a < s.length
    · obtain ⟨b, off, hs0, hbl, hrow⟩ := HS.out (by omega)
      subst hs0
      have HNX := Lib.hid (next_any b off cap s a wr (HS.out.later HBW.out) hlt (by omega) (by omega))
      have HL2 : Hid (∀ r, nextT s a = r → lexT s = (match r with | .error e => .error (e, a) | .ok (t, q) => if out.length = 2048 then .error (2, a) else lexG s g (blanksN s q) (out ++ [t]))) := Lib.hid (fun r hr => by rw [HLX.out, if_pos hlt, hr])
      clear hrow
      cases hnx : nextT s a with
      | error er =>
        have her := nextT_err hnx
        rw [hnx] at HNX
        have HF := Lib.hid (HL2.out _ hnx)
        have hen : (er == 0) = false := by simp; omega
        have hen2 : (er != 0) = true := by simp; omega
        clear hnx her
        go_wp2_with fail
        refine HNX.out.mono ?_
        rintro e w2 ⟨⟨k, t, n, p, rfl⟩, hb2⟩
        have HB2 := Lib.hid (up_trans HBW.out hb2)
        clear hb2
        unfold tkV
        go_wp2_with fail
        go_ret3
        rw [HF.out]
        exact ⟨rfl, up_alloc HB2.out _⟩
      | ok r =>
        obtain ⟨t, q⟩ := r
        obtain ⟨hq1, hq2⟩ := nextT_ok hlt hnx
        rw [hnx] at HNX
        have HF := Lib.hid (HL2.out _ hnx)
        clear hnx
        go_wp2_with fail
        refine HNX.out.mono ?_
        rintro e w2 ⟨he2, hb2⟩
        dsimp only at he2
        subst he2
        have HB2 := Lib.hid (up_trans HBW.out hb2)
        unfold tkV
        have HOWN2 := Lib.hid (own_below HOWN.out hb2)
        clear hb2
        subst hv
        by_cases hfull : out.length = 2048
        · have HF2 : Hid (lexT s = .error (2, a)) := Lib.hid (by rw [HF.out]; exact if_pos hfull)
          have hd : ((out.length : Int) == 2048) = true := by simp; omega
          clear hfull
          go_wp2_with fail
          go_ret3
          rw [HF2.out]
          exact ⟨rfl, up_alloc HB2.out _⟩
        have HF2 : Hid (lexT s = lexG s g (blanksN s q) (out ++ [t])) := Lib.hid (by rw [HF.out]; exact if_neg hfull)
        have hd : ((out.length : Int) == 2048) = false := by simp; omega
        have hol : out.length < 2048 := by omega
        clear hfull
        go_wp2_with (at_builtin; refine wpList_append_own _ rfl _ _ _ rfl w.heap.size 87 i0 (.agg #[.int .i64 0, .string ⟨#[]⟩, .int .i64 0, .int .i64 0]) 4 40 Try.underlying62 HI0.out hz0 hz1 hz2 rfl (by decide) _ out.length (tksV out) rfl ((HOWN2.out.alloc _).alloc _) ⟨w2.heap.size + 1, 0, none⟩ 1 1 [.int .i64 t.kind, .string t.text, .int .i64 t.num, .int .i64 t.pos] rfl rfl (news_blk (new_heap _ _ _ (size_alloc _ _))) (by intro u hu; simp at hu; rcases hu with rfl | rfl | rfl | rfl <;> rfl) (by unfold maxLen; omega) (by omega) (by have := HB2.out.size; rw [size_alloc, size_alloc]; omega) ?_; intro v' w3 hown3 hgrow3 _)
        have HB3 : Hid (Below w.heap.size w w3) := Lib.hid ((up_alloc (up_alloc HB2.out _) _).grown hgrow3 (up_alloc (up_alloc HB2.out _) _).size (fun k hk => (HOWN2.out.lt k hk).1))
        have HOWN3 := Lib.hid hown3
        clear hown3 hgrow3
        refine (blanks_any _ cap s q w3 (HS.out.later HB3.out) (by omega) (by omega)).mono ?_
        rintro e w4 ⟨rfl, hb4⟩
        have HB4 := Lib.hid (up_trans HB3.out hb4)
        have HOWN4 := Lib.hid (own_below HOWN3.out hb4)
        have hble := blanksN_le (s := s) (a := q) (by omega)
        have hbge := blanksN_ge s q
        clear hb4
        go_wp2_with fail
        go_roundg g
        case measure => omega
        case rel => exact ⟨blanksN s q, _, out ++ [t], rfl, rfl, hble, by omega, by simp; omega, HF2.out, by rw [List.length_append, tksV_snoc]; exact HOWN4.out, HB4.out⟩
    · have HF : Hid (lexT s = .ok out) := Lib.hid (by rw [HLX.out, if_neg hlt])
      have hae : a = s.length := by omega
      have HTK := Lib.hid (own_toks HOWN.out)
      subst hae hv
      clear hlt
      go_wp2_with fail
      go_ret3
      rw [HF.out]
      exact ⟨⟨_, rfl, HTK.out⟩, HBW.out⟩
end Go.Proofs.Ytpiamiaigjlafaa
