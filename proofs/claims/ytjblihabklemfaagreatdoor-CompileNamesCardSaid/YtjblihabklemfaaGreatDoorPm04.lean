/-
  Compile: part 4 of its proof: see the last text.
-/
import Derived.Test.YtjblihabklemfaaGreatDoorPm03
import Derived.Test.YtjblihabklemfaaGreatDoorPm01
set_option maxRecDepth 100000
set_option maxHeartbeats 16000000
namespace Go.Proofs.YtjblihabklemfaaGreatDoor
section
open Go.RowKit
theorem j4 {s : List UInt8} {a : Nat} {er : Int} (h : b9 s a = .error er) : er = 31 ∨ er = 32 := by
 unfold b9 at h
 dsimp only at h
 repeat' split at h
 all_goals first
  | (injection h with h; omega)
  | (cases h; done)
theorem oL {s : List UInt8} {a : Nat} {t : Tk} {q : Nat} (ha : a < s.length) (h : b9 s a = .ok (t, q)) : a < q ∧ q ≤ s.length := by
 have hge : s.getD a 0 = s[a] := by rw [List.getD_eq_getElem?_getD, List.getElem?_eq_getElem ha]; rfl
 have hq : ∀ p : UInt8 → Bool, p s[a] = true → a < aW p s a ∧ aW p s a ≤ s.length := fun p hp => by
  refine ⟨?_, dM (by omega)⟩
  rw [dE ha hp]
  have := dA p s (a + 1)
  omega
 unfold b9 at h
 rw [hge] at h
 dsimp only at h
 split at h
 ·rename_i hl
  have := hq bZ (by unfold bZ; rw [hl]; rfl)
  split at h
  ·injection h with h; injection h with _ h; omega
  ·split at h
   ·cases h
   ·injection h with h; injection h with _ h; omega
 ·split at h
  ·rename_i hd
   have := hq bY hd
   split at h
   ·cases h
   ·injection h with h; injection h with _ h; omega
  ·split at h
   ·split at h
    ·cases h
    ·rename_i hne
     split at h
     ·cases h
     ·injection h with h; injection h with _ h
      have h1 := dA cY s (a + 1)
      have h2 := dM (p := cY) (s := s) (a := a + 1) (by omega)
      have h3 : aW cY s (a + 1) ≠ s.length := fun e => hne (by simp [e])
      omega
   ·split at h
    ·cases h
    ·rename_i hne
     injection h with h; injection h with _ h
     have h1 : 0 < (bE (bX s a (min (a + 2) s.length))).length := List.length_pos_iff.2 hne
     have h2 : (bE (bX s a (min (a + 2) s.length))).length ≤ (bX s a (min (a + 2) s.length)).length := by
      generalize bX s a (min (a + 2) s.length) = l
      match l with
      | [] => simp [bE]
      | [x] => simp only [bE]; split <;> simp
      | x :: y :: r =>
       simp only [bE]
       split
       ·simp
       ·split <;> simp
     rw [dI (by omega)] at h2
     omega
def iW (l : List Tk) : List Value := l.flatMap fun t => [.int .i64 t.kind, .string t.text, .int .i64 t.num, .int .i64 t.pos]
theorem oA (l : List Tk) (t : Tk) : iW (l ++ [t]) = iW l ++ [.int .i64 t.kind, .string t.text, .int .i64 t.num, .int .i64 t.pos] := by simp [iW]
theorem nh : ∀ (l : List Tk) (i : Nat), i < l.length → (iW l)[i * 4]? = some (.int .i64 (l.getD i default).kind) ∧ (iW l)[i * 4 + 1]? = some (.string (l.getD i default).text) ∧ (iW l)[i * 4 + 2]? = some (.int .i64 (l.getD i default).num) ∧ (iW l)[i * 4 + 3]? = some (.int .i64 (l.getD i default).pos)
 | [], i, h => by simp at h
 | x :: l, i, h => by
  have e : iW (x :: l) = .int .i64 x.kind :: .string x.text :: .int .i64 x.num :: .int .i64 x.pos :: iW l := rfl
  rw [e]
  cases i with
  | zero => exact ⟨rfl, rfl, rfl, rfl⟩
  | succ i =>
   have := nh l i (by simpa using h)
   rw [show (i + 1) * 4 = i * 4 + 1 + 1 + 1 + 1 by omega]
   simpa using this
def RowTk (w : World) (s0 : Option Addr) (l : List Tk) : Prop :=
 0 < l.length → ∃ b off, s0 = some ⟨b, off, none⟩ ∧ b < w.heap.size ∧ ∀ i, i < l.length → w.cell? ⟨b, off + i * 4, none⟩ = some (.int .i64 (l.getD i default).kind) ∧ w.cell? ⟨b, off + i * 4 + 1, none⟩ = some (.string (l.getD i default).text) ∧
  w.cell? ⟨b, off + i * 4 + 2, none⟩ = some (.int .i64 (l.getD i default).num) ∧ w.cell? ⟨b, off + i * 4 + 3, none⟩ = some (.int .i64 (l.getD i default).pos)
def qZ (w : World) (v : Value) (l : List Tk) : Prop := ∃ s0 cap, v = .slice s0 l.length cap ∧ l.length ≤ cap ∧ cap ≤ maxLen ∧ (s0 = none → cap = 0) ∧ RowTk w s0 l
theorem pw {w : World} {base : Nat} {v : Value} {l : List Tk} (h : w.ownsRow base 110 4 v l.length (iW l)) : qZ w v l := by
 obtain ⟨s0, cap, rfl, h1, h2, h3, h4⟩ := aY h
 refine ⟨s0, cap, rfl, h1, h2, h3, fun h0 => ?_⟩
 obtain ⟨g, rfl, _, hg, hc⟩ := h4 h0
 refine ⟨g, 0, rfl, hg, fun i hi => ?_⟩
 obtain ⟨a0, a1, a2, a3⟩ := nh l i hi
 rw [Nat.zero_add]
 exact ⟨hc _ _ a0, hc _ _ a1, hc _ _ a2, hc _ _ a3⟩
theorem iF {W W' : World} {base e s : Nat} {v : Value} {n : Nat} {xs : List Value} (h : W.ownsRow base e s v n xs) (hb : Below W.heap.size W W') : W'.ownsRow base e s v n xs :=
 h.kept (row := none) ⟨hb.os, hb.tape, hb.output, hb.size, fun k hk _ => hb.block k hk⟩ (by cases hv : v.ownBlock <;> simp)
theorem fZ {W : World} {g : Nat} {arr : Array Value} {t : TypeId} {fz : Nat × Nat} (h : W.heap[g]? = some (.cells arr t fz)) : ∀ j u, arr.toList[j]? = some u → W.cell? ((⟨g, 0, none⟩ : Addr).add j) = some u := by
 intro j u hj
 rw [Go.WideShapes.add_plain, Nat.zero_add]
 exact aa h (by simpa using hj)
def qm (w : World) (r : Except (Int × Nat) (List Tk)) (e : Ending) (w' : World) : Prop :=
 (match r with
  | .error (er, p) => e = .returned (.tuple #[.slice none 0 0, .int .i64 er, .int .i64 (p : Int)])
  | .ok l => ∃ v, e = .returned (.tuple #[v, .int .i64 0, .int .i64 0]) ∧ qZ w' v l) ∧ Below w.heap.size w w'
theorem rn : ∃ i, Tryz.prog.info? 110 = some i ∧ i.zero = some (.agg #[.int .i64 0, .string ⟨#[]⟩, .int .i64 0, .int .i64 0]) ∧ i.size = 4 ∧ i.bytes = 40 := by
 have h : (Tryz.prog.info? 110).map (fun i => (i.zero, i.size, i.bytes)) = some (some (.agg #[.int .i64 0, .string ⟨#[]⟩, .int .i64 0, .int .i64 0]), 4, 40) := by kernel_rfl
 obtain ⟨i, h1, h2⟩ := Option.map_eq_some_iff.1 h
 simp only [Prod.mk.injEq] at h2
 exact ⟨i, h1, h2.1, h2.2.1, h2.2.2⟩
theorem qS (s0 : Option Addr) (cap : Nat) (s : List UInt8) (w : World) (hs : SrcAt w s0 s) (hl : s.length ≤ 1152921504606846976) (hc : s.length ≤ cap) :
    Calls Tryz.prog 23 #[.slice s0 s.length cap] w (qm w (fM s)) := by
 have HS := zh hs
 by_cases hbig : 4096 < s.length
 ·have HF : Hid (fM s = .error (2, 0)) := zh (by unfold fM; rw [if_pos hbig])
  have hb : (4096 : Int) < (s.length : Int) := by omega
  clear hs hbig
  go_enter Tryz.func23, Tryz.ntmps23
  go_wp2_with fail
  go_ret3
  rw [HF.out]
  exact ⟨rfl, Below.refl _ _⟩
 have hb : ¬ (4096 : Int) < (s.length : Int) := by omega
 have HT : Hid (fM s = io s (s.length + 1) (bq s 0) []) := zh (by unfold fM; rw [if_neg hbig])
 have hl2 : s.length ≤ 4096 := by omega
 clear hs hbig hl
 go_enter Tryz.func23, Tryz.ntmps23
 go_wp2_with fail
 refine (je s0 cap s 0 w HS.out (by omega) (by omega)).mono ?_
 rintro e w1 ⟨rfl, hb1⟩
 have HB1 := zh hb1
 have hle := jx (s := s) (a := 0) (by omega)
 clear hb1
 obtain ⟨i0, hi0, hz0, hz1, hz2⟩ := rn
 have HI0 := zh hi0
 clear hi0
 go_wp2_with fail
 generalize hA : bq s 0 = A0 at *
 have HA := zh hA
 clear hA
 go_loopg [5, 6] (s.length + 1) (fun g s5 s6 wr => ∃ (a : Nat) (v : Value) (out : List Tk), s5 = v ∧ s6 = .int .i64 a ∧ a ≤ s.length ∧ s.length - a < g ∧ out.length ≤ 2048 ∧ fM s = io s g a out ∧ wr.ownsRow w.heap.size 110 4 v out.length (iW out) ∧ Below w.heap.size w wr)
 case atStart => exact ⟨A0, _, [], rfl, rfl, hle, by omega, by simp, HT.out, fC, HB1.out⟩
 case round =>
  obtain ⟨a, v, out, rfl, rfl, ha, hg, hout, hlex, hown, hbw⟩ := hrel
  obtain ⟨g, rfl⟩ : ∃ g, gk = g + 1 := ⟨gk - 1, by omega⟩
  have HLX : Hid (fM s = if a < s.length then (match b9 s a with | .error e => .error (e, a) | .ok (t, q) => if out.length = 2048 then .error (2, a) else io s g (bq s q) (out ++ [t])) else .ok out) := zh hlex
  have HOWN := zh hown
  have HBW := zh hbw
  obtain ⟨sv, cv, hv, _⟩ := aY hown
  clear hlex hown hbw
  by_cases hlt : a < s.length
  ·obtain ⟨b, off, hs0, hbl, hrow⟩ := HS.out (by omega)
   subst hs0
   have HNX := zh (oJ b off cap s a wr (HS.out.later HBW.out) hlt (by omega) (by omega))
   have HL2 : Hid (∀ r, b9 s a = r → fM s = (match r with | .error e => .error (e, a) | .ok (t, q) => if out.length = 2048 then .error (2, a) else io s g (bq s q) (out ++ [t]))) := zh (fun r hr => by rw [HLX.out, if_pos hlt, hr])
   clear hrow
   cases hnx : b9 s a with
   | error er =>
    have her := j4 hnx
    rw [hnx] at HNX
    have HF := zh (HL2.out _ hnx)
    have hen : (er == 0) = false := by simp; omega
    have hen2 : (er != 0) = true := by simp; omega
    clear hnx her
    go_wp2_with fail
    refine HNX.out.mono ?_
    rintro e w2 ⟨⟨k, t, n, p, rfl⟩, hb2⟩
    have HB2 := zh (ak HBW.out hb2)
    clear hb2
    unfold tkV
    go_wp2_with fail
    go_ret3
    rw [HF.out]
    exact ⟨rfl, ae HB2.out _⟩
   | ok r =>
    obtain ⟨t, q⟩ := r
    obtain ⟨hq1, hq2⟩ := oL hlt hnx
    rw [hnx] at HNX
    have HF := zh (HL2.out _ hnx)
    clear hnx
    go_wp2_with fail
    refine HNX.out.mono ?_
    rintro e w2 ⟨he2, hb2⟩
    dsimp only at he2
    subst he2
    have HB2 := zh (ak HBW.out hb2)
    unfold tkV
    have HOWN2 := zh (iF HOWN.out hb2)
    clear hb2
    subst hv
    by_cases hfull : out.length = 2048
    ·have HF2 : Hid (fM s = .error (2, a)) := zh (by rw [HF.out]; exact if_pos hfull)
     have hd : ((out.length : Int) == 2048) = true := by simp; omega
     clear hfull
     go_wp2_with fail
     go_ret3
     rw [HF2.out]
     exact ⟨rfl, ae HB2.out _⟩
    have HF2 : Hid (fM s = io s g (bq s q) (out ++ [t])) := zh (by rw [HF.out]; exact if_neg hfull)
    have hd : ((out.length : Int) == 2048) = false := by simp; omega
    have hol : out.length < 2048 := by omega
    clear hfull
    go_wp2_with (at_builtin; refine wpList_append_own _ rfl _ _ _ rfl w.heap.size 110 i0 (.agg #[.int .i64 0, .string ⟨#[]⟩, .int .i64 0, .int .i64 0]) 4 40 Tryz.underlying80 HI0.out hz0 hz1 hz2 rfl (by decide) _ out.length (iW out) rfl ((HOWN2.out.alloc _).alloc _) ⟨w2.heap.size + 1, 0, none⟩ 1 1 [.int .i64 t.kind, .string t.text, .int .i64 t.num, .int .i64 t.pos] rfl rfl (fZ (ah _ _ _ (ag _ _))) (by intro u hu; simp at hu; rcases hu with rfl | rfl | rfl | rfl <;> rfl) (by unfold maxLen; omega) (by omega) (by have := HB2.out.size; rw [ag, ag]; omega) ?_; intro v' w3 hown3 hgrow3 _)
    have HB3 : Hid (Below w.heap.size w w3) := zh ((ae (ae HB2.out _) _).grown hgrow3 (ae (ae HB2.out _) _).size (fun k hk => (HOWN2.out.lt k hk).1))
    have HOWN3 := zh hown3
    clear hown3 hgrow3
    refine (je _ cap s q w3 (HS.out.later HB3.out) (by omega) (by omega)).mono ?_
    rintro e w4 ⟨rfl, hb4⟩
    have HB4 := zh (ak HB3.out hb4)
    have HOWN4 := zh (iF HOWN3.out hb4)
    have hble := jx (s := s) (a := q) (by omega)
    have hbge := mG s q
    clear hb4
    go_wp2_with fail
    go_roundg g
    case measure => omega
    case rel => exact ⟨bq s q, _, out ++ [t], rfl, rfl, hble, by omega, by simp; omega, HF2.out, by rw [List.length_append, oA]; exact HOWN4.out, HB4.out⟩
  ·have HF : Hid (fM s = .ok out) := zh (by rw [HLX.out, if_neg hlt])
   have hae : a = s.length := by omega
   have HTK := zh (pw HOWN.out)
   subst hae hv
   clear hlt
   go_wp2_with fail
   go_ret3
   rw [HF.out]
   exact ⟨⟨_, rfl, HTK.out⟩, HBW.out⟩
end
section
open Go.RowKit
structure RdAt (w : World) (rb : Nat) (l : List Tk) (en : Int) : Prop where
 obj : ∃ arr, w.heap[rb]? = some (.cells arr 88 (0, 0))
 rest : ∃ s0 cap, w.cell? ⟨rb, 0, none⟩ = some (.slice s0 l.length cap) ∧ l.length ≤ cap ∧ cap ≤ maxLen ∧ RowTk w s0 l ∧ ∀ b off, s0 = some ⟨b, off, none⟩ → b < rb
 fin : w.cell? ⟨rb, 1, none⟩ = some (.int .i64 en)
 few : l.length ≤ 100000
theorem RdAt.on {w w' : World} {rb : Nat} {l : List Tk} {en : Int} (h : RdAt w rb l en) (hb : Below w.heap.size w w') : RdAt w' rb l en := by
 obtain ⟨arr, ho⟩ := h.obj
 obtain ⟨s0, cap, h1, h2, h3, h4, h5⟩ := h.rest
 refine ⟨⟨arr, (hb.block _ (ad ho)).trans ho⟩, ⟨s0, cap, (aK hb _ _ (ad ho)).trans h1, h2, h3, fun h0 => ?_, h5⟩, (aK hb _ _ (ad ho)).trans h.fin, h.few⟩
 obtain ⟨b, off, e, hbl, hc⟩ := h4 h0
 refine ⟨b, off, e, Nat.lt_of_lt_of_le hbl hb.size, fun i hi => ?_⟩
 obtain ⟨x0, x1, x2, x3⟩ := hc i hi
 exact ⟨(aK hb _ _ hbl).trans x0, (aK hb _ _ hbl).trans x1, (aK hb _ _ hbl).trans x2, (aK hb _ _ hbl).trans x3⟩
theorem RdAt.lt {w : World} {rb : Nat} {l : List Tk} {en : Int} (h : RdAt w rb l en) : rb < w.heap.size := by
 obtain ⟨arr, ho⟩ := h.obj
 exact ad ho
theorem RdAt.off {w w' : World} {rb k : Nat} {l : List Tk} {en : Int} (h : RdAt w rb l en) (ho : On k w w') (hk : rb < k) : RdAt w' rb l en := by
 obtain ⟨arr, hob⟩ := h.obj
 obtain ⟨s0, cap, h1, h2, h3, h4, h5⟩ := h.rest
 refine ⟨⟨arr, ho.obj (Nat.ne_of_lt hk) hob⟩, ⟨s0, cap, ho.cell (Nat.ne_of_lt hk) h1, h2, h3, fun h0 => ?_, h5⟩, ho.cell (Nat.ne_of_lt hk) h.fin, h.few⟩
 obtain ⟨b, off, e, hbl, hc⟩ := h4 h0
 have hb := h5 b off e
 refine ⟨b, off, e, Nat.lt_of_lt_of_le hbl ho.size, fun i hi => ?_⟩
 obtain ⟨x0, x1, x2, x3⟩ := hc i hi
 exact ⟨ho.cell (by omega) x0, ho.cell (by omega) x1, ho.cell (by omega) x2, ho.cell (by omega) x3⟩
theorem RdAt.set {w : World} {rb : Nat} {l r : List Tk} {en : Int} (h : RdAt w rb l en) {s0 : Option Addr} {cap : Nat} (hf : r.length ≤ l.length) (h1 : r.length ≤ cap) (h2 : cap ≤ maxLen) (h3 : RowTk w s0 r) (h4 : ∀ b off, s0 = some ⟨b, off, none⟩ → b < rb) : RdAt (w.setCell ⟨rb, 0, none⟩ (.slice s0 r.length cap)) rb r en := by
 obtain ⟨_, _, hc0, _⟩ := h.rest
 refine ⟨l9 h.obj, ⟨s0, cap, dh _ hc0, h1, h2, fun h0 => ?_, h4⟩, (aR _ _ (.inr (by omega))).trans h.fin, Nat.le_trans hf h.few⟩
 obtain ⟨b, off, e, hbl, hc⟩ := h3 h0
 have hne := Nat.ne_of_lt (h4 b off e)
 refine ⟨b, off, e, by rw [ax]; exact hbl, fun i hi => ?_⟩
 obtain ⟨x0, x1, x2, x3⟩ := hc i hi
 exact ⟨(aR _ _ (.inl (Ne.symm hne))).trans x0, (aR _ _ (.inl (Ne.symm hne))).trans x1, (aR _ _ (.inl (Ne.symm hne))).trans x2, (aR _ _ (.inl (Ne.symm hne))).trans x3⟩
theorem RowTk.tail {w : World} {b off : Nat} {t : Tk} {r : List Tk} (h : RowTk w (some ⟨b, off, none⟩) (t :: r)) : RowTk w (some ⟨b, off + 4, none⟩) r := fun _ => by
 obtain ⟨b', off', e, hbl, hc⟩ := h (by simp)
 injection e with e
 injection e with e1 e2
 subst e1 e2
 refine ⟨b, off + 4, rfl, hbl, fun i hi => ?_⟩
 have := hc (i + 1) (by simpa using hi)
 rw [show off + (i + 1) * 4 = off + 4 + i * 4 by omega] at this
 simpa using this
def Pan (er p : Int) : Ending := .panicked [{ v := .iface 84 (.agg #[.int .i64 er, .int .i64 p]), recovered := false }]
def PSays {α : Type} (rb : Nat) (en : Int) (w : World) (R : World → α → Value → Prop) (r : Except (Int × Int) (α × List Tk)) (e : Ending) (w' : World) : Prop :=
 (match r with
  | .error (er, p) => e = Pan er p
  | .ok (x, l) => ∃ v, e = .returned v ∧ R w' x v ∧ RdAt w' rb l en) ∧ On rb w w'
theorem dZ (rb : Nat) (l : List Tk) (en : Int) (w : World) (h : RdAt w rb l en) : Calls Tryz.prog 40 #[.pointer (some ⟨rb, 0, none⟩)] w fun e w' => e = .returned (.int .i64 (aM en l)) ∧ w = w' := by
 obtain ⟨s0, cap, hc0, hle, hcm, hrow, _⟩ := h.rest
 have hfin := h.fin
 have HR := zh hrow
 clear h hrow
 unfold maxLen at hcm
 cases l with
 | nil =>
  go_enter Tryz.func40, Tryz.ntmps40
  go_wp2_with fail
  go_ret
  exact ⟨rfl, rfl⟩
 | cons t r =>
  obtain ⟨b, off, hs, hbl, hcell⟩ := HR.out (by simp)
  subst hs
  obtain ⟨_, _, _, t3⟩ := hcell 0 (by simp)
  have t3' : w.cell? ⟨b, off + 3, none⟩ = some (.int .i64 t.pos) := by simpa using t3
  clear hcell t3
  have hn : (((t :: r).length : Int) == 0) = false := by simp; omega
  have hn2 : (0 : Int) < ((t :: r).length : Int) := by simp
  have hpl : aM en (t :: r) = t.pos := rfl
  rw [hpl]
  generalize t.pos = ps at *
  generalize (t :: r).length = n at *
  go_enter Tryz.func40, Tryz.ntmps40
  go_wp2_with fail
  go_ret
  exact ⟨rfl, rfl⟩
theorem jA (rb : Nat) (l : List Tk) (en er : Int) (w : World) (h : RdAt w rb l en) : Calls Tryz.prog 80 #[.pointer (some ⟨rb, 0, none⟩), .int .i64 er] w fun e w' => e = Pan er (aM en l) ∧ w = w' := by
 go_enter Tryz.func80, Tryz.ntmps80
 go_wp2_with fail
 refine (dZ rb l en _ h).mono ?_
 rintro e w1 ⟨rfl, rfl⟩
 go_wp2_with fail
 exact ⟨rfl, rfl, rfl⟩
theorem ku (rb : Nat) (d : Int) (w : World) (hd : d ≤ 32) : Calls Tryz.prog 83 #[.pointer (some ⟨rb, 0, none⟩), .int .i64 d] w fun e w' => e = .returned (.int .i64 d) ∧ w = w' := by
 go_enter Tryz.func83, Tryz.ntmps83
 go_wp2_with fail
 go_ret
 exact ⟨rfl, rfl⟩
theorem kB (rb : Nat) (l : List Tk) (en d : Int) (w : World) (h : RdAt w rb l en) (hd : 32 < d) : Calls Tryz.prog 83 #[.pointer (some ⟨rb, 0, none⟩), .int .i64 d] w fun e w' => e = Pan 42 (aM en l) ∧ w = w' := by
 go_enter Tryz.func83, Tryz.ntmps83
 go_wp2_with fail
 refine (jA rb l en 42 _ h).mono ?_
 rintro e w1 ⟨rfl, rfl⟩
 unfold Pan
 go_wp2_with fail
 exact ⟨rfl, rfl, rfl⟩
theorem dS (rb i : Nat) (s : ByteArray) (l : List Tk) (en : Int) (w : World) (h : RdAt w rb l en) : Calls Tryz.prog 82 #[.pointer (some ⟨rb, 0, none⟩), .int .i64 (i : Int), .string s] w fun e w' => e = .returned (.bool (atS l i s)) ∧ w = w' := by
 obtain ⟨s0, cap, hc0, hle, hcm, hrow, _⟩ := h.rest
 have HR := zh hrow
 clear h hrow
 unfold maxLen at hcm
 by_cases hi : i < l.length
 ·obtain ⟨b, off, hs, hbl, hcell⟩ := HR.out (by omega)
  subst hs
  obtain ⟨t0, t1, _, _⟩ := hcell i hi
  have HA : Hid (∀ z, ((l.getD i default).kind == 4) = z → atS l i s = (z && (l.getD i default).text.toList == s.toList)) := zh (fun z hz => by
    unfold atS
    rw [List.getElem?_eq_getElem hi, List.getD_eq_getElem?_getD, List.getElem?_eq_getElem hi] at *
    dsimp only [Option.getD_some] at *
    rw [hz])
  have HA2 := zh (HA.out _ rfl)
  clear hcell
  generalize (l.getD i default).kind = k at *
  generalize (l.getD i default).text = tx at *
  generalize atS l i s = q at *
  cases hk : (k == 4)
  ·have HF : Hid (q = false) := zh (by rw [HA2.out, hk]; rfl)
   clear HA HA2
   go_enter Tryz.func82, Tryz.ntmps82
   go_wp2_with fail
   go_ret
   exact ⟨bF HF.out.symm, rfl⟩
  ·have HF : Hid (q = (tx.toList == s.toList)) := zh (by rw [HA2.out, hk]; rfl)
   clear HA HA2
   go_enter Tryz.func82, Tryz.ntmps82
   go_wp2_with fail
   go_ret
   exact ⟨bF HF.out.symm, rfl⟩
 ·have HF : Hid (atS l i s = false) := zh (by unfold atS; rw [List.getElem?_eq_none (by omega)])
  have hi2 : ¬ ((i : Int) < (l.length : Int)) := by omega
  generalize atS l i s = q at *
  go_enter Tryz.func82, Tryz.ntmps82
  go_wp2_with fail
  go_ret
  exact ⟨bF HF.out.symm, rfl⟩
theorem i6 (i : Nat) (s : ByteArray) : atS [] i s = false := by unfold atS; simp
theorem nd {rb : Nat} {w : World} {t : Tk} {r : List Tk} {en : Int} {b off cap n : Nat} (h : RdAt w rb (t :: r) en) (hc0 : w.cell? ⟨rb, 0, none⟩ = some (.slice (some ⟨b, off, none⟩) n cap)) (s0 : Option Addr) (c k : Nat) (hk : k = r.length)
    (h1 : k ≤ c) (h2 : c ≤ maxLen) (h3 : 0 < k → s0 = some ⟨b, off + 4, none⟩) (h4 : ∀ b' o', s0 = some ⟨b', o', none⟩ → b' = b) : RdAt (w.setCell ⟨rb, 0, none⟩ (.slice s0 k c)) rb r en := by
 obtain ⟨s0', cap', hc0', _, _, hrow, hne⟩ := h.rest
 rw [hc0] at hc0'
 injection hc0' with e
 injection e with e1 e2 e3
 subst e1 hk
 refine h.set (Nat.le_succ _) h1 h2 (fun h0 => ?_) (fun b' o' e => ?_)
 ·have := h3 h0
  subst this
  exact hrow.tail h0
 ·rw [h4 b' o' e]
  exact hne b off rfl
theorem gl (rb : Nat) (s : ByteArray) (l : List Tk) (en : Int) (w : World) (h : RdAt w rb l en) :
    Calls Tryz.prog 46 #[.pointer (some ⟨rb, 0, none⟩), .string s] w fun e w' => e = .returned (.bool (atS l 0 s)) ∧ RdAt w' rb (if atS l 0 s then l.tail else l) en ∧ On rb w w' := by
 have HA := zh (dS rb 0 s l en w h)
 have HH := zh h
 cases l with
 | nil =>
  rw [i6] at *
  clear h
  go_enter Tryz.func46, Tryz.ntmps46
  go_wp2_with fail
  refine HA.out.mono ?_
  rintro e w1 ⟨rfl, rfl⟩
  go_wp2_with fail
  go_ret
  exact ⟨rfl, HH.out, On.refl _ _⟩
 | cons t r =>
  obtain ⟨s0, cap, hc0, hle, hcm, hrow, hne⟩ := h.rest
  obtain ⟨b, off, hs, hbl, _⟩ := hrow (by simp)
  subst hs
  have HT := zh (fun s0 c k => nd (n := (t :: r).length) (cap := cap) h hc0 s0 c k)
  have hfz : w.frozen? ⟨rb, 0, none⟩ = false := by
   obtain ⟨_, ho⟩ := h.obj
   exact ab ho 0
  have hnn : (1 : Int) ≤ ((t :: r).length : Int) := by simp; omega
  have hlen : (t :: r).length = r.length + 1 := rfl
  have HLEN := zh hlen
  clear hrow h hne
  unfold maxLen at hcm
  cases hq : atS (t :: r) 0 s
  ·rw [hq] at HA
   clear hq hlen
   generalize (t :: r).length = n at *
   go_enter Tryz.func46, Tryz.ntmps46
   go_wp2_with fail
   refine HA.out.mono ?_
   rintro e w1 ⟨rfl, rfl⟩
   go_wp2_with fail
   go_ret
   exact ⟨rfl, HH.out, On.refl _ _⟩
  ·rw [hq] at HA
   clear hq hlen
   generalize (t :: r).length = n at *
   by_cases hcap : cap = 1
   ·subst hcap
    have hn1 : n = 1 := by omega
    have HN1 := zh hn1
    subst hn1
    go_enter Tryz.func46, Tryz.ntmps46
    go_wp2_with fail
    refine HA.out.mono ?_
    rintro e w1 ⟨rfl, rfl⟩
    go_wp2_with fail
    go_ret
    exact ⟨rfl, HT.out _ 0 0 (by have := HLEN.out; omega) (Nat.le_refl _) (Nat.zero_le _) (fun h => absurd h (by omega)) (fun b' o' e => by injection e with e; injection e with e _; exact e.symm), (On.refl _ _).set 0 _⟩
   ·have hcap2 : (1 : Int) < (cap : Int) := by omega
    go_enter Tryz.func46, Tryz.ntmps46
    go_wp2_with fail
    refine HA.out.mono ?_
    rintro e w1 ⟨rfl, rfl⟩
    go_wp2_with fail
    go_ret
    exact ⟨rfl, HT.out _ (cap - 1) (n - 1) (by have := HLEN.out; omega) (by omega) (by unfold maxLen; omega) (fun _ => rfl) (fun b' o' e => by injection e with e; injection e with e _; exact e.symm), (On.refl _ _).set 0 _⟩
theorem aU (rb sb : Nat) (s : ByteArray) (l : List Tk) (en : Int) (w : World) (h : RdAt w rb l en) (hs : w.cell? ⟨sb, 0, none⟩ = some (.string s)) :
    Calls Tryz.prog 41 #[.pointer (some ⟨rb, 0, none⟩), .slice (some ⟨sb, 0, none⟩) 1 1] w (PSays rb en w (fun _ _ v => v = .tuple #[]) (aX en s l)) := by
 have HA := zh (gl rb s l en w h)
 have HF := zh (fun (W : World) (hW : RdAt W rb l en) => jA rb l en 41 W hW)
 have HMY : Hid (atS l 0 s = true → aX en s l = .ok ((), l.tail)) := zh (fun h => by unfold aX; rw [if_pos h])
 have HMN : Hid (atS l 0 s = false → aX en s l = .error (41, aM en l)) := zh (fun h => by unfold aX; rw [if_neg (by rw [h]; decide)])
 generalize aX en s l = m at *
 generalize aM en l = pl at *
 have HH := zh h
 clear h
 go_enter Tryz.func41, Tryz.ntmps41
 go_wp2_with fail
 cases hq : atS l 0 s
 ·rw [hq] at HA HMN HMY
  have HM := zh (HMN.out rfl)
  clear hq
  go_loopw [8] (fun s8 wr => s8 = .int .i64 0 ∧ w = wr) (fun s8 _ => 1 - (intOf s8).toNat)
  case atStart => exact ⟨rfl, rfl⟩
  case round =>
   obtain ⟨rfl, rfl⟩ := hrel
   go_wp2_with fail
   refine HA.out.mono ?_
   rintro e w1 ⟨rfl, hr1, ho1⟩
   have HR1 := zh hr1
   have HO1 := zh ho1
   clear hr1 ho1
   go_wp2_with fail
   refine (HF.out w1 HR1.out).mono ?_
   rintro e w2 ⟨rfl, rfl⟩
   unfold Pan
   go_wp2_with fail
   refine ⟨rfl, ?_⟩
   rw [HM.out]
   exact ⟨rfl, HO1.out⟩
 ·rw [hq] at HA HMN HMY
  have HM := zh (HMY.out rfl)
  clear hq
  go_loopw [8] (fun s8 wr => (s8 = .int .i64 0 ∧ w = wr) ∨ (s8 = .int .i64 1 ∧ RdAt wr rb l.tail en ∧ On rb w wr)) (fun s8 _ => 1 - (intOf s8).toNat)
  case atStart => exact .inl ⟨rfl, rfl⟩
  case round =>
   rcases hrel with ⟨rfl, rfl⟩ | ⟨rfl, hr1, ho1⟩
   ·go_wp2_with fail
    refine HA.out.mono ?_
    rintro e w1 ⟨rfl, hr1, ho1⟩
    have HR1 := zh hr1
    have HO1 := zh ho1
    clear hr1 ho1
    go_wp2_with fail
    go_roundw
    case rel => exact .inr ⟨rfl, HR1.out, HO1.out⟩
    case measure => simp [intOf]
   ·have HR1 := zh hr1
    have HO1 := zh ho1
    clear hr1 ho1
    go_wp2_with fail
    go_end0
    rw [HM.out]
    exact ⟨⟨_, rfl, rfl, HR1.out⟩, HO1.out⟩
theorem lO (rb : Nat) (k : Int) (l : List Tk) (en : Int) (w : World) (h : RdAt w rb l en) :
    Calls Tryz.prog 81 #[.pointer (some ⟨rb, 0, none⟩), .int .i64 k] w (PSays rb en w (fun _ t v => v = tkV t.kind t.text t.num t.pos) (dv en k l)) := by
 have HF := zh (fun (W : World) (hW : RdAt W rb l en) => jA rb l en 41 W hW)
 have HH := zh h
 have hb0 : Below w.heap.size w (w.alloc (.cells #[.int .i64 0, .string ⟨#[]⟩, .int .i64 0, .int .i64 0] 110)) := ae (Below.refl _ _) _
 have HB0 := zh hb0
 have HR0 := zh (h.on hb0)
 have hlt := h.lt
 obtain ⟨s0, cap, hc0, hle, hcm, hrow, hne⟩ := h.rest
 unfold maxLen at hcm
 cases l with
 | nil =>
  have HM : Hid (dv en k [] = .error (41, aM en [])) := zh rfl
  clear h hrow hb0 hne
  go_enter Tryz.func81, Tryz.ntmps81
  go_wp2_with fail
  refine (HF.out _ HR0.out).mono ?_
  rintro e w2 ⟨rfl, rfl⟩
  unfold Pan
  go_wp2_with fail
  refine ⟨rfl, ?_⟩
  rw [HM.out]
  exact ⟨rfl, On.of_below HB0.out⟩
 | cons t r =>
  obtain ⟨b, off, hs, hbl, hcell⟩ := hrow (by simp)
  subst hs
  obtain ⟨x0, x1, x2, x3⟩ := hcell 0 (by simp)
  have y0 : w.cell? ⟨b, off, none⟩ = some (.int .i64 t.kind) := by simpa using x0
  have y1 : w.cell? ⟨b, off + 1, none⟩ = some (.string t.text) := by simpa using x1
  have y2 : w.cell? ⟨b, off + 2, none⟩ = some (.int .i64 t.num) := by simpa using x2
  have y3 : w.cell? ⟨b, off + 3, none⟩ = some (.int .i64 t.pos) := by simpa using x3
  have HT := zh (fun (W : World) (hW : RdAt W rb (t :: r) en) (hcW : W.cell? ⟨rb, 0, none⟩ = some (.slice (some ⟨b, off, none⟩) (t :: r).length cap)) s0 c k => nd (n := (t :: r).length) (cap := cap) hW hcW s0 c k)
  have hfz : w.frozen? ⟨rb, 0, none⟩ = false := by
   obtain ⟨_, ho⟩ := h.obj
   exact ab ho 0
  have hnz : (((t :: r).length : Int) == 0) = false := by simp; omega
  have hnn : (1 : Int) ≤ ((t :: r).length : Int) := by simp; omega
  have HLEN := zh (show (t :: r).length = r.length + 1 from rfl)
  have HMY : Hid ((t.kind == k) = true → dv en k (t :: r) = .ok (t, r)) := zh (fun h => by unfold dv; dsimp only; rw [if_pos h])
  have HMN : Hid ((t.kind == k) = false → dv en k (t :: r) = .error (41, aM en (t :: r))) := zh (fun h => by unfold dv; dsimp only; rw [if_neg (by rw [h]; decide)]; rfl)
  clear h hrow hb0 hne hcell x0 x1 x2 x3
  generalize dv en k (t :: r) = m at *
  generalize aM en (t :: r) = pl at *
  cases hq : (t.kind == k)
  ·have HM := zh (HMN.out hq)
   have hq2 : (t.kind != k) = true := by simp [bne, hq]
   clear hq
   generalize (t :: r).length = n at *
   go_enter Tryz.func81, Tryz.ntmps81
   go_wp2_with fail
   refine (HF.out _ HR0.out).mono ?_
   rintro e w2 ⟨rfl, rfl⟩
   unfold Pan
   go_wp2_with fail
   refine ⟨rfl, ?_⟩
   rw [HM.out]
   exact ⟨rfl, On.of_below HB0.out⟩
  ·have HM := zh (HMY.out hq)
   have hq2 : (t.kind != k) = false := by simp [bne, hq]
   clear hq
   generalize (t :: r).length = n at *
   by_cases hcap : cap = 1
   ·subst hcap
    have hn1 : n = 1 := by omega
    subst hn1
    go_enter Tryz.func81, Tryz.ntmps81
    go_wp2_with fail
    refine bodyPost_ret (v := tkV t.kind t.text t.num t.pos) (by simp [results, Tryz.results81, go_sem, tkV]) rfl ?_
    rw [HM.out]
    exact ⟨⟨_, rfl, rfl, (HT.out w HH.out hc0 _ 0 0 (by have := HLEN.out; omega) (Nat.le_refl _) (Nat.zero_le _) (fun h => absurd h (by omega)) (fun b' o' e => by injection e with e; injection e with e _; exact e.symm)).on (ae (ae (Below.refl _ _) _) _)⟩, (((On.refl _ _).set 0 _).alloc _).alloc _⟩
   ·have hcap2 : (1 : Int) < (cap : Int) := by omega
    go_enter Tryz.func81, Tryz.ntmps81
    go_wp2_with fail
    refine bodyPost_ret (v := tkV t.kind t.text t.num t.pos) (by simp [results, Tryz.results81, go_sem, tkV]) rfl ?_
    rw [HM.out]
    exact ⟨⟨_, rfl, rfl, (HT.out w HH.out hc0 _ (cap - 1) (n - 1) (by have := HLEN.out; omega) (by omega) (by unfold maxLen; omega) (fun _ => rfl) (fun b' o' e => by injection e with e; injection e with e _; exact e.symm)).on (ae (ae (Below.refl _ _) _) _)⟩, (((On.refl _ _).set 0 _).alloc _).alloc _⟩
theorem jT (k n p : Int) (t : ByteArray) (W : World) : (Instr.field 110 (.agg #[.int .i64 k, .string t, .int .i64 n, .int .i64 p]) 1).run Tryz.prog W = .ok (.string t) W := by kernel_rfl
theorem fd (rb : Nat) (l : List Tk) (en : Int) (w : World) (h : RdAt w rb l en) :
    Calls Tryz.prog 42 #[.pointer (some ⟨rb, 0, none⟩)] w (PSays rb en w (fun _ t v => v = .string t) (dN en l)) := by
 have HK := zh (lO rb 1 l en w h)
 have HN : Hid (∀ m, dv en 1 l = m → dN en l = (match m with | .error e => .error e | .ok (t, r) => .ok (t.text, r))) := zh (fun m hm => by
   unfold dN Par.bind
   rw [hm]
   cases m with
   | error e => rfl
   | ok x => rfl)
 clear h
 cases hm : dv en 1 l with
 | error e =>
  obtain ⟨er, p⟩ := e
  rw [hm] at HK
  have HN2 := zh (HN.out _ hm)
  clear hm
  go_enter Tryz.func42, Tryz.ntmps42
  go_wp2_with fail
  refine HK.out.mono ?_
  rintro e w1 ⟨he, ho⟩
  have he2 : e = Pan er p := he
  subst he2
  have HO := zh ho
  clear ho he
  unfold Pan
  go_wp2_with fail
  refine ⟨rfl, ?_⟩
  rw [HN2.out]
  exact ⟨rfl, HO.out⟩
 | ok x =>
  obtain ⟨t, r⟩ := x
  rw [hm] at HK
  have HN2 := zh (HN.out _ hm)
  clear hm
  go_enter Tryz.func42, Tryz.ntmps42
  go_wp2_with fail
  refine HK.out.mono ?_
  rintro e w1 ⟨⟨v, rfl, rfl, hr⟩, ho⟩
  have HO := zh ho
  have HR := zh hr
  clear ho hr
  unfold tkV
  have hfl := jT t.kind t.num t.pos t.text w1
  go_wp2_with fail
  go_ret
  rw [HN2.out]
  exact ⟨⟨_, rfl, rfl, HR.out⟩, HO.out⟩
end
end Go.Proofs.YtjblihabklemfaaGreatDoor
