/-
  The reader of tokens: its small methods.
-/
import Derived.Test.YtpiamiaigjlafaaTokLex
import Derived.Test.YtpiamiaigjlafaaTokP
namespace Go.Proofs.Ytpiamiaigjlafaa
open Go.RowKit
/-- the reader, in block rb: the tokens that are left, and the text's end -/
structure RdAt (w : World) (rb : Nat) (l : List Tk) (en : Int) : Prop where
  obj : ∃ arr, w.heap[rb]? = some (.cells arr 70 (0, 0))
  rest : ∃ s0 cap, w.cell? ⟨rb, 0, none⟩ = some (.slice s0 l.length cap) ∧ l.length ≤ cap ∧ cap ≤ maxLen ∧ RowTk w s0 l ∧ ∀ b off, s0 = some ⟨b, off, none⟩ → b < rb
  fin : w.cell? ⟨rb, 1, none⟩ = some (.int .i64 en)
  few : l.length ≤ 100000
theorem RdAt.on {w w' : World} {rb : Nat} {l : List Tk} {en : Int} (h : RdAt w rb l en) (hb : Below w.heap.size w w') : RdAt w' rb l en := by
  obtain ⟨arr, ho⟩ := h.obj
  obtain ⟨s0, cap, h1, h2, h3, h4, h5⟩ := h.rest
  refine ⟨⟨arr, (hb.block _ (lt_block ho)).trans ho⟩, ⟨s0, cap, (up_cell hb _ _ (lt_block ho)).trans h1, h2, h3, fun h0 => ?_, h5⟩, (up_cell hb _ _ (lt_block ho)).trans h.fin, h.few⟩
  obtain ⟨b, off, e, hbl, hc⟩ := h4 h0
  refine ⟨b, off, e, Nat.lt_of_lt_of_le hbl hb.size, fun i hi => ?_⟩
  obtain ⟨x0, x1, x2, x3⟩ := hc i hi
  exact ⟨(up_cell hb _ _ hbl).trans x0, (up_cell hb _ _ hbl).trans x1, (up_cell hb _ _ hbl).trans x2, (up_cell hb _ _ hbl).trans x3⟩
theorem RdAt.lt {w : World} {rb : Nat} {l : List Tk} {en : Int} (h : RdAt w rb l en) : rb < w.heap.size := by
  obtain ⟨arr, ho⟩ := h.obj
  exact lt_block ho
/-- a store behind the reader changes nothing of it -/
theorem RdAt.off {w w' : World} {rb k : Nat} {l : List Tk} {en : Int} (h : RdAt w rb l en) (ho : On k w w') (hk : rb < k) : RdAt w' rb l en := by
  obtain ⟨arr, hob⟩ := h.obj
  obtain ⟨s0, cap, h1, h2, h3, h4, h5⟩ := h.rest
  refine ⟨⟨arr, ho.obj (Nat.ne_of_lt hk) hob⟩, ⟨s0, cap, ho.cell (Nat.ne_of_lt hk) h1, h2, h3, fun h0 => ?_, h5⟩, ho.cell (Nat.ne_of_lt hk) h.fin, h.few⟩
  obtain ⟨b, off, e, hbl, hc⟩ := h4 h0
  have hb := h5 b off e
  refine ⟨b, off, e, Nat.lt_of_lt_of_le hbl ho.size, fun i hi => ?_⟩
  obtain ⟨x0, x1, x2, x3⟩ := hc i hi
  exact ⟨ho.cell (by omega) x0, ho.cell (by omega) x1, ho.cell (by omega) x2, ho.cell (by omega) x3⟩
/-- another rest is laid -/
theorem RdAt.set {w : World} {rb : Nat} {l r : List Tk} {en : Int} (h : RdAt w rb l en) {s0 : Option Addr} {cap : Nat} (hf : r.length ≤ l.length) (h1 : r.length ≤ cap) (h2 : cap ≤ maxLen) (h3 : RowTk w s0 r) (h4 : ∀ b off, s0 = some ⟨b, off, none⟩ → b < rb) : RdAt (w.setCell ⟨rb, 0, none⟩ (.slice s0 r.length cap)) rb r en := by
  obtain ⟨_, _, hc0, _⟩ := h.rest
  refine ⟨obj_setCell h.obj, ⟨s0, cap, cell_set_eq _ hc0, h1, h2, fun h0 => ?_, h4⟩, (cell_set_ne _ _ (.inr (by omega))).trans h.fin, Nat.le_trans hf h.few⟩
  obtain ⟨b, off, e, hbl, hc⟩ := h3 h0
  have hne := Nat.ne_of_lt (h4 b off e)
  refine ⟨b, off, e, by rw [setCell_size]; exact hbl, fun i hi => ?_⟩
  obtain ⟨x0, x1, x2, x3⟩ := hc i hi
  exact ⟨(cell_set_ne _ _ (.inl (Ne.symm hne))).trans x0, (cell_set_ne _ _ (.inl (Ne.symm hne))).trans x1, (cell_set_ne _ _ (.inl (Ne.symm hne))).trans x2, (cell_set_ne _ _ (.inl (Ne.symm hne))).trans x3⟩
/-- the row behind the first token -/
theorem RowTk.tail {w : World} {b off : Nat} {t : Tk} {r : List Tk} (h : RowTk w (some ⟨b, off, none⟩) (t :: r)) : RowTk w (some ⟨b, off + 4, none⟩) r := fun _ => by
  obtain ⟨b', off', e, hbl, hc⟩ := h (by simp)
  injection e with e
  injection e with e1 e2
  subst e1 e2
  refine ⟨b, off + 4, rfl, hbl, fun i hi => ?_⟩
  have := hc (i + 1) (by simpa using hi)
  rw [show off + (i + 1) * 4 = off + 4 + i * 4 by omega] at this
  simpa using this
/-- the end of what gave up -/
def Pan (er p : Int) : Ending := .panicked [{ v := .iface 66 (.agg #[.int .i64 er, .int .i64 p]), recovered := false }]
/-- what a method of the reader comes to -/
def PSays {α : Type} (rb : Nat) (en : Int) (w : World) (R : World → α → Value → Prop) (r : Except (Int × Int) (α × List Tk)) (e : Ending) (w' : World) : Prop :=
  (match r with
  | .error (er, p) => e = Pan er p
  | .ok (x, l) => ∃ v, e = .returned v ∧ R w' x v ∧ RdAt w' rb l en) ∧ On rb w w'

set_option maxRecDepth 100000 in
set_option maxHeartbeats 1000000 in
theorem place_any (rb : Nat) (l : List Tk) (en : Int) (w : World) (h : RdAt w rb l en) : Calls Try.prog 31 #[.pointer (some ⟨rb, 0, none⟩)] w fun e w' => e = .returned (.int .i64 (placeS en l)) ∧ w = w' := by
  obtain ⟨s0, cap, hc0, hle, hcm, hrow, _⟩ := h.rest
  have hfin := h.fin
  have HR := Lib.hid hrow
  clear h hrow
  unfold maxLen at hcm
  cases l with
  | nil =>
    go_enter Try.func31, Try.ntmps31
    go_wp2_with fail
    go_ret
    exact ⟨rfl, rfl⟩
  | cons t r =>
    obtain ⟨b, off, hs, hbl, hcell⟩ := HR.out (by simp)
    subst hs
    obtain ⟨_, _, _, t3⟩ := hcell 0 (by simp)
    have t3' : w.cell? ⟨b, off + 3, none⟩ = some (.int .i64 t.pos) := by simpa using t3
    clear hcell t3
    have hn : (((t :: r).length : Int) == 0) = false := by simp; omega
    have hn2 : (0 : Int) < ((t :: r).length : Int) := by simp
    have hpl : placeS en (t :: r) = t.pos := rfl
    rw [hpl]
    generalize t.pos = ps at *
    generalize (t :: r).length = n at *
    go_enter Try.func31, Try.ntmps31
    go_wp2_with fail
    go_ret
    exact ⟨rfl, rfl⟩
set_option maxRecDepth 100000 in
set_option maxHeartbeats 1000000 in
theorem fail_any (rb : Nat) (l : List Tk) (en er : Int) (w : World) (h : RdAt w rb l en) : Calls Try.prog 50 #[.pointer (some ⟨rb, 0, none⟩), .int .i64 er] w fun e w' => e = Pan er (placeS en l) ∧ w = w' := by
  go_enter Try.func50, Try.ntmps50
  go_wp2_with fail
  refine (place_any rb l en _ h).mono ?_
  rintro e w1 ⟨rfl, rfl⟩
  go_wp2_with fail
  exact ⟨rfl, rfl, rfl⟩
set_option maxRecDepth 100000 in
set_option maxHeartbeats 1000000 in
theorem deep_ok (rb : Nat) (d : Int) (w : World) (hd : d ≤ 32) : Calls Try.prog 53 #[.pointer (some ⟨rb, 0, none⟩), .int .i64 d] w fun e w' => e = .returned (.int .i64 d) ∧ w = w' := by
  go_enter Try.func53, Try.ntmps53
  go_wp2_with fail
  go_ret
  exact ⟨rfl, rfl⟩
set_option maxRecDepth 100000 in
set_option maxHeartbeats 1000000 in
theorem deep_no (rb : Nat) (l : List Tk) (en d : Int) (w : World) (h : RdAt w rb l en) (hd : 32 < d) : Calls Try.prog 53 #[.pointer (some ⟨rb, 0, none⟩), .int .i64 d] w fun e w' => e = Pan 42 (placeS en l) ∧ w = w' := by
  go_enter Try.func53, Try.ntmps53
  go_wp2_with fail
  refine (fail_any rb l en 42 _ h).mono ?_
  rintro e w1 ⟨rfl, rfl⟩
  unfold Pan
  go_wp2_with fail
  exact ⟨rfl, rfl, rfl⟩
set_option maxRecDepth 100000 in
set_option maxHeartbeats 1000000 in
theorem at_any (rb i : Nat) (s : ByteArray) (l : List Tk) (en : Int) (w : World) (h : RdAt w rb l en) : Calls Try.prog 52 #[.pointer (some ⟨rb, 0, none⟩), .int .i64 (i : Int), .string s] w fun e w' => e = .returned (.bool (atS l i s)) ∧ w = w' := by
  obtain ⟨s0, cap, hc0, hle, hcm, hrow, _⟩ := h.rest
  have HR := Lib.hid hrow
  clear h hrow
  unfold maxLen at hcm
  by_cases hi : i < l.length
  · obtain ⟨b, off, hs, hbl, hcell⟩ := HR.out (by omega)
    subst hs
    obtain ⟨t0, t1, _, _⟩ := hcell i hi
    have HA : Hid (∀ z, ((l.getD i default).kind == 4) = z → atS l i s = (z && (l.getD i default).text.toList == s.toList)) := Lib.hid (fun z hz => by
      unfold atS
      rw [List.getElem?_eq_getElem hi, List.getD_eq_getElem?_getD, List.getElem?_eq_getElem hi] at *
      dsimp only [Option.getD_some] at *
      rw [hz])
    have HA2 := Lib.hid (HA.out _ rfl)
    clear hcell
    generalize (l.getD i default).kind = k at *
    generalize (l.getD i default).text = tx at *
    generalize atS l i s = q at *
    cases hk : (k == 4)
    · have HF : Hid (q = false) := Lib.hid (by rw [HA2.out, hk]; rfl)
      clear HA HA2
      go_enter Try.func52, Try.ntmps52
      go_wp2_with fail
      go_ret
      exact ⟨ret_bool HF.out.symm, rfl⟩
    · have HF : Hid (q = (tx.toList == s.toList)) := Lib.hid (by rw [HA2.out, hk]; rfl)
      clear HA HA2
      go_enter Try.func52, Try.ntmps52
      go_wp2_with fail
      go_ret
      exact ⟨ret_bool HF.out.symm, rfl⟩
  · have HF : Hid (atS l i s = false) := Lib.hid (by unfold atS; rw [List.getElem?_eq_none (by omega)])
    have hi2 : ¬ ((i : Int) < (l.length : Int)) := by omega
    generalize atS l i s = q at *
    go_enter Try.func52, Try.ntmps52
    go_wp2_with fail
    go_ret
    exact ⟨ret_bool HF.out.symm, rfl⟩

theorem atS_nil (i : Nat) (s : ByteArray) : atS [] i s = false := by unfold atS; simp
/-- a token is taken off -/
theorem tail_ok {rb : Nat} {w : World} {t : Tk} {r : List Tk} {en : Int} {b off cap n : Nat} (h : RdAt w rb (t :: r) en) (hc0 : w.cell? ⟨rb, 0, none⟩ = some (.slice (some ⟨b, off, none⟩) n cap)) (s0 : Option Addr) (c k : Nat) (hk : k = r.length)
    (h1 : k ≤ c) (h2 : c ≤ maxLen) (h3 : 0 < k → s0 = some ⟨b, off + 4, none⟩) (h4 : ∀ b' o', s0 = some ⟨b', o', none⟩ → b' = b) : RdAt (w.setCell ⟨rb, 0, none⟩ (.slice s0 k c)) rb r en := by
  obtain ⟨s0', cap', hc0', _, _, hrow, hne⟩ := h.rest
  rw [hc0] at hc0'
  injection hc0' with e
  injection e with e1 e2 e3
  subst e1 hk
  refine h.set (Nat.le_succ _) h1 h2 (fun h0 => ?_) (fun b' o' e => ?_)
  · have := h3 h0
    subst this
    exact hrow.tail h0
  · rw [h4 b' o' e]
    exact hne b off rfl
set_option maxRecDepth 100000 in
set_option maxHeartbeats 1000000 in
theorem take_any (rb : Nat) (s : ByteArray) (l : List Tk) (en : Int) (w : World) (h : RdAt w rb l en) :
    Calls Try.prog 37 #[.pointer (some ⟨rb, 0, none⟩), .string s] w fun e w' => e = .returned (.bool (atS l 0 s)) ∧ RdAt w' rb (if atS l 0 s then l.tail else l) en ∧ On rb w w' := by
  have HA := Lib.hid (at_any rb 0 s l en w h)
  have HH := Lib.hid h
  cases l with
  | nil =>
    rw [atS_nil] at *
    clear h
    go_enter Try.func37, Try.ntmps37
    go_wp2_with fail
    refine HA.out.mono ?_
    rintro e w1 ⟨rfl, rfl⟩
    go_wp2_with fail
    go_ret
    exact ⟨rfl, HH.out, On.refl _ _⟩
  | cons t r =>
    obtain ⟨s0, cap, hc0, hle, hcm, hrow, hne⟩ := h.rest
    obtain ⟨b, off, hs, hbl, _⟩ := hrow (by simp)
    subst hs
    have HT := Lib.hid (fun s0 c k => tail_ok (n := (t :: r).length) (cap := cap) h hc0 s0 c k)
    have hfz : w.frozen? ⟨rb, 0, none⟩ = false := by
      obtain ⟨_, ho⟩ := h.obj
      exact frozen_of ho 0
    have hnn : (1 : Int) ≤ ((t :: r).length : Int) := by simp; omega
    have hlen : (t :: r).length = r.length + 1 := rfl
    have HLEN := Lib.hid hlen
    clear hrow h hne
    unfold maxLen at hcm
    cases hq : atS (t :: r) 0 s
    · rw [hq] at HA
      clear hq hlen
      generalize (t :: r).length = n at *
      go_enter Try.func37, Try.ntmps37
      go_wp2_with fail
      refine HA.out.mono ?_
      rintro e w1 ⟨rfl, rfl⟩
      go_wp2_with fail
      go_ret
      exact ⟨rfl, HH.out, On.refl _ _⟩
    · rw [hq] at HA
      clear hq hlen
      generalize (t :: r).length = n at *
      by_cases hcap : cap = 1
      · subst hcap
        have hn1 : n = 1 := by omega
        have HN1 := Lib.hid hn1
        subst hn1
        go_enter Try.func37, Try.ntmps37
        go_wp2_with fail
        refine HA.out.mono ?_
        rintro e w1 ⟨rfl, rfl⟩
        go_wp2_with fail
        go_ret
        exact ⟨rfl, HT.out _ 0 0 (by have := HLEN.out; omega) (Nat.le_refl _) (Nat.zero_le _) (fun h => absurd h (by omega)) (fun b' o' e => by injection e with e; injection e with e _; exact e.symm), (On.refl _ _).set 0 _⟩
      · have hcap2 : (1 : Int) < (cap : Int) := by omega
        go_enter Try.func37, Try.ntmps37
        go_wp2_with fail
        refine HA.out.mono ?_
        rintro e w1 ⟨rfl, rfl⟩
        go_wp2_with fail
        go_ret
        exact ⟨rfl, HT.out _ (cap - 1) (n - 1) (by have := HLEN.out; omega) (by omega) (by unfold maxLen; omega) (fun _ => rfl) (fun b' o' e => by injection e with e; injection e with e _; exact e.symm), (On.refl _ _).set 0 _⟩

set_option maxRecDepth 100000 in
set_option maxHeartbeats 1000000 in
theorem must_any (rb sb : Nat) (s : ByteArray) (l : List Tk) (en : Int) (w : World) (h : RdAt w rb l en) (hs : w.cell? ⟨sb, 0, none⟩ = some (.string s)) :
    Calls Try.prog 32 #[.pointer (some ⟨rb, 0, none⟩), .slice (some ⟨sb, 0, none⟩) 1 1] w (PSays rb en w (fun _ _ v => v = .tuple #[]) (mustP en s l)) := by
  have HA := Lib.hid (take_any rb s l en w h)
  have HF := Lib.hid (fun (W : World) (hW : RdAt W rb l en) => fail_any rb l en 41 W hW)
  have HMY : Hid (atS l 0 s = true → mustP en s l = .ok ((), l.tail)) := Lib.hid (fun h => by unfold mustP; rw [if_pos h])
  have HMN : Hid (atS l 0 s = false → mustP en s l = .error (41, placeS en l)) := Lib.hid (fun h => by unfold mustP; rw [if_neg (by rw [h]; decide)])
  generalize mustP en s l = m at *
  generalize placeS en l = pl at *
  have HH := Lib.hid h
  clear h
  go_enter Try.func32, Try.ntmps32
  go_wp2_with fail
  cases hq : atS l 0 s
  · rw [hq] at HA HMN HMY
    have HM := Lib.hid (HMN.out rfl)
    clear hq
    go_loopw [8] (fun s8 wr => s8 = .int .i64 0 ∧ w = wr) (fun s8 _ => 1 - (intOf s8).toNat)
    case atStart => exact ⟨rfl, rfl⟩
    case round =>
      obtain ⟨rfl, rfl⟩ := hrel
      go_wp2_with fail
      refine HA.out.mono ?_
      rintro e w1 ⟨rfl, hr1, ho1⟩
      have HR1 := Lib.hid hr1
      have HO1 := Lib.hid ho1
      clear hr1 ho1
      go_wp2_with fail
      refine (HF.out w1 HR1.out).mono ?_
      rintro e w2 ⟨rfl, rfl⟩
      unfold Pan
      go_wp2_with fail
      refine ⟨rfl, ?_⟩
      rw [HM.out]
      exact ⟨rfl, HO1.out⟩
  · rw [hq] at HA HMN HMY
    have HM := Lib.hid (HMY.out rfl)
    clear hq
    go_loopw [8] (fun s8 wr => (s8 = .int .i64 0 ∧ w = wr) ∨ (s8 = .int .i64 1 ∧ RdAt wr rb l.tail en ∧ On rb w wr)) (fun s8 _ => 1 - (intOf s8).toNat)
    case atStart => exact .inl ⟨rfl, rfl⟩
    case round =>
      rcases hrel with ⟨rfl, rfl⟩ | ⟨rfl, hr1, ho1⟩
      · go_wp2_with fail
        refine HA.out.mono ?_
        rintro e w1 ⟨rfl, hr1, ho1⟩
        have HR1 := Lib.hid hr1
        have HO1 := Lib.hid ho1
        clear hr1 ho1
        go_wp2_with fail
        go_roundw
        case rel => exact .inr ⟨rfl, HR1.out, HO1.out⟩
        case measure => simp [intOf]
      · have HR1 := Lib.hid hr1
        have HO1 := Lib.hid ho1
        clear hr1 ho1
        go_wp2_with fail
        go_end0
        rw [HM.out]
        exact ⟨⟨_, rfl, rfl, HR1.out⟩, HO1.out⟩

set_option maxRecDepth 100000 in
set_option maxHeartbeats 2000000 in
theorem kind_any (rb : Nat) (k : Int) (l : List Tk) (en : Int) (w : World) (h : RdAt w rb l en) :
    Calls Try.prog 51 #[.pointer (some ⟨rb, 0, none⟩), .int .i64 k] w (PSays rb en w (fun _ t v => v = tkV t.kind t.text t.num t.pos) (kindP en k l)) := by
  have HF := Lib.hid (fun (W : World) (hW : RdAt W rb l en) => fail_any rb l en 41 W hW)
  have HH := Lib.hid h
  have hb0 : Below w.heap.size w (w.alloc (.cells #[.int .i64 0, .string ⟨#[]⟩, .int .i64 0, .int .i64 0] 87)) := up_alloc (Below.refl _ _) _
  have HB0 := Lib.hid hb0
  have HR0 := Lib.hid (h.on hb0)
  have hlt := h.lt
  obtain ⟨s0, cap, hc0, hle, hcm, hrow, hne⟩ := h.rest
  unfold maxLen at hcm
  cases l with
  | nil =>
    have HM : Hid (kindP en k [] = .error (41, placeS en [])) := Lib.hid rfl
    clear h hrow hb0 hne
    go_enter Try.func51, Try.ntmps51
    go_wp2_with fail
    refine (HF.out _ HR0.out).mono ?_
    rintro e w2 ⟨rfl, rfl⟩
    unfold Pan
    go_wp2_with fail
    refine ⟨rfl, ?_⟩
    rw [HM.out]
    exact ⟨rfl, On.of_below HB0.out⟩
  | cons t r =>
    obtain ⟨b, off, hs, hbl, hcell⟩ := hrow (by simp)
    subst hs
    obtain ⟨x0, x1, x2, x3⟩ := hcell 0 (by simp)
    have y0 : w.cell? ⟨b, off, none⟩ = some (.int .i64 t.kind) := by simpa using x0
    have y1 : w.cell? ⟨b, off + 1, none⟩ = some (.string t.text) := by simpa using x1
    have y2 : w.cell? ⟨b, off + 2, none⟩ = some (.int .i64 t.num) := by simpa using x2
    have y3 : w.cell? ⟨b, off + 3, none⟩ = some (.int .i64 t.pos) := by simpa using x3
    have HT := Lib.hid (fun (W : World) (hW : RdAt W rb (t :: r) en) (hcW : W.cell? ⟨rb, 0, none⟩ = some (.slice (some ⟨b, off, none⟩) (t :: r).length cap)) s0 c k => tail_ok (n := (t :: r).length) (cap := cap) hW hcW s0 c k)
    have hfz : w.frozen? ⟨rb, 0, none⟩ = false := by
      obtain ⟨_, ho⟩ := h.obj
      exact frozen_of ho 0
    have hnz : (((t :: r).length : Int) == 0) = false := by simp; omega
    have hnn : (1 : Int) ≤ ((t :: r).length : Int) := by simp; omega
    have HLEN := Lib.hid (show (t :: r).length = r.length + 1 from rfl)
    have HMY : Hid ((t.kind == k) = true → kindP en k (t :: r) = .ok (t, r)) := Lib.hid (fun h => by unfold kindP; dsimp only; rw [if_pos h])
    have HMN : Hid ((t.kind == k) = false → kindP en k (t :: r) = .error (41, placeS en (t :: r))) := Lib.hid (fun h => by unfold kindP; dsimp only; rw [if_neg (by rw [h]; decide)]; rfl)
    clear h hrow hb0 hne hcell x0 x1 x2 x3
    generalize kindP en k (t :: r) = m at *
    generalize placeS en (t :: r) = pl at *
    cases hq : (t.kind == k)
    · have HM := Lib.hid (HMN.out hq)
      have hq2 : (t.kind != k) = true := by simp [bne, hq]
      clear hq
      generalize (t :: r).length = n at *
      go_enter Try.func51, Try.ntmps51
      go_wp2_with fail
      refine (HF.out _ HR0.out).mono ?_
      rintro e w2 ⟨rfl, rfl⟩
      unfold Pan
      go_wp2_with fail
      refine ⟨rfl, ?_⟩
      rw [HM.out]
      exact ⟨rfl, On.of_below HB0.out⟩
    · have HM := Lib.hid (HMY.out hq)
      have hq2 : (t.kind != k) = false := by simp [bne, hq]
      clear hq
      generalize (t :: r).length = n at *
      by_cases hcap : cap = 1
      · subst hcap
        have hn1 : n = 1 := by omega
        subst hn1
        go_enter Try.func51, Try.ntmps51
        go_wp2_with fail
        refine bodyPost_ret (v := tkV t.kind t.text t.num t.pos) (by simp [results, Try.results51, go_sem, tkV]) rfl ?_
        rw [HM.out]
        exact ⟨⟨_, rfl, rfl, (HT.out w HH.out hc0 _ 0 0 (by have := HLEN.out; omega) (Nat.le_refl _) (Nat.zero_le _) (fun h => absurd h (by omega)) (fun b' o' e => by injection e with e; injection e with e _; exact e.symm)).on (up_alloc (up_alloc (Below.refl _ _) _) _)⟩, (((On.refl _ _).set 0 _).alloc _).alloc _⟩
      · have hcap2 : (1 : Int) < (cap : Int) := by omega
        go_enter Try.func51, Try.ntmps51
        go_wp2_with fail
        refine bodyPost_ret (v := tkV t.kind t.text t.num t.pos) (by simp [results, Try.results51, go_sem, tkV]) rfl ?_
        rw [HM.out]
        exact ⟨⟨_, rfl, rfl, (HT.out w HH.out hc0 _ (cap - 1) (n - 1) (by have := HLEN.out; omega) (by omega) (by unfold maxLen; omega) (fun _ => rfl) (fun b' o' e => by injection e with e; injection e with e _; exact e.symm)).on (up_alloc (up_alloc (Below.refl _ _) _) _)⟩, (((On.refl _ _).set 0 _).alloc _).alloc _⟩

theorem fieldText (k n p : Int) (t : ByteArray) (W : World) : (Instr.field 87 (.agg #[.int .i64 k, .string t, .int .i64 n, .int .i64 p]) 1).run Try.prog W = .ok (.string t) W := by kernel_rfl
set_option maxRecDepth 100000 in
set_option maxHeartbeats 1000000 in
theorem name_any (rb : Nat) (l : List Tk) (en : Int) (w : World) (h : RdAt w rb l en) :
    Calls Try.prog 33 #[.pointer (some ⟨rb, 0, none⟩)] w (PSays rb en w (fun _ t v => v = .string t) (nameP en l)) := by
  have HK := Lib.hid (kind_any rb 1 l en w h)
  have HN : Hid (∀ m, kindP en 1 l = m → nameP en l = (match m with | .error e => .error e | .ok (t, r) => .ok (t.text, r))) := Lib.hid (fun m hm => by
    unfold nameP Par.bind
    rw [hm]
    cases m with
    | error e => rfl
    | ok x => rfl)
  clear h
  cases hm : kindP en 1 l with
  | error e =>
    obtain ⟨er, p⟩ := e
    rw [hm] at HK
    have HN2 := Lib.hid (HN.out _ hm)
    clear hm
    go_enter Try.func33, Try.ntmps33
    go_wp2_with fail
    refine HK.out.mono ?_
    rintro e w1 ⟨he, ho⟩
    have he2 : e = Pan er p := he
    subst he2
    have HO := Lib.hid ho
    clear ho he
    unfold Pan
    go_wp2_with fail
    refine ⟨rfl, ?_⟩
    rw [HN2.out]
    exact ⟨rfl, HO.out⟩
  | ok x =>
    obtain ⟨t, r⟩ := x
    rw [hm] at HK
    have HN2 := Lib.hid (HN.out _ hm)
    clear hm
    go_enter Try.func33, Try.ntmps33
    go_wp2_with fail
    refine HK.out.mono ?_
    rintro e w1 ⟨⟨v, rfl, rfl, hr⟩, ho⟩
    have HO := Lib.hid ho
    have HR := Lib.hid hr
    clear ho hr
    unfold tkV
    have hfl := fieldText t.kind t.num t.pos t.text w1
    go_wp2_with fail
    go_ret
    rw [HN2.out]
    exact ⟨⟨_, rfl, rfl, HR.out⟩, HO.out⟩
end Go.Proofs.Ytpiamiaigjlafaa
