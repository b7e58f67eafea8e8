/-
  A program that came in, as the walks want it.
-/
import Derived.Test.YtpiamiaigjlafaaTyOpen
namespace Go.Proofs.Ytpiamiaigjlafaa
open Go.RowKit

theorem cellsEx : Try.prog.cellsOf 44 = 5 := by kernel_rfl
theorem cellsSt : Try.prog.cellsOf 46 = 6 := by kernel_rfl
theorem cellsFn : Try.prog.cellsOf 34 = 5 := by kernel_rfl
theorem cellsPa : Try.prog.cellsOf 50 = 2 := by kernel_rfl
theorem cellsPr : Try.prog.cellsOf 26 = 1 := by kernel_rfl
/-- what a slice's elements are, each by its own cells -/
theorem open_row {P : Program} {w : World} {n : Nat} {cs : List Value} {t e : TypeId} {α : Type} (d : α) (sz : Nat) (R : List Value → α → Prop) (ht : P.underlying t = some (.slice e)) (hz : P.cellsOf e = sz) (h0 : 0 < sz)
    (hR : ∀ (m : Nat) (cs' : List Value), n = m + 1 → TZ P w m e cs' → ∃ x, R cs' x) (h : TZ P w n t cs) :
    ∃ v l c, cs = [v] ∧ RowOf (fun _ => True) w v sz (List.length l) c ∧ ∀ i, i < l.length → R (c i) (l.getD i d) := by
  subst hz
  obtain ⟨a, len, cap, rfl, hl, hc, _, hn, hb, hi⟩ := h.slice ht h0
  have hall : ∀ i, ∃ p : List Value × α, i < len → (∃ b off, a = some ⟨b, off, none⟩ ∧ ∀ j, j < P.cellsOf e → w.cell? ⟨b, off + i * P.cellsOf e + j, none⟩ = p.1[j]?) ∧ p.1.length = P.cellsOf e ∧ R p.1 p.2 := fun i => by
    by_cases hil : i < len
    · obtain ⟨b, off, rfl, hbb⟩ := hb (by omega)
      obtain ⟨m, cs', hm, hlen, hcell, htr⟩ := hi b off rfl i hil
      obtain ⟨x, hx⟩ := hR m cs' hm htr
      exact ⟨(cs', x), fun _ => ⟨⟨b, off, rfl, hcell⟩, hlen, hx⟩⟩
    · exact ⟨([], d), fun h => absurd h hil⟩
  refine ⟨_, (List.range len).map (fun i => (Classical.choose (hall i)).2), fun i => (Classical.choose (hall i)).1, rfl, ⟨a, cap, by simp, by simpa using hl, hc, fun h => (hn h).2, fun h1 => ?_, fun i hi => ?_⟩, fun i hi => ?_⟩
  · have h1 : 0 < len := by simpa using h1
    obtain ⟨b, off, rfl, hbb⟩ := hb (by omega)
    refine ⟨b, off, rfl, trivial, hbb, fun i hi j hj => ?_⟩
    obtain ⟨⟨b', off', e, hcell⟩, _⟩ := Classical.choose_spec (hall i) (by simpa using hi)
    injection e with e
    injection e with e1 e2
    subst e1 e2
    exact hcell j hj
  · exact (Classical.choose_spec (hall i) (by simpa using hi)).2.1
  · have hi' : i < len := by simpa using hi
    have e : ((List.range len).map (fun i => (Classical.choose (hall i)).2)).getD i d = (Classical.choose (hall i)).2 := by
      rw [List.getD_eq_getElem?_getD]
      simp [hi']
    rw [e]
    exact (Classical.choose_spec (hall i) hi').2.2
theorem five {α : Type} : ∀ {l : List α}, l.length = 5 → ∃ a b c d e, l = [a, b, c, d, e]
  | [a, b, c, d, e], _ => ⟨a, b, c, d, e, rfl⟩
theorem six {α : Type} : ∀ {l : List α}, l.length = 6 → ∃ a b c d e f, l = [a, b, c, d, e, f]
  | [a, b, c, d, e, f], _ => ⟨a, b, c, d, e, f, rfl⟩
theorem two' {α : Type} : ∀ {l : List α}, l.length = 2 → ∃ a b, l = [a, b]
  | [a, b], _ => ⟨a, b, rfl⟩
theorem one' {α : Type} : ∀ {l : List α}, l.length = 1 → ∃ a, l = [a]
  | [a], _ => ⟨a, rfl⟩
theorem tz_cut {w : World} {n : Nat} {t : TypeId} {cs cs' : List Value} (h : TZ Try.prog w n t cs) (e : cs = cs') : TZ Try.prog w n t cs' := e ▸ h
theorem c1a : Try.prog.cellsOf 41 = 1 := by kernel_rfl
theorem c1b : Try.prog.cellsOf 2 = 1 := by kernel_rfl
theorem c1c : Try.prog.cellsOf 9 = 1 := by kernel_rfl
theorem c1d : Try.prog.cellsOf 42 = 1 := by kernel_rfl
theorem c1e : Try.prog.cellsOf 3 = 1 := by kernel_rfl
theorem c1f : Try.prog.cellsOf 40 = 1 := by kernel_rfl
theorem c1g : Try.prog.cellsOf 32 = 1 := by kernel_rfl
theorem c1h : Try.prog.cellsOf 31 = 1 := by kernel_rfl
theorem c1i : Try.prog.cellsOf 30 = 1 := by kernel_rfl
theorem c1j : Try.prog.cellsOf 24 = 1 := by kernel_rfl
theorem open_exs {w : World} {n : Nat} {cs : List Value} (ih : ∀ (m : Nat) (cs' : List Value), n = m + 1 → TZ Try.prog w m 44 cs' → ∃ x, RepEx Any w cs' x) (h : TZ Try.prog w n 42 cs) : ∃ v l, cs = [v] ∧ RepExs Any w v l := by
  obtain ⟨v, l, c, e, hrow, hit⟩ := open_row default 5 (RepEx Any w) Try.underlying42 cellsEx (by decide) ih h
  exact ⟨v, l, e, c, hrow, hit⟩
theorem open_ex {w : World} : ∀ (k n : Nat) (cs : List Value), n < k → TZ Try.prog w n 44 cs → ∃ x, RepEx Any w cs x := by
  intro k
  induction k with
  | zero => intro n cs hn; omega
  | succ k ih =>
    intro n cs hn h
    obtain ⟨m, rfl, hl, hf⟩ := h.struct Try.underlying44
    rw [cellsEx] at hl
    obtain ⟨c0, c1, c2, c3, c4, rfl⟩ := five hl
    obtain ⟨i0, e0, _⟩ := (tz_cut (cs' := [c0]) (hf 0 _ rfl) (by show List.take (Try.prog.cellsOf 41) _ = _; rw [c1a]; rfl)).int Try.underlying41
    obtain ⟨i1, e1, _⟩ := (tz_cut (cs' := [c1]) (hf 1 _ rfl) (by show List.take (Try.prog.cellsOf 2) _ = _; rw [c1b]; rfl)).int Try.underlying2
    obtain ⟨s2, e2, _⟩ := (tz_cut (cs' := [c2]) (hf 2 _ rfl) (by show List.take (Try.prog.cellsOf 9) _ = _; rw [c1c]; rfl)).string Try.underlying9
    obtain ⟨v, l, e3, h3⟩ := open_exs (fun j cs' hj ht => ih j cs' (by omega) ht) (tz_cut (cs' := [c3]) (hf 3 _ rfl) (by show List.take (Try.prog.cellsOf 42) _ = _; rw [c1d]; rfl))
    obtain ⟨i4, e4, _⟩ := (tz_cut (cs' := [c4]) (hf 4 _ rfl) (by show List.take (Try.prog.cellsOf 3) _ = _; rw [c1e]; rfl)).int Try.underlying3
    simp only [List.cons.injEq, and_true] at e0 e1 e2 e3 e4
    subst e0 e1 e2 e3 e4
    exact ⟨_, RepEx.of h3⟩
theorem open_sts {w : World} {n : Nat} {cs : List Value} (ih : ∀ (m : Nat) (cs' : List Value), n = m + 1 → TZ Try.prog w m 46 cs' → ∃ x, RepSt Any w cs' x) (h : TZ Try.prog w n 32 cs) : ∃ v l, cs = [v] ∧ RepSts Any w v l := by
  obtain ⟨v, l, c, e, hrow, hit⟩ := open_row default 6 (RepSt Any w) Try.underlying32 cellsSt (by decide) ih h
  exact ⟨v, l, e, c, hrow, hit⟩
theorem open_st {w : World} : ∀ (k n : Nat) (cs : List Value), n < k → TZ Try.prog w n 46 cs → ∃ x, RepSt Any w cs x := by
  intro k
  induction k with
  | zero => intro n cs hn; omega
  | succ k ih =>
    intro n cs hn h
    obtain ⟨m, rfl, hl, hf⟩ := h.struct Try.underlying46
    rw [cellsSt] at hl
    obtain ⟨c0, c1, c2, c3, c4, c5, rfl⟩ := six hl
    obtain ⟨i0, e0, _⟩ := (tz_cut (cs' := [c0]) (hf 0 _ rfl) (by show List.take (Try.prog.cellsOf 40) _ = _; rw [c1f]; rfl)).int Try.underlying40
    obtain ⟨s1, e1, _⟩ := (tz_cut (cs' := [c1]) (hf 1 _ rfl) (by show List.take (Try.prog.cellsOf 9) _ = _; rw [c1c]; rfl)).string Try.underlying9
    obtain ⟨v2, l2, e2, h2⟩ := open_exs (fun j cs' _ ht => open_ex (j + 1) j cs' (by omega) ht) (tz_cut (cs' := [c2]) (hf 2 _ rfl) (by show List.take (Try.prog.cellsOf 42) _ = _; rw [c1d]; rfl))
    obtain ⟨v3, l3, e3, h3⟩ := open_sts (fun j cs' hj ht => ih j cs' (by omega) ht) (tz_cut (cs' := [c3]) (hf 3 _ rfl) (by show List.take (Try.prog.cellsOf 32) _ = _; rw [c1g]; rfl))
    obtain ⟨v4, l4, e4, h4⟩ := open_sts (fun j cs' hj ht => ih j cs' (by omega) ht) (tz_cut (cs' := [c4]) (hf 4 _ rfl) (by show List.take (Try.prog.cellsOf 32) _ = _; rw [c1g]; rfl))
    obtain ⟨i5, e5, _⟩ := (tz_cut (cs' := [c5]) (hf 5 _ rfl) (by show List.take (Try.prog.cellsOf 3) _ = _; rw [c1e]; rfl)).int Try.underlying3
    simp only [List.cons.injEq, and_true] at e0 e1 e2 e3 e4 e5
    subst e0 e1 e2 e3 e4 e5
    exact ⟨_, RepSt.of h2 h3 h4⟩
theorem open_pa {w : World} {n : Nat} {cs : List Value} (h : TZ Try.prog w n 50 cs) : ∃ x, RepPa Any w cs x := by
  obtain ⟨m, rfl, hl, hf⟩ := h.struct Try.underlying50
  rw [cellsPa] at hl
  obtain ⟨c0, c1, rfl⟩ := two' hl
  obtain ⟨s0, e0, _⟩ := (tz_cut (cs' := [c0]) (hf 0 _ rfl) (by show List.take (Try.prog.cellsOf 9) _ = _; rw [c1c]; rfl)).string Try.underlying9
  obtain ⟨i1, e1, _⟩ := (tz_cut (cs' := [c1]) (hf 1 _ rfl) (by show List.take (Try.prog.cellsOf 31) _ = _; rw [c1h]; rfl)).int Try.underlying31
  simp only [List.cons.injEq, and_true] at e0 e1
  subst e0 e1
  exact ⟨(s0, i1), rfl⟩
theorem open_fn {w : World} {n : Nat} {cs : List Value} (h : TZ Try.prog w n 34 cs) : ∃ x, RepFn Any w cs x := by
  obtain ⟨m, rfl, hl, hf⟩ := h.struct Try.underlying34
  rw [cellsFn] at hl
  obtain ⟨c0, c1, c2, c3, c4, rfl⟩ := five hl
  obtain ⟨s0, e0, _⟩ := (tz_cut (cs' := [c0]) (hf 0 _ rfl) (by show List.take (Try.prog.cellsOf 9) _ = _; rw [c1c]; rfl)).string Try.underlying9
  obtain ⟨v1, l1, cp, e1, hrow, hit⟩ := open_row default 2 (RepPa Any w) Try.underlying30 cellsPa (by decide) (fun j cs' _ ht => open_pa ht) (tz_cut (cs' := [c1]) (hf 1 _ rfl) (by show List.take (Try.prog.cellsOf 30) _ = _; rw [c1i]; rfl))
  obtain ⟨i2, e2, _⟩ := (tz_cut (cs' := [c2]) (hf 2 _ rfl) (by show List.take (Try.prog.cellsOf 31) _ = _; rw [c1h]; rfl)).int Try.underlying31
  obtain ⟨v3, l3, e3, h3⟩ := open_sts (fun j cs' _ ht => open_st (j + 1) j cs' (by omega) ht) (tz_cut (cs' := [c3]) (hf 3 _ rfl) (by show List.take (Try.prog.cellsOf 32) _ = _; rw [c1g]; rfl))
  obtain ⟨i4, e4, _⟩ := (tz_cut (cs' := [c4]) (hf 4 _ rfl) (by show List.take (Try.prog.cellsOf 3) _ = _; rw [c1e]; rfl)).int Try.underlying3
  simp only [List.cons.injEq, and_true] at e0 e1 e2 e3 e4
  subst e0 e1 e2 e3 e4
  exact ⟨⟨s0, l1, i2, l3, i4⟩, _, _, rfl, ⟨cp, hrow, hit⟩, h3⟩
theorem open_prog {w : World} {n : Nat} {cs : List Value} (h : TZ Try.prog w n 26 cs) : ∃ u l, cs = [u] ∧ RepFns Any w u l := by
  obtain ⟨m, rfl, hl, hf⟩ := h.struct Try.underlying26
  rw [cellsPr] at hl
  obtain ⟨c0, rfl⟩ := one' hl
  obtain ⟨v, l, c, e, hrow, hit⟩ := open_row default 5 (RepFn Any w) Try.underlying24 cellsFn (by decide) (fun j cs' _ ht => open_fn ht) (tz_cut (cs' := [c0]) (hf 0 _ rfl) (by show List.take (Try.prog.cellsOf 24) _ = _; rw [c1j]; rfl))
  simp only [List.cons.injEq, and_true] at e
  subst e
  exact ⟨_, l, rfl, c, hrow, hit⟩
end Go.Proofs.Ytpiamiaigjlafaa
