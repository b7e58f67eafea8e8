/-
  How the table and the pile of 'safe' lie in memory.
-/
import Derived.Test.YtmdceokmpjcllaaGreatDoorVerifyP
import Derived.Deep.MidRow
import Derived.Deep.AppendLies
namespace Go.Proofs.YtmdceokmpjcllaaGreatDoor
open Go.RowKit

def ptrOf (o : Option Sta) (k : Nat) : Value := match o with
  | none => .pointer none
  | some _ => .pointer (some ⟨k, 0, none⟩)
theorem ptrOf_none (k : Nat) : ptrOf none k = .pointer none := rfl
theorem ptrOf_some (s : Sta) (k : Nat) : ptrOf (some s) k = .pointer (some ⟨k, 0, none⟩) := rfl
/-- a block of such elements -/
def OfTy (w : World) (b : Nat) (t : TypeId) : Prop := ∃ a fz, w.heap[b]? = some (.cells a t fz)
theorem OfTy.ne {w : World} {a b : Nat} {s t : TypeId} (h : OfTy w a s) (g : OfTy w b t) (hst : s ≠ t) : a ≠ b := fun e => by
  subst e
  obtain ⟨_, _, h⟩ := h
  obtain ⟨_, _, g⟩ := g
  rw [h] at g
  injection g with g
  injection g with _ g _
  exact hst g

/-- the table -/
structure TabAt (base : Nat) (w : World) (ab n : Nat) (tab : Tab) (ks : Nat → Nat) : Prop where
  arr : ∃ a, w.heap[ab]? = some (.cells a 106 (0, 0))
  low : base ≤ ab
  cell : ∀ i, i < n → w.cell? ⟨ab, i, none⟩ = some (ptrOf (tab i) (ks i))
  st : ∀ i s, i < n → tab i = some s → base ≤ ks i ∧ s.st.length ≤ 2100 ∧ StAt w (ks i) s.st s.sl
  inj : ∀ i j, i < n → j < n → (tab i).isSome = true → (tab j).isSome = true → ks i = ks j → i = j

theorem StAt.ofTy {w : World} {k : Nat} {st : List Int} {sl : Nat → Int} (h : StAt w k st sl) : OfTy w k 110 := by
  obtain ⟨arr, ho⟩ := h.obj
  exact ⟨arr, _, ho⟩
theorem StAt.keep {w w' : World} {k : Nat} {st : List Int} {sl : Nat → Int} (h : StAt w k st sl) (hk : w'.heap[k]? = w.heap[k]?) (ht : ∀ b, OfTy w b 28 → w'.heap[b]? = w.heap[b]?) : StAt w' k st sl := by
  obtain ⟨⟨arr, ho⟩, ⟨sv, hc, hs⟩, hsl⟩ := h
  exact ⟨⟨arr, hk.trans ho⟩, ⟨sv, (World.cell?_of_block (w := w) hk).trans hc, hs.keep fun b a fz q => ht b ⟨a, fz, q⟩⟩, fun j hj => ⟨(World.cell?_of_block (w := w) hk).trans (hsl j hj).1, (hsl j hj).2⟩⟩
theorem TabAt.arrTy {base : Nat} {w : World} {ab n : Nat} {tab : Tab} {ks : Nat → Nat} (h : TabAt base w ab n tab ks) : OfTy w ab 106 := by
  obtain ⟨a, ha⟩ := h.arr
  exact ⟨a, _, ha⟩
theorem TabAt.keep {base : Nat} {w w' : World} {ab n : Nat} {tab : Tab} {ks : Nat → Nat} (h : TabAt base w ab n tab ks)
    (ha : w'.heap[ab]? = w.heap[ab]?) (hk : ∀ i, i < n → (tab i).isSome = true → w'.heap[ks i]? = w.heap[ks i]?) (ht : ∀ b, OfTy w b 28 → w'.heap[b]? = w.heap[b]?) : TabAt base w' ab n tab ks := by
  obtain ⟨a, h1⟩ := h.arr
  refine ⟨⟨a, ha.trans h1⟩, h.low, fun i hi => (World.cell?_of_block (w := w) ha).trans (h.cell i hi), fun i s hi hs => ?_, h.inj⟩
  obtain ⟨q1, q2, q3⟩ := h.st i s hi hs
  exact ⟨q1, q2, q3.keep (hk i hi (by rw [hs]; rfl)) ht⟩
theorem TabAt.later {base : Nat} {w w' : World} {ab n : Nat} {tab : Tab} {ks : Nat → Nat} (h : TabAt base w ab n tab ks) (hb : ∀ b, b < w.heap.size → w'.heap[b]? = w.heap[b]?) : TabAt base w' ab n tab ks := by
  have hT := h.arrTy
  refine h.keep ?_ (fun i hi hs => ?_) (fun b ⟨_, _, hb'⟩ => hb b (lt_of_block hb'))
  · obtain ⟨_, _, hT⟩ := hT
    exact hb _ (lt_of_block hT)
  · obtain ⟨s, hs⟩ := Option.isSome_iff_exists.1 hs
    obtain ⟨_, _, q⟩ := (h.st i s hi hs).2.2.ofTy
    exact hb _ (lt_of_block q)
/-- a block that is none of the table's turned -/
theorem TabAt.on {base x : Nat} {w w' : World} {ab n : Nat} {tab : Tab} {ks : Nat → Nat} {t : TypeId} (h : TabAt base w ab n tab ks) (hon : On x w w') (hx : OfTy w x t) (ht1 : t ≠ 106) (ht2 : t ≠ 28)
    (hne : ∀ i, i < n → (tab i).isSome = true → ks i ≠ x) : TabAt base w' ab n tab ks := by
  have hb : ∀ b, b < w.heap.size → b ≠ x → w'.heap[b]? = w.heap[b]? := fun b hb hne => hon.block b hb (fun e => hne (by injection e))
  refine h.keep ?_ (fun i hi hs => ?_) (fun b hT => ?_)
  · obtain ⟨_, _, hT⟩ := h.arrTy
    exact hb _ (lt_of_block hT) (h.arrTy.ne hx ht1.symm)
  · have hne' := hne i hi hs
    obtain ⟨s, hs⟩ := Option.isSome_iff_exists.1 hs
    obtain ⟨_, _, q⟩ := (h.st i s hi hs).2.2.ofTy
    exact hb _ (lt_of_block q) hne'
  · have hne' := hT.ne hx ht2.symm
    obtain ⟨_, _, q⟩ := hT
    exact hb _ (lt_of_block q) hne'
theorem TabAt.on_ty {base x : Nat} {w w' : World} {ab n : Nat} {tab : Tab} {ks : Nat → Nat} {t : TypeId} (h : TabAt base w ab n tab ks) (hon : On x w w') (hx : OfTy w x t) (ht1 : t ≠ 106) (ht2 : t ≠ 28) (ht3 : t ≠ 110) : TabAt base w' ab n tab ks :=
  h.on hon hx ht1 ht2 fun i hi hs => by
    obtain ⟨s, hs⟩ := Option.isSome_iff_exists.1 hs
    exact (h.st i s hi hs).2.2.ofTy.ne hx ht3.symm
theorem setCell_heap (w : World) (p : Addr) (u : Value) (b : Nat) (h : b ≠ p.block) : (w.setCell p u).heap[b]? = w.heap[b]? := Below.heap_setCell w p u b h
theorem setCell_size (w : World) (p : Addr) (u : Value) : (w.setCell p u).heap.size = w.heap.size := by simp [World.setCell]
theorem OfTy.setCell {w : World} {b : Nat} {t : TypeId} (h : OfTy w b t) (p : Addr) (u : Value) : OfTy (w.setCell p u) b t := by
  obtain ⟨a, fz, h⟩ := h
  by_cases e : b = p.block
  · subst e
    obtain ⟨bb, o, sp⟩ := p
    refine ⟨if sp.isSome = true then a else a.setIfInBounds o u, fz, ?_⟩
    show (w.heap.modify bb _)[bb]? = _
    rw [Array.getElem?_modify, if_pos rfl, h]
    rfl
  · exact ⟨a, fz, (setCell_heap w p u b e).trans h⟩
/-- a new state comes into the table -/
theorem TabAt.put {base k i : Nat} {w : World} {ab n : Nat} {tab : Tab} {ks : Nat → Nat} {s : Sta} (h : TabAt base w ab n tab ks) (hi : i < n) (hk : base ≤ k) (hl : s.st.length ≤ 2100) (hs : StAt w k s.st s.sl)
    (hne : ∀ j, j < n → (tab j).isSome = true → ks j ≠ k) : TabAt base (w.setCell ⟨ab, i, none⟩ (.pointer (some ⟨k, 0, none⟩))) ab n (upd tab i s) (fun j => if j = i then k else ks j) := by
  have hT := h.arrTy
  have hb : ∀ b, b ≠ ab → (w.setCell ⟨ab, i, none⟩ (.pointer (some ⟨k, 0, none⟩))).heap[b]? = w.heap[b]? := fun b hne => setCell_heap w _ _ b hne
  have hst : ∀ k' st sl, StAt w k' st sl → StAt (w.setCell ⟨ab, i, none⟩ (.pointer (some ⟨k, 0, none⟩))) k' st sl := fun k' st sl q =>
    q.keep (hb _ (q.ofTy.ne hT (by decide))) (fun b q2 => hb b (q2.ne hT (by decide)))
  refine ⟨?_, h.low, fun j hj => ?_, fun j s' hj hs' => ?_, fun a b ha hb' hsa hsb e => ?_⟩
  · obtain ⟨a, ha⟩ := h.arr
    refine ⟨a.setIfInBounds i (.pointer (some ⟨k, 0, none⟩)), ?_⟩
    show (w.heap.modify ab _)[ab]? = _
    rw [Array.getElem?_modify, if_pos rfl, ha]
    rfl
  · by_cases e : j = i
    · subst e
      rw [cell_set_eq _ (h.cell j hj)]
      simp [upd, ptrOf]
    · rw [cell_set_ne _ _ (.inr (by omega)), h.cell j hj]
      simp [upd, e]
  · by_cases e : j = i
    · subst e
      simp only [upd, if_true] at hs'
      injection hs' with hs'
      subst hs'
      simp only [if_true]
      exact ⟨hk, hl, hst _ _ _ hs⟩
    · simp only [upd, if_neg e] at hs' ⊢
      obtain ⟨q1, q2, q3⟩ := h.st j s' hj hs'
      exact ⟨q1, q2, hst _ _ _ q3⟩
  · by_cases ea : a = i <;> by_cases eb : b = i
    · rw [ea, eb]
    · simp only [upd, if_neg eb] at hsb
      simp only [if_pos ea, if_neg eb] at e
      exact absurd e.symm (hne b hb' hsb)
    · simp only [upd, if_neg ea] at hsa
      simp only [if_neg ea, if_pos eb] at e
      exact absurd e (hne a ha hsa)
    · simp only [upd, if_neg ea] at hsa
      simp only [upd, if_neg eb] at hsb
      simp only [if_neg ea, if_neg eb] at e
      exact h.inj a b ha hb' hsa hsb e
/-- a state of the table turned -/
theorem TabAt.turn {base i : Nat} {w w' : World} {ab n : Nat} {tab : Tab} {ks : Nat → Nat} {old s : Sta} (h : TabAt base w ab n tab ks) (hi : i < n) (ho : tab i = some old) (hon : On (ks i) w w') (hl : s.st.length ≤ 2100) (hs : StAt w' (ks i) s.st s.sl) :
    TabAt base w' ab n (upd tab i s) ks := by
  obtain ⟨q1, _, q3⟩ := h.st i old hi ho
  have hT := q3.ofTy
  have hb : ∀ b, b < w.heap.size → b ≠ ks i → w'.heap[b]? = w.heap[b]? := fun b hb hne => hon.block b hb (fun e => hne (by injection e))
  have ha : w'.heap[ab]? = w.heap[ab]? := by
    have hne := h.arrTy.ne hT (by decide)
    obtain ⟨_, _, hq⟩ := h.arrTy
    exact hb _ (lt_of_block hq) hne
  refine ⟨?_, h.low, fun j hj => ?_, fun j s' hj hs' => ?_, fun a b ha hb' hsa hsb e => ?_⟩
  · obtain ⟨a, h1⟩ := h.arr
    exact ⟨a, ha.trans h1⟩
  · rw [World.cell?_of_block (w := w) ha, h.cell j hj]
    by_cases e : j = i
    · subst e; rw [ho]; simp [upd, ptrOf]
    · simp [upd, e]
  · by_cases e : j = i
    · subst e
      simp only [upd, if_true] at hs'
      injection hs' with hs'
      subst hs'
      exact ⟨q1, hl, hs⟩
    · simp only [upd, if_neg e] at hs'
      obtain ⟨r1, r2, r3⟩ := h.st j s' hj hs'
      have hne : ks j ≠ ks i := fun e2 => e (h.inj j i hj hi (by rw [hs']; rfl) (by rw [ho]; rfl) e2)
      refine ⟨r1, r2, r3.keep ?_ (fun b hT2 => ?_)⟩
      · obtain ⟨_, _, q⟩ := r3.ofTy
        exact hb _ (lt_of_block q) hne
      · have hne2 := hT2.ne hT (by decide)
        obtain ⟨_, _, q⟩ := hT2
        exact hb _ (lt_of_block q) hne2
  · have hsome : ∀ j, (upd tab i s j).isSome = true → (tab j).isSome = true := fun j hj => by
      by_cases e : j = i
      · subst e; rw [ho]; rfl
      · simpa [upd, e] using hj
    exact h.inj a b ha hb' (hsome a hsa) (hsome b hsb) e

/-! ### A whole state, by its cells -/
def slCells (sl : Nat → Int) : List Value := (List.range 256).map fun j => .int .i64 (sl j)
theorem slCells_len (sl : Nat → Int) : (slCells sl).length = 256 := by simp [slCells]
theorem slCells_get (sl : Nat → Int) (j : Nat) (hj : j < 256) : (slCells sl)[j]? = some (.int .i64 (sl j)) := by simp [slCells, hj]
theorem slCells_one (sl : Nat → Int) : ∀ v ∈ slCells sl, v.oneCell' = true := by
  intro v hv
  simp [slCells] at hv
  obtain ⟨j, _, rfl⟩ := hv
  rfl
theorem StAt.slots {w : World} {k : Nat} {st : List Int} {sl : Nat → Int} (h : StAt w k st sl) : w.rangeAt k 1 (slCells sl) := fun j v hv => by
  have hj : j < 256 := by have := (List.getElem?_eq_some_iff.1 hv).1; rwa [slCells_len] at this
  rw [slCells_get sl j hj] at hv
  injection hv with hv
  subst hv
  exact (h.slot j hj).1
theorem StAt.whole {w : World} {k : Nat} {st : List Int} {sl : Nat → Int} (h : StAt w k st sl) : ∃ sv, StkAt w sv st ∧ w.rangeAt k 0 (sv :: slCells sl) := by
  obtain ⟨sv, hc, hs⟩ := h.top
  refine ⟨sv, hs, fun j v hv => ?_⟩
  cases j with
  | zero => injection hv with hv; subst hv; exact hc
  | succ j =>
    have := h.slots j v (by simpa using hv)
    rw [Nat.zero_add, Nat.add_comm]
    exact this
/-- a state that lies there by its cells -/
theorem stAt_of {w : World} {k : Nat} {st : List Int} {sl : Nat → Int} {sv : Value} (ho : ∃ arr, w.heap[k]? = some (.cells arr 110 (0, 0))) (hs : StkAt w sv st) (hr : w.rangeAt k 0 (sv :: slCells sl)) (h64 : ∀ j, j < 256 → i64 (sl j)) : StAt w k st sl := by
  refine ⟨ho, ⟨sv, hr 0 sv rfl, hs⟩, fun j hj => ⟨?_, h64 j hj⟩⟩
  have := hr (1 + j) (.int .i64 (sl j)) (by rw [Nat.add_comm, List.getElem?_cons_succ]; exact slCells_get sl j hj)
  rwa [Nat.zero_add] at this
theorem StAt.i64s {w : World} {k : Nat} {st : List Int} {sl : Nat → Int} (h : StAt w k st sl) : ∀ j, j < 256 → i64 (sl j) := fun j hj => (h.slot j hj).2

/-! ### The pile -/
def pileV (l : List Nat) : List Value := l.map fun (i : Nat) => Value.int .i64 (i : Int)
def PileAt (base : Nat) (w : World) (v : Value) (l : List Nat) : Prop := w.ownsRow base 3 1 v l.length (pileV l) ∧ ∃ g cap, v = .slice (some ⟨g, 0, none⟩) l.length cap
theorem PileAt.form {base : Nat} {w : World} {v : Value} {l : List Nat} (h : PileAt base w v l) : ∃ g cap, v = .slice (some ⟨g, 0, none⟩) l.length cap ∧ l.length ≤ cap ∧ base ≤ g ∧ (∃ a, w.heap[g]? = some (.cells a 3 (0, 0))) ∧ ∀ i, i < l.length → w.cell? ⟨g, i, none⟩ = some (.int .i64 ((l.getD i 0 : Nat) : Int)) := by
  obtain ⟨h, g, cap, rfl⟩ := h
  have h' := h
  obtain ⟨_, ⟨hq, _⟩ | ⟨g', cap', cur, hv, hg, hh, hle, _⟩⟩ := h
  · cases hq
  · injection hv with hv1 hv2 hv3
    injection hv1 with hv1
    injection hv1 with hv1
    subst hv1
    subst hv3
    refine ⟨g, cap, rfl, hle, hg, ⟨cur, hh⟩, fun i hi => ?_⟩
    have := World.ownsRow.cells h' (g := g) rfl i (.int .i64 ((l.getD i 0 : Nat) : Int)) (by
      rw [pileV, List.getElem?_map, List.getD_eq_getElem?_getD, List.getElem?_eq_getElem hi]; rfl)
    simpa [Go.WideShapes.add_plain] using this
theorem PileAt.keep {base : Nat} {w w' : World} {v : Value} {l : List Nat} (h : PileAt base w v l) (hb : ∀ b, OfTy w b 3 → w'.heap[b]? = w.heap[b]?) : PileAt base w' v l := by
  obtain ⟨h, g, cap, rfl⟩ := h
  refine ⟨⟨h.1, ?_⟩, g, cap, rfl⟩
  rcases h.2 with hq | ⟨g', cap', cur, hv, hg, hh, r⟩
  · exact .inl hq
  · exact .inr ⟨g', cap', cur, hv, hg, (hb g' ⟨cur, _, hh⟩).trans hh, r⟩
theorem PileAt.later {base : Nat} {w w' : World} {v : Value} {l : List Nat} (h : PileAt base w v l) (hb : ∀ b, b < w.heap.size → w'.heap[b]? = w.heap[b]?) : PileAt base w' v l :=
  h.keep fun b ⟨_, _, q⟩ => hb b (lt_of_block q)
theorem PileAt.on {base x : Nat} {w w' : World} {v : Value} {l : List Nat} {t : TypeId} (h : PileAt base w v l) (hon : On x w w') (hx : OfTy w x t) (ht : t ≠ 3) : PileAt base w' v l :=
  h.keep fun b q => by
    have hne := q.ne hx ht.symm
    obtain ⟨_, _, q⟩ := q
    exact hon.block b (lt_of_block q) (fun e => hne (by injection e))
/-- the top is taken off -/
theorem PileAt.drop {base : Nat} {w : World} {g cap : Nat} {l : List Nat} {p : Nat} (h : PileAt base w (.slice (some ⟨g, 0, none⟩) (l.length + 1) cap) (l ++ [p])) : PileAt base w (.slice (some ⟨g, 0, none⟩) l.length cap) l := by
  obtain ⟨⟨h1, h2⟩, _⟩ := h
  refine ⟨⟨by simp [pileV], .inr ?_⟩, g, cap, rfl⟩
  rcases h2 with ⟨hq, _⟩ | ⟨g', cap', cur, hv, hg, hh, hle, hm, hs, ht⟩
  · cases hq
  · injection hv with hv1 hv2 hv3
    injection hv1 with hv1
    injection hv1 with hv1
    subst hv1
    subst hv3
    refine ⟨g, cap, cur, rfl, hg, hh, by simp at hle; omega, hm, hs, ?_⟩
    have h3 : (cur.toList.take ((l ++ [p]).length * 1)).take l.length = (pileV (l ++ [p])).take l.length := by rw [ht]
    rw [List.take_take] at h3
    simp only [List.length_append, List.length_cons, List.length_nil, Nat.mul_one] at h3
    rw [Nat.min_eq_left (by omega)] at h3
    rw [Nat.mul_one, h3]
    simp [pileV]
end Go.Proofs.YtmdceokmpjcllaaGreatDoor
