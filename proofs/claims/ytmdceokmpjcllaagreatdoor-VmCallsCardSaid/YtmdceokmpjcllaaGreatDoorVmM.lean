/-
  The machine of package vm: how it lies in memory.
-/
import Derived.Test.YtmdceokmpjcllaaGreatDoorVerifyK
import Derived.Test.YtmdceokmpjcllaaGreatDoorMeterW
import Derived.Deep.AppendLies
namespace Go.Proofs.YtmdceokmpjcllaaGreatDoor
open Go.RowKit

/-! ### Worlds in which some blocks turn -/
/-- only blocks of T may have turned, and new ones -/
structure OnS (T : Nat → Prop) (w w' : World) : Prop where
  os : w'.os = w.os
  tape : w'.tape = w.tape
  output : w'.output = w.output
  size : w.heap.size ≤ w'.heap.size
  block : ∀ i, i < w.heap.size → ¬ T i → w'.heap[i]? = w.heap[i]?
theorem OnS.refl (T : Nat → Prop) (w : World) : OnS T w w := ⟨rfl, rfl, rfl, Nat.le_refl _, fun _ _ _ => rfl⟩
theorem OnS.of_below {T : Nat → Prop} {w w' : World} (h : Below w.heap.size w w') : OnS T w w' := ⟨h.os, h.tape, h.output, h.size, fun i hi _ => h.block i hi⟩
theorem OnS.of_grown {T : Nat → Prop} {w w' : World} {r : Option Nat} (h : w.grownBy w' r) (hr : ∀ k, r = some k → T k) : OnS T w w' := ⟨h.os, h.tape, h.output, h.size, fun i hi ht => h.block i hi (fun e => ht (hr _ e.symm))⟩
theorem OnS.mono {T T' : Nat → Prop} {w w' : World} (h : OnS T w w') (ht : ∀ i, T i → T' i) : OnS T' w w' := ⟨h.os, h.tape, h.output, h.size, fun i hi hn => h.block i hi (fun e => hn (ht i e))⟩
/-- what turns of the second kind is of the first, or new -/
theorem OnS.new {T T' : Nat → Prop} {a b c : World} (h : OnS T a b) (g : OnS T' b c) (ht : ∀ i, T' i → T i ∨ a.heap.size ≤ i) : OnS T a c :=
  ⟨g.os.trans h.os, g.tape.trans h.tape, g.output.trans h.output, Nat.le_trans h.size g.size, fun i hi hn => (g.block i (Nat.lt_of_lt_of_le hi h.size) (fun e => (ht i e).elim hn (fun q => by omega))).trans (h.block i hi hn)⟩
theorem OnS.trans {T : Nat → Prop} {a b c : World} (h : OnS T a b) (g : OnS T b c) : OnS T a c := h.new g (fun _ q => .inl q)
theorem OnS.set {T : Nat → Prop} {a b : World} (h : OnS T a b) {k : Nat} (hk : T k) (j : Nat) (u : Value) : OnS T a (b.setCell ⟨k, j, none⟩ u) :=
  h.trans ⟨rfl, rfl, rfl, by rw [setCell_size]; exact Nat.le_refl _, fun i hi hne => setCell_heap b _ u i (fun e => hne (by rw [e]; exact hk))⟩
theorem OnS.alloc {T : Nat → Prop} {a b : World} (h : OnS T a b) (o : Obj) : OnS T a (b.alloc o) := h.trans (OnS.of_below (up_alloc (Below.refl _ _) o))
theorem OnS.drew {T : Nat → Prop} {a b : World} (h : OnS T a b) : OnS T a b.drew := ⟨h.os, h.tape, h.output, h.size, h.block⟩
theorem OnS.obj {T : Nat → Prop} {k : Nat} {w w' : World} {o : Obj} (h : OnS T w w') (hn : ¬ T k) (ho : w.heap[k]? = some o) : w'.heap[k]? = some o := (h.block k (lt_of_block ho) hn).trans ho
theorem OnS.cell {T : Nat → Prop} {w w' : World} {c o : Nat} {u : Value} (h : OnS T w w') (hn : ¬ T c) (hc : w.cell? ⟨c, o, none⟩ = some u) : w'.cell? ⟨c, o, none⟩ = some u :=
  (World.cell?_of_block (w := w) (h.block c (lt_of_cell hc) hn)).trans hc
theorem OnS.below {T : Nat → Prop} {a w w' : World} (h : OnS T w w') (hb : Below a.heap.size a w) (ht : ∀ i, T i → a.heap.size ≤ i) : Below a.heap.size a w' :=
  ⟨h.os.trans hb.os, h.tape.trans hb.tape, h.output.trans hb.output, Nat.le_trans hb.size h.size, fun i hi => (h.block i (Nat.lt_of_lt_of_le hi hb.size) (fun e => by have := ht i e; omega)).trans (hb.block i hi)⟩

theorem obj_setC {W : World} {b j : Nat} {t : TypeId} {v : Value} (h : ∃ arr, W.heap[b]? = some (.cells arr t (0, 0))) : ∃ arr, (W.setCell ⟨b, j, none⟩ v).heap[b]? = some (.cells arr t (0, 0)) := by
  obtain ⟨a, h⟩ := h
  refine ⟨a.setIfInBounds j v, ?_⟩
  show (W.heap.modify b _)[b]? = _
  rw [Array.getElem?_modify, if_pos rfl, h]
  rfl

/-! ### Values and stacks -/
/-- a value: its three cells -/
structure Vl where
  a : Value
  b : Value
  c : Value
/-- .. of which each cell is one -/
def Vl.One (v : Vl) : Prop := v.a.oneCell' = true ∧ v.b.oneCell' = true ∧ v.c.oneCell' = true
def vlsV : List Vl → List Value
  | [] => []
  | v :: l => v.a :: v.b :: v.c :: vlsV l
theorem vlsV_len (l : List Vl) : (vlsV l).length = l.length * 3 := by
  induction l with
  | nil => rfl
  | cons v l ih => simp [vlsV, ih]; omega
theorem vlsV_app (l r : List Vl) : vlsV (l ++ r) = vlsV l ++ vlsV r := by
  induction l with
  | nil => rfl
  | cons v l ih => simp [vlsV, ih]
theorem vlsV_take (l : List Vl) (n : Nat) : (vlsV l).take (n * 3) = vlsV (l.take n) := by
  induction l generalizing n with
  | nil => simp [vlsV]
  | cons v l ih =>
    cases n with
    | zero => simp [vlsV]
    | succ n =>
      rw [show (n + 1) * 3 = n * 3 + 1 + 1 + 1 by omega]
      simp [vlsV, ih]
theorem vlsV_drop (l : List Vl) (n : Nat) : (vlsV l).drop (n * 3) = vlsV (l.drop n) := by
  induction l generalizing n with
  | nil => simp [vlsV]
  | cons v l ih =>
    cases n with
    | zero => simp [vlsV]
    | succ n =>
      rw [show (n + 1) * 3 = n * 3 + 1 + 1 + 1 by omega]
      simp [vlsV, ih]
/-- a function that is being run -/
structure Fr where
  blk : Nat
  c0 : Value
  c1 : Value
  c2 : Value
  c3 : Value
  c4 : Value
  pc : Int
  slots : Value
  stack : Value
  st : List Vl
structure FrAt (w : World) (f : Fr) : Prop where
  obj : ∃ arr, w.heap[f.blk]? = some (.cells arr 95 (0, 0))
  c0 : w.cell? ⟨f.blk, 0, none⟩ = some f.c0
  c1 : w.cell? ⟨f.blk, 1, none⟩ = some f.c1
  c2 : w.cell? ⟨f.blk, 2, none⟩ = some f.c2
  c3 : w.cell? ⟨f.blk, 3, none⟩ = some f.c3
  c4 : w.cell? ⟨f.blk, 4, none⟩ = some f.c4
  pc : w.cell? ⟨f.blk, 5, none⟩ = some (.int .i64 f.pc)
  slots : w.cell? ⟨f.blk, 6, none⟩ = some f.slots
  stack : w.cell? ⟨f.blk, 7, none⟩ = some f.stack
  own : w.ownsRow f.blk 35 3 f.stack f.st.length (vlsV f.st)
  one : ∀ v ∈ f.st, v.One
/-- the blocks of a frame -/
def Fr.Mine (f : Fr) (k : Nat) : Prop := k = f.blk ∨ f.stack.ownBlock = some k
theorem own_ty {w : World} {base e size n : Nat} {v : Value} {xs : List Value} (h : w.ownsRow base e size v n xs) {k : Nat} (hk : v.ownBlock = some k) : OfTy w k e := by
  rcases h.2 with ⟨rfl, _⟩ | ⟨g, cap, cur, rfl, _, hg, _⟩
  · cases hk
  · injection hk with hk
    subst hk
    exact ⟨_, _, hg⟩
theorem FrAt.ty {w : World} {f : Fr} (h : FrAt w f) : OfTy w f.blk 95 := by
  obtain ⟨a, h⟩ := h.obj
  exact ⟨a, _, h⟩
theorem FrAt.lt {w : World} {f : Fr} (h : FrAt w f) : f.blk < w.heap.size := lt_of_cell h.c0
theorem own_same {w w' : World} {base e size n : Nat} {v : Value} {xs : List Value} (h : w.ownsRow base e size v n xs) (hk : ∀ k, v.ownBlock = some k → w'.heap[k]? = w.heap[k]?) : w'.ownsRow base e size v n xs := by
  refine ⟨h.1, ?_⟩
  rcases h.2 with hn | ⟨g, cap, cur, rfl, hb, hgg, rest⟩
  · exact .inl hn
  · exact .inr ⟨g, cap, cur, rfl, hb, (hk g rfl).trans hgg, rest⟩
theorem FrAt.keep {w w' : World} {f : Fr} (h : FrAt w f) (hk : ∀ k, f.Mine k → w'.heap[k]? = w.heap[k]?) : FrAt w' f := by
  have hb := hk f.blk (.inl rfl)
  have hc : ∀ j, w'.cell? ⟨f.blk, j, none⟩ = w.cell? ⟨f.blk, j, none⟩ := fun j => World.cell?_of_block (w := w) hb
  obtain ⟨a, ho⟩ := h.obj
  exact ⟨⟨a, hb.trans ho⟩, (hc _).trans h.c0, (hc _).trans h.c1, (hc _).trans h.c2, (hc _).trans h.c3, (hc _).trans h.c4, (hc _).trans h.pc, (hc _).trans h.slots, (hc _).trans h.stack, own_same h.own fun k hk' => hk k (.inr hk'), h.one⟩
theorem FrAt.mine_lt {w : World} {f : Fr} (h : FrAt w f) {k : Nat} (hk : f.Mine k) : f.blk ≤ k ∧ k < w.heap.size := by
  rcases hk with rfl | hk
  · exact ⟨Nat.le_refl _, h.lt⟩
  · exact h.own.lt k hk
theorem FrAt.mine_ty {w : World} {f : Fr} (h : FrAt w f) {k : Nat} (hk : f.Mine k) : OfTy w k 95 ∨ OfTy w k 35 := by
  rcases hk with rfl | hk
  · exact .inl h.ty
  · exact .inr (own_ty h.own hk)
/-- another cell of the frame's block is set -/
theorem FrAt.setPc {w : World} {f : Fr} (h : FrAt w f) (n : Int) : FrAt (w.setCell ⟨f.blk, 5, none⟩ (.int .i64 n)) { f with pc := n } :=
  ⟨obj_setC h.obj, by rw [cell_set_ne _ _ (.inr (by omega))]; exact h.c0, by rw [cell_set_ne _ _ (.inr (by omega))]; exact h.c1, by rw [cell_set_ne _ _ (.inr (by omega))]; exact h.c2, by rw [cell_set_ne _ _ (.inr (by omega))]; exact h.c3, by rw [cell_set_ne _ _ (.inr (by omega))]; exact h.c4, cell_set_eq _ h.pc, by rw [cell_set_ne _ _ (.inr (by omega))]; exact h.slots, by rw [cell_set_ne _ _ (.inr (by omega))]; exact h.stack,
    own_same h.own fun k hk => setCell_heap w _ _ k ((own_ty h.own hk).ne h.ty (by decide)), h.one⟩
/-- its stack is another one -/
theorem FrAt.setStack {w : World} {f : Fr} (h : FrAt w f) {v : Value} {st : List Vl} (ho : w.ownsRow f.blk 35 3 v st.length (vlsV st)) (h1 : ∀ v ∈ st, v.One) : FrAt (w.setCell ⟨f.blk, 7, none⟩ v) { f with stack := v, st := st } :=
  ⟨obj_setC h.obj, by rw [cell_set_ne _ _ (.inr (by omega))]; exact h.c0, by rw [cell_set_ne _ _ (.inr (by omega))]; exact h.c1, by rw [cell_set_ne _ _ (.inr (by omega))]; exact h.c2, by rw [cell_set_ne _ _ (.inr (by omega))]; exact h.c3, by rw [cell_set_ne _ _ (.inr (by omega))]; exact h.c4, by rw [cell_set_ne _ _ (.inr (by omega))]; exact h.pc, by rw [cell_set_ne _ _ (.inr (by omega))]; exact h.slots, cell_set_eq _ h.stack,
    own_same ho fun k hk => setCell_heap w _ _ k ((own_ty ho hk).ne h.ty (by decide)), h1⟩

/-- frames, the last one first; all that is theirs lies below hi, and that of those ahead below the next one's -/
def FrsAt (w : World) : Nat → List Fr → Prop
  | _, [] => True
  | hi, f :: r => FrAt w f ∧ (∀ k, f.Mine k → k < hi) ∧ FrsAt w f.blk r
theorem FrsAt.keep {w w' : World} : ∀ {hi : Nat} {l : List Fr}, FrsAt w hi l → (∀ k, k < hi → (OfTy w k 95 ∨ OfTy w k 35) → w'.heap[k]? = w.heap[k]?) → FrsAt w' hi l
  | _, [], _, _ => trivial
  | _, _ :: _, ⟨h1, h2, h3⟩, hk => ⟨h1.keep fun k q => hk k (h2 k q) (h1.mine_ty q), h2, h3.keep fun k q t => hk k (Nat.lt_trans q (h2 _ (.inl rfl))) t⟩
theorem FrsAt.mono {w : World} {hi hi' : Nat} {l : List Fr} (h : FrsAt w hi l) (hh : hi ≤ hi') : FrsAt w hi' l := by
  cases l with
  | nil => trivial
  | cons f r => exact ⟨h.1, fun k q => Nat.lt_of_lt_of_le (h.2.1 k q) hh, h.2.2⟩

/-! ### The machine -/
structure Mac where
  m0 : Value
  m1 : Value
  j : Value
  L : Int
  U : Int
  free : Int
  fv : Value
  frs : List Fr
  b0 : Value
  b1 : Value
  b2 : Value
def frsV (l : List Fr) : List Value := l.reverse.map fun f => .pointer (some ⟨f.blk, 0, none⟩)
structure MacAt (base : Nat) (w : World) (X : Nat) (s : Mac) : Prop where
  low : base ≤ X
  obj : ∃ arr, w.heap[X]? = some (.cells arr 76 (0, 0))
  c0 : w.cell? ⟨X, 0, none⟩ = some s.m0
  c1 : w.cell? ⟨X, 1, none⟩ = some s.m1
  c2 : w.cell? ⟨X, 2, none⟩ = some s.j
  c3 : w.cell? ⟨X, 3, none⟩ = some (.int .i64 s.L)
  c4 : w.cell? ⟨X, 4, none⟩ = some (.int .i64 s.U)
  c5 : w.cell? ⟨X, 5, none⟩ = some (.int .i64 s.free)
  c6 : w.cell? ⟨X, 6, none⟩ = some s.fv
  c7 : w.cell? ⟨X, 7, none⟩ = some s.b0
  c8 : w.cell? ⟨X, 8, none⟩ = some s.b1
  c9 : w.cell? ⟨X, 9, none⟩ = some s.b2
  own : w.ownsRow base 93 1 s.fv s.frs.length (frsV s.frs)
  frs : FrsAt w w.heap.size s.frs
  frlow : ∀ f ∈ s.frs, base ≤ f.blk
theorem MacAt.ty {base X : Nat} {w : World} {s : Mac} (h : MacAt base w X s) : OfTy w X 76 := by
  obtain ⟨a, h⟩ := h.obj
  exact ⟨a, _, h⟩
theorem MacAt.lt {base X : Nat} {w : World} {s : Mac} (h : MacAt base w X s) : X < w.heap.size := lt_of_cell h.c0
/-- the machine's block, that of its frames' list, and the last frame's are as they were -/
theorem MacAt.later {base X : Nat} {w w' : World} {s : Mac} (h : MacAt base w X s) (hb : Below w.heap.size w w') : MacAt base w' X s := by
  have hX := hb.block X h.lt
  have hc : ∀ j, w'.cell? ⟨X, j, none⟩ = w.cell? ⟨X, j, none⟩ := fun j => World.cell?_of_block (w := w) hX
  obtain ⟨a, ho⟩ := h.obj
  exact ⟨h.low, ⟨a, hX.trans ho⟩, (hc _).trans h.c0, (hc _).trans h.c1, (hc _).trans h.c2, (hc _).trans h.c3, (hc _).trans h.c4, (hc _).trans h.c5, (hc _).trans h.c6, (hc _).trans h.c7, (hc _).trans h.c8, (hc _).trans h.c9,
    own_same h.own fun k hk => hb.block k (h.own.lt k hk).2, (h.frs.keep fun k hk _ => hb.block k hk).mono hb.size, h.frlow⟩
/-- what an operation on the last frame comes to -/
theorem MacAt.top {base X : Nat} {w w' : World} {s : Mac} {f f' : Fr} {r : List Fr} (h : MacAt base w X s) (hs : s.frs = f :: r) (hf : FrAt w' f') (hblk : f'.blk = f.blk) (hon : OnS f.Mine w w') : MacAt base w' X { s with frs := f' :: r } := by
  have hfr := h.frs
  rw [hs] at hfr
  obtain ⟨h1, h2, h3⟩ := hfr
  have hne : ∀ k t, OfTy w k t → t ≠ 95 → t ≠ 35 → ¬ f.Mine k := fun k t ht e1 e2 hm => by
    rcases h1.mine_ty hm with q | q
    · exact ht.ne q e1 rfl
    · exact ht.ne q e2 rfl
  have hX := hon.block X h.lt (hne X _ h.ty (by decide) (by decide))
  have hc : ∀ j, w'.cell? ⟨X, j, none⟩ = w.cell? ⟨X, j, none⟩ := fun j => World.cell?_of_block (w := w) hX
  obtain ⟨a, ho⟩ := h.obj
  refine ⟨h.low, ⟨a, hX.trans ho⟩, (hc _).trans h.c0, (hc _).trans h.c1, (hc _).trans h.c2, (hc _).trans h.c3, (hc _).trans h.c4, (hc _).trans h.c5, (hc _).trans h.c6, (hc _).trans h.c7, (hc _).trans h.c8, (hc _).trans h.c9, ?_, ?_, ?_⟩
  · have := own_same (w' := w') h.own fun k hk => hon.block k (h.own.lt k hk).2 (hne k _ (own_ty h.own hk) (by decide) (by decide))
    rw [hs] at this
    simpa [frsV, hblk] using this
  · refine ⟨hf, fun k q => (hf.mine_lt q).2, ?_⟩
    rw [hblk]
    exact h3.keep fun k hk _ => hon.block k (Nat.lt_trans hk h1.lt) (fun q => by have := (h1.mine_lt q).1; omega)
  · intro g hg
    rcases List.mem_cons.1 hg with rfl | hg
    · rw [hblk]; exact h.frlow f (by rw [hs]; simp)
    · exact h.frlow g (by rw [hs]; simp [hg])
theorem MacAt.top_base {base X : Nat} {w : World} {s : Mac} {f : Fr} {r : List Fr} (h : MacAt base w X s) (hs : s.frs = f :: r) : FrAt w f ∧ ∀ k, f.Mine k → base ≤ k := by
  have hfr := h.frs
  rw [hs] at hfr
  exact ⟨hfr.1, fun k q => Nat.le_trans (h.frlow f (by rw [hs]; simp)) (hfr.1.mine_lt q).1⟩
/-- a cell of the machine's own block is set -/
theorem MacAt.setC {base X : Nat} {w : World} {s s' : Mac} (h : MacAt base w X s) (j : Nat) (u : Value) (hf : s'.fv = s.fv) (hr : s'.frs = s.frs)
    (h0 : (w.setCell ⟨X, j, none⟩ u).cell? ⟨X, 0, none⟩ = some s'.m0) (h1 : (w.setCell ⟨X, j, none⟩ u).cell? ⟨X, 1, none⟩ = some s'.m1) (h2 : (w.setCell ⟨X, j, none⟩ u).cell? ⟨X, 2, none⟩ = some s'.j) (h3 : (w.setCell ⟨X, j, none⟩ u).cell? ⟨X, 3, none⟩ = some (.int .i64 s'.L)) (h4 : (w.setCell ⟨X, j, none⟩ u).cell? ⟨X, 4, none⟩ = some (.int .i64 s'.U)) (h5 : (w.setCell ⟨X, j, none⟩ u).cell? ⟨X, 5, none⟩ = some (.int .i64 s'.free)) (h6 : (w.setCell ⟨X, j, none⟩ u).cell? ⟨X, 6, none⟩ = some s'.fv) (h7 : (w.setCell ⟨X, j, none⟩ u).cell? ⟨X, 7, none⟩ = some s'.b0) (h8 : (w.setCell ⟨X, j, none⟩ u).cell? ⟨X, 8, none⟩ = some s'.b1) (h9 : (w.setCell ⟨X, j, none⟩ u).cell? ⟨X, 9, none⟩ = some s'.b2) :
    MacAt base (w.setCell ⟨X, j, none⟩ u) X s' := by
  have hb : ∀ k, k ≠ X → (w.setCell ⟨X, j, none⟩ u).heap[k]? = w.heap[k]? := fun k hk => setCell_heap w _ u k hk
  have hT := h.ty
  refine ⟨h.low, obj_setC h.obj, h0, h1, h2, h3, h4, h5, h6, h7, h8, h9, ?_, ?_, ?_⟩
  · rw [hf, hr]
    exact own_same h.own fun k hk => hb k ((own_ty h.own hk).ne hT (by decide))
  · rw [hr, setCell_size]
    exact h.frs.keep fun k _ t => hb k (t.elim (fun q => q.ne hT (by decide)) (fun q => q.ne hT (by decide)))
  · rw [hr]; exact h.frlow
theorem MacAt.setU {base X : Nat} {w : World} {s : Mac} (h : MacAt base w X s) (n : Int) : MacAt base (w.setCell ⟨X, 4, none⟩ (.int .i64 n)) X { s with U := n } := by
  refine h.setC 4 _ rfl rfl ?_ ?_ ?_ ?_ (cell_set_eq _ h.c4) ?_ ?_ ?_ ?_ ?_ <;> (rw [cell_set_ne _ _ (.inr (by omega))]; first | exact h.c0 | exact h.c1 | exact h.c2 | exact h.c3 | exact h.c4 | exact h.c5 | exact h.c6 | exact h.c7 | exact h.c8 | exact h.c9)
theorem MacAt.setL {base X : Nat} {w : World} {s : Mac} (h : MacAt base w X s) : MacAt base (w.setCell ⟨X, 3, none⟩ (.int .i64 s.L)) X s := by
  refine h.setC 3 _ rfl rfl ?_ ?_ ?_ (cell_set_eq _ h.c3) ?_ ?_ ?_ ?_ ?_ ?_ <;> (rw [cell_set_ne _ _ (.inr (by omega))]; first | exact h.c0 | exact h.c1 | exact h.c2 | exact h.c3 | exact h.c4 | exact h.c5 | exact h.c6 | exact h.c7 | exact h.c8 | exact h.c9)
theorem MacAt.setFree {base X : Nat} {w : World} {s : Mac} (h : MacAt base w X s) (n : Int) : MacAt base (w.setCell ⟨X, 5, none⟩ (.int .i64 n)) X { s with free := n } := by
  refine h.setC 5 _ rfl rfl ?_ ?_ ?_ ?_ ?_ (cell_set_eq _ h.c5) ?_ ?_ ?_ ?_ <;> (rw [cell_set_ne _ _ (.inr (by omega))]; first | exact h.c0 | exact h.c1 | exact h.c2 | exact h.c3 | exact h.c4 | exact h.c5 | exact h.c6 | exact h.c7 | exact h.c8 | exact h.c9)
end Go.Proofs.YtmdceokmpjcllaaGreatDoor
