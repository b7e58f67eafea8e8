/-
  Programs: how they lie in memory.
-/
import Derived.Test.YtpiamiaigjlafaaMem
import Derived.Test.YtpiamiaigjlafaaTokP
namespace Go.Proofs.Ytpiamiaigjlafaa
open Go.RowKit

/-- the blocks from one on -/
abbrev From (b : Nat) : Nat → Prop := fun k => b ≤ k
/-- what lies in the blocks that are meant stays -/
structure Stays (S : Nat → Prop) (w w' : World) : Prop where
  size : w.heap.size ≤ w'.heap.size
  block : ∀ b, S b → b < w.heap.size → w'.heap[b]? = w.heap[b]?
theorem Stays.refl (S : Nat → Prop) (w : World) : Stays S w w := ⟨Nat.le_refl _, fun _ _ _ => rfl⟩
theorem Stays.trans {S : Nat → Prop} {a b c : World} (h : Stays S a b) (g : Stays S b c) : Stays S a c :=
  ⟨Nat.le_trans h.size g.size, fun k hk hl => (g.block k hk (Nat.lt_of_lt_of_le hl h.size)).trans (h.block k hk hl)⟩
theorem Stays.of_below {S : Nat → Prop} {a b : World} (h : Below a.heap.size a b) : Stays S a b := ⟨h.size, fun k _ hl => h.block k hl⟩
theorem Stays.of_ne {S : Nat → Prop} {k : Nat} {a b : World} (h : On k a b) (hk : ¬ S k) : Stays S a b := ⟨h.size, fun i hi hl => h.block i hl (fun e => by injection e with e; subst e; exact hk hi)⟩
theorem Stays.of_on {base k : Nat} {a b : World} (h : On k a b) (hk : k < base) : Stays (From base) a b := Stays.of_ne h (fun h => Nat.not_le_of_lt hk h)
theorem Stays.cell {S : Nat → Prop} {a b : World} (h : Stays S a b) {k : Nat} (hk : S k) (hl : k < a.heap.size) (o : Nat) : b.cell? ⟨k, o, none⟩ = a.cell? ⟨k, o, none⟩ := World.cell?_of_block (w := a) (h.block k hk hl)

/-- n things of sz cells each, in a row -/
def RowOf (S : Nat → Prop) (w : World) (v : Value) (sz n : Nat) (cs : Nat → List Value) : Prop :=
  ∃ s0 cap, v = .slice s0 n cap ∧ n ≤ cap ∧ cap ≤ maxLen ∧ (s0 = none → cap = 0) ∧ (0 < n → ∃ b off, s0 = some ⟨b, off, none⟩ ∧ S b ∧ b < w.heap.size ∧ ∀ i, i < n → ∀ j, j < sz → w.cell? ⟨b, off + i * sz + j, none⟩ = (cs i)[j]?) ∧ ∀ i, i < n → (cs i).length = sz
theorem RowOf.keep {S : Nat → Prop} {w w' : World} {v : Value} {sz n : Nat} {cs : Nat → List Value} (h : RowOf S w v sz n cs) (hk : Stays S w w') : RowOf S w' v sz n cs := by
  obtain ⟨s0, cap, h1, h2, h3, h4, h5, h6⟩ := h
  refine ⟨s0, cap, h1, h2, h3, h4, fun h0 => ?_, h6⟩
  obtain ⟨b, off, e, hb, hl, hc⟩ := h5 h0
  exact ⟨b, off, e, hb, Nat.lt_of_lt_of_le hl hk.size, fun i hi j hj => (hk.cell hb hl _).trans (hc i hi j hj)⟩
theorem RowOf.mono {S S' : Nat → Prop} {w : World} {v : Value} {sz n : Nat} {cs : Nat → List Value} (h : RowOf S w v sz n cs) (hb : ∀ b, S b → S' b) : RowOf S' w v sz n cs := by
  obtain ⟨s0, cap, h1, h2, h3, h4, h5, h6⟩ := h
  refine ⟨s0, cap, h1, h2, h3, h4, fun h0 => ?_, h6⟩
  obtain ⟨b, off, e, hb', hl, hc⟩ := h5 h0
  exact ⟨b, off, e, hb _ hb', hl, hc⟩
theorem RowOf.nil (S : Nat → Prop) (w : World) (sz : Nat) (cs : Nat → List Value) : RowOf S w (.slice none 0 0) sz 0 cs :=
  ⟨none, 0, rfl, Nat.le_refl _, Nat.zero_le _, fun _ => rfl, fun h => absurd h (by omega), fun i hi => absurd hi (by omega)⟩

/-- an expression -/
inductive RepEx (S : Nat → Prop) (w : World) : List Value → Ex → Prop
  | mk {op num pos : Int} {text : ByteArray} {kids : List Ex} {v : Value} (cs : Nat → List Value) (hr : RowOf S w v 5 kids.length cs) (hk : ∀ i, i < kids.length → RepEx S w (cs i) (kids.getD i default)) :
    RepEx S w [.int .i64 op, .int .i64 num, .string text, v, .int .i64 pos] (.mk op num text kids pos)
theorem RepEx.keep {S : Nat → Prop} {w w' : World} {cs : List Value} {x : Ex} (h : RepEx S w cs x) (hk : Stays S w w') : RepEx S w' cs x := by
  induction h with
  | mk cs hr _ ih => exact .mk cs (hr.keep hk) ih
theorem RepEx.mono {S S' : Nat → Prop} {w : World} {cs : List Value} {x : Ex} (h : RepEx S w cs x) (hb : ∀ b, S b → S' b) : RepEx S' w cs x := by
  induction h with
  | mk cs hr _ ih => exact .mk cs (hr.mono hb) ih
theorem RepEx.down {base base' : Nat} {w : World} {cs : List Value} {x : Ex} (h : RepEx (From base) w cs x) (hb : base' ≤ base) : RepEx (From base') w cs x := h.mono fun _ hk => Nat.le_trans hb hk
theorem RepEx.form {S : Nat → Prop} {w : World} {cs : List Value} {x : Ex} (h : RepEx S w cs x) : ∃ op num text v pos, cs = [.int .i64 op, .int .i64 num, .string text, v, .int .i64 pos] ∧ ∃ s0 n cap, v = .slice s0 n cap := by
  obtain ⟨cs, hr, _⟩ := h
  obtain ⟨s0, cap, h1, _⟩ := hr
  exact ⟨_, _, _, _, _, rfl, _, _, _, h1⟩
/-- expressions in a row -/
def RepExs (S : Nat → Prop) (w : World) (v : Value) (l : List Ex) : Prop := ∃ cs, RowOf S w v 5 l.length cs ∧ ∀ i, i < l.length → RepEx S w (cs i) (l.getD i default)
theorem RepExs.keep {S : Nat → Prop} {w w' : World} {v : Value} {l : List Ex} (h : RepExs S w v l) (hk : Stays S w w') : RepExs S w' v l := by
  obtain ⟨cs, h1, h2⟩ := h
  exact ⟨cs, h1.keep hk, fun i hi => (h2 i hi).keep hk⟩
theorem RepExs.mono {S S' : Nat → Prop} {w : World} {v : Value} {l : List Ex} (h : RepExs S w v l) (hb : ∀ b, S b → S' b) : RepExs S' w v l := by
  obtain ⟨cs, h1, h2⟩ := h
  exact ⟨cs, h1.mono hb, fun i hi => (h2 i hi).mono hb⟩
theorem RepExs.nil (S : Nat → Prop) (w : World) : RepExs S w (.slice none 0 0) [] := ⟨fun _ => [], RowOf.nil _ _ _ _, fun i hi => absurd hi (by simp)⟩
theorem RepEx.of {S : Nat → Prop} {w : World} {v : Value} {op num pos : Int} {text : ByteArray} {kids : List Ex} (h : RepExs S w v kids) : RepEx S w [.int .i64 op, .int .i64 num, .string text, v, .int .i64 pos] (.mk op num text kids pos) := by
  obtain ⟨cs, h1, h2⟩ := h
  exact .mk cs h1 h2
theorem RepEx.kids {S : Nat → Prop} {w : World} {cs : List Value} {op num pos : Int} {text : ByteArray} {kids : List Ex} (h : RepEx S w cs (.mk op num text kids pos)) : ∃ v, cs = [.int .i64 op, .int .i64 num, .string text, v, .int .i64 pos] ∧ RepExs S w v kids := by
  cases h with
  | mk cs hr hk => exact ⟨_, rfl, cs, hr, hk⟩

/-- a statement -/
inductive RepSt (S : Nat → Prop) (w : World) : List Value → St → Prop
  | mk {op pos : Int} {text : ByteArray} {exprs : List Ex} {body els : List St} {ve vb vl : Value} (cb cl : Nat → List Value) (he : RepExs S w ve exprs) (hb : RowOf S w vb 6 body.length cb) (hb2 : ∀ i, i < body.length → RepSt S w (cb i) (body.getD i default))
      (hl : RowOf S w vl 6 els.length cl) (hl2 : ∀ i, i < els.length → RepSt S w (cl i) (els.getD i default)) :
    RepSt S w [.int .i64 op, .string text, ve, vb, vl, .int .i64 pos] (.mk op text exprs body els pos)
theorem RepSt.keep {S : Nat → Prop} {w w' : World} {cs : List Value} {x : St} (h : RepSt S w cs x) (hk : Stays S w w') : RepSt S w' cs x := by
  induction h with
  | mk cb cl he hb _ hl _ ih1 ih2 => exact .mk cb cl (he.keep hk) (hb.keep hk) ih1 (hl.keep hk) ih2
theorem RepSt.mono {S S' : Nat → Prop} {w : World} {cs : List Value} {x : St} (h : RepSt S w cs x) (hbb : ∀ b, S b → S' b) : RepSt S' w cs x := by
  induction h with
  | mk cb cl he hb _ hl _ ih1 ih2 => exact .mk cb cl (he.mono hbb) (hb.mono hbb) ih1 (hl.mono hbb) ih2
def RepSts (S : Nat → Prop) (w : World) (v : Value) (l : List St) : Prop := ∃ cs, RowOf S w v 6 l.length cs ∧ ∀ i, i < l.length → RepSt S w (cs i) (l.getD i default)
theorem RepSts.keep {S : Nat → Prop} {w w' : World} {v : Value} {l : List St} (h : RepSts S w v l) (hk : Stays S w w') : RepSts S w' v l := by
  obtain ⟨cs, h1, h2⟩ := h
  exact ⟨cs, h1.keep hk, fun i hi => (h2 i hi).keep hk⟩
theorem RepSts.nil (S : Nat → Prop) (w : World) : RepSts S w (.slice none 0 0) [] := ⟨fun _ => [], RowOf.nil _ _ _ _, fun i hi => absurd hi (by simp)⟩
theorem RepSt.of {S : Nat → Prop} {w : World} {op pos : Int} {text : ByteArray} {exprs : List Ex} {body els : List St} {ve vb vl : Value} (he : RepExs S w ve exprs) (hb : RepSts S w vb body) (hl : RepSts S w vl els) :
    RepSt S w [.int .i64 op, .string text, ve, vb, vl, .int .i64 pos] (.mk op text exprs body els pos) := by
  obtain ⟨cb, hb1, hb2⟩ := hb
  obtain ⟨cl, hl1, hl2⟩ := hl
  exact .mk cb cl he hb1 hb2 hl1 hl2
theorem RepSt.parts {S : Nat → Prop} {w : World} {cs : List Value} {op pos : Int} {text : ByteArray} {exprs : List Ex} {body els : List St} (h : RepSt S w cs (.mk op text exprs body els pos)) :
    ∃ ve vb vl, cs = [.int .i64 op, .string text, ve, vb, vl, .int .i64 pos] ∧ RepExs S w ve exprs ∧ RepSts S w vb body ∧ RepSts S w vl els := by
  cases h with
  | mk cb cl he hb hb2 hl hl2 => exact ⟨_, _, _, rfl, he, ⟨cb, hb, hb2⟩, ⟨cl, hl, hl2⟩⟩
end Go.Proofs.Ytpiamiaigjlafaa
