/-
  Statements: how they lie; what a walk through stmt knows.
-/
import Derived.Test.YtpiamiaigjlafaaParK
import Derived.Test.YtpiamiaigjlafaaParN
namespace Go.Proofs.Ytpiamiaigjlafaa
open Go.RowKit

theorem RepSt.lies {S : Nat → Prop} {w : World} {cs : List Value} {x : St} (h : RepSt S w cs x) : RepSt (fun b => S b ∧ b < w.heap.size) w cs x := by
  induction h with
  | mk cb cl he hb _ hl _ ih1 ih2 =>
    refine .mk cb cl ?_ ?_ ih1 ?_ ih2
    · obtain ⟨c, h1, h2⟩ := he
      exact ⟨c, h1.lies, fun i hi => (h2 i hi).lies⟩
    · exact hb.lies
    · exact hl.lies
def stK : Kind St := ⟨RepSt, RepSt.keep, RepSt.mono, RepSt.lies⟩
theorem RepSts.mono {S S' : Nat → Prop} {w : World} {v : Value} {l : List St} (h : RepSts S w v l) (hb : ∀ b, S b → S' b) : RepSts S' w v l := by
  obtain ⟨cs, h1, h2⟩ := h
  exact ⟨cs, h1.mono hb, fun i hi => (h2 i hi).mono hb⟩
theorem RepSts.form {S : Nat → Prop} {w : World} {v : Value} {l : List St} (h : RepSts S w v l) : ∃ s n c, v = .slice s n c := by
  obtain ⟨cs, ⟨s0, cap, h1, _⟩, _⟩ := h
  exact ⟨s0, _, cap, h1⟩
/-- a statement that came back -/
def RS (base : Nat) (w : World) (x : St) (v : Value) : Prop := ∃ op text s1 n1 c1 s2 n2 c2 s3 n3 c3 pos, v = .agg #[.int .i64 op, .string text, .slice s1 n1 c1, .slice s2 n2 c2, .slice s3 n3 c3, .int .i64 pos] ∧ RepSt (From base) w [.int .i64 op, .string text, .slice s1 n1 c1, .slice s2 n2 c2, .slice s3 n3 c3, .int .i64 pos] x
/-- statements that came back -/
def RSs (base : Nat) (w : World) (l : List St) (v : Value) : Prop := RepSts (From base) w v l
def ReadsSt (rb : Nat) (en : Int) (f : FuncId) (args : Array Value) (P : Par St) : Prop := ∀ (l : List Tk) (w : World), RdAt w rb l en → Calls Try.prog f args w (PSays rb en w (RS w.heap.size) (P l))
def ReadsSts (rb : Nat) (en : Int) (f : FuncId) (args : Array Value) (P : Par (List St)) : Prop := ∀ (l : List Tk) (w : World), RdAt w rb l en → Calls Try.prog f args w (PSays rb en w (RSs w.heap.size) (P l))

def set6 (w : World) (k : Nat) (a b c d e f : Value) : World := (set5 w k a b c d e).setCell ⟨k, 5, none⟩ f
theorem On.set6 {k : Nat} {a w : World} (h : On k a w) (x0 x1 x2 x3 x4 x5 : Value) : On k a (set6 w k x0 x1 x2 x3 x4 x5) := (h.set5 x0 x1 x2 x3 x4).set 5 _

/-- where the things of a statement's walk lie -/
structure Lay where
  rb : Nat
  BR : Nat
  BD : Nat
  RES : Nat
  SB : Nat
  base : Nat
  d : Int
  en : Int
  pl : Int
structure Lay.Ok (y : Lay) (w : World) : Prop where
  rb : y.rb < w.heap.size
  br : w.heap.size ≤ y.BR ∧ y.BR < y.base
  bd : w.heap.size ≤ y.BD ∧ y.BD < y.base
  res : w.heap.size ≤ y.RES ∧ y.RES < y.base
  sb : w.heap.size ≤ y.SB ∧ y.SB < y.base
  ne : y.BR ≠ y.SB ∧ y.BD ≠ y.SB ∧ y.RES ≠ y.SB ∧ y.BR ≠ y.RES ∧ y.BD ≠ y.RES
/-- what is known on the way -/
structure StW (w : World) (y : Lay) (W : World) (L : List Tk) (op : Int) (text : ByteArray) (ve : Value) (xs : List Ex) (vb : Value) (bs : List St) (vl : Value) (ls : List St) : Prop where
  rd : RdAt W y.rb L y.en
  br : W.heap[y.BR]? = some (.cells #[.pointer (some ⟨y.rb, 0, none⟩)] 68 (0, 0))
  bd : W.heap[y.BD]? = some (.cells #[.int .i64 y.d] 3 (0, 0))
  res : W.heap[y.RES]? = some (.cells #[.int .i64 0, .string ⟨#[]⟩, .slice none 0 0, .slice none 0 0, .slice none 0 0, .int .i64 0] 46 (0, 0))
  sb : W.heap[y.SB]? = some (.cells #[.int .i64 op, .string text, ve, vb, vl, .int .i64 y.pl] 46 (0, 0))
  ex : GrowOf exK y.base 44 5 W ve xs
  bo : RepSts (From y.base) W vb bs
  el : RepSts (From y.base) W vl ls
  on : On y.rb w W
  big : y.base ≤ W.heap.size
section
variable {w W W' : World} {y : Lay} {L L' : List Tk} {op : Int} {text : ByteArray} {ve vb vl : Value} {xs : List Ex} {bs ls : List St}
theorem StW.call (h : StW w y W L op text ve xs vb bs vl ls) (hy : y.Ok w) (ho : On y.rb W W') (hr : RdAt W' y.rb L' y.en) : StW w y W' L' op text ve xs vb bs vl ls := by
  have h1 := hy.rb
  have hst : Stays (From y.base) W W' := Stays.of_on ho (by have := hy.br; omega)
  exact ⟨hr, ho.obj (by have := hy.br; omega) h.br, ho.obj (by have := hy.bd; omega) h.bd, ho.obj (by have := hy.res; omega) h.res, ho.obj (by have := hy.sb; omega) h.sb, h.ex.keep hst, h.bo.keep hst, h.el.keep hst, h.on.trans ho, Nat.le_trans h.big ho.size⟩
theorem StW.below (h : StW w y W L op text ve xs vb bs vl ls) (hb : Below W.heap.size W W') : StW w y W' L op text ve xs vb bs vl ls := by
  have hst : Stays (From y.base) W W' := Stays.of_below hb
  exact ⟨h.rd.on hb, (hb.block _ (lt_block h.br)).trans h.br, (hb.block _ (lt_block h.bd)).trans h.bd, (hb.block _ (lt_block h.res)).trans h.res, (hb.block _ (lt_block h.sb)).trans h.sb, h.ex.keep hst, h.bo.keep hst, h.el.keep hst, h.on.trans (On.of_below hb), Nat.le_trans h.big hb.size⟩
/-- a store into the statement -/
theorem StW.store (h : StW w y W L op text ve xs vb bs vl ls) (hy : y.Ok w) (j : Nat) (u : Value) {op' : Int} {text' : ByteArray} {vb' vl' : Value} {bs' ls' : List St}
    (ha : (#[.int .i64 op, .string text, ve, vb, vl, .int .i64 y.pl] : Array Value).setIfInBounds j u = #[.int .i64 op', .string text', ve, vb', vl', .int .i64 y.pl]) (hb : RepSts (From y.base) W vb' bs') (hl : RepSts (From y.base) W vl' ls') :
    StW w y (W.setCell ⟨y.SB, j, none⟩ u) L op' text' ve xs vb' bs' vl' ls' := by
  have ho : On y.SB W (W.setCell ⟨y.SB, j, none⟩ u) := (On.refl _ _).set j u
  have hst : Stays (From y.base) W (W.setCell ⟨y.SB, j, none⟩ u) := Stays.of_on ho hy.sb.2
  have hne := hy.ne
  refine ⟨h.rd.off ho (by have := hy.sb; have := hy.rb; omega), ho.obj hne.1 h.br, ho.obj hne.2.1 h.bd, ho.obj hne.2.2.1 h.res, ?_, h.ex.keep hst, hb.keep hst, hl.keep hst, h.on.new ho hy.sb.1, Nat.le_trans h.big ho.size⟩
  rw [← ha]
  exact setCell_obj h.sb j u
/-- one more expression was read -/
theorem StW.kid {v' : Value} {xs' : List Ex} (h : StW w y W L op text ve xs (.slice none 0 0) [] (.slice none 0 0) []) (hy : y.Ok w) (ho : OnS (fun b => b = y.rb ∨ b = y.SB ∨ y.base ≤ b) W W') (hr : RdAt W' y.rb L' y.en)
    (hs : W'.heap[y.SB]? = some (.cells #[.int .i64 op, .string text, v', .slice none 0 0, .slice none 0 0, .int .i64 y.pl] 46)) (hg : GrowOf exK y.base 44 5 W' v' xs') : StW w y W' L' op text v' xs' (.slice none 0 0) [] (.slice none 0 0) [] := by
  have h1 := hy.rb
  have h2 := hy.sb
  have hne := hy.ne
  exact ⟨hr, ho.obj (by have := hy.br; omega) h.br, ho.obj (by have := hy.bd; omega) h.bd, ho.obj (by have := hy.res; omega) h.res, hs, hg, RepSts.nil _ _, RepSts.nil _ _, On.of_onS h.on ho (fun i hi => by have := hy.br; omega), Nat.le_trans h.big ho.size⟩
theorem StW.formE (h : StW w y W L op text ve xs vb bs vl ls) : ∃ s n c, ve = .slice s n c := by
  obtain ⟨cs, ho, _⟩ := h.ex
  obtain ⟨s0, cap, h1, _⟩ := own_form ho
  exact ⟨s0, _, cap, h1⟩
/-- what is given back -/
theorem StW.done {s1 s2 s3 : Option Addr} {n1 c1 n2 c2 n3 c3 : Nat} {R : Except (Int × Int) (St × List Tk)} (h : StW w y W L op text (.slice s1 n1 c1) xs (.slice s2 n2 c2) bs (.slice s3 n3 c3) ls) (hy : y.Ok w) (hR : R = .ok (.mk op text xs bs ls y.pl, L)) :
    PSays y.rb y.en w (RS w.heap.size) R (.returned (.agg #[.int .i64 op, .string text, .slice s1 n1 c1, .slice s2 n2 c2, .slice s3 n3 c3, .int .i64 y.pl])) (set6 W y.RES (.int .i64 op) (.string text) (.slice s1 n1 c1) (.slice s2 n2 c2) (.slice s3 n3 c3) (.int .i64 y.pl)) := by
  have ho : On y.RES W (set6 W y.RES (.int .i64 op) (.string text) (.slice s1 n1 c1) (.slice s2 n2 c2) (.slice s3 n3 c3) (.int .i64 y.pl)) := (On.refl _ _).set6 _ _ _ _ _ _
  have hst : Stays (From y.base) W _ := Stays.of_on ho hy.res.2
  obtain ⟨cs, hrow, hit⟩ := h.ex.row
  have hx : RepExs (From y.base) W (.slice s1 n1 c1) xs := ⟨cs, hrow, hit⟩
  refine PSays.ok hR ⟨_, _, _, _, _, _, _, _, _, _, _, _, rfl, ?_⟩ (h.rd.off ho (by have := hy.res; have := hy.rb; omega)) (h.on.new ho hy.res.1)
  exact ((RepSt.of hx h.bo h.el).keep hst).mono fun b (hb : y.base ≤ b) => (Nat.le_trans (by have := hy.br; omega) hb : w.heap.size ≤ b)
end
end Go.Proofs.Ytpiamiaigjlafaa
