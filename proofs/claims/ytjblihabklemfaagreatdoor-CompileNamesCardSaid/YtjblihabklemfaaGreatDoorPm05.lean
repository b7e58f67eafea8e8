/-
  Compile: part 5 of its proof: see the last text.
-/
import Derived.Test.YtjblihabklemfaaGreatDoorPm04
import Derived.Test.YtjblihabklemfaaGreatDoorPm00
import Derived.Test.YtjblihabklemfaaGreatDoorPm01
set_option maxRecDepth 100000
set_option maxHeartbeats 16000000
namespace Go.Proofs.YtjblihabklemfaaGreatDoor
section
open Go.RowKit
theorem PSays.cases {α : Type} {rb : Nat} {en : Int} {w w' : World} {R : World → α → Value → Prop} {r : Except (Int × Int) (α × List Tk)} {e : Ending} (h : PSays rb en w R r e w') :
    (∃ er p, r = .error (er, p) ∧ e = Pan er p ∧ On rb w w') ∨ (∃ x l v, r = .ok (x, l) ∧ e = .returned v ∧ R w' x v ∧ RdAt w' rb l en ∧ On rb w w') := by
 obtain ⟨h, ho⟩ := h
 cases r with
 | error q =>
  obtain ⟨er, p⟩ := q
  exact .inl ⟨er, p, rfl, h, ho⟩
 | ok q =>
  obtain ⟨x, l⟩ := q
  obtain ⟨v, h1, h2, h3⟩ := h
  exact .inr ⟨x, l, v, rfl, h1, h2, h3, ho⟩
theorem PSays.err {α : Type} {rb : Nat} {en : Int} {w w' : World} {R : World → α → Value → Prop} {r : Except (Int × Int) (α × List Tk)} {er p : Int} (hr : r = .error (er, p)) (ho : On rb w w') : PSays rb en w R r (Pan er p) w' := by
 subst hr
 exact ⟨rfl, ho⟩
theorem PSays.ok {α : Type} {rb : Nat} {en : Int} {w w' : World} {R : World → α → Value → Prop} {r : Except (Int × Int) (α × List Tk)} {x : α} {l : List Tk} {v : Value} (hr : r = .ok (x, l)) (hR : R w' x v) (hrd : RdAt w' rb l en) (ho : On rb w w') : PSays rb en w R r (.returned v) w' := by
 subst hr
 exact ⟨⟨v, rfl, hR, hrd⟩, ho⟩
theorem np (rb : Nat) (l : List Tk) (en : Int) (w : World) (h : RdAt w rb l en) :
    Calls Tryz.prog 45 #[.pointer (some ⟨rb, 0, none⟩)] w (PSays rb en w (fun _ t v => v = .int .i64 t) (ig en l)) := by
 have HT := zh (fun (s : ByteArray) (W : World) (hW : RdAt W rb l en) => gl rb s l en W hW)
 have HH := zh h
 have HM : Hid (∀ a b, atS l 0 lH = a → atS l 0 jo = b → ig en l = if a then .ok (1, l.tail) else if b then .ok (2, l.tail) else (match aX en fD l with | .error e => .error e | .ok (_, r) => .ok (3, r))) := zh (fun a b ha hb => by
   unfold ig
   rw [ha, hb]
   cases a <;> cases b <;> try rfl
   show Par.bind _ _ _ = _
   unfold Par.bind okP
   cases aX en fD l <;> rfl)
 have HU := zh (fun (W : World) (sb : Nat) (hW : RdAt W rb l en) (hs : W.cell? ⟨sb, 0, none⟩ = some (.string fD)) => aU rb sb fD l en W hW hs)
 clear h
 cases h1 : atS l 0 lH
 ·have HT1 := zh (HT.out lH w HH.out)
  rw [h1] at HT1
  cases h2 : atS l 0 jo
  ·have HM2 := zh (HM.out _ _ h1 h2)
   have HT2 := zh (HT.out jo)
   rw [h2] at HT2
   clear h1 h2
   unfold lH jo fD str at *
   go_enter Tryz.func45, Tryz.ntmps45
   go_wp2_with fail
   refine HT1.out.mono ?_
   rintro e w1 ⟨rfl, hr, ho⟩
   have HR := zh hr
   have HO := zh ho
   clear hr ho
   go_wp2_with fail
   refine (HT2.out w1 HR.out).mono ?_
   rintro e w2 ⟨rfl, hr, ho⟩
   have HR2 := zh hr
   have HO2 := zh (HO.out.trans ho)
   clear hr ho
   go_wp2_with fail
   refine (HU.out _ w2.heap.size (HR2.out.on (ae (Below.refl _ _) _)) (aw _ _ _ _ _ _ rfl rfl)).mono ?_
   rintro e w3 hp
   have HO3 := zh (HO2.out.alloc (.cells #[.string ⟨[98, 121, 116, 101, 115].toArray⟩] 9))
   rcases hp.cases with ⟨er, p, hm, rfl, ho⟩ | ⟨x, r, v, hm, rfl, hv, hr, ho⟩
   ·have HF := zh (show ig en l = .error (er, p) from by rw [HM2.out, hm]; rfl)
    have HO4 := zh (HO3.out.trans ho)
    clear hp hm ho
    unfold Pan
    go_wp2_with fail
    exact ⟨rfl, PSays.err HF.out HO4.out⟩
   ·have HF := zh (show ig en l = .ok (3, r) from by rw [HM2.out, hm]; rfl)
    have HO4 := zh (HO3.out.trans ho)
    have HR4 := zh hr
    clear hp hm ho hr
    subst hv
    go_wp2_with fail
    go_ret
    exact PSays.ok HF.out rfl HR4.out HO4.out
  ·have HM2 := zh (HM.out _ _ h1 h2)
   have HT2 := zh (HT.out jo)
   rw [h2] at HT2
   clear h1 h2
   unfold lH jo str at *
   go_enter Tryz.func45, Tryz.ntmps45
   go_wp2_with fail
   refine HT1.out.mono ?_
   rintro e w1 ⟨rfl, hr, ho⟩
   have HR := zh hr
   have HO := zh ho
   clear hr ho
   go_wp2_with fail
   refine (HT2.out w1 HR.out).mono ?_
   rintro e w2 ⟨rfl, hr, ho⟩
   have HR2 := zh hr
   have HO2 := zh (HO.out.trans ho)
   clear hr ho
   go_wp2_with fail
   go_ret
   exact PSays.ok HM2.out rfl HR2.out HO2.out
 ·have HM2 := zh (HM.out _ _ h1 rfl)
  have HT1 := zh (HT.out lH w HH.out)
  rw [h1] at HT1
  clear h1
  unfold lH str at *
  go_enter Tryz.func45, Tryz.ntmps45
  go_wp2_with fail
  refine HT1.out.mono ?_
  rintro e w1 ⟨rfl, hr, ho⟩
  have HR := zh hr
  have HO := zh ho
  clear hr ho
  go_wp2_with fail
  go_ret
  exact PSays.ok HM2.out rfl HR.out HO.out
end
section
open Go.RowKit
abbrev bA (b : Nat) : Nat → Prop := fun k => b ≤ k
structure Stays (S : Nat → Prop) (w w' : World) : Prop where
 size : w.heap.size ≤ w'.heap.size
 block : ∀ b, S b → b < w.heap.size → w'.heap[b]? = w.heap[b]?
theorem Stays.refl (S : Nat → Prop) (w : World) : Stays S w w := ⟨Nat.le_refl _, fun _ _ _ => rfl⟩
theorem Stays.trans {S : Nat → Prop} {a b c : World} (h : Stays S a b) (g : Stays S b c) : Stays S a c :=
 ⟨Nat.le_trans h.size g.size, fun k hk hl => (g.block k hk (Nat.lt_of_lt_of_le hl h.size)).trans (h.block k hk hl)⟩
theorem Stays.of_below {S : Nat → Prop} {a b : World} (h : Below a.heap.size a b) : Stays S a b := ⟨h.size, fun k _ hl => h.block k hl⟩
theorem Stays.of_ne {S : Nat → Prop} {k : Nat} {a b : World} (h : On k a b) (hk : ¬ S k) : Stays S a b := ⟨h.size, fun i hi hl => h.block i hl (fun e => by injection e with e; subst e; exact hk hi)⟩
theorem Stays.of_on {base k : Nat} {a b : World} (h : On k a b) (hk : k < base) : Stays (bA base) a b := Stays.of_ne h (fun h => Nat.not_le_of_lt hk h)
theorem Stays.cell {S : Nat → Prop} {a b : World} (h : Stays S a b) {k : Nat} (hk : S k) (hl : k < a.heap.size) (o : Nat) : b.cell? ⟨k, o, none⟩ = a.cell? ⟨k, o, none⟩ := World.cell?_of_block (w := a) (h.block k hk hl)
def RowOf (S : Nat → Prop) (w : World) (v : Value) (sz n : Nat) (cs : Nat → List Value) : Prop :=
 ∃ s0 cap, v = .slice s0 n cap ∧ n ≤ cap ∧ cap ≤ maxLen ∧ (s0 = none → cap = 0) ∧ (0 < n → ∃ b off, s0 = some ⟨b, off, none⟩ ∧ S b ∧ b < w.heap.size ∧ ∀ i, i < n → ∀ j, j < sz → w.cell? ⟨b, off + i * sz + j, none⟩ = (cs i)[j]?) ∧ ∀ i, i < n → (cs i).length = sz
theorem RowOf.keep {S : Nat → Prop} {w w' : World} {v : Value} {sz n : Nat} {cs : Nat → List Value} (h : RowOf S w v sz n cs) (hk : Stays S w w') : RowOf S w' v sz n cs := by
 obtain ⟨s0, cap, h1, h2, h3, h4, h5, h6⟩ := h
 refine ⟨s0, cap, h1, h2, h3, h4, fun h0 => ?_, h6⟩
 obtain ⟨b, off, e, hb, hl, hc⟩ := h5 h0
 exact ⟨b, off, e, hb, Nat.lt_of_lt_of_le hl hk.size, fun i hi j hj => (hk.cell hb hl _).trans (hc i hi j hj)⟩
theorem RowOf.mono {S S' : Nat → Prop} {w : World} {v : Value} {sz n : Nat} {cs : Nat → List Value} (h : RowOf S w v sz n cs) (hb : ∀ b, S b → S' b) : RowOf S' w v sz n cs := by
 obtain ⟨s0, cap, h1, h2, h3, h4, h5, h6⟩ := h
 refine ⟨s0, cap, h1, h2, h3, h4, fun h0 => ?_, h6⟩
 obtain ⟨b, off, e, hb', hl, hc⟩ := h5 h0
 exact ⟨b, off, e, hb _ hb', hl, hc⟩
theorem RowOf.nil (S : Nat → Prop) (w : World) (sz : Nat) (cs : Nat → List Value) : RowOf S w (.slice none 0 0) sz 0 cs :=
 ⟨none, 0, rfl, Nat.le_refl _, Nat.zero_le _, fun _ => rfl, fun h => absurd h (by omega), fun i hi => absurd hi (by omega)⟩
inductive RepEx (S : Nat → Prop) (w : World) : List Value → Ex → Prop
 | mk {op num pos : Int} {text : ByteArray} {kids : List Ex} {v : Value} (cs : Nat → List Value) (hr : RowOf S w v 5 kids.length cs) (hk : ∀ i, i < kids.length → RepEx S w (cs i) (kids.getD i default)) :
  RepEx S w [.int .i64 op, .int .i64 num, .string text, v, .int .i64 pos] (.mk op num text kids pos)
theorem RepEx.keep {S : Nat → Prop} {w w' : World} {cs : List Value} {x : Ex} (h : RepEx S w cs x) (hk : Stays S w w') : RepEx S w' cs x := by
 induction h with
 | mk cs hr _ ih => exact .mk cs (hr.keep hk) ih
theorem RepEx.mono {S S' : Nat → Prop} {w : World} {cs : List Value} {x : Ex} (h : RepEx S w cs x) (hb : ∀ b, S b → S' b) : RepEx S' w cs x := by
 induction h with
 | mk cs hr _ ih => exact .mk cs (hr.mono hb) ih
theorem RepEx.down {base base' : Nat} {w : World} {cs : List Value} {x : Ex} (h : RepEx (bA base) w cs x) (hb : base' ≤ base) : RepEx (bA base') w cs x := h.mono fun _ hk => Nat.le_trans hb hk
theorem RepEx.form {S : Nat → Prop} {w : World} {cs : List Value} {x : Ex} (h : RepEx S w cs x) : ∃ op num text v pos, cs = [.int .i64 op, .int .i64 num, .string text, v, .int .i64 pos] ∧ ∃ s0 n cap, v = .slice s0 n cap := by
 obtain ⟨cs, hr, _⟩ := h
 obtain ⟨s0, cap, h1, _⟩ := hr
 exact ⟨_, _, _, _, _, rfl, _, _, _, h1⟩
def RepExs (S : Nat → Prop) (w : World) (v : Value) (l : List Ex) : Prop := ∃ cs, RowOf S w v 5 l.length cs ∧ ∀ i, i < l.length → RepEx S w (cs i) (l.getD i default)
theorem RepExs.keep {S : Nat → Prop} {w w' : World} {v : Value} {l : List Ex} (h : RepExs S w v l) (hk : Stays S w w') : RepExs S w' v l := by
 obtain ⟨cs, h1, h2⟩ := h
 exact ⟨cs, h1.keep hk, fun i hi => (h2 i hi).keep hk⟩
theorem RepExs.mono {S S' : Nat → Prop} {w : World} {v : Value} {l : List Ex} (h : RepExs S w v l) (hb : ∀ b, S b → S' b) : RepExs S' w v l := by
 obtain ⟨cs, h1, h2⟩ := h
 exact ⟨cs, h1.mono hb, fun i hi => (h2 i hi).mono hb⟩
theorem RepExs.nil (S : Nat → Prop) (w : World) : RepExs S w (.slice none 0 0) [] := ⟨fun _ => [], RowOf.nil _ _ _ _, fun i hi => absurd hi (by simp)⟩
theorem RepEx.of {S : Nat → Prop} {w : World} {v : Value} {op num pos : Int} {text : ByteArray} {kids : List Ex} (h : RepExs S w v kids) : RepEx S w [.int .i64 op, .int .i64 num, .string text, v, .int .i64 pos] (.mk op num text kids pos) := by
 obtain ⟨cs, h1, h2⟩ := h
 exact .mk cs h1 h2
theorem RepEx.kids {S : Nat → Prop} {w : World} {cs : List Value} {op num pos : Int} {text : ByteArray} {kids : List Ex} (h : RepEx S w cs (.mk op num text kids pos)) : ∃ v, cs = [.int .i64 op, .int .i64 num, .string text, v, .int .i64 pos] ∧ RepExs S w v kids := by
 cases h with
 | mk cs hr hk => exact ⟨_, rfl, cs, hr, hk⟩
inductive RepSt (S : Nat → Prop) (w : World) : List Value → St → Prop
 | mk {op pos : Int} {text : ByteArray} {exprs : List Ex} {body els : List St} {ve vb vl : Value} (cb cl : Nat → List Value) (he : RepExs S w ve exprs) (hb : RowOf S w vb 6 body.length cb) (hb2 : ∀ i, i < body.length → RepSt S w (cb i) (body.getD i default))
     (hl : RowOf S w vl 6 els.length cl) (hl2 : ∀ i, i < els.length → RepSt S w (cl i) (els.getD i default)) :
  RepSt S w [.int .i64 op, .string text, ve, vb, vl, .int .i64 pos] (.mk op text exprs body els pos)
theorem RepSt.keep {S : Nat → Prop} {w w' : World} {cs : List Value} {x : St} (h : RepSt S w cs x) (hk : Stays S w w') : RepSt S w' cs x := by
 induction h with
 | mk cb cl he hb _ hl _ ih1 ih2 => exact .mk cb cl (he.keep hk) (hb.keep hk) ih1 (hl.keep hk) ih2
theorem RepSt.mono {S S' : Nat → Prop} {w : World} {cs : List Value} {x : St} (h : RepSt S w cs x) (hbb : ∀ b, S b → S' b) : RepSt S' w cs x := by
 induction h with
 | mk cb cl he hb _ hl _ ih1 ih2 => exact .mk cb cl (he.mono hbb) (hb.mono hbb) ih1 (hl.mono hbb) ih2
def RepSts (S : Nat → Prop) (w : World) (v : Value) (l : List St) : Prop := ∃ cs, RowOf S w v 6 l.length cs ∧ ∀ i, i < l.length → RepSt S w (cs i) (l.getD i default)
theorem RepSts.keep {S : Nat → Prop} {w w' : World} {v : Value} {l : List St} (h : RepSts S w v l) (hk : Stays S w w') : RepSts S w' v l := by
 obtain ⟨cs, h1, h2⟩ := h
 exact ⟨cs, h1.keep hk, fun i hi => (h2 i hi).keep hk⟩
theorem RepSts.nil (S : Nat → Prop) (w : World) : RepSts S w (.slice none 0 0) [] := ⟨fun _ => [], RowOf.nil _ _ _ _, fun i hi => absurd hi (by simp)⟩
theorem RepSt.of {S : Nat → Prop} {w : World} {op pos : Int} {text : ByteArray} {exprs : List Ex} {body els : List St} {ve vb vl : Value} (he : RepExs S w ve exprs) (hb : RepSts S w vb body) (hl : RepSts S w vl els) :
    RepSt S w [.int .i64 op, .string text, ve, vb, vl, .int .i64 pos] (.mk op text exprs body els pos) := by
 obtain ⟨cb, hb1, hb2⟩ := hb
 obtain ⟨cl, hl1, hl2⟩ := hl
 exact .mk cb cl he hb1 hb2 hl1 hl2
theorem RepSt.parts {S : Nat → Prop} {w : World} {cs : List Value} {op pos : Int} {text : ByteArray} {exprs : List Ex} {body els : List St} (h : RepSt S w cs (.mk op text exprs body els pos)) :
    ∃ ve vb vl, cs = [.int .i64 op, .string text, ve, vb, vl, .int .i64 pos] ∧ RepExs S w ve exprs ∧ RepSts S w vb body ∧ RepSts S w vl els := by
 cases h with
 | mk cb cl he hb hb2 hl hl2 => exact ⟨_, _, _, rfl, he, ⟨cb, hb, hb2⟩, ⟨cl, hl, hl2⟩⟩
end
section
open Go.RowKit
def RX (base : Nat) (w : World) (x : Ex) (v : Value) : Prop := ∃ op num text s0 n cap pos, v = .agg #[.int .i64 op, .int .i64 num, .string text, .slice s0 n cap, .int .i64 pos] ∧ RepEx (bA base) w [.int .i64 op, .int .i64 num, .string text, .slice s0 n cap, .int .i64 pos] x
theorem RX.keep {base : Nat} {w w' : World} {x : Ex} {v : Value} (h : RX base w x v) (ho : Stays (bA base) w w') : RX base w' x v := by
 obtain ⟨op, num, text, s0, n, cap, pos, h1, h2⟩ := h
 exact ⟨op, num, text, s0, n, cap, pos, h1, h2.keep ho⟩
theorem RX.mono {base base' : Nat} {w : World} {x : Ex} {v : Value} (h : RX base w x v) (hb : base' ≤ base) : RX base' w x v := by
 obtain ⟨op, num, text, s0, n, cap, pos, h1, h2⟩ := h
 exact ⟨op, num, text, s0, n, cap, pos, h1, h2.down hb⟩
def bP (rb : Nat) (en : Int) (f : FuncId) (args : Array Value) (P : Par Ex) : Prop := ∀ (l : List Tk) (w : World), RdAt w rb l en → Calls Tryz.prog f args w (PSays rb en w (RX w.heap.size) (P l))
def set5 (w : World) (k : Nat) (a b c d e : Value) : World := ((((w.setCell ⟨k, 0, none⟩ a).setCell ⟨k, 1, none⟩ b).setCell ⟨k, 2, none⟩ c).setCell ⟨k, 3, none⟩ d).setCell ⟨k, 4, none⟩ e
theorem On.set5 {k : Nat} {a w : World} (h : On k a w) (x0 x1 x2 x3 x4 : Value) : On k a (set5 w k x0 x1 x2 x3 x4) := ((((h.set 0 _).set 1 _).set 2 _).set 3 _).set 4 _
theorem On.new {rb k : Nat} {a b c : World} (h : On rb a b) (g : On k b c) (hk : a.heap.size ≤ k) : On rb a c :=
 ⟨g.os.trans h.os, g.tape.trans h.tape, g.output.trans h.output, Nat.le_trans h.size g.size, fun i hi hne => (g.block i (Nat.lt_of_lt_of_le hi h.size) (fun e => by injection e with e; omega)).trans (h.block i hi hne)⟩
theorem oa (rb : Nat) (d : Int) (hd0 : 0 ≤ d) (hd : d ≤ 32) (en : Int) (P : Par Ex) (HE : bP rb en 101 #[.pointer (some ⟨rb, 0, none⟩), .int .i64 (d + 1)] P) : bP rb en 138 #[.pointer (some ⟨rb, 0, none⟩), .int .i64 d] (dc en P) := by
 intro l w h
 have HM1 := zh (fun (W : World) (sb : Nat) (hW : RdAt W rb l en) (hs : W.cell? ⟨sb, 0, none⟩ = some (.string bW)) => aU rb sb bW l en W hW hs)
 have HM2 := zh (fun (W : World) (l : List Tk) (sb : Nat) (hW : RdAt W rb l en) (hs : W.cell? ⟨sb, 0, none⟩ = some (.string cj)) => aU rb sb cj l en W hW hs)
 have HEE := zh HE
 have HH := zh h
 have HLT := zh h.lt
 have hdi : d + 1 < 100 := by omega
 have HP : Hid (dc en P l = (match aX en bW l with | .error e => .error e | .ok (_, r) => (match P r with | .error e => .error e | .ok (x, r) => (match aX en cj r with | .error e => .error e | .ok (_, r) => .ok (x, r))))) := zh (by
   unfold dc Par.bind okP
   cases aX en bW l with
   | error e => rfl
   | ok q =>
     dsimp only
     cases P q.2 with
     | error e => rfl
     | ok z =>
       dsimp only
       cases aX en cj z.2 <;> rfl)
 clear HE h
 unfold bW cj str at *
 go_enter Tryz.func138, Tryz.ntmps138
 go_wp2_with fail
 refine (HM1.out _ (w.heap.size + 1) (HH.out.on (ae (ae (Below.refl _ _) _) _)) (aw _ _ _ _ _ _ (ag _ _) rfl)).mono ?_
 rintro e w1 hp
 have HO0 := zh (((On.refl rb w).alloc (.cells #[.int .i64 0, .int .i64 0, .string ⟨#[]⟩, .slice none 0 0, .int .i64 0] 65)).alloc (.cells #[.string ⟨[40].toArray⟩] 9))
 rcases hp.cases with ⟨er, p, hm, rfl, ho⟩ | ⟨x, r, v, hm, rfl, hv, hr, ho⟩
 ·have HF := zh (show dc en P l = .error (er, p) from by rw [HP.out, hm])
  have HO1 := zh (HO0.out.trans ho)
  clear hp hm ho
  unfold Pan
  go_wp2_with fail
  exact ⟨rfl, PSays.err HF.out HO1.out⟩
 ·have HP1 := zh (show dc en P l = (match P r with | .error e => .error e | .ok (x, r) => (match aX en (⟨[41].toArray⟩ : ByteArray) r with | .error e => .error e | .ok (_, r) => .ok (x, r))) from by rw [HP.out, hm])
  have HO1 := zh (HO0.out.trans ho)
  have HR1 := zh hr
  have HC1 := zh (ho.obj (k' := w.heap.size) (o := .cells #[.int .i64 0, .int .i64 0, .string ⟨#[]⟩, .slice none 0 0, .int .i64 0] 65) (by have := HLT.out; omega) (au _ _ _ _ (ah _ _ _ rfl)))
  clear hp hm ho hr
  subst hv
  go_wp2_with fail
  refine (HEE.out r w1 HR1.out).mono ?_
  rintro e w2 hp
  rcases hp.cases with ⟨er, p, hm, rfl, ho⟩ | ⟨x, r2, v, hm, rfl, hv, hr, ho⟩
  ·have HF := zh (show dc en P l = .error (er, p) from by rw [HP1.out, hm])
   have HO2 := zh (HO1.out.trans ho)
   clear hp hm ho
   unfold Pan
   go_wp2_with fail
   exact ⟨rfl, PSays.err HF.out HO2.out⟩
  ·have HP2 := zh (show dc en P l = (match aX en (⟨[41].toArray⟩ : ByteArray) r2 with | .error e => .error e | .ok (_, r) => .ok (x, r)) from by rw [HP1.out, hm])
   have HO2 := zh (HO1.out.trans ho)
   have HR2 := zh hr
   have hsz : w.heap.size < w2.heap.size := Nat.lt_of_lt_of_le (ad HC1.out) ho.size
   have HC2 := zh (ho.obj (k' := w.heap.size) (by have := HLT.out; omega) HC1.out)
   obtain ⟨op, num, text, s0, n, cap, pos, rfl, hrep⟩ := hv
   have HREP := zh hrep
   clear hp hm ho hr hrep
   go_wp2_with fail
   have HB3 : Below w2.heap.size w2 ((w2.alloc (.cells #[.int .i64 op, .int .i64 num, .string text, .slice s0 n cap, .int .i64 pos] 65)).alloc (.cells #[.string ⟨[41].toArray⟩] 9)) := ae (ae (Below.refl _ _) _) _
   refine (HM2.out _ r2 (w2.heap.size + 1) (HR2.out.on HB3) (aw _ _ _ _ _ _ (ag _ _) rfl)).mono ?_
   rintro e w3 hp
   have HO3 := zh (HO2.out.trans (On.of_below HB3))
   rcases hp.cases with ⟨er, p, hm, rfl, ho⟩ | ⟨x', r3, v, hm, rfl, hv, hr, ho⟩
   ·have HF := zh (show dc en P l = .error (er, p) from by rw [HP2.out, hm])
    have HO4 := zh (HO3.out.trans ho)
    clear hp hm ho
    unfold Pan
    go_wp2_with fail
    exact ⟨rfl, PSays.err HF.out HO4.out⟩
   ·have HF := zh (show dc en P l = .ok (x, r3) from by rw [HP2.out, hm])
    have HO4 := zh (HO3.out.trans ho)
    have HR4 := zh hr
    have hne2 : w2.heap.size ≠ rb := by have := HLT.out; omega
    have hx := ho.obj (k' := w2.heap.size) hne2 (au _ _ _ _ (ah _ _ _ rfl))
    have hc := (On.of_below HB3 : On rb w2 _).obj (k' := w.heap.size) (by have := HLT.out; omega) HC2.out
    have hc3 := ho.obj (k' := w.heap.size) (by have := HLT.out; omega) hc
    have hlt1 := ad HC1.out
    have HREP4 := zh (HREP.out.keep ((Stays.of_below HB3).trans (Stays.of_on ho (by have := HLT.out; omega))))
    have HC3 := zh hc3
    have x0 := aa hx (j := 0) rfl
    have x1 := aa hx (j := 1) rfl
    have x2 := aa hx (j := 2) rfl
    have x3 := aa hx (j := 3) rfl
    have x4 := aa hx (j := 4) rfl
    have f0 := ab hc3 0
    have f1 := ab hc3 1
    have f2 := ab hc3 2
    have f3 := ab hc3 3
    have f4 := ab hc3 4
    have c0 := aa hc3 (j := 0) rfl
    have c1 := aa hc3 (j := 1) rfl
    have c2 := aa hc3 (j := 2) rfl
    have c3 := aa hc3 (j := 3) rfl
    have c4 := aa hc3 (j := 4) rfl
    clear hp hm ho hr hx hc hc3 HB3
    subst hv
    go_wp2_with fail
    have HON : On w.heap.size w3 (set5 w3 w.heap.size (.int .i64 op) (.int .i64 num) (.string text) (.slice s0 n cap) (.int .i64 pos)) := (On.refl _ _).set5 _ _ _ _ _
    have HR5 := HR4.out.off HON HLT.out
    have HO5 := HO4.out.new HON (Nat.le_refl _)
    have HX5 := HREP4.out.keep (Stays.of_on HON hlt1)
    refine bodyPost_ret (v := .agg #[.int .i64 op, .int .i64 num, .string text, .slice s0 n cap, .int .i64 pos]) (by simp [results, Tryz.results138, go_sem, c0, c1, c2, c3, c4]) rfl ?_
    exact PSays.ok HF.out ⟨_, _, _, _, _, _, _, rfl, HX5.down (Nat.le_of_lt hlt1)⟩ HR5 HO5
end
end Go.Proofs.YtjblihabklemfaaGreatDoor
