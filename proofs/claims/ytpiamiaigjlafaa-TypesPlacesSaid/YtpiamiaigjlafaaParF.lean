/-
  A function.
-/
import Derived.Test.YtpiamiaigjlafaaParD
namespace Go.Proofs.Ytpiamiaigjlafaa
open Go.RowKit

def RepPas (S : Nat → Prop) (w : World) (v : Value) (l : List (ByteArray × Int)) : Prop := ∃ cs, RowOf S w v 2 l.length cs ∧ ∀ i, i < l.length → RepPa S w (cs i) (l.getD i default)
/-- a function lies there -/
def RepFn (S : Nat → Prop) (w : World) (cs : List Value) (x : Fn) : Prop := ∃ vp vb, cs = [.string x.name, vp, .int .i64 x.result, vb, .int .i64 x.pos] ∧ RepPas S w vp x.params ∧ RepSts S w vb x.body
theorem RepPas.keep {S : Nat → Prop} {w w' : World} {v : Value} {l : List (ByteArray × Int)} (h : RepPas S w v l) (hk : Stays S w w') : RepPas S w' v l := by
  obtain ⟨cs, h1, h2⟩ := h
  exact ⟨cs, h1.keep hk, h2⟩
theorem RepPas.mono {S S' : Nat → Prop} {w : World} {v : Value} {l : List (ByteArray × Int)} (h : RepPas S w v l) (hb : ∀ b, S b → S' b) : RepPas S' w v l := by
  obtain ⟨cs, h1, h2⟩ := h
  exact ⟨cs, h1.mono hb, h2⟩
theorem RepFn.keep {S : Nat → Prop} {w w' : World} {cs : List Value} {x : Fn} (h : RepFn S w cs x) (hk : Stays S w w') : RepFn S w' cs x := by
  obtain ⟨vp, vb, h1, h2, h3⟩ := h
  exact ⟨vp, vb, h1, h2.keep hk, h3.keep hk⟩
theorem RepFn.mono {S S' : Nat → Prop} {w : World} {cs : List Value} {x : Fn} (h : RepFn S w cs x) (hb : ∀ b, S b → S' b) : RepFn S' w cs x := by
  obtain ⟨vp, vb, h1, h2, h3⟩ := h
  exact ⟨vp, vb, h1, h2.mono hb, h3.mono hb⟩
theorem RepFn.lies {S : Nat → Prop} {w : World} {cs : List Value} {x : Fn} (h : RepFn S w cs x) : RepFn (fun b => S b ∧ b < w.heap.size) w cs x := by
  obtain ⟨vp, vb, h1, ⟨c, h2, h2'⟩, ⟨c', h3, h3'⟩⟩ := h
  exact ⟨vp, vb, h1, ⟨c, h2.lies, h2'⟩, ⟨c', h3.lies, fun i hi => (h3' i hi).lies⟩⟩
def fnK : Kind Fn := ⟨RepFn, RepFn.keep, RepFn.mono, RepFn.lies⟩
/-- a function that came back -/
def RF (base : Nat) (w : World) (x : Fn) (v : Value) : Prop := ∃ nm s1 n1 c1 rs s2 n2 c2 pos, v = .agg #[.string nm, .slice s1 n1 c1, .int .i64 rs, .slice s2 n2 c2, .int .i64 pos] ∧ RepFn (From base) w [.string nm, .slice s1 n1 c1, .int .i64 rs, .slice s2 n2 c2, .int .i64 pos] x
/-- what is known on the way through function -/
structure FuW (w : World) (y : FLay) (RES : Nat) (W : World) (L : List Tk) (nm : ByteArray) (vp : Value) (ps : List (ByteArray × Int)) (rs : Int) (vb : Value) (bs : List St) : Prop where
  rd : RdAt W y.rb L y.en
  on : On y.rb w W
  res : W.heap[RES]? = some (.cells #[.string ⟨#[]⟩, .slice none 0 0, .int .i64 0, .slice none 0 0, .int .i64 0] 34 (0, 0))
  f : FuF y W nm vp ps rs vb bs
structure FOk (w : World) (y : FLay) (RES : Nat) : Prop where
  f : y.Ok
  res : w.heap.size ≤ RES ∧ RES ≠ y.FB
  br : w.heap.size ≤ y.BR
  rr : y.rb < RES ∧ RES < y.base
  fb : w.heap.size ≤ y.FB
section
variable {w W W' : World} {y : FLay} {RES : Nat} {L L' : List Tk} {nm : ByteArray} {vp vb : Value} {ps : List (ByteArray × Int)} {rs : Int} {bs : List St}
theorem FuW.call (h : FuW w y RES W L nm vp ps rs vb bs) (hy : FOk w y RES) (ho : On y.rb W W') (hr : RdAt W' y.rb L' y.en) : FuW w y RES W' L' nm vp ps rs vb bs :=
  ⟨hr, h.on.trans ho, ho.obj (Nat.ne_of_gt hy.rr.1) h.res, h.f.call hy.f ho⟩
theorem FuW.below (h : FuW w y RES W L nm vp ps rs vb bs) (hb : Below W.heap.size W W') : FuW w y RES W' L nm vp ps rs vb bs :=
  ⟨h.rd.on hb, h.on.trans (On.of_below hb), (hb.block _ (lt_block h.res)).trans h.res, h.f.below hb⟩
theorem FuW.store (h : FuW w y RES W L nm vp ps rs vb bs) (hy : FOk w y RES) (j : Nat) (u : Value) {nm' : ByteArray} {rs' : Int} {vb' : Value} {bs' : List St}
    (ha : (#[.string nm, vp, .int .i64 rs, vb, .int .i64 y.pl] : Array Value).setIfInBounds j u = #[.string nm', vp, .int .i64 rs', vb', .int .i64 y.pl]) (hb : RepSts (From y.base) W vb' bs') :
    FuW w y RES (W.setCell ⟨y.FB, j, none⟩ u) L nm' vp ps rs' vb' bs' := by
  have ho : On y.FB W (W.setCell ⟨y.FB, j, none⟩ u) := (On.refl _ _).set j u
  exact ⟨h.rd.off ho hy.f.fb.1, h.on.new ho hy.fb, ho.obj hy.res.2 h.res, h.f.store hy.f j u ha hb⟩
theorem FuW.listed {vp' : Value} {ps' : List (ByteArray × Int)} (h : FuW w y RES W L nm vp ps rs vb bs) (hy : FOk w y RES) (ho : OnS (fun b => b = y.rb ∨ b = y.FB ∨ y.base ≤ b) W W') (hr : RdAt W' y.rb L' y.en) (hf : FuF y W' nm vp' ps' rs (.slice none 0 0) []) :
    FuW w y RES W' L' nm vp' ps' rs (.slice none 0 0) [] := by
  have h1 := hy.f.fb
  have h2 := hy.f.br
  exact ⟨hr, On.of_onS h.on ho (fun i hi => by have := hy.br; have := hy.fb; omega), ho.obj (by have := hy.rr; have := hy.res; omega) h.res, hf⟩
theorem FuW.done {s1 s2 : Option Addr} {n1 c1 n2 c2 : Nat} {R : Except (Int × Int) (Fn × List Tk)} (h : FuW w y RES W L nm (.slice s1 n1 c1) ps rs (.slice s2 n2 c2) bs) (hy : FOk w y RES) (hR : R = .ok (⟨nm, ps, rs, bs, y.pl⟩, L)) :
    PSays y.rb y.en w (RF w.heap.size) R (.returned (.agg #[.string nm, .slice s1 n1 c1, .int .i64 rs, .slice s2 n2 c2, .int .i64 y.pl])) (set5 W RES (.string nm) (.slice s1 n1 c1) (.int .i64 rs) (.slice s2 n2 c2) (.int .i64 y.pl)) := by
  have ho : On RES W (set5 W RES (.string nm) (.slice s1 n1 c1) (.int .i64 rs) (.slice s2 n2 c2) (.int .i64 y.pl)) := (On.refl _ _).set5 _ _ _ _ _
  have hst : Stays (From y.base) W _ := Stays.of_on ho hy.rr.2
  obtain ⟨cs, hrow, hit⟩ := h.f.ps.row
  refine PSays.ok hR ⟨_, _, _, _, _, _, _, _, _, rfl, ?_⟩ (h.rd.off ho hy.rr.1) (h.on.new ho hy.res.1)
  refine RepFn.mono (S := From y.base) (RepFn.keep ⟨_, _, rfl, ⟨cs, hrow, hit⟩, h.f.bo⟩ hst) fun b (hb : y.base ≤ b) => (Nat.le_trans (by have := hy.f.br; have := hy.br; omega) hb : w.heap.size ≤ b)
end
theorem strict_param (en : Int) : Strict (paramP en) := (strict_name en).bind fun _ => ((strict_must en sColon).bind fun _ => ((strict_typ en).bind fun _ => weak_ok _).weak).weak
set_option maxRecDepth 100000 in
set_option maxHeartbeats 16000000 in
theorem func_any (rb : Nat) (en : Int) : ∀ (l : List Tk) (w : World), RdAt w rb l en → Calls Try.prog 20 #[.pointer (some ⟨rb, 0, none⟩)] w (PSays rb en w (RF w.heap.size) (funcP en l)) := by
  intro l w h
  have HLT := Lib.hid h.lt
  have HB0 := Lib.hid (up_alloc (up_alloc (Below.refl w.heap.size w) (.cells #[.pointer (some ⟨rb, 0, none⟩)] 68)) (.cells #[.string ⟨#[]⟩, .slice none 0 0, .int .i64 0, .slice none 0 0, .int .i64 0] 34))
  have HRD := Lib.hid (h.on HB0.out)
  generalize hR : funcP en l = R
  generalize hpl : placeS en l = pl at *
  have HPL := Lib.hid hpl
  have hq0 := hR.symm
  unfold funcP at hq0
  rw [hpl] at hq0
  have HF := Lib.hid hq0
  have hcf : ∀ args W, Sem.run Try.prog (callFunc 35 args) W = .ok (.enter 35 args) W := fun _ _ => Try.call35 _ _
  clear hR hpl hq0
  go_enter Try.func20, Try.ntmps20
  go_wp2_with fail
  refine (place_any rb l en _ HRD.out).mono ?_
  rintro e w1 ⟨rfl, rfl⟩
  rw [HPL.out]
  go_upto_region 2 with fail
  have HW : Hid (FuW w ⟨rb, w.heap.size, w.heap.size + 1 + 1, w.heap.size + 1 + 1 + 1, en, pl⟩ (w.heap.size + 1) (((w.alloc (.cells #[.pointer (some ⟨rb, 0, none⟩)] 68)).alloc (.cells #[.string ⟨#[]⟩, .slice none 0 0, .int .i64 0, .slice none 0 0, .int .i64 0] 34)).alloc (.cells #[.string ⟨#[]⟩, .slice none 0 0, .int .i64 0, .slice none 0 0, .int .i64 pl] 34)) l ⟨#[]⟩ (.slice none 0 0) [] 0 (.slice none 0 0) []) := Lib.hid ⟨h.on (up_alloc HB0.out _), On.of_below (up_alloc HB0.out _), old_heap _ _ _ _ (new_heap _ _ _ (size_alloc _ _)), ⟨old_heap _ _ _ _ (old_heap _ _ _ _ (new_heap _ _ _ rfl)), new_heap _ _ _ (by simp only [size_alloc]), GrowOf.nil, RepSts.nil _ _, by simp only [size_alloc]; exact Nat.le_refl _⟩⟩
  have HY : Hid (FOk w ⟨rb, w.heap.size, w.heap.size + 1 + 1, w.heap.size + 1 + 1 + 1, en, pl⟩ (w.heap.size + 1)) := Lib.hid (by have := HLT.out; exact ⟨⟨⟨by dsimp only; omega, by dsimp only; omega⟩, ⟨by dsimp only; omega, by dsimp only; omega⟩, by dsimp only; omega⟩, ⟨by omega, by dsimp only; omega⟩, by dsimp only; omega, ⟨by dsimp only; omega, by dsimp only; omega⟩, by dsimp only; omega⟩)
  have HORD : Hid (rb < w.heap.size ∧ w.heap.size < w.heap.size + 1 ∧ w.heap.size + 1 < w.heap.size + 1 + 1 ∧ w.heap.size + 1 + 1 < w.heap.size + 1 + 1 + 1) := Lib.hid (by have := HLT.out; omega)
  clear h HRD HB0
  generalize (((w.alloc (.cells #[.pointer (some ⟨rb, 0, none⟩)] 68)).alloc (.cells #[.string ⟨#[]⟩, .slice none 0 0, .int .i64 0, .slice none 0 0, .int .i64 0] 34)).alloc (.cells #[.string ⟨#[]⟩, .slice none 0 0, .int .i64 0, .slice none 0 0, .int .i64 pl] 34)) = w1 at *
  generalize hbase : w.heap.size + 1 + 1 + 1 = base at *
  generalize hFB : w.heap.size + 1 + 1 = FB at *
  generalize hRES : w.heap.size + 1 = RES at *
  generalize hBR : w.heap.size = BR at *
  replace HORD : Hid (w.heap.size = BR ∧ rb < BR ∧ BR < RES ∧ RES < FB ∧ FB < base) := Lib.hid ⟨hBR, HORD.out⟩
  clear hbase hFB hRES hBR HLT
  have hn1 : ¬ BR = FB := by have := HORD.out; omega
  have hn2 : ¬ FB = BR := by have := HORD.out; omega
  have hn5 : ¬ RES = FB := by have := HORD.out; omega
  have hn6 : ¬ FB = RES := by have := HORD.out; omega
  have b0 : w1.cell? ⟨BR, 0, none⟩ = some (.pointer (some ⟨rb, 0, none⟩)) := cell_of HW.out.f.br (j := 0) rfl
  go_wp2_with fail
  clear b0
  have HB := Lib.hid (up_alloc (Below.refl w1.heap.size w1) (.cells #[.string ⟨#[102, 110]⟩] 9))
  replace HW := Lib.hid (HW.out.below HB.out)
  refine (must_any rb w1.heap.size sFn l en _ HW.out.rd (new_cell _ _ _ _ _ _ rfl rfl)).mono ?_
  rintro e w2 hp
  rcases hp.cases with ⟨er, p, hm, rfl, ho⟩ | ⟨x2, L2, v, hm, rfl, hv, hr, ho⟩
  · have HE := Lib.hid (HF.out.trans (bind_err hm))
    have HON := Lib.hid (HW.out.on.trans ho)
    clear hp hm ho
    unfold Pan
    go_wp2_with fail
    exact ⟨rfl, PSays.err HE.out HON.out⟩
  replace HF := Lib.hid (HF.out.trans (bind_ok hm))
  replace HW := Lib.hid (HW.out.call HY.out ho hr)
  subst hv
  clear hp hm ho hr HB
  have b0 : w2.cell? ⟨BR, 0, none⟩ = some (.pointer (some ⟨rb, 0, none⟩)) := cell_of HW.out.f.br (j := 0) rfl
  go_wp2_with fail
  clear b0
  refine (name_any rb L2 en _ HW.out.rd).mono ?_
  rintro e w3 hp
  rcases hp.cases with ⟨er, p, hm, rfl, ho⟩ | ⟨x3, L3, v, hm, rfl, hv, hr, ho⟩
  · have HE := Lib.hid (HF.out.trans (bind_err hm))
    have HON := Lib.hid (HW.out.on.trans ho)
    clear hp hm ho
    unfold Pan
    go_wp2_with fail
    exact ⟨rfl, PSays.err HE.out HON.out⟩
  replace HF := Lib.hid (HF.out.trans (bind_ok hm))
  replace HW := Lib.hid (HW.out.call HY.out ho hr)
  subst hv
  clear hp hm ho hr
  have e0 : w3.cell? ⟨FB, 0, none⟩ = some (.string ⟨#[]⟩) := cell_of HW.out.f.fb (j := 0) rfl
  have g0 : w3.frozen? ⟨FB, 0, none⟩ = false := frozen_of HW.out.f.fb 0
  go_upto_region 4 with fail
  clear e0 g0
  replace HW := Lib.hid (HW.out.store HY.out 0 (.string x3) rfl HW.out.f.bo)
  generalize w3.setCell ⟨FB, 0, none⟩ (.string x3) = w4 at *
  have b0 : w4.cell? ⟨BR, 0, none⟩ = some (.pointer (some ⟨rb, 0, none⟩)) := cell_of HW.out.f.br (j := 0) rfl
  go_wp2_with fail
  clear b0
  have HB := Lib.hid (up_alloc (Below.refl w4.heap.size w4) (.cells #[.string ⟨#[40]⟩] 9))
  replace HW := Lib.hid (HW.out.below HB.out)
  refine (must_any rb w4.heap.size sOpen L3 en _ HW.out.rd (new_cell _ _ _ _ _ _ rfl rfl)).mono ?_
  rintro e w5 hp
  rcases hp.cases with ⟨er, p, hm, rfl, ho⟩ | ⟨x5, L5, v, hm, rfl, hv, hr, ho⟩
  · have HE := Lib.hid (HF.out.trans (bind_err hm))
    have HON := Lib.hid (HW.out.on.trans ho)
    clear hp hm ho
    unfold Pan
    go_wp2_with fail
    exact ⟨rfl, PSays.err HE.out HON.out⟩
  replace HF := Lib.hid (HF.out.trans (bind_ok hm))
  replace HW := Lib.hid (HW.out.call HY.out ho hr)
  subst hv
  clear hp hm ho hr HB
  have HFEW := Lib.hid HW.out.rd.few
  have b0 : w5.cell? ⟨BR, 0, none⟩ = some (.pointer (some ⟨rb, 0, none⟩)) := cell_of HW.out.f.br (j := 0) rfl
  have HLST := Lib.hid (list_any rb en (fun b => b = rb ∨ b = FB ∨ base ≤ b) (Or.inl rfl) 35 #[.pointer (some ⟨BR, 0, none⟩), .pointer (some ⟨FB, 0, none⟩)] hcf (paramP en) (fun W acc => ∃ vp, FuF ⟨rb, BR, FB, base, en, pl⟩ W x3 vp acc 0 (.slice none 0 0) []) (fun W W' acc hi ho => ⟨hi.choose, hi.choose_spec.call HY.out.f ho⟩) (strict_param en) (fun l' W acc hacc hrd hi => (par_any ⟨rb, BR, FB, base, en, pl⟩ HY.out.f rb BR FB base en pl rfl l' W hrd x3 hi.choose acc hi.choose_spec hacc)) (L5.length + 1) L5 (Nat.lt_succ_self _) (by have := HFEW.out; omega) w5 HW.out.rd ⟨_, HW.out.f⟩)
  go_wp2_with fail
  clear b0
  refine (HLST.out).mono ?_
  rintro e w6 hp
  rcases hp.cases with ⟨er, p, hm, rfl, ho⟩ | ⟨x6, L6, v, hm, rfl, hv, hr, ho⟩
  · have HE := Lib.hid (HF.out.trans (bind_err hm))
    have HON := Lib.hid (On.of_onS HW.out.on ho (fun i hi => by have h1 := HORD.out; have h2 : i = rb ∨ i = FB ∨ base ≤ i := hi; show i = rb ∨ w.heap.size ≤ i; omega))
    clear hp hm ho
    unfold Pan
    go_wp2_with fail
    exact ⟨rfl, PSays.err HE.out HON.out⟩
  replace HF := Lib.hid (HF.out.trans (bind_ok hm))
  obtain ⟨hv1, vp, hff⟩ := hv
  subst hv1
  replace HW := Lib.hid (HW.out.listed HY.out ho hr hff)
  clear hp hm ho hr hff HLST HFEW
  have b0 : w6.cell? ⟨BR, 0, none⟩ = some (.pointer (some ⟨rb, 0, none⟩)) := cell_of HW.out.f.br (j := 0) rfl
  go_wp2_with fail
  clear b0
  cases hq : atS L6 0 sColon
  · replace HF := Lib.hid (HF.out.trans (if_neg (by rw [hq]; decide)))
    refine (take_no rb _ L6 en _ HW.out.rd hq).mono ?_
    rintro e w7 ⟨rfl, hr, ho⟩
    replace HW := Lib.hid (HW.out.call HY.out ho hr)
    clear hr ho hq
    have b0 : w7.cell? ⟨BR, 0, none⟩ = some (.pointer (some ⟨rb, 0, none⟩)) := cell_of HW.out.f.br (j := 0) rfl
    go_wp2_with fail
    clear b0
    refine ((block_any rb en 32 1 (by decide) (by decide)) L6 _ HW.out.rd).mono ?_
    rintro e w8 hp
    rcases hp.cases with ⟨er, p, hm, rfl, ho⟩ | ⟨x8, L8, v, hm, rfl, hv, hr, ho⟩
    · have HE := Lib.hid (HF.out.trans (bind_err hm))
      have HON := Lib.hid (HW.out.on.trans ho)
      clear hp hm ho
      unfold Pan
      go_wp2_with fail
      exact ⟨rfl, PSays.err HE.out HON.out⟩
    replace HF := Lib.hid (HF.out.trans (bind_ok hm))
    have HBG := Lib.hid HW.out.f.big
    replace HW := Lib.hid (HW.out.call HY.out ho hr)
    obtain ⟨s9, n9, k9, rfl⟩ := RepSts.form hv
    have HBO := Lib.hid (RepSts.mono (S' := From base) hv fun b (hb : _ ≤ b) => Nat.le_trans HBG.out hb)
    clear hp hm ho hr hv HBG
    have e3 : w8.cell? ⟨FB, 3, none⟩ = some (.slice none 0 0) := cell_of HW.out.f.fb (j := 3) rfl
    have g3 : w8.frozen? ⟨FB, 3, none⟩ = false := frozen_of HW.out.f.fb 3
    go_upto_region 9 with fail
    clear e3 g3
    replace HW := Lib.hid (HW.out.store HY.out 3 (.slice s9 n9 k9) rfl HBO.out)
    generalize w8.setCell ⟨FB, 3, none⟩ (.slice s9 n9 k9) = w9 at *
    obtain ⟨sP, kP, hP, _, _⟩ := HW.out.f.form
    subst hP
    have e0 : w9.cell? ⟨FB, 0, none⟩ = some (.string x3) := cell_of HW.out.f.fb (j := 0) rfl
    have e1 : w9.cell? ⟨FB, 1, none⟩ = some (.slice sP x6.length kP) := cell_of HW.out.f.fb (j := 1) rfl
    have e2 : w9.cell? ⟨FB, 2, none⟩ = some (.int .i64 0) := cell_of HW.out.f.fb (j := 2) rfl
    have e3 : w9.cell? ⟨FB, 3, none⟩ = some (.slice s9 n9 k9) := cell_of HW.out.f.fb (j := 3) rfl
    have e4 : w9.cell? ⟨FB, 4, none⟩ = some (.int .i64 pl) := cell_of HW.out.f.fb (j := 4) rfl
    have c0 : w9.cell? ⟨RES, 0, none⟩ = some (.string ⟨#[]⟩) := cell_of HW.out.res (j := 0) rfl
    have f0 : w9.frozen? ⟨RES, 0, none⟩ = false := frozen_of HW.out.res 0
    have c1 : w9.cell? ⟨RES, 1, none⟩ = some (.slice none 0 0) := cell_of HW.out.res (j := 1) rfl
    have f1 : w9.frozen? ⟨RES, 1, none⟩ = false := frozen_of HW.out.res 1
    have c2 : w9.cell? ⟨RES, 2, none⟩ = some (.int .i64 0) := cell_of HW.out.res (j := 2) rfl
    have f2 : w9.frozen? ⟨RES, 2, none⟩ = false := frozen_of HW.out.res 2
    have c3 : w9.cell? ⟨RES, 3, none⟩ = some (.slice none 0 0) := cell_of HW.out.res (j := 3) rfl
    have f3 : w9.frozen? ⟨RES, 3, none⟩ = false := frozen_of HW.out.res 3
    have c4 : w9.cell? ⟨RES, 4, none⟩ = some (.int .i64 0) := cell_of HW.out.res (j := 4) rfl
    have f4 : w9.frozen? ⟨RES, 4, none⟩ = false := frozen_of HW.out.res 4
    go_wp2_with fail
    refine bodyPost_ret (v := .agg #[.string x3, .slice sP x6.length kP, .int .i64 0, .slice s9 n9 k9, .int .i64 pl]) (by simp [results, Try.results20, go_sem, c0, c1, c2, c3, c4]) rfl ?_
    have hq := HW.out.done HY.out HF.out
    rw [HORD.out.1] at hq
    exact hq
  · replace HF := Lib.hid (HF.out.trans (if_pos hq))
    refine (take_yes rb _ L6 en _ HW.out.rd hq).mono ?_
    rintro e w7 ⟨rfl, hr, ho⟩
    replace HW := Lib.hid (HW.out.call HY.out ho hr)
    clear hr ho hq
    generalize L6.tail = L7 at *
    have b0 : w7.cell? ⟨BR, 0, none⟩ = some (.pointer (some ⟨rb, 0, none⟩)) := cell_of HW.out.f.br (j := 0) rfl
    go_wp2_with fail
    clear b0
    refine (typ_any rb L7 en _ HW.out.rd).mono ?_
    rintro e w8 hp
    rcases hp.cases with ⟨er, p, hm, rfl, ho⟩ | ⟨x8, L8, v, hm, rfl, hv, hr, ho⟩
    · have HE := Lib.hid (HF.out.trans (bind_err hm))
      have HON := Lib.hid (HW.out.on.trans ho)
      clear hp hm ho
      unfold Pan
      go_wp2_with fail
      exact ⟨rfl, PSays.err HE.out HON.out⟩
    replace HF := Lib.hid (HF.out.trans (bind_ok hm))
    replace HW := Lib.hid (HW.out.call HY.out ho hr)
    subst hv
    clear hp hm ho hr
    have e2 : w8.cell? ⟨FB, 2, none⟩ = some (.int .i64 0) := cell_of HW.out.f.fb (j := 2) rfl
    have g2 : w8.frozen? ⟨FB, 2, none⟩ = false := frozen_of HW.out.f.fb 2
    go_upto_region 8 with fail
    clear e2 g2
    replace HW := Lib.hid (HW.out.store HY.out 2 (.int .i64 x8) rfl HW.out.f.bo)
    generalize w8.setCell ⟨FB, 2, none⟩ (.int .i64 x8) = w9 at *
    have b0 : w9.cell? ⟨BR, 0, none⟩ = some (.pointer (some ⟨rb, 0, none⟩)) := cell_of HW.out.f.br (j := 0) rfl
    go_wp2_with fail
    clear b0
    refine ((block_any rb en 32 1 (by decide) (by decide)) L8 _ HW.out.rd).mono ?_
    rintro e w10 hp
    rcases hp.cases with ⟨er, p, hm, rfl, ho⟩ | ⟨x10, L10, v, hm, rfl, hv, hr, ho⟩
    · have HE := Lib.hid (HF.out.trans (bind_err hm))
      have HON := Lib.hid (HW.out.on.trans ho)
      clear hp hm ho
      unfold Pan
      go_wp2_with fail
      exact ⟨rfl, PSays.err HE.out HON.out⟩
    replace HF := Lib.hid (HF.out.trans (bind_ok hm))
    have HBG := Lib.hid HW.out.f.big
    replace HW := Lib.hid (HW.out.call HY.out ho hr)
    obtain ⟨s9, n9, k9, rfl⟩ := RepSts.form hv
    have HBO := Lib.hid (RepSts.mono (S' := From base) hv fun b (hb : _ ≤ b) => Nat.le_trans HBG.out hb)
    clear hp hm ho hr hv HBG
    have e3 : w10.cell? ⟨FB, 3, none⟩ = some (.slice none 0 0) := cell_of HW.out.f.fb (j := 3) rfl
    have g3 : w10.frozen? ⟨FB, 3, none⟩ = false := frozen_of HW.out.f.fb 3
    go_upto_region 9 with fail
    clear e3 g3
    replace HW := Lib.hid (HW.out.store HY.out 3 (.slice s9 n9 k9) rfl HBO.out)
    generalize w10.setCell ⟨FB, 3, none⟩ (.slice s9 n9 k9) = w11 at *
    obtain ⟨sP, kP, hP, _, _⟩ := HW.out.f.form
    subst hP
    have e0 : w11.cell? ⟨FB, 0, none⟩ = some (.string x3) := cell_of HW.out.f.fb (j := 0) rfl
    have e1 : w11.cell? ⟨FB, 1, none⟩ = some (.slice sP x6.length kP) := cell_of HW.out.f.fb (j := 1) rfl
    have e2 : w11.cell? ⟨FB, 2, none⟩ = some (.int .i64 x8) := cell_of HW.out.f.fb (j := 2) rfl
    have e3 : w11.cell? ⟨FB, 3, none⟩ = some (.slice s9 n9 k9) := cell_of HW.out.f.fb (j := 3) rfl
    have e4 : w11.cell? ⟨FB, 4, none⟩ = some (.int .i64 pl) := cell_of HW.out.f.fb (j := 4) rfl
    have c0 : w11.cell? ⟨RES, 0, none⟩ = some (.string ⟨#[]⟩) := cell_of HW.out.res (j := 0) rfl
    have f0 : w11.frozen? ⟨RES, 0, none⟩ = false := frozen_of HW.out.res 0
    have c1 : w11.cell? ⟨RES, 1, none⟩ = some (.slice none 0 0) := cell_of HW.out.res (j := 1) rfl
    have f1 : w11.frozen? ⟨RES, 1, none⟩ = false := frozen_of HW.out.res 1
    have c2 : w11.cell? ⟨RES, 2, none⟩ = some (.int .i64 0) := cell_of HW.out.res (j := 2) rfl
    have f2 : w11.frozen? ⟨RES, 2, none⟩ = false := frozen_of HW.out.res 2
    have c3 : w11.cell? ⟨RES, 3, none⟩ = some (.slice none 0 0) := cell_of HW.out.res (j := 3) rfl
    have f3 : w11.frozen? ⟨RES, 3, none⟩ = false := frozen_of HW.out.res 3
    have c4 : w11.cell? ⟨RES, 4, none⟩ = some (.int .i64 0) := cell_of HW.out.res (j := 4) rfl
    have f4 : w11.frozen? ⟨RES, 4, none⟩ = false := frozen_of HW.out.res 4
    go_wp2_with fail
    refine bodyPost_ret (v := .agg #[.string x3, .slice sP x6.length kP, .int .i64 x8, .slice s9 n9 k9, .int .i64 pl]) (by simp [results, Try.results20, go_sem, c0, c1, c2, c3, c4]) rfl ?_
    have hq := HW.out.done HY.out HF.out
    rw [HORD.out.1] at hq
    exact hq
end Go.Proofs.Ytpiamiaigjlafaa
