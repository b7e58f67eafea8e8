/-
  A parameter.
-/
import Derived.Test.YtpiamiaigjlafaaParC
namespace Go.Proofs.Ytpiamiaigjlafaa
open Go.RowKit

instance : Inhabited (ByteArray × Int) := ⟨(ByteArray.empty, 0)⟩
def RepPa (_ : Nat → Prop) (_ : World) (cs : List Value) (p : ByteArray × Int) : Prop := cs = [.string p.1, .int .i64 p.2]
def parK : Kind (ByteArray × Int) := ⟨RepPa, fun h _ => h, fun h _ => h, fun h => h⟩
theorem infoPa : ∃ i, Try.prog.info? 50 = some i ∧ i.zero = some (.agg #[.string ⟨#[]⟩, .int .i64 0]) ∧ i.size = 2 ∧ i.bytes = 24 := by
  have h : (Try.prog.info? 50).map (fun i => (i.zero, i.size, i.bytes)) = some (some (.agg #[.string ⟨#[]⟩, .int .i64 0]), 2, 24) := by kernel_rfl
  obtain ⟨i, h1, h2⟩ := Option.map_eq_some_iff.1 h
  simp only [Prod.mk.injEq] at h2
  exact ⟨i, h1, h2.1, h2.2.1, h2.2.2⟩
/-- a function as it is being read: where it lies -/
structure FLay where
  rb : Nat
  BR : Nat
  FB : Nat
  base : Nat
  en : Int
  pl : Int
structure FLay.Ok (y : FLay) : Prop where
  br : y.rb < y.BR ∧ y.BR < y.base
  fb : y.rb < y.FB ∧ y.FB < y.base
  ne : y.BR ≠ y.FB
/-- .. and what is known of it -/
structure FuF (y : FLay) (W : World) (nm : ByteArray) (vp : Value) (ps : List (ByteArray × Int)) (rs : Int) (vb : Value) (bs : List St) : Prop where
  br : W.heap[y.BR]? = some (.cells #[.pointer (some ⟨y.rb, 0, none⟩)] 68 (0, 0))
  fb : W.heap[y.FB]? = some (.cells #[.string nm, vp, .int .i64 rs, vb, .int .i64 y.pl] 34 (0, 0))
  ps : GrowOf parK y.base 50 2 W vp ps
  bo : RepSts (From y.base) W vb bs
  big : y.base ≤ W.heap.size
section
variable {W W' : World} {y : FLay} {L L' : List Tk} {nm : ByteArray} {vp vb : Value} {ps : List (ByteArray × Int)} {rs : Int} {bs : List St}
theorem FuF.call (h : FuF y W nm vp ps rs vb bs) (hy : y.Ok) (ho : On y.rb W W') : FuF y W' nm vp ps rs vb bs := by
  have hst : Stays (From y.base) W W' := Stays.of_on ho (by have := hy.br; omega)
  exact ⟨ho.obj (by have := hy.br; omega) h.br, ho.obj (by have := hy.fb; omega) h.fb, h.ps.keep hst, h.bo.keep hst, Nat.le_trans h.big ho.size⟩
theorem FuF.below (h : FuF y W nm vp ps rs vb bs) (hb : Below W.heap.size W W') : FuF y W' nm vp ps rs vb bs := by
  have hst : Stays (From y.base) W W' := Stays.of_below hb
  exact ⟨(hb.block _ (lt_block h.br)).trans h.br, (hb.block _ (lt_block h.fb)).trans h.fb, h.ps.keep hst, h.bo.keep hst, Nat.le_trans h.big hb.size⟩
theorem FuF.form (h : FuF y W nm vp ps rs vb bs) : ∃ s c, vp = .slice s ps.length c ∧ ps.length ≤ c ∧ c ≤ maxLen := by
  obtain ⟨cs, ho, _⟩ := h.ps
  obtain ⟨s0, cap, h1, h2, h3, _⟩ := own_form ho
  exact ⟨s0, cap, h1, h2, h3⟩
/-- a store into the function -/
theorem FuF.store (h : FuF y W nm vp ps rs vb bs) (hy : y.Ok) (j : Nat) (u : Value) {nm' : ByteArray} {rs' : Int} {vb' : Value} {bs' : List St}
    (ha : (#[.string nm, vp, .int .i64 rs, vb, .int .i64 y.pl] : Array Value).setIfInBounds j u = #[.string nm', vp, .int .i64 rs', vb', .int .i64 y.pl]) (hb : RepSts (From y.base) W vb' bs') :
    FuF y (W.setCell ⟨y.FB, j, none⟩ u) nm' vp ps rs' vb' bs' := by
  have ho : On y.FB W (W.setCell ⟨y.FB, j, none⟩ u) := (On.refl _ _).set j u
  have hst : Stays (From y.base) W (W.setCell ⟨y.FB, j, none⟩ u) := Stays.of_on ho hy.fb.2
  refine ⟨ho.obj hy.ne h.br, ?_, h.ps.keep hst, hb.keep hst, Nat.le_trans h.big ho.size⟩
  rw [← ha]
  exact setCell_obj h.fb j u
/-- one more parameter -/
theorem FuF.push {W9 : World} {g cap : Nat} {new : List Value} {q : ByteArray × Int} {cs : Nat → List Value} (h : FuF y W nm vp ps rs (.slice none 0 0) []) (hy : y.Ok) (hit : Items parK y.base 2 W vp ps cs) (hn : new = [.string q.1, .int .i64 q.2])
    (hg : W.grownBy W9 vp.ownBlock) (hgl : vp.ownBlock = some g ∨ g = W.heap.size) (hown : W9.ownsRow y.base 50 2 (.slice (some ⟨g, 0, none⟩) (ps.length + 1) cap) (ps.length + 1) (flat cs ps.length ++ new)) :
    FuF y (W9.setCell ⟨y.FB, 1, none⟩ (.slice (some ⟨g, 0, none⟩) (ps.length + 1) cap)) nm (.slice (some ⟨g, 0, none⟩) (ps.length + 1) cap) (ps ++ [q]) rs (.slice none 0 0) [] ∧ OnS (fun b => b = y.FB ∨ y.base ≤ b) W (W9.setCell ⟨y.FB, 1, none⟩ (.slice (some ⟨g, 0, none⟩) (ps.length + 1) cap)) := by
  have hlow : ∀ b, vp.ownBlock = some b → y.base ≤ b := fun b hb => by
    obtain ⟨cs', ho, _⟩ := h.ps
    exact (own_block ho hb).1
  have hT : OnS (fun b => vp.ownBlock = some b) W W9 := OnS.of_grown hg fun k hk => hk
  have ho : On y.FB W9 (W9.setCell ⟨y.FB, 1, none⟩ (.slice (some ⟨g, 0, none⟩) (ps.length + 1) cap)) := (On.refl _ _).set 1 _
  have hst : Stays (From y.base) W9 (W9.setCell ⟨y.FB, 1, none⟩ (.slice (some ⟨g, 0, none⟩) (ps.length + 1) cap)) := Stays.of_on ho hy.fb.2
  have hfb9 : W9.heap[y.FB]? = _ := hT.obj (fun e => by have := hlow _ e; have := hy.fb; omega) h.fb
  have hbr9 : W9.heap[y.BR]? = _ := hT.obj (fun e => by have := hlow _ e; have := hy.br; omega) h.br
  subst hn
  exact ⟨⟨ho.obj hy.ne hbr9, setCell_obj hfb9 1 _, (GrowOf.push (K := parK) hit rfl rfl hg hgl hown).keep hst, RepSts.nil _ _, Nat.le_trans h.big (Nat.le_trans hg.size ho.size)⟩, (hT.mono fun i hi => .inr (hlow i hi)).trans (OnS.of_on ho (.inl rfl))⟩
end

set_option maxRecDepth 100000 in
set_option maxHeartbeats 8000000 in
theorem par_any (y : FLay) (hy : y.Ok) (rb BR FB base : Nat) (en pl : Int) (hyy : y = ⟨rb, BR, FB, base, en, pl⟩) (l : List Tk) (w : World) (h : RdAt w rb l en) (nm : ByteArray) (vp : Value) (ps : List (ByteArray × Int)) (hf : FuF y w nm vp ps 0 (.slice none 0 0) []) (hn : ps.length ≤ 100000) :
    Calls Try.prog 35 #[.pointer (some ⟨BR, 0, none⟩), .pointer (some ⟨FB, 0, none⟩)] w
      (PSaysT rb en (fun b => b = rb ∨ b = FB ∨ base ≤ b) w (fun w' q r => r = .tuple #[] ∧ ∃ v', FuF y w' nm v' (ps ++ [q]) 0 (.slice none 0 0) []) (paramP en l)) := by
  subst hyy
  have HY := Lib.hid hy
  have HW := Lib.hid hf
  have HRD := Lib.hid h
  have HON : Hid (On rb w w) := Lib.hid (On.refl _ _)
  have HI := Lib.hid infoPa
  have HORD := Lib.hid (show rb < BR ∧ BR < base ∧ rb < FB ∧ FB < base ∧ BR ≠ FB from ⟨hy.br.1, hy.br.2, hy.fb.1, hy.fb.2, hy.ne⟩)
  generalize hR : paramP en l = R
  have HF := Lib.hid hR.symm
  clear hy hf h hR
  have b0 : w.cell? ⟨BR, 0, none⟩ = some (.pointer (some ⟨rb, 0, none⟩)) := cell_of HW.out.br (j := 0) rfl
  go_enter Try.func35, Try.ntmps35
  go_wp2_with fail
  clear b0
  refine (name_any rb l en _ HRD.out).mono ?_
  rintro e w2 hp
  rcases hp.cases with ⟨er, p, hm, rfl, ho⟩ | ⟨x2, L2, v, hm, rfl, hv, hr, ho⟩
  · have HE := Lib.hid (HF.out.trans (bind_err hm))
    replace HON := Lib.hid (HON.out.trans ho)
    clear hp hm ho
    unfold Pan
    go_wp2_with fail
    exact ⟨rfl, PSaysT.err HE.out (OnS.of_on HON.out (.inl rfl))⟩
  replace HF := Lib.hid (HF.out.trans (bind_ok hm))
  replace HW := Lib.hid (HW.out.call HY.out ho)
  replace HRD := Lib.hid hr
  replace HON := Lib.hid (HON.out.trans ho)
  subst hv
  clear hp hm ho hr
  have b0 : w2.cell? ⟨BR, 0, none⟩ = some (.pointer (some ⟨rb, 0, none⟩)) := cell_of HW.out.br (j := 0) rfl
  go_wp2_with fail
  clear b0
  have HB := Lib.hid (up_alloc (Below.refl w2.heap.size w2) (.cells #[.string ⟨#[58]⟩] 9))
  replace HW := Lib.hid (HW.out.below HB.out)
  replace HON := Lib.hid (HON.out.trans (On.of_below HB.out))
  refine (must_any rb w2.heap.size sColon L2 en _ (HRD.out.on HB.out) (new_cell _ _ _ _ _ _ rfl rfl)).mono ?_
  rintro e w3 hp
  rcases hp.cases with ⟨er, p, hm, rfl, ho⟩ | ⟨x3, L3, v, hm, rfl, hv, hr, ho⟩
  · have HE := Lib.hid (HF.out.trans (bind_err hm))
    replace HON := Lib.hid (HON.out.trans ho)
    clear hp hm ho
    unfold Pan
    go_wp2_with fail
    exact ⟨rfl, PSaysT.err HE.out (OnS.of_on HON.out (.inl rfl))⟩
  replace HF := Lib.hid (HF.out.trans (bind_ok hm))
  replace HW := Lib.hid (HW.out.call HY.out ho)
  replace HRD := Lib.hid hr
  replace HON := Lib.hid (HON.out.trans ho)
  subst hv
  clear hp hm ho hr HB
  obtain ⟨s0, cap, hvp, hle, hcm⟩ := HW.out.form
  subst hvp
  have b0 : w3.cell? ⟨BR, 0, none⟩ = some (.pointer (some ⟨rb, 0, none⟩)) := cell_of HW.out.br (j := 0) rfl
  have q0 : w3.cell? ⟨FB, 1, none⟩ = some (.slice s0 ps.length cap) := cell_of HW.out.fb (j := 1) rfl
  go_upto_region 2 with fail
  refine wp_region_split (S := (fun w' => w'.cell? ⟨FB, 1, none⟩ = some (.slice s0 ps.length cap) ∧ w'.cell? ⟨BR, 0, none⟩ = some (.pointer (some ⟨rb, 0, none⟩)))) 7 (by kernel_rfl) (by kernel_rfl) (by (first | exact ⟨q0, b0⟩ | exact ⟨old_cell _ q0, old_cell _ b0⟩)) (fun hHeld => ?_)
  simp only [List.take_succ_cons, List.take_zero, List.drop_succ_cons, List.drop_zero]
  refine wpAnyH_take (i := 0) (v := ?_) rfl (by kernel_rfl) (by kernel_rfl) (by kernel_rfl) (fun _ _ _ h => h) (Or.inl ⟨by rfl, ?_⟩) (by assumption) ?_
  rotate_left 1
  · (intro w hSw; (try dsimp only at hSw); go_simp; try with_reducible rfl)
  try simp only [Act.put, List.setIfInBounds_toArray, List.set_cons_zero, List.set_cons_succ, List.getElem_toArray, List.getElem_cons_zero]
  refine wpAnyH_take (i := 1) (v := ?_) rfl (by kernel_rfl) (by kernel_rfl) (by kernel_rfl) (fun _ _ _ h => h) (Or.inl ⟨by rfl, ?_⟩) (by assumption) ?_
  rotate_left 1
  · (intro w hSw; (try dsimp only at hSw); go_simp; try with_reducible rfl)
  try simp only [Act.put, List.setIfInBounds_toArray, List.set_cons_zero, List.set_cons_succ, List.getElem_toArray, List.getElem_cons_zero, List.getElem_cons_succ]
  refine wpAnyH_take (i := 2) (v := ?_) rfl (by kernel_rfl) (by kernel_rfl) (by kernel_rfl) (fun _ _ _ h => h) (Or.inl ⟨by rfl, ?_⟩) (by assumption) ?_
  rotate_left 1
  · (intro w hSw; (try dsimp only at hSw); go_simp; try with_reducible rfl)
  try simp only [Act.put, List.setIfInBounds_toArray, List.set_cons_zero, List.set_cons_succ, List.getElem_toArray, List.getElem_cons_zero, List.getElem_cons_succ]
  refine wpAnyH_take (i := 3) (v := ?_) rfl (by kernel_rfl) (by kernel_rfl) (by kernel_rfl) (fun _ _ _ h => h) (Or.inl ⟨by rfl, ?_⟩) (by assumption) ?_
  rotate_left 1
  · (intro w hSw; (try dsimp only at hSw); go_simp; try with_reducible rfl)
  try simp only [Act.put, List.setIfInBounds_toArray, List.set_cons_zero, List.set_cons_succ, List.getElem_toArray, List.getElem_cons_zero, List.getElem_cons_succ]
  refine wpAnyH_ready (rs := [4]) (by kernel_rfl) (by simp) ?_
  refine (AllReadyH.cons rfl (fun K hK => ?_) AllReadyH.nil)
  go_simp
  go_at_call 36
  refine (typ_any rb L3 en _ (HRD.out.on (up_drew (Below.refl _ _)))).mono ?_
  rintro e w4 hp
  rcases hp.cases with ⟨er, p, hm, rfl, ho⟩ | ⟨x4, L4, v, hm, rfl, hv, hr, ho⟩
  · have HE := Lib.hid (HF.out.trans (bind_err hm))
    have ho4 := (On.of_below (up_drew (Below.refl _ _)) : On rb w3 _).trans ho
    replace HON := Lib.hid (HON.out.trans ho4)
    clear hp hm ho ho4
    unfold Pan
    (try go_wp2_with fail)
    exact ⟨rfl, PSaysT.err HE.out (OnS.of_on HON.out (.inl rfl))⟩
  replace HF := Lib.hid (HF.out.trans (bind_ok hm))
  have ho4 := (On.of_below (up_drew (Below.refl _ _)) : On rb w3 _).trans ho
  replace HW := Lib.hid (HW.out.call HY.out ho4)
  replace HRD := Lib.hid hr
  replace HON := Lib.hid (HON.out.trans ho4)
  subst hv
  replace b0 : w4.cell? ⟨BR, 0, none⟩ = some (.pointer (some ⟨rb, 0, none⟩)) := cell_of HW.out.br (j := 0) rfl
  replace q0 : w4.cell? ⟨FB, 1, none⟩ = some (.slice s0 ps.length cap) := cell_of HW.out.fb (j := 1) rfl
  clear hp hm hr ho ho4
  go_simp
  refine hK.out _ _ ?_ (fun hHeld => ?_)
  · (try dsimp only)
    (first | exact ⟨q0, b0⟩ | exact ⟨old_cell _ q0, old_cell _ b0⟩)
  clear hK K
  try simp only [Act.put, List.setIfInBounds_toArray, List.set_cons_zero, List.set_cons_succ, List.getElem_toArray, List.getElem_cons_zero, List.getElem_cons_succ]
  refine wpAnyH_take (i := 5) (v := ?_) rfl (by kernel_rfl) (by kernel_rfl) (by kernel_rfl) (fun _ _ _ h => h) (Or.inl ⟨by rfl, ?_⟩) (by assumption) ?_
  rotate_left 1
  · (intro w hSw; (try dsimp only at hSw); go_simp; try with_reducible rfl)
  try simp only [Act.put, List.setIfInBounds_toArray, List.set_cons_zero, List.set_cons_succ, List.getElem_toArray, List.getElem_cons_zero, List.getElem_cons_succ]
  refine wpAnyH_ready (rs := [6]) (by kernel_rfl) (by simp) ?_
  refine (AllReadyH.cons rfl (fun K hK => ?_) AllReadyH.nil)
  go_simp
  refine hK.out _ _ ?_ (fun hHeld => ?_)
  · (try dsimp only)
    (first | exact ⟨q0, b0⟩ | exact ⟨old_cell _ q0, old_cell _ b0⟩)
  clear hK K
  try simp only [Act.put, List.setIfInBounds_toArray, List.set_cons_zero, List.set_cons_succ, List.getElem_toArray, List.getElem_cons_zero, List.getElem_cons_succ]
  refine wpAnyH_done (by kernel_rfl) ?_ _
  dsimp only [TailQ]
  have HB4 := Lib.hid (up_alloc (Below.refl w4.heap.size w4) (.cells #[.string x2, .int .i64 x4] 50))
  have HW4 := Lib.hid (HW.out.below HB4.out)
  obtain ⟨cs, hown, hit⟩ := HW4.out.ps
  have HOWN := Lib.hid hown
  have HIT := Lib.hid hit
  have fz : (w4.alloc (.cells #[.string x2, .int .i64 x4] 50)).frozen? ⟨FB, 1, none⟩ = false := frozen_of HW4.out.fb 1
  have HFB := Lib.hid HW4.out.fb
  clear hown hit b0 q0
  have HNX := Lib.hid hn
  unfold maxLen at hcm
  refine wpList_append_lies _ rfl _ _ _ rfl base 50 HI.out.choose (.agg #[.string ⟨#[]⟩, .int .i64 0]) 2 24 Try.underlying30 HI.out.choose_spec.1 HI.out.choose_spec.2.1 HI.out.choose_spec.2.2.1 HI.out.choose_spec.2.2.2 rfl (by decide) _ ps.length (flat cs ps.length) rfl HOWN.out ⟨w4.heap.size, 0, none⟩ 1 1 [.string x2, .int .i64 x4] rfl rfl (by intro j u hj; rw [Go.WideShapes.add_plain, Nat.zero_add]; exact new_cell _ _ _ _ _ _ rfl (by simpa using hj)) (by intro u hu; simp at hu; rcases hu with rfl | rfl <;> rfl) (by decide) (by have := HNX.out; unfold maxLen; omega) (by have := HNX.out; omega) HW4.out.big _ rfl ?_
  intro g9 cp9 w9 hown9 hgrow9 hgl9 hlt9
  have HPU := Lib.hid (HW4.out.push (q := (x2, x4)) HY.out HIT.out rfl hgrow9 hgl9 hown9)
  have z9 := (hgrow9.block FB (lt_block HFB.out) (fun e => by have h1 : base ≤ FB := (own_block HOWN.out e.symm).1; have := HORD.out; omega)).trans HFB.out
  have x9 : w9.cell? ⟨FB, 1, none⟩ = some (.slice s0 ps.length cap) := cell_of z9 (j := 1) rfl
  have y9 := frozen_of z9 1
  clear hown9 hgrow9 hgl9 hlt9 z9 fz
  go_wp2_with fail
  go_end0
  exact PSaysT.ok (x := (x2, x4)) (l := L4) HF.out ⟨rfl, _, HPU.out.1⟩ ((HRD.out.on HB4.out).offS HPU.out.2 (fun b hb => by have h1 := HORD.out; have hb' : b = FB ∨ base ≤ b := hb; omega)) (((OnS.of_on HON.out (.inl rfl)).trans (OnS.of_below HB4.out)).trans (HPU.out.2.mono fun i hi => .inr hi))
end Go.Proofs.Ytpiamiaigjlafaa
