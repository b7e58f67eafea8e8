/-
  A block.
-/
import Derived.Test.YtpiamiaigjlafaaParB
import Derived.Test.YtpiamiaigjlafaaParQ
import Derived.Deep.LoopGhost
namespace Go.Proofs.Ytpiamiaigjlafaa
open Go.RowKit

theorem infoSt : ∃ i, Try.prog.info? 46 = some i ∧ i.zero = some (.agg #[.int .i64 0, .string ⟨#[]⟩, .slice none 0 0, .slice none 0 0, .slice none 0 0, .int .i64 0]) ∧ i.size = 6 ∧ i.bytes = 104 := by
  have h : (Try.prog.info? 46).map (fun i => (i.zero, i.size, i.bytes)) = some (some (.agg #[.int .i64 0, .string ⟨#[]⟩, .slice none 0 0, .slice none 0 0, .slice none 0 0, .int .i64 0]), 6, 104) := by kernel_rfl
  obtain ⟨i, h1, h2⟩ := Option.map_eq_some_iff.1 h
  simp only [Prod.mk.injEq] at h2
  exact ⟨i, h1, h2.1, h2.2.1, h2.2.2⟩
/-- what is known on the way through a block -/
structure BlW (w : World) (rb : Nat) (en : Int) (W : World) (L : List Tk) (v : Value) (acc : List St) : Prop where
  rd : RdAt W rb L en
  gr : GrowOf stK w.heap.size 46 6 W v acc
  on : On rb w W
  lt : rb < w.heap.size
theorem BlW.call {w W W' : World} {rb : Nat} {en : Int} {L L' : List Tk} {v : Value} {acc : List St} (h : BlW w rb en W L v acc) (ho : On rb W W') (hr : RdAt W' rb L' en) : BlW w rb en W' L' v acc :=
  ⟨hr, h.gr.keep (Stays.of_on ho h.lt), h.on.trans ho, h.lt⟩
theorem BlW.below {w W W' : World} {rb : Nat} {en : Int} {L : List Tk} {v : Value} {acc : List St} (h : BlW w rb en W L v acc) (hb : Below W.heap.size W W') : BlW w rb en W' L v acc :=
  ⟨h.rd.on hb, h.gr.keep (Stays.of_below hb), h.on.trans (On.of_below hb), h.lt⟩
theorem BlW.form {w W : World} {rb : Nat} {en : Int} {L : List Tk} {v : Value} {acc : List St} (h : BlW w rb en W L v acc) : ∃ s c, v = .slice s acc.length c := by
  obtain ⟨cs, ho, _⟩ := h.gr
  obtain ⟨s0, cap, h1, _⟩ := own_form ho
  exact ⟨s0, cap, h1⟩
theorem BlW.push {w W3 W9 : World} {rb g cap : Nat} {en : Int} {L : List Tk} {v : Value} {acc : List St} {new : List Value} {y : St} {cs : Nat → List Value} (h : BlW w rb en W3 L v acc) (hit : Items stK w.heap.size 6 W3 v acc cs) (hn : new.length = 6) (hy : RepSt (fun b => w.heap.size ≤ b ∧ v.ownBlock ≠ some b) W3 new y)
    (hg : W3.grownBy W9 v.ownBlock) (hgl : v.ownBlock = some g ∨ g = W3.heap.size) (hown : W9.ownsRow w.heap.size 46 6 (.slice (some ⟨g, 0, none⟩) (acc.length + 1) cap) (acc.length + 1) (flat cs acc.length ++ new)) :
    BlW w rb en W9 L (.slice (some ⟨g, 0, none⟩) (acc.length + 1) cap) (acc ++ [y]) := by
  have hT : OnS (fun b => v.ownBlock = some b) W3 W9 := OnS.of_grown hg fun k hk => hk
  have hlow : ∀ b, v.ownBlock = some b → w.heap.size ≤ b := fun b hb => by
    obtain ⟨cs', ho, _⟩ := h.gr
    exact (own_block ho hb).1
  refine ⟨?_, GrowOf.push hit hn hy hg hgl hown, On.of_onS h.on hT fun i hi => .inr (hlow i hi), h.lt⟩
  exact h.rd.offS hT fun b hb => Nat.lt_of_lt_of_le h.lt (hlow b hb)

theorem stmtsP_succ (en : Int) (P : Par St) (f : Nat) (acc : List St) (l : List Tk) : stmtsP en P (f + 1) acc l = if atS l 0 sEnd then .ok (acc, l.tail) else (P.bind fun s => stmtsP en P f (acc ++ [s])) l := rfl
set_option maxRecDepth 100000 in
set_option maxHeartbeats 4000000 in
theorem block_step (rb : Nat) (d en : Int) (hd : d ≤ 32) (P : Par St) (HS : ReadsSt rb en 54 #[.pointer (some ⟨rb, 0, none⟩), .int .i64 d] P) (hP : Strict P) :
    ReadsSts rb en 38 #[.pointer (some ⟨rb, 0, none⟩), .int .i64 d] (fun l => (mustP en sBegin).bind (fun _ r => stmtsP en P (r.length + 1) [] r) l) := by
  intro l w h
  have HSS := Lib.hid HS
  have HPP := Lib.hid hP
  have HAT := Lib.hid (at_any rb 0 sBegin l en w h)
  have HDP := Lib.hid (deep_ok rb d w hd)
  have HH := Lib.hid h
  have HI := Lib.hid infoSt
  change Calls _ _ _ _ (PSays _ _ _ _ ((mustP en sBegin).bind (fun _ r => stmtsP en P (r.length + 1) [] r) l))
  generalize hR : (mustP en sBegin).bind (fun _ r => stmtsP en P (r.length + 1) [] r) l = R
  have HF := Lib.hid hR.symm
  have HSU := Lib.hid (stmtsP_succ en P)
  clear HS hP hd h hR
  go_enter Try.func38, Try.ntmps38
  go_wp2_with fail
  refine HAT.out.mono ?_
  rintro e we ⟨rfl, rfl⟩
  have HB := Lib.hid (up_alloc (Below.refl w.heap.size w) (.cells #[.string ⟨#[123]⟩] 9))
  cases hq : atS l 0 sBegin
  · go_wp2_with fail
    refine (must_any rb w.heap.size sBegin l en _ (HH.out.on HB.out) (new_cell _ _ _ _ _ _ rfl rfl)).mono ?_
    rintro e w2 hp
    rcases hp.cases with ⟨er, p, hm, rfl, ho⟩ | ⟨x, L, v, hm, rfl, hv, hr, ho⟩
    · have HE := Lib.hid (HF.out.trans (bind_err hm))
      have HON := Lib.hid ((On.of_below HB.out : On rb w _).trans ho)
      clear hp hm ho hq
      unfold Pan
      go_wp2_with fail
      exact ⟨rfl, PSays.err HE.out HON.out⟩
    · exfalso
      unfold mustP at hm
      rw [hq] at hm
      cases hm
  · go_wp2_with fail
    refine HDP.out.mono ?_
    rintro e we ⟨rfl, rfl⟩
    clear hq
    go_wp2_with fail
    refine (must_any rb w.heap.size sBegin l en _ (HH.out.on HB.out) (new_cell _ _ _ _ _ _ rfl rfl)).mono ?_
    rintro e w2 hp
    rcases hp.cases with ⟨er, p, hm, rfl, ho⟩ | ⟨x, L, v, hm, rfl, hv, hr, ho⟩
    · have HE := Lib.hid (HF.out.trans (bind_err hm))
      have HON := Lib.hid ((On.of_below HB.out : On rb w _).trans ho)
      clear hp hm ho
      unfold Pan
      go_wp2_with fail
      exact ⟨rfl, PSays.err HE.out HON.out⟩
    · replace HF := Lib.hid (HF.out.trans (bind_ok hm))
      have HBL : Hid (BlW w rb en w2 L (.slice none 0 0) []) := Lib.hid ⟨hr, GrowOf.nil, (On.of_below HB.out : On rb w _).trans ho, HH.out.lt⟩
      have HFEW := Lib.hid hr.few
      subst hv
      clear hp hm ho hr
      have HR0 := Lib.hid (show R = stmtsP en P (L.length + 1) [] L from HF.out)
      clear HF
      go_wp2_with fail
      go_loopg [5] (L.length + 1) (fun g s5 wr => ∃ (acc : List St) (lc : List Tk), R = stmtsP en P g acc lc ∧ lc.length < g ∧ acc.length + g ≤ 100001 ∧ BlW w rb en wr lc s5 acc)
      case atStart => exact ⟨[], L, HR0.out, Nat.lt_succ_self _, by have := HFEW.out; simp; omega, HBL.out⟩
      case round =>
        clear HR0 HBL HFEW
        obtain ⟨acc, lc, hR, hlg, hag, hbl⟩ := hrel
        obtain ⟨g, rfl⟩ : ∃ g, gk = g + 1 := ⟨gk - 1, by omega⟩
        have HF := Lib.hid (hR.trans (HSU.out g acc lc))
        have HLG := Lib.hid hlg
        have HAG := Lib.hid hag
        have HW := Lib.hid hbl
        obtain ⟨sv, cv, rfl⟩ := hbl.form
        clear hR hlg hag hbl
        go_wp2_with fail
        cases hq : atS lc 0 sEnd
        · replace HF := Lib.hid (HF.out.trans (if_neg (by rw [hq]; decide)))
          refine (take_no rb _ lc en _ HW.out.rd hq).mono ?_
          rintro e w3 ⟨rfl, hr, ho⟩
          replace HW := Lib.hid (HW.out.call ho hr)
          clear hr ho hq
          go_wp2_with fail
          refine (HSS.out lc _ HW.out.rd).mono ?_
          rintro e w4 hp
          rcases hp.cases with ⟨er, p, hm, rfl, ho⟩ | ⟨y, L4, v, hm, rfl, hv, hr, ho⟩
          · have HE := Lib.hid (HF.out.trans (bind_err hm))
            have HON := Lib.hid (HW.out.on.trans ho)
            clear hp hm ho
            unfold Pan
            go_wp2_with fail
            exact ⟨rfl, PSays.err HE.out HON.out⟩
          · replace HF := Lib.hid (HF.out.trans (bind_ok hm))
            have HLT := Lib.hid (HPP.out _ _ _ hm)
            have HOW := Lib.hid HW.out
            replace HW := Lib.hid (HW.out.call ho hr)
            obtain ⟨op, text, s1, n1, c1, s2, n2, c2, s3, n3, c3, pos, rfl, hrep⟩ := hv
            have HREP := Lib.hid hrep
            clear hp hm ho hr hrep
            have HB4 := Lib.hid (up_alloc (Below.refl w4.heap.size w4) (.cells #[.int .i64 op, .string text, .slice s1 n1 c1, .slice s2 n2 c2, .slice s3 n3 c3, .int .i64 pos] 46))
            have HW4 := Lib.hid (HW.out.below HB4.out)
            obtain ⟨cs, hown, hit⟩ := HW4.out.gr
            have HOWN := Lib.hid hown
            have HIT := Lib.hid hit
            have HOLD : Hid (∀ b, (Value.slice sv acc.length cv).ownBlock = some b → b < w3.heap.size) := Lib.hid (fun b hb => by
              obtain ⟨cs', ho', _⟩ := HOW.out.gr
              exact (own_block ho' hb).2)
            have HY := Lib.hid ((HREP.out.keep (Stays.of_below HB4.out)).mono (S' := fun b => w.heap.size ≤ b ∧ (Value.slice sv acc.length cv).ownBlock ≠ some b) fun b (hb : w3.heap.size ≤ b) => ⟨Nat.le_trans HOW.out.on.size hb, fun e => absurd (HOLD.out b e) (by omega)⟩)
            clear hown hit
            have hal : acc.length ≤ 100000 := by have := HAG.out; omega
            go_wp2_with (refine wpList_append_lies _ rfl _ _ _ rfl w.heap.size 46 HI.out.choose (.agg #[.int .i64 0, .string ⟨#[]⟩, .slice none 0 0, .slice none 0 0, .slice none 0 0, .int .i64 0]) 6 104 Try.underlying32 HI.out.choose_spec.1 HI.out.choose_spec.2.1 HI.out.choose_spec.2.2.1 HI.out.choose_spec.2.2.2 rfl (by decide) _ acc.length (flat cs acc.length) rfl HOWN.out ⟨w4.heap.size, 0, none⟩ 1 1 [.int .i64 op, .string text, .slice s1 n1 c1, .slice s2 n2 c2, .slice s3 n3 c3, .int .i64 pos] rfl rfl (by intro j u hj; rw [Go.WideShapes.add_plain, Nat.zero_add]; exact new_cell _ _ _ _ _ _ rfl (by simpa using hj)) (by intro u hu; simp at hu; rcases hu with rfl | rfl | rfl | rfl | rfl | rfl <;> rfl) (by decide) (by unfold maxLen; omega) (by omega) (by rw [size_alloc]; have := HW.out.on.size; omega) _ rfl ?_; intro g9 cp9 w9 hown9 hgrow9 hgl9 hlt9; have HPU := Lib.hid (HW4.out.push HIT.out rfl HY.out hgrow9 hgl9 hown9); clear hown9 hgrow9 hgl9 hlt9)
            go_roundg g
            case measure => exact Nat.lt_succ_self _
            case rel => exact ⟨_, _, HF.out, by have := HLG.out; have := HLT.out; omega, by have := HAG.out; simp; omega, HPU.out⟩
        · replace HF := Lib.hid (HF.out.trans (if_pos hq))
          refine (take_yes rb _ lc en _ HW.out.rd hq).mono ?_
          rintro e w3 ⟨rfl, hr, ho⟩
          replace HW := Lib.hid (HW.out.call ho hr)
          clear hr ho hq
          go_wp2_with fail
          go_ret
          obtain ⟨cs, hrow, hit⟩ := HW.out.gr.row
          exact PSays.ok HF.out ⟨cs, hrow, hit⟩ HW.out.rd HW.out.on
set_option maxRecDepth 100000 in
set_option maxHeartbeats 4000000 in
theorem block_no (rb : Nat) (d en : Int) (hd : 32 < d) : ReadsSts rb en 38 #[.pointer (some ⟨rb, 0, none⟩), .int .i64 d] (blockP en 0) := by
  intro l w h
  have HAT := Lib.hid (at_any rb 0 sBegin l en w h)
  have HDP := Lib.hid (deep_no rb l en d w h hd)
  have HH := Lib.hid h
  generalize hR : blockP en 0 l = R
  have HF := Lib.hid (show R = if atS l 0 sBegin then .error (42, placeS en l) else .error (41, placeS en l) from hR.symm)
  clear hd h hR
  go_enter Try.func38, Try.ntmps38
  go_wp2_with fail
  refine HAT.out.mono ?_
  rintro e we ⟨rfl, rfl⟩
  have HB := Lib.hid (up_alloc (Below.refl w.heap.size w) (.cells #[.string ⟨#[123]⟩] 9))
  cases hq : atS l 0 sBegin
  · replace HF := Lib.hid (HF.out.trans (if_neg (by rw [hq]; decide)))
    go_wp2_with fail
    refine (must_any rb w.heap.size sBegin l en _ (HH.out.on HB.out) (new_cell _ _ _ _ _ _ rfl rfl)).mono ?_
    rintro e w2 hp
    have hm0 : mustP en sBegin l = .error (41, placeS en l) := by unfold mustP; rw [hq]; rfl
    rcases hp.cases with ⟨er, p, hm, rfl, ho⟩ | ⟨x, L, v, hm, rfl, hv, hr, ho⟩
    · rw [hm0] at hm
      injection hm with hm
      injection hm with hm1 hm2
      subst hm1 hm2
      have HON := Lib.hid ((On.of_below HB.out : On rb w _).trans ho)
      clear hp ho hq hm0
      unfold Pan
      go_wp2_with fail
      exact ⟨rfl, PSays.err HF.out HON.out⟩
    · exfalso
      rw [hm0] at hm
      cases hm
  · replace HF := Lib.hid (HF.out.trans (if_pos hq))
    go_wp2_with fail
    refine HDP.out.mono ?_
    rintro e we ⟨rfl, rfl⟩
    clear hq
    unfold Pan
    go_wp2_with fail
    exact ⟨rfl, PSays.err HF.out (On.refl _ _)⟩
theorem weak_stmts (en : Int) (P : Par St) (hP : Strict P) : ∀ (f : Nat) (acc : List St), Weak (stmtsP en P f acc)
  | 0, acc => fun l x r e => by cases e
  | f + 1, acc => fun l x r e => by
    rw [stmtsP_succ] at e
    split at e
    · cases e; simp
    · obtain ⟨y, q, h1, h2⟩ := bind_inv e
      have := hP _ _ _ h1
      have := weak_stmts en P hP f _ _ _ _ h2
      omega
theorem strict_semi (en : Int) (s : St) : Strict (semiP en s) := (strict_must en sSemi).bind fun _ => weak_ok _
theorem strict_stmt (en : Int) (E : Par Ex) (B : Par (List St)) (hE : Strict E) (hB : Weak B) : Strict (stmtP en E B) := fun l x r e => by
  unfold stmtP at e
  dsimp only at e
  split at e
  · rename_i h
    have := tail_lt h
    have := ((strict_name en).bind fun n => ((strict_must en sEq).bind fun _ => (hE.bind fun x => (strict_semi en _).weak).weak).weak) _ _ _ e
    omega
  split at e
  · rename_i h
    have := tail_lt h
    have := (hE.bind fun x => hB.bind fun b => (fun l x r e => by
      split at e
      · rename_i h
        have := tail_lt h
        have := (hB.bind fun e => weak_ok _) _ _ _ e
        omega
      · cases e; exact Nat.le_refl _ : Weak _)) _ _ _ e
    omega
  split at e
  · rename_i h
    have := tail_lt h
    have := ((strict_name en).bind fun n => ((strict_must en sEq).bind fun _ => (hE.bind fun x => ((strict_must en sTo).bind fun _ => (hE.bind fun y => hB.bind fun b => weak_ok _).weak).weak).weak).weak) _ _ _ e
    omega
  split at e
  · rename_i h
    have := tail_lt h
    split at e
    · have := strict_semi en _ _ _ _ e; omega
    · have := (hE.bind fun x => (strict_semi en _).weak) _ _ _ e
      omega
  split at e
  · rename_i h
    have := tail_lt h
    have := ((strict_must en sOpen).bind fun _ => (hE.bind fun x => ((strict_must en sComma).bind fun _ => (hE.bind fun y => ((strict_must en sClose).bind fun _ => (strict_semi en _).weak).weak).weak).weak).weak) _ _ _ e
    omega
  split at e
  · rename_i h
    have := tail_lt h
    have := ((strict_must en sOpen).bind fun _ => (hE.bind fun x => ((strict_must en sClose).bind fun _ => (strict_semi en _).weak).weak).weak) _ _ _ e
    omega
  split at e <;> split at e <;> first
    | exact ((strict_name en).bind fun n => ((strict_must en sEq).bind fun _ => (hE.bind fun x => (strict_semi en _).weak).weak).weak) _ _ _ e
    | exact (hE.bind fun x => (strict_semi en _).weak) _ _ _ e
theorem weak_block (en : Int) : ∀ k, Weak (blockP en k)
  | 0 => fun l x r e => by
    unfold blockP at e
    split at e <;> cases e
  | k + 1 => fun l x r e => by
    unfold blockP at e
    obtain ⟨y, q, h1, h2⟩ := bind_inv e
    have := strict_must en sBegin _ _ _ h1
    have := weak_stmts en _ (strict_stmt en _ _ (strict_expr en k) (weak_block en k)) _ _ _ _ _ h2
    omega
theorem block_any (rb : Nat) (en : Int) : ∀ (k : Nat) (d : Int), d + k = 33 → 0 ≤ d → ReadsSts rb en 38 #[.pointer (some ⟨rb, 0, none⟩), .int .i64 d] (blockP en k)
  | 0, d, h, _ => block_no rb d en (by omega)
  | k + 1, d, h, h0 => block_step rb d en (by omega) (stmtP en (exprP en k) (blockP en k))
      (stmt_any rb d h0 (by omega) en (exprP en k) (blockP en k) (expr_any rb en k (d + 1) (by omega) (by omega)).2 (block_any rb en k (d + 1) (by omega) (by omega)))
      (strict_stmt en _ _ (strict_expr en k) (weak_block en k))
end Go.Proofs.Ytpiamiaigjlafaa
