/-
  The parser: types.
-/
import Derived.Test.YtpiamiaigjlafaaParR
namespace Go.Proofs.Ytpiamiaigjlafaa
open Go.RowKit

theorem PSays.cases {α : Type} {rb : Nat} {en : Int} {w w' : World} {R : World → α → Value → Prop} {r : Except (Int × Int) (α × List Tk)} {e : Ending} (h : PSays rb en w R r e w') :
    (∃ er p, r = .error (er, p) ∧ e = Pan er p ∧ On rb w w') ∨ (∃ x l v, r = .ok (x, l) ∧ e = .returned v ∧ R w' x v ∧ RdAt w' rb l en ∧ On rb w w') := by
  obtain ⟨h, ho⟩ := h
  cases r with
  | error q =>
    obtain ⟨er, p⟩ := q
    exact .inl ⟨er, p, rfl, h, ho⟩
  | ok q =>
    obtain ⟨x, l⟩ := q
    obtain ⟨v, h1, h2, h3⟩ := h
    exact .inr ⟨x, l, v, rfl, h1, h2, h3, ho⟩
theorem PSays.err {α : Type} {rb : Nat} {en : Int} {w w' : World} {R : World → α → Value → Prop} {r : Except (Int × Int) (α × List Tk)} {er p : Int} (hr : r = .error (er, p)) (ho : On rb w w') : PSays rb en w R r (Pan er p) w' := by
  subst hr
  exact ⟨rfl, ho⟩
theorem PSays.ok {α : Type} {rb : Nat} {en : Int} {w w' : World} {R : World → α → Value → Prop} {r : Except (Int × Int) (α × List Tk)} {x : α} {l : List Tk} {v : Value} (hr : r = .ok (x, l)) (hR : R w' x v) (hrd : RdAt w' rb l en) (ho : On rb w w') : PSays rb en w R r (.returned v) w' := by
  subst hr
  exact ⟨⟨v, rfl, hR, hrd⟩, ho⟩
set_option maxRecDepth 100000 in
set_option maxHeartbeats 2000000 in
theorem typ_any (rb : Nat) (l : List Tk) (en : Int) (w : World) (h : RdAt w rb l en) :
    Calls Try.prog 36 #[.pointer (some ⟨rb, 0, none⟩)] w (PSays rb en w (fun _ t v => v = .int .i64 t) (typP en l)) := by
  have HT := Lib.hid (fun (s : ByteArray) (W : World) (hW : RdAt W rb l en) => take_any rb s l en W hW)
  have HH := Lib.hid h
  have HM : Hid (∀ a b, atS l 0 sInt = a → atS l 0 sBool = b → typP en l = if a then .ok (1, l.tail) else if b then .ok (2, l.tail) else (match mustP en sBytes l with | .error e => .error e | .ok (_, r) => .ok (3, r))) := Lib.hid (fun a b ha hb => by
    unfold typP
    rw [ha, hb]
    cases a <;> cases b <;> try rfl
    show Par.bind _ _ _ = _
    unfold Par.bind okP
    cases mustP en sBytes l <;> rfl)
  have HU := Lib.hid (fun (W : World) (sb : Nat) (hW : RdAt W rb l en) (hs : W.cell? ⟨sb, 0, none⟩ = some (.string sBytes)) => must_any rb sb sBytes l en W hW hs)
  clear h
  cases h1 : atS l 0 sInt
  · have HT1 := Lib.hid (HT.out sInt w HH.out)
    rw [h1] at HT1
    cases h2 : atS l 0 sBool
    · have HM2 := Lib.hid (HM.out _ _ h1 h2)
      have HT2 := Lib.hid (HT.out sBool)
      rw [h2] at HT2
      clear h1 h2
      unfold sInt sBool sBytes str at *
      go_enter Try.func36, Try.ntmps36
      go_wp2_with fail
      refine HT1.out.mono ?_
      rintro e w1 ⟨rfl, hr, ho⟩
      have HR := Lib.hid hr
      have HO := Lib.hid ho
      clear hr ho
      go_wp2_with fail
      refine (HT2.out w1 HR.out).mono ?_
      rintro e w2 ⟨rfl, hr, ho⟩
      have HR2 := Lib.hid hr
      have HO2 := Lib.hid (HO.out.trans ho)
      clear hr ho
      go_wp2_with fail
      refine (HU.out _ w2.heap.size (HR2.out.on (up_alloc (Below.refl _ _) _)) (new_cell _ _ _ _ _ _ rfl rfl)).mono ?_
      rintro e w3 hp
      have HO3 := Lib.hid (HO2.out.alloc (.cells #[.string ⟨[98, 121, 116, 101, 115].toArray⟩] 9))
      rcases hp.cases with ⟨er, p, hm, rfl, ho⟩ | ⟨x, r, v, hm, rfl, hv, hr, ho⟩
      · have HF := Lib.hid (show typP en l = .error (er, p) from by rw [HM2.out, hm]; rfl)
        have HO4 := Lib.hid (HO3.out.trans ho)
        clear hp hm ho
        unfold Pan
        go_wp2_with fail
        exact ⟨rfl, PSays.err HF.out HO4.out⟩
      · have HF := Lib.hid (show typP en l = .ok (3, r) from by rw [HM2.out, hm]; rfl)
        have HO4 := Lib.hid (HO3.out.trans ho)
        have HR4 := Lib.hid hr
        clear hp hm ho hr
        subst hv
        go_wp2_with fail
        go_ret
        exact PSays.ok HF.out rfl HR4.out HO4.out
    · have HM2 := Lib.hid (HM.out _ _ h1 h2)
      have HT2 := Lib.hid (HT.out sBool)
      rw [h2] at HT2
      clear h1 h2
      unfold sInt sBool str at *
      go_enter Try.func36, Try.ntmps36
      go_wp2_with fail
      refine HT1.out.mono ?_
      rintro e w1 ⟨rfl, hr, ho⟩
      have HR := Lib.hid hr
      have HO := Lib.hid ho
      clear hr ho
      go_wp2_with fail
      refine (HT2.out w1 HR.out).mono ?_
      rintro e w2 ⟨rfl, hr, ho⟩
      have HR2 := Lib.hid hr
      have HO2 := Lib.hid (HO.out.trans ho)
      clear hr ho
      go_wp2_with fail
      go_ret
      exact PSays.ok HM2.out rfl HR2.out HO2.out
  · have HM2 := Lib.hid (HM.out _ _ h1 rfl)
    have HT1 := Lib.hid (HT.out sInt w HH.out)
    rw [h1] at HT1
    clear h1
    unfold sInt str at *
    go_enter Try.func36, Try.ntmps36
    go_wp2_with fail
    refine HT1.out.mono ?_
    rintro e w1 ⟨rfl, hr, ho⟩
    have HR := Lib.hid hr
    have HO := Lib.hid ho
    clear hr ho
    go_wp2_with fail
    go_ret
    exact PSays.ok HM2.out rfl HR.out HO.out
end Go.Proofs.Ytpiamiaigjlafaa
