/-
  Things with commas between, up to a bracket.
-/
import Derived.Test.YtpiamiaigjlafaaParK
import Derived.Deep.LoopGhost
namespace Go.Proofs.Ytpiamiaigjlafaa
open Go.RowKit
theorem listP_succ {α : Type} (en : Int) (one : Par α) (f : Nat) (first : Bool) (acc : List α) (l : List Tk) : listP en one (f + 1) first acc l =
    if atS l 0 sClose then .ok (acc, l.tail) else ((if first then okP () else mustP en sComma).bind fun _ => one.bind fun x => listP en one f false (acc ++ [x])) l := rfl
theorem bind_err {α β : Type} {p : Par α} {f : α → Par β} {l : List Tk} {e : Int × Int} (h : p l = .error e) : p.bind f l = .error e := by
  unfold Par.bind
  rw [h]
theorem bind_ok {α β : Type} {p : Par α} {f : α → Par β} {l r : List Tk} {x : α} (h : p l = .ok (x, r)) : p.bind f l = f x r := by
  unfold Par.bind
  rw [h]
theorem take_no (rb : Nat) (s : ByteArray) (l : List Tk) (en : Int) (w : World) (h : RdAt w rb l en) (hq : atS l 0 s = false) : Calls Try.prog 37 #[.pointer (some ⟨rb, 0, none⟩), .string s] w fun e w' => e = .returned (.bool false) ∧ RdAt w' rb l en ∧ On rb w w' := by
  have := take_any rb s l en w h
  rw [hq] at this
  exact this
theorem take_yes (rb : Nat) (s : ByteArray) (l : List Tk) (en : Int) (w : World) (h : RdAt w rb l en) (hq : atS l 0 s = true) : Calls Try.prog 37 #[.pointer (some ⟨rb, 0, none⟩), .string s] w fun e w' => e = .returned (.bool true) ∧ RdAt w' rb l.tail en ∧ On rb w w' := by
  have := take_any rb s l en w h
  rw [hq] at this
  exact this
theorem must_no {en : Int} {s : ByteArray} {l : List Tk} {u : Unit} {r : List Tk} (h : mustP en s l = .ok (u, r)) : r.length + 1 = l.length := by
  unfold mustP at h
  split at h
  · rename_i hq
    cases l with
    | nil => rw [atS_nil] at hq; cases hq
    | cons t q => cases h; rfl
  · cases h
set_option maxRecDepth 100000 in
set_option maxHeartbeats 4000000 in
theorem list_any {α : Type} (rb : Nat) (en : Int) (T : Nat → Prop) (hT : T rb) (fv : FuncId) (caps : Array Value) (hcf : ∀ args W, Sem.run Try.prog (callFunc fv args) W = .ok (.enter fv args) W) (P : Par α) (I : World → List α → Prop)
    (hI : ∀ w w' acc, I w acc → On rb w w' → I w' acc) (hP : ∀ l x r, P l = .ok (x, r) → r.length < l.length)
    (hone : ∀ l w acc, acc.length ≤ 100000 → RdAt w rb l en → I w acc → Calls Try.prog fv caps w (PSaysT rb en T w (fun w' y v => v = .tuple #[] ∧ I w' (acc ++ [y])) (P l)))
    (F : Nat) (l : List Tk) (hF : l.length < F) (hF2 : F ≤ 100001) (w : World) (h : RdAt w rb l en) (h0 : I w []) :
    Calls Try.prog 34 #[.pointer (some ⟨rb, 0, none⟩), .func (.func fv) #[] caps] w (PSaysT rb en T w (fun w' ks v => v = .tuple #[] ∧ I w' ks) (listP en P F true [] l)) := by
  have HH := Lib.hid h
  have HFEW := Lib.hid hF2
  have HFF := Lib.hid hF
  have H0 := Lib.hid h0
  have HI := Lib.hid hI
  have HP := Lib.hid hP
  have HONE := Lib.hid hone
  have HT := Lib.hid hT
  have HA := Lib.hid (fun (s : ByteArray) (l : List Tk) (W : World) (hW : RdAt W rb l en) => at_any rb 0 s l en W hW)
  have HM := Lib.hid (fun (W : World) (s : ByteArray) (l : List Tk) (sb : Nat) (hW : RdAt W rb l en) (hs : W.cell? ⟨sb, 0, none⟩ = some (.string s)) => must_any rb sb s l en W hW hs)
  generalize hr : listP en P F true [] l = R
  have HR := Lib.hid hr.symm
  clear h h0 hI hP hone hT hr hF hF2
  have hlist := @listP_succ α en P
  have HLS := Lib.hid hlist
  clear hlist
  unfold sClose sComma str at *
  go_enter Try.func34, Try.ntmps34
  go_wp2_with fail
  go_loopg [4] F (fun g s4 wr => ∃ (first : Bool) (acc : List α) (lc : List Tk), s4 = .bool first ∧ R = listP en P g first acc lc ∧ lc.length < g ∧ acc.length + g = F ∧ RdAt wr rb lc en ∧ I wr acc ∧ OnS T w wr)
  case atStart => exact ⟨true, [], l, rfl, HR.out, HFF.out, by simp, HH.out, H0.out, OnS.refl _ _⟩
  case round =>
    clear HR HH H0
    obtain ⟨first, acc, lc, rfl, hR, hlg, hag, hrd, hi, hos⟩ := hrel
    obtain ⟨g, rfl⟩ : ∃ g, gk = g + 1 := ⟨gk - 1, by omega⟩
    have HRR := Lib.hid (hR.trans (HLS.out g first acc lc))
    have HRD := Lib.hid hrd
    have HII := Lib.hid hi
    have HOS := Lib.hid hos
    have HLG := Lib.hid hlg
    have HAG := Lib.hid hag
    have hal : acc.length ≤ 100000 := by have := HFEW.out; omega
    have HAL := Lib.hid hal
    clear hR hrd hi hos hlg hag hal
    cases hq : atS lc 0 (⟨[41].toArray⟩ : ByteArray)
    · have HF : Hid (R = ((if first then okP () else mustP en (⟨[44].toArray⟩ : ByteArray)).bind fun _ => P.bind fun x => listP en P g false (acc ++ [x])) lc) := Lib.hid (by rw [HRR.out, hq]; rfl)
      have HA1 := Lib.hid (HA.out ⟨[41].toArray⟩ lc wr HRD.out)
      rw [hq] at HA1
      clear hq
      cases first
      · have HF2 : Hid (R = ((mustP en (⟨[44].toArray⟩ : ByteArray)).bind fun _ => P.bind fun x => listP en P g false (acc ++ [x])) lc) := Lib.hid (by
          rw [HF.out, if_neg (by decide)])
        clear HF
        go_wp2_with fail
        refine HA1.out.mono ?_
        rintro e w1 ⟨rfl, rfl⟩
        go_wp2_with fail
        have HB1 := Lib.hid (up_alloc (Below.refl wr.heap.size wr) (.cells #[.string ⟨[44].toArray⟩] 9))
        refine (HM.out _ _ lc wr.heap.size (HRD.out.on HB1.out) (new_cell _ _ _ _ _ _ rfl rfl)).mono ?_
        rintro e w2 hp
        rcases hp.cases with ⟨er, p, hm, rfl, ho⟩ | ⟨x, r, v, hm, rfl, hv, hr, ho⟩
        · have HE := Lib.hid (HF2.out.trans (bind_err hm))
          have HO := Lib.hid (HOS.out.trans (OnS.of_on ((On.of_below HB1.out).trans ho) HT.out))
          clear hp hm ho
          unfold Pan
          go_wp2_with fail
          exact ⟨rfl, PSaysT.err HE.out HO.out⟩
        · have HF3 := Lib.hid (show R = (P.bind fun x => listP en P g false (acc ++ [x])) r from HF2.out.trans (bind_ok hm))
          have HL3 := Lib.hid (must_no hm)
          have ho2 := (On.of_below HB1.out).trans ho
          have HO := Lib.hid (HOS.out.trans (OnS.of_on ho2 HT.out))
          have HI2 := Lib.hid (HI.out _ _ _ HII.out ho2)
          have HR2 := Lib.hid hr
          clear hp hm ho hr ho2
          subst hv
          go_wp2_with fail
          refine (HONE.out r w2 acc HAL.out HR2.out HI2.out).mono ?_
          rintro e w3 hp
          rcases hp.cases with ⟨er, p, hm, rfl, ho⟩ | ⟨y, r3, v, hm, rfl, hv, hr, ho⟩
          · have HE := Lib.hid (HF3.out.trans (bind_err hm))
            have HO3 := Lib.hid (HO.out.trans ho)
            clear hp hm ho
            unfold Pan
            go_wp2_with fail
            exact ⟨rfl, PSaysT.err HE.out HO3.out⟩
          · have HE := Lib.hid (show R = listP en P g false (acc ++ [y]) r3 from HF3.out.trans (bind_ok hm))
            have HLL := Lib.hid (HP.out _ _ _ hm)
            have HO3 := Lib.hid (HO.out.trans ho)
            have HR3 := Lib.hid hr
            have HI3 := Lib.hid hv.2
            obtain ⟨rfl, _⟩ := hv
            clear hp hm ho hr
            go_wp2_with fail
            go_roundg g
            case rel => exact ⟨false, acc ++ [y], r3, rfl, HE.out, by have := HLL.out; have := HL3.out; have := HLG.out; omega, by have := HAG.out; simp; omega, HR3.out, HI3.out, HO3.out⟩
            case measure => omega
      · have HF3 : Hid (R = (P.bind fun x => listP en P g false (acc ++ [x])) lc) := Lib.hid (by
          rw [HF.out, if_pos rfl]
          rfl)
        clear HF
        go_wp2_with fail
        refine HA1.out.mono ?_
        rintro e w1 ⟨rfl, rfl⟩
        go_wp2_with fail
        refine (HONE.out lc wr acc HAL.out HRD.out HII.out).mono ?_
        rintro e w3 hp
        rcases hp.cases with ⟨er, p, hm, rfl, ho⟩ | ⟨y, r3, v, hm, rfl, hv, hr, ho⟩
        · have HE := Lib.hid (HF3.out.trans (bind_err hm))
          have HO3 := Lib.hid (HOS.out.trans ho)
          clear hp hm ho
          unfold Pan
          go_wp2_with fail
          exact ⟨rfl, PSaysT.err HE.out HO3.out⟩
        · have HE := Lib.hid (show R = listP en P g false (acc ++ [y]) r3 from HF3.out.trans (bind_ok hm))
          have HLL := Lib.hid (HP.out _ _ _ hm)
          have HO3 := Lib.hid (HOS.out.trans ho)
          have HR3 := Lib.hid hr
          have HI3 := Lib.hid hv.2
          obtain ⟨rfl, _⟩ := hv
          clear hp hm ho hr
          go_wp2_with fail
          go_roundg g
          case rel => exact ⟨false, acc ++ [y], r3, rfl, HE.out, by have := HLL.out; have := HLG.out; omega, by have := HAG.out; simp; omega, HR3.out, HI3.out, HO3.out⟩
          case measure => omega
    · have HF : Hid (R = .ok (acc, lc.tail)) := Lib.hid (by rw [HRR.out, hq]; rfl)
      have HMS : Hid (mustP en (⟨[41].toArray⟩ : ByteArray) lc = .ok ((), lc.tail)) := Lib.hid (by unfold mustP; rw [if_pos hq])
      have HA1 := Lib.hid (HA.out ⟨[41].toArray⟩ lc wr HRD.out)
      rw [hq] at HA1
      clear hq
      go_wp2_with fail
      refine HA1.out.mono ?_
      rintro e w1 ⟨rfl, rfl⟩
      go_wp2_with fail
      have HB1 := Lib.hid (up_alloc (Below.refl wr.heap.size wr) (.cells #[.string ⟨[41].toArray⟩] 9))
      refine (HMS.out ▸ HM.out _ _ lc wr.heap.size (HRD.out.on HB1.out) (new_cell _ _ _ _ _ _ rfl rfl)).mono ?_
      rintro e w2 ⟨⟨v, rfl, hv, hr⟩, ho⟩
      have ho2 := (On.of_below HB1.out).trans ho
      have HO := Lib.hid (HOS.out.trans (OnS.of_on ho2 HT.out))
      have HI2 := Lib.hid (HI.out _ _ _ HII.out ho2)
      have HR2 := Lib.hid hr
      clear ho hr ho2
      subst hv
      go_wp2_with fail
      go_end0
      exact PSaysT.ok HF.out ⟨rfl, HI2.out⟩ HR2.out HO.out
end Go.Proofs.Ytpiamiaigjlafaa
