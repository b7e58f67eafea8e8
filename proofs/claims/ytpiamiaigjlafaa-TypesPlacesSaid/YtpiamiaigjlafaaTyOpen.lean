/-
  Arguments: a row of bytes as it comes in, within the form's own bound on sizes.
-/
import Derived.Test.YtpiamiaigjlafaaTyHead
import Derived.Test.YtpiamiaigjlafaaOpenZ
import Derived.Handed
namespace Go.Proofs.Ytpiamiaigjlafaa
open Go.ChangeShapes Go.WideShapes Go.ChangeAt Go.RowKit

theorem handed_sized {H : Type} {enc : TypeId × Value → H} {a : Assume} {C : Checked} {os : Os} {f : FuncId} {fn : Func} {s : ChangeSpec} {conds : List PathCond} {apart fresh handsOn again : Bool}
    (own : ownKnob C.prog.godebug = none) (started : os.Started) (noInit : C.prog.inits.idxOf? f = none) (hfn : C.prog.funcs[f]? = some fn)
    (witness : ∃ (w : World) (tape : Tape) (i : Input), w.os = os ∧ (w.forCall tape i).Shaped C.prog ∧ i.vars = [] ∧ Input.okWide C.prog (w.forCall tape i) .any w.heap.size f i ∧
      s.pre6 enc C.prog fn conds apart (w.forCall tape i).memory i.args ∧ a.holds C.prog (lone (Frame.enter C.prog f i.args .normal) [] (w.forCall tape i)))
    (contract : ∀ (W : World) (base : Nat) (args : Array Value) (ds gs : List (DataW H)) (before : List MemPlace),
      (∀ (j : Nat) t v, fn.params[j]? = some t → args[j]? = some v → Value.okWide C.prog W .any base t v) →
      DataW.Whole enc C.prog fn.params.toList s.vars apart W args.toList ds gs before →
      (DataW.weightsEach C.prog (fn.params.toList ++ s.plain.varTypes C.prog) (ds ++ gs)).all (· ≤ reachBytes) = true →
      Calls C.prog f args W fun e W' => ∃ v, e = .returned v ∧ s.post enc C.prog fn apart fresh handsOn again W args v W') :
    ReturnsInHanded a C os f .any (s.pre6 enc C.prog fn conds apart) (s.post enc C.prog fn apart fresh handsOn again) := by
  refine returnsInHanded_of_calls own started noInit witness ?_
  intro w tape i _ _ _ hok hpre _
  obtain ⟨_, _, _, fn', hfn', _, _, _, _, hval⟩ := hok
  have e : fn' = fn := Option.some.inj (hfn'.symm.trans hfn)
  subst e
  obtain ⟨⟨ds, gs, before, hw, _⟩, hz⟩ := hpre
  have hw' := DataW.Whole.of_heap (w' := w.forCall tape i) (by rfl) hw
  refine (contract (w.forCall tape i) w.heap.size i.args ds gs before hval hw' (hz.weights hw)).mono fun e W' ⟨v, he, hp⟩ => ?_
  subst he
  exact ChangeSpec.post_blind hp
def byteAt (w : World) (b o : Nat) : UInt8 := match w.cell? ⟨b, o, none⟩ with
  | some (.int _ z) => UInt8.ofNat z.toNat
  | _ => 0
theorem open_bytes {w : World} {n : Nat} {cs : List Value} (h : TZ Try.prog w n 22 cs) :
    ∃ (a : Option Addr) (cap : Nat) (s : List UInt8), cs = [.slice a s.length cap] ∧ s.length ≤ cap ∧ s.length ≤ 1152921504606846976 ∧ SrcAt w a s := by
  obtain ⟨a, len, cap, rfl, hl, _, hr, _, hb, hat⟩ := TZ.slice Try.underlying22 (by rw [show Try.prog.cellsOf 5 = 1 by kernel_rfl]; decide) h
  have hby : Try.prog.bytesOf 5 = 1 := by kernel_rfl
  rw [hby, Nat.mul_one] at hr
  have hlen : len ≤ 1152921504606846976 := Nat.le_trans hl (Nat.le_trans hr (by decide))
  by_cases h0 : len = 0
  · subst h0
    exact ⟨a, cap, [], rfl, Nat.zero_le _, Nat.zero_le _, fun h => absurd h (Nat.lt_irrefl _)⟩
  obtain ⟨b, off, rfl, hlt⟩ := hb (by omega)
  refine ⟨_, cap, (List.range len).map fun i => byteAt w b (off + i), by simp, by simpa using hl, by simpa using hlen, fun _ => ⟨b, off, rfl, hlt, fun i hi => ?_⟩⟩
  have hi2 : i < len := by simpa using hi
  obtain ⟨m, cs', _, hcl, hcell, htz⟩ := hat b off rfl i hi2
  have hce : Try.prog.cellsOf 5 = 1 := by kernel_rfl
  rw [hce] at hcell
  obtain ⟨z, rfl, hwf⟩ := htz.int Try.underlying5
  have hc := hcell 0 (by decide)
  rw [Nat.mul_one, Nat.add_zero] at hc
  have hz : 0 ≤ z ∧ z ≤ 255 := by simpa [Lit.wf, IntKind.min, IntKind.max, IntKind.signed, IntKind.bits] using hwf
  have hg : ((List.range len).map fun i => byteAt w b (off + i)).getD i 0 = byteAt w b (off + i) := by
    rw [List.getD_eq_getElem?_getD, List.getElem?_map, List.getElem?_range hi2]
    rfl
  rw [hg]
  unfold byteAt
  rw [hc]
  simp only [List.getElem?_cons_zero, Option.some.injEq, Value.int.injEq, true_and]
  have : (UInt8.ofNat z.toNat).toNat = z.toNat := by simp; omega
  rw [this]
  omega
end Go.Proofs.Ytpiamiaigjlafaa
