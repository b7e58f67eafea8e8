/-
  No cell of these rows narrows 'for every input' (looked for: loops, veiled, ifaces, maps, wideKeys, modest, calm, conditions, laid).
  DERIVED. THE GIVEN ROWS OF THIS SEAT. 6 by the template 'for every input the law returns true; each argument reads behind the call as it read before'; 0 by the template 'total and deterministic' (their statements: YtagmhlgkbehecaaTotals.lean).
  GIVEN WITH THE SEED: the statements are not yours to turn. If you find one false, say at which input.
  Laid BY PROGRAM, IN A SANDBOX (cutbox-rows.mjs): the forced cells as the released guide's own fill.sh prints them over the translation 26160f08bcaf2ea7… (all of the seat's roots in one cut). By AI agents, Wed Nov 11 2026. No macro, syntax, notation, axiom, sorry.
-/
import Derived.Test.YtagmhlgkbehecaaChecked
import GoSem.Claim
import GoSem.ClaimJoined
import GoSem.ClaimMapViews
import Derived.JoinedTies
import Derived.KernelRfl
namespace Go.Proofs.Ytagmhlgkbehecaa
/- THE CELL 'sum', in the pinned program and in every row, IS THE sha256 OF THE DUMP (.gsa) THAT YtagmhlgkbehecaaProg.lean LOADS. Nothing in Lean hashes anything: it is a label: what it is worth is what the hold of that sum in a sandbox is worth. -/
noncomputable def Try.pinned : Pinned := { name := "ytagmhlgkbehecaa", sum := "26160f08bcaf2ea7eabd23025aae63abac824c896e45b3e090834181ac63477b", checked := Try.checked }
namespace Rows
def none {H : Type} : Left H := { results := [], args := [] }

/-- 'covenantlaw19.QuorumTells': WHATEVER THE INPUT: true; the input reads as it did. -/
def quorumTellsSpec : ChangeSpec := { name := "quorumTells", fn := fun _ => fun
  | [d1, d2, d3, d4, d5, d6] => { results := [.lit (.bool true)], args := [d1, d2, d3, d4, d5, d6] }
  | _ => none }
def quorumTellsRow : OpenClaim := { program := "ytagmhlgkbehecaa", sum := "26160f08bcaf2ea7eabd23025aae63abac824c896e45b3e090834181ac63477b", func := "covenant/covenantlaw19.QuorumTells", spec := "quorumTells", unfollowed := true, recurses := true, apart := false }
def QuorumTellsSaid : Prop := quorumTellsRow.holds Try.pinned (OpenSpec.ofChange quorumTellsSpec)

/-- ITS FALSE NEIGHBOUR: 'it returns false'. Refute it at one input. -/
def quorumTellsWrong : ChangeSpec := { name := "quorumTells", fn := fun _ => fun
  | [d1, d2, d3, d4, d5, d6] => { results := [.lit (.bool false)], args := [d1, d2, d3, d4, d5, d6] }
  | _ => none }
def QuorumTellsWrongFalsely : Prop := quorumTellsRow.holds Try.pinned (OpenSpec.ofChange quorumTellsWrong)

/-- 'covenantlaw19.QuorumMeets': WHATEVER THE INPUT: true; the input reads as it did. -/
def quorumMeetsSpec : ChangeSpec := { name := "quorumMeets", fn := fun _ => fun
  | [d1, d2, d3] => { results := [.lit (.bool true)], args := [d1, d2, d3] }
  | _ => none }
def quorumMeetsRow : OpenClaim := { program := "ytagmhlgkbehecaa", sum := "26160f08bcaf2ea7eabd23025aae63abac824c896e45b3e090834181ac63477b", func := "covenant/covenantlaw19.QuorumMeets", spec := "quorumMeets", unfollowed := true, recurses := true, apart := false }
def QuorumMeetsSaid : Prop := quorumMeetsRow.holds Try.pinned (OpenSpec.ofChange quorumMeetsSpec)

/-- ITS FALSE NEIGHBOUR: 'it returns false'. Refute it at one input. -/
def quorumMeetsWrong : ChangeSpec := { name := "quorumMeets", fn := fun _ => fun
  | [d1, d2, d3] => { results := [.lit (.bool false)], args := [d1, d2, d3] }
  | _ => none }
def QuorumMeetsWrongFalsely : Prop := quorumMeetsRow.holds Try.pinned (OpenSpec.ofChange quorumMeetsWrong)

/-- 'covenantlaw19.QuorumAgrees': WHATEVER THE INPUT: true; the input reads as it did. -/
def quorumAgreesSpec : ChangeSpec := { name := "quorumAgrees", fn := fun _ => fun
  | [d1, d2] => { results := [.lit (.bool true)], args := [d1, d2] }
  | _ => none }
def quorumAgreesRow : OpenClaim := { program := "ytagmhlgkbehecaa", sum := "26160f08bcaf2ea7eabd23025aae63abac824c896e45b3e090834181ac63477b", func := "covenant/covenantlaw19.QuorumAgrees", spec := "quorumAgrees", unfollowed := true, recurses := true, apart := false }
def QuorumAgreesSaid : Prop := quorumAgreesRow.holds Try.pinned (OpenSpec.ofChange quorumAgreesSpec)

/-- ITS FALSE NEIGHBOUR: 'it returns false'. Refute it at one input. -/
def quorumAgreesWrong : ChangeSpec := { name := "quorumAgrees", fn := fun _ => fun
  | [d1, d2] => { results := [.lit (.bool false)], args := [d1, d2] }
  | _ => none }
def QuorumAgreesWrongFalsely : Prop := quorumAgreesRow.holds Try.pinned (OpenSpec.ofChange quorumAgreesWrong)

/-- 'covenantlaw19.QuorumBest': WHATEVER THE INPUT: true; the input reads as it did. -/
def quorumBestSpec : ChangeSpec := { name := "quorumBest", fn := fun _ => fun
  | [d] => { results := [.lit (.bool true)], args := [d] }
  | _ => none }
def quorumBestRow : OpenClaim := { program := "ytagmhlgkbehecaa", sum := "26160f08bcaf2ea7eabd23025aae63abac824c896e45b3e090834181ac63477b", func := "covenant/covenantlaw19.QuorumBest", spec := "quorumBest", unfollowed := true, recurses := true, apart := false }
def QuorumBestSaid : Prop := quorumBestRow.holds Try.pinned (OpenSpec.ofChange quorumBestSpec)

/-- ITS FALSE NEIGHBOUR: 'it returns false'. Refute it at one input. -/
def quorumBestWrong : ChangeSpec := { name := "quorumBest", fn := fun _ => fun
  | [d] => { results := [.lit (.bool false)], args := [d] }
  | _ => none }
def QuorumBestWrongFalsely : Prop := quorumBestRow.holds Try.pinned (OpenSpec.ofChange quorumBestWrong)

/-- 'covenantlaw19.QuorumTurns': WHATEVER THE INPUT: true; the input reads as it did. -/
def quorumTurnsSpec : ChangeSpec := { name := "quorumTurns", fn := fun _ => fun
  | [d1, d2] => { results := [.lit (.bool true)], args := [d1, d2] }
  | _ => none }
def quorumTurnsRow : OpenClaim := { program := "ytagmhlgkbehecaa", sum := "26160f08bcaf2ea7eabd23025aae63abac824c896e45b3e090834181ac63477b", func := "covenant/covenantlaw19.QuorumTurns", spec := "quorumTurns", unfollowed := true, recurses := true, apart := false }
def QuorumTurnsSaid : Prop := quorumTurnsRow.holds Try.pinned (OpenSpec.ofChange quorumTurnsSpec)

/-- ITS FALSE NEIGHBOUR: 'it returns false'. Refute it at one input. -/
def quorumTurnsWrong : ChangeSpec := { name := "quorumTurns", fn := fun _ => fun
  | [d1, d2] => { results := [.lit (.bool false)], args := [d1, d2] }
  | _ => none }
def QuorumTurnsWrongFalsely : Prop := quorumTurnsRow.holds Try.pinned (OpenSpec.ofChange quorumTurnsWrong)

/-- 'covenantlaw19.QuorumAdds': WHATEVER THE INPUT: true; the input reads as it did. -/
def quorumAddsSpec : ChangeSpec := { name := "quorumAdds", fn := fun _ => fun
  | [d1, d2] => { results := [.lit (.bool true)], args := [d1, d2] }
  | _ => none }
def quorumAddsRow : OpenClaim := { program := "ytagmhlgkbehecaa", sum := "26160f08bcaf2ea7eabd23025aae63abac824c896e45b3e090834181ac63477b", func := "covenant/covenantlaw19.QuorumAdds", spec := "quorumAdds", unfollowed := true, recurses := true, apart := false }
def QuorumAddsSaid : Prop := quorumAddsRow.holds Try.pinned (OpenSpec.ofChange quorumAddsSpec)

/-- ITS FALSE NEIGHBOUR: 'it returns false'. Refute it at one input. -/
def quorumAddsWrong : ChangeSpec := { name := "quorumAdds", fn := fun _ => fun
  | [d1, d2] => { results := [.lit (.bool false)], args := [d1, d2] }
  | _ => none }
def QuorumAddsWrongFalsely : Prop := quorumAddsRow.holds Try.pinned (OpenSpec.ofChange quorumAddsWrong)

/- THE SECOND FORM. 'bulk': how many values and letters a reading holds, each counted each time it is reached (what is shared counts as often as it is met; a slice's spare places count too). A statement '..UptoSaid' is the law's where the arguments, and the package variables that the reading takes, are together of bulk at most 1048576: NARROWER than '..Said'. Prove '..Said' where nothing that the law and all that it calls make is longer than what came in: it says more and counts as full. Else prove '..UptoSaid'. A law counts once. -/
mutual
def uptoBulk {H : Type} : DataW H → Nat
  | .lit (.string bytes) => bytes.length + 1
  | .lit _ => 1
  | .nil => 1
  | .ptr d => uptoBulk d + 1
  | .slice elems spare => uptoBulkAll elems + uptoBulkAll spare + 1
  | .agg parts => uptoBulkAll parts + 1
  | .iface _ d => uptoBulk d + 1
  | .map entries => uptoBulkEntries entries + 1
  | .held _ => 1
def uptoBulkAll {H : Type} : List (DataW H) → Nat
  | [] => 0
  | d :: r => uptoBulk d + uptoBulkAll r
def uptoBulkEntries {H : Type} : List (Lit × DataW H) → Nat
  | [] => 0
  | x :: r => uptoBulkEntry x + uptoBulkEntries r
def uptoBulkEntry {H : Type} : Lit × DataW H → Nat
  | (.string bytes, d) => bytes.length + uptoBulk d + 1
  | (_, d) => uptoBulk d + 1
 end
def uptoSmall : (H : Type) → List (DataW H) → Bool := fun _ ds => decide (uptoBulkAll ds ≤ 1048576)
def OpenSpec.upto (s : _root_.Go.ChangeSpec) : _root_.Go.OpenSpec := { _root_.Go.OpenSpec.ofChange s with cond := some uptoSmall }

/-- 'covenantlaw19.QuorumTells', WHERE WHAT IT READS IS OF BULK AT MOST 1048576: true; the input reads as it did. -/
def quorumTellsUptoRow : OpenClaim := { program := "ytagmhlgkbehecaa", sum := "26160f08bcaf2ea7eabd23025aae63abac824c896e45b3e090834181ac63477b", func := "covenant/covenantlaw19.QuorumTells", spec := "quorumTells", unfollowed := true, recurses := true, apart := false, narrowed := true }
def QuorumTellsUptoSaid : Prop := quorumTellsUptoRow.holds Try.pinned (OpenSpec.upto quorumTellsSpec)

/-- 'covenantlaw19.QuorumMeets', WHERE WHAT IT READS IS OF BULK AT MOST 1048576: true; the input reads as it did. -/
def quorumMeetsUptoRow : OpenClaim := { program := "ytagmhlgkbehecaa", sum := "26160f08bcaf2ea7eabd23025aae63abac824c896e45b3e090834181ac63477b", func := "covenant/covenantlaw19.QuorumMeets", spec := "quorumMeets", unfollowed := true, recurses := true, apart := false, narrowed := true }
def QuorumMeetsUptoSaid : Prop := quorumMeetsUptoRow.holds Try.pinned (OpenSpec.upto quorumMeetsSpec)

/-- 'covenantlaw19.QuorumAgrees', WHERE WHAT IT READS IS OF BULK AT MOST 1048576: true; the input reads as it did. -/
def quorumAgreesUptoRow : OpenClaim := { program := "ytagmhlgkbehecaa", sum := "26160f08bcaf2ea7eabd23025aae63abac824c896e45b3e090834181ac63477b", func := "covenant/covenantlaw19.QuorumAgrees", spec := "quorumAgrees", unfollowed := true, recurses := true, apart := false, narrowed := true }
def QuorumAgreesUptoSaid : Prop := quorumAgreesUptoRow.holds Try.pinned (OpenSpec.upto quorumAgreesSpec)

/-- 'covenantlaw19.QuorumBest', WHERE WHAT IT READS IS OF BULK AT MOST 1048576: true; the input reads as it did. -/
def quorumBestUptoRow : OpenClaim := { program := "ytagmhlgkbehecaa", sum := "26160f08bcaf2ea7eabd23025aae63abac824c896e45b3e090834181ac63477b", func := "covenant/covenantlaw19.QuorumBest", spec := "quorumBest", unfollowed := true, recurses := true, apart := false, narrowed := true }
def QuorumBestUptoSaid : Prop := quorumBestUptoRow.holds Try.pinned (OpenSpec.upto quorumBestSpec)

/-- 'covenantlaw19.QuorumTurns', WHERE WHAT IT READS IS OF BULK AT MOST 1048576: true; the input reads as it did. -/
def quorumTurnsUptoRow : OpenClaim := { program := "ytagmhlgkbehecaa", sum := "26160f08bcaf2ea7eabd23025aae63abac824c896e45b3e090834181ac63477b", func := "covenant/covenantlaw19.QuorumTurns", spec := "quorumTurns", unfollowed := true, recurses := true, apart := false, narrowed := true }
def QuorumTurnsUptoSaid : Prop := quorumTurnsUptoRow.holds Try.pinned (OpenSpec.upto quorumTurnsSpec)

/-- 'covenantlaw19.QuorumAdds', WHERE WHAT IT READS IS OF BULK AT MOST 1048576: true; the input reads as it did. -/
def quorumAddsUptoRow : OpenClaim := { program := "ytagmhlgkbehecaa", sum := "26160f08bcaf2ea7eabd23025aae63abac824c896e45b3e090834181ac63477b", func := "covenant/covenantlaw19.QuorumAdds", spec := "quorumAdds", unfollowed := true, recurses := true, apart := false, narrowed := true }
def QuorumAddsUptoSaid : Prop := quorumAddsUptoRow.holds Try.pinned (OpenSpec.upto quorumAddsSpec)

end Rows
end Go.Proofs.Ytagmhlgkbehecaa
