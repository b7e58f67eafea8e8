/-
  NARROWER THAN 'FOR EVERY INPUT', by the rows' own cells (each row's printed sentence says how): TypesPlaces: loops.
  DERIVED. THE GIVEN ROWS OF THIS SEAT. 5 by the template 'for every input the law returns true; each argument reads behind the call as it read before'; 0 by the template 'total and deterministic' (their statements: YtpiamiaigjlafaaTotals.lean).
  GIVEN WITH THE SEED: the statements are not yours to turn. If you find one false, say at which input.
  Laid BY PROGRAM, IN A SANDBOX (cutbox-rows.mjs): the forced cells as the released guide's own fill.sh prints them over the translation ac6bc61b95b27cad… (all of the seat's roots in one cut). By AI agents, Wed Nov 11 2026. No macro, syntax, notation, axiom, sorry.
-/
import Derived.Test.YtpiamiaigjlafaaChecked
import GoSem.Claim
import GoSem.ClaimJoined
import GoSem.ClaimMapViews
import Derived.JoinedTies
import Derived.KernelRfl
namespace Go.Proofs.Ytpiamiaigjlafaa
/- THE CELL 'sum', in the pinned program and in every row, IS THE sha256 OF THE DUMP (.gsa) THAT YtpiamiaigjlafaaProg.lean LOADS. Nothing in Lean hashes anything: it is a label: what it is worth is what the hold of that sum in a sandbox is worth. -/
noncomputable def Try.pinned : Pinned := { name := "ytpiamiaigjlafaa", sum := "ac6bc61b95b27cad6d5d0a8a1b8298960b46ca19accb0ff0d6c5134a138f5550", checked := Try.checked }
namespace Rows
def none {H : Type} : Left H := { results := [], args := [] }

/-- 'covenantlaw05.TypesMore': WHATEVER THE INPUT: true; the input reads as it did. -/
def typesMoreSpec : ChangeSpec := { name := "typesMore", fn := fun _ => fun
  | [d1, d2] => { results := [.lit (.bool true)], args := [d1, d2] }
  | _ => none }
def typesMoreRow : OpenClaim := { program := "ytpiamiaigjlafaa", sum := "ac6bc61b95b27cad6d5d0a8a1b8298960b46ca19accb0ff0d6c5134a138f5550", func := "covenant/covenantlaw05.TypesMore", spec := "typesMore", inPlace := ["internal/bytealg.IndexByteString", "maps.clone"], unfollowed := true, recurses := true, apart := false }
def TypesMoreSaid : Prop := typesMoreRow.holds Try.pinned (OpenSpec.ofChange typesMoreSpec)

/-- ITS FALSE NEIGHBOUR: 'it returns false'. Refute it at one input. -/
def typesMoreWrong : ChangeSpec := { name := "typesMore", fn := fun _ => fun
  | [d1, d2] => { results := [.lit (.bool false)], args := [d1, d2] }
  | _ => none }
def TypesMoreWrongFalsely : Prop := typesMoreRow.holds Try.pinned (OpenSpec.ofChange typesMoreWrong)

/-- 'covenantlaw05.TypesPlaces': WHATEVER THE INPUT: true; the input reads as it did. -/
def typesPlacesSpec : ChangeSpec := { name := "typesPlaces", fn := fun _ => fun
  | [d] => { results := [.lit (.bool true)], args := [d] }
  | _ => none }
def typesPlacesRow : OpenClaim := { program := "ytpiamiaigjlafaa", sum := "ac6bc61b95b27cad6d5d0a8a1b8298960b46ca19accb0ff0d6c5134a138f5550", func := "covenant/covenantlaw05.TypesPlaces", spec := "typesPlaces", inPlace := ["internal/bytealg.IndexByteString", "maps.clone"], unfollowed := true, recurses := true, loops := true, apart := false }
def TypesPlacesSaid : Prop := typesPlacesRow.holds Try.pinned (OpenSpec.ofChange typesPlacesSpec)

/-- ITS FALSE NEIGHBOUR: 'it returns false'. Refute it at one input. -/
def typesPlacesWrong : ChangeSpec := { name := "typesPlaces", fn := fun _ => fun
  | [d] => { results := [.lit (.bool false)], args := [d] }
  | _ => none }
def TypesPlacesWrongFalsely : Prop := typesPlacesRow.holds Try.pinned (OpenSpec.ofChange typesPlacesWrong)

/-- 'covenantlaw05.TypesName': WHATEVER THE INPUT: true; the input reads as it did. -/
def typesNameSpec : ChangeSpec := { name := "typesName", fn := fun _ => fun
  | [d1, d2] => { results := [.lit (.bool true)], args := [d1, d2] }
  | _ => none }
def typesNameRow : OpenClaim := { program := "ytpiamiaigjlafaa", sum := "ac6bc61b95b27cad6d5d0a8a1b8298960b46ca19accb0ff0d6c5134a138f5550", func := "covenant/covenantlaw05.TypesName", spec := "typesName", inPlace := ["internal/bytealg.IndexByteString", "maps.clone"], unfollowed := true, recurses := true, apart := false }
def TypesNameSaid : Prop := typesNameRow.holds Try.pinned (OpenSpec.ofChange typesNameSpec)

/-- ITS FALSE NEIGHBOUR: 'it returns false'. Refute it at one input. -/
def typesNameWrong : ChangeSpec := { name := "typesName", fn := fun _ => fun
  | [d1, d2] => { results := [.lit (.bool false)], args := [d1, d2] }
  | _ => none }
def TypesNameWrongFalsely : Prop := typesNameRow.holds Try.pinned (OpenSpec.ofChange typesNameWrong)

/-- 'covenantlaw05.TypesScope': WHATEVER THE INPUT: true; the input reads as it did. -/
def typesScopeSpec : ChangeSpec := { name := "typesScope", fn := fun _ => fun
  | [d1, d2] => { results := [.lit (.bool true)], args := [d1, d2] }
  | _ => none }
def typesScopeRow : OpenClaim := { program := "ytpiamiaigjlafaa", sum := "ac6bc61b95b27cad6d5d0a8a1b8298960b46ca19accb0ff0d6c5134a138f5550", func := "covenant/covenantlaw05.TypesScope", spec := "typesScope", inPlace := ["internal/bytealg.IndexByteString", "maps.clone"], unfollowed := true, recurses := true, apart := false }
def TypesScopeSaid : Prop := typesScopeRow.holds Try.pinned (OpenSpec.ofChange typesScopeSpec)

/-- ITS FALSE NEIGHBOUR: 'it returns false'. Refute it at one input. -/
def typesScopeWrong : ChangeSpec := { name := "typesScope", fn := fun _ => fun
  | [d1, d2] => { results := [.lit (.bool false)], args := [d1, d2] }
  | _ => none }
def TypesScopeWrongFalsely : Prop := typesScopeRow.holds Try.pinned (OpenSpec.ofChange typesScopeWrong)

/-- 'covenantlaw05.TypesCalls': WHATEVER THE INPUT: true; the input reads as it did. -/
def typesCallsSpec : ChangeSpec := { name := "typesCalls", fn := fun _ => fun
  | [d1, d2] => { results := [.lit (.bool true)], args := [d1, d2] }
  | _ => none }
def typesCallsRow : OpenClaim := { program := "ytpiamiaigjlafaa", sum := "ac6bc61b95b27cad6d5d0a8a1b8298960b46ca19accb0ff0d6c5134a138f5550", func := "covenant/covenantlaw05.TypesCalls", spec := "typesCalls", inPlace := ["internal/bytealg.IndexByteString", "maps.clone"], unfollowed := true, recurses := true, apart := false }
def TypesCallsSaid : Prop := typesCallsRow.holds Try.pinned (OpenSpec.ofChange typesCallsSpec)

/-- ITS FALSE NEIGHBOUR: 'it returns false'. Refute it at one input. -/
def typesCallsWrong : ChangeSpec := { name := "typesCalls", fn := fun _ => fun
  | [d1, d2] => { results := [.lit (.bool false)], args := [d1, d2] }
  | _ => none }
def TypesCallsWrongFalsely : Prop := typesCallsRow.holds Try.pinned (OpenSpec.ofChange typesCallsWrong)

/- THE SECOND FORM. 'bulk': how many values and letters a reading holds, each counted each time it is reached (what is shared counts as often as it is met; a slice's spare places count too). A statement '..UptoSaid' is the law's where the arguments, and the package variables that the reading takes, are together of bulk at most 1048576: NARROWER than '..Said'. Prove '..Said' where nothing that the law and all that it calls make is longer than what came in: it says more and counts as full. Else prove '..UptoSaid'. A law counts once. -/
mutual
def uptoBulk {H : Type} : DataW H → Nat
  | .lit (.string bytes) => bytes.length + 1
  | .lit _ => 1
  | .nil => 1
  | .ptr d => uptoBulk d + 1
  | .slice elems spare => uptoBulkAll elems + uptoBulkAll spare + 1
  | .agg parts => uptoBulkAll parts + 1
  | .iface _ d => uptoBulk d + 1
  | .map entries => uptoBulkEntries entries + 1
  | .held _ => 1
def uptoBulkAll {H : Type} : List (DataW H) → Nat
  | [] => 0
  | d :: r => uptoBulk d + uptoBulkAll r
def uptoBulkEntries {H : Type} : List (Lit × DataW H) → Nat
  | [] => 0
  | x :: r => uptoBulkEntry x + uptoBulkEntries r
def uptoBulkEntry {H : Type} : Lit × DataW H → Nat
  | (.string bytes, d) => bytes.length + uptoBulk d + 1
  | (_, d) => uptoBulk d + 1
 end
def uptoSmall : (H : Type) → List (DataW H) → Bool := fun _ ds => decide (uptoBulkAll ds ≤ 1048576)
def OpenSpec.upto (s : _root_.Go.ChangeSpec) : _root_.Go.OpenSpec := { _root_.Go.OpenSpec.ofChange s with cond := some uptoSmall }

/-- 'covenantlaw05.TypesMore', WHERE WHAT IT READS IS OF BULK AT MOST 1048576: true; the input reads as it did. -/
def typesMoreUptoRow : OpenClaim := { program := "ytpiamiaigjlafaa", sum := "ac6bc61b95b27cad6d5d0a8a1b8298960b46ca19accb0ff0d6c5134a138f5550", func := "covenant/covenantlaw05.TypesMore", spec := "typesMore", inPlace := ["internal/bytealg.IndexByteString", "maps.clone"], unfollowed := true, recurses := true, apart := false, narrowed := true }
def TypesMoreUptoSaid : Prop := typesMoreUptoRow.holds Try.pinned (OpenSpec.upto typesMoreSpec)

/-- 'covenantlaw05.TypesPlaces', WHERE WHAT IT READS IS OF BULK AT MOST 1048576: true; the input reads as it did. -/
def typesPlacesUptoRow : OpenClaim := { program := "ytpiamiaigjlafaa", sum := "ac6bc61b95b27cad6d5d0a8a1b8298960b46ca19accb0ff0d6c5134a138f5550", func := "covenant/covenantlaw05.TypesPlaces", spec := "typesPlaces", inPlace := ["internal/bytealg.IndexByteString", "maps.clone"], unfollowed := true, recurses := true, loops := true, apart := false, narrowed := true }
def TypesPlacesUptoSaid : Prop := typesPlacesUptoRow.holds Try.pinned (OpenSpec.upto typesPlacesSpec)

/-- 'covenantlaw05.TypesName', WHERE WHAT IT READS IS OF BULK AT MOST 1048576: true; the input reads as it did. -/
def typesNameUptoRow : OpenClaim := { program := "ytpiamiaigjlafaa", sum := "ac6bc61b95b27cad6d5d0a8a1b8298960b46ca19accb0ff0d6c5134a138f5550", func := "covenant/covenantlaw05.TypesName", spec := "typesName", inPlace := ["internal/bytealg.IndexByteString", "maps.clone"], unfollowed := true, recurses := true, apart := false, narrowed := true }
def TypesNameUptoSaid : Prop := typesNameUptoRow.holds Try.pinned (OpenSpec.upto typesNameSpec)

/-- 'covenantlaw05.TypesScope', WHERE WHAT IT READS IS OF BULK AT MOST 1048576: true; the input reads as it did. -/
def typesScopeUptoRow : OpenClaim := { program := "ytpiamiaigjlafaa", sum := "ac6bc61b95b27cad6d5d0a8a1b8298960b46ca19accb0ff0d6c5134a138f5550", func := "covenant/covenantlaw05.TypesScope", spec := "typesScope", inPlace := ["internal/bytealg.IndexByteString", "maps.clone"], unfollowed := true, recurses := true, apart := false, narrowed := true }
def TypesScopeUptoSaid : Prop := typesScopeUptoRow.holds Try.pinned (OpenSpec.upto typesScopeSpec)

/-- 'covenantlaw05.TypesCalls', WHERE WHAT IT READS IS OF BULK AT MOST 1048576: true; the input reads as it did. -/
def typesCallsUptoRow : OpenClaim := { program := "ytpiamiaigjlafaa", sum := "ac6bc61b95b27cad6d5d0a8a1b8298960b46ca19accb0ff0d6c5134a138f5550", func := "covenant/covenantlaw05.TypesCalls", spec := "typesCalls", inPlace := ["internal/bytealg.IndexByteString", "maps.clone"], unfollowed := true, recurses := true, apart := false, narrowed := true }
def TypesCallsUptoSaid : Prop := typesCallsUptoRow.holds Try.pinned (OpenSpec.upto typesCallsSpec)

end Rows
end Go.Proofs.Ytpiamiaigjlafaa
