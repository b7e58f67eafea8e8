/-
  NARROWER THAN 'FOR EVERY INPUT', by the rows' own cells (each row's printed sentence says how): CompileJumps: laid · CompileNames: laid · CompileGas: laid · CompileParts: laid.
  DERIVED. THE GIVEN ROWS OF THIS SEAT. 4 by the template 'for every input the law returns true; each argument reads behind the call as it read before'; 0 by the template 'total and deterministic' (their statements: YtjblihabklemfaaGreatDoorTotals.lean).
  GIVEN WITH THE SEED: the statements are not yours to turn. If you find one false, say at which input.
  Laid BY PROGRAM, IN A SANDBOX (cutbox-rows.mjs): the forced cells as the released guide's own fill.sh prints them over the translation 08801330b31a01af… (all of the seat's roots in one cut). By AI agents, Wed Nov 11 2026. No macro, syntax, notation, axiom, sorry.
-/
import Derived.Test.YtjblihabklemfaaGreatDoorChecked
import GoSem.Claim
import GoSem.ClaimJoined
import GoSem.ClaimMapViews
import Derived.JoinedTies
import Derived.KernelRfl
namespace Go.Proofs.YtjblihabklemfaaGreatDoor
/- THE CELL 'sum', in the pinned program and in every row, IS THE sha256 OF THE DUMP (.gsa) THAT YtjblihabklemfaaGreatDoorProg.lean LOADS. Nothing in Lean hashes anything: it is a label: what it is worth is what the hold of that sum in a sandbox is worth. -/
noncomputable def Tryz.pinned : Pinned := { name := "ytjblihabklemfaagreatdoor", sum := "08801330b31a01af6c87dee9180fb5bce4eb481c420726aa8f39abd1ef264cd7", checked := Tryz.checked }
namespace Rows
def none {H : Type} : Left H := { results := [], args := [] }

/- WHAT THE LISTED PACKAGE-LEVEL VARIABLES READ AS WHEN THE CALL BEGINS. Each datum BY PROGRAM (the guide's laid-datum.mjs) off the statement by which the dump's own 'gosem.cut.vars' lays the variable. In a bare row this is a premise. The card (YtjblihabklemfaaGreatDoorCards.lean) ties it to the program's text. -/
def laid_covenant_code_signs {H : Type} : DataW H := .agg [.lit (.string []), .lit (.string [43]), .lit (.string [45]), .lit (.string [42]), .lit (.string [47]), .lit (.string [37]), .lit (.string [60]), .lit (.string [60, 61]), .lit (.string [62]), .lit (.string [62, 61]), .lit (.string [61, 61]), .lit (.string [33, 61]), .lit (.string [33])]

/-- 'covenantlaw12.CompileJumps': WHATEVER THE INPUT: true; the input reads as it did. -/
def compileJumpsSpec : ChangeSpec := { name := "compileJumps", fn := fun _ => fun
  | [d] => { results := [.lit (.bool true)], args := [d] }
  | _ => none }
def compileJumpsRow : OpenClaim := { program := "ytjblihabklemfaagreatdoor", sum := "08801330b31a01af6c87dee9180fb5bce4eb481c420726aa8f39abd1ef264cd7", func := "covenant/covenantlaw12.CompileJumps", spec := "compileJumps", inPlace := ["internal/bytealg.IndexByteString", "maps.clone"], unfollowed := true, recurses := true, named := ["covenant/code.signs"], apart := false, laid := [("covenant/code.signs", laid_covenant_code_signs)] }
def CompileJumpsSaid : Prop := compileJumpsRow.holds Tryz.pinned (OpenSpec.ofChange compileJumpsSpec)

/-- ITS FALSE NEIGHBOUR: 'it returns false'. Refute it at one input. -/
def compileJumpsWrong : ChangeSpec := { name := "compileJumps", fn := fun _ => fun
  | [d] => { results := [.lit (.bool false)], args := [d] }
  | _ => none }
def CompileJumpsWrongFalsely : Prop := compileJumpsRow.holds Tryz.pinned (OpenSpec.ofChange compileJumpsWrong)

/-- 'covenantlaw12.CompileNames': WHATEVER THE INPUT: true; the input reads as it did. -/
def compileNamesSpec : ChangeSpec := { name := "compileNames", fn := fun _ => fun
  | [d1, d2] => { results := [.lit (.bool true)], args := [d1, d2] }
  | _ => none }
def compileNamesRow : OpenClaim := { program := "ytjblihabklemfaagreatdoor", sum := "08801330b31a01af6c87dee9180fb5bce4eb481c420726aa8f39abd1ef264cd7", func := "covenant/covenantlaw12.CompileNames", spec := "compileNames", inPlace := ["internal/bytealg.IndexByteString", "maps.clone"], unfollowed := true, recurses := true, named := ["covenant/code.signs"], apart := false, laid := [("covenant/code.signs", laid_covenant_code_signs)] }
def CompileNamesSaid : Prop := compileNamesRow.holds Tryz.pinned (OpenSpec.ofChange compileNamesSpec)

/-- ITS FALSE NEIGHBOUR: 'it returns false'. Refute it at one input. -/
def compileNamesWrong : ChangeSpec := { name := "compileNames", fn := fun _ => fun
  | [d1, d2] => { results := [.lit (.bool false)], args := [d1, d2] }
  | _ => none }
def CompileNamesWrongFalsely : Prop := compileNamesRow.holds Tryz.pinned (OpenSpec.ofChange compileNamesWrong)

/-- 'covenantlaw12.CompileGas': WHATEVER THE INPUT: true; the input reads as it did. -/
def compileGasSpec : ChangeSpec := { name := "compileGas", fn := fun _ => fun
  | [d] => { results := [.lit (.bool true)], args := [d] }
  | _ => none }
def compileGasRow : OpenClaim := { program := "ytjblihabklemfaagreatdoor", sum := "08801330b31a01af6c87dee9180fb5bce4eb481c420726aa8f39abd1ef264cd7", func := "covenant/covenantlaw12.CompileGas", spec := "compileGas", inPlace := ["internal/bytealg.IndexByteString", "maps.clone"], unfollowed := true, recurses := true, named := ["covenant/code.signs"], apart := false, laid := [("covenant/code.signs", laid_covenant_code_signs)] }
def CompileGasSaid : Prop := compileGasRow.holds Tryz.pinned (OpenSpec.ofChange compileGasSpec)

/-- ITS FALSE NEIGHBOUR: 'it returns false'. Refute it at one input. -/
def compileGasWrong : ChangeSpec := { name := "compileGas", fn := fun _ => fun
  | [d] => { results := [.lit (.bool false)], args := [d] }
  | _ => none }
def CompileGasWrongFalsely : Prop := compileGasRow.holds Tryz.pinned (OpenSpec.ofChange compileGasWrong)

/-- 'covenantlaw12.CompileParts': WHATEVER THE INPUT: true; the input reads as it did. -/
def compilePartsSpec : ChangeSpec := { name := "compileParts", fn := fun _ => fun
  | [d] => { results := [.lit (.bool true)], args := [d] }
  | _ => none }
def compilePartsRow : OpenClaim := { program := "ytjblihabklemfaagreatdoor", sum := "08801330b31a01af6c87dee9180fb5bce4eb481c420726aa8f39abd1ef264cd7", func := "covenant/covenantlaw12.CompileParts", spec := "compileParts", inPlace := ["internal/bytealg.IndexByteString", "maps.clone"], unfollowed := true, recurses := true, named := ["covenant/code.signs"], apart := false, laid := [("covenant/code.signs", laid_covenant_code_signs)] }
def CompilePartsSaid : Prop := compilePartsRow.holds Tryz.pinned (OpenSpec.ofChange compilePartsSpec)

/-- ITS FALSE NEIGHBOUR: 'it returns false'. Refute it at one input. -/
def compilePartsWrong : ChangeSpec := { name := "compileParts", fn := fun _ => fun
  | [d] => { results := [.lit (.bool false)], args := [d] }
  | _ => none }
def CompilePartsWrongFalsely : Prop := compilePartsRow.holds Tryz.pinned (OpenSpec.ofChange compilePartsWrong)

/- THE SECOND FORM. 'bulk': how many values and letters a reading holds, each counted each time it is reached (what is shared counts as often as it is met; a slice's spare places count too). A statement '..UptoSaid' is the law's where the arguments, and the package variables that the reading takes, are together of bulk at most 1048576: NARROWER than '..Said'. Prove '..Said' where nothing that the law and all that it calls make is longer than what came in: it says more and counts as full. Else prove '..UptoSaid'. A law counts once. -/
mutual
def uptoBulk {H : Type} : DataW H → Nat
  | .lit (.string bytes) => bytes.length + 1
  | .lit _ => 1
  | .nil => 1
  | .ptr d => uptoBulk d + 1
  | .slice elems spare => uptoBulkAll elems + uptoBulkAll spare + 1
  | .agg parts => uptoBulkAll parts + 1
  | .iface _ d => uptoBulk d + 1
  | .map entries => uptoBulkEntries entries + 1
  | .held _ => 1
def uptoBulkAll {H : Type} : List (DataW H) → Nat
  | [] => 0
  | d :: r => uptoBulk d + uptoBulkAll r
def uptoBulkEntries {H : Type} : List (Lit × DataW H) → Nat
  | [] => 0
  | x :: r => uptoBulkEntry x + uptoBulkEntries r
def uptoBulkEntry {H : Type} : Lit × DataW H → Nat
  | (.string bytes, d) => bytes.length + uptoBulk d + 1
  | (_, d) => uptoBulk d + 1
 end
def uptoSmall : (H : Type) → List (DataW H) → Bool := fun _ ds => decide (uptoBulkAll ds ≤ 1048576)
def OpenSpec.upto (s : _root_.Go.ChangeSpec) : _root_.Go.OpenSpec := { _root_.Go.OpenSpec.ofChange s with cond := some uptoSmall }

/-- 'covenantlaw12.CompileJumps', WHERE WHAT IT READS IS OF BULK AT MOST 1048576: true; the input reads as it did. -/
def compileJumpsUptoRow : OpenClaim := { program := "ytjblihabklemfaagreatdoor", sum := "08801330b31a01af6c87dee9180fb5bce4eb481c420726aa8f39abd1ef264cd7", func := "covenant/covenantlaw12.CompileJumps", spec := "compileJumps", inPlace := ["internal/bytealg.IndexByteString", "maps.clone"], unfollowed := true, recurses := true, named := ["covenant/code.signs"], apart := false, laid := [("covenant/code.signs", laid_covenant_code_signs)], narrowed := true }
def CompileJumpsUptoSaid : Prop := compileJumpsUptoRow.holds Tryz.pinned (OpenSpec.upto compileJumpsSpec)

/-- 'covenantlaw12.CompileNames', WHERE WHAT IT READS IS OF BULK AT MOST 1048576: true; the input reads as it did. -/
def compileNamesUptoRow : OpenClaim := { program := "ytjblihabklemfaagreatdoor", sum := "08801330b31a01af6c87dee9180fb5bce4eb481c420726aa8f39abd1ef264cd7", func := "covenant/covenantlaw12.CompileNames", spec := "compileNames", inPlace := ["internal/bytealg.IndexByteString", "maps.clone"], unfollowed := true, recurses := true, named := ["covenant/code.signs"], apart := false, laid := [("covenant/code.signs", laid_covenant_code_signs)], narrowed := true }
def CompileNamesUptoSaid : Prop := compileNamesUptoRow.holds Tryz.pinned (OpenSpec.upto compileNamesSpec)

/-- 'covenantlaw12.CompileGas', WHERE WHAT IT READS IS OF BULK AT MOST 1048576: true; the input reads as it did. -/
def compileGasUptoRow : OpenClaim := { program := "ytjblihabklemfaagreatdoor", sum := "08801330b31a01af6c87dee9180fb5bce4eb481c420726aa8f39abd1ef264cd7", func := "covenant/covenantlaw12.CompileGas", spec := "compileGas", inPlace := ["internal/bytealg.IndexByteString", "maps.clone"], unfollowed := true, recurses := true, named := ["covenant/code.signs"], apart := false, laid := [("covenant/code.signs", laid_covenant_code_signs)], narrowed := true }
def CompileGasUptoSaid : Prop := compileGasUptoRow.holds Tryz.pinned (OpenSpec.upto compileGasSpec)

/-- 'covenantlaw12.CompileParts', WHERE WHAT IT READS IS OF BULK AT MOST 1048576: true; the input reads as it did. -/
def compilePartsUptoRow : OpenClaim := { program := "ytjblihabklemfaagreatdoor", sum := "08801330b31a01af6c87dee9180fb5bce4eb481c420726aa8f39abd1ef264cd7", func := "covenant/covenantlaw12.CompileParts", spec := "compileParts", inPlace := ["internal/bytealg.IndexByteString", "maps.clone"], unfollowed := true, recurses := true, named := ["covenant/code.signs"], apart := false, laid := [("covenant/code.signs", laid_covenant_code_signs)], narrowed := true }
def CompilePartsUptoSaid : Prop := compilePartsUptoRow.holds Tryz.pinned (OpenSpec.upto compilePartsSpec)

end Rows
end Go.Proofs.YtjblihabklemfaaGreatDoor
