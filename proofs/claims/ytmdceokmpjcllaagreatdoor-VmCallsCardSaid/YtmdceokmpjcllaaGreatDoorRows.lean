/-
  NARROWER THAN 'FOR EVERY INPUT', by the rows' own cells (each row's printed sentence says how): VmIdle: laid · VmCalls: laid · VmRuns: laid · VmBack: laid · VmUnsafe: laid.
  DERIVED. THE GIVEN ROWS OF THIS SEAT. 5 by the template 'for every input the law returns true; each argument reads behind the call as it read before'; 0 by the template 'total and deterministic' (their statements: YtmdceokmpjcllaaGreatDoorTotals.lean).
  GIVEN WITH THE SEED: the statements are not yours to turn. If you find one false, say at which input.
  Laid BY PROGRAM, IN A SANDBOX (cutbox-rows.mjs): the forced cells as the released guide's own fill.sh prints them over the translation 2a831b7ab862aec8… (all of the seat's roots in one cut). By AI agents, Wed Nov 11 2026. No macro, syntax, notation, axiom, sorry.
-/
import Derived.Test.YtmdceokmpjcllaaGreatDoorChecked
import GoSem.Claim
import GoSem.ClaimJoined
import GoSem.ClaimMapViews
import Derived.JoinedTies
import Derived.KernelRfl
namespace Go.Proofs.YtmdceokmpjcllaaGreatDoor
/- THE CELL 'sum', in the pinned program and in every row, IS THE sha256 OF THE DUMP (.gsa) THAT YtmdceokmpjcllaaGreatDoorProg.lean LOADS. Nothing in Lean hashes anything: it is a label: what it is worth is what the hold of that sum in a sandbox is worth. -/
noncomputable def Tryz.pinned : Pinned := { name := "ytmdceokmpjcllaagreatdoor", sum := "2a831b7ab862aec8bb5a78944c0cd0ae393e4efe1c22063fbabef10ce7a73a25", checked := Tryz.checked }
namespace Rows
def none {H : Type} : Left H := { results := [], args := [] }

/- WHAT THE LISTED PACKAGE-LEVEL VARIABLES READ AS WHEN THE CALL BEGINS. Each datum BY PROGRAM (the guide's laid-datum.mjs) off the statement by which the dump's own 'gosem.cut.vars' lays the variable. In a bare row this is a premise. The card (YtmdceokmpjcllaaGreatDoorCards.lean) ties it to the program's text. -/
def laid_covenant_code_signs {H : Type} : DataW H := .agg [.lit (.string []), .lit (.string [43]), .lit (.string [45]), .lit (.string [42]), .lit (.string [47]), .lit (.string [37]), .lit (.string [60]), .lit (.string [60, 61]), .lit (.string [62]), .lit (.string [62, 61]), .lit (.string [61, 61]), .lit (.string [33, 61]), .lit (.string [33])]

/-- 'covenantlaw14.VmIdle': WHATEVER THE INPUT: true; the input reads as it did. -/
def vmIdleSpec : ChangeSpec := { name := "vmIdle", fn := fun _ => fun
  | [d1, d2] => { results := [.lit (.bool true)], args := [d1, d2] }
  | _ => none }
def vmIdleRow : OpenClaim := { program := "ytmdceokmpjcllaagreatdoor", sum := "2a831b7ab862aec8bb5a78944c0cd0ae393e4efe1c22063fbabef10ce7a73a25", func := "covenant/covenantlaw14.VmIdle", spec := "vmIdle", inPlace := ["internal/bytealg.Compare"], unfollowed := true, recurses := true, named := ["covenant/code.signs"], apart := false, laid := [("covenant/code.signs", laid_covenant_code_signs)] }
def VmIdleSaid : Prop := vmIdleRow.holds Tryz.pinned (OpenSpec.ofChange vmIdleSpec)

/-- ITS FALSE NEIGHBOUR: 'it returns false'. Refute it at one input. -/
def vmIdleWrong : ChangeSpec := { name := "vmIdle", fn := fun _ => fun
  | [d1, d2] => { results := [.lit (.bool false)], args := [d1, d2] }
  | _ => none }
def VmIdleWrongFalsely : Prop := vmIdleRow.holds Tryz.pinned (OpenSpec.ofChange vmIdleWrong)

/-- 'covenantlaw14.VmCalls': WHATEVER THE INPUT: true; the input reads as it did. -/
def vmCallsSpec : ChangeSpec := { name := "vmCalls", fn := fun _ => fun
  | [d] => { results := [.lit (.bool true)], args := [d] }
  | _ => none }
def vmCallsRow : OpenClaim := { program := "ytmdceokmpjcllaagreatdoor", sum := "2a831b7ab862aec8bb5a78944c0cd0ae393e4efe1c22063fbabef10ce7a73a25", func := "covenant/covenantlaw14.VmCalls", spec := "vmCalls", inPlace := ["internal/bytealg.Compare"], unfollowed := true, recurses := true, named := ["covenant/code.signs"], apart := false, laid := [("covenant/code.signs", laid_covenant_code_signs)] }
def VmCallsSaid : Prop := vmCallsRow.holds Tryz.pinned (OpenSpec.ofChange vmCallsSpec)

/-- ITS FALSE NEIGHBOUR: 'it returns false'. Refute it at one input. -/
def vmCallsWrong : ChangeSpec := { name := "vmCalls", fn := fun _ => fun
  | [d] => { results := [.lit (.bool false)], args := [d] }
  | _ => none }
def VmCallsWrongFalsely : Prop := vmCallsRow.holds Tryz.pinned (OpenSpec.ofChange vmCallsWrong)

/-- 'covenantlaw14.VmRuns': WHATEVER THE INPUT: true; the input reads as it did. -/
def vmRunsSpec : ChangeSpec := { name := "vmRuns", fn := fun _ => fun
  | [d1, d2, d3, d4, d5] => { results := [.lit (.bool true)], args := [d1, d2, d3, d4, d5] }
  | _ => none }
def vmRunsRow : OpenClaim := { program := "ytmdceokmpjcllaagreatdoor", sum := "2a831b7ab862aec8bb5a78944c0cd0ae393e4efe1c22063fbabef10ce7a73a25", func := "covenant/covenantlaw14.VmRuns", spec := "vmRuns", inPlace := ["internal/bytealg.Compare"], unfollowed := true, recurses := true, named := ["covenant/code.signs"], apart := false, laid := [("covenant/code.signs", laid_covenant_code_signs)] }
def VmRunsSaid : Prop := vmRunsRow.holds Tryz.pinned (OpenSpec.ofChange vmRunsSpec)

/-- ITS FALSE NEIGHBOUR: 'it returns false'. Refute it at one input. -/
def vmRunsWrong : ChangeSpec := { name := "vmRuns", fn := fun _ => fun
  | [d1, d2, d3, d4, d5] => { results := [.lit (.bool false)], args := [d1, d2, d3, d4, d5] }
  | _ => none }
def VmRunsWrongFalsely : Prop := vmRunsRow.holds Tryz.pinned (OpenSpec.ofChange vmRunsWrong)

/-- 'covenantlaw14.VmBack': WHATEVER THE INPUT: true; the input reads as it did. -/
def vmBackSpec : ChangeSpec := { name := "vmBack", fn := fun _ => fun
  | [d1, d2, d3, d4, d5] => { results := [.lit (.bool true)], args := [d1, d2, d3, d4, d5] }
  | _ => none }
def vmBackRow : OpenClaim := { program := "ytmdceokmpjcllaagreatdoor", sum := "2a831b7ab862aec8bb5a78944c0cd0ae393e4efe1c22063fbabef10ce7a73a25", func := "covenant/covenantlaw14.VmBack", spec := "vmBack", inPlace := ["internal/bytealg.Compare"], unfollowed := true, recurses := true, named := ["covenant/code.signs"], apart := false, laid := [("covenant/code.signs", laid_covenant_code_signs)] }
def VmBackSaid : Prop := vmBackRow.holds Tryz.pinned (OpenSpec.ofChange vmBackSpec)

/-- ITS FALSE NEIGHBOUR: 'it returns false'. Refute it at one input. -/
def vmBackWrong : ChangeSpec := { name := "vmBack", fn := fun _ => fun
  | [d1, d2, d3, d4, d5] => { results := [.lit (.bool false)], args := [d1, d2, d3, d4, d5] }
  | _ => none }
def VmBackWrongFalsely : Prop := vmBackRow.holds Tryz.pinned (OpenSpec.ofChange vmBackWrong)

/-- 'covenantlaw14.VmUnsafe': WHATEVER THE INPUT: true; the input reads as it did. -/
def vmUnsafeSpec : ChangeSpec := { name := "vmUnsafe", fn := fun _ => fun
  | [d1, d2, d3] => { results := [.lit (.bool true)], args := [d1, d2, d3] }
  | _ => none }
def vmUnsafeRow : OpenClaim := { program := "ytmdceokmpjcllaagreatdoor", sum := "2a831b7ab862aec8bb5a78944c0cd0ae393e4efe1c22063fbabef10ce7a73a25", func := "covenant/covenantlaw14.VmUnsafe", spec := "vmUnsafe", inPlace := ["internal/bytealg.Compare"], unfollowed := true, recurses := true, named := ["covenant/code.signs"], apart := false, laid := [("covenant/code.signs", laid_covenant_code_signs)] }
def VmUnsafeSaid : Prop := vmUnsafeRow.holds Tryz.pinned (OpenSpec.ofChange vmUnsafeSpec)

/-- ITS FALSE NEIGHBOUR: 'it returns false'. Refute it at one input. -/
def vmUnsafeWrong : ChangeSpec := { name := "vmUnsafe", fn := fun _ => fun
  | [d1, d2, d3] => { results := [.lit (.bool false)], args := [d1, d2, d3] }
  | _ => none }
def VmUnsafeWrongFalsely : Prop := vmUnsafeRow.holds Tryz.pinned (OpenSpec.ofChange vmUnsafeWrong)

/- THE SECOND FORM. 'bulk': how many values and letters a reading holds, each counted each time it is reached (what is shared counts as often as it is met; a slice's spare places count too). A statement '..UptoSaid' is the law's where the arguments, and the package variables that the reading takes, are together of bulk at most 1048576: NARROWER than '..Said'. Prove '..Said' where nothing that the law and all that it calls make is longer than what came in: it says more and counts as full. Else prove '..UptoSaid'. A law counts once. -/
mutual
def uptoBulk {H : Type} : DataW H → Nat
  | .lit (.string bytes) => bytes.length + 1
  | .lit _ => 1
  | .nil => 1
  | .ptr d => uptoBulk d + 1
  | .slice elems spare => uptoBulkAll elems + uptoBulkAll spare + 1
  | .agg parts => uptoBulkAll parts + 1
  | .iface _ d => uptoBulk d + 1
  | .map entries => uptoBulkEntries entries + 1
  | .held _ => 1
def uptoBulkAll {H : Type} : List (DataW H) → Nat
  | [] => 0
  | d :: r => uptoBulk d + uptoBulkAll r
def uptoBulkEntries {H : Type} : List (Lit × DataW H) → Nat
  | [] => 0
  | x :: r => uptoBulkEntry x + uptoBulkEntries r
def uptoBulkEntry {H : Type} : Lit × DataW H → Nat
  | (.string bytes, d) => bytes.length + uptoBulk d + 1
  | (_, d) => uptoBulk d + 1
 end
def uptoSmall : (H : Type) → List (DataW H) → Bool := fun _ ds => decide (uptoBulkAll ds ≤ 1048576)
def OpenSpec.upto (s : _root_.Go.ChangeSpec) : _root_.Go.OpenSpec := { _root_.Go.OpenSpec.ofChange s with cond := some uptoSmall }

/-- 'covenantlaw14.VmIdle', WHERE WHAT IT READS IS OF BULK AT MOST 1048576: true; the input reads as it did. -/
def vmIdleUptoRow : OpenClaim := { program := "ytmdceokmpjcllaagreatdoor", sum := "2a831b7ab862aec8bb5a78944c0cd0ae393e4efe1c22063fbabef10ce7a73a25", func := "covenant/covenantlaw14.VmIdle", spec := "vmIdle", inPlace := ["internal/bytealg.Compare"], unfollowed := true, recurses := true, named := ["covenant/code.signs"], apart := false, laid := [("covenant/code.signs", laid_covenant_code_signs)], narrowed := true }
def VmIdleUptoSaid : Prop := vmIdleUptoRow.holds Tryz.pinned (OpenSpec.upto vmIdleSpec)

/-- 'covenantlaw14.VmCalls', WHERE WHAT IT READS IS OF BULK AT MOST 1048576: true; the input reads as it did. -/
def vmCallsUptoRow : OpenClaim := { program := "ytmdceokmpjcllaagreatdoor", sum := "2a831b7ab862aec8bb5a78944c0cd0ae393e4efe1c22063fbabef10ce7a73a25", func := "covenant/covenantlaw14.VmCalls", spec := "vmCalls", inPlace := ["internal/bytealg.Compare"], unfollowed := true, recurses := true, named := ["covenant/code.signs"], apart := false, laid := [("covenant/code.signs", laid_covenant_code_signs)], narrowed := true }
def VmCallsUptoSaid : Prop := vmCallsUptoRow.holds Tryz.pinned (OpenSpec.upto vmCallsSpec)

/-- 'covenantlaw14.VmRuns', WHERE WHAT IT READS IS OF BULK AT MOST 1048576: true; the input reads as it did. -/
def vmRunsUptoRow : OpenClaim := { program := "ytmdceokmpjcllaagreatdoor", sum := "2a831b7ab862aec8bb5a78944c0cd0ae393e4efe1c22063fbabef10ce7a73a25", func := "covenant/covenantlaw14.VmRuns", spec := "vmRuns", inPlace := ["internal/bytealg.Compare"], unfollowed := true, recurses := true, named := ["covenant/code.signs"], apart := false, laid := [("covenant/code.signs", laid_covenant_code_signs)], narrowed := true }
def VmRunsUptoSaid : Prop := vmRunsUptoRow.holds Tryz.pinned (OpenSpec.upto vmRunsSpec)

/-- 'covenantlaw14.VmBack', WHERE WHAT IT READS IS OF BULK AT MOST 1048576: true; the input reads as it did. -/
def vmBackUptoRow : OpenClaim := { program := "ytmdceokmpjcllaagreatdoor", sum := "2a831b7ab862aec8bb5a78944c0cd0ae393e4efe1c22063fbabef10ce7a73a25", func := "covenant/covenantlaw14.VmBack", spec := "vmBack", inPlace := ["internal/bytealg.Compare"], unfollowed := true, recurses := true, named := ["covenant/code.signs"], apart := false, laid := [("covenant/code.signs", laid_covenant_code_signs)], narrowed := true }
def VmBackUptoSaid : Prop := vmBackUptoRow.holds Tryz.pinned (OpenSpec.upto vmBackSpec)

/-- 'covenantlaw14.VmUnsafe', WHERE WHAT IT READS IS OF BULK AT MOST 1048576: true; the input reads as it did. -/
def vmUnsafeUptoRow : OpenClaim := { program := "ytmdceokmpjcllaagreatdoor", sum := "2a831b7ab862aec8bb5a78944c0cd0ae393e4efe1c22063fbabef10ce7a73a25", func := "covenant/covenantlaw14.VmUnsafe", spec := "vmUnsafe", inPlace := ["internal/bytealg.Compare"], unfollowed := true, recurses := true, named := ["covenant/code.signs"], apart := false, laid := [("covenant/code.signs", laid_covenant_code_signs)], narrowed := true }
def VmUnsafeUptoSaid : Prop := vmUnsafeUptoRow.holds Tryz.pinned (OpenSpec.upto vmUnsafeSpec)

end Rows
end Go.Proofs.YtmdceokmpjcllaaGreatDoor
