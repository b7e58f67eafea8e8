/-
  NARROWER THAN 'FOR EVERY INPUT', by the rows' own cells (each row's printed sentence says how): EvalRuns: loops.
  DERIVED. THE GIVEN ROWS OF THIS SEAT. 7 by the template 'for every input the law returns true; each argument reads behind the call as it read before'; 0 by the template 'total and deterministic' (their statements: YthgcpfkochikfaaGreatTotals.lean).
  GIVEN WITH THE SEED: the statements are not yours to turn. If you find one false, say at which input.
  Laid BY PROGRAM, IN A SANDBOX (cutbox-rows.mjs): the forced cells as the released guide's own fill.sh prints them over the translation 4c40393334e1804f… (all of the seat's roots in one cut). By AI agents, Wed Nov 11 2026. No macro, syntax, notation, axiom, sorry.
-/
import Derived.Test.YthgcpfkochikfaaGreatChecked
import GoSem.Claim
import GoSem.ClaimJoined
import GoSem.ClaimMapViews
import Derived.JoinedTies
import Derived.KernelRfl
namespace Go.Proofs.YthgcpfkochikfaaGreat
/- THE CELL 'sum', in the pinned program and in every row, IS THE sha256 OF THE DUMP (.gsa) THAT YthgcpfkochikfaaGreatProg.lean LOADS. Nothing in Lean hashes anything: it is a label: what it is worth is what the hold of that sum in a sandbox is worth. -/
noncomputable def Tryz.pinned : Pinned := { name := "ythgcpfkochikfaagreat", sum := "4c40393334e1804ff67e043ff773edad698d468412f8c819797450b8a677f958", checked := Tryz.checked }
namespace Rows
def none {H : Type} : Left H := { results := [], args := [] }

/-- 'covenantlaw10.EvalLoops': WHATEVER THE INPUT: true; the input reads as it did. -/
def evalLoopsSpec : ChangeSpec := { name := "evalLoops", fn := fun _ => fun
  | [d1, d2] => { results := [.lit (.bool true)], args := [d1, d2] }
  | _ => none }
def evalLoopsRow : OpenClaim := { program := "ythgcpfkochikfaagreat", sum := "4c40393334e1804ff67e043ff773edad698d468412f8c819797450b8a677f958", func := "covenant/covenantlaw10.EvalLoops", spec := "evalLoops", inPlace := ["internal/bytealg.IndexByteString", "maps.clone", "internal/bytealg.Compare"], unfollowed := true, recurses := true, apart := false }
def EvalLoopsSaid : Prop := evalLoopsRow.holds Tryz.pinned (OpenSpec.ofChange evalLoopsSpec)

/-- ITS FALSE NEIGHBOUR: 'it returns false'. Refute it at one input. -/
def evalLoopsWrong : ChangeSpec := { name := "evalLoops", fn := fun _ => fun
  | [d1, d2] => { results := [.lit (.bool false)], args := [d1, d2] }
  | _ => none }
def EvalLoopsWrongFalsely : Prop := evalLoopsRow.holds Tryz.pinned (OpenSpec.ofChange evalLoopsWrong)

/-- 'covenantlaw10.EvalDeep': WHATEVER THE INPUT: true; the input reads as it did. -/
def evalDeepSpec : ChangeSpec := { name := "evalDeep", fn := fun _ => fun
  | [d] => { results := [.lit (.bool true)], args := [d] }
  | _ => none }
def evalDeepRow : OpenClaim := { program := "ythgcpfkochikfaagreat", sum := "4c40393334e1804ff67e043ff773edad698d468412f8c819797450b8a677f958", func := "covenant/covenantlaw10.EvalDeep", spec := "evalDeep", inPlace := ["internal/bytealg.IndexByteString", "maps.clone", "internal/bytealg.Compare"], unfollowed := true, recurses := true, apart := false }
def EvalDeepSaid : Prop := evalDeepRow.holds Tryz.pinned (OpenSpec.ofChange evalDeepSpec)

/-- ITS FALSE NEIGHBOUR: 'it returns false'. Refute it at one input. -/
def evalDeepWrong : ChangeSpec := { name := "evalDeep", fn := fun _ => fun
  | [d] => { results := [.lit (.bool false)], args := [d] }
  | _ => none }
def EvalDeepWrongFalsely : Prop := evalDeepRow.holds Tryz.pinned (OpenSpec.ofChange evalDeepWrong)

/-- 'covenantlaw10.EvalSigns': WHATEVER THE INPUT: true; the input reads as it did. -/
def evalSignsSpec : ChangeSpec := { name := "evalSigns", fn := fun _ => fun
  | [d1, d2, d3] => { results := [.lit (.bool true)], args := [d1, d2, d3] }
  | _ => none }
def evalSignsRow : OpenClaim := { program := "ythgcpfkochikfaagreat", sum := "4c40393334e1804ff67e043ff773edad698d468412f8c819797450b8a677f958", func := "covenant/covenantlaw10.EvalSigns", spec := "evalSigns", inPlace := ["internal/bytealg.IndexByteString", "maps.clone", "internal/bytealg.Compare"], unfollowed := true, recurses := true, apart := false }
def EvalSignsSaid : Prop := evalSignsRow.holds Tryz.pinned (OpenSpec.ofChange evalSignsSpec)

/-- ITS FALSE NEIGHBOUR: 'it returns false'. Refute it at one input. -/
def evalSignsWrong : ChangeSpec := { name := "evalSigns", fn := fun _ => fun
  | [d1, d2, d3] => { results := [.lit (.bool false)], args := [d1, d2, d3] }
  | _ => none }
def EvalSignsWrongFalsely : Prop := evalSignsRow.holds Tryz.pinned (OpenSpec.ofChange evalSignsWrong)

/-- 'covenantlaw10.EvalRuns': WHATEVER THE INPUT: true; the input reads as it did. -/
def evalRunsSpec : ChangeSpec := { name := "evalRuns", fn := fun _ => fun
  | [d1, d2, d3, d4, d5] => { results := [.lit (.bool true)], args := [d1, d2, d3, d4, d5] }
  | _ => none }
def evalRunsRow : OpenClaim := { program := "ythgcpfkochikfaagreat", sum := "4c40393334e1804ff67e043ff773edad698d468412f8c819797450b8a677f958", func := "covenant/covenantlaw10.EvalRuns", spec := "evalRuns", inPlace := ["internal/bytealg.IndexByteString", "maps.clone", "internal/bytealg.Compare"], unfollowed := true, recurses := true, loops := true, apart := false }
def EvalRunsSaid : Prop := evalRunsRow.holds Tryz.pinned (OpenSpec.ofChange evalRunsSpec)

/-- ITS FALSE NEIGHBOUR: 'it returns false'. Refute it at one input. -/
def evalRunsWrong : ChangeSpec := { name := "evalRuns", fn := fun _ => fun
  | [d1, d2, d3, d4, d5] => { results := [.lit (.bool false)], args := [d1, d2, d3, d4, d5] }
  | _ => none }
def EvalRunsWrongFalsely : Prop := evalRunsRow.holds Tryz.pinned (OpenSpec.ofChange evalRunsWrong)

/-- 'covenantlaw10.EvalBack': WHATEVER THE INPUT: true; the input reads as it did. -/
def evalBackSpec : ChangeSpec := { name := "evalBack", fn := fun _ => fun
  | [d1, d2, d3, d4, d5] => { results := [.lit (.bool true)], args := [d1, d2, d3, d4, d5] }
  | _ => none }
def evalBackRow : OpenClaim := { program := "ythgcpfkochikfaagreat", sum := "4c40393334e1804ff67e043ff773edad698d468412f8c819797450b8a677f958", func := "covenant/covenantlaw10.EvalBack", spec := "evalBack", inPlace := ["internal/bytealg.IndexByteString", "maps.clone", "internal/bytealg.Compare"], unfollowed := true, recurses := true, apart := false }
def EvalBackSaid : Prop := evalBackRow.holds Tryz.pinned (OpenSpec.ofChange evalBackSpec)

/-- ITS FALSE NEIGHBOUR: 'it returns false'. Refute it at one input. -/
def evalBackWrong : ChangeSpec := { name := "evalBack", fn := fun _ => fun
  | [d1, d2, d3, d4, d5] => { results := [.lit (.bool false)], args := [d1, d2, d3, d4, d5] }
  | _ => none }
def EvalBackWrongFalsely : Prop := evalBackRow.holds Tryz.pinned (OpenSpec.ofChange evalBackWrong)

/-- 'covenantlaw10.EvalGas': WHATEVER THE INPUT: true; the input reads as it did. -/
def evalGasSpec : ChangeSpec := { name := "evalGas", fn := fun _ => fun
  | [d1, d2, d3, d4, d5, d6] => { results := [.lit (.bool true)], args := [d1, d2, d3, d4, d5, d6] }
  | _ => none }
def evalGasRow : OpenClaim := { program := "ythgcpfkochikfaagreat", sum := "4c40393334e1804ff67e043ff773edad698d468412f8c819797450b8a677f958", func := "covenant/covenantlaw10.EvalGas", spec := "evalGas", inPlace := ["internal/bytealg.IndexByteString", "maps.clone", "internal/bytealg.Compare"], unfollowed := true, recurses := true, apart := false }
def EvalGasSaid : Prop := evalGasRow.holds Tryz.pinned (OpenSpec.ofChange evalGasSpec)

/-- ITS FALSE NEIGHBOUR: 'it returns false'. Refute it at one input. -/
def evalGasWrong : ChangeSpec := { name := "evalGas", fn := fun _ => fun
  | [d1, d2, d3, d4, d5, d6] => { results := [.lit (.bool false)], args := [d1, d2, d3, d4, d5, d6] }
  | _ => none }
def EvalGasWrongFalsely : Prop := evalGasRow.holds Tryz.pinned (OpenSpec.ofChange evalGasWrong)

/-- 'covenantlaw10.EvalKeeps': WHATEVER THE INPUT: true; the input reads as it did. -/
def evalKeepsSpec : ChangeSpec := { name := "evalKeeps", fn := fun _ => fun
  | [d1, d2] => { results := [.lit (.bool true)], args := [d1, d2] }
  | _ => none }
def evalKeepsRow : OpenClaim := { program := "ythgcpfkochikfaagreat", sum := "4c40393334e1804ff67e043ff773edad698d468412f8c819797450b8a677f958", func := "covenant/covenantlaw10.EvalKeeps", spec := "evalKeeps", inPlace := ["internal/bytealg.IndexByteString", "maps.clone", "internal/bytealg.Compare"], unfollowed := true, recurses := true, apart := false }
def EvalKeepsSaid : Prop := evalKeepsRow.holds Tryz.pinned (OpenSpec.ofChange evalKeepsSpec)

/-- ITS FALSE NEIGHBOUR: 'it returns false'. Refute it at one input. -/
def evalKeepsWrong : ChangeSpec := { name := "evalKeeps", fn := fun _ => fun
  | [d1, d2] => { results := [.lit (.bool false)], args := [d1, d2] }
  | _ => none }
def EvalKeepsWrongFalsely : Prop := evalKeepsRow.holds Tryz.pinned (OpenSpec.ofChange evalKeepsWrong)

/- THE SECOND FORM. 'bulk': how many values and letters a reading holds, each counted each time it is reached (what is shared counts as often as it is met; a slice's spare places count too). A statement '..UptoSaid' is the law's where the arguments, and the package variables that the reading takes, are together of bulk at most 1048576: NARROWER than '..Said'. Prove '..Said' where nothing that the law and all that it calls make is longer than what came in: it says more and counts as full. Else prove '..UptoSaid'. A law counts once. -/
mutual
def uptoBulk {H : Type} : DataW H → Nat
  | .lit (.string bytes) => bytes.length + 1
  | .lit _ => 1
  | .nil => 1
  | .ptr d => uptoBulk d + 1
  | .slice elems spare => uptoBulkAll elems + uptoBulkAll spare + 1
  | .agg parts => uptoBulkAll parts + 1
  | .iface _ d => uptoBulk d + 1
  | .map entries => uptoBulkEntries entries + 1
  | .held _ => 1
def uptoBulkAll {H : Type} : List (DataW H) → Nat
  | [] => 0
  | d :: r => uptoBulk d + uptoBulkAll r
def uptoBulkEntries {H : Type} : List (Lit × DataW H) → Nat
  | [] => 0
  | x :: r => uptoBulkEntry x + uptoBulkEntries r
def uptoBulkEntry {H : Type} : Lit × DataW H → Nat
  | (.string bytes, d) => bytes.length + uptoBulk d + 1
  | (_, d) => uptoBulk d + 1
 end
def uptoSmall : (H : Type) → List (DataW H) → Bool := fun _ ds => decide (uptoBulkAll ds ≤ 1048576)
def OpenSpec.upto (s : _root_.Go.ChangeSpec) : _root_.Go.OpenSpec := { _root_.Go.OpenSpec.ofChange s with cond := some uptoSmall }

/-- 'covenantlaw10.EvalLoops', WHERE WHAT IT READS IS OF BULK AT MOST 1048576: true; the input reads as it did. -/
def evalLoopsUptoRow : OpenClaim := { program := "ythgcpfkochikfaagreat", sum := "4c40393334e1804ff67e043ff773edad698d468412f8c819797450b8a677f958", func := "covenant/covenantlaw10.EvalLoops", spec := "evalLoops", inPlace := ["internal/bytealg.IndexByteString", "maps.clone", "internal/bytealg.Compare"], unfollowed := true, recurses := true, apart := false, narrowed := true }
def EvalLoopsUptoSaid : Prop := evalLoopsUptoRow.holds Tryz.pinned (OpenSpec.upto evalLoopsSpec)

/-- 'covenantlaw10.EvalDeep', WHERE WHAT IT READS IS OF BULK AT MOST 1048576: true; the input reads as it did. -/
def evalDeepUptoRow : OpenClaim := { program := "ythgcpfkochikfaagreat", sum := "4c40393334e1804ff67e043ff773edad698d468412f8c819797450b8a677f958", func := "covenant/covenantlaw10.EvalDeep", spec := "evalDeep", inPlace := ["internal/bytealg.IndexByteString", "maps.clone", "internal/bytealg.Compare"], unfollowed := true, recurses := true, apart := false, narrowed := true }
def EvalDeepUptoSaid : Prop := evalDeepUptoRow.holds Tryz.pinned (OpenSpec.upto evalDeepSpec)

/-- 'covenantlaw10.EvalSigns', WHERE WHAT IT READS IS OF BULK AT MOST 1048576: true; the input reads as it did. -/
def evalSignsUptoRow : OpenClaim := { program := "ythgcpfkochikfaagreat", sum := "4c40393334e1804ff67e043ff773edad698d468412f8c819797450b8a677f958", func := "covenant/covenantlaw10.EvalSigns", spec := "evalSigns", inPlace := ["internal/bytealg.IndexByteString", "maps.clone", "internal/bytealg.Compare"], unfollowed := true, recurses := true, apart := false, narrowed := true }
def EvalSignsUptoSaid : Prop := evalSignsUptoRow.holds Tryz.pinned (OpenSpec.upto evalSignsSpec)

/-- 'covenantlaw10.EvalRuns', WHERE WHAT IT READS IS OF BULK AT MOST 1048576: true; the input reads as it did. -/
def evalRunsUptoRow : OpenClaim := { program := "ythgcpfkochikfaagreat", sum := "4c40393334e1804ff67e043ff773edad698d468412f8c819797450b8a677f958", func := "covenant/covenantlaw10.EvalRuns", spec := "evalRuns", inPlace := ["internal/bytealg.IndexByteString", "maps.clone", "internal/bytealg.Compare"], unfollowed := true, recurses := true, loops := true, apart := false, narrowed := true }
def EvalRunsUptoSaid : Prop := evalRunsUptoRow.holds Tryz.pinned (OpenSpec.upto evalRunsSpec)

/-- 'covenantlaw10.EvalBack', WHERE WHAT IT READS IS OF BULK AT MOST 1048576: true; the input reads as it did. -/
def evalBackUptoRow : OpenClaim := { program := "ythgcpfkochikfaagreat", sum := "4c40393334e1804ff67e043ff773edad698d468412f8c819797450b8a677f958", func := "covenant/covenantlaw10.EvalBack", spec := "evalBack", inPlace := ["internal/bytealg.IndexByteString", "maps.clone", "internal/bytealg.Compare"], unfollowed := true, recurses := true, apart := false, narrowed := true }
def EvalBackUptoSaid : Prop := evalBackUptoRow.holds Tryz.pinned (OpenSpec.upto evalBackSpec)

/-- 'covenantlaw10.EvalGas', WHERE WHAT IT READS IS OF BULK AT MOST 1048576: true; the input reads as it did. -/
def evalGasUptoRow : OpenClaim := { program := "ythgcpfkochikfaagreat", sum := "4c40393334e1804ff67e043ff773edad698d468412f8c819797450b8a677f958", func := "covenant/covenantlaw10.EvalGas", spec := "evalGas", inPlace := ["internal/bytealg.IndexByteString", "maps.clone", "internal/bytealg.Compare"], unfollowed := true, recurses := true, apart := false, narrowed := true }
def EvalGasUptoSaid : Prop := evalGasUptoRow.holds Tryz.pinned (OpenSpec.upto evalGasSpec)

/-- 'covenantlaw10.EvalKeeps', WHERE WHAT IT READS IS OF BULK AT MOST 1048576: true; the input reads as it did. -/
def evalKeepsUptoRow : OpenClaim := { program := "ythgcpfkochikfaagreat", sum := "4c40393334e1804ff67e043ff773edad698d468412f8c819797450b8a677f958", func := "covenant/covenantlaw10.EvalKeeps", spec := "evalKeeps", inPlace := ["internal/bytealg.IndexByteString", "maps.clone", "internal/bytealg.Compare"], unfollowed := true, recurses := true, apart := false, narrowed := true }
def EvalKeepsUptoSaid : Prop := evalKeepsUptoRow.holds Tryz.pinned (OpenSpec.upto evalKeepsSpec)

end Rows
end Go.Proofs.YthgcpfkochikfaaGreat
