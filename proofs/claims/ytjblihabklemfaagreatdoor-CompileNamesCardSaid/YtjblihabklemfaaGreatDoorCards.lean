/-
  DERIVED. GIVEN WITH THE SEED: THE CARDS: each row of YtjblihabklemfaaGreatDoorRows.lean that lists a variable, with what it lists TIED to the program's text (the seventh form; the later family's looks); each row that meets fmt, with fmt's text TOLD by the authors' own Lean function (tested against real Go, not proved from fmt's source: count such statements apart). THE CARD IS WHAT COUNTS. Prove the row's statement (the work); the ties are given (YtjblihabklemfaaGreatDoorTie.lean); close each card by the builder's one call (the guide's Derived/Test/ToyasCard.lean, 'card_holds'). Laid BY PROGRAM, IN A SANDBOX (cutbox-door.mjs). By AI agents, Wed Nov 11 2026. No macro, syntax, notation, axiom, sorry.
-/
import Derived.Test.YtjblihabklemfaaGreatDoorRows
import GoSem.ClaimSeven
namespace Go.Proofs.YtjblihabklemfaaGreatDoor
namespace Rows

/-- THE TIED CARD OF 'covenantlaw12.CompileJumps'. -/
def compileJumpsCard : Claim7 := { stood := { row := compileJumpsRow, standIns := [], harness := (true, "efc5424719c0235dd3f0e384c11d58b515182262847dc8162a222274d161cc6e"), looks := true }, kinds := [], alts := [], laidByText := true, laidKinds := [.widerDeep], laidTests := true, laidLooks := .later }
def CompileJumpsCardSaid : Prop := Claim7.holds Tryz.pinned (.plain (OpenSpec.ofChange compileJumpsSpec)) compileJumpsCard

/-- THE TIED CARD OF 'covenantlaw12.CompileNames'. -/
def compileNamesCard : Claim7 := { stood := { row := compileNamesRow, standIns := [], harness := (true, "efc5424719c0235dd3f0e384c11d58b515182262847dc8162a222274d161cc6e"), looks := true }, kinds := [], alts := [], laidByText := true, laidKinds := [.widerDeep], laidTests := true, laidLooks := .later }
def CompileNamesCardSaid : Prop := Claim7.holds Tryz.pinned (.plain (OpenSpec.ofChange compileNamesSpec)) compileNamesCard

/-- THE TIED CARD OF 'covenantlaw12.CompileGas'. -/
def compileGasCard : Claim7 := { stood := { row := compileGasRow, standIns := [], harness := (true, "efc5424719c0235dd3f0e384c11d58b515182262847dc8162a222274d161cc6e"), looks := true }, kinds := [], alts := [], laidByText := true, laidKinds := [.widerDeep], laidTests := true, laidLooks := .later }
def CompileGasCardSaid : Prop := Claim7.holds Tryz.pinned (.plain (OpenSpec.ofChange compileGasSpec)) compileGasCard

/-- THE TIED CARD OF 'covenantlaw12.CompileParts'. -/
def compilePartsCard : Claim7 := { stood := { row := compilePartsRow, standIns := [], harness := (true, "efc5424719c0235dd3f0e384c11d58b515182262847dc8162a222274d161cc6e"), looks := true }, kinds := [], alts := [], laidByText := true, laidKinds := [.widerDeep], laidTests := true, laidLooks := .later }
def CompilePartsCardSaid : Prop := Claim7.holds Tryz.pinned (.plain (OpenSpec.ofChange compilePartsSpec)) compilePartsCard

/-- THE SECOND FORM's CARD OF 'covenantlaw12.CompileJumps'. -/
def compileJumpsUptoCard : Claim7 := { stood := { row := compileJumpsUptoRow, standIns := [], harness := (true, "efc5424719c0235dd3f0e384c11d58b515182262847dc8162a222274d161cc6e"), looks := true }, kinds := [], alts := [], laidByText := true, laidKinds := [.widerDeep], laidTests := true, laidLooks := .later }
def CompileJumpsUptoCardSaid : Prop := Claim7.holds Tryz.pinned (.plain (OpenSpec.upto compileJumpsSpec)) compileJumpsUptoCard

/-- THE SECOND FORM's CARD OF 'covenantlaw12.CompileNames'. -/
def compileNamesUptoCard : Claim7 := { stood := { row := compileNamesUptoRow, standIns := [], harness := (true, "efc5424719c0235dd3f0e384c11d58b515182262847dc8162a222274d161cc6e"), looks := true }, kinds := [], alts := [], laidByText := true, laidKinds := [.widerDeep], laidTests := true, laidLooks := .later }
def CompileNamesUptoCardSaid : Prop := Claim7.holds Tryz.pinned (.plain (OpenSpec.upto compileNamesSpec)) compileNamesUptoCard

/-- THE SECOND FORM's CARD OF 'covenantlaw12.CompileGas'. -/
def compileGasUptoCard : Claim7 := { stood := { row := compileGasUptoRow, standIns := [], harness := (true, "efc5424719c0235dd3f0e384c11d58b515182262847dc8162a222274d161cc6e"), looks := true }, kinds := [], alts := [], laidByText := true, laidKinds := [.widerDeep], laidTests := true, laidLooks := .later }
def CompileGasUptoCardSaid : Prop := Claim7.holds Tryz.pinned (.plain (OpenSpec.upto compileGasSpec)) compileGasUptoCard

/-- THE SECOND FORM's CARD OF 'covenantlaw12.CompileParts'. -/
def compilePartsUptoCard : Claim7 := { stood := { row := compilePartsUptoRow, standIns := [], harness := (true, "efc5424719c0235dd3f0e384c11d58b515182262847dc8162a222274d161cc6e"), looks := true }, kinds := [], alts := [], laidByText := true, laidKinds := [.widerDeep], laidTests := true, laidLooks := .later }
def CompilePartsUptoCardSaid : Prop := Claim7.holds Tryz.pinned (.plain (OpenSpec.upto compilePartsSpec)) compilePartsUptoCard
end Rows
end Go.Proofs.YtjblihabklemfaaGreatDoor
