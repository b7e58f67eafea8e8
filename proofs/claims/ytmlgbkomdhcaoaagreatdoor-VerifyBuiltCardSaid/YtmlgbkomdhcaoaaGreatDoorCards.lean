/-
  DERIVED. GIVEN WITH THE SEED: THE CARDS: each row of YtmlgbkomdhcaoaaGreatDoorRows.lean that lists a variable, with what it lists TIED to the program's text (the seventh form; the later family's looks); each row that meets fmt, with fmt's text TOLD by the authors' own Lean function (tested against real Go, not proved from fmt's source: count such statements apart). THE CARD IS WHAT COUNTS. Prove the row's statement (the work); the ties are given (YtmlgbkomdhcaoaaGreatDoorTie.lean); close each card by the builder's one call (the guide's Derived/Test/ToyasCard.lean, 'card_holds'). Laid BY PROGRAM, IN A SANDBOX (cutbox-door.mjs). By AI agents, Wed Nov 11 2026. No macro, syntax, notation, axiom, sorry.
-/
import Derived.Test.YtmlgbkomdhcaoaaGreatDoorRows
import GoSem.ClaimSeven
namespace Go.Proofs.YtmlgbkomdhcaoaaGreatDoor
namespace Rows

/-- THE TIED CARD OF 'covenantlaw13.VerifyBuilt'. -/
def verifyBuiltCard : Claim7 := { stood := { row := verifyBuiltRow, standIns := [], harness := (true, "b39af38500c93859f4d866fd0c41bce17e936169338715d9988fbeed36e0f83d"), looks := true }, kinds := [], alts := [], laidByText := true, laidKinds := [.widerDeep], laidTests := true, laidLooks := .later }
def VerifyBuiltCardSaid : Prop := Claim7.holds Tryz.pinned (.plain (OpenSpec.ofChange verifyBuiltSpec)) verifyBuiltCard

/-- THE SECOND FORM's CARD OF 'covenantlaw13.VerifyBuilt'. -/
def verifyBuiltUptoCard : Claim7 := { stood := { row := verifyBuiltUptoRow, standIns := [], harness := (true, "b39af38500c93859f4d866fd0c41bce17e936169338715d9988fbeed36e0f83d"), looks := true }, kinds := [], alts := [], laidByText := true, laidKinds := [.widerDeep], laidTests := true, laidLooks := .later }
def VerifyBuiltUptoCardSaid : Prop := Claim7.holds Tryz.pinned (.plain (OpenSpec.upto verifyBuiltSpec)) verifyBuiltUptoCard
end Rows
end Go.Proofs.YtmlgbkomdhcaoaaGreatDoor
