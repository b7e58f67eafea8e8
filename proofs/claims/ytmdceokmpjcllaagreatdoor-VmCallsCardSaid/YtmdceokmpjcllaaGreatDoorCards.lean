/-
  DERIVED. GIVEN WITH THE SEED: THE CARDS: each row of YtmdceokmpjcllaaGreatDoorRows.lean that lists a variable, with what it lists TIED to the program's text (the seventh form; the later family's looks); each row that meets fmt, with fmt's text TOLD by the authors' own Lean function (tested against real Go, not proved from fmt's source: count such statements apart). THE CARD IS WHAT COUNTS. Prove the row's statement (the work); the ties are given (YtmdceokmpjcllaaGreatDoorTie.lean); close each card by the builder's one call (the guide's Derived/Test/ToyasCard.lean, 'card_holds'). Laid BY PROGRAM, IN A SANDBOX (cutbox-door.mjs). By AI agents, Wed Nov 11 2026. No macro, syntax, notation, axiom, sorry.
-/
import Derived.Test.YtmdceokmpjcllaaGreatDoorRows
import GoSem.ClaimSeven
namespace Go.Proofs.YtmdceokmpjcllaaGreatDoor
namespace Rows

/-- THE TIED CARD OF 'covenantlaw14.VmIdle'. -/
def vmIdleCard : Claim7 := { stood := { row := vmIdleRow, standIns := [], harness := (true, "fa7b319f3c103717bda89ea8d116e904bc47c76362166edde3a25e0334f93411"), looks := false }, kinds := [], alts := [], laidByText := true, laidKinds := [.widerDeep], laidTests := true, laidLooks := .later }
def VmIdleCardSaid : Prop := Claim7.holds Tryz.pinned (.plain (OpenSpec.ofChange vmIdleSpec)) vmIdleCard

/-- THE TIED CARD OF 'covenantlaw14.VmCalls'. -/
def vmCallsCard : Claim7 := { stood := { row := vmCallsRow, standIns := [], harness := (true, "fa7b319f3c103717bda89ea8d116e904bc47c76362166edde3a25e0334f93411"), looks := false }, kinds := [], alts := [], laidByText := true, laidKinds := [.widerDeep], laidTests := true, laidLooks := .later }
def VmCallsCardSaid : Prop := Claim7.holds Tryz.pinned (.plain (OpenSpec.ofChange vmCallsSpec)) vmCallsCard

/-- THE TIED CARD OF 'covenantlaw14.VmRuns'. -/
def vmRunsCard : Claim7 := { stood := { row := vmRunsRow, standIns := [], harness := (true, "fa7b319f3c103717bda89ea8d116e904bc47c76362166edde3a25e0334f93411"), looks := false }, kinds := [], alts := [], laidByText := true, laidKinds := [.widerDeep], laidTests := true, laidLooks := .later }
def VmRunsCardSaid : Prop := Claim7.holds Tryz.pinned (.plain (OpenSpec.ofChange vmRunsSpec)) vmRunsCard

/-- THE TIED CARD OF 'covenantlaw14.VmBack'. -/
def vmBackCard : Claim7 := { stood := { row := vmBackRow, standIns := [], harness := (true, "fa7b319f3c103717bda89ea8d116e904bc47c76362166edde3a25e0334f93411"), looks := false }, kinds := [], alts := [], laidByText := true, laidKinds := [.widerDeep], laidTests := true, laidLooks := .later }
def VmBackCardSaid : Prop := Claim7.holds Tryz.pinned (.plain (OpenSpec.ofChange vmBackSpec)) vmBackCard

/-- THE TIED CARD OF 'covenantlaw14.VmUnsafe'. -/
def vmUnsafeCard : Claim7 := { stood := { row := vmUnsafeRow, standIns := [], harness := (true, "fa7b319f3c103717bda89ea8d116e904bc47c76362166edde3a25e0334f93411"), looks := false }, kinds := [], alts := [], laidByText := true, laidKinds := [.widerDeep], laidTests := true, laidLooks := .later }
def VmUnsafeCardSaid : Prop := Claim7.holds Tryz.pinned (.plain (OpenSpec.ofChange vmUnsafeSpec)) vmUnsafeCard

/-- THE SECOND FORM's CARD OF 'covenantlaw14.VmIdle'. -/
def vmIdleUptoCard : Claim7 := { stood := { row := vmIdleUptoRow, standIns := [], harness := (true, "fa7b319f3c103717bda89ea8d116e904bc47c76362166edde3a25e0334f93411"), looks := false }, kinds := [], alts := [], laidByText := true, laidKinds := [.widerDeep], laidTests := true, laidLooks := .later }
def VmIdleUptoCardSaid : Prop := Claim7.holds Tryz.pinned (.plain (OpenSpec.upto vmIdleSpec)) vmIdleUptoCard

/-- THE SECOND FORM's CARD OF 'covenantlaw14.VmCalls'. -/
def vmCallsUptoCard : Claim7 := { stood := { row := vmCallsUptoRow, standIns := [], harness := (true, "fa7b319f3c103717bda89ea8d116e904bc47c76362166edde3a25e0334f93411"), looks := false }, kinds := [], alts := [], laidByText := true, laidKinds := [.widerDeep], laidTests := true, laidLooks := .later }
def VmCallsUptoCardSaid : Prop := Claim7.holds Tryz.pinned (.plain (OpenSpec.upto vmCallsSpec)) vmCallsUptoCard

/-- THE SECOND FORM's CARD OF 'covenantlaw14.VmRuns'. -/
def vmRunsUptoCard : Claim7 := { stood := { row := vmRunsUptoRow, standIns := [], harness := (true, "fa7b319f3c103717bda89ea8d116e904bc47c76362166edde3a25e0334f93411"), looks := false }, kinds := [], alts := [], laidByText := true, laidKinds := [.widerDeep], laidTests := true, laidLooks := .later }
def VmRunsUptoCardSaid : Prop := Claim7.holds Tryz.pinned (.plain (OpenSpec.upto vmRunsSpec)) vmRunsUptoCard

/-- THE SECOND FORM's CARD OF 'covenantlaw14.VmBack'. -/
def vmBackUptoCard : Claim7 := { stood := { row := vmBackUptoRow, standIns := [], harness := (true, "fa7b319f3c103717bda89ea8d116e904bc47c76362166edde3a25e0334f93411"), looks := false }, kinds := [], alts := [], laidByText := true, laidKinds := [.widerDeep], laidTests := true, laidLooks := .later }
def VmBackUptoCardSaid : Prop := Claim7.holds Tryz.pinned (.plain (OpenSpec.upto vmBackSpec)) vmBackUptoCard

/-- THE SECOND FORM's CARD OF 'covenantlaw14.VmUnsafe'. -/
def vmUnsafeUptoCard : Claim7 := { stood := { row := vmUnsafeUptoRow, standIns := [], harness := (true, "fa7b319f3c103717bda89ea8d116e904bc47c76362166edde3a25e0334f93411"), looks := false }, kinds := [], alts := [], laidByText := true, laidKinds := [.widerDeep], laidTests := true, laidLooks := .later }
def VmUnsafeUptoCardSaid : Prop := Claim7.holds Tryz.pinned (.plain (OpenSpec.upto vmUnsafeSpec)) vmUnsafeUptoCard
end Rows
end Go.Proofs.YtmdceokmpjcllaaGreatDoor
