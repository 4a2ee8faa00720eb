/-
  DERIVED. GIVEN WITH THE SEED: THE CARDS: each row of YtkpdknkidnfgiaaGreatDoorRows.lean that lists a variable, with what it lists TIED to the program's text (the seventh form; the later family's looks); each row that meets fmt, with fmt's text TOLD by the authors' own Lean function (tested against real Go, not proved from fmt's source: count such statements apart). THE CARD IS WHAT COUNTS. Prove the row's statement (the work); the ties are given (YtkpdknkidnfgiaaGreatDoorTie.lean); close each card by the builder's one call (the guide's Derived/Test/ToyasCard.lean, 'card_holds'). Laid BY PROGRAM, IN A SANDBOX (cutbox-door.mjs). By AI agents, Wed Nov 11 2026. No macro, syntax, notation, axiom, sorry.
-/
import Derived.Test.YtkpdknkidnfgiaaGreatDoorRows
import GoSem.ClaimSeven
namespace Go.Proofs.YtkpdknkidnfgiaaGreatDoor
namespace Rows

/-- THE TIED CARD OF 'afterglowtop.AfterglowSecret'. -/
def afterglowSecretCard : Claim7 := { stood := { row := afterglowSecretRow, standIns := [], harness := (true, "fb30053cab3892e9b6fa0d220155742b584ab49745e0ab69666d16276f991acd"), looks := true }, kinds := [], alts := [], laidByText := true, laidKinds := [.data, .data, .data, .data, .sentinel, .sentinel, .pinned], laidTests := true, laidLooks := .later }
def AfterglowSecretCardSaid : Prop := Claim7.holds Tryz.pinned (.plain (OpenSpec.ofChange afterglowSecretSpec)) afterglowSecretCard

/-- THE SECOND FORM's CARD OF 'afterglowtop.AfterglowSecret'. -/
def afterglowSecretUptoCard : Claim7 := { stood := { row := afterglowSecretUptoRow, standIns := [], harness := (true, "fb30053cab3892e9b6fa0d220155742b584ab49745e0ab69666d16276f991acd"), looks := true }, kinds := [], alts := [], laidByText := true, laidKinds := [.data, .data, .data, .data, .sentinel, .sentinel, .pinned], laidTests := true, laidLooks := .later }
def AfterglowSecretUptoCardSaid : Prop := Claim7.holds Tryz.pinned (.plain (OpenSpec.upto afterglowSecretSpec)) afterglowSecretUptoCard
end Rows
end Go.Proofs.YtkpdknkidnfgiaaGreatDoor
