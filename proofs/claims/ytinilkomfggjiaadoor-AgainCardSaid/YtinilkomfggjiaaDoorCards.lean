/-
  DERIVED. GIVEN WITH THE SEED: THE CARDS: each row of YtinilkomfggjiaaDoorRows.lean that lists a variable, with what it lists TIED to the program's text (the seventh form; the later family's looks); each row that meets fmt, with fmt's text TOLD by the authors' own Lean function (tested against real Go, not proved from fmt's source: count such statements apart). THE CARD IS WHAT COUNTS. Prove the row's statement (the work); the ties are given (YtinilkomfggjiaaDoorTie.lean); close each card by the builder's one call (the guide's Derived/Test/ToyasCard.lean, 'card_holds'). Laid BY PROGRAM, IN A SANDBOX (cutbox-door.mjs). By AI agents, Wed Nov 11 2026. No macro, syntax, notation, axiom, sorry.
-/
import Derived.Test.YtinilkomfggjiaaDoorRows
import GoSem.ClaimSeven
namespace Go.Proofs.YtinilkomfggjiaaDoor
namespace Rows

/-- THE TIED CARD OF 'effectuslaw2.Prints'. -/
def printsCard : Claim7 := { stood := { row := printsRow, standIns := [], harness := (true, "d6e532dc340b551560eca9c99b6a3c101899f3b0115641bc9f2aedfd5971baae"), looks := true }, kinds := [], alts := [], laidByText := true, laidKinds := [.data, .data, .data], laidTests := true, laidLooks := .later }
def PrintsCardSaid : Prop := Claim7.holds Tryd.pinned (.plain (OpenSpec.ofChange printsSpec)) printsCard

/-- THE TIED CARD OF 'effectuslaw2.Again'. -/
def againCard : Claim7 := { stood := { row := againRow, standIns := [], harness := (true, "d6e532dc340b551560eca9c99b6a3c101899f3b0115641bc9f2aedfd5971baae"), looks := true }, kinds := [], alts := [], laidByText := true, laidKinds := [.data, .data, .data], laidTests := true, laidLooks := .later }
def AgainCardSaid : Prop := Claim7.holds Tryd.pinned (.plain (OpenSpec.ofChange againSpec)) againCard

/-- THE SECOND FORM's CARD OF 'effectuslaw2.Prints'. -/
def printsUptoCard : Claim7 := { stood := { row := printsUptoRow, standIns := [], harness := (true, "d6e532dc340b551560eca9c99b6a3c101899f3b0115641bc9f2aedfd5971baae"), looks := true }, kinds := [], alts := [], laidByText := true, laidKinds := [.data, .data, .data], laidTests := true, laidLooks := .later }
def PrintsUptoCardSaid : Prop := Claim7.holds Tryd.pinned (.plain (OpenSpec.upto printsSpec)) printsUptoCard

/-- THE SECOND FORM's CARD OF 'effectuslaw2.Again'. -/
def againUptoCard : Claim7 := { stood := { row := againUptoRow, standIns := [], harness := (true, "d6e532dc340b551560eca9c99b6a3c101899f3b0115641bc9f2aedfd5971baae"), looks := true }, kinds := [], alts := [], laidByText := true, laidKinds := [.data, .data, .data], laidTests := true, laidLooks := .later }
def AgainUptoCardSaid : Prop := Claim7.holds Tryd.pinned (.plain (OpenSpec.upto againSpec)) againUptoCard
end Rows
end Go.Proofs.YtinilkomfggjiaaDoor
