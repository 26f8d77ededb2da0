/-
  DERIVED. GIVEN WITH THE SEED: THE CARDS: each row of YtmlmppdffeacdaaDoorRows.lean that lists a variable, with what it lists TIED to the program's text (the seventh form; the later family's looks); each row that meets fmt, with fmt's text TOLD by the authors' own Lean function (tested against real Go, not proved from fmt's source: count such statements apart). THE CARD IS WHAT COUNTS. Prove the row's statement (the work); the ties are given (YtmlmppdffeacdaaDoorTie.lean); close each card by the builder's one call (the guide's Derived/Test/ToyasCard.lean, 'card_holds'). Laid BY PROGRAM, IN A SANDBOX (cutbox-door.mjs). By AI agents, Wed Nov 11 2026. No macro, syntax, notation, axiom, sorry.
-/
import Derived.Test.YtmlmppdffeacdaaDoorRows
import GoSem.ClaimSeven
namespace Go.Proofs.YtmlmppdffeacdaaDoor
namespace Rows

/-- THE TIED CARD OF 'effectuslaw3.Shows'. -/
def showsCard : Claim7 := { stood := { row := showsRow, standIns := [], harness := (true, "cecdfa5a2ccce653d8a965aefb2a2e3d42ade581f0f74fb8c140cf2b445a9cbc"), looks := false }, kinds := [], alts := [], laidByText := true, laidKinds := [.data, .data, .data], laidTests := true, laidLooks := .later }
def ShowsCardSaid : Prop := Claim7.holds Tryd.pinned (.plain (OpenSpec.ofChange showsSpec)) showsCard

/-- THE SECOND FORM's CARD OF 'effectuslaw3.Shows'. -/
def showsUptoCard : Claim7 := { stood := { row := showsUptoRow, standIns := [], harness := (true, "cecdfa5a2ccce653d8a965aefb2a2e3d42ade581f0f74fb8c140cf2b445a9cbc"), looks := false }, kinds := [], alts := [], laidByText := true, laidKinds := [.data, .data, .data], laidTests := true, laidLooks := .later }
def ShowsUptoCardSaid : Prop := Claim7.holds Tryd.pinned (.plain (OpenSpec.upto showsSpec)) showsUptoCard
end Rows
end Go.Proofs.YtmlmppdffeacdaaDoor
