/-
  DERIVED. GIVEN WITH THE SEED: THE CARDS: each row of YtnohihhjjpabjaaDoorRows.lean that lists a variable, with what it lists TIED to the program's text (the seventh form; the later family's looks); each row that meets fmt, with fmt's text TOLD by the authors' own Lean function (tested against real Go, not proved from fmt's source: count such statements apart). THE CARD IS WHAT COUNTS. Prove the row's statement (the work); the ties are given (YtnohihhjjpabjaaDoorTie.lean); close each card by the builder's one call (the guide's Derived/Test/ToyasCard.lean, 'card_holds'). Laid BY PROGRAM, IN A SANDBOX (cutbox-door.mjs). By AI agents, Wed Nov 11 2026. No macro, syntax, notation, axiom, sorry.
-/
import Derived.Test.YtnohihhjjpabjaaDoorRows
import GoSem.ClaimSeven
namespace Go.Proofs.YtnohihhjjpabjaaDoor
namespace Rows

/-- THE TIED CARD OF 'truchmanlaw09.CleanPlain'. -/
def cleanPlainCard : Claim7 := { stood := { row := cleanPlainRow, standIns := [], harness := (true, "af0d9e9739ad813b5b5aa0d9fbfc7eebebe5e96d3588210a76537844cad28f1f"), looks := false }, kinds := [], alts := [], laidByText := true, laidKinds := [.data, .sentinel, .sentinel, .pinned], laidTests := true, laidLooks := .later }
def CleanPlainCardSaid : Prop := Claim7.holds Tryd.pinned (.plain (OpenSpec.ofChange cleanPlainSpec)) cleanPlainCard

/-- THE SECOND FORM's CARD OF 'truchmanlaw09.CleanPlain'. -/
def cleanPlainUptoCard : Claim7 := { stood := { row := cleanPlainUptoRow, standIns := [], harness := (true, "af0d9e9739ad813b5b5aa0d9fbfc7eebebe5e96d3588210a76537844cad28f1f"), looks := false }, kinds := [], alts := [], laidByText := true, laidKinds := [.data, .sentinel, .sentinel, .pinned], laidTests := true, laidLooks := .later }
def CleanPlainUptoCardSaid : Prop := Claim7.holds Tryd.pinned (.plain (OpenSpec.upto cleanPlainSpec)) cleanPlainUptoCard
end Rows
end Go.Proofs.YtnohihhjjpabjaaDoor
