/-
  DERIVED. GIVEN WITH THE SEED: THE CARDS: each row of YtboggehfnokmfaaDoorRows.lean that lists a variable, with what it lists TIED to the program's text (the seventh form; the later family's looks); each row that meets fmt, with fmt's text TOLD by the authors' own Lean function (tested against real Go, not proved from fmt's source: count such statements apart). THE CARD IS WHAT COUNTS. Prove the row's statement (the work); the ties are given (YtboggehfnokmfaaDoorTie.lean); close each card by the builder's one call (the guide's Derived/Test/ToyasCard.lean, 'card_holds'). Laid BY PROGRAM, IN A SANDBOX (cutbox-door.mjs). By AI agents, Wed Nov 11 2026. No macro, syntax, notation, axiom, sorry.
-/
import Derived.Test.YtboggehfnokmfaaDoorRows
import GoSem.ClaimSeven
namespace Go.Proofs.YtboggehfnokmfaaDoor
namespace Rows

/-- THE TIED CARD OF 'truchmanlaw06.EmitBack'. -/
def emitBackCard : Claim7 := { stood := { row := emitBackRow, standIns := [], harness := (true, "14d6e64bc75952e2d1915e6be3e7d7b5a348157abf308df049438b579720f4bf"), looks := false }, kinds := [], alts := [], laidByText := true, laidKinds := [.data, .sentinel, .sentinel, .sentinel, .pinned], laidTests := true, laidLooks := .later }
def EmitBackCardSaid : Prop := Claim7.holds Tryd.pinned (.plain (OpenSpec.ofChange emitBackSpec)) emitBackCard

/-- THE SECOND FORM's CARD OF 'truchmanlaw06.EmitBack'. -/
def emitBackUptoCard : Claim7 := { stood := { row := emitBackUptoRow, standIns := [], harness := (true, "14d6e64bc75952e2d1915e6be3e7d7b5a348157abf308df049438b579720f4bf"), looks := false }, kinds := [], alts := [], laidByText := true, laidKinds := [.data, .sentinel, .sentinel, .sentinel, .pinned], laidTests := true, laidLooks := .later }
def EmitBackUptoCardSaid : Prop := Claim7.holds Tryd.pinned (.plain (OpenSpec.upto emitBackSpec)) emitBackUptoCard
end Rows
end Go.Proofs.YtboggehfnokmfaaDoor
