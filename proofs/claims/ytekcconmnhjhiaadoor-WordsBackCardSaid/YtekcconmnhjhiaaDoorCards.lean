/-
  DERIVED. GIVEN WITH THE SEED: THE CARDS: each row of YtekcconmnhjhiaaDoorRows.lean that lists a variable, with what it lists TIED to the program's text (the seventh form; the later family's looks); each row that meets fmt, with fmt's text TOLD by the authors' own Lean function (tested against real Go, not proved from fmt's source: count such statements apart). THE CARD IS WHAT COUNTS. Prove the row's statement (the work); the ties are given (YtekcconmnhjhiaaDoorTie.lean); close each card by the builder's one call (the guide's Derived/Test/ToyasCard.lean, 'card_holds'). Laid BY PROGRAM, IN A SANDBOX (cutbox-door.mjs). By AI agents, Wed Nov 11 2026. No macro, syntax, notation, axiom, sorry.
-/
import Derived.Test.YtekcconmnhjhiaaDoorRows
import GoSem.ClaimSeven
namespace Go.Proofs.YtekcconmnhjhiaaDoor
namespace Rows

/-- THE TIED CARD OF 'truchmanlaw30.WordsPieces'. -/
def wordsPiecesCard : Claim7 := { stood := { row := wordsPiecesRow, standIns := [], harness := (true, "7864338ca7bbeca06046036bd75424d5d83de499c5b998294a0fa2b990351bdc"), looks := false }, kinds := [], alts := [], laidByText := true, laidKinds := [.sentinel, .sentinel, .sentinel], laidTests := true, laidLooks := .later }
def WordsPiecesCardSaid : Prop := Claim7.holds Tryd.pinned (.plain (OpenSpec.ofChange wordsPiecesSpec)) wordsPiecesCard

/-- THE TIED CARD OF 'truchmanlaw30.WordsBack'. -/
def wordsBackCard : Claim7 := { stood := { row := wordsBackRow, standIns := [], harness := (true, "7864338ca7bbeca06046036bd75424d5d83de499c5b998294a0fa2b990351bdc"), looks := false }, kinds := [], alts := [], laidByText := true, laidKinds := [.sentinel, .sentinel, .sentinel], laidTests := true, laidLooks := .later }
def WordsBackCardSaid : Prop := Claim7.holds Tryd.pinned (.plain (OpenSpec.ofChange wordsBackSpec)) wordsBackCard

/-- THE SECOND FORM's CARD OF 'truchmanlaw30.WordsPieces'. -/
def wordsPiecesUptoCard : Claim7 := { stood := { row := wordsPiecesUptoRow, standIns := [], harness := (true, "7864338ca7bbeca06046036bd75424d5d83de499c5b998294a0fa2b990351bdc"), looks := false }, kinds := [], alts := [], laidByText := true, laidKinds := [.sentinel, .sentinel, .sentinel], laidTests := true, laidLooks := .later }
def WordsPiecesUptoCardSaid : Prop := Claim7.holds Tryd.pinned (.plain (OpenSpec.upto wordsPiecesSpec)) wordsPiecesUptoCard

/-- THE SECOND FORM's CARD OF 'truchmanlaw30.WordsBack'. -/
def wordsBackUptoCard : Claim7 := { stood := { row := wordsBackUptoRow, standIns := [], harness := (true, "7864338ca7bbeca06046036bd75424d5d83de499c5b998294a0fa2b990351bdc"), looks := false }, kinds := [], alts := [], laidByText := true, laidKinds := [.sentinel, .sentinel, .sentinel], laidTests := true, laidLooks := .later }
def WordsBackUptoCardSaid : Prop := Claim7.holds Tryd.pinned (.plain (OpenSpec.upto wordsBackSpec)) wordsBackUptoCard
end Rows
end Go.Proofs.YtekcconmnhjhiaaDoor
