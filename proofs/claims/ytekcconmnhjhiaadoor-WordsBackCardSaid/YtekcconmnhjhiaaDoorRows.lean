/-
  NARROWER THAN 'FOR EVERY INPUT', by the rows' own cells (each row's printed sentence says how): WordsPieces: laid · WordsBack: laid.
  DERIVED. THE GIVEN ROWS OF THIS SEAT. 2 by the template 'for every input the law returns true; each argument reads behind the call as it read before'; 0 by the template 'total and deterministic' (their statements: YtekcconmnhjhiaaDoorTotals.lean).
  GIVEN WITH THE SEED: the statements are not yours to turn. If you find one false, say at which input.
  Laid BY PROGRAM, IN A SANDBOX (cutbox-rows.mjs): the forced cells as the released guide's own fill.sh prints them over the translation 0927ca06de3f5d86… (all of the seat's roots in one cut). By AI agents, Wed Nov 11 2026. No macro, syntax, notation, axiom, sorry.
-/
import Derived.Test.YtekcconmnhjhiaaDoorChecked
import GoSem.Claim
import GoSem.ClaimJoined
import GoSem.ClaimMapViews
import Derived.JoinedTies
import Derived.KernelRfl
namespace Go.Proofs.YtekcconmnhjhiaaDoor
/- THE CELL 'sum', in the pinned program and in every row, IS THE sha256 OF THE DUMP (.gsa) THAT YtekcconmnhjhiaaDoorProg.lean LOADS. Nothing in Lean hashes anything: it is a label: what it is worth is what the hold of that sum in a sandbox is worth. -/
noncomputable def Tryd.pinned : Pinned := { name := "ytekcconmnhjhiaadoor", sum := "0927ca06de3f5d8657e0b9572e0ab01a8a06b0023eee4bb4288783457e0af5de", checked := Tryd.checked }
namespace Rows
def none {H : Type} : Left H := { results := [], args := [] }

/- WHAT THE LISTED PACKAGE-LEVEL VARIABLES READ AS WHEN THE CALL BEGINS. Each datum BY PROGRAM (the guide's laid-datum.mjs) off the statement by which the dump's own 'gosem.cut.vars' lays the variable. In a bare row this is a premise. The card (YtekcconmnhjhiaaDoorCards.lean) ties it to the program's text. -/
def laid_truchman_api_ErrShort {H : Type} : DataW H := .iface "*errors.errorString" (.ptr (.agg [.lit (.string [115, 111, 109, 101, 116, 104, 105, 110, 103, 32, 105, 115, 32, 109, 105, 115, 115, 105, 110, 103, 32, 97, 116, 32, 116, 104, 101, 32, 101, 110, 100])]))
def laid_truchman_api_ErrLong {H : Type} : DataW H := .iface "*errors.errorString" (.ptr (.agg [.lit (.string [116, 104, 101, 114, 101, 32, 105, 115, 32, 109, 111, 114, 101, 32, 116, 104, 97, 110, 32, 109, 97, 121, 32, 98, 101])]))
def laid_truchman_api_ErrForm {H : Type} : DataW H := .iface "*errors.errorString" (.ptr (.agg [.lit (.string [105, 116, 32, 105, 115, 32, 110, 111, 116, 32, 111, 102, 32, 105, 116, 115, 32, 102, 111, 114, 109])]))

/-- 'truchmanlaw30.WordsPieces': WHATEVER THE INPUT: true; the input reads as it did. -/
def wordsPiecesSpec : ChangeSpec := { name := "wordsPieces", fn := fun _ => fun
  | [d1, d2, d3] => { results := [.lit (.bool true)], args := [d1, d2, d3] }
  | _ => none }
def wordsPiecesRow : OpenClaim := { program := "ytekcconmnhjhiaadoor", sum := "0927ca06de3f5d8657e0b9572e0ab01a8a06b0023eee4bb4288783457e0af5de", func := "truchman/truchmanlaw30.WordsPieces", spec := "wordsPieces", inPlace := ["internal/bytealg.IndexByteString", "internal/abi.NoEscape"], unfollowed := true, recurses := true, named := ["truchman/api.ErrLong", "truchman/api.ErrForm", "truchman/api.ErrShort"], apart := false, laid := [("truchman/api.ErrShort", laid_truchman_api_ErrShort), ("truchman/api.ErrLong", laid_truchman_api_ErrLong), ("truchman/api.ErrForm", laid_truchman_api_ErrForm)] }
def WordsPiecesSaid : Prop := wordsPiecesRow.holds Tryd.pinned (OpenSpec.ofChange wordsPiecesSpec)

/-- ITS FALSE NEIGHBOUR: 'it returns false'. Refute it at one input. -/
def wordsPiecesWrong : ChangeSpec := { name := "wordsPieces", fn := fun _ => fun
  | [d1, d2, d3] => { results := [.lit (.bool false)], args := [d1, d2, d3] }
  | _ => none }
def WordsPiecesWrongFalsely : Prop := wordsPiecesRow.holds Tryd.pinned (OpenSpec.ofChange wordsPiecesWrong)

/-- 'truchmanlaw30.WordsBack': WHATEVER THE INPUT: true; the input reads as it did. -/
def wordsBackSpec : ChangeSpec := { name := "wordsBack", fn := fun _ => fun
  | [d1, d2] => { results := [.lit (.bool true)], args := [d1, d2] }
  | _ => none }
def wordsBackRow : OpenClaim := { program := "ytekcconmnhjhiaadoor", sum := "0927ca06de3f5d8657e0b9572e0ab01a8a06b0023eee4bb4288783457e0af5de", func := "truchman/truchmanlaw30.WordsBack", spec := "wordsBack", inPlace := ["internal/bytealg.IndexByteString", "internal/abi.NoEscape"], unfollowed := true, recurses := true, named := ["truchman/api.ErrLong", "truchman/api.ErrForm", "truchman/api.ErrShort"], apart := false, laid := [("truchman/api.ErrShort", laid_truchman_api_ErrShort), ("truchman/api.ErrLong", laid_truchman_api_ErrLong), ("truchman/api.ErrForm", laid_truchman_api_ErrForm)] }
def WordsBackSaid : Prop := wordsBackRow.holds Tryd.pinned (OpenSpec.ofChange wordsBackSpec)

/-- ITS FALSE NEIGHBOUR: 'it returns false'. Refute it at one input. -/
def wordsBackWrong : ChangeSpec := { name := "wordsBack", fn := fun _ => fun
  | [d1, d2] => { results := [.lit (.bool false)], args := [d1, d2] }
  | _ => none }
def WordsBackWrongFalsely : Prop := wordsBackRow.holds Tryd.pinned (OpenSpec.ofChange wordsBackWrong)

/- THE SECOND FORM. 'bulk': how many values and letters a reading holds, each counted each time it is reached (what is shared counts as often as it is met; a slice's spare places count too). A statement '..UptoSaid' is the law's where the arguments, and the package variables that the reading takes, are together of bulk at most 1048576: NARROWER than '..Said'. Prove '..Said' where nothing that the law and all that it calls make is longer than what came in: it says more and counts as full. Else prove '..UptoSaid'. A law counts once. -/
mutual
def uptoBulk {H : Type} : DataW H → Nat
  | .lit (.string bytes) => bytes.length + 1
  | .lit _ => 1
  | .nil => 1
  | .ptr d => uptoBulk d + 1
  | .slice elems spare => uptoBulkAll elems + uptoBulkAll spare + 1
  | .agg parts => uptoBulkAll parts + 1
  | .iface _ d => uptoBulk d + 1
  | .map entries => uptoBulkEntries entries + 1
  | .held _ => 1
def uptoBulkAll {H : Type} : List (DataW H) → Nat
  | [] => 0
  | d :: r => uptoBulk d + uptoBulkAll r
def uptoBulkEntries {H : Type} : List (Lit × DataW H) → Nat
  | [] => 0
  | x :: r => uptoBulkEntry x + uptoBulkEntries r
def uptoBulkEntry {H : Type} : Lit × DataW H → Nat
  | (.string bytes, d) => bytes.length + uptoBulk d + 1
  | (_, d) => uptoBulk d + 1
 end
def uptoSmall : (H : Type) → List (DataW H) → Bool := fun _ ds => decide (uptoBulkAll ds ≤ 1048576)
def OpenSpec.upto (s : _root_.Go.ChangeSpec) : _root_.Go.OpenSpec := { _root_.Go.OpenSpec.ofChange s with cond := some uptoSmall }

/-- 'truchmanlaw30.WordsPieces', WHERE WHAT IT READS IS OF BULK AT MOST 1048576: true; the input reads as it did. -/
def wordsPiecesUptoRow : OpenClaim := { program := "ytekcconmnhjhiaadoor", sum := "0927ca06de3f5d8657e0b9572e0ab01a8a06b0023eee4bb4288783457e0af5de", func := "truchman/truchmanlaw30.WordsPieces", spec := "wordsPieces", inPlace := ["internal/bytealg.IndexByteString", "internal/abi.NoEscape"], unfollowed := true, recurses := true, named := ["truchman/api.ErrLong", "truchman/api.ErrForm", "truchman/api.ErrShort"], apart := false, laid := [("truchman/api.ErrShort", laid_truchman_api_ErrShort), ("truchman/api.ErrLong", laid_truchman_api_ErrLong), ("truchman/api.ErrForm", laid_truchman_api_ErrForm)], narrowed := true }
def WordsPiecesUptoSaid : Prop := wordsPiecesUptoRow.holds Tryd.pinned (OpenSpec.upto wordsPiecesSpec)

/-- 'truchmanlaw30.WordsBack', WHERE WHAT IT READS IS OF BULK AT MOST 1048576: true; the input reads as it did. -/
def wordsBackUptoRow : OpenClaim := { program := "ytekcconmnhjhiaadoor", sum := "0927ca06de3f5d8657e0b9572e0ab01a8a06b0023eee4bb4288783457e0af5de", func := "truchman/truchmanlaw30.WordsBack", spec := "wordsBack", inPlace := ["internal/bytealg.IndexByteString", "internal/abi.NoEscape"], unfollowed := true, recurses := true, named := ["truchman/api.ErrLong", "truchman/api.ErrForm", "truchman/api.ErrShort"], apart := false, laid := [("truchman/api.ErrShort", laid_truchman_api_ErrShort), ("truchman/api.ErrLong", laid_truchman_api_ErrLong), ("truchman/api.ErrForm", laid_truchman_api_ErrForm)], narrowed := true }
def WordsBackUptoSaid : Prop := wordsBackUptoRow.holds Tryd.pinned (OpenSpec.upto wordsBackSpec)

end Rows
end Go.Proofs.YtekcconmnhjhiaaDoor
