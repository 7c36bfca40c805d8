/-
  Chapter 30: the card of the law of pieces.
-/
import Derived.Test.YtekcconmnhjhiaaDoorC4
set_option linter.unusedVariables false
set_option maxRecDepth 100000
namespace Go.Proofs.YtekcconmnhjhiaaDoor
open Go Go.RowKit Go.ChangeShapes Go.WideShapes Go.ChangeAt
theorem plain_pieces (f : FuncId) (fn : Func) (hf : Tryd.pinned.checked.prog.funcNamed "truchman/truchmanlaw30.WordsPieces" = some f) (hfn : Tryd.pinned.checked.prog.funcs[f]? = some fn) :
    false = Tryd.pinned.checked.prog.looks [] ∧ ∀ (j : Nat) t, fn.params[j]? = some t → Tryd.pinned.checked.prog.wantsStandIn t = false := by
  obtain rfl : f = 3 := Option.some.inj ((show Tryd.prog.funcNamed "truchman/truchmanlaw30.WordsPieces" = some 3 by kernel_rfl).symm.trans hf) |>.symm
  obtain rfl : fn = Tryd.f3 := (Option.some.inj (Tryd.func3.symm.trans hfn)).symm
  refine ⟨by kernel_rfl, fun j t ht => ?_⟩
  rw [Tryd.params3] at ht
  have : t = 22 ∨ t = 24 := by
    have := Array.mem_of_getElem? ht
    simpa using this
  rcases this with rfl | rfl
  · exact (show Tryd.prog.wantsStandIn 22 = false by kernel_rfl)
  · exact (show Tryd.prog.wantsStandIn 24 = false by kernel_rfl)
/-- THE CARD: every input, true; the arguments read as they did. -/
theorem wordsPieces_card : Rows.WordsPiecesCardSaid :=
  Claim7.holds_tied_plain_at .later [] _ _ _ _ said (fun _ h => by cases h) (by kernel_rfl) (fun _ h => by cases h) wordsPieces_row_tie rfl ⟨rfl, rfl⟩ (by kernel_rfl) rfl plain_pieces (by kernel_rfl)
end Go.Proofs.YtekcconmnhjhiaaDoor
