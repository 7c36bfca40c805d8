/-
  Chapter 30: what the row's arguments give the walks.
-/
import Derived.Test.YtekcconmnhjhiaaDoorAW3
import Derived.Test.YtekcconmnhjhiaaDoorP6
set_option linter.unusedVariables false
set_option linter.unusedSimpArgs false
set_option maxRecDepth 10000
namespace Go.Proofs.YtekcconmnhjhiaaDoor
open Go Go.RowKit Sl Go.ChangeShapes

theorem ce_3 : Tryd.prog.cellsOf 3 = 1 := by kernel_rfl
theorem ce_9 : Tryd.prog.cellsOf 9 = 1 := by kernel_rfl
theorem ce_22 : Tryd.prog.cellsOf 22 = 1 := by kernel_rfl
theorem ce_24 : Tryd.prog.cellsOf 24 = 5 := by kernel_rfl
theorem ce_46 : Tryd.prog.cellsOf 46 = 2 := by kernel_rfl
theorem rd_46 : Rdr Tryd.prog 46 kW_Piece (fun x => x.f_Var.length ≤ maxLen ∧ x.f_Lit.length ≤ maxLen) :=
  rdr_struct (g := fun y => ⟨y.1, y.2⟩) Tryd.underlying46 ce_46 (fun _ => rfl) (rdrF_cons rfl (rdr_str Tryd.underlying9 ce_9) (rdrF_last rfl (rdr_str Tryd.underlying9 ce_9)))
theorem rd_22 : Rdr Tryd.prog 22 (Kd.slice kW_Piece) (fun xs => (∀ x ∈ xs, x.f_Var.length ≤ maxLen ∧ x.f_Lit.length ≤ maxLen) ∧ xs.length ≤ maxLen) :=
  rdr_slice Tryd.underlying22 ce_22 (by decide) rd_46
theorem rd_24 : Rdr Tryd.prog 24 kW_Token (fun x => inK .i64 x.f_Kind ∧ x.f_Text.length ≤ maxLen ∧ inK .i64 x.f_Number ∧ ((∀ y ∈ x.f_Pieces, y.f_Var.length ≤ maxLen ∧ y.f_Lit.length ≤ maxLen) ∧ x.f_Pieces.length ≤ maxLen) ∧ inK .i64 x.f_At) :=
  rdr_struct (g := fun y => ⟨y.1, y.2.1, y.2.2.1, y.2.2.2.1, y.2.2.2.2⟩) Tryd.underlying24 ce_24 (fun _ => rfl)
    (rdrF_cons rfl (rdr_int Tryd.underlying3 ce_3) (rdrF_cons rfl (rdr_str Tryd.underlying9 ce_9) (rdrF_cons rfl (rdr_int Tryd.underlying3 ce_3) (rdrF_cons rfl rd_22 (rdrF_last rfl (rdr_int Tryd.underlying3 ce_3))))))
end Go.Proofs.YtekcconmnhjhiaaDoor
