/-
  Chapter 30: the sentinels; the law's contract over a row.
-/
import Derived.Test.YtekcconmnhjhiaaDoorC1
import Derived.Test.YtekcconmnhjhiaaDoorRows
import Derived.Stop.LaidErr
set_option linter.unusedVariables false
set_option linter.unusedSimpArgs false
set_option maxRecDepth 100000
namespace Go.Proofs.YtekcconmnhjhiaaDoor
open Go Go.RowKit Sl Go.ChangeShapes Go.WideShapes

theorem argSlice {H : Type} {enc : TypeId × Value → H} {W : World} {b : Nat} {v : Value} {d : DataW H} {p : List MemPlace} (hv : Value.okWide Tryd.prog W .any b 22 v) (hr : DataW.Trod enc Tryd.prog W 0 (fun _ => true) true 22 v d p) : ∃ xs : List W_Piece, kW_Piece.sl (hp W) v xs := by
  obtain ⟨A, n, c, rfl⟩ := okWide_slice Tryd.underlying22 hv
  obtain ⟨xs, h, _⟩ := arg_slice rd_22 rfl hr
  exact ⟨xs, h⟩
theorem argToken {H : Type} {enc : TypeId × Value → H} {W : World} {b : Nat} {v : Value} {d : DataW H} {p : List MemPlace} (hv : Value.okWide Tryd.prog W .any b 24 v) (hr : DataW.Trod enc Tryd.prog W 0 (fun _ => true) true 24 v d p) : ∃ (x : W_Token) (u : Value), v = Value.agg #[Value.int .i64 x.f_Kind, strV x.f_Text, Value.int .i64 x.f_Number, u, Value.int .i64 x.f_At] ∧ kW_Piece.sl (hp W) u x.f_Pieces := by
  obtain ⟨cs, rfl, hsz⟩ := okWide_struct Tryd.underlying24 hv
  obtain ⟨x, hx, _⟩ := arg_one rd_24 hr
  obtain ⟨u, e, hu⟩ := kW_Token_open hx
  refine ⟨x, u, ?_, hu⟩
  have : cs.toList = [Value.int .i64 x.f_Kind, strV x.f_Text, Value.int .i64 x.f_Number, u, Value.int .i64 x.f_At] := e
  rw [← Array.toArray_toList (xs := cs), this]
theorem laidOut : laidOutB Tryd.prog = true := by kernel_rfl
theorem calls_pieces {W : World} (hG : Glob W) {v0 u1 u2 : Value} {l : List W_Piece} {t u : W_Token} (h0 : kW_Piece.sl (hp W) v0 l) (h1 : kW_Piece.sl (hp W) u1 t.f_Pieces) (h2 : kW_Piece.sl (hp W) u2 u.f_Pieces) :
    Calls Tryd.prog 3 #[v0, Value.agg #[Value.int .i64 t.f_Kind, strV t.f_Text, Value.int .i64 t.f_Number, u1, Value.int .i64 t.f_At], Value.agg #[Value.int .i64 u.f_Kind, strV u.f_Text, Value.int .i64 u.f_Number, u2, Value.int .i64 u.f_At]] W fun e W' => e = .returned (.bool true) ∧ Below W.heap.size W W' :=
  (Law_WordsPieces_c hG (wordsPieces_true l t u) h0 h1 h2 (sat_start W)).mono fun e W' ⟨K', _, hs, he⟩ => ⟨he, below_of_sat hs⟩
end Go.Proofs.YtekcconmnhjhiaaDoor
