/-
  The memory logic, sixteenth part: readers without their bounds; the start that fits a row's listed variables.
-/
import Derived.Test.YthjfnknhcmhmiaaDoorSl14
import Derived.Stop.LaidErr
import Derived.Deep.DeepLaidRun
set_option linter.unusedVariables false
set_option linter.unusedSimpArgs false
namespace Go.Proofs.YthjfnknhcmhmiaaDoor.Sl
open Go Go.RowKit Go.ChangeShapes Go.WideShapes

def Rdx {α : Type} (P : Program) (t : TypeId) (d : Kd α) : Prop := ∃ wf, Rdr P t d wf
def RdxF {α : Type} (P : Program) (fs : List Field) (off : Nat) (d : Kd α) : Prop := ∃ wf, RdrF P fs off d wf
section
variable {P : Program} {t e : TypeId} {α β : Type} {d : Kd α}
theorem rdx_int {k : IntKind} (ht : P.underlying t = some (.int k)) (hc : P.cellsOf t = 1) : Rdx P t (Kd.int k) := ⟨_, rdr_int ht hc⟩
theorem rdx_u8 (ht : P.underlying t = some (.int .u8)) (hc : P.cellsOf t = 1) : Rdx P t Kd.u8 := ⟨_, rdr_u8 ht hc⟩
theorem rdx_bool (ht : P.underlying t = some .bool) (hc : P.cellsOf t = 1) : Rdx P t Kd.bool := ⟨_, rdr_bool ht hc⟩
theorem rdx_str (ht : P.underlying t = some .string) (hc : P.cellsOf t = 1) : Rdx P t Kd.str := ⟨_, rdr_str ht hc⟩
theorem rdx_slice (ht : P.underlying t = some (.slice e)) (hc : P.cellsOf t = 1) (h0 : 0 < d.sz) (h : Rdx P e d) : Rdx P t (Kd.slice d) := by
  obtain ⟨_, h⟩ := h; exact ⟨_, rdr_slice ht hc h0 h⟩
theorem rdxF_last {f : Field} {off : Nat} (ho : f.offset = off) (h : Rdx P f.type d) : RdxF P [f] off d := by
  obtain ⟨_, h⟩ := h; exact ⟨_, rdrF_last ho h⟩
theorem rdxF_cons {d2 : Kd β} {f : Field} {fs : List Field} {off : Nat} (ho : f.offset = off) (h : Rdx P f.type d) (h2 : RdxF P fs (off + d.sz) d2) : RdxF P (f :: fs) off (Kd.pair d d2) := by
  obtain ⟨_, h⟩ := h; obtain ⟨_, h2⟩ := h2; exact ⟨_, rdrF_cons ho h h2⟩
theorem rdx_struct {fs : Array Field} {f : β → α} {g : α → β} (ht : P.underlying t = some (.struct fs)) (hc : P.cellsOf t = d.sz) (hfg : ∀ y, f (g y) = y) (h : RdxF P fs.toList 0 d) : Rdx P t (Kd.iso d f) := by
  obtain ⟨_, h⟩ := h; exact ⟨_, rdr_struct ht hc hfg h⟩
variable {H : Type} {enc : TypeId × Value → H} {W : World} {v : Value} {dd : DataW H} {ps : List MemPlace} {b : Nat}
theorem argx_slice {e' : TypeId} (h : Rdx P t (Kd.slice d)) (ht : P.underlying t = some (.slice e')) (hv : Value.okWide P W .any b t v) (hr : DataW.Trod enc P W 0 (fun _ => true) true t v dd ps) : ∃ xs : List α, d.sl (hp W) v xs := by
  obtain ⟨_, h⟩ := h
  obtain ⟨A, n, c, rfl⟩ := okWide_slice ht hv
  obtain ⟨fuel, hr⟩ := hr
  obtain ⟨xs, ⟨u, e, hs⟩, _⟩ := h.read hr
  have : Value.slice A n c = u := by
    have e' : [Value.slice A n c] = [u] := e
    simpa using e'
  subst this
  exact ⟨xs, hs⟩
theorem argx_int {k : IntKind} (ht : P.underlying t = some (.int k)) (hv : Value.okWide P W .any b t v) : ∃ n : Int, v = Value.int k n := by
  obtain ⟨n, rfl⟩ := okWide_int ht hv
  exact ⟨n, rfl⟩
theorem argx_u8 (h : Rdx P t Kd.u8) (ht : P.underlying t = some (.int .u8)) (hv : Value.okWide P W .any b t v) (hr : DataW.Trod enc P W 0 (fun _ => true) true t v dd ps) : ∃ c : UInt8, v = Value.int .u8 (b8 c) := by
  obtain ⟨_, h⟩ := h
  obtain ⟨n, rfl⟩ := okWide_int ht hv
  obtain ⟨fuel, hr⟩ := hr
  obtain ⟨x, e, _⟩ := h.read hr
  have e' : [Value.int .u8 n] = [Value.int .u8 (b8 x)] := e
  exact ⟨x, by simpa using e'⟩
theorem argx_bool (ht : P.underlying t = some .bool) (hv : Value.okWide P W .any b t v) : ∃ c : Bool, v = Value.bool c := okWide_bool ht hv
theorem argx_str (ht : P.underlying t = some .string) (hv : Value.okWide P W .any b t v) : ∃ s : List UInt8, v = strV s := by
  obtain ⟨s, rfl⟩ := okWide_string ht hv
  exact ⟨s.data.toList, by simp [strV]⟩
theorem argx_struct {fs : Array Field} (h : Rdx P t d) (ht : P.underlying t = some (.struct fs)) (hv : Value.okWide P W .any b t v) (hr : DataW.Trod enc P W 0 (fun _ => true) true t v dd ps) : ∃ (x : α) (cs : List Value), v = .agg cs.toArray ∧ d.rep (hp W) x cs := by
  obtain ⟨_, h⟩ := h
  obtain ⟨cs, rfl, _⟩ := okWide_struct ht hv
  obtain ⟨fuel, hr⟩ := hr
  obtain ⟨x, hx, _⟩ := h.read hr
  exact ⟨x, cs.toList, by simp, hx⟩
end

/-! ### The start -/
mutual
/-- a datum's cells, no slice and no pointer in it -/
def flatD : DataW Unit → List Value
  | .lit (.int k n) => [.int k n]
  | .lit (.bool b) => [.bool b]
  | .lit (.string s) => [.string ⟨s.toArray⟩]
  | .agg ds => flatDs ds
  | _ => []
def flatDs : List (DataW Unit) → List Value
  | [] => []
  | d :: r => flatD d ++ flatDs r
end
def setVar (h : Array Obj) (g : Nat) (cs : List Value) : Array Obj := h.modify g fun
  | .cells _ t frozen => .cells cs.toArray t frozen
  | o => o
end Go.Proofs.YthjfnknhcmhmiaaDoor.Sl
