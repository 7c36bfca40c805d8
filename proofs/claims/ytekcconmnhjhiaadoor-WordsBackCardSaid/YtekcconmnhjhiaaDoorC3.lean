/-
  Chapter 30: the law of pieces: its row, its card.
-/
import Derived.Test.YtekcconmnhjhiaaDoorC2
import Derived.Test.YtekcconmnhjhiaaDoorCards
import Derived.Test.YtekcconmnhjhiaaDoorTie
import Derived.OpenShut
import Derived.Deep.DeepHandedRow
import Derived.MakeChecks
set_option linter.unusedVariables false
set_option linter.unusedSimpArgs false
set_option maxRecDepth 100000
namespace Go.Proofs.YtekcconmnhjhiaaDoor
open Go Go.RowKit Sl Go.ChangeShapes Go.WideShapes Go.ChangeAt

theorem own : ownKnob Tryd.prog.godebug = none := by kernel_rfl
theorem gLong : Tryd.prog.globalNamed "truchman/api.ErrLong" = some 0 := by kernel_rfl
theorem gForm : Tryd.prog.globalNamed "truchman/api.ErrForm" = some 1 := by kernel_rfl
theorem gShort : Tryd.prog.globalNamed "truchman/api.ErrShort" = some 2 := by kernel_rfl
theorem gType0 : (Tryd.prog.globals[0]?).map (·.type) = some 41 := by kernel_rfl
theorem gType1 : (Tryd.prog.globals[1]?).map (·.type) = some 41 := by kernel_rfl
theorem gType2 : (Tryd.prog.globals[2]?).map (·.type) = some 41 := by kernel_rfl
theorem ce_101 : Tryd.prog.cellsOf 101 = 1 := by kernel_rfl
theorem star : "*" ++ "errors.errorString" = "*errors.errorString" := by decide
theorem row85 (u : TypeId) (h : Tryd.prog.typeName? 3 u = some "*errors.errorString") : u = 85 :=
  typeName_ptr_named (nm := "errors.errorString") (by rw [star]; kernel_rfl) (by kernel_rfl) (by decide) u (by rw [star]; exact h)
theorem isErr_of {W : World} {n : String} {g : Nat} {x : Value} (hg : Tryd.prog.globalNamed n = some g) (hv : W.var? Tryd.prog n = some #[x]) (hx : ∃ T ad, x = .iface T (.pointer (some ad))) : IsErr W g := by
  obtain ⟨T, ad, rfl⟩ := hx
  have := World.var?_cell hg hv 0
  exact ⟨T, ad, by rw [cellH_hp]; simpa using this⟩
theorem glob_of {W : World} (h : laidMetH Tryd.prog Rows.wordsPiecesRow.laid W) : Glob W := by
  rw [Go.MakeChecks.laidMetH_plain _ _ _ (by kernel_rfl)] at h
  have h1 := h
  have h2 := laidMet.tail h1
  have h3 := laidMet.tail h2
  obtain ⟨a1, _, v1, _⟩ := laid_sentinel h1 gShort gType2 Tryd.underlying41 row85 Tryd.underlying85 Tryd.underlying101 rfl rfl Tryd.underlying9 ce_101 ce_9
  obtain ⟨a2, _, v2, _⟩ := laid_sentinel h2 gLong gType0 Tryd.underlying41 row85 Tryd.underlying85 Tryd.underlying101 rfl rfl Tryd.underlying9 ce_101 ce_9
  obtain ⟨a3, _, v3, _⟩ := laid_sentinel h3 gForm gType1 Tryd.underlying41 row85 Tryd.underlying85 Tryd.underlying101 rfl rfl Tryd.underlying9 ce_101 ce_9
  intro g hg
  simp only [List.mem_cons, List.not_mem_nil, or_false] at hg
  rcases hg with rfl | rfl | rfl
  · exact isErr_of gLong v2 ⟨_, _, rfl⟩
  · exact isErr_of gForm v3 ⟨_, _, rfl⟩
  · exact isErr_of gShort v1 ⟨_, _, rfl⟩
theorem contract (H : Type) (enc : TypeId × Value → H) (W : World) (base : Nat) (args : Array Value) (ds gs : List (DataW H)) (before : List MemPlace)
    (hval : ∀ (j : Nat) t v, Tryd.f3.params[j]? = some t → args[j]? = some v → Value.okWide Tryd.prog W .any base t v)
    (hW : DataW.Whole enc Tryd.prog Tryd.f3.params.toList Rows.wordsPiecesSpec.vars false W args.toList ds gs before) (hL : laidMetH Tryd.prog Rows.wordsPiecesRow.laid W) :
    Calls Tryd.prog 3 args W fun e W' => ∃ v, e = .returned v ∧ Rows.wordsPiecesSpec.post enc Tryd.prog Tryd.f3 false true false false W args v W' := by
  have hW' := hW
  obtain ⟨p, q, hA0, hV, rfl, hfz, hnd⟩ := hW
  have hA : DataW.TrodAll enc Tryd.prog W 0 (fun _ => true) true Tryd.f3.params.toList args.toList ds p := hA0
  rw [Tryd.params3] at hA hval
  obtain ⟨v0, v1, v2, d0, d1, d2, p0, p1, p2, rfl, rfl, rfl, h0, h1, h2⟩ := trodAll_three hA
  obtain ⟨l, hl⟩ := argSlice (hval 0 22 v0 rfl rfl) h0
  obtain ⟨t, u1, rfl, ht⟩ := argToken (hval 1 24 v1 rfl rfl) h1
  obtain ⟨u, u2, rfl, hu⟩ := argToken (hval 2 24 v2 rfl rfl) h2
  obtain ⟨rfl, rfl⟩ := trodVars_none hV
  refine (calls_pieces (glob_of hL) hl ht hu).mono fun e W' ⟨he, hb⟩ => ⟨_, he, ?_⟩
  exact post_true rfl hW' rfl rfl Tryd.underlying4 laidOut (fun t ht => by
    have : t = 22 ∨ t = 24 := by
      have ht' : t ∈ (#[22, 24, 24] : Array TypeId).toList := by rw [← Tryd.params3]; exact ht
      simpa using ht'
    rcases this with rfl | rfl
    · exact ⟨by kernel_rfl, of_decide_eq_true (by kernel_rfl)⟩
    · exact ⟨by kernel_rfl, of_decide_eq_true (by kernel_rfl)⟩) hb
end Go.Proofs.YtekcconmnhjhiaaDoor
