/-
  CleanPlainCardSaid: for every input the law answers true, and each argument reads as it did. The listed variables lie as the program's text lays them.
-/
import Derived.Test.YtnohihhjjpabjaaDoorP1
import Derived.Test.YtnohihhjjpabjaaDoorSl16
import Derived.Test.YtnohihhjjpabjaaDoorRows
import Derived.Test.YtnohihhjjpabjaaDoorCards
import Derived.Test.YtnohihhjjpabjaaDoorTie
import Derived.Test.YtnohihhjjpabjaaDoorAW3
import Derived.Stop.LaidErr
import Derived.OpenShut
import Derived.Deep.DeepHandedRow
import Derived.MakeChecks
set_option linter.unusedVariables false
set_option linter.unusedSimpArgs false
set_option maxRecDepth 1000000
set_option maxHeartbeats 1000000
namespace Go.Proofs.YtnohihhjjpabjaaDoor
open Go Go.RowKit Sl Go.ChangeShapes Go.WideShapes Go.ChangeAt

theorem rdx_5 : Rdx Tryd.prog 5 Kd.u8 := rdx_u8 Tryd.underlying5 (show Tryd.prog.cellsOf 5 = 1 by kernel_rfl)
theorem rdx_22 : Rdx Tryd.prog 22 (Kd.slice Kd.u8) := rdx_slice Tryd.underlying22 (show Tryd.prog.cellsOf 22 = 1 by kernel_rfl) (by decide) rdx_5
theorem rdx_23 : Rdx Tryd.prog 23 (Kd.slice (Kd.slice Kd.u8)) := rdx_slice Tryd.underlying23 (show Tryd.prog.cellsOf 23 = 1 by kernel_rfl) (by decide) rdx_22
theorem rdx_4 : Rdx Tryd.prog 4 Kd.bool := rdx_bool Tryd.underlying4 (show Tryd.prog.cellsOf 4 = 1 by kernel_rfl)
theorem laidOut : laidOutB Tryd.prog = true := by kernel_rfl
theorem own : ownKnob Tryd.prog.godebug = none := by kernel_rfl
theorem star : "*" ++ "errors.errorString" = "*errors.errorString" := by decide
theorem rowErr (u : TypeId) (h : Tryd.prog.typeName? 3 u = some "*errors.errorString") : u = 77 :=
  typeName_ptr_named (nm := "errors.errorString") (by rw [star]; kernel_rfl) (by kernel_rfl) (by decide) u (by rw [star]; exact h)
theorem isErr_of {W : World} {n : String} {g : Nat} {x : Value} (hg : Tryd.prog.globalNamed n = some g) (hv : W.var? Tryd.prog n = some #[x]) (hx : ∃ T ad, x = .iface T (.pointer (some ad))) : IsErr W g := by
  obtain ⟨T, ad, rfl⟩ := hx
  have := World.var?_cell hg hv 0
  exact ⟨T, ad, by rw [cellH_hp]; simpa using this⟩
theorem glob_cleanPlain {W : World} (h : laidMetH Tryd.prog Rows.cleanPlainRow.laid W) : Glob W := by
  rw [Go.MakeChecks.laidMetH_plain _ _ _ (by kernel_rfl)] at h
  have h0 := h
  have h1 := laidMet.tail h0
  have h2 := laidMet.tail h1
  obtain ⟨a1, _, v1, _⟩ := laid_sentinel h1 (show Tryd.prog.globalNamed "truchman/api.ErrRange" = some 1 by kernel_rfl) (show (Tryd.prog.globals[1]?).map (·.type) = some 35 by kernel_rfl) Tryd.underlying35 rowErr Tryd.underlying77 Tryd.underlying94 rfl rfl Tryd.underlying9 (show Tryd.prog.cellsOf 94 = 1 by kernel_rfl) (show Tryd.prog.cellsOf 9 = 1 by kernel_rfl)
  obtain ⟨a0, _, v0, _⟩ := laid_sentinel h2 (show Tryd.prog.globalNamed "truchman/api.ErrKind" = some 0 by kernel_rfl) (show (Tryd.prog.globals[0]?).map (·.type) = some 35 by kernel_rfl) Tryd.underlying35 rowErr Tryd.underlying77 Tryd.underlying94 rfl rfl Tryd.underlying9 (show Tryd.prog.cellsOf 94 = 1 by kernel_rfl) (show Tryd.prog.cellsOf 9 = 1 by kernel_rfl)
  intro g hg
  simp only [List.mem_cons, List.not_mem_nil, or_false] at hg
  rcases hg with rfl | rfl
  · exact isErr_of (show Tryd.prog.globalNamed "truchman/api.ErrKind" = some 0 by kernel_rfl) v0 ⟨_, _, rfl⟩
  · exact isErr_of (show Tryd.prog.globalNamed "truchman/api.ErrRange" = some 1 by kernel_rfl) v1 ⟨_, _, rfl⟩
theorem contract_cleanPlain (H : Type) (enc : TypeId × Value → H) (W : World) (base : Nat) (args : Array Value) (ds gs : List (DataW H)) (before : List MemPlace)
    (hval : ∀ (j : Nat) t v, Tryd.f3.params[j]? = some t → args[j]? = some v → Value.okWide Tryd.prog W .any base t v)
    (hW : DataW.Whole enc Tryd.prog Tryd.f3.params.toList Rows.cleanPlainSpec.vars false W args.toList ds gs before) (hL : laidMetH Tryd.prog Rows.cleanPlainRow.laid W) :
    Calls Tryd.prog 3 args W fun e W' => ∃ v, e = .returned v ∧ Rows.cleanPlainSpec.post enc Tryd.prog Tryd.f3 false true false false W args v W' := by
  have hW' := hW
  obtain ⟨p, q, hA0, hV, rfl, hfz, hnd⟩ := hW
  have hA : DataW.TrodAll enc Tryd.prog W 0 (fun _ => true) true Tryd.f3.params.toList args.toList ds p := hA0
  rw [Tryd.params3] at hA hval
  obtain ⟨v0, v1, v2, d0, d1, d2, p0, p1, p2, rfl, rfl, rfl, h0, h1, h2⟩ := trodAll_three hA
  obtain ⟨x0, f0⟩ := argx_slice rdx_22 Tryd.underlying22 (hval 0 22 v0 rfl rfl) h0
  obtain ⟨x1, f1⟩ := argx_slice rdx_23 Tryd.underlying23 (hval 1 23 v1 rfl rfl) h1
  obtain ⟨x2, rfl⟩ := argx_bool Tryd.underlying4 (hval 2 4 v2 rfl rfl)
  obtain ⟨rfl, rfl⟩ := trodVars_none hV
  refine (Law_CleanPlain_c (glob_cleanPlain hL) (cleanPlain_true x0 x1 x2) f0 f1 (sat_start W)).mono fun e W' ⟨K', _, hs, he⟩ => ⟨_, he, ?_⟩
  have hb := below_of_sat hs
  exact post_true rfl hW' rfl rfl Tryd.underlying4 laidOut (fun t ht => by
    have : t = 22 ∨ t = 23 ∨ t = 4 := by
      have ht' : t ∈ (#[22, 23, 4] : Array TypeId).toList := by rw [← Tryd.params3]; exact ht
      simpa using ht'
    rcases this with rfl | rfl | rfl
    · exact ⟨by kernel_rfl, of_decide_eq_true (by kernel_rfl)⟩
    · exact ⟨by kernel_rfl, of_decide_eq_true (by kernel_rfl)⟩
    · exact ⟨by kernel_rfl, of_decide_eq_true (by kernel_rfl)⟩) hb
noncomputable def low_cleanPlain : Nat := (World.holding Tryd.prog default ⟨#[], #[], []⟩).heap.size
noncomputable def laidWorld_cleanPlain (os : Os) : World :=
  let w0 := World.holding Tryd.prog os ⟨#[.cells #[.string ⟨(match Rows.laid_truchman_api_ErrRange (H := Unit) with | .iface _ (.ptr (.agg [.lit (.string s)])) => s | _ => []).toArray⟩] 94, .cells #[.string ⟨(match Rows.laid_truchman_api_ErrKind (H := Unit) with | .iface _ (.ptr (.agg [.lit (.string s)])) => s | _ => []).toArray⟩] 94], #[], []⟩
  { w0 with heap := (setVar (setVar (setVar (setVar w0.heap 4 (flatD Rows.laid_unicode_utf8_acceptRanges)) 1 [.iface 77 (.pointer (some ⟨low_cleanPlain + 0, 0, none⟩))]) 0 [.iface 77 (.pointer (some ⟨low_cleanPlain + 1, 0, none⟩))]) 3 (flatD Rows.laid_unicode_utf8_first)) }
noncomputable def args_cleanPlain : Array Value := #[.slice none 0 0, .slice none 0 0, .bool false]
theorem laid_met_cleanPlain (os : Os) : laidMet Tryd.prog Rows.cleanPlainRow.laid ((laidWorld_cleanPlain os).forCall (fun _ _ => 0) ⟨#[], args_cleanPlain, []⟩).memory :=
  laidMet_of_run3 8 (by kernel_rfl) (by kernel_rfl) (by kernel_rfl)
theorem reads_cleanPlain (os : Os) {H : Type} (enc : TypeId × Value → H) : ∃ ds places, DataW.whole enc Tryd.prog ((laidWorld_cleanPlain os).forCall (fun _ _ => 0) ⟨#[], args_cleanPlain, []⟩).memory Tryd.f3.params.toList Rows.cleanPlainSpec.vars false args_cleanPlain.toList 8 = some (ds, [], places) :=
  ⟨[.nil, .nil, .lit (.bool false)], [], by kernel_rfl⟩
theorem lifted_cleanPlain (os : Os) (started : os.Started) (H : Type) (enc : TypeId × Value → H) (F : Stop.Interp) :
    ReturnsInHanded {} Tryd.checked os 3 .any ((OpenSpec.ofChange Rows.cleanPlainSpec).preRow enc Tryd.prog Tryd.f3 Rows.cleanPlainRow.domain false Rows.cleanPlainRow.laid) (((OpenSpec.ofChange Rows.cleanPlainSpec).at F).post enc Tryd.prog Tryd.f3 false true false false) := by
  obtain ⟨ds, places, hx⟩ := reads_cleanPlain os enc
  refine returnsInHanded_of_row (C := Tryd.checked) (s := OpenSpec.ofChange Rows.cleanPlainSpec) own started (by kernel_rfl) Tryd.func3
    (witness_row_at (enc := enc) (C := Tryd.checked) false (laidWorld_cleanPlain os) args_cleanPlain rfl (by kernel_rfl) (by kernel_rfl) (by kernel_rfl)
      (OpenSpec.preRow_of_cond 8 hx (by kernel_rfl) (fun k hk => by cases hk) (by kernel_rfl) (laid_met_cleanPlain os))) ?_
  intro W base args ds gs before hval hW _ _ _ hL _ _
  exact contract_cleanPlain H enc W base args ds gs before hval hW hL
theorem said_cleanPlain : Rows.CleanPlainSaid :=
  OpenClaim.holds_of_cond 3 Tryd.f3 rfl rfl rfl rfl rfl rfl rfl ⟨rfl, rfl, rfl, rfl, rfl⟩ rfl rfl rfl rfl rfl (by kernel_rfl) Tryd.func3 (by kernel_rfl)
    (of_decide_eq_true (by kernel_rfl)) (by unfold Func.isWrapper; first | (rw [if_pos (by decide +kernel)]; kernel_rfl) | (rw [if_neg (by decide +kernel)]; exact ⟨rfl, rfl⟩))
    (fun os started H enc _ F => by rw [OpenClaim.pre_eq_preRow]; exact lifted_cleanPlain os started H enc F)
theorem plain_cleanPlain (f : FuncId) (fn : Func) (hf : Tryd.pinned.checked.prog.funcNamed "truchman/truchmanlaw09.CleanPlain" = some f) (hfn : Tryd.pinned.checked.prog.funcs[f]? = some fn) :
    false = Tryd.pinned.checked.prog.looks [] ∧ ∀ (j : Nat) t, fn.params[j]? = some t → Tryd.pinned.checked.prog.wantsStandIn t = false := by
  obtain rfl : f = 3 := Option.some.inj ((show Tryd.prog.funcNamed "truchman/truchmanlaw09.CleanPlain" = some 3 by kernel_rfl).symm.trans hf) |>.symm
  obtain rfl : fn = Tryd.f3 := (Option.some.inj (Tryd.func3.symm.trans hfn)).symm
  refine ⟨by kernel_rfl, fun j t ht => ?_⟩
  rw [Tryd.params3] at ht
  have : t = 22 ∨ t = 23 ∨ t = 4 := by
    have := Array.mem_of_getElem? ht
    simpa using this
  rcases this with rfl | rfl | rfl
  · exact (show Tryd.prog.wantsStandIn 22 = false by kernel_rfl)
  · exact (show Tryd.prog.wantsStandIn 23 = false by kernel_rfl)
  · exact (show Tryd.prog.wantsStandIn 4 = false by kernel_rfl)
/-- THE CARD: every input, true; the arguments read as they did. -/
theorem cleanPlain_card : Rows.CleanPlainCardSaid :=
  Claim7.holds_tied_plain_at .later [] _ _ _ _ said_cleanPlain (fun _ h => by cases h) (by kernel_rfl) (fun _ h => by cases h) cleanPlain_row_tie rfl ⟨rfl, rfl⟩ (by kernel_rfl) rfl plain_cleanPlain (by kernel_rfl)
end Go.Proofs.YtnohihhjjpabjaaDoor
