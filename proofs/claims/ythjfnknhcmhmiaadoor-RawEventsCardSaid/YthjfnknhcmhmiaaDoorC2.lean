/-
  RawEventsCardSaid: for every input the law answers true, and each argument reads as it did. The listed variables lie as the program's text lays them.
-/
import Derived.Test.YthjfnknhcmhmiaaDoorP5
import Derived.Test.YthjfnknhcmhmiaaDoorSl16
import Derived.Test.YthjfnknhcmhmiaaDoorRows
import Derived.Test.YthjfnknhcmhmiaaDoorCards
import Derived.Test.YthjfnknhcmhmiaaDoorTie
import Derived.Test.YthjfnknhcmhmiaaDoorBW3
import Derived.Stop.LaidErr
import Derived.OpenShut
import Derived.Deep.DeepHandedRow
import Derived.MakeChecks
set_option linter.unusedVariables false
set_option linter.unusedSimpArgs false
set_option maxRecDepth 1000000
set_option maxHeartbeats 1000000
namespace Go.Proofs.YthjfnknhcmhmiaaDoor
open Go Go.RowKit Sl Go.ChangeShapes Go.WideShapes Go.ChangeAt

theorem rdx_3 : Rdx Tryd.prog 3 (Kd.int .i64) := rdx_int Tryd.underlying3 (show Tryd.prog.cellsOf 3 = 1 by kernel_rfl)
theorem rdx_5 : Rdx Tryd.prog 5 Kd.u8 := rdx_u8 Tryd.underlying5 (show Tryd.prog.cellsOf 5 = 1 by kernel_rfl)
theorem rdx_22 : Rdx Tryd.prog 22 (Kd.slice Kd.u8) := rdx_slice Tryd.underlying22 (show Tryd.prog.cellsOf 22 = 1 by kernel_rfl) (by decide) rdx_5
theorem rdx_23 : Rdx Tryd.prog 23 (Kd.slice (Kd.int .i64)) := rdx_slice Tryd.underlying23 (show Tryd.prog.cellsOf 23 = 1 by kernel_rfl) (by decide) rdx_3
theorem rdx_25 : Rdx Tryd.prog 25 kraw_Event := rdx_struct (g := fun y => ⟨y.1, y.2.1, y.2.2.1, y.2.2.2⟩) Tryd.underlying25 (show Tryd.prog.cellsOf 25 = 4 by kernel_rfl) (fun _ => rfl) (rdxF_cons rfl rdx_3 (rdxF_cons rfl rdx_3 (rdxF_cons rfl rdx_22 (rdxF_last rfl rdx_23))))
theorem laidOut : laidOutB Tryd.prog = true := by kernel_rfl
theorem own : ownKnob Tryd.prog.godebug = none := by kernel_rfl
theorem star : "*" ++ "errors.errorString" = "*errors.errorString" := by decide
theorem rowErr (u : TypeId) (h : Tryd.prog.typeName? 3 u = some "*errors.errorString") : u = 143 :=
  typeName_ptr_named (nm := "errors.errorString") (by rw [star]; kernel_rfl) (by kernel_rfl) (by decide) u (by rw [star]; exact h)
theorem isErr_of {W : World} {n : String} {g : Nat} {x : Value} (hg : Tryd.prog.globalNamed n = some g) (hv : W.var? Tryd.prog n = some #[x]) (hx : ∃ T ad, x = .iface T (.pointer (some ad))) : IsErr W g := by
  obtain ⟨T, ad, rfl⟩ := hx
  have := World.var?_cell hg hv 0
  exact ⟨T, ad, by rw [cellH_hp]; simpa using this⟩
theorem glob_rawEvents {W : World} (h : laidMetH Tryd.prog Rows.rawEventsRow.laid W) : Glob W := by
  rw [Go.MakeChecks.laidMetH_plain _ _ _ (by kernel_rfl)] at h
  have h0 := h
  have h1 := laidMet.tail h0
  have h2 := laidMet.tail h1
  have h3 := laidMet.tail h2
  have h4 := laidMet.tail h3
  have h5 := laidMet.tail h4
  have h6 := laidMet.tail h5
  obtain ⟨a21, _, v21, _⟩ := laid_sentinel h4 (show Tryd.prog.globalNamed "strconv.ErrRange" = some 21 by kernel_rfl) (show (Tryd.prog.globals[21]?).map (·.type) = some 29 by kernel_rfl) Tryd.underlying29 rowErr Tryd.underlying143 Tryd.underlying145 rfl rfl Tryd.underlying9 (show Tryd.prog.cellsOf 145 = 1 by kernel_rfl) (show Tryd.prog.cellsOf 9 = 1 by kernel_rfl)
  obtain ⟨a20, _, v20, _⟩ := laid_sentinel h5 (show Tryd.prog.globalNamed "strconv.ErrSyntax" = some 20 by kernel_rfl) (show (Tryd.prog.globals[20]?).map (·.type) = some 29 by kernel_rfl) Tryd.underlying29 rowErr Tryd.underlying143 Tryd.underlying145 rfl rfl Tryd.underlying9 (show Tryd.prog.cellsOf 145 = 1 by kernel_rfl) (show Tryd.prog.cellsOf 9 = 1 by kernel_rfl)
  obtain ⟨a0, _, v0, _⟩ := laid_sentinel h6 (show Tryd.prog.globalNamed "truchman/api.ErrForm" = some 0 by kernel_rfl) (show (Tryd.prog.globals[0]?).map (·.type) = some 29 by kernel_rfl) Tryd.underlying29 rowErr Tryd.underlying143 Tryd.underlying145 rfl rfl Tryd.underlying9 (show Tryd.prog.cellsOf 145 = 1 by kernel_rfl) (show Tryd.prog.cellsOf 9 = 1 by kernel_rfl)
  refine ⟨?_, Lib.tabIs_of_head (show Tryd.prog.globalNamed "internal/strconv.uint64pow10" = some 17 by kernel_rfl) (show (Tryd.prog.globals[17]?).map (·.type) = some 118 by kernel_rfl) Tryd.underlying118 Tryd.underlying102 (show Tryd.prog.cellsOf 102 = 1 by kernel_rfl) (show Tryd.prog.cellsOf 118 = 20 by kernel_rfl) h2, trivial⟩
  intro g hg
  simp only [List.mem_cons, List.not_mem_nil, or_false] at hg
  rcases hg with rfl | rfl | rfl
  · exact isErr_of (show Tryd.prog.globalNamed "truchman/api.ErrForm" = some 0 by kernel_rfl) v0 ⟨_, _, rfl⟩
  · exact isErr_of (show Tryd.prog.globalNamed "strconv.ErrSyntax" = some 20 by kernel_rfl) v20 ⟨_, _, rfl⟩
  · exact isErr_of (show Tryd.prog.globalNamed "strconv.ErrRange" = some 21 by kernel_rfl) v21 ⟨_, _, rfl⟩
theorem contract_rawEvents (H : Type) (enc : TypeId × Value → H) (W : World) (base : Nat) (args : Array Value) (ds gs : List (DataW H)) (before : List MemPlace)
    (hval : ∀ (j : Nat) t v, Tryd.f4.params[j]? = some t → args[j]? = some v → Value.okWide Tryd.prog W .any base t v)
    (hW : DataW.Whole enc Tryd.prog Tryd.f4.params.toList Rows.rawEventsSpec.vars false W args.toList ds gs before) (hL : laidMetH Tryd.prog Rows.rawEventsRow.laid W) :
    Calls Tryd.prog 4 args W fun e W' => ∃ v, e = .returned v ∧ Rows.rawEventsSpec.post enc Tryd.prog Tryd.f4 false true false false W args v W' := by
  have hW' := hW
  obtain ⟨p, q, hA0, hV, rfl, hfz, hnd⟩ := hW
  have hA : DataW.TrodAll enc Tryd.prog W 0 (fun _ => true) true Tryd.f4.params.toList args.toList ds p := hA0
  rw [Tryd.params4] at hA hval
  obtain ⟨v0, v1, d0, d1, p0, p1, rfl, rfl, rfl, h0, h1⟩ := trodAll_two hA
  obtain ⟨x0, cs0, rfl, g0⟩ := argx_struct rdx_25 Tryd.underlying25 (hval 0 25 v0 rfl rfl) h0
  obtain ⟨u0_1, u0_2, rfl, f0_1, f0_2⟩ := kraw_Event_open g0
  obtain ⟨x1, cs1, rfl, g1⟩ := argx_struct rdx_25 Tryd.underlying25 (hval 1 25 v1 rfl rfl) h1
  obtain ⟨u1_1, u1_2, rfl, f1_1, f1_2⟩ := kraw_Event_open g1
  obtain ⟨rfl, rfl⟩ := trodVars_none hV
  refine (Law_RawEvents_c (glob_rawEvents hL) (rawEvents_true x0 x1) f0_1 f0_2 f1_1 f1_2 (sat_start W)).mono fun e W' ⟨K', _, hs, he⟩ => ⟨_, he, ?_⟩
  have hb := below_of_sat hs
  exact post_true rfl hW' rfl rfl Tryd.underlying4 laidOut (fun t ht => by
    have : t = 25 := by
      have ht' : t ∈ (#[25, 25] : Array TypeId).toList := by rw [← Tryd.params4]; exact ht
      simpa using ht'
    subst this
    exact ⟨by kernel_rfl, of_decide_eq_true (by kernel_rfl)⟩) hb
noncomputable def low_rawEvents : Nat := (World.holding Tryd.prog default ⟨#[], #[], []⟩).heap.size
noncomputable def laidWorld_rawEvents (os : Os) : World :=
  let w0 := World.holding Tryd.prog os ⟨#[.cells #[.string ⟨(match Rows.laid_strconv_ErrRange (H := Unit) with | .iface _ (.ptr (.agg [.lit (.string s)])) => s | _ => []).toArray⟩] 145, .cells #[.string ⟨(match Rows.laid_strconv_ErrSyntax (H := Unit) with | .iface _ (.ptr (.agg [.lit (.string s)])) => s | _ => []).toArray⟩] 145, .cells #[.string ⟨(match Rows.laid_truchman_api_ErrForm (H := Unit) with | .iface _ (.ptr (.agg [.lit (.string s)])) => s | _ => []).toArray⟩] 145], #[], []⟩
  { w0 with heap := (setVar (setVar (setVar (setVar (setVar (setVar (setVar (setVar w0.heap 22 (flatD Rows.laid_math_bits_deBruijn32tab)) 23 (flatD Rows.laid_math_bits_deBruijn64tab)) 17 (flatD Rows.laid_internal_strconv_uint64pow10)) 19 (flatD Rows.laid_unicode_utf8_acceptRanges)) 21 [.iface 143 (.pointer (some ⟨low_rawEvents + 0, 0, none⟩))]) 20 [.iface 143 (.pointer (some ⟨low_rawEvents + 1, 0, none⟩))]) 0 [.iface 143 (.pointer (some ⟨low_rawEvents + 2, 0, none⟩))]) 18 (flatD Rows.laid_unicode_utf8_first)) }
noncomputable def args_rawEvents : Array Value := #[.agg #[.int .i64 0, .int .i64 0, .slice none 0 0, .slice none 0 0], .agg #[.int .i64 0, .int .i64 0, .slice none 0 0, .slice none 0 0]]
theorem laid_met_rawEvents (os : Os) : laidMet Tryd.prog Rows.rawEventsRow.laid ((laidWorld_rawEvents os).forCall (fun _ _ => 0) ⟨#[], args_rawEvents, []⟩).memory :=
  laidMet_of_run3 8 (by kernel_rfl) (by kernel_rfl) (by kernel_rfl)
theorem reads_rawEvents (os : Os) {H : Type} (enc : TypeId × Value → H) : ∃ ds places, DataW.whole enc Tryd.prog ((laidWorld_rawEvents os).forCall (fun _ _ => 0) ⟨#[], args_rawEvents, []⟩).memory Tryd.f4.params.toList Rows.rawEventsSpec.vars false args_rawEvents.toList 8 = some (ds, [], places) :=
  ⟨[.agg [.lit (.int .i64 0), .lit (.int .i64 0), .nil, .nil], .agg [.lit (.int .i64 0), .lit (.int .i64 0), .nil, .nil]], [], by kernel_rfl⟩
theorem lifted_rawEvents (os : Os) (started : os.Started) (H : Type) (enc : TypeId × Value → H) (F : Stop.Interp) :
    ReturnsInHanded {} Tryd.checked os 4 .any ((OpenSpec.ofChange Rows.rawEventsSpec).preRow enc Tryd.prog Tryd.f4 Rows.rawEventsRow.domain false Rows.rawEventsRow.laid) (((OpenSpec.ofChange Rows.rawEventsSpec).at F).post enc Tryd.prog Tryd.f4 false true false false) := by
  obtain ⟨ds, places, hx⟩ := reads_rawEvents os enc
  refine returnsInHanded_of_row (C := Tryd.checked) (s := OpenSpec.ofChange Rows.rawEventsSpec) own started (by kernel_rfl) Tryd.func4
    (witness_row_at (enc := enc) (C := Tryd.checked) false (laidWorld_rawEvents os) args_rawEvents rfl (by kernel_rfl) (by kernel_rfl) (by kernel_rfl)
      (OpenSpec.preRow_of_cond 8 hx (by kernel_rfl) (fun k hk => by cases hk) (by kernel_rfl) (laid_met_rawEvents os))) ?_
  intro W base args ds gs before hval hW _ _ _ hL _ _
  exact contract_rawEvents H enc W base args ds gs before hval hW hL
theorem said_rawEvents : Rows.RawEventsSaid :=
  OpenClaim.holds_of_cond 4 Tryd.f4 rfl rfl rfl rfl rfl rfl rfl ⟨rfl, rfl, rfl, rfl, rfl⟩ rfl rfl rfl rfl rfl (by kernel_rfl) Tryd.func4 (by kernel_rfl)
    (of_decide_eq_true (by kernel_rfl)) (by unfold Func.isWrapper; first | (rw [if_pos (by decide +kernel)]; kernel_rfl) | (rw [if_neg (by decide +kernel)]; exact ⟨rfl, rfl⟩))
    (fun os started H enc _ F => by rw [OpenClaim.pre_eq_preRow]; exact lifted_rawEvents os started H enc F)
theorem plain_rawEvents (f : FuncId) (fn : Func) (hf : Tryd.pinned.checked.prog.funcNamed "truchman/truchmanlaw36.RawEvents" = some f) (hfn : Tryd.pinned.checked.prog.funcs[f]? = some fn) :
    true = Tryd.pinned.checked.prog.looks [] ∧ ∀ (j : Nat) t, fn.params[j]? = some t → Tryd.pinned.checked.prog.wantsStandIn t = false := by
  obtain rfl : f = 4 := Option.some.inj ((show Tryd.prog.funcNamed "truchman/truchmanlaw36.RawEvents" = some 4 by kernel_rfl).symm.trans hf) |>.symm
  obtain rfl : fn = Tryd.f4 := (Option.some.inj (Tryd.func4.symm.trans hfn)).symm
  refine ⟨by kernel_rfl, fun j t ht => ?_⟩
  rw [Tryd.params4] at ht
  have : t = 25 := by
    have := Array.mem_of_getElem? ht
    simpa using this
  subst this
  exact (show Tryd.prog.wantsStandIn 25 = false by kernel_rfl)
/-- THE CARD: every input, true; the arguments read as they did. -/
theorem rawEvents_card : Rows.RawEventsCardSaid :=
  Claim7.holds_tied_plain_at .later [] _ _ _ _ said_rawEvents (fun _ h => by cases h) (by kernel_rfl) (fun _ h => by cases h) rawEvents_row_tie rfl ⟨rfl, rfl⟩ (by kernel_rfl) rfl plain_rawEvents (by kernel_rfl)
end Go.Proofs.YthjfnknhcmhmiaaDoor
