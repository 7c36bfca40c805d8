/-
  Chapter 30: the law that right pieces, quoted, are one token: its row and its card. For every input; the listed variables lie as the program's text lays them.
-/
import Derived.Test.YtekcconmnhjhiaaDoorC5
import Derived.Test.YtekcconmnhjhiaaDoorP9
set_option linter.unusedVariables false
set_option linter.unusedSimpArgs false
set_option maxRecDepth 100000
namespace Go.Proofs.YtekcconmnhjhiaaDoor
open Go Go.RowKit Sl Go.ChangeShapes Go.WideShapes Go.ChangeAt

theorem argInt {H : Type} {enc : TypeId × Value → H} {W : World} {b : Nat} {v : Value} {d : DataW H} {p : List MemPlace} (hv : Value.okWide Tryd.prog W .any b 3 v) (hr : DataW.Trod enc Tryd.prog W 0 (fun _ => true) true 3 v d p) : ∃ n : Int, v = Value.int .i64 n := by
  obtain ⟨n, rfl, _⟩ := okWide_int Tryd.underlying3 hv
  exact ⟨n, rfl⟩
theorem contractB (H : Type) (enc : TypeId × Value → H) (W : World) (base : Nat) (args : Array Value) (ds gs : List (DataW H)) (before : List MemPlace)
    (hval : ∀ (j : Nat) t v, Tryd.f4.params[j]? = some t → args[j]? = some v → Value.okWide Tryd.prog W .any base t v)
    (hW : DataW.Whole enc Tryd.prog Tryd.f4.params.toList Rows.wordsBackSpec.vars false W args.toList ds gs before) (hL : laidMetH Tryd.prog Rows.wordsBackRow.laid W) :
    Calls Tryd.prog 4 args W fun e W' => ∃ v, e = .returned v ∧ Rows.wordsBackSpec.post enc Tryd.prog Tryd.f4 false true false false W args v W' := by
  have hW' := hW
  obtain ⟨p, q, hA0, hV, rfl, hfz, hnd⟩ := hW
  have hA : DataW.TrodAll enc Tryd.prog W 0 (fun _ => true) true Tryd.f4.params.toList args.toList ds p := hA0
  rw [Tryd.params4] at hA hval
  obtain ⟨v0, v1, d0, d1, p0, p1, rfl, rfl, rfl, h0, h1⟩ := trodAll_two hA
  obtain ⟨l, hl⟩ := argSlice (hval 0 22 v0 rfl rfl) h0
  obtain ⟨k, rfl⟩ := argInt (hval 1 3 v1 rfl rfl) h1
  obtain ⟨rfl, rfl⟩ := trodVars_none hV
  refine (Law_WordsBack_c (glob_of hL) (wordsBack_true l k) hl (sat_start W)).mono fun e W' ⟨K', _, hs, he⟩ => ⟨_, he, ?_⟩
  have hb := below_of_sat hs
  exact post_true rfl hW' rfl rfl Tryd.underlying4 laidOut (fun t ht => by
    have : t = 22 ∨ t = 3 := by
      have ht' : t ∈ (#[22, 3] : Array TypeId).toList := by rw [← Tryd.params4]; exact ht
      simpa using ht'
    rcases this with rfl | rfl
    · exact ⟨by kernel_rfl, of_decide_eq_true (by kernel_rfl)⟩
    · exact ⟨by kernel_rfl, of_decide_eq_true (by kernel_rfl)⟩) hb
noncomputable def args1_ : Array Value := #[.slice none 0 0, .int .i64 0]
theorem laid_metB (os : Os) : laidMet Tryd.prog Rows.wordsBackRow.laid ((laidWorld os).forCall (fun _ _ => 0) ⟨#[], args1_, []⟩).memory :=
  laidMet_of_run (ps := [.cell 2 0, .cell (low + 2) 0, .cell 0 0, .cell low 0, .cell 1 0, .cell (low + 1) 0]) 8 (by kernel_rfl) (by kernel_rfl) (by kernel_rfl)
theorem readsB (os : Os) {H : Type} (enc : TypeId × Value → H) : ∃ ds places, DataW.whole enc Tryd.prog ((laidWorld os).forCall (fun _ _ => 0) ⟨#[], args1_, []⟩).memory Tryd.f4.params.toList Rows.wordsBackSpec.vars false args1_.toList 8 = some (ds, [], places) :=
  ⟨[.nil, .lit (.int .i64 0)], [], by kernel_rfl⟩
theorem liftedB (os : Os) (started : os.Started) (H : Type) (enc : TypeId × Value → H) (F : Stop.Interp) :
    ReturnsInHanded {} Tryd.checked os 4 .any ((OpenSpec.ofChange Rows.wordsBackSpec).preRow enc Tryd.prog Tryd.f4 Rows.wordsBackRow.domain false Rows.wordsBackRow.laid) (((OpenSpec.ofChange Rows.wordsBackSpec).at F).post enc Tryd.prog Tryd.f4 false true false false) := by
  obtain ⟨ds, places, hx⟩ := readsB os enc
  refine returnsInHanded_of_row (C := Tryd.checked) (s := OpenSpec.ofChange Rows.wordsBackSpec) own started (by kernel_rfl) Tryd.func4
    (witness_row_at (enc := enc) (C := Tryd.checked) false (laidWorld os) args1_ rfl (by kernel_rfl) (by kernel_rfl) (by kernel_rfl)
      (OpenSpec.preRow_of_cond 8 hx (by kernel_rfl) (fun k hk => by cases hk) (by kernel_rfl) (laid_metB os))) ?_
  intro W base args ds gs before hval hW _ _ _ hL _ _
  exact contractB H enc W base args ds gs before hval hW hL
theorem saidB : Rows.WordsBackSaid :=
  OpenClaim.holds_of_cond 4 Tryd.f4 rfl rfl rfl rfl rfl rfl rfl ⟨rfl, rfl, rfl, rfl, rfl⟩ rfl rfl rfl rfl rfl (by kernel_rfl) Tryd.func4 (by kernel_rfl)
    (of_decide_eq_true (by kernel_rfl)) (by unfold Func.isWrapper; first | (rw [if_pos (by decide +kernel)]; kernel_rfl) | (rw [if_neg (by decide +kernel)]; exact ⟨rfl, rfl⟩))
    (fun os started H enc _ F => by rw [OpenClaim.pre_eq_preRow]; exact liftedB os started H enc F)
theorem plain_back (f : FuncId) (fn : Func) (hf : Tryd.pinned.checked.prog.funcNamed "truchman/truchmanlaw30.WordsBack" = some f) (hfn : Tryd.pinned.checked.prog.funcs[f]? = some fn) :
    false = Tryd.pinned.checked.prog.looks [] ∧ ∀ (j : Nat) t, fn.params[j]? = some t → Tryd.pinned.checked.prog.wantsStandIn t = false := by
  obtain rfl : f = 4 := Option.some.inj ((show Tryd.prog.funcNamed "truchman/truchmanlaw30.WordsBack" = some 4 by kernel_rfl).symm.trans hf) |>.symm
  obtain rfl : fn = Tryd.f4 := (Option.some.inj (Tryd.func4.symm.trans hfn)).symm
  refine ⟨by kernel_rfl, fun j t ht => ?_⟩
  rw [Tryd.params4] at ht
  have : t = 22 ∨ t = 3 := by
    have := Array.mem_of_getElem? ht
    simpa using this
  rcases this with rfl | rfl
  · exact (show Tryd.prog.wantsStandIn 22 = false by kernel_rfl)
  · exact (show Tryd.prog.wantsStandIn 3 = false by kernel_rfl)
/-- THE CARD: every input, true; the arguments read as they did. -/
theorem wordsBack_card : Rows.WordsBackCardSaid :=
  Claim7.holds_tied_plain_at .later [] _ _ _ _ saidB (fun _ h => by cases h) (by kernel_rfl) (fun _ h => by cases h) wordsBack_row_tie rfl ⟨rfl, rfl⟩ (by kernel_rfl) rfl plain_back (by kernel_rfl)
end Go.Proofs.YtekcconmnhjhiaaDoor
