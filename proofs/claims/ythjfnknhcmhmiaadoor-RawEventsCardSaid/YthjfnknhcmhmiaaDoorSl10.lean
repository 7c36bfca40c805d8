/-
  The memory logic, tenth part: '==' of structs; errors; function values.
-/
import Derived.Test.YthjfnknhcmhmiaaDoorSl9
import Derived.Laws.StructEq
set_option linter.unusedVariables false
set_option linter.unusedSimpArgs false
namespace Go.Proofs.YthjfnknhcmhmiaaDoor.Sl
open Go Go.RowKit

/-! ### 1. '==' of structs of strings, bools, whole numbers -/
def eqCode (P : Program) (f : Field) : Option Nat :=
  if f.name == "_" then none else match P.underlying f.type with
    | some .string => some 0
    | some .bool => some 1
    | some (.int k) => some 2
    | _ => none
def eqCodes (P : Program) : List Field → Nat → Option (List Nat)
  | [], _ => some []
  | f :: fs, i => if f.offset == i then (eqCode P f).bind fun c => (eqCodes P fs (i + 1)).map fun r => c :: r else none
def eqShape (P : Program) (t : TypeId) : Option (List Nat) :=
  match P.underlying t with
  | some (.struct fs) => if P.stoodInHeld t || P.eqGuardType P.depth t then none else eqCodes P fs.toList 0
  | _ => none
inductive EqS : List Nat → List Value → List Value → Bool → Prop
  | nil : EqS [] [] [] true
  | s {ks us vs a b r} (h : EqS ks us vs r) : EqS (0 :: ks) (strV a :: us) (strV b :: vs) ((a == b) && r)
  | b {ks us vs r} {a b : Bool} (h : EqS ks us vs r) : EqS (1 :: ks) (.bool a :: us) (.bool b :: vs) ((a == b) && r)
  | i {ks us vs k r} {a b : Int} (h : EqS ks us vs r) : EqS (2 :: ks) (.int k a :: us) (.int k b :: vs) ((a == b) && r)
  | c {ks us vs r} {a b : UInt8} (h : EqS ks us vs r) : EqS (2 :: ks) (.int .u8 (b8 a) :: us) (.int .u8 (b8 b) :: vs) ((a == b) && r)
section
variable {P : Program} {o : Oper} {a : Act} {w : World}
theorem run_eqFields {w : World} {d : Nat} {xs ys : List Value} : ∀ {fs : List Field} {i : Nat} {ks : List Nat} {us vs : List Value} {r : Bool}, eqCodes P fs i = some ks → EqS ks us vs r → xs.drop i = us → ys.drop i = vs → (Op.eqFields (d + 1) xs.toArray ys.toArray fs).run P w = .ok r w := by
  intro fs
  induction fs with
  | nil =>
    intro i ks us vs r hk he hx hy
    have : ks = [] := by simpa [eqCodes] using hk.symm
    subst this
    cases he
    simp [Op.eqFields]
  | cons f fs ih =>
    intro i ks us vs r hk he hx hy
    simp only [eqCodes] at hk
    split at hk
    case isFalse => cases hk
    rename_i hoff
    have hoff : f.offset = i := by simpa using hoff
    cases hc : eqCode P f with
    | none => simp [hc] at hk
    | some c =>
      cases hks : eqCodes P fs (i + 1) with
      | none => simp [hc, hks] at hk
      | some ks' =>
        simp only [hc, hks, Option.bind_some, Option.map_some, Option.some.injEq] at hk
        subst hk
        have hne : f.name ≠ "_" := by
          intro e
          simp [eqCode, e] at hc
        have hc' : (match P.underlying f.type with | some .string => some 0 | some .bool => some 1 | some (.int k) => some 2 | _ => none) = some c := by
          have : ¬ (f.name == "_") = true := by simpa using hne
          unfold eqCode at hc
          rw [if_neg this] at hc
          exact hc
        have step : ∀ {u v : Value} {us' vs' : List Value} {p q : Bool}, us = u :: us' → vs = v :: vs' → (∃ td, P.underlying f.type = some td ∧ isAggD td = false) → (Op.equalIn (d + 1) f.type u v).run P w = .ok p w → EqS ks' us' vs' q → (Op.eqFields (d + 1) xs.toArray ys.toArray (f :: fs)).run P w = .ok (p && q) w := by
          intro u v us' vs' p q hu hv ⟨td, htd, hagg⟩ he' hr
          have hxi : xs[i]? = some u := by
            have := congrArg (·[0]?) hx
            simpa [List.getElem?_drop, hu] using this
          have hyi : ys[i]? = some v := by
            have := congrArg (·[0]?) hy
            simpa [List.getElem?_drop, hv] using this
          have hx' : xs.drop (i + 1) = us' := by
            have := congrArg (List.drop 1) hx
            simpa [List.drop_drop, hu, Nat.add_comm] using this
          have hy' : ys.drop (i + 1) = vs' := by
            have := congrArg (List.drop 1) hy
            simpa [List.drop_drop, hv, Nat.add_comm] using this
          have hrest := ih hks hr hx' hy'
          have hp : ∀ (cs : List Value) (z : Value), cs[i]? = some z → (part f.type cs.toArray f.offset).run P w = .ok z w := by
            intro cs z hz
            rw [hoff]
            cases td <;> simp [isAggD] at hagg <;> simp [part, isAgg, run_underlying htd, hz]
          rw [Op.eqFields]
          simp only [if_pos hne, Sem.run_bind, hp xs u hxi, hp ys v hyi, he', Result.andThen_ok]
          cases p
          · simp
          · simpa using hrest
        cases he with
        | s h =>
          have ht : P.underlying f.type = some .string := by
            revert hc'; cases P.underlying f.type with
            | none => simp
            | some td => cases td <;> simp
          refine step rfl rfl ⟨_, ht, rfl⟩ ?_ h
          have := run_equalIn_string (P := P) w d f.type
          simp only [strV]
          rw [this _ _ ht, strV_eq]
        | b h =>
          have ht : P.underlying f.type = some .bool := by
            revert hc'; cases P.underlying f.type with
            | none => simp
            | some td => cases td <;> simp
          exact step rfl rfl ⟨_, ht, rfl⟩ (run_equalIn_bool' (P := P) w d f.type _ _ ht) h
        | i h =>
          have ht : ∃ k, P.underlying f.type = some (.int k) := by
            revert hc'; cases P.underlying f.type with
            | none => simp
            | some td => cases td <;> simp
          obtain ⟨k', ht⟩ := ht
          exact step rfl rfl ⟨_, ht, rfl⟩ (run_equalIn_int (P := P) w d f.type _ k' _ _ ht) h
        | c h =>
          have ht : ∃ k, P.underlying f.type = some (.int k) := by
            revert hc'; cases P.underlying f.type with
            | none => simp
            | some td => cases td <;> simp
          obtain ⟨k', ht⟩ := ht
          refine step rfl rfl ⟨_, ht, rfl⟩ ?_ h
          rw [run_equalIn_int (P := P) w d f.type _ k' _ _ ht, b8_eq]
theorem eqShape_parts {t : TypeId} {ks : List Nat} (h : eqShape P t = some ks) : P.underlying t = some (.struct (P.fieldsOf t)) ∧ P.stoodInHeld t = false ∧ P.eqGuardType P.depth t = false ∧ eqCodes P (P.fieldsOf t).toList 0 = some ks := by
  unfold eqShape at h
  cases ht : P.underlying t with
  | none => simp [ht] at h
  | some td =>
    cases td <;> simp only [ht] at h <;> try (cases h; done)
    rename_i fs
    have hf : P.fieldsOf t = fs := by simp [Program.fieldsOf, ht]
    split at h
    · cases h
    · rename_i hn
      simp only [Bool.or_eq_true, not_or, Bool.not_eq_true] at hn
      exact ⟨by rw [hf], hn.1, hn.2, by rw [hf]; exact h⟩
theorem r_eqst {t u : TypeId} {x y : Operand} {xs ys : List Value} {ks : List Nat} {r : Bool} (ho : o.op = .binOp .eql t x y u) (hs : eqShape P t = some ks) (hx : a.eval x = .agg xs.toArray) (hy : a.eval y = .agg ys.toArray) (he : EqS ks xs ys r) : (execOp a.eval o).run P w = .ok (.value (.bool r)) w := by
  obtain ⟨h1, h2, h3, h4⟩ := eqShape_parts hs
  refine r_bin ho (by rw [hx, hy]; exact run_eqGuard_agg (P := P) w .eql t x y _ _ h3) ?_
  rw [hx, hy, run_eql_struct, run_equalIn_struct (P := P) w 9999 t _ _ h1 h2, run_eqFields h4 he (by simp) (by simp)]
  rfl
theorem r_nest {t u : TypeId} {x y : Operand} {xs ys : List Value} {ks : List Nat} {r : Bool} (ho : o.op = .binOp .neq t x y u) (hs : eqShape P t = some ks) (hx : a.eval x = .agg xs.toArray) (hy : a.eval y = .agg ys.toArray) (he : EqS ks xs ys r) : (execOp a.eval o).run P w = .ok (.value (.bool (!r))) w := by
  obtain ⟨h1, h2, h3, h4⟩ := eqShape_parts hs
  refine r_bin ho (by rw [hx, hy]; exact run_eqGuard_agg (P := P) w .neq t x y _ _ h3) ?_
  rw [hx, hy, run_neq_struct, run_equalIn_struct (P := P) w 9999 t _ _ h1 h2, run_eqFields h4 he (by simp) (by simp)]
  rfl
end
end Go.Proofs.YthjfnknhcmhmiaaDoor.Sl
