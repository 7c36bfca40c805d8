/-
  The memory logic, seventeenth part: three effects that may come up in any order; arrays: elements' places, '=='.
-/
import Derived.Test.YthjfnknhcmhmiaaDoorSl15
set_option linter.unusedVariables false
set_option linter.unusedSimpArgs false
namespace Go.Proofs.YthjfnknhcmhmiaaDoor.Sl
open Go Go.RowKit

section
variable {P : Program} {n : Nat} {D : List Deferred} {a : Act} {w w' : World} {o : Oper} {ops : Array Oper} {Q : Exit → Act → World → Prop}
/-- three that may come up now -/
def threeB (ops : Array Oper) (l l1 l2 l3 : Array Bool) (i j k : Nat) : Bool := (Region.ready .any ops l == [i, j, k]) && (l.setIfInBounds i true == l1) && (l.setIfInBounds j true == l2) && (l.setIfInBounds k true == l3)
variable {ol : List Oper} {T : List (Nat × (World → Prop))} {fuel : Nat} {l : Array Bool}
theorem dk_three {i j k : Nat} {oi oj ok : Oper} (l1 l2 l3 : Array Bool) (hi : ol[i]? = some oi) (hj : ol[j]? = some oj) (hk : ol[k]? = some ok) (hc : threeB ol.toArray l l1 l2 l3 i j k = true) (hgi : oi.guard = none) (hgj : oj.guard = none) (hgk : ok.guard = none)
    (h : oi.wp P a w (fun a' w' => Dem ol.toArray T i w w' ∧ wpT P ol.toArray (NoPanic Q) fuel T l1 a' w') (NoPanic Q)) (h' : oj.wp P a w (fun a' w' => Dem ol.toArray T j w w' ∧ wpT P ol.toArray (NoPanic Q) fuel T l2 a' w') (NoPanic Q))
    (h'' : ok.wp P a w (fun a' w' => Dem ol.toArray T k w w' ∧ wpT P ol.toArray (NoPanic Q) fuel T l3 a' w') (NoPanic Q)) : wpT P ol.toArray (NoPanic Q) (fuel + 1) T l a w := by
  have hi : ol.toArray[i]? = some oi := by simpa using hi
  have hj : ol.toArray[j]? = some oj := by simpa using hj
  have hk : ol.toArray[k]? = some ok := by simpa using hk
  simp only [threeB, Bool.and_eq_true, beq_iff_eq] at hc
  obtain ⟨⟨⟨hr, rfl⟩, rfl⟩, rfl⟩ := hc
  refine ⟨fun h0 => (by rw [hr] at h0; cases h0), fun q hq => ?_⟩
  rw [hr, List.mem_cons, List.mem_cons, List.mem_singleton] at hq
  unfold wpOp
  rcases hq with rfl | rfl | rfl
  · simp only [hi]
    rw [if_pos (by simp [Region.wanted, hgi])]
    exact .inl h
  · simp only [hj]
    rw [if_pos (by simp [Region.wanted, hgj])]
    exact .inl h'
  · simp only [hk]
    rw [if_pos (by simp [Region.wanted, hgk])]
    exact .inl h''
theorem _root_.Go.Proofs.YthjfnknhcmhmiaaDoor.Sl.Slots.knownI {σ : Sg} {k : Nat} {kd : IntKind} {c b : Int} (hS : Slots n D a σ) (hl : look σ k = some (.int kd c)) (hc : (c == b) = true) : Slots n D a ((k, .int kd b) :: σ) := by
  have hc := eq_of_beq hc
  subst hc
  refine ⟨hS.size, hS.defers, fun i u hi => ?_⟩
  simp only [look] at hi
  cases hb : Nat.beq i k with
  | true => rw [hb] at hi; rw [Nat.eq_of_beq_eq_true hb, ← hi]; exact hS.get k _ hl
  | false => rw [hb] at hi; exact hS.get i u hi
/-! arrays -/
def arrayT (P : Program) (t : TypeId) : Option (Nat × TypeId) := match P.underlying t with | some (.array n e) => some (n, e) | _ => none
theorem arrayT_is {t e : TypeId} {n : Nat} (h : arrayT P t = some (n, e)) : P.underlying t = some (.array n e) := by
  unfold arrayT at h
  cases ht : P.underlying t with
  | none => simp [ht] at h
  | some td =>
    cases td <;> simp [ht] at h
    obtain ⟨rfl, rfl⟩ := h
    rfl
theorem r_idx_ar {t e : TypeId} {x y : Operand} {n g m sz bytes : Nat} {i : Nat} {k : IntKind} {z : Value} (ho : o.op = .indexAddr t x y) (ht : arrayT P t = some (n, e)) (hi : tinfo P e = some (z, sz, bytes)) (hx : a.eval x = .pointer (some ⟨g, m, none⟩)) (hy : a.eval y = .int k (i : Int)) (h1 : i < n) : (execOp a.eval o).run P w = .ok (.value (.pointer (some ⟨g, m + i * sz, none⟩))) w := by
  obtain ⟨ti, h, _, hs, _⟩ := tinfo_parts hi
  have ht := arrayT_is ht
  subst hs
  unfold execOp; rw [ho]
  have h1' : (i : Int) < (n : Int) := by omega
  simp [hx, hy, Instr.indexAt, Instr.sureAddr, asIntOf, run_underlying ht, sizeOf, typeInfo, h, h1', Addr.add_lit]
  intro hh; omega
theorem run_eqArr {w : World} {d n : Nat} {t e : TypeId} {k : IntKind} {us vs : List Int} {z : Value} {b : Nat} (ht : P.underlying t = some (.array n e)) (he : P.underlying e = some (.int k)) (hi : tinfo P e = some (z, 1, b)) (hx : us.length = n) (hy : vs.length = n) :
    (Op.equalIn (d + 2) t (.agg (us.map (Value.int k)).toArray) (.agg (vs.map (Value.int k)).toArray)).run P w = .ok (us == vs) w := by
  obtain ⟨ti, h, _, hs, _⟩ := tinfo_parts hi
  have hsz : (sizeOf e).run P w = .ok 1 w := by simp [sizeOf, typeInfo, h, hs]
  rw [Op.equalIn]
  simp only [Sem.run_bind, run_underlying ht, Result.andThen_ok, hsz, Nat.mul_one]
  have hp : ∀ (cs : List Int) (i : Nat) (x : Int), cs[i]? = some x → (part e (cs.map (Value.int k)).toArray i).run P w = .ok (.int k x) w := by
    intro cs i x hc
    simp [part, isAgg, run_underlying he, hc]
  simp only [Std.Legacy.Range.forIn_eq_forIn_range', Std.Legacy.Range.size]
  have key : ∀ (m i : Nat), i + m = n → ((forIn (m := Sem) (List.range' i m) ((none, ()) : Option Bool × Unit) fun i r => do
      let x ← part e (us.map (Value.int k)).toArray i
      let y ← part e (vs.map (Value.int k)).toArray i
      let r ← Op.equalIn (d + 1) e x y
      if (!r) = true then pure (ForInStep.done (some false, ())) else pure (ForInStep.yield (none, ()))).run P w) = .ok (if us.drop i == vs.drop i then (none, ()) else (some false, ())) w := by
    intro m
    induction m with
    | zero =>
      intro i him
      have h1 : us.drop i = [] := List.drop_eq_nil_of_le (by omega)
      have h2 : vs.drop i = [] := List.drop_eq_nil_of_le (by omega)
      rw [h1, h2]; simp
    | succ m ih =>
      intro i him
      have hu : us[i]? = some us[i] := List.getElem?_eq_getElem (by omega)
      have hv : vs[i]? = some vs[i] := List.getElem?_eq_getElem (by omega)
      have hdu : us.drop i = us[i] :: us.drop (i + 1) := List.drop_eq_getElem_cons (by omega)
      have hdv : vs.drop i = vs[i] :: vs.drop (i + 1) := List.drop_eq_getElem_cons (by omega)
      rw [List.range'_succ, List.forIn_cons]
      simp only [Sem.run_bind, hp us i _ hu, hp vs i _ hv, Result.andThen_ok, run_equalIn_int (P := P) w d e k k _ _ he]
      by_cases hq : us[i] = vs[i]
      · rw [show (us[i] == vs[i]) = true from by simp [hq]]
        simp only [Bool.not_true, Bool.false_eq_true, if_false, Sem.run_pure, Result.andThen_ok]
        rw [ih (i + 1) (by omega), hdu, hdv, List.cons_beq_cons, show (us[i] == vs[i]) = true from by simp [hq], Bool.true_and]
      · rw [show (us[i] == vs[i]) = false from by simp [hq]]
        simp only [Bool.not_false, if_true, Sem.run_pure, Result.andThen_ok]
        rw [hdu, hdv, List.cons_beq_cons, show (us[i] == vs[i]) = false from by simp [hq], Bool.false_and]
        rfl
  have := key n 0 (by omega)
  simp only [List.drop_zero] at this
  simp only [Nat.sub_zero, Nat.add_sub_cancel, Nat.div_one]
  rw [this]
  cases us == vs <;> simp
def eqArr (P : Program) (t : TypeId) : Option (Nat × IntKind) := match arrayT P t with
  | some (n, e) => match P.underlying e, tinfo P e with
    | some (.int k), some (_, 1, _) => if P.eqGuardType P.depth t then none else some (n, k)
    | _, _ => none
  | none => none
theorem eqArr_parts {t : TypeId} {n : Nat} {k : IntKind} (h : eqArr P t = some (n, k)) : ∃ e z b, P.underlying t = some (.array n e) ∧ P.underlying e = some (.int k) ∧ tinfo P e = some (z, 1, b) ∧ P.eqGuardType P.depth t = false := by
  unfold eqArr at h
  cases ha : arrayT P t with
  | none => simp [ha] at h
  | some q =>
    obtain ⟨n', e⟩ := q
    simp only [ha] at h
    split at h
    · rename_i k' z b hu hi
      split at h
      · cases h
      · rename_i hg
        obtain ⟨rfl, rfl⟩ := by simpa using h
        exact ⟨e, z, b, arrayT_is ha, hu, hi, by simpa using hg⟩
    · cases h
theorem r_eqar {t u : TypeId} {x y : Operand} {k : IntKind} {us vs : List Int} {xs ys : List Value} {m : Nat} (hxs : xs = us.map (Value.int k)) (hys : ys = vs.map (Value.int k)) (ho : o.op = .binOp .eql t x y u) (hs : eqArr P t = some (m, k)) (hx : a.eval x = .agg xs.toArray) (hy : a.eval y = .agg ys.toArray) (h1 : us.length = m) (h2 : vs.length = m) : (execOp a.eval o).run P w = .ok (.value (.bool (us == vs))) w := by
  obtain ⟨e, z, b, ht, he, hi, hg⟩ := eqArr_parts hs
  subst hxs; subst hys
  refine r_bin ho (by rw [hx, hy]; exact run_eqGuard_agg (P := P) w .eql t x y _ _ hg) ?_
  rw [hx, hy, run_eql_struct, run_eqArr (d := 9998) ht he hi h1 h2]
  rfl
end
end Go.Proofs.YthjfnknhcmhmiaaDoor.Sl
