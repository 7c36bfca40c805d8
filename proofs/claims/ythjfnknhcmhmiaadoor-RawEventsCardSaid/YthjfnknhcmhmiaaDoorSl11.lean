/-
  The memory logic, eleventh part: sentinel errors; function values; a row's length.
-/
import Derived.Test.YthjfnknhcmhmiaaDoorSl10
set_option linter.unusedVariables false
set_option linter.unusedSimpArgs false
namespace Go.Proofs.YthjfnknhcmhmiaaDoor.Sl
open Go Go.RowKit

/-! ### 1. Errors: none, or the package variable's number -/
def gval (w0 : World) (g : Nat) : Value :=
  match cellH (hp w0) ⟨g, 0, none⟩ with
  | some (.iface T (.pointer (some ad))) => .iface T (.pointer (some ad))
  | _ => .iface 0 (.pointer (some ⟨0, 0, none⟩))
def eV (w0 : World) : Option Nat → Value
  | none => .nilIface
  | some g => gval w0 g
def IsErr (w0 : World) (g : Nat) : Prop := ∃ T ad, cellH (hp w0) ⟨g, 0, none⟩ = some (.iface T (.pointer (some ad)))
theorem gval_iface (w0 : World) (g : Nat) : ∃ T ad, gval w0 g = .iface T (.pointer (some ad)) := by
  unfold gval; split
  · exact ⟨_, _, rfl⟩
  · exact ⟨_, _, rfl⟩
theorem gval_cell {w0 : World} {g : Nat} (h : IsErr w0 g) : cellH (hp w0) ⟨g, 0, none⟩ = some (gval w0 g) := by
  obtain ⟨T, ad, h⟩ := h
  unfold gval; rw [h]
theorem eV_one (w0 : World) (e : Option Nat) : (eV w0 e).oneCell' = true := by
  cases e with
  | none => rfl
  | some g => obtain ⟨T, ad, h⟩ := gval_iface w0 g; show (gval w0 g).oneCell' = true; rw [h]; rfl
section
variable {P : Program} {o : Oper} {a : Act} {w w0 : World} {Kn : Hp} {L : List SP}
theorem r_ldG {t : TypeId} {x : Operand} {g : Nat} (ho : o.op = .load t x) (ht : aggT P t = some false) (hx : a.eval x = .pointer (some ⟨g, 0, none⟩)) (hG : IsErr w0 g) (hR : Rd w0 Kn L w) : (execOp a.eval o).run P w = .ok (.value (eV w0 (some g))) w := by
  obtain ⟨K', hk, hs⟩ := hR
  exact r_ld1 ho ht hx (hs.cell (cellH_mono hs.base (gval_cell hG)))
def ifaceT (P : Program) (t : TypeId) : Option Bool := (P.underlying t).map fun | .interface _ => true | _ => false
theorem ifaceT_parts {t : TypeId} (h : ifaceT P t = some true) : ∃ ms, P.underlying t = some (.interface ms) := by
  unfold ifaceT at h
  cases hu : P.underlying t with
  | none => simp [hu] at h
  | some td => cases td <;> simp [hu] at h; exact ⟨_, rfl⟩
theorem eqI_nn {w : World} {d : Nat} {t : TypeId} {ms} (hu : P.underlying t = some (.interface ms)) : (Op.equalIn (d + 1) t .nilIface .nilIface).run P w = .ok true w := by simp [Op.equalIn, run_underlying hu]
theorem eqI_in {w : World} {d : Nat} {t T : TypeId} {v : Value} {ms} (hu : P.underlying t = some (.interface ms)) : (Op.equalIn (d + 1) t (.iface T v) .nilIface).run P w = .ok false w := by simp [Op.equalIn, run_underlying hu]
theorem run_eql_if {w : World} {t : TypeId} {x : Value} (h : x = .nilIface ∨ ∃ T v, x = .iface T v) : (binOp .eql t x .nilIface).run P w = ((Op.equalIn 10000 t x .nilIface).run P w).andThen fun b w' => .ok (.bool b) w' := by
  rcases h with rfl | ⟨T, v, rfl⟩
  · simp only [binOp]; simp [Op.equal, Op.maxDepth]
  · simp only [binOp]; simp [Op.equal, Op.maxDepth]
theorem run_neq_if {w : World} {t : TypeId} {x : Value} (h : x = .nilIface ∨ ∃ T v, x = .iface T v) : (binOp .neq t x .nilIface).run P w = ((Op.equalIn 10000 t x .nilIface).run P w).andThen fun b w' => .ok (.bool (!b)) w' := by
  rcases h with rfl | ⟨T, v, rfl⟩
  · simp only [binOp]; simp [Op.equal, Op.maxDepth]
  · simp only [binOp]; simp [Op.equal, Op.maxDepth]
theorem r_errnil {t u : TypeId} {x : Operand} {e : Option Nat} (ho : o.op = .binOp .eql t x (.const .nilIface) u) (ht : ifaceT P t = some true) (hx : a.eval x = eV w0 e) : (execOp a.eval o).run P w = .ok (.value (.bool e.isNone)) w := by
  obtain ⟨ms, hu⟩ := ifaceT_parts ht
  have hy : a.eval (.const .nilIface) = .nilIface := rfl
  cases e with
  | none =>
    have hx : a.eval x = .nilIface := hx
    refine r_bin ho (by rw [hx, hy]; simp [eqGuard]) ?_
    rw [hx, hy, run_eql_if (.inl rfl), eqI_nn (d := 9999) hu]; rfl
  | some g =>
    obtain ⟨T, ad, hg⟩ := gval_iface w0 g
    have hx : a.eval x = .iface T (.pointer (some ad)) := hx.trans hg
    refine r_bin ho (by rw [hx, hy]; simp [eqGuard]) ?_
    rw [hx, hy, run_eql_if (.inr ⟨_, _, rfl⟩), eqI_in (d := 9999) hu]; rfl
theorem r_errnot {t u : TypeId} {x : Operand} {e : Option Nat} (ho : o.op = .binOp .neq t x (.const .nilIface) u) (ht : ifaceT P t = some true) (hx : a.eval x = eV w0 e) : (execOp a.eval o).run P w = .ok (.value (.bool e.isSome)) w := by
  obtain ⟨ms, hu⟩ := ifaceT_parts ht
  have hy : a.eval (.const .nilIface) = .nilIface := rfl
  cases e with
  | none =>
    have hx : a.eval x = .nilIface := hx
    refine r_bin ho (by rw [hx, hy]; simp [eqGuard]) ?_
    rw [hx, hy, run_neq_if (.inl rfl), eqI_nn (d := 9999) hu]; rfl
  | some g =>
    obtain ⟨T, ad, hg⟩ := gval_iface w0 g
    have hx : a.eval x = .iface T (.pointer (some ad)) := hx.trans hg
    refine r_bin ho (by rw [hx, hy]; simp [eqGuard]) ?_
    rw [hx, hy, run_neq_if (.inr ⟨_, _, rfl⟩), eqI_in (d := 9999) hu]; rfl

theorem sl_one {α : Type} {d : Kd α} {K : Hp} {v : Value} {xs : List α} (h : d.sl K v xs) : v.oneCell' = true := by
  obtain ⟨A, c, rfl, _⟩ := sl_val h; rfl
theorem ones_nil : ∀ u ∈ ([] : List Value), u.oneCell' = true := fun _ h => by cases h
theorem ones_cons {v : Value} {vs : List Value} (h : v.oneCell' = true) (t : ∀ u ∈ vs, u.oneCell' = true) : ∀ u ∈ v :: vs, u.oneCell' = true := fun u hu => by
  rcases List.mem_cons.1 hu with rfl | hu
  · exact h
  · exact t u hu
theorem row_one {α : Type} {d : Kd α} {e : TypeId} {v : Value} {xs : List α} (h : Sat w0 w Kn (SP.row d e v xs :: L)) : v.oneCell' = true := by
  obtain ⟨A, c, rfl, _⟩ := h.row_slice; rfl

/-! ### 2. Rows -/
theorem r_len_row {α : Type} {d : Kd α} {t e e' : TypeId} {x : Operand} {v : Value} {xs : List α} (ho : o.op = .call { callee := .builtin .len, args := #[x], argTypes := #[t] }) (ht : P.underlying t = some (.slice e)) (hx : a.eval x = v) (h : Sat w0 w Kn (SP.row d e' v xs :: L)) : (execOp a.eval o).run P w = .ok (.value (.int .i64 xs.length)) w := by
  obtain ⟨A, c, rfl, _, _⟩ := h.row_slice
  exact r_len_slice ho ht hx
/-- an element of a row: its cells, at this world and every one where the row stands -/
theorem row_at {α : Type} {d : Kd α} {e : TypeId} {v : Value} {xs : List α} {i : Int} {x : α} (h : Sat w0 w Kn (SP.row d e v xs :: L)) (hx : ix xs i = some x) (h0 : 0 < d.sz) : ∃ ad cp cs, v = .slice (some ad) xs.length cp ∧ d.rep Kn x cs ∧ 0 ≤ i ∧ i < xs.length ∧ ∀ j u, cs[j]? = some u → w.cell? (ad.add (i.toNat * d.sz + j)) = some u := by
  obtain ⟨h1, h2, h3⟩ := ix_some hx
  obtain ⟨ad, c, cs, rfl, _, hr, hc, _⟩ := h.row_get h0 i.toNat x h3
  exact ⟨ad, c, cs, rfl, hr, h1, h2, hc⟩

/-! ### 3. A function value: what it answers -/
/-- a function's value: what it answers to one argument (a value that bears no memory) -/
def FnD {α β : Type} (P : Program) (w0 : World) (v : Value) (av : α → Value) (rv : β → Value) (p : α → Option β) : Prop :=
  ∃ fid fn c first captured, v = .func (.func fid) first captured ∧ P.funcs[fid]? = some fn ∧ (fn.name == "runtime.NumGoroutine") = false ∧ fn.body = some c ∧
    ∀ {w : World} {K : Hp} {L : List SP} {x : α} {r : β}, p x = some r → Sat w0 w K L → Calls P fid (first ++ [av x].toArray ++ captured) w (fun e w' => ∃ K', Hp.le K K' ∧ Sat w0 w' K' L ∧ e = .returned (rv r))
end
end Go.Proofs.YthjfnknhcmhmiaaDoor.Sl
