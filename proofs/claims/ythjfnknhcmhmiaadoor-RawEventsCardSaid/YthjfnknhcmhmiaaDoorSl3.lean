/-
  The memory logic, third part: what a frame's slots hold; each operation's run; pieces of code; a region that draws its order.
-/
import Derived.Test.YthjfnknhcmhmiaaDoorSl2
set_option linter.unusedVariables false
set_option linter.unusedSimpArgs false
namespace Go.Proofs.YthjfnknhcmhmiaaDoor.Sl
open Go Go.RowKit

/-! ### 1. Slots -/
abbrev Sg := List (Nat × Value)
def look : Sg → Nat → Option Value
  | [], _ => none
  | (k, v) :: r, i => match Nat.beq i k with | true => some v | false => look r i
def ev (σ : Sg) : Operand → Option Value
  | .tmp i => look σ i
  | .const v => some v
  | .global g => some (.pointer (some ⟨g, 0, none⟩))
  | .func f => some (.func (.func f) #[] #[])
structure Slots (n : Nat) (D : List Deferred) (a : Act) (σ : Sg) : Prop where
  size : a.tmps.size = n
  defers : a.defers = D
  get : ∀ i v, look σ i = some v → a.tmps[i]? = some v
namespace Slots
variable {n : Nat} {D : List Deferred} {a : Act} {σ σ' : Sg}
theorem ev_ (h : Slots n D a σ) {x : Operand} {v : Value} (hx : ev σ x = some v) : a.eval x = v := by
  cases x with
  | tmp t =>
    have := h.get t v hx
    simp [Act.eval, Array.getD_eq_getD_getElem?, this]
  | const c => exact Option.some.inj hx
  | global g => exact Option.some.inj hx
  | func f => exact Option.some.inj hx
theorem put (h : Slots n D a σ) (d : Nat) (v : Value) (hd : d < n) : Slots n D (a.put (some d) v) ((d, v) :: σ) := by
  refine ⟨by simp [Act.put, h.size], by simp [Act.put, h.defers], fun i u hi => ?_⟩
  simp only [look] at hi
  have hs := h.size
  simp only [Act.put, Array.getElem?_setIfInBounds]
  cases hb : Nat.beq i d with
  | true =>
    rw [hb] at hi
    have : i = d := Nat.eq_of_beq_eq_true hb
    subst this
    simp only [if_true, if_pos (show i < a.tmps.size by omega)]
    exact hi
  | false =>
    rw [hb] at hi
    have : d ≠ i := fun e => by subst e; rw [Nat.beq_refl] at hb; cases hb
    rw [if_neg this]
    exact h.get i u hi
theorem put_none (h : Slots n D a σ) (v : Value) : Slots n D (a.put none v) σ := h
theorem weak (h : Slots n D a σ) (hσ : ∀ p ∈ σ', look σ p.1 = some p.2) : Slots n D a σ' := by
  refine ⟨h.size, h.defers, fun i v hi => h.get i v ?_⟩
  have key : ∀ l : Sg, (∀ p ∈ l, look σ p.1 = some p.2) → look l i = some v → look σ i = some v := by
    intro l
    induction l with
    | nil => intro _ h; cases h
    | cons p l ih =>
      intro hl hi
      obtain ⟨k, u⟩ := p
      simp only [look] at hi
      cases hb : Nat.beq i k with
      | true =>
        rw [hb] at hi
        have := hl (k, u) (List.mem_cons_self)
        rw [show i = k from Nat.eq_of_beq_eq_true hb, ← hi]
        exact this
      | false => rw [hb] at hi; exact ih (fun p hp => hl p (List.mem_cons_of_mem _ hp)) hi
  exact key σ' hσ hi
end Slots
/-- a list of slots is a part of another -/
def SubS (σ' σ : Sg) : Prop := ∀ p ∈ σ', look σ p.1 = some p.2
theorem SubS.nil (σ : Sg) : SubS [] σ := fun _ h => by cases h
theorem SubS.cons {σ' σ : Sg} {k : Nat} {v : Value} (h : look σ k = some v) (r : SubS σ' σ) : SubS ((k, v) :: σ') σ := fun p hp => by
  rcases List.mem_cons.1 hp with rfl | hp
  · exact h
  · exact r p hp
theorem Slots.part {n : Nat} {D : List Deferred} {a : Act} {σ σ' : Sg} (h : Slots n D a σ) (s : SubS σ' σ) : Slots n D a σ' := h.weak s

/-! ### 2. One operation -/
section
variable {P : Program} {o : Oper} {a : Act} {w w' : World} {K : Act → World → Prop} {Q : Exit → Act → World → Prop}
theorem op_val {v : Value} (h : (execOp a.eval o).run P w = .ok (.value v) w') (k : K (a.put o.dst v) w') : o.wp P a w K Q := by unfold Oper.wp; rw [h]; exact k
theorem op_skip (h : (execOp a.eval o).run P w = .ok .skip w') (k : K (a.put o.dst undef) w') : o.wp P a w K Q := by unfold Oper.wp; rw [h]; exact k
theorem op_enter {f : FuncId} {args : Array Value} {R : Ending → World → Prop} (h : (execOp a.eval o).run P w = .ok (.enter f args) w') (hc : Calls P f args w' R) (k : ∀ e w'', R e w'' → ∃ v, e = .returned v ∧ K (a.put o.dst v) w'') : o.wp P a w K Q := by
  unfold Oper.wp
  rw [h]
  refine hc.mono (fun e w'' r => ?_)
  obtain ⟨v, rfl, hk⟩ := k e w'' r
  exact hk
variable {ops : Array Oper} {rest : List Oper}
theorem wl_cons (hg : o.guard = none) (h : o.wp P a w (wpList P ops Q rest) Q) : wpList P ops Q (o :: rest) a w := by
  unfold wpList
  rw [if_pos (by simp [Region.wanted, hg])]
  exact .inl h
theorem wl_want {i : Nat} {b : Bool} {g : Oper} {d : Nat} (hg : o.guard = some (i, b)) (ho : ops[i]? = some g) (hd : g.dst = some d) (hv : a.tmps[d]? = some (.bool b)) (h : o.wp P a w (wpList P ops Q rest) Q) : wpList P ops Q (o :: rest) a w := by
  unfold wpList
  rw [if_pos (by simp [Region.wanted, hg, yielded, ho, hd, Array.getD_eq_getD_getElem?, hv])]
  exact .inl h
theorem wl_off {i : Nat} {b c : Bool} {g : Oper} {d : Nat} (hg : o.guard = some (i, b)) (ho : ops[i]? = some g) (hd : g.dst = some d) (hv : a.tmps[d]? = some (.bool c)) (hne : (c == b) = false) (h : wpList P ops Q rest (a.put o.dst undef) w) : wpList P ops Q (o :: rest) a w := by
  unfold wpList
  rw [if_neg (by simp only [Region.wanted, hg, yielded, ho, hd]; cases b <;> cases c <;> simp_all [Array.getD_eq_getD_getElem?])]
  exact h
theorem wl_off_undef {i : Nat} {b : Bool} {g : Oper} {d : Nat} (hg : o.guard = some (i, b)) (ho : ops[i]? = some g) (hd : g.dst = some d) (hv : a.tmps[d]? = some undef) (h : wpList P ops Q rest (a.put o.dst undef) w) : wpList P ops Q (o :: rest) a w := by
  unfold wpList
  rw [if_neg (by simp [Region.wanted, hg, yielded, ho, hd, Array.getD_eq_getD_getElem?, hv, undef])]
  exact h
end
end Go.Proofs.YthjfnknhcmhmiaaDoor.Sl
