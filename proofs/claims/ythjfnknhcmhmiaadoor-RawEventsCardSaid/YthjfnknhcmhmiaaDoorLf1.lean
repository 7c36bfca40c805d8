/-
  The memory logic: calls of the library's whose contracts the kit holds: what they leave of one's own; errors of which only 'is it nil' is asked.
-/
import Derived.Test.YthjfnknhcmhmiaaDoorSl15
import Derived.Lib.LaidTab
import Derived.Lib.AppendIntMem
set_option linter.unusedVariables false
set_option linter.unusedSimpArgs false
namespace Go.Proofs.YthjfnknhcmhmiaaDoor.Sl
open Go Go.RowKit

/-- an error of which one knows whether it is nil -/
def ErrB (v : Value) (b : Bool) : Prop := (b = true ∧ v = .nilIface) ∨ (b = false ∧ ∃ T x, v = .iface T x)
namespace Sat
variable {w0 w w' : World} {K : Hp} {L : List SP}
theorem below (h : Sat w0 w K L) (hb : Below w.heap.size w w') : Sat w0 w' K L := h.grow hb.os hb.tape hb.output (fun g o hg => by
  have hlt : g < w.heap.size := by
    rcases Nat.lt_or_ge g w.heap.size with h | h
    · exact h
    · simp [hp, Array.getElem?_eq_none h] at hg
  exact (hb.block g hlt).trans hg)
theorem olds (h : Sat w0 w K L) : Hp.le (hp w0) (hp w) := h.base.trans h.know
theorem var (h : Sat w0 w K L) {P : Program} {n : String} {cs : Array Value} (hv : w0.var? P n = some cs) : w.var? P n = some cs := by
  unfold World.var? at hv ⊢
  cases hg : P.globalNamed n with
  | none => simp [hg] at hv
  | some g =>
    simp only [hg, Option.bind_some] at hv ⊢
    cases ho : w0.heap[g]? with
    | none => simp [ho] at hv
    | some o =>
      have : w.heap[g]? = some o := h.olds g o ho
      simp only [ho, Option.bind_some] at hv
      simp only [this, Option.bind_some]
      exact hv
/-- what new blocks hold is known -/
theorem below_know (h : Sat w0 w K L) (hb : Below w.heap.size w w') : ∃ K', Hp.le K K' ∧ Sat w0 w' K' L ∧ ∀ g o, w.heap.size ≤ g → w'.heap[g]? = some o → K' g = some o := by
  have h2 := h.below hb
  have hK : ∀ g o, K g = some o → g < w.heap.size := fun g o hg => by
    have := h.know g o hg
    rcases Nat.lt_or_ge g w.heap.size with h | h
    · exact h
    · simp [hp, Array.getElem?_eq_none h] at this
  let N : Hp := fun g => if w.heap.size ≤ g then w'.heap[g]? else none
  obtain ⟨f, h1, h3, h4, h5⟩ := h.parts
  have hf : ∀ i g o, f i g = some o → g < w.heap.size := fun i g o hg => by
    have := h5 i g o hg
    rcases Nat.lt_or_ge g w.heap.size with h | h
    · exact h
    · simp [hp, Array.getElem?_eq_none h] at this
  have hdis : ∀ x : Hp, (∀ g o, x g = some o → g < w.heap.size) → Hp.disj N x := fun x hx g => by
    by_cases hg : w.heap.size ≤ g
    · right
      cases hxg : x g with
      | none => rfl
      | some o => have := hx g o hxg; omega
    · left; simp [N, hg]
  have hN : Hp.le N (hp w') := fun g o hg => by
    simp only [N] at hg
    split at hg
    · exact hg
    · cases hg
  have hKN : Hp.disj K N := (hdis K hK).symm
  refine ⟨Hp.join K N, Hp.le_join_left K N, ⟨h2.os, h2.tape, h2.output, Hp.join_le h2.know hN, h2.base.trans (Hp.le_join_left K N), f, fun i A hA => A.mono (Hp.le_join_left K N) (h1 i A hA), h3, fun i => Hp.join_disj (h4 i) (hdis (f i) (hf i)), fun i => (h5 i).trans (fun g o hg => ?_)⟩, fun g o hg ho => ?_⟩
  · have hlt : g < w.heap.size := by
      rcases Nat.lt_or_ge g w.heap.size with h | h
      · exact h
      · simp [hp, Array.getElem?_eq_none h] at hg
    exact (hb.block g hlt).trans hg
  · refine Hp.le_join_right hKN g o ?_
    simp only [N, if_pos hg]
    exact ho
end Sat
section
variable {P : Program} {o : Oper} {a : Act} {w w0 : World} {Kn : Hp} {L : List SP}
theorem r_erb {t u : TypeId} {x : Operand} {v : Value} {b : Bool} (hb : ErrB v b) (ho : o.op = .binOp .eql t x (.const .nilIface) u) (ht : ifaceT P t = some true) (hx : a.eval x = v) : (execOp a.eval o).run P w = .ok (.value (.bool b)) w := by
  obtain ⟨ms, hu⟩ := ifaceT_parts ht
  have hy : a.eval (.const .nilIface) = .nilIface := rfl
  rcases hb with ⟨rfl, rfl⟩ | ⟨rfl, T, y, rfl⟩
  · refine r_bin ho (by rw [hx, hy]; simp [eqGuard]) ?_
    rw [hx, hy, run_eql_if (.inl rfl), eqI_nn (d := 9999) hu]; rfl
  · refine r_bin ho (by rw [hx, hy]; simp [eqGuard]) ?_
    rw [hx, hy, run_eql_if (.inr ⟨_, _, rfl⟩), eqI_in (d := 9999) hu]; rfl
theorem r_erbn {t u : TypeId} {x : Operand} {v : Value} {b : Bool} (hb : ErrB v b) (ho : o.op = .binOp .neq t x (.const .nilIface) u) (ht : ifaceT P t = some true) (hx : a.eval x = v) : (execOp a.eval o).run P w = .ok (.value (.bool (!b))) w := by
  obtain ⟨ms, hu⟩ := ifaceT_parts ht
  have hy : a.eval (.const .nilIface) = .nilIface := rfl
  rcases hb with ⟨rfl, rfl⟩ | ⟨rfl, T, y, rfl⟩
  · refine r_bin ho (by rw [hx, hy]; simp [eqGuard]) ?_
    rw [hx, hy, run_neq_if (.inl rfl), eqI_nn (d := 9999) hu]; rfl
  · refine r_bin ho (by rw [hx, hy]; simp [eqGuard]) ?_
    rw [hx, hy, run_neq_if (.inr ⟨_, _, rfl⟩), eqI_in (d := 9999) hu]; rfl
theorem r_min {x y : Operand} {k k' : IntKind} {m n : Int} {ts : Array TypeId} (ho : o.op = .call { callee := .builtin .min, args := #[x, y], argTypes := ts }) (hx : a.eval x = .int k m) (hy : a.eval y = .int k' n) : (execOp a.eval o).run P w = .ok (.value (.int k (if n < m then n else m))) w := by
  unfold execOp; rw [ho]
  have := run_min_int2 (P := P) (w := w) ts o.type k k' m n
  simp [resolve, invoke, builtin, hx, hy, this]
/-- a row of strings, its cells in the world -/
theorem str_cells {v : Value} {xs : List (List UInt8)} (h : Sat w0 w Kn L) (hv : Kd.str.sl Kn v xs) : (∃ A c, v = .slice A 0 c ∧ xs = []) ∨ ∃ b o c, v = .slice (some ⟨b, o, none⟩) xs.length c ∧ xs.length ≤ c ∧ c ≤ maxLen ∧ b < w.heap.size ∧ ∀ (j : Nat) x, (xs.map fun s => (⟨s.toArray⟩ : ByteArray))[j]? = some x → w.cell? ⟨b, o + j, none⟩ = some (.string x) := by
  cases hx : xs with
  | nil =>
    obtain ⟨A, c, cs, rfl, _⟩ := hv
    rw [hx]
    exact .inl ⟨A, c, rfl, rfl⟩
  | cons x0 r =>
    rw [← hx]
    obtain ⟨A, c, cs, rfl, hlc, hcm, hr, hat⟩ := hv
    have hcl := reps_one_len (d := Kd.str) rfl hr
    rcases hat with hcs | ⟨ad, rfl, hcell⟩
    · rw [hcs, hx] at hcl; simp at hcl
    · have hat' : ∀ (i : Nat) (x : List UInt8), xs[i]? = some x → w.cell? (ad.add i) = some (strV x) := fun i x hxi => by
        obtain ⟨c', hc', hj⟩ := Kd.reps_get hr i x hxi
        have e : c' = [strV x] := hc'
        have := hj 0 (strV x) (by rw [e]; rfl)
        rw [show i * Kd.str.sz + 0 = i from by show i * 1 + 0 = i; omega] at this
        exact h.cell (hcell i _ this)
      have h0 := hat' 0 x0 (by rw [hx]; rfl)
      rw [add_zero] at h0
      obtain ⟨b, off, sp⟩ := ad
      have hsp : sp = none := by
        cases sp with
        | none => rfl
        | some q =>
          exfalso
          simp only [World.cell?] at h0
          cases hh : w.heap[b]? with
          | none => simp [hh] at h0
          | some o => cases o <;> simp [hh] at h0
      subst hsp
      have hlt : b < w.heap.size := by
        rcases Nat.lt_or_ge b w.heap.size with h | h
        · exact h
        · simp [World.cell?, Array.getElem?_eq_none h] at h0
      refine .inr ⟨b, off, c, rfl, hlc, hcm, hlt, fun j x hj => ?_⟩
      rw [List.getElem?_map] at hj
      cases hxj : xs[j]? with
      | none => rw [hxj] at hj; cases hj
      | some y =>
        rw [hxj] at hj
        simp only [Option.map_some, Option.some.injEq] at hj
        subst hj
        have := hat' j y hxj
        rw [Addr.add_lit] at this
        exact this
end
end Go.Proofs.YthjfnknhcmhmiaaDoor.Sl
