/-
  The memory logic, seventh part: the plain functions' own operations, and what the code's operations say of them.
-/
import Derived.Test.YthjfnknhcmhmiaaDoorSl6
set_option linter.unusedVariables false
set_option linter.unusedSimpArgs false
namespace Go.Proofs.YthjfnknhcmhmiaaDoor.Sl
open Go Go.RowKit

/-! ### 1. Plain operations; none: the code would panic -/
section
variable {α β : Type}
def ix (xs : List α) (i : Int) : Option α := if 0 ≤ i then xs[i.toNat]? else none
def cutL (xs : List α) (lo hi : Int) : Option (List α) := if 0 ≤ lo ∧ lo ≤ hi ∧ hi ≤ xs.length then some ((xs.take hi.toNat).drop lo.toNat) else none
def req (p : Prop) [Decidable p] : Option Unit := if p then some () else none
def iquo (m n : Int) : Option Int := if n = 0 then none else some (w64 (m.tdiv n))
def irem (m n : Int) : Option Int := if n = 0 then none else some (m.tmod n)
def bquo (m n : UInt8) : Option UInt8 := if n = 0 then none else some (m / n)
def brem (m n : UInt8) : Option UInt8 := if n = 0 then none else some (m % n)
def setL (xs : List α) (i : Int) (x : α) : Option (List α) := if 0 ≤ i ∧ i < xs.length then some (xs.set i.toNat x) else none
theorem ix_some {xs : List α} {i : Int} {x : α} (h : ix xs i = some x) : 0 ≤ i ∧ i < xs.length ∧ xs[i.toNat]? = some x := by
  unfold ix at h
  split at h
  · have := (List.getElem?_eq_some_iff.1 h).1
    exact ⟨by assumption, by omega, h⟩
  · cases h
theorem cutL_some {xs ys : List α} {lo hi : Int} (h : cutL xs lo hi = some ys) : 0 ≤ lo ∧ lo ≤ hi ∧ hi ≤ xs.length ∧ ys = (xs.take hi.toNat).drop lo.toNat := by
  unfold cutL at h
  split at h
  · rename_i hc; exact ⟨hc.1, hc.2.1, hc.2.2, (Option.some.inj h).symm⟩
  · cases h
theorem req_some {p : Prop} [Decidable p] {u : Unit} (h : req p = some u) : p := by
  unfold req at h; split at h
  · assumption
  · cases h
theorem bindO {x : Option α} {f : α → Option β} {r : β} (h : x >>= f = some r) : ∃ a, x = some a ∧ f a = some r := by
  cases x with
  | none => cases h
  | some a => exact ⟨a, rfl, h⟩
theorem bindI {x : Option α} {f : α → Option β} {a : α} {r : β} (hx : x = some a) (h : f a = some r) : x >>= f = some r := by rw [hx]; exact h
theorem ifT {b : Bool} {x y : Option β} {r : β} (hb : b = true) (h : x = some r) : (if b = true then x else y) = some r := by rw [if_pos hb]; exact h
theorem ifF {b : Bool} {x y : Option β} {r : β} (hb : b = false) (h : y = some r) : (if b = true then x else y) = some r := by rw [if_neg (by rw [hb]; decide)]; exact h
theorem bindU {x : Option Unit} {f : Unit → Option β} {r : β} (h : x >>= f = some r) : x = some () ∧ f () = some r := by
  cases x with
  | none => cases h
  | some a => exact ⟨rfl, h⟩
theorem ifB {b : Bool} {x y : Option β} {r : β} (h : (if b = true then x else y) = some r) : (b = true ∧ x = some r) ∨ (b = false ∧ y = some r) := by
  cases b
  · exact .inr ⟨rfl, h⟩
  · exact .inl ⟨rfl, h⟩
theorem iquo_some {m n r : Int} (h : iquo m n = some r) : n ≠ 0 ∧ r = w64 (m.tdiv n) := by
  unfold iquo at h; split at h
  · cases h
  · exact ⟨by assumption, (Option.some.inj h).symm⟩
theorem irem_some {m n r : Int} (h : irem m n = some r) : n ≠ 0 ∧ r = m.tmod n := by
  unfold irem at h; split at h
  · cases h
  · exact ⟨by assumption, (Option.some.inj h).symm⟩
theorem bquo_some {m n r : UInt8} (h : bquo m n = some r) : n ≠ 0 ∧ r = m / n := by
  unfold bquo at h; split at h
  · cases h
  · exact ⟨by assumption, (Option.some.inj h).symm⟩
theorem brem_some {m n r : UInt8} (h : brem m n = some r) : n ≠ 0 ∧ r = m % n := by
  unfold brem at h; split at h
  · cases h
  · exact ⟨by assumption, (Option.some.inj h).symm⟩
end

/-! ### 2. Where an exit leads -/
section
variable {P : Program} {Q : Exit → Act → World → Prop} {K : Act → World → Prop} {a : Act} {w : World} {id l : Nat} {c : Code}
theorem x_then (h : K a w) : Exit.then K Q .normal a w := h
theorem x_then_exit (h : Q (.exit id) a w) : Exit.then K Q (.exit id) a w := h
theorem x_then_ret (h : Q .ret a w) : Exit.then K Q .ret a w := h
theorem x_then_goto (h : Q (.goto l) a w) : Exit.then K Q (.goto l) a w := h
theorem x_block (h : Q .normal a w) : Exit.inBlock id Q .normal a w := h
theorem x_block_ret (h : Q .ret a w) : Exit.inBlock id Q .ret a w := h
theorem x_block_goto (h : Q (.goto l) a w) : Exit.inBlock id Q (.goto l) a w := h
theorem x_block_here (h : Q .normal a w) : Exit.inBlock id Q (.exit id) a w := by simpa [Exit.inBlock] using h
theorem x_block_on {k : Nat} (hne : Nat.beq k id = false) (h : Q (.exit k) a w) : Exit.inBlock id Q (.exit k) a w := by
  have : ¬ k = id := fun e => by subst e; rw [Nat.beq_refl] at hne; cases hne
  simpa [Exit.inBlock, this] using h
theorem x_scope (h : Q .normal a w) : Exit.scp P c Q .normal a w := h
theorem x_scope_ret (h : Q .ret a w) : Exit.scp P c Q .ret a w := h
theorem x_scope_exit (h : Q (.exit id) a w) : Exit.scp P c Q (.exit id) a w := h
theorem x_scope_goto {rest : Code} (hf : findLabel c l = some rest) (h : Scp P c rest Q a w) : Exit.scp P c Q (.goto l) a w := ⟨rest, hf, h⟩
/-- a loop: what is asked of its ways out, its round behind letters -/
theorem c_loop_ways (J : Exit → Act → World → Prop) (h : ∀ (c' : Code) (Q' : Exit → Act → World → Prop), c' = c → (∀ e a w, J e a w → Q' e a w) → Rnd P c' Q' a w) (hJ : ∀ e a w, J e a w → Q e a w) : (Code.loop c).wp P Q a w :=
  c_loop (h c Q rfl hJ)
end

/-! ### 3. Operations -/
section
variable {P : Program} {o : Oper} {a : Act} {w w' w0 : World} {Kn K' : Hp} {L L' : List SP} {α : Type} {d : Kd α}
/-- worlds that a value taken first may look at -/
def Rd (w0 : World) (Kn : Hp) (L : List SP) (w : World) : Prop := ∃ K', Hp.le Kn K' ∧ Sat w0 w K' L
theorem Rd.of (h : Sat w0 w Kn L) : Rd w0 Kn L w := ⟨Kn, Hp.le.refl _, h⟩
theorem Rd.up (hk : Hp.le Kn K') (h : Sat w0 w K' L) : Rd w0 Kn L w := ⟨K', hk, h⟩
theorem Rd.cell (h : Rd w0 Kn L w) {ad : Addr} {v : Value} (hc : cellH Kn ad = some v) : w.cell? ad = some v := by
  obtain ⟨K', hk, hs⟩ := h
  exact hs.cell (cellH_mono hk hc)
theorem Rd.blk {g : Nat} {t : TypeId} {cs : List Value} (h : Rd w0 Kn (SP.blk g t cs :: L) w) (i : Nat) : w.cell? ⟨g, i, none⟩ = cs[i]? := by
  obtain ⟨K', hk, hs⟩ := h
  exact hs.blk_cell i

theorem sl_at {v : Value} {xs : List α} {i : Int} {x : α} (h : d.sl Kn v xs) (hx : ix xs i = some x) (h0 : 0 < d.sz) : ∃ ad cp cs, v = .slice (some ad) xs.length cp ∧ d.rep Kn x cs ∧ 0 ≤ i ∧ i < xs.length ∧ ∀ j u, cs[j]? = some u → cellH Kn (ad.add (i.toNat * d.sz + j)) = some u := by
  obtain ⟨A, c, rfl, _, _, hg⟩ := Kd.sl_open h
  obtain ⟨h1, h2, h3⟩ := ix_some hx
  obtain ⟨ad, cs, rfl, hr, hc⟩ := hg _ _ h3 h0
  exact ⟨ad, c, cs, rfl, hr, h1, h2, hc⟩
theorem sl_val {v : Value} {xs : List α} (h : d.sl Kn v xs) : ∃ A c, v = .slice A xs.length c ∧ xs.length ≤ c := by
  obtain ⟨A, c, e, h1, _, _⟩ := Kd.sl_open h
  exact ⟨A, c, e, h1⟩
theorem sl_size {v : Value} {xs : List α} (h : d.sl Kn v xs) : xs.length ≤ 9223372036854775807 := by
  obtain ⟨A, c, e, h1, h2, _⟩ := Kd.sl_open h
  omega
theorem r_len_sl {t e : TypeId} {x : Operand} {v : Value} {xs : List α} (ho : o.op = .call { callee := .builtin .len, args := #[x], argTypes := #[t] }) (ht : P.underlying t = some (.slice e)) (hx : a.eval x = v) (h : d.sl Kn v xs) : (execOp a.eval o).run P w = .ok (.value (.int .i64 xs.length)) w := by
  obtain ⟨A, c, rfl, _⟩ := sl_val h
  exact r_len_slice ho ht hx
/-- the place of an element -/
theorem r_idx_sl {t e : TypeId} {x y : Operand} {v : Value} {ad : Addr} {n cp sz bytes : Nat} {i : Int} {k : IntKind} {z : Value} (ho : o.op = .indexAddr t x y) (ht : P.underlying t = some (.slice e)) (hi : tinfo P e = some (z, sz, bytes)) (hx : a.eval x = v) (hv : v = .slice (some ad) n cp) (hy : a.eval y = .int k i) (h0 : 0 ≤ i) (h1 : i < n) : (execOp a.eval o).run P w = .ok (.value (.pointer (some (ad.add (i.toNat * sz + 0))))) w :=
  r_idx ho ht hi (hx.trans hv) hy h0 h1
theorem r_fld_k {t : TypeId} {x : Operand} {i off n m : Nat} {ad : Addr} (ho : o.op = .fieldAddr t x i) (hf : fieldOff P t i = some off) (hx : a.eval x = .pointer (some (ad.add (n + m)))) : (execOp a.eval o).run P w = .ok (.value (.pointer (some (ad.add (n + (m + off)))))) w := by
  have := r_fld (w := w) ho hf hx
  rw [add_add, Nat.add_assoc] at this
  exact this
theorem r_fld_b {t : TypeId} {x : Operand} {i off n g : Nat} (ho : o.op = .fieldAddr t x i) (hf : fieldOff P t i = some off) (hx : a.eval x = .pointer (some ⟨g, n, none⟩)) : (execOp a.eval o).run P w = .ok (.value (.pointer (some ⟨g, n + off, none⟩))) w := by
  have := r_fld (w := w) ho hf hx
  rw [Addr.add_lit] at this
  exact this
theorem r_index_s {t : TypeId} {x y : Operand} {s : List UInt8} {i : Int} {k : IntKind} {c : UInt8} (ho : o.op = .index t x y) (ht : P.underlying t = some .string) (hx : a.eval x = strV s) (hy : a.eval y = .int k i) (hc : ix s i = some c) : (execOp a.eval o).run P w = .ok (.value (.int .u8 (b8 c))) w := by
  obtain ⟨h0, h1, h2⟩ := ix_some hc
  have := r_index_string (w := w) ho ht hx hy h0 h1
  rwa [List.getD_eq_getElem?_getD, h2] at this
theorem r_cut_s {t : TypeId} {x : Operand} {lo hi : Option Operand} {s r : List UInt8} {l h : Int} {k k' : IntKind} (ho : o.op = .slice t x lo hi none) (ht : P.underlying t = some .string) (hx : a.eval x = strV s) (hl : (lo.map a.eval = some (.int k l)) ∨ (lo = none ∧ l = 0)) (hh : (hi.map a.eval = some (.int k' h)) ∨ (hi = none ∧ h = s.length)) (hc : cutL s l h = some r) : (execOp a.eval o).run P w = .ok (.value (strV r)) w := by
  obtain ⟨h0, h1, h2, rfl⟩ := cutL_some hc
  unfold execOp; rw [ho]
  have hb : ∀ (k : IntKind) (i : Int) (y : Nat) (c : BoundsCode), 0 ≤ i → i ≤ y → (Instr.sliceBound (.int k i) y c).run P w = .ok i.toNat w := fun k i y c a b => run_sliceBound w k i y c a b
  have key : (Instr.slice t (.string ⟨s.toArray⟩) (lo.map a.eval) (hi.map a.eval) none).run P w = .ok (strV ((s.take h.toNat).drop l.toNat)) w := by
    rcases hl with hl | ⟨rfl, rfl⟩ <;> rcases hh with hh | ⟨rfl, rfl⟩
    · rw [hl, hh]
      simp [Instr.slice, run_underlying ht, Instr.sliceBounds, hb k l h.toNat .sliceB h0 (by omega), hb k' h s.length .sliceAlen (by omega) h2, strV_size, extract_cut, strV]
    · rw [hl]
      simp [Instr.slice, run_underlying ht, Instr.sliceBounds, hb k l s.length .sliceB h0 h1, strV_size, extract_cut, strV]
    · rw [hh]
      simp [Instr.slice, run_underlying ht, Instr.sliceBounds, hb k' h s.length .sliceAlen h1 h2, strV_size, extract_cut, strV]
    · simp [Instr.slice, run_underlying ht, Instr.sliceBounds, strV_size, extract_cut, strV]
  simp only [hx, strV, Option.map_none]
  have e : (Instr.sliceAt t (.string ⟨s.toArray⟩) (lo.map a.eval) (hi.map a.eval) none).run P w = (Instr.slice t (.string ⟨s.toArray⟩) (lo.map a.eval) (hi.map a.eval) none).run P w := by
    simp [Instr.sliceAt, run_underlying ht]
  simp [e, key, strV]
/-- a slice of a slice that is known -/
theorem r_cut_sl {t e : TypeId} {x : Operand} {lo hi : Option Operand} {v : Value} {xs ys : List α} {l h : Int} {k k' : IntKind} {z : Value} {bytes : Nat} (ho : o.op = .slice t x lo hi none) (ht : P.underlying t = some (.slice e)) (hi' : tinfo P e = some (z, d.sz, bytes)) (hx : a.eval x = v) (hv : d.sl Kn v xs) (hl : (lo.map a.eval = some (.int k l)) ∨ (lo = none ∧ l = 0)) (hh : (hi.map a.eval = some (.int k' h)) ∨ (hi = none ∧ h = xs.length)) (hc : cutL xs l h = some ys) :
    ∃ u, d.sl Kn u ys ∧ ∀ w, (execOp a.eval o).run P w = .ok (.value u) w := by
  obtain ⟨h0, h1, h2, rfl⟩ := cutL_some hc
  obtain ⟨A, c, cs, rfl, hlc, hcm, hr, hat⟩ := hv
  obtain ⟨ti, hti, _, hsz, _⟩ := tinfo_parts hi'
  have hlen : ((xs.take h.toNat).drop l.toNat).length = h.toNat - l.toNat := by rw [List.length_drop, List.length_take]; omega
  refine ⟨.slice (if c = l.toNat then A else A.map (·.add (l.toNat * d.sz))) (h.toNat - l.toNat) (c - l.toNat), ?_, fun w => ?_⟩
  · refine ⟨_, c - l.toNat, (cs.take (h.toNat * d.sz)).drop (l.toNat * d.sz), by rw [hlen], by rw [hlen]; omega, by simp only [maxLen] at hcm ⊢; omega, Kd.reps_drop _ (Kd.reps_take _ hr), ?_⟩
    by_cases hcl : c = l.toNat
    · left
      rw [List.drop_eq_nil_of_le]
      rw [List.length_take]
      have : h.toNat = l.toNat := by omega
      rw [this]; exact Nat.min_le_left _ _
    · rw [if_neg hcl]
      rcases hat with rfl | ⟨ad, rfl, hcell⟩
      · left; simp
      · right
        refine ⟨ad.add (l.toNat * d.sz), rfl, fun j u hu => ?_⟩
        rw [add_add]
        refine hcell _ _ ?_
        rw [List.getElem?_drop, List.getElem?_take] at hu
        split at hu
        · exact hu
        · cases hu
  · unfold execOp; rw [ho]
    have hb : ∀ (k : IntKind) (i : Int) (y : Nat) (c : BoundsCode), 0 ≤ i → i ≤ y → (Instr.sliceBound (.int k i) y c).run P w = .ok i.toNat w := fun k i y c a b => run_sliceBound w k i y c a b
    have key : (Instr.slice t (.slice A xs.length c) (lo.map a.eval) (hi.map a.eval) none).run P w = .ok (.slice (if c = l.toNat then A else A.map (·.add (l.toNat * d.sz))) (h.toNat - l.toNat) (c - l.toNat)) w := by
      rcases hl with hl | ⟨rfl, rfl⟩ <;> rcases hh with hh | ⟨rfl, rfl⟩
      · rw [hl, hh]
        simp [Instr.slice, run_underlying ht, Instr.sliceBounds, hb k l h.toNat .sliceB h0 (by omega), hb k' h c .sliceAcap (by omega) (by omega), sizeOf, typeInfo, hti, hsz]
      · rw [hl]
        simp [Instr.slice, run_underlying ht, Instr.sliceBounds, hb k l xs.length .sliceB h0 h1, sizeOf, typeInfo, hti, hsz]
      · rw [hh]
        simp [Instr.slice, run_underlying ht, Instr.sliceBounds, hb k' h c .sliceAcap (by omega) (by omega), sizeOf, typeInfo, hti, hsz]
      · simp [Instr.slice, run_underlying ht, Instr.sliceBounds, sizeOf, typeInfo, hti, hsz]
    have e' : (Instr.sliceAt t (.slice A xs.length c) (lo.map a.eval) (hi.map a.eval) none).run P w = (Instr.slice t (.slice A xs.length c) (lo.map a.eval) (hi.map a.eval) none).run P w := by
      simp [Instr.sliceAt, run_underlying ht]
    simp [hx, e', key]
theorem b8_quo (c m : UInt8) : IntKind.u8.wrap ((b8 c).tdiv (b8 m)) = b8 (c / m) := by
  have h1 := c.toNat_lt; have h2 := m.toNat_lt
  rw [wrap_u8]
  have e : (b8 c).tdiv (b8 m) = ((c.toNat / m.toNat : Nat) : Int) := by
    simp only [b8]; rw [Int.tdiv_eq_ediv_of_nonneg (by omega)]; rfl
  have hle : c.toNat / m.toNat ≤ c.toNat := Nat.div_le_self _ _
  rw [e]; simp only [b8, UInt8.toNat_div]
  generalize c.toNat / m.toNat = q at *
  omega
theorem b8_rem (c m : UInt8) : (b8 c).tmod (b8 m) = b8 (c % m) := by
  simp only [b8, UInt8.toNat_mod]
  rw [Int.tmod_eq_emod_of_nonneg (by omega)]; rfl
theorem b8_ne0 {n : UInt8} (h : n ≠ 0) : b8 n ≠ 0 := fun e => h (UInt8.toNat_inj.1 (by simp only [b8] at e; simpa using e))
theorem r_quo8 {t u : TypeId} {x y : Operand} {m n : UInt8} (ho : o.op = .binOp .quo t x y u) (hx : a.eval x = .int .u8 (b8 m)) (hy : a.eval y = .int .u8 (b8 n)) (hn : n ≠ 0) : (execOp a.eval o).run P w = .ok (.value (.int .u8 (b8 (m / n)))) w :=
  r_bin ho (by rw [hx, hy]; exact guard_int) (by rw [hx, hy, ← b8_quo]; simp [binOp, Op.intDiv, b8_ne0 hn])
theorem r_rem8 {t u : TypeId} {x y : Operand} {m n : UInt8} (ho : o.op = .binOp .rem t x y u) (hx : a.eval x = .int .u8 (b8 m)) (hy : a.eval y = .int .u8 (b8 n)) (hn : n ≠ 0) : (execOp a.eval o).run P w = .ok (.value (.int .u8 (b8 (m % n)))) w :=
  r_bin ho (by rw [hx, hy]; exact guard_int) (by rw [hx, hy, ← b8_rem]; simp [binOp, Op.intDiv, b8_ne0 hn])
end
end Go.Proofs.YthjfnknhcmhmiaaDoor.Sl
