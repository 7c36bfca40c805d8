/-
  The memory logic, thirteenth part: a row lent to a reader; a row's elements read and written.
-/
import Derived.Test.YthjfnknhcmhmiaaDoorSl12
set_option linter.unusedVariables false
set_option linter.unusedSimpArgs false
namespace Go.Proofs.YthjfnknhcmhmiaaDoor.Sl
open Go Go.RowKit

/-- just this piece -/
def SP.exact (x : Hp) : SP := ⟨fun _ h => h = x, fun _ h => h⟩
namespace Sat
variable {w0 w w' : World} {K K' : Hp} {L : List SP} {A : SP}
/-- LENT: what is owned is known for a while, all else stays as it is to the block. -/
theorem borrow (h : Sat w0 w K (A :: L)) : ∃ (K1 : Hp) (L1 : List SP) (a : Hp), Hp.le K K1 ∧ A.p K a ∧ Hp.le a K1 ∧ Sat w0 w K1 L1 ∧ ∀ w' K', Hp.le K1 K' → Sat w0 w' K' L1 → Sat w0 w' K (A :: L) := by
  obtain ⟨a, ha, hal, had, f, h1, h2, h3, h4, h5⟩ := h.split1
  refine ⟨Hp.join K a, (List.range L.length).map fun i => SP.exact (f i), a, Hp.le_join_left K a, ha, Hp.le_join_right had, ⟨h.os, h.tape, h.output, Hp.join_le h.know hal, h.base.trans (Hp.le_join_left K a), f, fun i B hB => ?_, h2, fun i => Hp.join_disj (h3 i) (h5 i), h4⟩, ?_⟩
  · rw [List.getElem?_map] at hB
    cases hr : (List.range L.length)[i]? with
    | none => simp [hr] at hB
    | some j =>
      simp only [hr, Option.map_some, Option.some.injEq] at hB
      have hj : i = j := by
        have := List.getElem?_eq_some_iff.1 hr
        obtain ⟨_, e⟩ := this
        simpa using e
      subst hj hB
      rfl
  · intro w' K' hk hs
    obtain ⟨f', g1, g2, g3, g4⟩ := hs.parts
    have hex : ∀ i, i < L.length → f' i = f i := fun i hi => g1 i (SP.exact (f i)) (by simp [hi])
    have hka : Hp.le a K' := (Hp.le_join_right had).trans hk
    have hkk : Hp.le K K' := (Hp.le_join_left K a).trans hk
    refine Sat.of_split (f := fun i => if i < L.length then f i else Hp.zero) hs.os hs.tape hs.output (hkk.trans hs.know) h.base ha (hka.trans hs.know) had (fun i B hB => ?_) (fun i j hij => ?_) (fun i => ?_) (fun i => ?_) (fun i => ?_)
    · have hi := (List.getElem?_eq_some_iff.1 hB).1
      simp only [if_pos hi]
      exact h1 i B hB
    · by_cases hi : i < L.length
      · by_cases hj : j < L.length
        · simp only [if_pos hi, if_pos hj]; exact h2 i j hij
        · simp only [if_neg hj]; exact (Hp.zero_disj _).symm
      · simp only [if_neg hi]; exact Hp.zero_disj _
    · by_cases hi : i < L.length
      · simp only [if_pos hi]; exact h3 i
      · simp only [if_neg hi]; exact (Hp.zero_disj _).symm
    · by_cases hi : i < L.length
      · simp only [if_pos hi]; rw [← hex i hi]; exact g4 i
      · simp only [if_neg hi]; exact Hp.zero_le _
    · by_cases hi : i < L.length
      · simp only [if_pos hi]; exact h5 i
      · simp only [if_neg hi]; exact (Hp.zero_disj _).symm
end Sat
section
variable {P : Program} {o : Oper} {a : Act} {w w0 : World} {Kn : Hp} {L : List SP} {K : Act → World → Prop} {Q : Exit → Act → World → Prop} {α : Type} {d : Kd α}
theorem row_sl {e : TypeId} {v : Value} {xs : List α} {K K1 x : Hp} (ha : (SP.row d e v xs).p K x) (hk : Hp.le K K1) (hk' : Hp.le x K1) : d.sl K1 v xs := by
  rcases ha with ⟨rfl, rfl, _⟩ | ⟨g, off, cap, cur, cs, h1, h2, h3, h4, h5, h6, h7, h8⟩
  · exact Kd.sl_nil d _
  · refine ⟨_, cap, cs, h1, h3, h4, Kd.reps_mono hk h6, .inr ⟨_, rfl, fun j u hu => ?_⟩⟩
    rw [Addr.add_lit]
    refine cellH_mono hk' ?_
    rw [h2, cellH_single]
    exact h7 j u hu
/-- a cell of a row's element, of a kind whose cells say nothing of memory -/
theorem r_ld1_o {t e : TypeId} {x : Operand} {v u : Value} {ad : Addr} {cp m : Nat} {xs : List α} {i : Int} {xo : α} (ho : o.op = .load t x) (ht : aggT P t = some false) (hv : v = .slice (some ad) xs.length cp) (hx : a.eval x = .pointer (some (ad.add (i.toNat * d.sz + m)))) (hix : ix xs i = some xo) (hrep : ∀ K' cs, d.rep K' xo cs → cs[m]? = some u) (hR : Rd w0 Kn (SP.row d e v xs :: L) w) (h0 : 0 < d.sz) : (execOp a.eval o).run P w = .ok (.value u) w := by
  obtain ⟨K', hk, hs⟩ := hR
  obtain ⟨ad', cp', cs, hv', hr, _, _, hc⟩ := row_at hs hix h0
  rw [hv] at hv'
  obtain ⟨rfl, rfl⟩ : ad = ad' ∧ cp = cp' := by simpa using hv'
  exact r_ld1 ho ht hx (hc m u (hrep K' cs hr))
theorem r_ldN_o {t e : TypeId} {x : Operand} {v : Value} {ad : Addr} {cp m : Nat} {xs : List α} {i : Int} {xo : α} {us : List Value} {z : Value} {bytes : Nat} (ho : o.op = .load t x) (ht : aggT P t = some true) (hi : tinfo P t = some (z, us.length, bytes)) (hv : v = .slice (some ad) xs.length cp) (hx : a.eval x = .pointer (some (ad.add (i.toNat * d.sz + m)))) (hix : ix xs i = some xo) (hrep : ∀ K' cs, d.rep K' xo cs → (cs.drop m).take us.length = us) (hR : Rd w0 Kn (SP.row d e v xs :: L) w) (h0 : 0 < d.sz) : (execOp a.eval o).run P w = .ok (.value (.agg us.toArray)) w := by
  obtain ⟨K', hk, hs⟩ := hR
  obtain ⟨ad', cp', cs, hv', hr, _, _, hc⟩ := row_at hs hix h0
  rw [hv] at hv'
  obtain ⟨rfl, rfl⟩ : ad = ad' ∧ cp = cp' := by simpa using hv'
  refine r_ldN ho ht hi hx (fun j u hu => ?_)
  rw [add_add, Nat.add_assoc]
  refine hc (m + j) u ?_
  rw [← hrep K' cs hr, List.getElem?_take, List.getElem?_drop] at hu
  split at hu
  · exact hu
  · cases hu
theorem set_mid {cs c : List Value} {i sz m : Nat} {u : Value} (hc : c.length = sz) (hm : m < sz) (h : ∀ j v, c[j]? = some v → cs[i * sz + j]? = some v) : cs.take (i * sz) ++ c.set m u ++ cs.drop (i * sz + sz) = cs.set (i * sz + m) u := by
  have hlast : i * sz + (sz - 1) < cs.length := by
    have : sz - 1 < c.length := by omega
    exact (List.getElem?_eq_some_iff.1 (h (sz - 1) c[sz - 1] (by simp [this]))).1
  have hlen : (cs.take (i * sz)).length = i * sz := by rw [List.length_take]; omega
  apply List.ext_getElem?
  intro j
  rw [List.getElem?_set]
  rw [List.append_assoc]
  rcases Nat.lt_or_ge j (i * sz) with hj | hj
  · rw [List.getElem?_append_left (by omega), List.getElem?_take, if_pos hj, if_neg (by omega)]
  · rw [List.getElem?_append_right (by omega), hlen]
    rcases Nat.lt_or_ge (j - i * sz) sz with hj2 | hj2
    · rw [List.getElem?_append_left (by rw [List.length_set]; omega), List.getElem?_set]
      by_cases he : m = j - i * sz
      · rw [if_pos he, if_pos (by omega), if_pos (by omega), if_pos (by omega)]
      · rw [if_neg he, if_neg (by omega)]
        have hlt : j - i * sz < c.length := by omega
        have := h (j - i * sz) c[j - i * sz] (by simp [hlt])
        rw [show i * sz + (j - i * sz) = j by omega] at this
        rw [this]; simp [hlt]
    · rw [List.getElem?_append_right (by rw [List.length_set]; omega), List.length_set, List.getElem?_drop, if_neg (by omega)]
      congr 1; omega
/-- A cell of an element of a row of one's own is written. -/
theorem e_store_o {t e : TypeId} {x y : Operand} {v u : Value} {ad : Addr} {cp m : Nat} {xs : List α} {i : Int} {xo x' : α} {z : Value} {bytes : Nat} (h : Sat w0 w Kn (SP.row d e v xs :: L)) (ho : o.op = .store t x y) (hi : tinfo P t = some (z, 1, bytes)) (hv : v = .slice (some ad) xs.length cp) (hx : a.eval x = .pointer (some (ad.add (i.toNat * d.sz + m)))) (hix : ix xs i = some xo) (hy : a.eval y = u) (hu : u.oneCell' = true) (hm : m < d.sz)
    (hrep : ∀ cs, d.rep Kn xo cs → d.rep Kn x' (cs.set m u)) (k : ∀ w', Sat w0 w' Kn (SP.row d e v (xs.set i.toNat x') :: L) → K (a.put o.dst undef) w') : o.wp P a w K Q := by
  obtain ⟨ti, hti, _, hs, _⟩ := tinfo_parts hi
  obtain ⟨i0, i1, hxi⟩ := ix_some hix
  have hit : i.toNat < xs.length := by omega
  obtain ⟨aa, ha, hal, had, f, f1, f2, f3, f4, f5⟩ := h.split1
  rcases ha with ⟨e1, e2, _⟩ | ⟨g, off, cap, cur, cs, e1, h2, h3, h4, h5, h6, h7, rfl⟩
  · subst e2; simp at hit
  · rw [hv] at e1
    obtain ⟨rfl, rfl⟩ : ad = ⟨g, 0, none⟩ ∧ cp = cap := by simpa using e1
    obtain ⟨c, hc, hcj⟩ := Kd.reps_get h6 i.toNat xo hxi
    have hcl := d.len hc
    have hgw : w.heap[g]? = some (.cells cur e (0, 0)) := Hp.single_le.1 (show Hp.le (Hp.single g _) (hp w) by rw [← h2]; exact hal)
    rw [Addr.add_lit, Nat.zero_add] at hx
    have hold : cur[i.toNat * d.sz + m]? = some c[m] := by
      have := h7 _ _ (hcj m c[m] (by simp [hcl, hm]))
      simpa using this
    have hlt : i.toNat * d.sz + m < cur.size := (Array.getElem?_eq_some_iff.1 hold).1
    have hcell : w.cell? ⟨g, i.toNat * d.sz + m, none⟩ = some c[m] := by rw [cell_of_row w g _ _ e (0, 0) hgw]; exact hold
    have hfz := frozen_of_row w g (i.toNat * d.sz + m) _ e hgw
    have hcells : u.cells = #[u] := by cases u <;> first | rfl | (simp [Value.oneCell'] at hu)
    have hnew : Sat w0 (w.setCell ⟨g, i.toNat * d.sz + m, none⟩ u) Kn (SP.row d e v (xs.set i.toNat x') :: L) := by
      rw [setCell_eq_setRow w g _ _ e (0, 0) u hgw]
      refine h.update rfl rfl rfl (fun a' ha' hal' => ?_)
      have hdom : ∀ k, a' k ≠ none ↔ k = g := by
        intro k
        rcases ha' with ⟨e', _⟩ | ⟨g', off', cap', cur', cs', e', hh', _⟩
        · rw [hv] at e'; simp at e'
        · have : g' = g := by
            rw [hv] at e'
            simp only [Value.slice.injEq, Option.some.injEq, Addr.mk.injEq] at e'
            exact e'.1.1.symm
          subst this
          rw [hh']
          simp [Hp.single]
      refine ⟨Hp.single g (.cells (cur.setIfInBounds (i.toNat * d.sz + m) u) e (0, 0)), ?_, Hp.single_le.2 (setRow_heap w g cur _ e _ hgw), fun k hk => .inl ?_, fun k hk o' ho' => ?_⟩
      · refine .inr ⟨g, 0, cp, cur.setIfInBounds (i.toNat * d.sz + m) u, cs.set (i.toNat * d.sz + m) u, by rw [hv, List.length_set], rfl, by rw [List.length_set]; exact h3, h4, by rw [Array.size_setIfInBounds]; exact h5, ?_, fun j u' hu' => ?_, rfl⟩
        · have := Kd.reps_set i.toNat x' (c.set m u) h6 hit (hrep c hc)
          rw [set_mid hcl hm hcj] at this
          exact this
        · rw [List.getElem?_set] at hu'
          rw [Array.getElem?_setIfInBounds]
          by_cases he : i.toNat * d.sz + m = j
          · rw [if_pos he] at hu'
            rw [if_pos (by omega)]
            split at hu'
            · simp only [Option.some.injEq] at hu'
              rw [if_pos (by omega), hu']
            · cases hu'
          · rw [if_neg he] at hu'
            rw [if_neg (by omega)]
            exact h7 j u' hu'
      · rw [hdom]
        simp only [Hp.single] at hk
        split at hk
        · assumption
        · exact absurd rfl hk
      · have hne : k ≠ g := fun e' => absurd hk ((hdom k).2 e')
        exact (setRow_other w g k _ hne).trans ho'
    refine op_skip (w' := w.setCell ⟨g, i.toNat * d.sz + m, none⟩ u) ?_ (k _ hnew)
    unfold execOp; rw [ho]
    simp [hx, hy, Instr.storeAt, Instr.sureAddr, storeVar, sizeOf, typeInfo, hti, hs, hcells, storeCells, add_zero, run_store P w _ u _ hu, hcell, hfz]
theorem r_stringR {s t e : TypeId} {x : Operand} {v : Value} {l : List UInt8} (ho : o.op = .convert s t x) (hs : P.underlying s = some (.slice e)) (he : P.underlying e = some (.int .u8)) (ht : P.underlying t = some .string) (hx : a.eval x = v) (h : Rd w0 Kn L w) (hv : Kd.u8.sl Kn v l) : (execOp a.eval o).run P w = .ok (.value (strV l)) w := by
  obtain ⟨K', hk, hS⟩ := h
  exact r_string ho hs he ht hx hS (Kd.sl_mono hk hv)
theorem r_shl {t u : TypeId} {x y : Operand} {m : Int} {n : Nat} {k : IntKind} (ho : o.op = .binOp .shl t x y u) (hx : a.eval x = .int .i64 m) (hy : a.eval y = .int k (n : Int)) (hn : n ≤ 63) : (execOp a.eval o).run P w = .ok (.value (.int .i64 (w64 (m * 2 ^ n)))) w := by
  refine r_shift ho hx hy ?_
  have h0 : ¬ ((n : Int) < 0) := by omega
  have hmin : min n IntKind.i64.bits = n := by simp only [IntKind.bits]; omega
  rw [← wrap_i64]
  simp [binOp, Op.shift, h0, hmin]
def or64 (m n : Int) : Int := IntKind.i64.wrap (((BitVec.ofInt 64 m ||| BitVec.ofInt 64 n).toNat : Nat) : Int)
theorem r_or64 {t u : TypeId} {x y : Operand} {m n : Int} (ho : o.op = .binOp .or t x y u) (hx : a.eval x = .int .i64 m) (hy : a.eval y = .int .i64 n) : (execOp a.eval o).run P w = .ok (.value (.int .i64 (or64 m n))) w :=
  r_bits ho hx hy rfl
def and64 (m n : Int) : Int := IntKind.i64.wrap (((BitVec.ofInt 64 m &&& BitVec.ofInt 64 n).toNat : Nat) : Int)
theorem r_and64 {t u : TypeId} {x y : Operand} {m n : Int} (ho : o.op = .binOp .and t x y u) (hx : a.eval x = .int .i64 m) (hy : a.eval y = .int .i64 n) : (execOp a.eval o).run P w = .ok (.value (.int .i64 (and64 m n))) w :=
  r_bits ho hx hy rfl
def xor64 (m n : Int) : Int := IntKind.i64.wrap (((BitVec.ofInt 64 m ^^^ BitVec.ofInt 64 n).toNat : Nat) : Int)
theorem r_xor64 {t u : TypeId} {x y : Operand} {m n : Int} (ho : o.op = .binOp .xor t x y u) (hx : a.eval x = .int .i64 m) (hy : a.eval y = .int .i64 n) : (execOp a.eval o).run P w = .ok (.value (.int .i64 (xor64 m n))) w :=
  r_bits ho hx hy rfl
theorem r_conv_k8 {s t : TypeId} {x : Operand} {d : TypeDesc} {k : IntKind} {n : Int} (ho : o.op = .convert s t x) (hs : P.underlying s = some d) (ht : P.underlying t = some (.int .u8)) (hx : a.eval x = .int k n) : (execOp a.eval o).run P w = .ok (.value (.int .u8 (b8 (toB n)))) w := by
  have h := r_conv_int (w := w) ho hs ht hx
  rw [wrap_toB] at h
  exact h
theorem r_conv_ss {s t : TypeId} {x : Operand} {l : List UInt8} (ho : o.op = .convert s t x) (hs : P.underlying s = some .string) (ht : P.underlying t = some .string) (hx : a.eval x = strV l) : (execOp a.eval o).run P w = .ok (.value (strV l)) w := by
  unfold execOp; rw [ho]; simp [hx, strV, convert, run_underlying hs, run_underlying ht]
end
end Go.Proofs.YthjfnknhcmhmiaaDoor.Sl
