/-
  The memory logic, fifteenth part: scopes with forward labels; making a row; a part of a row, copied into; the leaves that count and search bytes.
-/
import Derived.Test.YthjfnknhcmhmiaaDoorSl14
import Derived.Laws.MakeOwn
import Derived.Laws.CopyRow
import Derived.Lib.BufferWrite
import Derived.Lib.BytesEntry
import Derived.Lib.AppendZeros
import Derived.Lib.SliceRun
set_option linter.unusedVariables false
set_option linter.unusedSimpArgs false
namespace Go.Proofs.YthjfnknhcmhmiaaDoor.Sl
open Go Go.RowKit

section
variable {P : Program} {Q : Exit → Act → World → Prop} {a : Act} {w : World} {s x y : Code}
theorem c_scp_cut (J : Act → World → Prop) (hx : x.wp P (Exit.then J (Exit.scp P s Q)) a w) (hy : ∀ a w, J a w → Scp P s y Q a w) : Scp P s (.seq x y) Q a w :=
  c_scp_seq (wp_mono hx fun e a w h => by cases e <;> first | exact hy a w h | exact h)
end

section
variable {P : Program} {o : Oper} {a : Act} {w w0 : World} {Kn : Hp} {L : List SP} {K : Act → World → Prop} {Q : Exit → Act → World → Prop} {α : Type} {d : Kd α}
/-! ### 1. A new row -/
theorem madeCells_get {z : Array Value} {n j : Nat} (hz : z.size = 1) (hj : j < n) : (madeCells z n)[j]? = z[0]? := by
  simp only [madeCells, Array.getElem?_map, Array.getElem?_range, if_pos hj, Option.map_some, hz, Nat.mod_one]
  have : 0 < z.size := by omega
  simp [this]
theorem reps_replicate {x : α} {u : Value} (h : d.rep Kn x [u]) : ∀ n : Nat, d.reps Kn (List.replicate n x) (List.replicate n u) := by
  intro n
  induction n with
  | zero => rfl
  | succ n ih => exact ⟨[u], List.replicate n u, by rw [List.replicate_succ]; rfl, h, ih⟩
/-- 'make([]T, l, c)', T of one cell -/
theorem e_make {t e : TypeId} {x y : Operand} {kl kc : IntKind} {l c : Int} {x0 : α} {z u : Value} {bytes : Nat} (h : Sat w0 w Kn L) (ho : o.op = .makeSlice t x y) (ht : P.underlying t = some (.slice e)) (hi : tinfo P e = some (z, 1, bytes)) (hs : d.sz = 1) (hz : z.cells = #[u]) (hr : d.rep Kn x0 [u])
    (hx : a.eval x = .int kl l) (hy : a.eval y = .int kc c) (h0 : 0 ≤ l ∧ l ≤ c ∧ c * bytes ≤ 140737488355328 ∧ c ≤ 9223372036854775807)
    (k : ∀ v w', Sat w0 w' Kn (SP.row d e v (List.replicate l.toNat x0) :: L) → K (a.put o.dst v) w') : o.wp P a w K Q := by
  obtain ⟨ti, hti, hz', hsz, hb⟩ := tinfo_parts hi
  obtain ⟨h0, h1, h2, h3⟩ := h0
  have hrun := run_make (P := P) w t e ti z ht hti hz' kl kc l c h0 h1 (by rw [hb, Int.mul_comm]; omega) h3
  rw [hsz, Nat.mul_one] at hrun
  refine op_val (v := .slice (some ⟨w.heap.size, 0, none⟩) l.toNat c.toNat) (w' := w.alloc (.cells (madeCells z.cells c.toNat) e)) (by unfold execOp; rw [ho]; simp [hx, hy, hrun]) (k _ _ ?_)
  have h1' := h.alloc (madeCells z.cells c.toNat).toList e
  rw [Array.toArray_toList] at h1'
  refine h1'.swap (fun b hb' => .inr ⟨w.heap.size, 0, c.toNat, madeCells z.cells c.toNat, List.replicate l.toNat u, by simp only [List.length_replicate], ?_, by rw [List.length_replicate]; omega, by simp only [maxLen]; omega, ?_, reps_replicate hr _, fun j v hj => ?_, rfl⟩)
  · have : b = Hp.single w.heap.size (.cells (madeCells z.cells c.toNat).toList.toArray e (0, 0)) := hb'
    rw [this, Array.toArray_toList]
  · rw [hs, size_madeCells]; omega
  · rw [List.getElem?_replicate] at hj
    split at hj
    · rename_i hlt
      rw [Nat.zero_add, madeCells_get (by rw [hz]; rfl) (by omega), hz, ← hj]
      rfl
    · cases hj

/-! ### 2. A part of a row -/
/-- u is row v's part from place lo on, n cells -/
def SubV (v u : Value) (len lo n : Nat) : Prop := lo + n ≤ len ∧ ∃ A' c2, u = .slice A' n c2 ∧ (n = 0 ∨ ∃ ad c, v = .slice (some ad) len c ∧ A' = some (ad.add lo))
theorem r_cut_row_ {t e : TypeId} {x : Operand} {lo hi : Option Operand} {v : Value} {xs ys : List α} {l h : Int} {k k' : IntKind} {z : Value} {bytes : Nat} (ho : o.op = .slice t x lo hi none) (ht : P.underlying t = some (.slice e)) (hi' : tinfo P e = some (z, 1, bytes)) (hx : a.eval x = v) (hv : Sat w0 w Kn (SP.row d e v xs :: L))
    (hl : (lo.map a.eval = some (.int k l)) ∨ (lo = none ∧ l = 0)) (hh : (hi.map a.eval = some (.int k' h)) ∨ (hi = none ∧ h = xs.length)) (hc : cutL xs l h = some ys) :
    ∃ u, SubV v u xs.length l.toNat (h.toNat - l.toNat) ∧ (l = 0 → ∃ A c, v = .slice A xs.length c ∧ u = .slice A h.toNat c) ∧ ∀ w, (execOp a.eval o).run P w = .ok (.value u) w := by
  obtain ⟨h0, h1, h2, rfl⟩ := cutL_some hc
  obtain ⟨A, c, rfl, hlc, hcm⟩ := hv.row_slice
  have hnone : A = none → xs.length = 0 := by
    rintro rfl
    obtain ⟨b, hb | ⟨g, off, cap, cur, cs, e1, _⟩, _⟩ := hv.split1
    · rw [hb.2.1]; rfl
    · simp at e1
  obtain ⟨ti, hti, _, hsz, _⟩ := tinfo_parts hi'
  refine ⟨.slice (if c = l.toNat then A else A.map (·.add l.toNat)) (h.toNat - l.toNat) (c - l.toNat), ⟨by omega, _, _, rfl, ?_⟩, fun hl0 => ⟨A, c, rfl, ?_⟩, fun w => ?_⟩
  · by_cases hcl : c = l.toNat
    · left; omega
    · rw [if_neg hcl]
      cases A with
      | none => left; have := hnone rfl; omega
      | some ad => exact .inr ⟨ad, c, rfl, rfl⟩
  · subst hl0
    simp only [Int.toNat_zero, Nat.sub_zero]
    congr 1
    split
    · rfl
    · cases A with
      | none => rfl
      | some ad => simp [add_zero]
  · unfold execOp; rw [ho]
    have hb : ∀ (k : IntKind) (i : Int) (y : Nat) (c : BoundsCode), 0 ≤ i → i ≤ y → (Instr.sliceBound (.int k i) y c).run P w = .ok i.toNat w := fun k i y c a b => run_sliceBound w k i y c a b
    have key : (Instr.slice t (.slice A xs.length c) (lo.map a.eval) (hi.map a.eval) none).run P w = .ok (.slice (if c = l.toNat then A else A.map (·.add l.toNat)) (h.toNat - l.toNat) (c - l.toNat)) w := by
      rcases hl with hl | ⟨rfl, rfl⟩ <;> rcases hh with hh | ⟨rfl, rfl⟩
      · rw [hl, hh]
        simp [Instr.slice, run_underlying ht, Instr.sliceBounds, hb k l h.toNat .sliceB h0 (by omega), hb k' h c .sliceAcap (by omega) (by omega), sizeOf, typeInfo, hti, hsz]
      · rw [hl]
        simp [Instr.slice, run_underlying ht, Instr.sliceBounds, hb k l xs.length .sliceB h0 h1, sizeOf, typeInfo, hti, hsz]
      · rw [hh]
        simp [Instr.slice, run_underlying ht, Instr.sliceBounds, hb k' h c .sliceAcap (by omega) (by omega), sizeOf, typeInfo, hti, hsz]
      · simp [Instr.slice, run_underlying ht, Instr.sliceBounds, sizeOf, typeInfo, hti, hsz]
    have e : (Instr.sliceAt t (.slice A xs.length c) (lo.map a.eval) (hi.map a.eval) none).run P w = (Instr.slice t (.slice A xs.length c) (lo.map a.eval) (hi.map a.eval) none).run P w := by
      simp [Instr.sliceAt, run_underlying ht]
    simp only [hx, Option.map_none]
    simp [e, key]
/-- a row cut short -/
theorem _root_.Go.Proofs.YthjfnknhcmhmiaaDoor.Sl.Sat.row_trunc {e : TypeId} {v : Value} {xs : List α} {A : Option Addr} {c m : Nat} (h : Sat w0 w Kn (SP.row d e v xs :: L)) (hv : v = .slice A xs.length c) (hm : m ≤ xs.length) : Sat w0 w Kn (SP.row d e (.slice A m c) (xs.take m) :: L) := by
  refine h.swap (fun a ha => ?_)
  rcases ha with ⟨rfl, rfl, hz⟩ | ⟨g, off, cap, cur, cs, h1, h2, h3, h4, h5, h6, h7, h8⟩
  · have hm0 : m = 0 := by simpa using hm
    subst hm0
    obtain ⟨rfl, rfl⟩ : A = none ∧ c = 0 := by
      simp only [Value.slice.injEq] at hv
      exact ⟨hv.1.symm, hv.2.2.symm⟩
    exact .inl ⟨rfl, rfl, hz⟩
  · rw [hv] at h1
    obtain ⟨rfl, rfl⟩ : A = some ⟨g, off, none⟩ ∧ c = cap := by
      simp only [Value.slice.injEq] at h1
      exact ⟨h1.1, h1.2.2⟩
    have hl : (xs.take m).length = m := by rw [List.length_take]; omega
    exact .inr ⟨g, off, c, cur, cs.take (m * d.sz), by rw [hl], h2, by rw [hl]; omega, h4, h5, Kd.reps_take m h6, (fun j u hu => by
      rw [List.getElem?_take] at hu
      split at hu
      · exact h7 j u hu
      · cases hu), h8⟩
theorem subv_whole {e : TypeId} {v : Value} {xs : List α} (h : Sat w0 w Kn (SP.row d e v xs :: L)) : SubV v v xs.length 0 xs.length := by
  obtain ⟨b, hb | ⟨g, off, cap, cur, cs, h1, _⟩, _⟩ := h.split1
  · obtain ⟨rfl, rfl, _⟩ := hb
    exact ⟨by simp, none, 0, rfl, .inl rfl⟩
  · subst h1
    exact ⟨by omega, _, cap, rfl, .inr ⟨_, cap, rfl, by rw [add_zero]⟩⟩
/-- 'append([]T(nil), make([]T, n)...)', T of one cell, n at least 1 -/
theorem e_apdz {t tn e : TypeId} {x y : Operand} {k' kn : IntKind} {n : Int} {x0 : α} {z u : Value} {bytes : Nat} (h : Sat w0 w Kn L) (ho : o.op = .call { callee := .builtin .append, args := #[x, y], argTypes := #[t, tn] }) (ht : P.underlying t = some (.slice e)) (htn : P.underlying tn = some (.int kn)) (hi : tinfo P e = some (z, 1, bytes)) (hs : d.sz = 1) (hz : z.cells = #[u]) (hr : d.rep Kn x0 [u])
    (hx : a.eval x = .slice none 0 0) (hy : a.eval y = .int k' n) (h0 : 0 < n ∧ n * bytes ≤ 140737488355328 ∧ n ≤ 9223372036854775807)
    (k : ∀ v w', Sat w0 w' Kn (SP.row d e v (List.replicate n.toNat x0) :: L) → K (a.put o.dst v) w') : o.wp P a w K Q := by
  obtain ⟨ti, hti, hz', hsz, hb⟩ := tinfo_parts hi
  obtain ⟨h0, h1, h2⟩ := h0
  obtain ⟨m, rfl⟩ : ∃ m : Nat, n = (m : Int) := ⟨n.toNat, by omega⟩
  rw [Int.toNat_natCast] at k
  have h1' : m * bytes ≤ 140737488355328 := by
    have : ((m * bytes : Nat) : Int) ≤ 140737488355328 := by rw [Int.natCast_mul]; exact h1
    omega
  have hrun := Lib.run_append_nil_zeros (P := P) w t tn o.type e ti z k' kn ht htn hti hz' m (by omega) (by omega) h2 (by rw [hb]; omega)
  have hge := grownCap_ge w m 0 e
  have hcm := grownCap_le_maxLen w m 0 e (by simp only [maxLen]; omega)
  refine Lib.wp_append_run w x y t tn ho _ _ hx hy _ _ hrun (k _ _ ?_)
  have h2 := (h.drew).alloc (Builtin.zeroCells z.cells m ++ Builtin.zeroCells z.cells (grownCap w m 0 e - m)).toList e
  rw [Array.toArray_toList] at h2
  have hzc : ∀ j q, j < q → (Builtin.zeroCells z.cells q)[j]? = some u := by
    intro j q hj
    simp only [Builtin.zeroCells, hz]
    simp [hj, Nat.mod_one]
  have hzl : ∀ q, (Builtin.zeroCells z.cells q).size = q := by
    intro q; simp [Builtin.zeroCells, hz]
  refine h2.swap (fun b hb' => .inr ⟨w.heap.size, 0, grownCap w m 0 e, Builtin.zeroCells z.cells m ++ Builtin.zeroCells z.cells (grownCap w m 0 e - m), List.replicate m u, by simp only [List.length_replicate], ?_, by rw [List.length_replicate]; exact hge, hcm, ?_, reps_replicate hr _, fun j v hj => ?_, rfl⟩)
  · have : b = Hp.single w.heap.size (.cells (Builtin.zeroCells z.cells m ++ Builtin.zeroCells z.cells (grownCap w m 0 e - m)).toList.toArray e (0, 0)) := hb'
    rw [this, Array.toArray_toList]
  · rw [hs, Array.size_append, hzl, hzl]; omega
  · rw [List.getElem?_replicate] at hj
    split at hj
    · rename_i hlt
      rw [Nat.zero_add, Array.getElem?_append_left (by rw [hzl]; exact hlt), hzc j m hlt, ← hj]
    · cases hj
/-- a slice held against nil -/
theorem r_slnil {t u e : TypeId} {x y : Operand} {A : Option Addr} {n c n' c' : Nat} {b : Bool} (ho : o.op = .binOp .eql t x y u) (ht : P.underlying t = some (.slice e)) (hx : a.eval x = .slice A n c) (hy : a.eval y = .slice none n' c') (hA : A.isNone = b) : (execOp a.eval o).run P w = .ok (.value (.bool b)) w := by
  subst hA
  refine r_bin ho (by rw [hx, hy]; simp [eqGuard]) ?_
  rw [hx, hy, Lib.run_eql_slice_nil (P := P) w t e A n c n' c' ht]
theorem sl_nil_or {v : Value} {xs : List α} (h : d.sl Kn v xs) (h0 : 0 < d.sz) : (∃ c, v = .slice none 0 c ∧ xs = []) ∨ ∃ ad c, v = .slice (some ad) xs.length c := by
  obtain ⟨A, c, cs, rfl, hlc, hcm, hr, hat⟩ := h
  cases A with
  | some ad => exact .inr ⟨ad, c, rfl⟩
  | none =>
    rcases hat with hcs | ⟨ad, h, _⟩
    · have hl := Kd.reps_len hr
      rw [hcs] at hl
      have : xs.length = 0 := by
        rcases Nat.mul_eq_zero.1 hl.symm with h | h
        · exact h
        · omega
      have hx : xs = [] := List.length_eq_zero_iff.1 this
      subst hx
      exact .inl ⟨c, rfl, rfl⟩
    · cases h
theorem r_cap_nil {t e : TypeId} {x : Operand} {n c : Nat} {A : Option Addr} (ho : o.op = .call { callee := .builtin .cap, args := #[x], argTypes := #[t] }) (ht : P.underlying t = some (.slice e)) (hx : a.eval x = .slice A n c) : (execOp a.eval o).run P w = .ok (.value (.int .i64 c)) w := by
  unfold execOp; rw [ho]
  simp [resolve, invoke, builtin, hx, Builtin.cap_, run_underlying ht, goInt]
/-- ys over xs, from place lo on, n cells at most -/
def ovw (xs : List α) (lo n : Nat) (ys : List α) : List α := xs.take lo ++ ys.take n ++ xs.drop (lo + min n ys.length)
theorem ovw_length {xs ys : List α} {lo n : Nat} (h : lo + n ≤ xs.length) : (ovw xs lo n ys).length = xs.length := by
  simp only [ovw, List.length_append, List.length_take, List.length_drop]; omega
theorem reps_one_len (hs : d.sz = 1) {xs : List α} {cs : List Value} (h : d.reps Kn xs cs) : cs.length = xs.length := by
  have := Kd.reps_len h
  rw [hs, Nat.mul_one] at this
  exact this
/-- 'copy(u, y)', u a part of a row of one's own, elements of one cell; what is copied: the cells news -/
theorem e_copy {t t2 e e' : TypeId} {x y : Operand} {z v u yv : Value} {bytes lo n : Nat} {xs ys : List α} {news : List Value} (h : Sat w0 w Kn (SP.row d e' v xs :: L)) (ho : o.op = .call { callee := .builtin .copy, args := #[x, y], argTypes := #[t, t2] })
    (ht : P.underlying t = some (.slice e)) (hi : tinfo P e = some (z, 1, bytes)) (hs : d.sz = 1) (hx : a.eval x = u) (hu : SubV v u xs.length lo n) (hy : a.eval y = yv)
    (hlen : ∀ w, (Builtin.lenOf yv).run P w = .ok ys.length w) (hr : d.reps Kn (ys.take n) news) (hfc : (Builtin.firstCells 1 (min ys.length n) yv).run P w = .ok news.toArray w)
    (k : ∀ w', Sat w0 w' Kn (SP.row d e' v (ovw xs lo n ys) :: L) → K (a.put o.dst (.int .i64 (min ys.length n : Nat))) w') : o.wp P a w K Q := by
  obtain ⟨ti, hti, _, hsz, _⟩ := tinfo_parts hi
  obtain ⟨hle, A', c2, rfl, hu⟩ := hu
  have hnl : news.length = min n ys.length := by rw [reps_one_len hs hr, List.length_take]
  have hm : Nat.min ys.length n = min ys.length n := rfl
  -- nothing to copy
  by_cases hz0 : min ys.length n = 0
  · have hn0 : news = [] := List.length_eq_zero_iff.1 (by rw [hnl, Nat.min_comm]; exact hz0)
    subst hn0
    have hov : ovw xs lo n ys = xs := by
      have e1 : ys.take n = [] := by rw [← List.length_eq_zero_iff, List.length_take]; omega
      have e2 : min n ys.length = 0 := by omega
      simp [ovw, e1, e2]
    rw [hov] at k
    refine op_val (v := .int .i64 (min ys.length n : Nat)) (w' := w) ?_ (k w h)
    unfold execOp; rw [ho]
    rw [hz0] at hfc ⊢
    cases A' with
    | none => simp [resolve, invoke, builtin, hx, hy, Builtin.copy_, run_underlying ht, sizeOf, typeInfo, hti, hsz, hlen, hm, hz0, hfc, goInt]
    | some ad => simp [resolve, invoke, builtin, hx, hy, Builtin.copy_, run_underlying ht, sizeOf, typeInfo, hti, hsz, hlen, hm, hz0, hfc, goInt, storeCells]
  · rcases hu with rfl | ⟨ad, c, rfl, rfl⟩
    · omega
    obtain ⟨aa, ha, hal, had, f, f1, f2, f3, f4, f5⟩ := h.split1
    rcases ha with ⟨e1, _⟩ | ⟨g, off, cap, cur, cs, e1, h2, h3, h4, h5, h6, h7, rfl⟩
    · simp at e1
    · obtain ⟨rfl, rfl⟩ : ad = ⟨g, 0, none⟩ ∧ c = cap := by simpa using e1
      have hgw : w.heap[g]? = some (.cells cur e' (0, 0)) := Hp.single_le.1 (show Hp.le (Hp.single g _) (hp w) by rw [← h2]; exact hal)
      rw [hs, Nat.mul_one, Nat.zero_add] at h5
      have hcsl := reps_one_len hs h6
      have hone : ∀ q ∈ news, q.oneCell' = true := Kd.reps_one hr
      have hst := run_storeCells_at P g lo e' news 0 cur w hgw (by omega) hone
      simp only [Nat.add_zero] at hst
      refine op_val (v := .int .i64 (min ys.length n : Nat)) (w' := w.setRow g (cur.toList.take lo ++ news ++ cur.toList.drop (lo + news.length)).toArray) ?_ (k _ ?_)
      · unfold execOp; rw [ho]
        have : (⟨g, 0, none⟩ : Addr).add lo = ⟨g, lo, none⟩ := by rw [Addr.add_lit]; simp
        simp [resolve, invoke, builtin, hx, hy, Builtin.copy_, run_underlying ht, sizeOf, typeInfo, hti, hsz, hlen, hm, hfc, goInt, this, hst]
      · refine h.update rfl rfl rfl (fun a' ha' hal' => ?_)
        have hdom : ∀ k, a' k ≠ none ↔ k = g := by
          intro k
          rcases ha' with ⟨e', _⟩ | ⟨g', off', cap', cur', cs', e', hh', _⟩
          · simp at e'
          · have : g' = g := by
              simp only [Value.slice.injEq, Option.some.injEq, Addr.mk.injEq] at e'
              exact e'.1.1.symm
            subst this
            rw [hh']
            simp [Hp.single]
        refine ⟨Hp.single g (.cells (cur.toList.take lo ++ news ++ cur.toList.drop (lo + news.length)).toArray e' (0, 0)), ?_, Hp.single_le.2 (setRow_heap w g cur _ e' _ hgw), fun k hk => .inl ?_, fun k hk o' ho' => ?_⟩
        · have hr1 := Kd.reps_append (Kd.reps_append (Kd.reps_take lo h6) hr) (Kd.reps_drop (lo + min n ys.length) h6)
          rw [hs, Nat.mul_one, Nat.mul_one] at hr1
          refine .inr ⟨g, 0, c, _, _, by rw [ovw_length hle], rfl, by rw [ovw_length hle]; exact h3, h4, ?_, hr1, fun j u' hu' => ?_, rfl⟩
          · rw [hs]
            simp only [List.size_toArray, List.length_append, List.length_take, List.length_drop, Array.length_toList]; omega
          · rw [Nat.zero_add, List.getElem?_toArray]
            have hcl : cur.toList.length = cur.size := Array.length_toList
            have hget : ∀ (i : Nat) (q : Value), cs[i]? = some q → cur.toList[i]? = some q := fun i q hq => by
              rw [Array.getElem?_toList]
              have := h7 i q hq
              rwa [Nat.zero_add] at this
            have l1 : (cs.take lo).length = lo := by rw [List.length_take]; omega
            have l2 : (cur.toList.take lo).length = lo := by rw [List.length_take]; omega
            rw [List.append_assoc] at hu' ⊢
            rcases Nat.lt_or_ge j lo with hj | hj
            · rw [List.getElem?_append_left (by omega), List.getElem?_take, if_pos hj] at hu'
              rw [List.getElem?_append_left (by omega), List.getElem?_take, if_pos hj]
              exact hget j u' hu'
            · rw [List.getElem?_append_right (by omega), l1] at hu'
              rw [List.getElem?_append_right (by omega), l2]
              rcases Nat.lt_or_ge (j - lo) news.length with hj2 | hj2
              · rw [List.getElem?_append_left hj2] at hu' ⊢
                exact hu'
              · rw [List.getElem?_append_right hj2, List.getElem?_drop] at hu'
                rw [List.getElem?_append_right hj2, List.getElem?_drop]
                rw [← hnl] at hu'
                exact hget _ u' hu'
        · rw [hdom]
          simp only [Hp.single] at hk
          split at hk
          · assumption
          · exact absurd rfl hk
        · have hne : k ≠ g := fun e' => absurd hk ((hdom k).2 e')
          exact (setRow_other w g k _ hne).trans ho'
/-- what is copied is known -/
theorem e_copy_sl {t t2 e e' : TypeId} {x y : Operand} {z v u yv : Value} {bytes lo n : Nat} {xs ys : List α} (h : Sat w0 w Kn (SP.row d e' v xs :: L)) (ho : o.op = .call { callee := .builtin .copy, args := #[x, y], argTypes := #[t, t2] })
    (ht : P.underlying t = some (.slice e)) (hi : tinfo P e = some (z, 1, bytes)) (hs : d.sz = 1) (hx : a.eval x = u) (hu : SubV v u xs.length lo n) (hy : a.eval y = yv) (hv : d.sl Kn yv ys)
    (k : ∀ w', Sat w0 w' Kn (SP.row d e' v (ovw xs lo n ys) :: L) → K (a.put o.dst (.int .i64 (min ys.length n : Nat))) w') : o.wp P a w K Q := by
  obtain ⟨A, c, cs, rfl, hlc, hcm, hr, hat⟩ := hv
  have hcl := reps_one_len hs hr
  have hr' := Kd.reps_take n hr
  rw [hs, Nat.mul_one] at hr'
  refine e_copy h ho ht hi hs hx hu hy (fun w => by simp [Builtin.lenOf]) hr' ?_ k
  rcases hat with hcs | ⟨ad, rfl, hcell⟩
  · subst hcs
    have : ys.length = 0 := by simpa using hcl.symm
    rw [this]
    cases A <;> simp [Builtin.firstCells, loadCells, loadCellsFrom]
  · have := run_firstCells_some (P := P) w 1 (min ys.length n) ad ys.length c (cs.take n) (by rw [List.length_take, hcl, Nat.mul_one, Nat.min_comm]) (fun j q hq => by
      rw [List.getElem?_take] at hq
      split at hq
      · exact h.cell (hcell j q hq)
      · cases hq)
    exact this
/-- .. a string -/
theorem e_copy_str {t t2 e e' : TypeId} {x y : Operand} {z v u : Value} {bytes lo n : Nat} {xs s : List UInt8} (h : Sat w0 w Kn (SP.row Kd.u8 e' v xs :: L)) (ho : o.op = .call { callee := .builtin .copy, args := #[x, y], argTypes := #[t, t2] })
    (ht : P.underlying t = some (.slice e)) (hi : tinfo P e = some (z, 1, bytes)) (hx : a.eval x = u) (hu : SubV v u xs.length lo n) (hy : a.eval y = strV s)
    (k : ∀ w', Sat w0 w' Kn (SP.row Kd.u8 e' v (ovw xs lo n s) :: L) → K (a.put o.dst (.int .i64 (min s.length n : Nat))) w') : o.wp P a w K Q := by
  have hreps : ∀ m : List UInt8, Kd.u8.reps Kn m (m.map (fun c => Value.int .u8 (b8 c))) := by
    intro m
    induction m with
    | nil => rfl
    | cons c m ih => exact ⟨[.int .u8 (b8 c)], _, rfl, rfl, ih⟩
  refine e_copy h ho ht hi rfl hx hu hy (fun w => by simp [Builtin.lenOf, strV, strV_size]) (hreps (s.take n)) ?_ k
  simp [Builtin.firstCells, strV, b8]
  exact Nat.min_comm _ _

theorem execOp_slice {o o' : Oper} {ev : Operand → Value} {t : TypeId} {x : Operand} {lo hi mx : Option Operand} (h : o.op = .slice t x lo hi mx) (h' : o'.op = .slice t x lo hi mx) : execOp ev o = execOp ev o' := by
  unfold execOp; rw [h, h']
theorem cut_row {t e : TypeId} {v : Value} {xs ys : List α} {l h : Int} {k k' : IntKind} {z : Value} {bytes : Nat} (x : Operand) (lo hi : Option Operand) (ht : P.underlying t = some (.slice e)) (hi' : tinfo P e = some (z, 1, bytes)) (hx : a.eval x = v) (hv : Sat w0 w Kn (SP.row d e v xs :: L))
    (hl : (lo.map a.eval = some (.int k l)) ∨ (lo = none ∧ l = 0)) (hh : (hi.map a.eval = some (.int k' h)) ∨ (hi = none ∧ h = xs.length)) (hc : cutL xs l h = some ys) :
    ∃ u, SubV v u xs.length l.toNat (h.toNat - l.toNat) ∧ (l = 0 → ∃ A c, v = .slice A xs.length c ∧ u = .slice A h.toNat c) ∧ ∀ (o : Oper) w, o.op = .slice t x lo hi none → (execOp a.eval o).run P w = .ok (.value u) w := by
  obtain ⟨u, h1, h2, h3⟩ := r_cut_row_ (o := ⟨none, .slice t x lo hi none, 0, default, #[], none⟩) (P := P) rfl ht hi' hx hv hl hh hc
  exact ⟨u, h1, h2, fun o w ho => by rw [execOp_slice (o' := ⟨none, .slice t x lo hi none, 0, default, #[], none⟩) ho rfl]; exact h3 w⟩
theorem cut_sl {t e : TypeId} {v : Value} {xs ys : List α} {l h : Int} {k k' : IntKind} {z : Value} {bytes : Nat} (x : Operand) (lo hi : Option Operand) (ht : P.underlying t = some (.slice e)) (hi' : tinfo P e = some (z, d.sz, bytes)) (hx : a.eval x = v) (hv : d.sl Kn v xs)
    (hl : (lo.map a.eval = some (.int k l)) ∨ (lo = none ∧ l = 0)) (hh : (hi.map a.eval = some (.int k' h)) ∨ (hi = none ∧ h = xs.length)) (hc : cutL xs l h = some ys) :
    ∃ u, d.sl Kn u ys ∧ ∀ (o : Oper) w, o.op = .slice t x lo hi none → (execOp a.eval o).run P w = .ok (.value u) w := by
  obtain ⟨u, h1, h3⟩ := r_cut_sl (o := ⟨none, .slice t x lo hi none, 0, default, #[], none⟩) (P := P) rfl ht hi' hx hv hl hh hc
  exact ⟨u, h1, fun o w ho => by rw [execOp_slice (o' := ⟨none, .slice t x lo hi none, 0, default, #[], none⟩) ho rfl]; exact h3 w⟩
theorem r_cut_nil {t e : TypeId} {x y : Operand} {o : Oper} {k : IntKind} {n bytes : Nat} {z : Value} (ho : o.op = .slice t x none (some y) none) (ht : P.underlying t = some (.slice e)) (hi : tinfo P e = some (z, n, bytes)) (hx : a.eval x = .slice none 0 0) (hy : a.eval y = .int k 0) : (execOp a.eval o).run P w = .ok (.value (.slice none 0 0)) w := by
  obtain ⟨ti, hti, _, hsz, _⟩ := tinfo_parts hi
  unfold execOp; rw [ho]
  have hb := run_sliceBound (P := P) w k 0 0 .sliceAcap (by omega) (by omega)
  simp [hx, hy, Instr.sliceAt, Instr.slice, run_underlying ht, Instr.sliceBounds, hb, sizeOf, typeInfo, hti]
/-! ### 3. Bytes counted, sought -/
def cntB (s : List UInt8) (c : UInt8) : Int := ((s.count c : Nat) : Int)
theorem u8_ints (xs : List UInt8) : Lib.bytesOf (xs.map b8) = xs := by
  induction xs with
  | nil => rfl
  | cons x xs ih =>
    simp only [Lib.bytesOf, List.map_cons] at ih ⊢
    rw [ih]
    simp [b8]
theorem u8_cells {w : World} {v : Value} {xs : List UInt8} (h : Rd w0 Kn L w) (hv : Kd.u8.sl Kn v xs) : (∃ c, v = .slice none xs.length c ∧ xs = []) ∨ ∃ ad c, v = .slice (some ad) xs.length c ∧ ∀ i x, xs[i]? = some x → w.cell? (ad.add i) = some (.int .u8 (b8 x)) := by
  obtain ⟨A, c, cs, rfl, hlc, hcm, hr, hat⟩ := hv
  have hcl := reps_one_len (d := Kd.u8) rfl hr
  rcases hat with hcs | ⟨ad, rfl, hcell⟩
  · subst hcs
    have hx : xs = [] := List.length_eq_zero_iff.1 (by simpa using hcl.symm)
    subst hx
    cases A with
    | none => exact .inl ⟨c, rfl, rfl⟩
    | some ad => exact .inr ⟨ad, c, rfl, fun i x hx => by simp at hx⟩
  · refine .inr ⟨ad, c, rfl, fun i x hx => ?_⟩
    obtain ⟨c', hc', hj⟩ := Kd.reps_get hr i x hx
    have e : c' = [Value.int .u8 (b8 x)] := hc'
    have := hj 0 (.int .u8 (b8 x)) (by rw [e]; rfl)
    rw [show i * Kd.u8.sz + 0 = i from by show i * 1 + 0 = i; omega] at this
    exact h.cell (hcell i _ this)
theorem x_countSl {v : Value} {xs : List UInt8} (c : UInt8) (h : Rd w0 Kn L w) (hv : Kd.u8.sl Kn v xs) : (Extern.BytealgCount.count [v, .int .u8 (b8 c)].toArray).run P w = .ok (.int .i64 (cntB xs c)) w := by
  have hb : (b8 c).toNat.toUInt8 = c := by simp [b8]
  have key : ∀ (b : ByteArray), b.data = xs.toArray → (Extern.BytealgCount.count #[.string b, .int .u8 (b8 c)]).run P w = .ok (.int .i64 (cntB xs c)) w := by
    intro b hbd
    have := Lib.run_countString (P := P) b (b8 c) w
    rw [hb, hbd] at this
    simpa [Lib.countByte, cntB] using this
  rcases u8_cells h hv with ⟨k, rfl, rfl⟩ | ⟨ad, k, rfl, hc⟩
  · exact key .empty rfl
  · have hl := Lib.run_loadBytesX (P := P) w (xs.map b8) ad .empty (fun j x hj => by
      rw [List.getElem?_map] at hj
      cases hx : xs[j]? with
      | none => rw [hx] at hj; cases hj
      | some y => rw [hx] at hj; simp only [Option.map_some, Option.some.injEq] at hj; rw [← hj]; exact hc j y hx)
    rw [u8_ints, List.length_map] at hl
    have hs := key ⟨ByteArray.empty.data ++ xs.toArray⟩ (by simp)
    change Sem.run P (do
      let b ← Extern.Bytes.bytesOf (.slice (some ad) xs.length k)
      let c' ← Extern.Bytes.asByte (.int .u8 (b8 c))
      pure (goInt (b.foldl (fun n x => if x == c' then n + 1 else n) (0 : Nat)))) w = _
    change Sem.run P (do
      let b ← Extern.Bytes.bytesOf (.string ⟨ByteArray.empty.data ++ xs.toArray⟩)
      let c' ← Extern.Bytes.asByte (.int .u8 (b8 c))
      pure (goInt (b.foldl (fun n x => if x == c' then n + 1 else n) (0 : Nat)))) w = _ at hs
    simp only [Extern.Bytes.bytesOf, Sem.run_bind, Sem.run_pure, hl, Result.andThen] at hs ⊢
    simpa using hs
theorem x_countStr (s : List UInt8) (c : UInt8) (w : World) : (Extern.BytealgCount.count [strV s, .int .u8 (b8 c)].toArray).run P w = .ok (.int .i64 (cntB s c)) w := by
  have hb : (b8 c).toNat.toUInt8 = c := by simp [b8]
  have := Lib.run_countString (P := P) ⟨s.toArray⟩ (b8 c) w
  rw [hb] at this
  simpa [Lib.countByte, cntB, strV] using this
theorem x_indexSl {v : Value} {xs : List UInt8} (c : UInt8) (h : Rd w0 Kn L w) (hv : Kd.u8.sl Kn v xs) : (Extern.BytealgIndexByte.indexByte [v, .int .u8 (b8 c)].toArray).run P w = .ok (.int .i64 (idxB xs c)) w := by
  have key := x_indexByte (P := P) xs c w
  rcases u8_cells h hv with ⟨k, rfl, rfl⟩ | ⟨ad, k, rfl, hc⟩
  · exact key
  · have hl := Lib.run_loadBytesX (P := P) w (xs.map b8) ad .empty (fun j x hj => by
      rw [List.getElem?_map] at hj
      cases hx : xs[j]? with
      | none => rw [hx] at hj; cases hj
      | some y => rw [hx] at hj; simp only [Option.map_some, Option.some.injEq] at hj; rw [← hj]; exact hc j y hx)
    rw [u8_ints, List.length_map] at hl
    have he : (⟨ByteArray.empty.data ++ xs.toArray⟩ : ByteArray) = ⟨xs.toArray⟩ := by
      apply ByteArray.ext
      show (#[] : Array UInt8) ++ xs.toArray = xs.toArray
      simp
    rw [he] at hl
    change Sem.run P (do
      let b ← Extern.Bytes.bytesOf (.slice (some ad) xs.length k)
      let c ← Extern.Bytes.asByte (.int .u8 (b8 c))
      match (List.range b.size).find? fun i => b[i]! == c with
      | some i => pure (goInt i)
      | none => pure (goInt (-1))) w = _
    change Sem.run P (do
      let b ← Extern.Bytes.bytesOf (.string ⟨xs.toArray⟩)
      let c ← Extern.Bytes.asByte (.int .u8 (b8 c))
      match (List.range b.size).find? fun i => b[i]! == c with
      | some i => pure (goInt i)
      | none => pure (goInt (-1))) w = _ at key
    simp only [Extern.Bytes.bytesOf, Sem.run_bind, Sem.run_pure, hl, Result.andThen] at key ⊢
    exact key
end
end Go.Proofs.YthjfnknhcmhmiaaDoor.Sl
