/-
  The memory logic, ninth part: append of whatever; literals; '==' of structs; results in memory.
-/
import Derived.Test.YthjfnknhcmhmiaaDoorSl8
import Derived.Lib.AppendStr
set_option linter.unusedVariables false
set_option linter.unusedSimpArgs false
namespace Go.Proofs.YthjfnknhcmhmiaaDoor.Sl
open Go Go.RowKit

/-! ### 1. append -/
section
variable {P : Program} {w : World}
/-- what is appended: how long, and its cells -/
structure Apd (P : Program) (w : World) (t2 : TypeId) (sz m : Nat) (x : Value) (news : List Value) : Prop where
  ty : ∃ d2, P.underlying t2 = some d2 ∧ (∀ k, d2 ≠ .int k)
  len : ∀ w, (Builtin.lenOf x).run P w = .ok m w
  here : (Builtin.firstCells sz m x).run P w = .ok news.toArray w
  drew : (Builtin.firstCells sz m x).run P w.drew = .ok news.toArray w.drew
theorem Apd.of_slice {t2 e2 : TypeId} {sz m c : Nat} {b : Addr} {news : List Value} (ht : P.underlying t2 = some (.slice e2)) (hl : news.length = m * sz) (hat : ∀ j u, news[j]? = some u → w.cell? (b.add j) = some u) : Apd P w t2 sz m (.slice (some b) m c) news where
  ty := ⟨_, ht, fun k h => by cases h⟩
  len := fun w => by simp [Builtin.lenOf]
  here := run_firstCells_some (P := P) w sz m b m c news hl hat
  drew := run_firstCells_some (P := P) w.drew sz m b m c news hl (by simpa using hat)
theorem Apd.of_none {t2 e2 : TypeId} {sz c : Nat} {A : Option Addr} (ht : P.underlying t2 = some (.slice e2)) : Apd P w t2 sz 0 (.slice A 0 c) [] where
  ty := ⟨_, ht, fun k h => by cases h⟩
  len := fun w => by simp [Builtin.lenOf]
  here := by cases A <;> simp [Builtin.firstCells, loadCells, loadCellsFrom]
  drew := by cases A <;> simp [Builtin.firstCells, loadCells, loadCellsFrom]
theorem Apd.of_str {t2 : TypeId} {sz : Nat} {s : List UInt8} (ht : P.underlying t2 = some .string) : Apd P w t2 sz s.length (strV s) (s.map fun c => Value.int .u8 (b8 c)) where
  ty := ⟨_, ht, fun k h => by cases h⟩
  len := fun w => by simp [Builtin.lenOf, strV, strV_size]
  here := by
    have := Go.Lib.run_firstCells_string (P := P) w sz ⟨s.toArray⟩
    rw [strV_size] at this
    simpa [strV, Go.Lib.strCells, b8] using this
  drew := by
    have := Go.Lib.run_firstCells_string (P := P) w.drew sz ⟨s.toArray⟩
    rw [strV_size] at this
    simpa [strV, Go.Lib.strCells, b8] using this
theorem apd_room {tt t2 ty e : TypeId} {i : TypeInfo} {x : Value} {m n c g off : Nat} {cur : Array Value} {news : List Value} (ht : P.underlying tt = some (.slice e)) (hi : P.info? e = some i) (hx : Apd P w t2 i.size m x news) (hg : w.heap[g]? = some (.cells cur e (0, 0))) (hroom : n + m ≤ c) (hfit : off + n * i.size + news.length ≤ cur.size) (hone : ∀ u ∈ news, u.oneCell' = true) :
    (Builtin.append_ #[tt, t2] ty #[.slice (some ⟨g, off, none⟩) n c, x]).run P w = .ok (.slice (some ⟨g, off, none⟩) (n + m) c) (w.setRow g (cur.toList.take (off + n * i.size) ++ news ++ cur.toList.drop (off + n * i.size + news.length)).toArray) := by
  obtain ⟨d2, h2, hd2⟩ := hx.ty
  have hst := run_storeCells_at P g (off + n * i.size) e news 0 cur w hg (by simpa using hfit) hone
  simp only [Nat.add_zero] at hst
  have hz : (match d2 with | .int _ => true | _ => false) = false := by cases d2 <;> first | rfl | exact absurd rfl (hd2 _)
  simp [Builtin.append_, run_underlying ht, run_underlying h2, sizeOf, typeInfo, hi, hz, hx.len, hroom, hx.here, Addr.add_lit, hst]
theorem apd_none {tt t2 ty e : TypeId} {i : TypeInfo} {x : Value} (ht : P.underlying tt = some (.slice e)) (hi : P.info? e = some i) (hx : Apd P w t2 i.size 0 x []) {A : Option Addr} {n c : Nat} (hc : n ≤ c) :
    (Builtin.append_ #[tt, t2] ty #[.slice A n c, x]).run P w = .ok (.slice A n c) w := by
  obtain ⟨d2, h2, hd2⟩ := hx.ty
  have hz : (match d2 with | .int _ => true | _ => false) = false := by cases d2 <;> first | rfl | exact absurd rfl (hd2 _)
  have hh := hx.here
  cases A with
  | none => simp [Builtin.append_, run_underlying ht, run_underlying h2, sizeOf, typeInfo, hi, hz, hx.len, hc, hh]
  | some a => simp [Builtin.append_, run_underlying ht, run_underlying h2, sizeOf, typeInfo, hi, hz, hx.len, hc, hh, storeCells]
theorem apd_nil {tt t2 ty e : TypeId} {i : TypeInfo} {z x : Value} {m : Nat} {news : List Value} (ht : P.underlying tt = some (.slice e)) (hi : P.info? e = some i) (hz : i.zero = some z) (hx : Apd P w t2 i.size m x news) (h0 : 0 < m) (h63 : (m : Int) ≤ 9223372036854775807) (h48 : m * i.bytes ≤ 281474976710656) :
    (Builtin.append_ #[tt, t2] ty #[.slice none 0 0, x]).run P w = .ok (.slice (some ⟨w.heap.size, 0, none⟩) m (grownCap w m 0 e)) (w.drew.alloc (.cells (news.toArray ++ Builtin.zeroCells z.cells (grownCap w m 0 e - m)) e)) := by
  obtain ⟨d2, h2, hd2⟩ := hx.ty
  have hz' : (match d2 with | .int _ => true | _ => false) = false := by cases d2 <;> first | rfl | exact absurd rfl (hd2 _)
  have hn : m ≠ 0 := by omega
  have h63' : ¬ (9223372036854775807 < (m : Int)) := by omega
  have h48' : ¬ (281474976710656 < Builtin.nextslicecap m 0 * i.bytes) := by rw [nextslicecap_zero h0]; omega
  have hf := hx.drew
  simp [Builtin.append_, run_underlying ht, run_underlying h2, sizeOf, typeInfo, zeroValue, hi, hz, hz', hx.len, hn, h63', h48', Question.forced, run_firstCells_none, hf, newRow, grownCap]
theorem apd_grow {tt t2 ty e : TypeId} {i : TypeInfo} {z x : Value} {m sLen sCap : Nat} {b : Addr} {olds news : List Value} (ht : P.underlying tt = some (.slice e)) (hi : P.info? e = some i) (hz : i.zero = some z) (hx : Apd P w t2 i.size m x news) (hlo : olds.length = sLen * i.size) (holds : ∀ j v, olds[j]? = some v → w.cell? (b.add j) = some v)
    (hg : sCap < sLen + m) (h63 : ((sLen + m : Nat) : Int) ≤ 9223372036854775807) (hfit : Builtin.nextslicecap (sLen + m) sCap * i.bytes ≤ 281474976710656) :
    (Builtin.append_ #[tt, t2] ty #[.slice (some b) sLen sCap, x]).run P w =
      .ok (.slice (some ⟨w.heap.size, 0, none⟩) (sLen + m) (grownCap w (sLen + m) sCap e)) (w.drew.alloc (.cells (olds.toArray ++ news.toArray ++ Builtin.zeroCells z.cells (grownCap w (sLen + m) sCap e - (sLen + m))) e)) := by
  obtain ⟨d2, h2, hd2⟩ := hx.ty
  have hz' : (match d2 with | .int _ => true | _ => false) = false := by cases d2 <;> first | rfl | exact absurd rfl (hd2 _)
  have hn : ¬ (sLen + m ≤ sCap) := by omega
  have h63' : ¬ (9223372036854775807 < ((sLen : Int) + (m : Int))) := by omega
  have h48' : ¬ (281474976710656 < Builtin.nextslicecap (sLen + m) sCap * i.bytes) := by omega
  have hf := hx.drew
  have hfo := run_firstCells_some (P := P) w.drew i.size sLen b sLen sCap olds hlo (by simpa using holds)
  simp [Builtin.append_, run_underlying ht, run_underlying h2, sizeOf, typeInfo, zeroValue, hi, hz, hz', hx.len, hn, h63', h48', Question.forced, hf, hfo, newRow, grownCap]
  congr 2
  apply Array.ext'
  simp [List.append_assoc]
end
namespace Sat
variable {w0 w : World} {K : Hp} {L : List SP} {α : Type} {d : Kd α} {e : TypeId} {v : Value} {xs ys : List α}
theorem run_apd {P : Program} (h : Sat w0 w K (SP.row d e v xs :: L)) {tt t2 ty : TypeId} {i : TypeInfo} {z x : Value} (ht : P.underlying tt = some (.slice e)) (hi : P.info? e = some i) (hz : i.zero = some z) (hsz : i.size = d.sz) (hzs : z.cells.size = d.sz) (hs0 : 0 < d.sz)
    {news : List Value} (hx : Apd P w t2 i.size ys.length x news) (hr : d.reps K ys news) (hb : (xs.length + ys.length) * i.bytes ≤ 140737488355328) (hmax : xs.length + ys.length ≤ maxLen) :
    ∃ v' w', (Builtin.append_ #[tt, t2] ty #[v, x]).run P w = .ok v' w' ∧ Sat w0 w' K (SP.row d e v' (xs ++ ys) :: L) := by
  have hnl := Kd.reps_len hr
  have h63 : xs.length + ys.length ≤ 9223372036854775807 := by simp only [maxLen] at hmax; omega
  obtain ⟨a, ha, hal, had, f, f1, f2, f3, f4, f5⟩ := h.split1
  have grown : ∀ (old : Nat) (cs : List Value), old < xs.length + ys.length → d.reps K xs cs → Sat w0 (w.drew.alloc (.cells (cs.toArray ++ news.toArray ++ Builtin.zeroCells z.cells (grownCap w (xs.length + ys.length) old e - (xs.length + ys.length))) e)) K
      (SP.row d e (.slice (some ⟨w.heap.size, 0, none⟩) (xs.length + ys.length) (grownCap w (xs.length + ys.length) old e)) (xs ++ ys) :: L) := by
    intro old cs ho hcs
    have hge := grownCap_ge w (xs.length + ys.length) old e
    have hcm := grownCap_le_maxLen w (xs.length + ys.length) old e hmax
    have hb0 := (h.tail.drew).alloc (cs ++ news ++ (Builtin.zeroCells z.cells (grownCap w (xs.length + ys.length) old e - (xs.length + ys.length))).toList) e
    have hlc := Kd.reps_len hcs
    have hrr := Kd.reps_append hcs hr
    have key : ∀ x, (SP.blk w.heap.size e (cs ++ news ++ (Builtin.zeroCells z.cells (grownCap w (xs.length + ys.length) old e - (xs.length + ys.length))).toList)).p K x → (SP.row d e (.slice (some ⟨w.heap.size, 0, none⟩) (xs.length + ys.length) (grownCap w (xs.length + ys.length) old e)) (xs ++ ys)).p K x := by
      intro x hx
      refine .inr ⟨w.heap.size, 0, grownCap w (xs.length + ys.length) old e, _, cs ++ news, by rw [List.length_append], hx, by rw [List.length_append]; exact hge, hcm, ?_, hrr, fun j u hu => ?_, rfl⟩
      · simp only [List.size_toArray, List.length_append, Array.length_toList, size_zeroCells, hzs, hlc, hnl]
        rw [← Nat.add_mul, ← Nat.add_mul, Nat.zero_add]
        exact Nat.mul_le_mul_right _ (by omega)
      · have hj := (List.getElem?_eq_some_iff.1 hu).1
        rw [Nat.zero_add, List.getElem?_toArray, List.getElem?_append_left hj]
        exact hu
    have := hb0.swap key
    have he : (cs ++ news ++ (Builtin.zeroCells z.cells (grownCap w (xs.length + ys.length) old e - (xs.length + ys.length))).toList).toArray = cs.toArray ++ news.toArray ++ Builtin.zeroCells z.cells (grownCap w (xs.length + ys.length) old e - (xs.length + ys.length)) := by simp
    rw [he] at this
    exact this
  by_cases hy : ys = []
  · subst hy
    have hn0 : news = [] := hr
    subst hn0
    obtain ⟨A, c, hv, hc, _⟩ := h.row_slice
    refine ⟨v, w, ?_, by simpa using h⟩
    rw [hv]
    exact apd_none ht hi hx hc
  have hpos : 0 < ys.length := List.length_pos_iff.2 hy
  rcases ha with ⟨rfl, rfl, hz0⟩ | ⟨g, off, cap, cur, cs, rfl, h2, h3, h4, h5, h6, h7, h8⟩
  · have hg := grown 0 [] (by simp; omega) rfl
    have hrun := apd_nil (ty := ty) ht hi hz hx hpos (by simp at h63; omega) (by simp at hb; omega)
    exact ⟨_, _, hrun, by simpa using hg⟩
  · have hgw : w.heap[g]? = some (.cells cur e (0, 0)) := Hp.single_le.1 (show Hp.le (Hp.single g _) (hp w) by rw [← h2]; exact hal)
    have hlc := Kd.reps_len h6
    by_cases hroom : xs.length + ys.length ≤ cap
    · have hfit : off + xs.length * d.sz + news.length ≤ cur.size := by
        have : (xs.length + ys.length) * d.sz ≤ cap * d.sz := Nat.mul_le_mul_right _ hroom
        rw [Nat.add_mul] at this
        omega
      have hrun := apd_room (ty := ty) ht hi hx hgw hroom (by rw [hsz]; exact hfit) (Kd.reps_one hr)
      rw [hsz] at hrun
      refine ⟨_, _, hrun, ?_⟩
      refine h.update rfl rfl rfl (fun a' ha' hal' => ?_)
      have hdom : ∀ k, a' k ≠ none ↔ k = g := by
        intro k
        rcases ha' with ⟨e', _⟩ | ⟨g', off', cap', cur', cs', e', hh', _⟩
        · simp at e'
        · have : g' = g := by
            simp only [Value.slice.injEq, Option.some.injEq, Addr.mk.injEq] at e'
            exact e'.1.1.symm
          subst this
          rw [hh']
          simp [Hp.single]
      refine ⟨Hp.single g (.cells (cur.toList.take (off + xs.length * d.sz) ++ news ++ cur.toList.drop (off + xs.length * d.sz + news.length)).toArray e (0, 0)), ?_, Hp.single_le.2 (setRow_heap w g cur _ e _ hgw), fun k hk => .inl ?_, fun k hk o ho => ?_⟩
      · refine .inr ⟨g, off, cap, _, cs ++ news, by rw [List.length_append], rfl, by rw [List.length_append]; exact hroom, h4, ?_, Kd.reps_append h6 hr, fun j u hu => ?_, h8⟩
        · simp only [List.size_toArray, List.length_append, List.length_take, List.length_drop, Array.length_toList]
          omega
        · have hj := (List.getElem?_eq_some_iff.1 hu).1
          rw [List.length_append] at hj
          have hcl : cur.toList.length = cur.size := Array.length_toList
          have ht' : (List.take (off + xs.length * d.sz) cur.toList).length = off + xs.length * d.sz := by rw [List.length_take, hcl]; omega
          rw [List.getElem?_toArray, List.append_assoc]
          rcases Nat.lt_or_ge j cs.length with hjl | hjl
          · rw [List.getElem?_append_left hjl] at hu
            rw [List.getElem?_append_left (by omega), List.getElem?_take, if_pos (by omega), Array.getElem?_toList]
            exact h7 j u hu
          · rw [List.getElem?_append_right hjl] at hu
            rw [List.getElem?_append_right (by omega), ht', List.getElem?_append_left (by omega)]
            rw [show off + j - (off + xs.length * d.sz) = j - cs.length by omega]
            exact hu
      · rw [hdom]
        simp only [Hp.single] at hk
        split at hk
        · assumption
        · exact absurd rfl hk
      · have hne : k ≠ g := fun e' => absurd hk ((hdom k).2 e')
        exact (setRow_other w g k _ hne).trans ho
    · have hg := grown cap cs (by omega) h6
      have holds : ∀ j u, cs[j]? = some u → w.cell? ((⟨g, off, none⟩ : Addr).add j) = some u := fun j u hu => by
        rw [Addr.add_lit, cell_of_row w g _ _ e (0, 0) hgw]
        exact h7 j u hu
      have hrun := apd_grow (ty := ty) (sCap := cap) (sLen := xs.length) ht hi hz hx (by rw [hsz]; exact hlc) holds (by omega) (by omega) (growslice_fits (by omega) hb)
      exact ⟨_, _, hrun, hg⟩
end Sat

section
variable {P : Program} {o : Oper} {a : Act} {w w0 : World} {Kn : Hp} {L : List SP} {K : Act → World → Prop} {Q : Exit → Act → World → Prop} {α : Type} {d : Kd α}
/-- append, v a row of one's own: what is asked of the row and of the bytes, in plain numbers -/
theorem e_apd {t t2 e : TypeId} {x y : Operand} {n bytes : Nat} {z v u : Value} {xs ys : List α} {news : List Value} (h : Sat w0 w Kn (SP.row d e v xs :: L)) (ho : o.op = .call { callee := .builtin .append, args := #[x, y], argTypes := #[t, t2] })
    (ht : P.underlying t = some (.slice e)) (hi : tinfo P e = some (z, n, bytes)) (hn : n = d.sz) (hz : z.cells.size = d.sz) (h0 : 0 < d.sz) (hx : a.eval x = v) (hy : a.eval y = u) (hap : Apd P w t2 n ys.length u news) (hr : d.reps Kn ys news)
    (hb : (xs.length + ys.length) * bytes ≤ 140737488355328 ∧ xs.length + ys.length ≤ 9223372036854775807)
    (k : ∀ v' w', Sat w0 w' Kn (SP.row d e v' (xs ++ ys) :: L) → K (a.put o.dst v') w') : o.wp P a w K Q := by
  obtain ⟨ti, hti, hz', hs, hb'⟩ := tinfo_parts hi
  subst hs
  obtain ⟨v', w', hrun, hs'⟩ := h.run_apd (ty := o.type) ht hti hz' hn hz h0 hap hr (by rw [hb']; exact hb.1) (by simp only [maxLen]; omega)
  refine op_val (w' := w') ?_ (k v' w' hs')
  unfold execOp; rw [ho]
  simp [resolve, invoke, builtin, hx, hy, hrun]
theorem e_apd_sl {t t2 e e2 : TypeId} {x y : Operand} {n bytes : Nat} {z v u : Value} {xs ys : List α} (h : Sat w0 w Kn (SP.row d e v xs :: L)) (ho : o.op = .call { callee := .builtin .append, args := #[x, y], argTypes := #[t, t2] })
    (ht : P.underlying t = some (.slice e)) (ht2 : P.underlying t2 = some (.slice e2)) (hi : tinfo P e = some (z, n, bytes)) (hn : n = d.sz) (hz : z.cells.size = d.sz) (h0 : 0 < d.sz) (hx : a.eval x = v) (hy : a.eval y = u) (hu : d.sl Kn u ys)
    (hb : (xs.length + ys.length) * bytes ≤ 140737488355328 ∧ xs.length + ys.length ≤ 9223372036854775807)
    (k : ∀ v' w', Sat w0 w' Kn (SP.row d e v' (xs ++ ys) :: L) → K (a.put o.dst v') w') : o.wp P a w K Q := by
  obtain ⟨A, c, cs, rfl, _, _, hr, hat⟩ := hu
  have hl := Kd.reps_len hr
  refine e_apd h ho ht hi hn hz h0 hx hy (news := cs) ?_ hr hb k
  rcases hat with rfl | ⟨ad, rfl, hc⟩
  · have : ys.length = 0 := by
      rcases Nat.mul_eq_zero.1 hl.symm with hl | hl
      · exact hl
      · omega
    rw [this]
    exact Apd.of_none ht2
  · exact Apd.of_slice ht2 (by rw [hn]; exact hl) (fun j u hu => h.cell (hc j u hu))
theorem reps_u8 (K' : Hp) (s : List UInt8) : Kd.u8.reps K' s (s.map fun c => Value.int .u8 (b8 c)) := by
  induction s with
  | nil => rfl
  | cons c m ih => exact ⟨[.int .u8 (b8 c)], _, rfl, rfl, ih⟩
theorem e_apd_str {t t2 e : TypeId} {x y : Operand} {n bytes : Nat} {z v : Value} {xs s : List UInt8} (h : Sat w0 w Kn (SP.row Kd.u8 e v xs :: L)) (ho : o.op = .call { callee := .builtin .append, args := #[x, y], argTypes := #[t, t2] })
    (ht : P.underlying t = some (.slice e)) (ht2 : P.underlying t2 = some .string) (hi : tinfo P e = some (z, n, bytes)) (hn : n = Kd.u8.sz) (hz : z.cells.size = Kd.u8.sz) (hx : a.eval x = v) (hy : a.eval y = strV s)
    (hb : (xs.length + s.length) * bytes ≤ 140737488355328 ∧ xs.length + s.length ≤ 9223372036854775807)
    (k : ∀ v' w', Sat w0 w' Kn (SP.row Kd.u8 e v' (xs ++ s) :: L) → K (a.put o.dst v') w') : o.wp P a w K Q :=
  e_apd h ho ht hi hn hz (by decide) hx hy (Apd.of_str ht2) (reps_u8 Kn s) hb k
/-- a literal, known from now on -/
theorem e_litK {t e : TypeId} {len : Nat} {parts : Array (Nat × Operand)} {vs : List (Nat × Value)} {cs : List Value} {xs : List α} (h : Sat w0 w Kn L) (ho : o.op = .buildSlice t len parts) (hx : (parts.map fun (i, x) => (i, a.eval x)).toList = vs) (hc : litCells P t len vs = some (e, cs.toArray)) (hr : d.reps Kn xs cs) (hl : xs.length = len) (hm : len ≤ 9223372036854775807)
    (k : ∀ v Kn' w', Hp.le Kn Kn' → Sat w0 w' Kn' L → d.sl Kn' v xs → K (a.put o.dst v) w') : o.wp P a w K Q :=
  e_lit h ho hx hc fun g w' h' => by
    subst hl
    obtain ⟨K', hk, hs, hsl⟩ := (h'.blk_row (n := 0) (d := d) hr (by simp only [maxLen]; omega)).row_keep
    exact k _ K' w' hk hs hsl
/-- .. one's own -/
theorem e_litO {t e : TypeId} {len : Nat} {parts : Array (Nat × Operand)} {vs : List (Nat × Value)} {cs : List Value} {xs : List α} (h : Sat w0 w Kn L) (ho : o.op = .buildSlice t len parts) (hx : (parts.map fun (i, x) => (i, a.eval x)).toList = vs) (hc : litCells P t len vs = some (e, cs.toArray)) (hr : d.reps Kn xs cs) (hl : xs.length = len) (hm : len ≤ 9223372036854775807)
    (k : ∀ v w', Sat w0 w' Kn (SP.row d e v xs :: L) → K (a.put o.dst v) w') : o.wp P a w K Q :=
  e_lit h ho hx hc fun g w' h' => by
    subst hl
    exact k _ w' (h'.blk_row (n := 0) (d := d) hr (by simp only [maxLen]; omega))
/-- the empty literal: a row of one's own, in a block of no cells -/
theorem e_lit0 {t e : TypeId} {n bytes : Nat} {z : Value} (h : Sat w0 w Kn L) (ho : o.op = .buildSlice t 0 #[]) (ht : P.underlying t = some (.slice e)) (hi : tinfo P e = some (z, n, bytes)) (hn : n = d.sz)
    (k : ∀ v w', Sat w0 w' Kn (SP.row d e v ([] : List α) :: L) → K (a.put o.dst v) w') : o.wp P a w K Q := by
  obtain ⟨ti, hti, hz', hs, hb'⟩ := tinfo_parts hi
  have h1 := (h.alloc [] e).blk_row (n := 0) (d := d) (xs := []) rfl (by simp [maxLen])
  refine op_val (w' := w.alloc (.cells #[] e)) (v := .slice (some ⟨w.heap.size, 0, none⟩) 0 0) ?_ (k _ _ h1)
  unfold execOp; rw [ho]
  simp [Instr.buildSlice, run_underlying ht, sizeOf, typeInfo, hti, Instr.fill, newRow]
  congr 2
  rw [show Array.range 0 = #[] from by decide]
  simp
/-- a row of one's own shown to a reader: known from now on -/
theorem keep_row {e : TypeId} {v : Value} {xs : List α} (h : Sat w0 w Kn (SP.row d e v xs :: L)) : ∃ K', Hp.le Kn K' ∧ Sat w0 w K' L ∧ d.sl K' v xs := h.row_keep
end

/-! ### 3. Results in memory -/
section
variable {P : Program} {a : Act} {w w0 : World} {n : Nat} {σ : Sg} {fn : Func} {R : Ending → World → Prop} {Kn : Hp} {L : List SP}
theorem lv_1 {t e : TypeId} {g m : Nat} {v : Value} {cs : List Value} (h : Sat w0 w Kn (SP.blk g e cs :: L)) (ht : aggT P t = some false) (hm : cs[m]? = some v) : (loadVar t ⟨g, m, none⟩).run P w = .ok v w := by
  have hc : w.cell? ⟨g, m, none⟩ = some v := by rw [h.blk_cell]; exact hm
  unfold aggT at ht
  cases hu : P.underlying t with
  | none => simp [hu] at ht
  | some td => cases td <;> simp [hu, isAggD] at ht <;> simp [loadVar, isAgg, run_underlying hu, hc]
theorem lv_N {t e : TypeId} {g m : Nat} {cs cs' : List Value} {z : Value} {bytes : Nat} (h : Sat w0 w Kn (SP.blk g e cs :: L)) (ht : aggT P t = some true) (hi : tinfo P t = some (z, cs'.length, bytes)) (hm : (cs.drop m).take cs'.length = cs') : (loadVar t ⟨g, m, none⟩).run P w = .ok (.agg cs'.toArray) w := by
  obtain ⟨ti, hti, _, hs, _⟩ := tinfo_parts hi
  have hc : ∀ j u, cs'[j]? = some u → w.cell? ((⟨g, m, none⟩ : Addr).add j) = some u := fun j u hu => by
    rw [Addr.add_lit, h.blk_cell]
    rw [← hm, List.getElem?_take, List.getElem?_drop] at hu
    split at hu
    · exact hu
    · cases hu
  have hl := run_loadCells_list (P := P) w _ cs' hc
  unfold aggT at ht
  cases hu : P.underlying t with
  | none => simp [hu] at ht
  | some td => cases td <;> simp [hu, isAggD] at ht <;> simp [loadVar, isAgg, run_underlying hu, sizeOf, typeInfo, hti, hs, hl]
/-- what one result comes to -/
def RV (P : Program) (w : World) (σ : Sg) : ResultVar → Value → Prop
  | .tmp t, v => look σ t = some v
  | .cell t ty, v => ∃ ad, look σ t = some (.pointer (some ad)) ∧ (loadVar ty ad).run P w = .ok v w
theorem retR1 {e : Exit} {r1 : ResultVar} {v1 : Value} (he : e = .normal ∨ e = .ret) (hS : Slots n [] a σ) (hfn : fn.results = #[r1]) (h1 : RV P w σ r1 v1) (h : R (.returned v1) w) : bodyPost P fn R e a w := by
  refine ret_post he hS ?_ h
  cases r1 with
  | tmp t => rw [results_tmp hfn, slot_getD hS h1]
  | cell t ty => obtain ⟨ad, hl, hr⟩ := h1; simp [results, hfn, hS.get _ _ hl, asAddr, hr]
theorem retR2 {e : Exit} {r1 r2 : ResultVar} {v1 v2 : Value} (he : e = .normal ∨ e = .ret) (hS : Slots n [] a σ) (hfn : fn.results = #[r1, r2]) (h1 : RV P w σ r1 v1) (h2 : RV P w σ r2 v2) (h : R (.returned (.tuple #[v1, v2])) w) : bodyPost P fn R e a w := by
  refine ret_post he hS ?_ h
  cases r1 <;> cases r2 <;> simp only [RV] at h1 h2
  · simp [results, hfn, hS.get _ _ h1, hS.get _ _ h2]
  · obtain ⟨ad, hl, hr⟩ := h2; simp [results, hfn, hS.get _ _ h1, hS.get _ _ hl, asAddr, hr]
  · obtain ⟨ad, hl, hr⟩ := h1; simp [results, hfn, hS.get _ _ h2, hS.get _ _ hl, asAddr, hr]
  · obtain ⟨ad, hl, hr⟩ := h1; obtain ⟨ad', hl', hr'⟩ := h2; simp [results, hfn, hS.get _ _ hl, hS.get _ _ hl', asAddr, hr, hr']
theorem retR3 {e : Exit} {r1 r2 r3 : ResultVar} {v1 v2 v3 : Value} (he : e = .normal ∨ e = .ret) (hS : Slots n [] a σ) (hfn : fn.results = #[r1, r2, r3]) (h1 : RV P w σ r1 v1) (h2 : RV P w σ r2 v2) (h3 : RV P w σ r3 v3) (h : R (.returned (.tuple #[v1, v2, v3])) w) : bodyPost P fn R e a w := by
  refine ret_post he hS ?_ h
  cases r1 <;> cases r2 <;> cases r3 <;> simp only [RV] at h1 h2 h3
  · simp [results, hfn, hS.get _ _ h1, hS.get _ _ h2, hS.get _ _ h3]
  · obtain ⟨_, hl3, hr3⟩ := h3; simp [results, hfn, hS.get _ _ h1, hS.get _ _ h2, hS.get _ _ hl3, asAddr, hr3]
  · obtain ⟨_, hl2, hr2⟩ := h2; simp [results, hfn, hS.get _ _ h1, hS.get _ _ hl2, hS.get _ _ h3, asAddr, hr2]
  · obtain ⟨_, hl2, hr2⟩ := h2; obtain ⟨_, hl3, hr3⟩ := h3; simp [results, hfn, hS.get _ _ h1, hS.get _ _ hl2, hS.get _ _ hl3, asAddr, hr2, hr3]
  · obtain ⟨_, hl1, hr1⟩ := h1; simp [results, hfn, hS.get _ _ hl1, hS.get _ _ h2, hS.get _ _ h3, asAddr, hr1]
  · obtain ⟨_, hl1, hr1⟩ := h1; obtain ⟨_, hl3, hr3⟩ := h3; simp [results, hfn, hS.get _ _ hl1, hS.get _ _ h2, hS.get _ _ hl3, asAddr, hr1, hr3]
  · obtain ⟨_, hl1, hr1⟩ := h1; obtain ⟨_, hl2, hr2⟩ := h2; simp [results, hfn, hS.get _ _ hl1, hS.get _ _ hl2, hS.get _ _ h3, asAddr, hr1, hr2]
  · obtain ⟨_, hl1, hr1⟩ := h1; obtain ⟨_, hl2, hr2⟩ := h2; obtain ⟨_, hl3, hr3⟩ := h3; simp [results, hfn, hS.get _ _ hl1, hS.get _ _ hl2, hS.get _ _ hl3, asAddr, hr1, hr2, hr3]
end
end Go.Proofs.YthjfnknhcmhmiaaDoor.Sl
