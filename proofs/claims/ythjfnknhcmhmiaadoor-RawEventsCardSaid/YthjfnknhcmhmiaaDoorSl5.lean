/-
  The memory logic, fifth part: operations on memory, calls, pieces of code.
-/
import Derived.Test.YthjfnknhcmhmiaaDoorSl4
import Derived.Great.BuildSlice
import Derived.Laws.IdiomStrings
import Derived.Laws.MakeOwn
set_option linter.unusedVariables false
set_option linter.unusedSimpArgs false
namespace Go.Proofs.YthjfnknhcmhmiaaDoor.Sl
open Go Go.RowKit

/-- what a type's row says: zero, cells, bytes -/
def tinfo (P : Program) (t : TypeId) : Option (Value × Nat × Nat) := (P.info? t).bind fun i => i.zero.map fun z => (z, i.size, i.bytes)
theorem tinfo_parts {P : Program} {t : TypeId} {z : Value} {n b : Nat} (h : tinfo P t = some (z, n, b)) : ∃ i, P.info? t = some i ∧ i.zero = some z ∧ i.size = n ∧ i.bytes = b := by
  unfold tinfo at h
  cases hi : P.info? t with
  | none => simp [hi] at h
  | some i =>
    cases hz : i.zero with
    | none => simp [hi, hz] at h
    | some z' =>
      simp [hi, hz] at h
      exact ⟨i, rfl, by rw [hz, h.1], h.2.1, h.2.2⟩
def isAggD : TypeDesc → Bool
  | .struct _ | .array _ _ => true
  | _ => false
/-- where a struct's field lies (a field of at least one cell) -/
def fieldOff (P : Program) (t : TypeId) (i : Nat) : Option Nat :=
  match P.underlying t with
  | some (.struct fs) => match fs[i]? with
    | some f => match (P.info? f.type).map (·.size) with
      | some (_ + 1) => some f.offset
      | _ => none
    | none => none
  | _ => none

section
variable {P : Program} {o : Oper} {a : Act} {w w' w0 : World} {Kn : Hp} {L : List SP} {K : Act → World → Prop} {Q : Exit → Act → World → Prop} {α : Type} {d : Kd α}

theorem r_fld {t : TypeId} {x : Operand} {i off : Nat} {ad : Addr} (ho : o.op = .fieldAddr t x i) (hf : fieldOff P t i = some off) (hx : a.eval x = .pointer (some ad)) : (execOp a.eval o).run P w = .ok (.value (.pointer (some (ad.add off)))) w := by
  unfold fieldOff at hf
  cases ht : P.underlying t with
  | none => simp [ht] at hf
  | some td =>
    cases td <;> simp only [ht] at hf <;> try (cases hf; done)
    rename_i fs
    cases hfs : fs[i]? with
    | none => simp [hfs] at hf
    | some f =>
      simp only [hfs] at hf
      cases hi : P.info? f.type with
      | none => simp [hi] at hf
      | some ti =>
        simp only [hi, Option.map_some] at hf
        cases hs : ti.size with
        | zero => simp [hs] at hf
        | succ n =>
          simp only [hs] at hf
          have := Option.some.inj hf
          subst this
          exact r_fieldAddr ho ht hfs hi (by simp [hs]) hx
theorem r_idx {t e : TypeId} {x y : Operand} {ad : Addr} {n c sz bytes : Nat} {i : Int} {k : IntKind} {z : Value} (ho : o.op = .indexAddr t x y) (ht : P.underlying t = some (.slice e)) (hi : tinfo P e = some (z, sz, bytes)) (hx : a.eval x = .slice (some ad) n c) (hy : a.eval y = .int k i) (h0 : 0 ≤ i) (h1 : i < n) : (execOp a.eval o).run P w = .ok (.value (.pointer (some (ad.add (i.toNat * sz))))) w := by
  obtain ⟨ti, h, _, hs, _⟩ := tinfo_parts hi
  rw [← hs]
  exact r_indexAddr ho ht h hx hy h0 h1
theorem r_load1 {t : TypeId} {x : Operand} {td : TypeDesc} {ad : Addr} {v : Value} (ho : o.op = .load t x) (ht : P.underlying t = some td) (hd : isAggD td = false) (hx : a.eval x = .pointer (some ad)) (hc : w.cell? ad = some v) : (execOp a.eval o).run P w = .ok (.value v) w := by
  unfold execOp; rw [ho]
  have hl : (load ad).run P w = .ok v w := by simp [hc]
  cases td <;> simp [isAggD] at hd <;> simp [hx, Instr.loadAt, Instr.sureAddr, loadVar, isAgg, run_underlying ht, hc]
theorem r_loadN {t : TypeId} {x : Operand} {td : TypeDesc} {ad : Addr} {cs : List Value} {z : Value} {bytes : Nat} (ho : o.op = .load t x) (ht : P.underlying t = some td) (hd : isAggD td = true) (hi : tinfo P t = some (z, cs.length, bytes)) (hx : a.eval x = .pointer (some ad)) (hc : ∀ j u, cs[j]? = some u → w.cell? (ad.add j) = some u) : (execOp a.eval o).run P w = .ok (.value (.agg cs.toArray)) w := by
  obtain ⟨ti, h, _, hs, _⟩ := tinfo_parts hi
  have hl := run_loadCells_list (P := P) w ad cs hc
  unfold execOp; rw [ho]
  cases td <;> simp [isAggD] at hd <;> simp [hx, Instr.loadAt, Instr.sureAddr, loadVar, isAgg, run_underlying ht, sizeOf, typeInfo, h, hs, hl]
/-- a store into a block of one's own: one cell -/
theorem e_store1 {t : TypeId} {x y : Operand} {g i : Nat} {e : TypeId} {cs : List Value} {v : Value} {z : Value} {bytes : Nat} (h : Sat w0 w Kn (SP.blk g e cs :: L)) (ho : o.op = .store t x y) (hi : tinfo P t = some (z, 1, bytes)) (hx : a.eval x = .pointer (some ⟨g, i, none⟩)) (hy : a.eval y = v) (hv : v.oneCell' = true) (hlt : i < cs.length)
    (k : ∀ w', Sat w0 w' Kn (SP.blk g e (cs.set i v) :: L) → K (a.put o.dst undef) w') : o.wp P a w K Q := by
  obtain ⟨ti, hti, _, hs, _⟩ := tinfo_parts hi
  have hc : w.cell? ⟨g, i, none⟩ = some cs[i] := by rw [h.blk_cell]; simp [hlt]
  have hf := h.blk_frozen i
  have hcells : v.cells = #[v] := by cases v <;> first | rfl | (simp [Value.oneCell'] at hv)
  refine op_skip (w' := w.setCell ⟨g, i, none⟩ v) ?_ (k _ (h.blk_set i v))
  unfold execOp; rw [ho]
  simp [hx, hy, Instr.storeAt, Instr.sureAddr, storeVar, sizeOf, typeInfo, hti, hs, hcells, storeCells, add_zero, run_store P w _ v _ hv, hc, hf]
/-- several cells -/
theorem e_storeN {t : TypeId} {x y : Operand} {g i : Nat} {e : TypeId} {cs vs : List Value} {z : Value} {bytes : Nat} (h : Sat w0 w Kn (SP.blk g e cs :: L)) (ho : o.op = .store t x y) (hi : tinfo P t = some (z, vs.length, bytes)) (hx : a.eval x = .pointer (some ⟨g, i, none⟩)) (hy : a.eval y = .agg vs.toArray) (hv : ∀ u ∈ vs, u.oneCell' = true) (hlt : i + vs.length ≤ cs.length)
    (k : ∀ w', Sat w0 w' Kn (SP.blk g e (cs.take i ++ vs ++ cs.drop (i + vs.length)) :: L) → K (a.put o.dst undef) w') : o.wp P a w K Q := by
  obtain ⟨ti, hti, _, hs, _⟩ := tinfo_parts hi
  have hst := run_storeCells_at P g i e vs 0 cs.toArray w h.blk_heap (by simpa using hlt) hv
  simp only [Nat.add_zero] at hst
  refine op_skip (w' := w.setRow g (cs.take i ++ vs ++ cs.drop (i + vs.length)).toArray) ?_ (k _ (h.blk_setRow _))
  unfold execOp; rw [ho]
  simp [hx, hy, Instr.storeAt, Instr.sureAddr, storeVar, sizeOf, typeInfo, hti, hs, Value.cells, hst]
theorem e_box {t : TypeId} {x : Operand} {v : Value} {cs : List Value} (h : Sat w0 w Kn L) (ho : o.op = .box t x) (hx : a.eval x = v) (hv : v.cells = cs.toArray)
    (k : ∀ g w', Sat w0 w' Kn (SP.blk g t cs :: L) → K (a.put o.dst (.pointer (some ⟨g, 0, none⟩))) w') : o.wp P a w K Q := by
  refine op_val (w' := w.alloc (.cells cs.toArray t)) ?_ (k w.heap.size _ (h.alloc cs t))
  unfold execOp; rw [ho]
  simp [hx, Instr.box, newVar, newRow, hv]
theorem e_alloc {t : TypeId} {z : Value} {n b : Nat} {cs : List Value} (h : Sat w0 w Kn L) (ho : o.op = .alloc t) (hi : tinfo P t = some (z, n, b)) (hv : z.cells = cs.toArray)
    (k : ∀ g w', Sat w0 w' Kn (SP.blk g t cs :: L) → K (a.put o.dst (.pointer (some ⟨g, 0, none⟩))) w') : o.wp P a w K Q := by
  obtain ⟨ti, hti, hz, _, _⟩ := tinfo_parts hi
  refine op_val (w' := w.alloc (.cells cs.toArray t)) ?_ (k w.heap.size _ (h.alloc cs t))
  unfold execOp; rw [ho]
  simp [Instr.alloc, zeroValue, typeInfo, hti, hz, newVar, newRow, hv]
/-- the cells of a slice literal -/
def litCells (P : Program) (t : TypeId) (len : Nat) (parts : List (Nat × Value)) : Option (TypeId × Array Value) :=
  match P.underlying t with
  | some (.slice e) => match tinfo P e with
    | some (z, n, _) => if len * n > 2 ^ 24 then none else if len * n = 0 then none else (Instr.fill (fun i => some (i * n, n)) ((Array.range (len * n)).map (z.cells[· % z.cells.size]!)) parts).map fun c => (e, c)
    | none => none
  | _ => none
theorem e_lit {t e : TypeId} {len : Nat} {parts : Array (Nat × Operand)} {vs : List (Nat × Value)} {cs : List Value} (h : Sat w0 w Kn L) (ho : o.op = .buildSlice t len parts) (hx : (parts.map fun (i, x) => (i, a.eval x)).toList = vs) (hc : litCells P t len vs = some (e, cs.toArray))
    (k : ∀ g w', Sat w0 w' Kn (SP.blk g e cs :: L) → K (a.put o.dst (.slice (some ⟨g, 0, none⟩) len len)) w') : o.wp P a w K Q := by
  unfold litCells at hc
  cases ht : P.underlying t with
  | none => simp [ht] at hc
  | some td =>
    cases td <;> simp only [ht] at hc <;> try (cases hc; done)
    rename_i e'
    cases hi : tinfo P e' with
    | none => simp [hi] at hc
    | some q =>
      obtain ⟨z, n, b⟩ := q
      simp only [hi] at hc
      obtain ⟨ti, hti, hz, hs, _⟩ := tinfo_parts hi
      split at hc
      · cases hc
      split at hc
      · cases hc
      rename_i h1 h2
      cases hf : Instr.fill (fun i => some (i * n, n)) ((Array.range (len * n)).map (z.cells[· % z.cells.size]!)) vs with
      | none => simp [hf] at hc
      | some c =>
        simp only [hf, Option.map_some, Option.some.injEq, Prod.mk.injEq] at hc
        obtain ⟨rfl, rfl⟩ := hc
        refine op_val (w' := w.alloc (.cells cs.toArray e')) ?_ (k w.heap.size _ (h.alloc cs e'))
        have := run_buildSlice (P := P) w t e' len (parts.map fun (i, x) => (i, a.eval x)) cs.toArray ti z ht hti hz (by rw [hs]; exact h1) (by rw [hs]; exact h2) (by rw [hx, hs]; exact hf)
        unfold execOp; rw [ho]
        simp [this]
theorem r_build {t : TypeId} {parts : Array (Nat × Operand)} {vs : List (Nat × Value)} {cs : List Value} (ho : o.op = .build t parts) (hx : (parts.map fun (i, x) => (i, a.eval x)).toList = vs) (hc : P.built t vs = some cs.toArray) : (execOp a.eval o).run P w = .ok (.value (.agg cs.toArray)) w := by
  unfold execOp; rw [ho]
  have := run_build (P := P) w t (parts.map fun (i, x) => (i, a.eval x)) cs.toArray (by rw [hx]; exact hc)
  simp [this]
/-- 'append(v, ys...)', v a row of one's own -/
theorem e_append {t e : TypeId} {x y : Operand} {b : Addr} {m c n bytes : Nat} {z v : Value} {xs ys : List α} {news : List Value} (h : Sat w0 w Kn (SP.row d e v xs :: L)) (ho : o.op = .call { callee := .builtin .append, args := #[x, y], argTypes := #[t, t] })
    (ht : P.underlying t = some (.slice e)) (hi : tinfo P e = some (z, n, bytes)) (hn : n = d.sz) (hz : z.cells.size = d.sz) (h0 : 0 < d.sz) (hx : a.eval x = v) (hy : a.eval y = .slice (some b) m c) (hm : ys.length = m) (hr : d.reps Kn ys news) (hat : ∀ j u, news[j]? = some u → w.cell? (b.add j) = some u)
    (hb : (xs.length + m) * bytes ≤ 140737488355328) (hmax : xs.length + m ≤ 9223372036854775807)
    (k : ∀ v' w', Sat w0 w' Kn (SP.row d e v' (xs ++ ys) :: L) → K (a.put o.dst v') w') : o.wp P a w K Q := by
  obtain ⟨ti, hti, hz', hs, hb'⟩ := tinfo_parts hi
  obtain ⟨v', w', hrun, hs'⟩ := h.run_append t o.type ti z ht hti hz' (by rw [hs]; exact hn) hz h0 b m c news hm hr hat (by rw [hb']; exact hb) (by simp only [maxLen]; omega)
  refine op_val (w' := w') ?_ (k v' w' hs')
  unfold execOp; rw [ho]
  simp [resolve, invoke, builtin, hx, hy, hrun]
/-- appended: nothing -/
theorem e_append_none {t e : TypeId} {x y : Operand} {n bytes : Nat} {z v : Value} {xs : List α} (h : Sat w0 w Kn (SP.row d e v xs :: L)) (ho : o.op = .call { callee := .builtin .append, args := #[x, y], argTypes := #[t, t] })
    (ht : P.underlying t = some (.slice e)) (hi : tinfo P e = some (z, n, bytes)) (hx : a.eval x = v) {A : Option Addr} {c : Nat} (hy : a.eval y = .slice A 0 c) (k : K (a.put o.dst v) w) : o.wp P a w K Q := by
  obtain ⟨ti, hti, hz', hs, hb'⟩ := tinfo_parts hi
  obtain ⟨A', c', hv, hc, _⟩ := h.row_slice
  refine op_val (w' := w) ?_ k
  subst hv
  unfold execOp; rw [ho]
  have hf : ∀ B : Option Addr, (Builtin.firstCells ti.size 0 (.slice B 0 c)).run P w = .ok #[] w := by
    intro B; cases B <;> simp [Builtin.firstCells, loadCells, loadCellsFrom]
  cases A' with
  | none => simp [resolve, invoke, builtin, hx, hy, Builtin.append_, run_underlying ht, sizeOf, typeInfo, hti, Builtin.lenOf, hc, hf]
  | some ad => simp [resolve, invoke, builtin, hx, hy, Builtin.append_, run_underlying ht, sizeOf, typeInfo, hti, Builtin.lenOf, hc, hf, storeCells]
theorem r_len_slice {t e : TypeId} {x : Operand} {A : Option Addr} {n c : Nat} (ho : o.op = .call { callee := .builtin .len, args := #[x], argTypes := #[t] }) (ht : P.underlying t = some (.slice e)) (hx : a.eval x = .slice A n c) : (execOp a.eval o).run P w = .ok (.value (.int .i64 n)) w := by
  unfold execOp; rw [ho]
  simp [resolve, invoke, builtin, hx, Builtin.len_, run_underlying ht, goInt]
theorem r_len_str {t : TypeId} {x : Operand} {s : List UInt8} (ho : o.op = .call { callee := .builtin .len, args := #[x], argTypes := #[t] }) (ht : P.underlying t = some .string) (hx : a.eval x = strV s) : (execOp a.eval o).run P w = .ok (.value (.int .i64 s.length)) w := by
  unfold execOp; rw [ho]
  simp only [strV] at hx
  simp [resolve, invoke, builtin, hx, Builtin.len_, run_underlying ht, goInt, strV_size]
/-- '[]byte(s)': known from now on -/
theorem e_bytes {s t e : TypeId} {x : Operand} {u : TypeDesc} {l : List UInt8} (h : Sat w0 w Kn L) (ho : o.op = .convert s t x) (hs : P.underlying s = some u) (ht : P.underlying t = some (.slice e)) (he : P.underlying e = some (.int .u8)) (hx : a.eval x = strV l) (hl : l.length ≤ 9223372036854775807)
    (k : ∀ v Kn' w', Hp.le Kn Kn' → Sat w0 w' Kn' L → Kd.u8.sl Kn' v l → K (a.put o.dst v) w') : o.wp P a w K Q := by
  have hrun := Go.Lib.run_convert_string_bytes (P := P) w s t e ⟨l.toArray⟩ hs ht he
  have hge : l.length ≤ grownCap w l.length 0 e := by simp [grownCap, Question.cut]
  have hcm : grownCap w l.length 0 e ≤ maxLen := grownCap_le_maxLen w l.length 0 e (by simp only [maxLen]; omega)
  rw [strV_size] at hrun
  refine op_val (w' := Go.Lib.bytesWorld w e ⟨l.toArray⟩) (v := .slice (some ⟨w.heap.size, 0, none⟩) l.length (grownCap w l.length 0 e)) ?_ ?_
  · unfold execOp; rw [ho]; simp only [hx, strV]; simp [hrun]
  · have hle : Hp.le (hp w) (hp (Go.Lib.bytesWorld w e ⟨l.toArray⟩)) := by
      intro g p hg
      have hlt : g < w.heap.size := by
        rcases Nat.lt_or_ge g w.heap.size with h' | h'
        · exact h'
        · simp [hp, Array.getElem?_eq_none h'] at hg
      exact (Go.Lib.bytesWorld_at_old w e _ g hlt).trans hg
    have hn := Go.Lib.bytesWorld_at_new w e ⟨l.toArray⟩
    have h1 : Sat w0 (Go.Lib.bytesWorld w e ⟨l.toArray⟩) Kn (SP.obj w.heap.size (.cells (Go.Lib.bytesCells w e ⟨l.toArray⟩) e ((Go.Lib.bytesCells w e ⟨l.toArray⟩).size, (Go.Lib.bytesCells w e ⟨l.toArray⟩).size + 1)) :: L) :=
      h.add (by simp [Go.Lib.bytesWorld, World.freeze, World.alloc, World.drew, -World.alloc_eq, -World.drew_eq]) (by simp [Go.Lib.bytesWorld, World.freeze, World.alloc, World.drew, -World.alloc_eq, -World.drew_eq]) (by simp [Go.Lib.bytesWorld, World.freeze, World.alloc, World.drew, -World.alloc_eq, -World.drew_eq]) hle _ rfl (Hp.single_le.2 hn) (fun g hg => by
        simp only [Hp.single] at hg
        split at hg
        · subst_vars; exact hp_fresh w
        · exact absurd rfl hg)
    obtain ⟨x', hx', _, _, hk, hk', hs'⟩ := h1.keep
    refine k _ _ _ hk hs' ⟨_, grownCap w l.length 0 e, l.map (fun c => Value.int .u8 (b8 c)), rfl, hge, hcm, ?_, .inr ⟨_, rfl, fun j u hu => ?_⟩⟩
    · clear hrun hge hcm hle hn h1 hs' hx hl
      induction l with
      | nil => rfl
      | cons c l ih => exact ⟨[.int .u8 (b8 c)], l.map (fun c => Value.int .u8 (b8 c)), rfl, rfl, by
          have : ∀ m : List UInt8, Kd.u8.reps (Hp.join Kn x') m (m.map (fun c => Value.int .u8 (b8 c))) := by
            intro m
            induction m with
            | nil => rfl
            | cons c m ih => exact ⟨[.int .u8 (b8 c)], _, rfl, rfl, ih⟩
          exact this l⟩
    · refine cellH_mono hk' ?_
      rw [show x' = _ from hx', Addr.add_lit, cellH_single]
      have hj := (List.getElem?_eq_some_iff.1 hu).1
      rw [List.length_map] at hj
      rw [← hu]
      simp [Go.Lib.bytesCells, Array.getElem?_append, hj, b8]
/-- 'string(b)' -/
theorem r_string {s t e : TypeId} {x : Operand} {v : Value} {l : List UInt8} (ho : o.op = .convert s t x) (hs : P.underlying s = some (.slice e)) (he : P.underlying e = some (.int .u8)) (ht : P.underlying t = some .string) (hx : a.eval x = v) (h : Sat w0 w Kn L) (hv : Kd.u8.sl Kn v l) : (execOp a.eval o).run P w = .ok (.value (strV l)) w := by
  obtain ⟨A, c, rfl, hc, _, hg⟩ := Kd.sl_open hv
  unfold execOp; rw [ho]
  cases l with
  | nil =>
    have : (convert s t (.slice A 0 c)).run P w = .ok (strV []) w := by
      cases A with
      | none => rw [run_convert_bytes_string w s t e none 0 c hs he ht]; rfl
      | some ad => exact run_convert_bytes_back (P := P) w s t e ad c [] hs he ht (fun j hj => absurd hj (by simp))
    simp only [hx, List.length_nil, Sem.run_bind, this, Result.andThen_ok]
    rfl
  | cons b l =>
    obtain ⟨ad, cs, rfl, _, _⟩ := hg 0 b rfl (by decide)
    have := run_convert_bytes_back (P := P) w s t e ad c (b :: l) hs he ht (fun j hj => by
      obtain ⟨ad', cs', e', hr, hcell⟩ := hg j ((b :: l)[j]) (by simp [hj]) (by decide)
      have : ad = ad' := Option.some.inj e'
      subst this
      have := h.cell (hcell 0 (.int .u8 (b8 (b :: l)[j])) (by rw [show cs' = _ from hr]; rfl))
      simpa [Kd.u8, Kd.scalar, b8] using this)
    simp only [hx, Sem.run_bind, this, Result.andThen_ok]
    rfl
/-- 'string([]byte{..})' over a literal -/
theorem r_string_blk {s t e e' : TypeId} {x : Operand} {g c : Nat} {l : List UInt8} {cs : List Value} (ho : o.op = .convert s t x) (hs : P.underlying s = some (.slice e)) (he : P.underlying e = some (.int .u8)) (ht : P.underlying t = some .string) (hx : a.eval x = .slice (some ⟨g, 0, none⟩) l.length c) (h : Sat w0 w Kn (SP.blk g e' cs :: L)) (hv : cs = l.map fun c => Value.int .u8 (b8 c)) : (execOp a.eval o).run P w = .ok (.value (strV l)) w := by
  subst hv
  unfold execOp; rw [ho]
  have := run_convert_bytes_back (P := P) w s t e ⟨g, 0, none⟩ c l hs he ht (fun j hj => by
    rw [Addr.add_lit, h.blk_cell]; simp [hj, b8])
  simp only [hx, Sem.run_bind, this, Result.andThen_ok]
  rfl
theorem r_field {t : TypeId} {x : Operand} {i : Nat} {cs : Array Value} {v : Value} {fs : Array Field} {f : Field} (ho : o.op = .field t x i) (ht : P.underlying t = some (.struct fs)) (hf : fs[i]? = some f) (hx : a.eval x = .agg cs) (hp : ∀ w : World, (part f.type cs f.offset).run P w = .ok v w) : (execOp a.eval o).run P w = .ok (.value v) w := by
  unfold execOp; rw [ho]
  simp [hx, Instr.field, run_underlying ht, hf, asAgg, hp]
theorem r_slice_str {t : TypeId} {x : Operand} {lo hi : Option Operand} {s : List UInt8} {l h : Int} (ho : o.op = .slice t x lo hi none) (ht : P.underlying t = some .string) (hx : a.eval x = strV s) (hl : (lo.map a.eval = some (.int .i64 l)) ∨ (lo = none ∧ l = 0)) (hh : (hi.map a.eval = some (.int .i64 h)) ∨ (hi = none ∧ h = s.length)) (h0 : 0 ≤ l) (h1 : l ≤ h) (h2 : h ≤ s.length) : (execOp a.eval o).run P w = .ok (.value (strV (cutS s l h))) w := by
  unfold execOp; rw [ho]
  have hb : ∀ (i : Int) (y : Nat) (c : BoundsCode), 0 ≤ i → i ≤ y → (Instr.sliceBound (.int .i64 i) y c).run P w = .ok i.toNat w := fun i y c a b => run_sliceBound w .i64 i y c a b
  have key : (Instr.slice t (.string ⟨s.toArray⟩) (lo.map a.eval) (hi.map a.eval) none).run P w = .ok (strV (cutS s l h)) w := by
    rcases hl with hl | ⟨rfl, rfl⟩ <;> rcases hh with hh | ⟨rfl, rfl⟩
    · rw [hl, hh]
      have hb1 := hb l h.toNat .sliceB h0 (by omega)
      simp [Instr.slice, run_underlying ht, Instr.sliceBounds, hb1, hb h s.length .sliceAlen (by omega) h2, strV_size, extract_cut, strV, cutS]
    · rw [hl]
      simp [Instr.slice, run_underlying ht, Instr.sliceBounds, hb l s.length .sliceB h0 h1, strV_size, extract_cut, strV, cutS]
    · rw [hh]
      simp [Instr.slice, run_underlying ht, Instr.sliceBounds, hb h s.length .sliceAlen h1 h2, strV_size, extract_cut, strV, cutS]
    · simp [Instr.slice, run_underlying ht, Instr.sliceBounds, strV_size, extract_cut, strV, cutS]
  simp only [hx, strV, Option.map_none]
  have e : (Instr.sliceAt t (.string ⟨s.toArray⟩) (lo.map a.eval) (hi.map a.eval) none).run P w = (Instr.slice t (.string ⟨s.toArray⟩) (lo.map a.eval) (hi.map a.eval) none).run P w := by
    simp [Instr.sliceAt, run_underlying ht]
  simp [e, key, strV]

/-! calls -/
theorem run_enter {f : FuncId} {fn : Func} {c : Code} (hf : P.funcs[f]? = some fn) (hn : (fn.name == "runtime.NumGoroutine") = false) (hb : fn.body = some c) (args : Array Value) (w : World) : (callFunc f args).run P w = .ok (.enter f args) w := by
  have h1 : fn.name ≠ "runtime.NumGoroutine" := by simpa using hn
  simp [callFunc, hf, h1, hb]
theorem e_call {f : FuncId} {fn : Func} {c : Code} {xs : Array Operand} {ts : Array TypeId} {vs : List Value} {R : Ending → World → Prop} (ho : o.op = .call { callee := .value (.func f), args := xs, argTypes := ts }) (hf : P.funcs[f]? = some fn) (hn : (fn.name == "runtime.NumGoroutine") = false) (hb : fn.body = some c) (hx : (xs.map a.eval).toList = vs)
    (hc : Calls P f vs.toArray w R) (k : ∀ e w', R e w' → ∃ v, e = .returned v ∧ K (a.put o.dst v) w') : o.wp P a w K Q := by
  refine op_enter (f := f) (args := vs.toArray) (w' := w) ?_ hc k
  have hxs : xs.map a.eval = vs.toArray := by rw [← hx]
  have hr := run_enter hf hn hb vs.toArray w
  unfold execOp; rw [ho]
  have he : a.eval (.func f) = .func (.func f) #[] #[] := rfl
  simp only [resolve, he, hxs, Deferred.ofValue, invoke, Sem.run_bind, Sem.run_pure, Result.andThen_ok, Array.empty_append, Array.append_empty]
  exact hr
/-- through a function value -/
theorem e_callv {f : FuncId} {fn : Func} {c : Code} {x : Operand} {xs : Array Operand} {ts : Array TypeId} {vs : List Value} {first captured : Array Value} {R : Ending → World → Prop} (ho : o.op = .call { callee := .value x, args := xs, argTypes := ts }) (hv : a.eval x = .func (.func f) first captured) (hf : P.funcs[f]? = some fn) (hn : (fn.name == "runtime.NumGoroutine") = false) (hb : fn.body = some c) (hx : (xs.map a.eval).toList = vs)
    (hc : Calls P f (first ++ vs.toArray ++ captured) w R) (k : ∀ e w', R e w' → ∃ v, e = .returned v ∧ K (a.put o.dst v) w') : o.wp P a w K Q := by
  refine op_enter (f := f) (args := first ++ vs.toArray ++ captured) (w' := w) ?_ hc k
  have hxs : xs.map a.eval = vs.toArray := by rw [← hx]
  have hr := run_enter hf hn hb (first ++ vs.toArray ++ captured) w
  unfold execOp; rw [ho]
  simp only [resolve, hv, hxs, Deferred.ofValue, invoke, Sem.run_bind, Sem.run_pure, Result.andThen_ok]
  exact hr
end
end Go.Proofs.YthjfnknhcmhmiaaDoor.Sl
