/-
  The memory logic, fourth part: what each operation comes to.
-/
import Derived.Test.YthjfnknhcmhmiaaDoorSl3
set_option linter.unusedVariables false
set_option linter.unusedSimpArgs false
namespace Go.Proofs.YthjfnknhcmhmiaaDoor.Sl
open Go Go.RowKit

/-! ### numbers -/
theorem b8_lt (c : UInt8) : b8 c < 256 := by have := c.toNat_lt; simp only [b8]; omega
theorem b8_nonneg (c : UInt8) : 0 ≤ b8 c := by simp only [b8]; omega
theorem b8_eq (c d : UInt8) : (b8 c == b8 d) = (c == d) := by
  rw [Bool.eq_iff_iff, beq_iff_eq, beq_iff_eq]
  simp only [b8, Int.natCast_inj, UInt8.toNat_inj]
theorem b8_ne (c d : UInt8) : (b8 c != b8 d) = (c != d) := by simp only [bne, b8_eq]
theorem b8_lss (c d : UInt8) : decide (b8 c < b8 d) = decide (c < d) := by simp [b8, UInt8.lt_iff_toNat_lt]
theorem b8_leq (c d : UInt8) : decide (b8 c ≤ b8 d) = decide (c ≤ d) := by simp [b8, UInt8.le_iff_toNat_le]
theorem wrap_u8 (n : Int) : IntKind.u8.wrap n = n % 256 := by simp [IntKind.wrap, IntKind.bits, IntKind.signed, IntKind.min]
theorem b8_add (c d : UInt8) : IntKind.u8.wrap (b8 c + b8 d) = b8 (c + d) := by
  rw [wrap_u8]; simp only [b8, UInt8.toNat_add]; omega
theorem b8_sub (c d : UInt8) : IntKind.u8.wrap (b8 c - b8 d) = b8 (c - d) := by
  have h1 := c.toNat_lt; have h2 := d.toNat_lt
  rw [wrap_u8]; simp only [b8, UInt8.toNat_sub]; omega
/-- a number as a byte -/
def toB (n : Int) : UInt8 := UInt8.ofNat (n % 256).toNat
theorem wrap_toB (n : Int) : IntKind.u8.wrap n = b8 (toB n) := by
  rw [wrap_u8]; simp only [b8, toB]
  rw [UInt8.toNat_ofNat_of_lt' (by simp [UInt8.size]; omega)]
  omega
theorem toB_b8 (c : UInt8) : toB (b8 c) = c := by
  have h := c.toNat_lt
  apply UInt8.toNat_inj.1
  simp only [toB, b8]
  rw [UInt8.toNat_ofNat_of_lt' (by simp [UInt8.size]; omega)]
  omega
abbrev w64 (n : Int) : Int := wrap64 n
theorem wrap_i64 (n : Int) : IntKind.i64.wrap n = w64 n := by simp [IntKind.wrap_i64, wrap64]
theorem strV_size (l : List UInt8) : (⟨l.toArray⟩ : ByteArray).size = l.length := by simp [ByteArray.size]
theorem strV_toList (l : List UInt8) : (⟨l.toArray⟩ : ByteArray).toList = l := by rw [ByteArray.toList_eq]
theorem strV_eq (l m : List UInt8) : ((⟨l.toArray⟩ : ByteArray).toList == (⟨m.toArray⟩ : ByteArray).toList) = (l == m) := by rw [strV_toList, strV_toList]
theorem strV_append (l m : List UInt8) : (⟨l.toArray⟩ : ByteArray) ++ ⟨m.toArray⟩ = ⟨(l ++ m).toArray⟩ := by
  apply ByteArray.ext
  simp [ByteArray.data_append]

section
variable {P : Program} {o : Oper} {a : Act} {w w' : World}

theorem r_move {x : Operand} {v : Value} (ho : o.op = .move x) (hx : a.eval x = v) : (execOp a.eval o).run P w = .ok (.value v) w := by
  unfold execOp; rw [ho]; simp only [hx]; rfl
theorem r_assign {x : Operand} {v : Value} (ho : o.op = .assign x) (hx : a.eval x = v) : (execOp a.eval o).run P w = .ok (.value v) w := by
  unfold execOp; rw [ho]; simp only [hx]; rfl
theorem r_pick_true {c x y : Operand} {v : Value} {b : Bool} (ho : o.op = .pick c x y) (hc : a.eval c = .bool b) (hb : b = true) (hx : a.eval x = v) : (execOp a.eval o).run P w = .ok (.value v) w := by
  subst hb
  unfold execOp; rw [ho]; simp [hc, hx, asBool]
theorem r_pick_false {c x y : Operand} {v : Value} {b : Bool} (ho : o.op = .pick c x y) (hc : a.eval c = .bool b) (hb : b = false) (hy : a.eval y = v) : (execOp a.eval o).run P w = .ok (.value v) w := by
  subst hb
  unfold execOp; rw [ho]; simp [hc, hy, asBool]

/-! two operands -/
theorem r_bin {b : BinOp} {t u : TypeId} {x y : Operand} {v : Value} (ho : o.op = .binOp b t x y u) (hg : (eqGuard b t x y (a.eval x) (a.eval y)).run P w = .ok () w) (hr : (binOp b t (a.eval x) (a.eval y)).run P w = .ok v w) : (execOp a.eval o).run P w = .ok (.value v) w := by
  unfold execOp; rw [ho]; simp [hg, hr]
theorem guard_int {b : BinOp} {t : TypeId} {x y : Operand} {k k' : IntKind} {m n : Int} : (eqGuard b t x y (.int k m) (.int k' n)).run P w = .ok () w := by cases b <;> rfl
theorem guard_string {b : BinOp} {t : TypeId} {x y : Operand} {m n : ByteArray} : (eqGuard b t x y (.string m) (.string n)).run P w = .ok () w := by cases b <;> rfl
theorem guard_bool {b : BinOp} {t : TypeId} {x y : Operand} {m n : Bool} : (eqGuard b t x y (.bool m) (.bool n)).run P w = .ok () w := by cases b <;> rfl
theorem r_add {t u : TypeId} {x y : Operand} {m n : Int} (ho : o.op = .binOp .add t x y u) (hx : a.eval x = .int .i64 m) (hy : a.eval y = .int .i64 n) : (execOp a.eval o).run P w = .ok (.value (.int .i64 (w64 (m + n)))) w :=
  r_bin ho (by rw [hx, hy]; exact guard_int) (by rw [hx, hy, ← wrap_i64]; rfl)
theorem r_sub {t u : TypeId} {x y : Operand} {m n : Int} (ho : o.op = .binOp .sub t x y u) (hx : a.eval x = .int .i64 m) (hy : a.eval y = .int .i64 n) : (execOp a.eval o).run P w = .ok (.value (.int .i64 (w64 (m - n)))) w :=
  r_bin ho (by rw [hx, hy]; exact guard_int) (by rw [hx, hy, ← wrap_i64]; rfl)
theorem r_mul {t u : TypeId} {x y : Operand} {m n : Int} (ho : o.op = .binOp .mul t x y u) (hx : a.eval x = .int .i64 m) (hy : a.eval y = .int .i64 n) : (execOp a.eval o).run P w = .ok (.value (.int .i64 (w64 (m * n)))) w :=
  r_bin ho (by rw [hx, hy]; exact guard_int) (by rw [hx, hy, ← wrap_i64]; rfl)
theorem r_quo {t u : TypeId} {x y : Operand} {m n : Int} (ho : o.op = .binOp .quo t x y u) (hx : a.eval x = .int .i64 m) (hy : a.eval y = .int .i64 n) (hn : n ≠ 0) : (execOp a.eval o).run P w = .ok (.value (.int .i64 (w64 (m.tdiv n)))) w :=
  r_bin ho (by rw [hx, hy]; exact guard_int) (by rw [hx, hy, ← wrap_i64]; simp [binOp, Op.intDiv, hn])
theorem r_rem {t u : TypeId} {x y : Operand} {k : IntKind} {m n : Int} (ho : o.op = .binOp .rem t x y u) (hx : a.eval x = .int k m) (hy : a.eval y = .int k n) (hn : n ≠ 0) : (execOp a.eval o).run P w = .ok (.value (.int k (m.tmod n))) w :=
  r_bin ho (by rw [hx, hy]; exact guard_int) (by rw [hx, hy]; simp [binOp, Op.intDiv, hn])
theorem r_cmp {t u : TypeId} {b : BinOp} {x y : Operand} {k : IntKind} {m n : Int} {r : Bool} (ho : o.op = .binOp b t x y u) (hx : a.eval x = .int k m) (hy : a.eval y = .int k n)
    (hr : (match b with | .eql => some (m == n) | .neq => some (m != n) | .lss => some (decide (m < n)) | .leq => some (decide (m ≤ n)) | .gtr => some (decide (m > n)) | .geq => some (decide (m ≥ n)) | _ => none) = some r) : (execOp a.eval o).run P w = .ok (.value (.bool r)) w :=
  r_bin ho (by rw [hx, hy]; exact guard_int) (by rw [hx, hy]; cases b <;> simp [binOp, Op.intCmp] at hr ⊢ <;> simp [hr])
theorem r_cmp8 {t u : TypeId} {b : BinOp} {x y : Operand} {m n : UInt8} {r : Bool} (ho : o.op = .binOp b t x y u) (hx : a.eval x = .int .u8 (b8 m)) (hy : a.eval y = .int .u8 (b8 n))
    (hr : (match b with | .eql => some (m == n) | .neq => some (m != n) | .lss => some (decide (m < n)) | .leq => some (decide (m ≤ n)) | .gtr => some (decide (n < m)) | .geq => some (decide (n ≤ m)) | _ => none) = some r) : (execOp a.eval o).run P w = .ok (.value (.bool r)) w := by
  refine r_cmp ho hx hy ?_
  rw [← hr]
  cases b <;> simp only [b8_eq, b8_ne, b8_lss, b8_leq, gt_iff_lt, ge_iff_le]
theorem r_add8 {t u : TypeId} {x y : Operand} {m n : UInt8} (ho : o.op = .binOp .add t x y u) (hx : a.eval x = .int .u8 (b8 m)) (hy : a.eval y = .int .u8 (b8 n)) : (execOp a.eval o).run P w = .ok (.value (.int .u8 (b8 (m + n)))) w :=
  r_bin ho (by rw [hx, hy]; exact guard_int) (by rw [hx, hy, ← b8_add]; rfl)
theorem r_sub8 {t u : TypeId} {x y : Operand} {m n : UInt8} (ho : o.op = .binOp .sub t x y u) (hx : a.eval x = .int .u8 (b8 m)) (hy : a.eval y = .int .u8 (b8 n)) : (execOp a.eval o).run P w = .ok (.value (.int .u8 (b8 (m - n)))) w :=
  r_bin ho (by rw [hx, hy]; exact guard_int) (by rw [hx, hy, ← b8_sub]; rfl)
/-- bits of two bytes; a shift of a byte, of an int -/
theorem r_bits {t u : TypeId} {b : BinOp} {x y : Operand} {k : IntKind} {m n r : Int} (ho : o.op = .binOp b t x y u) (hx : a.eval x = .int k m) (hy : a.eval y = .int k n) (hr : (binOp b t (.int k m) (.int k n)).run P w = .ok (.int k r) w) : (execOp a.eval o).run P w = .ok (.value (.int k r)) w :=
  r_bin ho (by rw [hx, hy]; exact guard_int) (by rw [hx, hy]; exact hr)
theorem r_shift {t u : TypeId} {b : BinOp} {x y : Operand} {k k' : IntKind} {m n r : Int} (ho : o.op = .binOp b t x y u) (hx : a.eval x = .int k m) (hy : a.eval y = .int k' n) (hr : (binOp b t (.int k m) (.int k' n)).run P w = .ok (.int k r) w) : (execOp a.eval o).run P w = .ok (.value (.int k r)) w :=
  r_bin ho (by rw [hx, hy]; exact guard_int) (by rw [hx, hy]; exact hr)
theorem r_beq {t u : TypeId} {x y : Operand} {m n : Bool} (ho : o.op = .binOp .eql t x y u) (ht : P.underlying t = some .bool) (hx : a.eval x = .bool m) (hy : a.eval y = .bool n) : (execOp a.eval o).run P w = .ok (.value (.bool (m == n))) w :=
  r_bin ho (by rw [hx, hy]; exact guard_bool) (by rw [hx, hy]; exact run_eql_bool w t m n ht)
theorem r_bne {t u : TypeId} {x y : Operand} {m n : Bool} (ho : o.op = .binOp .neq t x y u) (ht : P.underlying t = some .bool) (hx : a.eval x = .bool m) (hy : a.eval y = .bool n) : (execOp a.eval o).run P w = .ok (.value (.bool (m != n))) w :=
  r_bin ho (by rw [hx, hy]; exact guard_bool) (by rw [hx, hy]; exact run_neq_bool w t m n ht)
theorem r_seq {t u : TypeId} {x y : Operand} {m n : List UInt8} (ho : o.op = .binOp .eql t x y u) (hx : a.eval x = strV m) (hy : a.eval y = strV n) : (execOp a.eval o).run P w = .ok (.value (.bool (m == n))) w :=
  r_bin ho (by rw [hx, hy]; exact guard_string) (by rw [hx, hy, ← strV_eq]; rfl)
theorem r_sne {t u : TypeId} {x y : Operand} {m n : List UInt8} (ho : o.op = .binOp .neq t x y u) (hx : a.eval x = strV m) (hy : a.eval y = strV n) : (execOp a.eval o).run P w = .ok (.value (.bool (m != n))) w :=
  r_bin ho (by rw [hx, hy]; exact guard_string) (by rw [hx, hy, show (m != n) = !(m == n) from rfl, ← strV_eq]; rfl)
theorem r_sadd {t u : TypeId} {x y : Operand} {m n : List UInt8} (ho : o.op = .binOp .add t x y u) (hx : a.eval x = strV m) (hy : a.eval y = strV n) (hl : m.length + n.length ≤ 9223372036854775807) : (execOp a.eval o).run P w = .ok (.value (strV (m ++ n))) w :=
  r_bin ho (by rw [hx, hy]; exact guard_string) (by
    rw [hx, hy]
    simp only [strV, binOp, Op.stringOp, strV_size, strV_append]
    rw [if_neg (by simp [IntKind.max, IntKind.signed, IntKind.bits]; omega)]
    rfl)

/-! one operand -/
theorem r_not {t : TypeId} {x : Operand} {b : Bool} (ho : o.op = .unOp .not t x) (hx : a.eval x = .bool b) : (execOp a.eval o).run P w = .ok (.value (.bool (!b))) w := by
  unfold execOp; rw [ho]; simp [hx, Op.unary]
theorem r_neg {t : TypeId} {x : Operand} {n : Int} (ho : o.op = .unOp .neg t x) (hx : a.eval x = .int .i64 n) : (execOp a.eval o).run P w = .ok (.value (.int .i64 (w64 (0 - n)))) w := by
  unfold execOp; rw [ho]; simp [hx, Op.unary, Op.intArith, ← wrap_i64]
theorem r_conv_int {s t : TypeId} {x : Operand} {k j : IntKind} {d : TypeDesc} {n : Int} (ho : o.op = .convert s t x) (hs : P.underlying s = some d) (ht : P.underlying t = some (.int j)) (hx : a.eval x = .int k n) : (execOp a.eval o).run P w = .ok (.value (.int j (j.wrap n))) w := by
  unfold execOp; rw [ho]; simp [hx, convert, run_underlying hs, run_underlying ht, Conv.intToInt]
theorem w64_b8 (c : UInt8) : w64 (b8 c) = b8 c := by have := c.toNat_lt; simp only [w64, wrap64, b8]; omega
theorem r_conv_8i {s t : TypeId} {x : Operand} {d : TypeDesc} {n : UInt8} (ho : o.op = .convert s t x) (hs : P.underlying s = some d) (ht : P.underlying t = some (.int .i64)) (hx : a.eval x = .int .u8 (b8 n)) : (execOp a.eval o).run P w = .ok (.value (.int .i64 (b8 n))) w := by
  have h := r_conv_int (w := w) ho hs ht hx
  rw [wrap_i64, w64_b8] at h
  exact h
theorem r_conv_i8 {s t : TypeId} {x : Operand} {d : TypeDesc} {n : Int} (ho : o.op = .convert s t x) (hs : P.underlying s = some d) (ht : P.underlying t = some (.int .u8)) (hx : a.eval x = .int .i64 n) : (execOp a.eval o).run P w = .ok (.value (.int .u8 (b8 (toB n)))) w := by
  have h := r_conv_int (w := w) ho hs ht hx
  rw [wrap_toB] at h
  exact h
theorem r_extract {x : Operand} {i : Nat} {vs : Array Value} {v : Value} (ho : o.op = .extract x i) (hx : a.eval x = .tuple vs) (hv : vs[i]? = some v) : (execOp a.eval o).run P w = .ok (.value v) w := by
  unfold execOp; rw [ho]; simp [hx, Instr.extract, hv]
theorem r_nilCheck {x : Operand} {ad : Addr} (ho : o.op = .nilCheck x) (hx : a.eval x = .pointer (some ad)) : (execOp a.eval o).run P w = .ok (.value (.pointer (some ad))) w := by
  unfold execOp; rw [ho]; simp [hx]

/-! places -/
theorem r_fieldAddr {t : TypeId} {x : Operand} {i : Nat} {ad : Addr} {fs : Array Field} {f : Field} {ti : TypeInfo} (ho : o.op = .fieldAddr t x i) (ht : P.underlying t = some (.struct fs)) (hf : fs[i]? = some f) (hi : P.info? f.type = some ti) (h0 : (ti.size = 0) = False) (hx : a.eval x = .pointer (some ad)) : (execOp a.eval o).run P w = .ok (.value (.pointer (some (ad.add f.offset)))) w := by
  unfold execOp; rw [ho]
  simp [hx, Instr.fieldAt, run_underlying ht, hf, Instr.sureAddr, fieldPlace, sizeOf, typeInfo, hi, h0]
theorem r_indexAddr {t e : TypeId} {x y : Operand} {ad : Addr} {n c : Nat} {i : Int} {k : IntKind} {ti : TypeInfo} (ho : o.op = .indexAddr t x y) (ht : P.underlying t = some (.slice e)) (hi : P.info? e = some ti) (hx : a.eval x = .slice (some ad) n c) (hy : a.eval y = .int k i) (h0 : 0 ≤ i) (h1 : i < n) : (execOp a.eval o).run P w = .ok (.value (.pointer (some (ad.add (i.toNat * ti.size))))) w := by
  unfold execOp; rw [ho]
  simp [hx, hy, Instr.indexAt, asIntOf, run_underlying ht, sizeOf, typeInfo, hi, h0, h1]
theorem r_index_string {t : TypeId} {x y : Operand} {s : List UInt8} {i : Int} {k : IntKind} (ho : o.op = .index t x y) (ht : P.underlying t = some .string) (hx : a.eval x = strV s) (hy : a.eval y = .int k i) (h0 : 0 ≤ i) (h1 : i < s.length) : (execOp a.eval o).run P w = .ok (.value (.int .u8 (b8 (s.getD i.toNat 0)))) w := by
  unfold execOp; rw [ho]
  have hl : i.toNat < s.length := by omega
  have hg : (⟨s.toArray⟩ : ByteArray)[i.toNat]? = some (s.getD i.toNat 0) := by
    rw [getElem?_pos (⟨s.toArray⟩ : ByteArray) i.toNat (by rw [strV_size]; exact hl)]
    simp [List.getD_eq_getElem?_getD, hl]
    rfl
  simp only [hx, hy, strV, Instr.index, asIntOf, Sem.run_bind, Sem.run_pure, Result.andThen_ok, run_underlying ht, if_pos h0, hg, b8]
def cutS (s : List UInt8) (lo hi : Int) : List UInt8 := (s.take hi.toNat).drop lo.toNat
theorem extract_cut (s : List UInt8) (l h : Nat) : (⟨s.toArray⟩ : ByteArray).extract l h = ⟨((s.take h).drop l).toArray⟩ := by
  apply ByteArray.ext
  simp [ByteArray.data_extract, List.extract_eq_take_drop, List.drop_take]
end
end Go.Proofs.YthjfnknhcmhmiaaDoor.Sl
