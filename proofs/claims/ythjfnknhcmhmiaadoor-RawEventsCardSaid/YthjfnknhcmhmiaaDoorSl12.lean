/-
  The memory logic, twelfth part: bits of bytes; pointers; what the standard library's leaves come to.
-/
import Derived.Test.YthjfnknhcmhmiaaDoorSl11
import Derived.Laws.Externs
import Derived.Lib.UnsafeStr
import Derived.Lib.Builder
set_option linter.unusedVariables false
set_option linter.unusedSimpArgs false
namespace Go.Proofs.YthjfnknhcmhmiaaDoor.Sl
open Go Go.RowKit

section
variable {P : Program} {o : Oper} {a : Act} {w w0 : World} {Kn : Hp} {L : List SP} {K : Act → World → Prop} {Q : Exit → Act → World → Prop}

/-! ### 1. Bits -/
theorem r_and8 {t u : TypeId} {x y : Operand} {m n : UInt8} (ho : o.op = .binOp .and t x y u) (hx : a.eval x = .int .u8 (b8 m)) (hy : a.eval y = .int .u8 (b8 n)) : (execOp a.eval o).run P w = .ok (.value (.int .u8 (b8 (m &&& n)))) w := by
  have hm := m.toNat_lt; have hn := n.toNat_lt
  refine r_bits ho hx hy ?_
  have key : IntKind.u8.wrap ((((b8 m % 2 ^ IntKind.u8.bits).toNat &&& (b8 n % 2 ^ IntKind.u8.bits).toNat : Nat)) : Int) = b8 (m &&& n) := by
    have e1 : (b8 m % 2 ^ IntKind.u8.bits).toNat = m.toNat := by simp only [IntKind.bits, b8]; omega
    have e2 : (b8 n % 2 ^ IntKind.u8.bits).toNat = n.toNat := by simp only [IntKind.bits, b8]; omega
    rw [e1, e2, wrap_u8]
    simp only [b8, UInt8.toNat_and]
    have : m.toNat &&& n.toNat ≤ m.toNat := Nat.and_le_left
    omega
  rw [← key]
  simp [binOp, Op.intBits]
def shr8 (m : UInt8) (n : Nat) : UInt8 := UInt8.ofNat (m.toNat / 2 ^ n)
theorem r_shr8 {t u : TypeId} {x y : Operand} {m : UInt8} {n : Nat} {k : IntKind} (ho : o.op = .binOp .shr t x y u) (hx : a.eval x = .int .u8 (b8 m)) (hy : a.eval y = .int k (n : Int)) (hn : n ≤ 7) : (execOp a.eval o).run P w = .ok (.value (.int .u8 (b8 (shr8 m n)))) w := by
  have hm := m.toNat_lt
  refine r_shift ho hx hy ?_
  have hle : m.toNat / 2 ^ n ≤ m.toNat := Nat.div_le_self _ _
  have key : b8 (shr8 m n) = ((m.toNat / 2 ^ n : Nat) : Int) := by
    simp only [b8, shr8]
    rw [UInt8.toNat_ofNat_of_lt' (by simp [UInt8.size]; omega)]
  rw [key]
  have h0 : ¬ ((n : Int) < 0) := by omega
  have hmin : min n IntKind.u8.bits = n := by simp only [IntKind.bits]; omega
  simp [binOp, Op.shift, h0, b8, hmin]

/-! ### 2. Pointers -/
theorem eqP_nn {w : World} {d : Nat} {t e : TypeId} (ht : P.underlying t = some (.pointer e)) : (Op.equalIn (d + 1) t (.pointer none) (.pointer none)).run P w = .ok true w := by simp [Op.equalIn, run_underlying ht]
theorem eqP_bn {w : World} {d : Nat} {t e : TypeId} {ad : Addr} (ht : P.underlying t = some (.pointer e)) : (Op.equalIn (d + 1) t (.pointer (some ad)) (.pointer none)).run P w = .ok false w := by simp [Op.equalIn, run_underlying ht]
theorem run_eql_pt {w : World} {t : TypeId} {x y : Option Addr} : (binOp .eql t (.pointer x) (.pointer y)).run P w = ((Op.equalIn 10000 t (.pointer x) (.pointer y)).run P w).andThen fun b w' => .ok (.bool b) w' := by
  simp only [binOp]; simp [Op.equal, Op.maxDepth]
theorem r_pteq_nn {t u e : TypeId} {x y : Operand} (ho : o.op = .binOp .eql t x y u) (ht : P.underlying t = some (.pointer e)) (hx : a.eval x = .pointer none) (hy : a.eval y = .pointer none) : (execOp a.eval o).run P w = .ok (.value (.bool true)) w := by
  refine r_bin ho (by rw [hx, hy]; rfl) ?_
  rw [hx, hy, run_eql_pt, eqP_nn (d := 9999) ht]; rfl
theorem r_pteq_bn {t u e : TypeId} {ad : Addr} {x y : Operand} (ho : o.op = .binOp .eql t x y u) (ht : P.underlying t = some (.pointer e)) (hx : a.eval x = .pointer (some ad)) (hy : a.eval y = .pointer none) : (execOp a.eval o).run P w = .ok (.value (.bool false)) w := by
  refine r_bin ho (by rw [hx, hy]; rfl) ?_
  rw [hx, hy, run_eql_pt, eqP_bn (d := 9999) ht]; rfl
theorem r_ptne_bb {t u e : TypeId} {ad : Addr} {x y : Operand} {z : Value} {n b : Nat} (ho : o.op = .binOp .neq t x y u) (ht : P.underlying t = some (.pointer e)) (hi : tinfo P e = some (z, n, b)) (hx : a.eval x = .pointer (some ad)) (hy : a.eval y = .pointer (some ad)) : (execOp a.eval o).run P w = .ok (.value (.bool false)) w := by
  obtain ⟨ti, hti, _⟩ := tinfo_parts hi
  refine r_bin ho (by rw [hx, hy]; rfl) ?_
  rw [hx, hy]
  exact Go.Lib.run_neq_ptr_same (P := P) w ad ht hti
def unsafeT (P : Program) (t : TypeId) : Bool := match P.underlying t with | some .unsafePointer => true | _ => false
theorem unsafeT_u {t : TypeId} (h : unsafeT P t = true) : P.underlying t = some .unsafePointer := by
  unfold unsafeT at h
  cases hu : P.underlying t with
  | none => simp [hu] at h
  | some td => cases td <;> simp [hu] at h; rfl
theorem r_to_unsafe {s t e e' : TypeId} {x : Operand} {g m n b : Nat} {z : Value} {cs : List Value} (ho : o.op = .convert s t x) (hs : P.underlying s = some (.pointer e)) (ht : unsafeT P t = true) (hi : tinfo P e = some (z, n, b)) (hn : (n == 0) = false) (hx : a.eval x = .pointer (some ⟨g, m, none⟩)) (h : Sat w0 w Kn (SP.blk g e' cs :: L)) (hm : m < cs.length) : (execOp a.eval o).run P w = .ok (.value (.pointer (some ⟨g, m, none⟩))) w := by
  obtain ⟨ti, hti, _, hsz, _⟩ := tinfo_parts hi
  have hsh : w.shape? g = some (e', cs.length) := by
    have := h.blk_heap
    simp [World.shape?, this]
  have := Go.Lib.run_to_unsafe (P := P) w ⟨g, m, none⟩ hs (unsafeT_u ht) hti (by rw [hsz]; simpa using hn) hsh hm
  unfold execOp; rw [ho]; simp [hx, this]
theorem r_from_unsafe {s t e e' : TypeId} {x : Operand} {g m n b : Nat} {z : Value} {cs : List Value} (ho : o.op = .convert s t x) (hs : unsafeT P s = true) (ht : P.underlying t = some (.pointer e)) (hi : tinfo P e = some (z, n, b)) (hx : a.eval x = .pointer (some ⟨g, m, none⟩)) (h : Sat w0 w Kn (SP.blk g e' cs :: L)) (hl : liesAt P P.depth e' (cs.length / P.cellsOf e') m e 1 = true) : (execOp a.eval o).run P w = .ok (.value (.pointer (some ⟨g, m, none⟩))) w := by
  obtain ⟨ti, hti, _, hsz, _⟩ := tinfo_parts hi
  have hsh : w.shape? g = some (e', cs.length) := by
    have := h.blk_heap
    simp [World.shape?, this]
  have := Go.Lib.run_from_unsafe (P := P) w ⟨g, m, none⟩ (unsafeT_u hs) ht hti hsh hl
  unfold execOp; rw [ho]; simp [hx, this]

/-! ### 3. Leaves without a body -/
theorem r_extern {f : FuncId} {fn : Func} {ex : Array Value → Sem Value} {xs : Array Operand} {ts : Array TypeId} {vs : List Value} {v : Value} (ho : o.op = .call { callee := .value (.func f), args := xs, argTypes := ts }) (hf : P.funcs[f]? = some fn) (hn : (fn.name == "runtime.NumGoroutine") = false) (hb : fn.body.isNone = true) (hnx : Extern.findNext fn = none) (he : Extern.find fn = some ex) (hx : (xs.map a.eval).toList = vs) (hr : (ex vs.toArray).run P w = .ok v w) : (execOp a.eval o).run P w = .ok (.value v) w := by
  have hxs : xs.map a.eval = vs.toArray := by rw [← hx]
  have hr' := run_callFunc_extern (P := P) hf hn hb hnx he vs.toArray w
  unfold execOp; rw [ho]
  have he' : a.eval (.func f) = .func (.func f) #[] #[] := rfl
  simp only [resolve, he', hxs, Deferred.ofValue, invoke, Sem.run_bind, Sem.run_pure, Result.andThen_ok, Array.empty_append, Array.append_empty, hr', hr]
def idxB (s : List UInt8) (c : UInt8) : Int := firstIdx ⟨s.toArray⟩ c
theorem x_indexByte (s : List UInt8) (c : UInt8) (w : World) : (Extern.BytealgIndexByte.indexByte [strV s, .int .u8 (b8 c)].toArray).run P w = .ok (.int .i64 (idxB s c)) w := by
  have := run_indexByte_string (P := P) ⟨s.toArray⟩ (b8 c) w
  have e : (b8 c).toNat.toUInt8 = c := by simp [b8]
  rw [e] at this
  exact this
theorem x_noEscape (x : Value) (w : World) : (Extern.AbiNoEscape.same [x].toArray).run P w = .ok x w := rfl

theorem r_len_rowR {α : Type} {d : Kd α} {t e e' : TypeId} {x : Operand} {v : Value} {xs : List α} (ho : o.op = .call { callee := .builtin .len, args := #[x], argTypes := #[t] }) (ht : P.underlying t = some (.slice e)) (hx : a.eval x = v) (h : Rd w0 Kn (SP.row d e' v xs :: L) w) : (execOp a.eval o).run P w = .ok (.value (.int .i64 xs.length)) w := by
  obtain ⟨K', _, hs⟩ := h
  exact r_len_row ho ht hx hs

/-! ### 4. A builder's string -/
/-- 'unsafe.SliceData' of a row of one's own -/
theorem e_usd {t e e' : TypeId} {x : Operand} {v : Value} {xs : List UInt8} (h : Sat w0 w Kn (SP.row Kd.u8 e v xs :: L)) (ho : o.op = .call { callee := .builtin .unsafeSliceData, args := #[x], argTypes := #[t] }) (hpt : P.underlying o.type = some (.pointer e')) (hx : a.eval x = v)
    (k : ∀ p w', Sat w0 w' Kn (SP.row Kd.u8 e v xs :: L) → (xs ≠ [] → ∃ n c, v = .slice p n c) → K (a.put o.dst (.pointer p)) w') : o.wp P a w K Q := by
  have hh := h
  obtain ⟨aa, ha, hal, had, f, f1, f2, f3, f4, f5⟩ := h.split1
  have go : ∀ (p : Option Addr) (w' : World), (Builtin.unsafeSliceData_ #[t] o.type #[v]).run P w = .ok (.pointer p) w' → (execOp a.eval o).run P w = .ok (.value (.pointer p)) w' := by
    intro p w' hr
    unfold execOp; rw [ho]
    simp [resolve, invoke, builtin, hx, hr]
  rcases ha with ⟨rfl, rfl, _⟩ | ⟨g, off, cap, cur, cs, rfl, h2, h3, h4, h5, h6, h7, rfl⟩
  · exact op_val (go none w (Go.Lib.run_unsafeSliceData_nil (P := P) w _ _ _ _)) (k none w hh (fun h => absurd rfl h))
  · by_cases hc : cap = 0
    · subst hc
      have hgw : w.heap[g]? = some (.cells cur e (0, 0)) := Hp.single_le.1 (show Hp.le (Hp.single g _) (hp w) by rw [← h2]; exact hal)
      have hx0 : xs = [] := List.length_eq_zero_iff.1 (by omega)
      refine op_val (go _ _ (Go.Lib.run_unsafeSliceData_zero (P := P) w _ _ e' hpt ⟨g, 0, none⟩ xs.length (e, cur.size) (by simp [World.shape?, hgw]))) (k _ _ ?_ (fun h => absurd hx0 h))
      exact hh.grow rfl rfl rfl (hp_alloc_le w _)
    · exact op_val (go _ w (Go.Lib.run_unsafeSliceData_row (P := P) w _ _ _ _ _ hc)) (k _ w hh (fun _ => ⟨_, _, rfl⟩))
/-- 'unsafe.String' over it: the row is given up -/
theorem e_ustr {tp ti e : TypeId} {x y : Operand} {v : Value} {p : Option Addr} {xs : List UInt8} (h : Sat w0 w Kn (SP.row Kd.u8 e v xs :: L)) (ho : o.op = .call { callee := .builtin .unsafeString, args := #[x, y], argTypes := #[tp, ti] }) (hpt : P.underlying tp = some (.pointer e)) (hc1 : P.cellsOf e = 1) (hx : a.eval x = .pointer p) (hy : a.eval y = .int .i64 xs.length) (hv : xs ≠ [] → ∃ n c, v = .slice p n c)
    (k : ∀ w', Sat w0 w' Kn L → K (a.put o.dst (strV xs)) w') : o.wp P a w K Q := by
  obtain ⟨aa, ha, hal, had, f, f1, f2, f3, f4, f5⟩ := h.split1
  have go : ∀ (w' : World), (Builtin.unsafeString_ #[tp, ti] o.type #[.pointer p, .int .i64 xs.length]).run P w = .ok (strV xs) w' → (execOp a.eval o).run P w = .ok (.value (strV xs)) w' := by
    intro w' hr
    unfold execOp; rw [ho]
    simp [resolve, invoke, builtin, hx, hy, hr]
  by_cases hxs : xs = []
  · subst hxs
    exact op_val (go w (Go.Lib.run_unsafeString_none (P := P) w _ _ _ _)) (k w h.tail)
  · obtain ⟨n, c, rfl⟩ := hv hxs
    rcases ha with ⟨e1, e2, _⟩ | ⟨g, off, cap, cur, cs, e1, h2, h3, h4, h5, h6, h7, rfl⟩
    · exact absurd e2 hxs
    · obtain ⟨rfl, rfl, rfl⟩ : p = some ⟨g, 0, none⟩ ∧ n = xs.length ∧ c = cap := by simpa using e1
      have hgw : w.heap[g]? = some (.cells cur e (0, 0)) := Hp.single_le.1 (show Hp.le (Hp.single g _) (hp w) by rw [← h2]; exact hal)
      have hsz : xs.length ≤ cur.size := by
        have : Kd.u8.sz = 1 := rfl
        rw [this] at h5; omega
      have hcs : cs = xs.map fun c => Value.int .u8 (b8 c) := by
        clear h7 hv h3 e1 hsz go hy hxs k h hal
        induction xs generalizing cs with
        | nil => exact h6
        | cons x xs ih =>
          obtain ⟨c1, c2, rfl, hc, hr⟩ := h6
          rw [show c1 = [Value.int .u8 (b8 x)] from hc, ih _ hr]
          rfl
      subst hcs
      have hrun := Go.Lib.run_unsafeString_row (P := P) w tp ti o.type e hpt hc1 g cur.size (by simp [World.shape?, hgw]) xs hxs hsz (by simp only [maxLen] at h4; omega) (fun j x hj => by
        rw [Addr.add_lit, cell_of_row w g _ _ e (0, 0) hgw]
        have := h7 j (.int .u8 (b8 x)) (by simp [hj])
        simpa [b8] using this)
      refine op_val (go _ hrun) (k _ ?_)
      have hfz : (w.freeze ⟨g, 0, none⟩ xs.length).heap.size = w.heap.size ∧ ∀ g', g' ≠ g → (w.freeze ⟨g, 0, none⟩ xs.length).heap[g']? = w.heap[g']? := by
        unfold World.freeze
        split
        · exact ⟨rfl, fun _ _ => rfl⟩
        · refine ⟨by simp, fun g' hg' => ?_⟩
          simp only [Array.getElem?_modify]
          rw [if_neg (by simpa using Ne.symm hg')]
      have hh : Sat w0 (w.freeze ⟨g, 0, none⟩ xs.length) Kn (SP.emp :: L) := by
        refine h.update (by unfold World.freeze; split <;> rfl) (by unfold World.freeze; split <;> rfl) (by unfold World.freeze; split <;> rfl) (fun a' ha' hal' => ⟨Hp.zero, fun _ => rfl, Hp.zero_le _, fun k hk => absurd rfl hk, fun k hk o' ho' => ?_⟩)
        have hne : k ≠ g := by
          rintro rfl
          rcases ha' with ⟨e', _⟩ | ⟨g', off', cap', cur', cs', e', hh', _⟩
          · simp at e'
          · have : g' = k := by
              simp only [Value.slice.injEq, Option.some.injEq, Addr.mk.injEq] at e'
              exact e'.1.1.symm
            subst this
            rw [hh', Hp.single_self] at hk
            cases hk
        show (w.freeze ⟨g, 0, none⟩ xs.length).heap[k]? = some o'
        rw [hfz.2 k hne]; exact ho'
      exact hh.tail
end
end Go.Proofs.YthjfnknhcmhmiaaDoor.Sl
