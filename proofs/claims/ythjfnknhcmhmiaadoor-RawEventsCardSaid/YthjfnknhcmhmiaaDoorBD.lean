/-
  What the code computes: plain functions, and the walks.: the plain functions.
-/
import Derived.Test.YthjfnknhcmhmiaaDoorSl17
import Derived.Test.YthjfnknhcmhmiaaDoorProg
import Derived.Lib.ItoaNum
import Derived.Lib.Join
import Derived.Lib.LaidTab
import Derived.Lib.ParseIntB
set_option linter.unusedVariables false
set_option linter.unusedSimpArgs false
set_option maxRecDepth 10000
set_option maxHeartbeats 1000000
set_option synthInstance.maxHeartbeats 400000
set_option synthInstance.maxSize 2000
namespace Go.Proofs.YthjfnknhcmhmiaaDoor
open Go Go.RowKit Sl

structure raw_Event where
  f_Kind : Int
  f_N : Int
  f_Bytes : List UInt8
  f_Marks : List Int
def kraw_Event : Kd raw_Event := Kd.iso (Kd.pair (Kd.int .i64) (Kd.pair (Kd.int .i64) (Kd.pair (Kd.slice Kd.u8) (Kd.slice (Kd.int .i64))))) (fun x => (x.f_Kind, (x.f_N, (x.f_Bytes, x.f_Marks))))
theorem kraw_Event_open {K : Hp} {x : raw_Event} {cs : List Value} (h : kraw_Event.rep K x cs) : ∃ v1 v2, cs = [Value.int .i64 (x.f_Kind), Value.int .i64 (x.f_N), v1, v2] ∧ Kd.u8.sl K v1 x.f_Bytes ∧ (Kd.int .i64).sl K v2 x.f_Marks := by
  replace h : (Kd.pair (Kd.int .i64) (Kd.pair (Kd.int .i64) (Kd.pair (Kd.slice Kd.u8) (Kd.slice (Kd.int .i64))))).rep K (x.f_Kind, (x.f_N, (x.f_Bytes, x.f_Marks))) cs := h
  obtain ⟨c0, d0, rfl, h0, h⟩ := h
  obtain rfl := h0
  obtain ⟨c1, d1, rfl, h1, h⟩ := h
  obtain rfl := h1
  obtain ⟨c2, d2, rfl, h2, h⟩ := h
  obtain ⟨v1, rfl, g0⟩ := h2
  obtain ⟨v2, rfl, g1⟩ := h
  exact ⟨v1, v2, rfl, g0, g1⟩
theorem kraw_Event_shut {K : Hp} {x : raw_Event} {v1 : Value} {v2 : Value} (g0 : Kd.u8.sl K v1 x.f_Bytes) (g1 : (Kd.int .i64).sl K v2 x.f_Marks) : kraw_Event.rep K x [Value.int .i64 (x.f_Kind), Value.int .i64 (x.f_N), v1, v2] := by
  show (Kd.pair (Kd.int .i64) (Kd.pair (Kd.int .i64) (Kd.pair (Kd.slice Kd.u8) (Kd.slice (Kd.int .i64))))).rep K (x.f_Kind, (x.f_N, (x.f_Bytes, x.f_Marks))) [Value.int .i64 (x.f_Kind), Value.int .i64 (x.f_N), v1, v2]
  exact ⟨[Value.int .i64 (x.f_Kind)], [Value.int .i64 (x.f_N), v1, v2], rfl, rfl, ⟨[Value.int .i64 (x.f_N)], [v1, v2], rfl, rfl, ⟨[v1], [v2], rfl, ⟨v1, rfl, g0⟩, ⟨v2, rfl, g1⟩⟩⟩⟩

structure R_Event where
  f_Kind : Int
  f_N : Int
  f_Bytes : List UInt8
  f_Marks : List Int
def kR_Event : Kd R_Event := Kd.iso (Kd.pair (Kd.int .i64) (Kd.pair (Kd.int .i64) (Kd.pair Kd.str (Kd.slice (Kd.int .i64))))) (fun x => (x.f_Kind, (x.f_N, (x.f_Bytes, x.f_Marks))))
theorem kR_Event_open {K : Hp} {x : R_Event} {cs : List Value} (h : kR_Event.rep K x cs) : ∃ v1, cs = [Value.int .i64 (x.f_Kind), Value.int .i64 (x.f_N), strV (x.f_Bytes), v1] ∧ (Kd.int .i64).sl K v1 x.f_Marks := by
  replace h : (Kd.pair (Kd.int .i64) (Kd.pair (Kd.int .i64) (Kd.pair Kd.str (Kd.slice (Kd.int .i64))))).rep K (x.f_Kind, (x.f_N, (x.f_Bytes, x.f_Marks))) cs := h
  obtain ⟨c0, d0, rfl, h0, h⟩ := h
  obtain rfl := h0
  obtain ⟨c1, d1, rfl, h1, h⟩ := h
  obtain rfl := h1
  obtain ⟨c2, d2, rfl, h2, h⟩ := h
  obtain rfl := h2
  obtain ⟨v1, rfl, g0⟩ := h
  exact ⟨v1, rfl, g0⟩
theorem kR_Event_shut {K : Hp} {x : R_Event} {v1 : Value} (g0 : (Kd.int .i64).sl K v1 x.f_Marks) : kR_Event.rep K x [Value.int .i64 (x.f_Kind), Value.int .i64 (x.f_N), strV (x.f_Bytes), v1] := by
  show (Kd.pair (Kd.int .i64) (Kd.pair (Kd.int .i64) (Kd.pair Kd.str (Kd.slice (Kd.int .i64))))).rep K (x.f_Kind, (x.f_N, (x.f_Bytes, x.f_Marks))) [Value.int .i64 (x.f_Kind), Value.int .i64 (x.f_N), strV (x.f_Bytes), v1]
  exact ⟨[Value.int .i64 (x.f_Kind)], [Value.int .i64 (x.f_N), strV (x.f_Bytes), v1], rfl, rfl, ⟨[Value.int .i64 (x.f_N)], [strV (x.f_Bytes), v1], rfl, rfl, ⟨[strV (x.f_Bytes)], [v1], rfl, rfl, ⟨v1, rfl, g0⟩⟩⟩⟩

def strconv_Itoa (n : Int) : Option (List UInt8) := if -9223372036854775808 ≤ n ∧ n ≤ 9223372036854775807 then some (Lib.itoa n) else none
def strconv_ParseUint (s : List UInt8) (b k : Int) : Option (Int × Bool) :=
  if b = 10 ∧ k = 16 ∧ s.length ≤ 281474976710656 then
    match Lib.parseUintB 16 s with
    | .ok u => some ((u : Int), true)
    | .range => some (65535, false)
    | _ => some (0, false)
  else none
def strings_Join (xs : List (List UInt8)) (sep : List UInt8) : Option (List UInt8) := if xs.length ≤ 140737488355328 ∧ (Lib.join xs sep).length ≤ 140737488355328 then some (Lib.join xs sep) else none
def Glob (w0 : World) : Prop := (∀ g, g ∈ ([0, 20, 21] : List Nat) → IsErr w0 g) ∧ (Lib.TabIs Tryd.prog w0 "internal/strconv.uint64pow10" .u64 Lib.pow10Tab) ∧ True

theorem mixed_ : Tryd.prog.follows .mixedOrders = true := by kernel_rfl
theorem un_9 : Tryd.prog.underlying 9 = some (.string) := by kernel_rfl
theorem un_5 : Tryd.prog.underlying 5 = some (.int .u8) := by kernel_rfl
theorem un_21 : Tryd.prog.underlying 21 = some (.int .i32) := by kernel_rfl
theorem un_46 : Tryd.prog.underlying 46 = some (.slice 9) := by kernel_rfl
theorem ti_9 : tinfo Tryd.prog 9 = some (strV (([] : List UInt8)), 1, 16) := by kernel_rfl
theorem un_3 : Tryd.prog.underlying 3 = some (.int .i64) := by kernel_rfl
theorem un_22 : Tryd.prog.underlying 22 = some (.slice 5) := by kernel_rfl
theorem ti_5 : tinfo Tryd.prog 5 = some (Value.int .u8 0, 1, 1) := by kernel_rfl
theorem un_102 : Tryd.prog.underlying 102 = some (.int .u64) := by kernel_rfl
theorem if_29 : ifaceT Tryd.prog 29 = some true := by kernel_rfl
theorem ag_9 : aggT Tryd.prog 9 = some false := by kernel_rfl
theorem un_23 : Tryd.prog.underlying 23 = some (.slice 3) := by kernel_rfl
theorem ti_3 : tinfo Tryd.prog 3 = some (Value.int .i64 (0), 1, 8) := by kernel_rfl
theorem ti_25 : tinfo Tryd.prog 25 = some (Value.agg #[Value.int .i64 (0), Value.int .i64 (0), Value.slice none 0 0, Value.slice none 0 0], 4, 64) := by kernel_rfl
theorem ag_25 : aggT Tryd.prog 25 = some true := by kernel_rfl
theorem fo_25_2 : fieldOff Tryd.prog 25 2 = some 2 := by kernel_rfl
theorem ti_22 : tinfo Tryd.prog 22 = some (Value.slice none 0 0, 1, 24) := by kernel_rfl
theorem fo_25_3 : fieldOff Tryd.prog 25 3 = some 3 := by kernel_rfl
theorem ti_23 : tinfo Tryd.prog 23 = some (Value.slice none 0 0, 1, 24) := by kernel_rfl
theorem ag_23 : aggT Tryd.prog 23 = some false := by kernel_rfl
theorem ag_3 : aggT Tryd.prog 3 = some false := by kernel_rfl
theorem ag_22 : aggT Tryd.prog 22 = some false := by kernel_rfl
theorem fo_25_0 : fieldOff Tryd.prog 25 0 = some 0 := by kernel_rfl
theorem fo_25_1 : fieldOff Tryd.prog 25 1 = some 1 := by kernel_rfl
theorem ag_29 : aggT Tryd.prog 29 = some false := by kernel_rfl
theorem fo_70_0 : fieldOff Tryd.prog 70 0 = some 0 := by kernel_rfl
theorem ag_68 : aggT Tryd.prog 68 = some false := by kernel_rfl
theorem un_68 : Tryd.prog.underlying 68 = some (.pointer 70) := by kernel_rfl
theorem us_113 : unsafeT Tryd.prog 113 = true := by kernel_rfl
theorem ti_70 : tinfo Tryd.prog 70 = some (Value.agg #[Value.pointer none, Value.slice none 0 0], 2, 32) := by kernel_rfl
theorem li_70_2_0_70 : liesAt Tryd.prog Tryd.prog.depth 70 (2 / Tryd.prog.cellsOf 70) 0 70 1 = true := by kernel_rfl
theorem ti_68 : tinfo Tryd.prog 68 = some (Value.pointer none, 1, 8) := by kernel_rfl
theorem fo_70_1 : fieldOff Tryd.prog 70 1 = some 1 := by kernel_rfl
theorem un_88 : Tryd.prog.underlying 88 = some (.pointer 5) := by kernel_rfl
theorem ce_5 : Tryd.prog.cellsOf 5 = 1 := by kernel_rfl
theorem ag_5 : aggT Tryd.prog 5 = some false := by kernel_rfl
theorem ti_36 : tinfo Tryd.prog 36 = some (Value.agg #[Value.int .i64 (0), Value.int .i64 (0), strV (([] : List UInt8)), Value.slice none 0 0], 4, 56) := by kernel_rfl
theorem ag_36 : aggT Tryd.prog 36 = some true := by kernel_rfl
theorem fo_36_0 : fieldOff Tryd.prog 36 0 = some 0 := by kernel_rfl
theorem fo_36_2 : fieldOff Tryd.prog 36 2 = some 2 := by kernel_rfl
theorem fo_36_1 : fieldOff Tryd.prog 36 1 = some 1 := by kernel_rfl
theorem fo_36_3 : fieldOff Tryd.prog 36 3 = some 3 := by kernel_rfl
theorem un_44 : Tryd.prog.underlying 44 = some (.slice 25) := by kernel_rfl
theorem ti_39 : tinfo Tryd.prog 39 = some (Value.agg #[Value.int .i64 (0), Value.int .i64 (0), Value.int .i64 (0)], 3, 24) := by kernel_rfl
theorem un_40 : Tryd.prog.underlying 40 = some (.slice 36) := by kernel_rfl
theorem ar_39 : arrayT Tryd.prog 39 = some (3, 3) := by kernel_rfl
theorem un_4 : Tryd.prog.underlying 4 = some (.bool) := by kernel_rfl
theorem ag_39 : aggT Tryd.prog 39 = some true := by kernel_rfl
theorem ea_39 : eqArr Tryd.prog 39 = some (3, .i64) := by kernel_rfl

def unicode_utf8_RuneCountInString (p1 : List UInt8) : Option Int := do
  none
def unicode_utf8_decodeRuneInStringSlow (p1 : List UInt8) : Option (Int × Int) := do
  if (decide (((p1.length : Int)) < 1)) = true then (do
      some ((65533, 0)))
  else (do
      let c3 ← ix p1 0
      none)
def unicode_utf8_DecodeRuneInString (p1 : List UInt8) : Option (Int × Int) := do
  let x2 ← (do
      if (p1 != ([] : List UInt8)) = true then (do
          let c5 ← ix p1 0
          some (decide (c5 < 128)))
      else (do
          some false) : Option Bool)
  if (x2) = true then (do
      let c8 ← ix p1 0
      some ((IntKind.i32.wrap (b8 c8), 1)))
  else (do
      let y10 ← unicode_utf8_decodeRuneInStringSlow p1
      some ((y10.1, y10.2)))
def strings_explode_l1 (x7 : Int) (x22 : Int) (x23 : List UInt8) (x24 : List (List UInt8)) : Option ((List UInt8) × (List (List UInt8))) := do
  if (decide (x22 < (w64 (x7 - 1)))) = true then (do
      let y29 ← unicode_utf8_DecodeRuneInString x23
      let s33 ← cutL x23 0 y29.2
      let e35 ← ix x24 x22
      let s45 ← cutL x23 y29.2 ((x23.length : Int))
      strings_explode_l1 x7 (w64 (x22 + 1)) s45 (x24.set x22.toNat s33))
  else (do
      some ((x23, x24)))
  partial_fixpoint
def strings_explode (p1 : List UInt8) (p2 : Int) : Option (List (List UInt8)) := do
  let y3 ← unicode_utf8_RuneCountInString p1
  let x7 ← (do
      let x9 ← (do
          if (decide (p2 < 0)) = true then (do
              some true)
          else (do
              some (decide (p2 > y3))) : Option Bool)
      if (x9) = true then (do
          some y3)
      else (do
          some p2) : Option Int)
  let _ ← req (0 ≤ x7 ∧ x7 ≤ x7 ∧ x7 * 16 ≤ 140737488355328 ∧ x7 ≤ 9223372036854775807)
  let o25 ← strings_explode_l1 x7 0 p1 (List.replicate x7.toNat (([] : List UInt8) : List UInt8))
  let x47 ← (do
      if (decide (x7 > 0)) = true then (do
          let e50 ← ix o25.2 (w64 (x7 - 1))
          some (o25.2.set ((w64 (x7 - 1))).toNat o25.1))
      else (do
          some o25.2) : Option (List (List UInt8)))
  some x47
def internal_stringslite_IndexByte (p1 : List UInt8) (p2 : UInt8) : Option Int := do
  some (idxB p1 p2)
def internal_bytealg_Cutover (p1 : Int) : Option Int := do
  let q2 ← iquo (w64 (p1 + 16)) 8
  some q2
def internal_bytealg_hashStr_string (p1 : List UInt8) : Option (Int × Int) := do
  none
def internal_bytealg_IndexRabinKarp_string (p1 : List UInt8) (p2 : List UInt8) : Option Int := do
  let y3 ← internal_bytealg_hashStr_string p2
  none
def internal_stringslite_Index (p1 : List UInt8) (p2 : List UInt8) : Option Int := do
  let x3 ← (do
      if (((p2.length : Int)) == 0) = true then (do
          some true)
      else (do
          some (p2 == p1)) : Option Bool)
  if (x3) = true then (do
      some 0)
  else (do
      if (((p2.length : Int)) == 1) = true then (do
          let c8 ← ix p2 0
          let y10 ← internal_stringslite_IndexByte p1 c8
          some y10)
      else (do
          if (decide (((p2.length : Int)) ≥ ((p1.length : Int)))) = true then (do
              some ((-1)))
          else (do
              none)))
def strings_Index (p1 : List UInt8) (p2 : List UInt8) : Option Int := do
  let y3 ← internal_stringslite_Index p1 p2
  some y3
def strings_Count_l1 (p2 : List UInt8) (x16 : Int) (x17 : List UInt8) : Option Int := do
  let y21 ← strings_Index x17 p2
  if (y21 == ((-1))) = true then (do
      some x16)
  else (do
      let s26 ← cutL x17 ((w64 (y21 + ((p2.length : Int))))) ((x17.length : Int))
      strings_Count_l1 p2 (w64 (x16 + 1)) s26)
  partial_fixpoint
def strings_Count (p1 : List UInt8) (p2 : List UInt8) : Option Int := do
  if (((p2.length : Int)) == 0) = true then (do
      let y4 ← unicode_utf8_RuneCountInString p1
      some (w64 (y4 + 1)))
  else (do
      if (((p2.length : Int)) == 1) = true then (do
          let c9 ← ix p2 0
          some (cntB p1 c9))
      else (do
          let o18 ← strings_Count_l1 p2 0 p1
          some o18))
def strings_genSplit_l1 (p1 : List UInt8) (x14 : Int) (p2 : List UInt8) (p3 : Int) (x33 : Int) (x34 : List UInt8) (x35 : List (List UInt8)) : Option ((List UInt8) × Int × (List (List UInt8))) := do
  if (decide (x33 < (w64 ((if w64 (((p1.length : Int)) + 1) < x14 then w64 (((p1.length : Int)) + 1) else x14) - 1)))) = true then (do
      let y40 ← strings_Index x34 p2
      if (decide (y40 < 0)) = true then (do
          some ((x34, x33, x35)))
      else (do
          let s45 ← cutL x34 0 ((w64 (y40 + p3)))
          let e47 ← ix x35 x33
          let s57 ← cutL x34 ((w64 (y40 + ((p2.length : Int))))) ((x34.length : Int))
          strings_genSplit_l1 p1 x14 p2 p3 (w64 (x33 + 1)) s57 (x35.set x33.toNat s45)))
  else (do
      some ((x34, x33, x35)))
  partial_fixpoint
def strings_genSplit (p1 : List UInt8) (p2 : List UInt8) (p3 : Int) (p4 : Int) : Option (List (List UInt8)) := do
  if (p4 == 0) = true then (do
      some (([] : List (List UInt8))))
  else (do
      if (p2 == ([] : List UInt8)) = true then (do
          let y7 ← strings_explode p1 p4
          some y7)
      else (do
          let x14 ← (do
              if (decide (p4 < 0)) = true then (do
                  let y17 ← strings_Count p1 p2
                  some (w64 (y17 + 1)))
              else (do
                  some p4) : Option Int)
          let _ ← req (0 ≤ (if w64 (((p1.length : Int)) + 1) < x14 then w64 (((p1.length : Int)) + 1) else x14) ∧ (if w64 (((p1.length : Int)) + 1) < x14 then w64 (((p1.length : Int)) + 1) else x14) ≤ (if w64 (((p1.length : Int)) + 1) < x14 then w64 (((p1.length : Int)) + 1) else x14) ∧ (if w64 (((p1.length : Int)) + 1) < x14 then w64 (((p1.length : Int)) + 1) else x14) * 16 ≤ 140737488355328 ∧ (if w64 (((p1.length : Int)) + 1) < x14 then w64 (((p1.length : Int)) + 1) else x14) ≤ 9223372036854775807)
          let x25 ← (do
              let o36 ← strings_genSplit_l1 p1 x14 p2 p3 0 p1 (List.replicate (if w64 (((p1.length : Int)) + 1) < x14 then w64 (((p1.length : Int)) + 1) else x14).toNat (([] : List UInt8) : List UInt8))
              some ((o36.1, o36.2.1, o36.2.2)) : Option ((List UInt8) × Int × (List (List UInt8))))
          let e59 ← ix x25.2.2 x25.2.1
          let s69 ← cutL (x25.2.2.set x25.2.1.toNat x25.1) 0 ((w64 (x25.2.1 + 1)))
          some ((x25.2.2.set x25.2.1.toNat x25.1).take (((w64 (x25.2.1 + 1))).toNat))))
def strings_Split (p1 : List UInt8) (p2 : List UInt8) : Option (List (List UInt8)) := do
  let y3 ← strings_genSplit p1 p2 0 ((-1))
  some y3
def strings_IndexByte (p1 : List UInt8) (p2 : UInt8) : Option Int := do
  let y3 ← internal_stringslite_IndexByte p1 p2
  some y3
def raw_read_l1 (p1 : List UInt8) (x16 : Int) (x17 : List UInt8) : Option (Sum (List UInt8) (List UInt8)) := do
  if (decide (x16 < ((p1.length : Int)))) = true then (do
      let c28 ← ix p1 x16
      let c30 ← ix p1 (w64 (x16 + 1))
      let y32 ← strings_IndexByte ([48, 49, 50, 51, 52, 53, 54, 55, 56, 57, 97, 98, 99, 100, 101, 102] : List UInt8) c28
      let y36 ← strings_IndexByte ([48, 49, 50, 51, 52, 53, 54, 55, 56, 57, 97, 98, 99, 100, 101, 102] : List UInt8) c30
      let x40 ← (do
          if (decide (y32 < 0)) = true then (do
              some true)
          else (do
              some (decide (y36 < 0))) : Option Bool)
      if (x40) = true then (do
          some (Sum.inr x17))
      else (do
          let _ ← req ((x17.length + ([toB (or64 (w64 (y32 * 2 ^ 4)) y36)] : List UInt8).length) * 1 ≤ 140737488355328 ∧ x17.length + ([toB (or64 (w64 (y32 * 2 ^ 4)) y36)] : List UInt8).length ≤ 9223372036854775807)
          raw_read_l1 p1 (w64 (x16 + 2)) (x17 ++ ([toB (or64 (w64 (y32 * 2 ^ 4)) y36)] : List UInt8))))
  else (do
      some (Sum.inl x17))
  partial_fixpoint
def raw_read (p1 : List UInt8) : Option ((List UInt8) × Bool) := do
  if (p1 == ([45] : List UInt8)) = true then (do
      some ((([] : List UInt8), true)))
  else (do
      let x3 ← (do
          if (p1 == ([] : List UInt8)) = true then (do
              some true)
          else (do
              let q6 ← irem ((p1.length : Int)) 2
              some (q6 != 0)) : Option Bool)
      if (x3) = true then (do
          some ((([] : List UInt8), false)))
      else (do
          let o19 ← raw_read_l1 p1 0 ([] : List UInt8)
          match o19 with
          | Sum.inl x22 => do
              some ((x22, true))
          | Sum.inr x25 => do
              some ((([] : List UInt8), false))))
def raw_number (p1 : List UInt8) : Option (Int × Bool) := do
  let y2 ← strconv_ParseUint p1 10 16
  let x8 ← (do
      if (y2.2) = true then (do
          if (decide (((p1.length : Int)) ≤ 4)) = true then (do
              if (((p1.length : Int)) == 1) = true then (do
                  some true)
              else (do
                  let c13 ← ix p1 0
                  some (c13 != 48)))
          else (do
              some false))
      else (do
          some false) : Option Bool)
  some ((IntKind.i64.wrap y2.1, x8))
def raw_marks_l1 (y3 : List (List UInt8)) (x15 : Int) (x16 : List Int) : Option (Sum (List Int) (List Int)) := do
  if (decide (x15 < ((y3.length : Int)))) = true then (do
      let e27 ← ix y3 x15
      let y37 ← raw_number e27
      if (!y37.2) = true then (do
          some (Sum.inr x16))
      else (do
          let _ ← req ((x16.length + (([y37.1] : List Int)).length) * 8 ≤ 140737488355328 ∧ x16.length + (([y37.1] : List Int)).length ≤ 9223372036854775807)
          raw_marks_l1 y3 (w64 (x15 + 1)) (x16 ++ (([y37.1] : List Int)))))
  else (do
      some (Sum.inl x16))
  partial_fixpoint
def raw_marks (p1 : List UInt8) : Option ((List Int) × Bool) := do
  let y3 ← strings_Split p1 ([44] : List UInt8)
  let o18 ← raw_marks_l1 y3 0 (([] : List Int))
  match o18 with
  | Sum.inl x21 => do
      some ((x21, true))
  | Sum.inr x24 => do
      some ((([] : List Int), false))
def raw_came (p1 : List (List UInt8)) : Option (raw_Event × Bool) := do
  let x8 ← (do
      if (((p1.length : Int)) == 2) = true then (do
          some true)
      else (do
          let x11 ← (do
              if (((p1.length : Int)) == 4) = true then (do
                  let e14 ← ix p1 2
                  some (e14 == ([109, 97, 114, 107, 115] : List UInt8)))
              else (do
                  some false) : Option Bool)
          some x11) : Option Bool)
  if (!x8) = true then (do
      some (((⟨1, 0, ([] : List UInt8), ([] : List Int)⟩ : raw_Event), false)))
  else (do
      let e25 ← ix p1 1
      let y35 ← raw_read e25
      let x42 ← (do
          let x46 ← (do
              if (y35.2) = true then (do
                  some (((p1.length : Int)) == 4))
              else (do
                  some false) : Option Bool)
          if (x46) = true then (do
              let e50 ← ix p1 3
              let y60 ← raw_marks e50
              some ((y60.2, y60.1)))
          else (do
              some ((y35.2, ([] : List Int)))) : Option (Bool × (List Int)))
      some (((⟨1, 0, y35.1, x42.2⟩ : raw_Event), x42.1)))
def raw_counted (p1 : Int) (p2 : List (List UInt8)) : Option (raw_Event × Bool) := do
  if (((p2.length : Int)) != 2) = true then (do
      some (((⟨0, 0, ([] : List UInt8), ([] : List Int)⟩ : raw_Event), false)))
  else (do
      let e8 ← ix p2 1
      let y18 ← raw_number e8
      some (((⟨p1, y18.1, ([] : List UInt8), ([] : List Int)⟩ : raw_Event), y18.2)))
def raw_event (p1 : List (List UInt8)) : Option (raw_Event × Bool) := do
  let e6 ← ix p1 0
  if (e6 == ([98, 121, 116, 101, 115] : List UInt8)) = true then (do
      let y17 ← raw_came p1
      some (((⟨y17.1.f_Kind, y17.1.f_N, y17.1.f_Bytes, y17.1.f_Marks⟩ : raw_Event), y17.2)))
  else (do
      if (e6 == ([103, 114, 97, 110, 116] : List UInt8)) = true then (do
          let y26 ← raw_counted 2 p1
          some (((⟨y26.1.f_Kind, y26.1.f_N, y26.1.f_Bytes, y26.1.f_Marks⟩ : raw_Event), y26.2)))
      else (do
          if (e6 == ([116, 105, 99, 107] : List UInt8)) = true then (do
              let y35 ← raw_counted 3 p1
              some (((⟨y35.1.f_Kind, y35.1.f_N, y35.1.f_Bytes, y35.1.f_Marks⟩ : raw_Event), y35.2)))
          else (do
              if (e6 == ([99, 108, 111, 115, 101] : List UInt8)) = true then (do
                  some (((⟨4, 0, ([] : List UInt8), ([] : List Int)⟩ : raw_Event), ((p1.length : Int)) == 1)))
              else (do
                  some (((⟨0, 0, ([] : List UInt8), ([] : List Int)⟩ : raw_Event), false))))))
def raw_Event_marked_l1 (p1 : raw_Event) (x12 : Int) : Option (Sum Unit Unit) := do
  if (decide (x12 < ((p1.f_Marks.length : Int)))) = true then (do
      let e20 ← ix p1.f_Marks x12
      let x30 ← (do
          if (decide (e20 < 0)) = true then (do
              some true)
          else (do
              some (decide (e20 ≥ ((p1.f_Bytes.length : Int))))) : Option Bool)
      let x33 ← (do
          if (x30) = true then (do
              some true)
          else (do
              let x36 ← (do
                  if (decide (x12 > 0)) = true then (do
                      let e39 ← ix p1.f_Marks (w64 (x12 - 1))
                      some (decide (e20 ≤ e39)))
                  else (do
                      some false) : Option Bool)
              some x36) : Option Bool)
      if (x33) = true then (do
          some (Sum.inr (())))
      else (do
          raw_Event_marked_l1 p1 (w64 (x12 + 1))))
  else (do
      some (Sum.inl (())))
  partial_fixpoint
def raw_Event_marked (p1 : raw_Event) : Option Bool := do
  let o13 ← raw_Event_marked_l1 p1 0
  match o13 with
  | Sum.inl x16 => do
      some true
  | Sum.inr x18 => do
      some false
def raw_Right (p1 : raw_Event) : Option Bool := do
  let k8 := fun (_ : Unit) => (do
      some false)
  if (p1.f_Kind == 1) = true then (do
      let x11 ← (do
          if (p1.f_N == 0) = true then (do
              some (decide (((p1.f_Bytes.length : Int)) ≤ 1024)))
          else (do
              some false) : Option Bool)
      let x15 ← (do
          if (x11) = true then (do
              let y18 ← raw_Event_marked p1
              some y18)
          else (do
              some false) : Option Bool)
      some x15)
  else (do
      let x22 ← (do
          if (p1.f_Kind == 2) = true then (do
              some (p1.f_Kind == 2))
          else (do
              some (p1.f_Kind == 3)) : Option Bool)
      if (x22) = true then (do
          let x26 ← (do
              if (decide (p1.f_N ≥ 0)) = true then (do
                  some (decide (p1.f_N ≤ 9999)))
              else (do
                  some false) : Option Bool)
          let x29 ← (do
              if (x26) = true then (do
                  some ((w64 (((p1.f_Bytes.length : Int)) + ((p1.f_Marks.length : Int)))) == 0))
              else (do
                  some false) : Option Bool)
          some x29)
      else (do
          if (p1.f_Kind == 4) = true then (do
              let x33 ← (do
                  if (p1.f_N == 0) = true then (do
                      some ((w64 (((p1.f_Bytes.length : Int)) + ((p1.f_Marks.length : Int)))) == 0))
                  else (do
                      some false) : Option Bool)
              some x33)
          else (do
              k8 ())))
def raw_Parse (p1 : List UInt8) : Option (raw_Event × (Option Nat)) := do
  let y4 ← strings_Split p1 ([32] : List UInt8)
  let y10 ← raw_event y4
  let x21 ← (do
      if (!y10.2) = true then (do
          some true)
      else (do
          let y24 ← raw_Right ((⟨y10.1.f_Kind, y10.1.f_N, y10.1.f_Bytes, y10.1.f_Marks⟩ : raw_Event))
          some (!y24)) : Option Bool)
  if (x21) = true then (do
      some (((⟨0, 0, ([] : List UInt8), ([] : List Int)⟩ : raw_Event), (some 0 : Option Nat))))
  else (do
      some (((⟨y10.1.f_Kind, y10.1.f_N, y10.1.f_Bytes, y10.1.f_Marks⟩ : raw_Event), (none : Option Nat))))
def Num_SameInts_l1 (p1 : List Int) (p4 : List Int) (x12 : Int) : Option (Sum Unit Unit) := do
  if (decide (x12 < ((p1.length : Int)))) = true then (do
      let e20 ← ix p1 x12
      let e30 ← ix p4 x12
      if (e20 != e30) = true then (do
          some (Sum.inr (())))
      else (do
          Num_SameInts_l1 p1 p4 (w64 (x12 + 1))))
  else (do
      some (Sum.inl (())))
  partial_fixpoint
def Num_SameInts (p1 : List Int) (p4 : List Int) : Option Bool := do
  if (((p1.length : Int)) != ((p4.length : Int))) = true then (do
      some false)
  else (do
      let o13 ← Num_SameInts_l1 p1 p4 0
      match o13 with
      | Sum.inl x16 => do
          some true
      | Sum.inr x18 => do
          some false)
def strings_Builder_copyCheck (p1 : List UInt8) : Option (List UInt8) := do
  some p1
def strings_Builder_WriteByte (p1 : List UInt8) (p7 : UInt8) : Option ((Option Nat) × (List UInt8)) := do
  let y8 ← strings_Builder_copyCheck p1
  let _ ← req ((y8.length + ([p7] : List UInt8).length) * 1 ≤ 140737488355328 ∧ y8.length + ([p7] : List UInt8).length ≤ 9223372036854775807)
  some (((none : Option Nat), y8 ++ ([p7] : List UInt8)))
def strings_Builder_String (p1 : List UInt8) : Option (List UInt8) := do
  some p1
def raw_told_l1 (p1 : List UInt8) (x16 : Int) (x19 : List UInt8) : Option (List UInt8) := do
  if (decide (x16 < ((p1.length : Int)))) = true then (do
      let e28 ← ix p1 x16
      let c38 ← ix ([48, 49, 50, 51, 52, 53, 54, 55, 56, 57, 97, 98, 99, 100, 101, 102] : List UInt8) (b8 (shr8 e28 4))
      let y40 ← strings_Builder_WriteByte x19 c38
      let c48 ← ix ([48, 49, 50, 51, 52, 53, 54, 55, 56, 57, 97, 98, 99, 100, 101, 102] : List UInt8) (b8 (e28 &&& 15))
      let y50 ← strings_Builder_WriteByte y40.2 c48
      raw_told_l1 p1 (w64 (x16 + 1)) y50.2)
  else (do
      some x19)
  partial_fixpoint
def raw_told (p1 : List UInt8) : Option (List UInt8) := do
  if (((p1.length : Int)) == 0) = true then (do
      some ([45] : List UInt8))
  else (do
      let o21 ← raw_told_l1 p1 0 ([] : List UInt8)
      let y58 ← strings_Builder_String o21
      some y58)
def raw_places_l1 (p1 : List Int) (x11 : Int) (x12 : List (List UInt8)) : Option (List (List UInt8)) := do
  if (decide (x11 < ((p1.length : Int)))) = true then (do
      let e19 ← ix p1 x11
      let y29 ← strconv_Itoa e19
      let _ ← req ((x12.length + [y29].length) * 16 ≤ 140737488355328 ∧ x12.length + [y29].length ≤ 9223372036854775807)
      raw_places_l1 p1 (w64 (x11 + 1)) (x12 ++ [y29]))
  else (do
      some x12)
  partial_fixpoint
def raw_places (p1 : List Int) : Option (List UInt8) := do
  let o14 ← raw_places_l1 p1 0 (([] : List (List UInt8)))
  let y45 ← strings_Join o14 ([44] : List UInt8)
  some y45
def raw_Line (p1 : raw_Event) : Option (List UInt8) := do
  let y8 ← raw_Right p1
  if (!y8) = true then (do
      some ([] : List UInt8))
  else (do
      if (p1.f_Kind == 2) = true then (do
          let y14 ← strconv_Itoa p1.f_N
          let _ ← req (([103, 114, 97, 110, 116, 32] : List UInt8).length + y14.length ≤ 9223372036854775807)
          some (([103, 114, 97, 110, 116, 32] : List UInt8) ++ y14))
      else (do
          if (p1.f_Kind == 3) = true then (do
              let y20 ← strconv_Itoa p1.f_N
              let _ ← req (([116, 105, 99, 107, 32] : List UInt8).length + y20.length ≤ 9223372036854775807)
              some (([116, 105, 99, 107, 32] : List UInt8) ++ y20))
          else (do
              if (p1.f_Kind == 4) = true then (do
                  some ([99, 108, 111, 115, 101] : List UInt8))
              else (do
                  if (((p1.f_Marks.length : Int)) == 0) = true then (do
                      let y27 ← raw_told p1.f_Bytes
                      let _ ← req (([98, 121, 116, 101, 115, 32] : List UInt8).length + y27.length ≤ 9223372036854775807)
                      some (([98, 121, 116, 101, 115, 32] : List UInt8) ++ y27))
                  else (do
                      let y32 ← raw_told p1.f_Bytes
                      let _ ← req (([98, 121, 116, 101, 115, 32] : List UInt8).length + y32.length ≤ 9223372036854775807)
                      let _ ← req ((([98, 121, 116, 101, 115, 32] : List UInt8) ++ y32).length + ([32, 109, 97, 114, 107, 115, 32] : List UInt8).length ≤ 9223372036854775807)
                      let y38 ← raw_places p1.f_Marks
                      let _ ← req (((([98, 121, 116, 101, 115, 32] : List UInt8) ++ y32) ++ ([32, 109, 97, 114, 107, 115, 32] : List UInt8)).length + y38.length ≤ 9223372036854775807)
                      some (((([98, 121, 116, 101, 115, 32] : List UInt8) ++ y32) ++ ([32, 109, 97, 114, 107, 115, 32] : List UInt8)) ++ y38))))))
def Law_alive : Option Bool := do
  let y1 ← raw_Parse ([98, 121, 116, 101, 115, 32, 54, 49, 54, 50, 32, 109, 97, 114, 107, 115, 32, 49] : List UInt8)
  let x11 ← (do
      if (y1.2.isNone) = true then (do
          some (y1.1.f_Kind == 1))
      else (do
          some false) : Option Bool)
  let x14 ← (do
      if (x11) = true then (do
          some (y1.1.f_Bytes == ([97, 98] : List UInt8)))
      else (do
          some false) : Option Bool)
  let x18 ← (do
      if (x14) = true then (do
          let y24 ← Num_SameInts y1.1.f_Marks (([1] : List Int))
          some y24)
      else (do
          some false) : Option Bool)
  let x29 ← (do
      if (x18) = true then (do
          let y32 ← raw_Line ((⟨y1.1.f_Kind, y1.1.f_N, y1.1.f_Bytes, y1.1.f_Marks⟩ : raw_Event))
          some (y32 == ([98, 121, 116, 101, 115, 32, 54, 49, 54, 50, 32, 109, 97, 114, 107, 115, 32, 49] : List UInt8)))
      else (do
          some false) : Option Bool)
  some x29
def Law_long (p1 : raw_Event) : Option Bool := do
  let x8 ← (do
      if (decide (((p1.f_Bytes.length : Int)) > 1100)) = true then (do
          some true)
      else (do
          some (decide (((p1.f_Marks.length : Int)) > 200))) : Option Bool)
  some x8
def Law_Of (p1 : raw_Event) : Option R_Event := do
  some ((⟨p1.f_Kind, p1.f_N, p1.f_Bytes, p1.f_Marks⟩ : R_Event))
def R_Right_l1 (p1 : R_Event) (x37 : Int) (x38 : Int) : Option (Sum Unit Unit) := do
  if (decide (x37 < ((p1.f_Marks.length : Int)))) = true then (do
      let e46 ← ix p1.f_Marks x37
      let x56 ← (do
          if (decide (e46 ≤ x38)) = true then (do
              some true)
          else (do
              some (decide (e46 ≥ ((p1.f_Bytes.length : Int))))) : Option Bool)
      if (x56) = true then (do
          some (Sum.inr (())))
      else (do
          R_Right_l1 p1 (w64 (x37 + 1)) e46))
  else (do
      some (Sum.inl (())))
  partial_fixpoint
def R_Right (p1 : R_Event) : Option Bool := do
  let x6 ← (do
      if (decide (p1.f_Kind < 1)) = true then (do
          some true)
      else (do
          some (decide (p1.f_Kind > 4))) : Option Bool)
  let x9 ← (do
      if (x6) = true then (do
          some true)
      else (do
          some (decide (((p1.f_Bytes.length : Int)) > 1024))) : Option Bool)
  let x12 ← (do
      if (x9) = true then (do
          some true)
      else (do
          some (decide (p1.f_N < 0))) : Option Bool)
  let x15 ← (do
      if (x12) = true then (do
          some true)
      else (do
          some (decide (p1.f_N > 9999))) : Option Bool)
  if (x15) = true then (do
      some false)
  else (do
      let x19 ← (do
          if (p1.f_Kind != 1) = true then (do
              some (decide ((w64 (((p1.f_Bytes.length : Int)) + ((p1.f_Marks.length : Int)))) > 0)))
          else (do
              some false) : Option Bool)
      let x22 ← (do
          if (x19) = true then (do
              some true)
          else (do
              let x25 ← (do
                  if (p1.f_Kind == 1) = true then (do
                      some true)
                  else (do
                      some (p1.f_Kind == 4)) : Option Bool)
              let x28 ← (do
                  if (x25) = true then (do
                      some (p1.f_N != 0))
                  else (do
                      some false) : Option Bool)
              some x28) : Option Bool)
      if (x22) = true then (do
          some false)
      else (do
          let o39 ← R_Right_l1 p1 0 ((-1))
          match o39 with
          | Sum.inl x42 => do
              some true
          | Sum.inr x44 => do
              some false))
def Num_Figures_l1 (x11 : Int) (x12 : List UInt8) : Option (List UInt8) := do
  if (x11 != 0) = true then (do
      let q17 ← irem x11 10
      let x19 ← (do
          if (decide (q17 < 0)) = true then (do
              some (w64 (0 - q17)))
          else (do
              some q17) : Option Int)
      let s22 ← cutL ([48, 49, 50, 51, 52, 53, 54, 55, 56, 57] : List UInt8) x19 ((w64 (x19 + 1)))
      let _ ← req (s22.length + x12.length ≤ 9223372036854775807)
      let q25 ← iquo x11 10
      Num_Figures_l1 q25 (s22 ++ x12))
  else (do
      some x12)
  partial_fixpoint
def Num_Figures (p1 : Int) : Option (List UInt8) := do
  if (p1 == 0) = true then (do
      some ([48] : List UInt8))
  else (do
      let x3 ← (do
          if (decide (p1 < 0)) = true then (do
              some ([45] : List UInt8))
          else (do
              some ([] : List UInt8)) : Option (List UInt8))
      let o13 ← Num_Figures_l1 p1 ([] : List UInt8)
      let _ ← req (x3.length + o13.length ≤ 9223372036854775807)
      some (x3 ++ o13))
def R_Line_l1 (p1 : R_Event) (x24 : Int) (x25 : List UInt8) : Option (List UInt8) := do
  if (decide (x24 < ((p1.f_Bytes.length : Int)))) = true then (do
      let c30 ← ix p1.f_Bytes x24
      let q32 ← iquo (b8 c30) 16
      let c34 ← ix p1.f_Bytes x24
      let q36 ← irem (b8 c34) 16
      let s38 ← cutL ([48, 49, 50, 51, 52, 53, 54, 55, 56, 57, 97, 98, 99, 100, 101, 102] : List UInt8) q32 ((w64 (q32 + 1)))
      let s40 ← cutL ([48, 49, 50, 51, 52, 53, 54, 55, 56, 57, 97, 98, 99, 100, 101, 102] : List UInt8) q36 ((w64 (q36 + 1)))
      let _ ← req (s38.length + s40.length ≤ 9223372036854775807)
      let _ ← req (x25.length + (s38 ++ s40).length ≤ 9223372036854775807)
      R_Line_l1 p1 (w64 (x24 + 1)) (x25 ++ (s38 ++ s40)))
  else (do
      some x25)
  partial_fixpoint
def R_Line_l2 (p1 : R_Event) (x53 : Int) (x54 : List UInt8) : Option (List UInt8) := do
  if (decide (x53 < ((p1.f_Marks.length : Int)))) = true then (do
      let x60 ← (do
          let e62 ← ix p1.f_Marks x53
          let x72 ← (do
              if (x53 == 0) = true then (do
                  let _ ← req (x54.length + ([32, 109, 97, 114, 107, 115, 32] : List UInt8).length ≤ 9223372036854775807)
                  some (x54 ++ ([32, 109, 97, 114, 107, 115, 32] : List UInt8)))
              else (do
                  let _ ← req (x54.length + ([44] : List UInt8).length ≤ 9223372036854775807)
                  some (x54 ++ ([44] : List UInt8))) : Option (List UInt8))
          let y77 ← Num_Figures e62
          let _ ← req (x72.length + y77.length ≤ 9223372036854775807)
          some (x72 ++ y77) : Option (List UInt8))
      R_Line_l2 p1 (w64 (x53 + 1)) x60)
  else (do
      some x54)
  partial_fixpoint
def R_Line (p1 : R_Event) : Option (List UInt8) := do
  if (p1.f_Kind == 2) = true then (do
      let y7 ← Num_Figures p1.f_N
      let _ ← req (([103, 114, 97, 110, 116, 32] : List UInt8).length + y7.length ≤ 9223372036854775807)
      some (([103, 114, 97, 110, 116, 32] : List UInt8) ++ y7))
  else (do
      if (p1.f_Kind == 3) = true then (do
          let y13 ← Num_Figures p1.f_N
          let _ ← req (([116, 105, 99, 107, 32] : List UInt8).length + y13.length ≤ 9223372036854775807)
          some (([116, 105, 99, 107, 32] : List UInt8) ++ y13))
      else (do
          if (p1.f_Kind == 4) = true then (do
              some ([99, 108, 111, 115, 101] : List UInt8))
          else (do
              let o26 ← R_Line_l1 p1 0 ([98, 121, 116, 101, 115, 32] : List UInt8)
              let x44 ← (do
                  if (((p1.f_Bytes.length : Int)) == 0) = true then (do
                      let _ ← req (o26.length + ([45] : List UInt8).length ≤ 9223372036854775807)
                      some (o26 ++ ([45] : List UInt8)))
                  else (do
                      some o26) : Option (List UInt8))
              let o55 ← R_Line_l2 p1 0 x44
              some o55)))
def raw_Sum_l1 (p1 : List raw_Event) (x11 : Int) (x12 : Int) (x13 : Int) (x14 : Int) : Option (Int × Int × Int) := do
  if (decide (x11 < ((p1.length : Int)))) = true then (do
      let x20 ← (do
          let e22 ← ix p1 x11
          let y38 ← raw_Right e22
          if (!y38) = true then (do
              some ((x14, x13, x12)))
          else (do
              if (e22.f_Kind == 2) = true then (do
                  some ((w64 (x14 + ((e22.f_Bytes.length : Int))), w64 (x13 + e22.f_N), x12)))
              else (do
                  if (e22.f_Kind == 3) = true then (do
                      some ((w64 (x14 + ((e22.f_Bytes.length : Int))), x13, w64 (x12 + e22.f_N))))
                  else (do
                      some ((w64 (x14 + ((e22.f_Bytes.length : Int))), x13, x12))))) : Option (Int × Int × Int))
      raw_Sum_l1 p1 (w64 (x11 + 1)) x20.2.2 x20.2.1 x20.1)
  else (do
      some ((x14, x13, x12)))
  partial_fixpoint
def raw_Sum (p1 : List raw_Event) : Option (Int × Int × Int) := do
  let o15 ← raw_Sum_l1 p1 0 0 0 0
  some ((o15.1, o15.2.1, o15.2.2))
def bytes_Equal (p1 : List UInt8) (p4 : List UInt8) : Option Bool := do
  some (p1 == p4)
def slices_Equal_int_int_l1 (p1 : List Int) (p4 : List Int) (x12 : Int) : Option (Sum Unit Unit) := do
  if (decide (x12 < ((p1.length : Int)))) = true then (do
      let e20 ← ix p1 x12
      let e30 ← ix p4 x12
      if (e20 != e30) = true then (do
          some (Sum.inr (())))
      else (do
          slices_Equal_int_int_l1 p1 p4 (w64 (x12 + 1))))
  else (do
      some (Sum.inl (())))
  partial_fixpoint
def slices_Equal_int_int (p1 : List Int) (p4 : List Int) : Option Bool := do
  if (((p1.length : Int)) != ((p4.length : Int))) = true then (do
      some false)
  else (do
      let o13 ← slices_Equal_int_int_l1 p1 p4 0
      match o13 with
      | Sum.inl x16 => do
          some true
      | Sum.inr x18 => do
          some false)
def raw_Same (p1 : raw_Event) (p6 : raw_Event) : Option Bool := do
  let x15 ← (do
      if (p1.f_Kind == p6.f_Kind) = true then (do
          some (p1.f_N == p6.f_N))
      else (do
          some false) : Option Bool)
  let x19 ← (do
      if (x15) = true then (do
          let y22 ← bytes_Equal p1.f_Bytes p6.f_Bytes
          some y22)
      else (do
          some false) : Option Bool)
  let x27 ← (do
      if (x19) = true then (do
          let y30 ← slices_Equal_int_int p1.f_Marks p6.f_Marks
          some y30)
      else (do
          some false) : Option Bool)
  some x27
def R_Same (p1 : R_Event) (p4 : R_Event) : Option Bool := do
  let x11 ← (do
      if (p1.f_Kind == p4.f_Kind) = true then (do
          some (p1.f_N == p4.f_N))
      else (do
          some false) : Option Bool)
  let x14 ← (do
      if (x11) = true then (do
          some (p1.f_Bytes == p4.f_Bytes))
      else (do
          some false) : Option Bool)
  let x18 ← (do
      if (x14) = true then (do
          let y21 ← Num_SameInts p1.f_Marks p4.f_Marks
          some y21)
      else (do
          some false) : Option Bool)
  some x18
def Law_RawEvents_l1 (x34 : Int × Int × (List UInt8) × (List Int) × Int × Int × (List UInt8) × (List Int)) (x192 : Int) (x193 : Int) (x194 : Int) (x195 : Int) : Option (Int × Int × Int) := do
  if (decide (x192 < (([(⟨x34.1, x34.2.1, x34.2.2.1, x34.2.2.2.1⟩ : R_Event), (⟨x34.2.2.2.2.1, x34.2.2.2.2.2.1, x34.2.2.2.2.2.2.1, x34.2.2.2.2.2.2.2⟩ : R_Event)].length : Int)))) = true then (do
      let x201 ← (do
          let e203 ← ix [(⟨x34.1, x34.2.1, x34.2.2.1, x34.2.2.2.1⟩ : R_Event), (⟨x34.2.2.2.2.1, x34.2.2.2.2.2.1, x34.2.2.2.2.2.2.1, x34.2.2.2.2.2.2.2⟩ : R_Event)] x192
          let y217 ← R_Right e203
          if (y217) = true then (do
              let x222 ← (do
                  if (e203.f_Kind == 2) = true then (do
                      some true)
                  else (do
                      some (e203.f_Kind == 3)) : Option Bool)
              if (x222) = true then (do
                  if ((w64 (e203.f_Kind - 1)) == 0) = true then (do
                      some ((w64 ((w64 (x193 + ((e203.f_Bytes.length : Int)))) + e203.f_N), x194, x195)))
                  else (do
                      if ((w64 (e203.f_Kind - 1)) == 1) = true then (do
                          some ((w64 (x193 + ((e203.f_Bytes.length : Int))), w64 (x194 + e203.f_N), x195)))
                      else (do
                          if ((w64 (e203.f_Kind - 1)) == 2) = true then (do
                              some ((w64 (x193 + ((e203.f_Bytes.length : Int))), x194, w64 (x195 + e203.f_N))))
                          else (do
                              none))))
              else (do
                  some ((w64 (x193 + ((e203.f_Bytes.length : Int))), x194, x195))))
          else (do
              some ((x193, x194, x195))) : Option (Int × Int × Int))
      Law_RawEvents_l1 x34 (w64 (x192 + 1)) x201.1 x201.2.1 x201.2.2)
  else (do
      some ((x193, x194, x195)))
  partial_fixpoint
def Law_RawEvents (p1 : raw_Event) (p6 : raw_Event) : Option Bool := do
  let y15 ← Law_alive
  if (!y15) = true then (do
      some false)
  else (do
      let y20 ← Law_long p1
      let x25 ← (do
          if (y20) = true then (do
              some true)
          else (do
              let y28 ← Law_long p6
              some y28) : Option Bool)
      if (x25) = true then (do
          some true)
      else (do
          let x34 ← (do
              let y44 ← Law_Of p1
              let y50 ← Law_Of p6
              some ((y44.f_Kind, y44.f_N, y44.f_Bytes, y44.f_Marks, y50.f_Kind, y50.f_N, y50.f_Bytes, y50.f_Marks)) : Option (Int × Int × (List UInt8) × (List Int) × Int × Int × (List UInt8) × (List Int)))
          let y176 ← R_Right ((⟨x34.1, x34.2.1, x34.2.2.1, x34.2.2.2.1⟩ : R_Event))
          let o196 ← Law_RawEvents_l1 x34 0 0 0 0
          let x230 ← (do
              if (y176) = true then (do
                  let y233 ← R_Line ((⟨x34.1, x34.2.1, x34.2.2.1, x34.2.2.2.1⟩ : R_Event))
                  some y233)
              else (do
                  some ([] : List UInt8)) : Option (List UInt8))
          let y240 ← raw_Sum [p1, p6]
          let x245 ← (do
              let y247 ← raw_Right p1
              if (y247 == y176) = true then (do
                  let y252 ← raw_Line p1
                  if (y252 == x230) = true then (do
                      let y257 ← raw_Same p1 p6
                      let y261 ← R_Same ((⟨x34.1, x34.2.1, x34.2.2.1, x34.2.2.2.1⟩ : R_Event)) ((⟨x34.2.2.2.2.1, x34.2.2.2.2.2.1, x34.2.2.2.2.2.2.1, x34.2.2.2.2.2.2.2⟩ : R_Event))
                      if (y257 == y261) = true then (do
                          some (([y240.1, y240.2.1, y240.2.2] : List Int) == ([o196.1, o196.2.1, o196.2.2] : List Int)))
                      else (do
                          some false))
                  else (do
                      some false))
              else (do
                  some false) : Option Bool)
          some x245))

end Go.Proofs.YthjfnknhcmhmiaaDoor
