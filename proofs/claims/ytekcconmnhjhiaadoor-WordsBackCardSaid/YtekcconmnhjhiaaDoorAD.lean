/-
  What the code computes: plain functions, and the walks.: the plain functions.
-/
import Derived.Test.YtekcconmnhjhiaaDoorSl14
import Derived.Test.YtekcconmnhjhiaaDoorProg
set_option linter.unusedVariables false
set_option linter.unusedSimpArgs false
set_option maxRecDepth 10000
set_option maxHeartbeats 1000000
namespace Go.Proofs.YtekcconmnhjhiaaDoor
open Go Go.RowKit Sl

structure W_reader where
  f_s : List UInt8
  f_at : Int
def kW_reader : Kd W_reader := Kd.iso (Kd.pair Kd.str (Kd.int .i64)) (fun x => (x.f_s, x.f_at))
theorem kW_reader_open {K : Hp} {x : W_reader} {cs : List Value} (h : kW_reader.rep K x cs) : cs = [strV (x.f_s), Value.int .i64 (x.f_at)] := by
  have h : (Kd.pair Kd.str (Kd.int .i64)).rep K (x.f_s, x.f_at) cs := h
  obtain ⟨c0, d0, rfl, rfl, rfl⟩ := h
  exact rfl
theorem kW_reader_shut {K : Hp} {x : W_reader} : kW_reader.rep K x [strV (x.f_s), Value.int .i64 (x.f_at)] := by
  show (Kd.pair Kd.str (Kd.int .i64)).rep K (x.f_s, x.f_at) [strV (x.f_s), Value.int .i64 (x.f_at)]
  exact ⟨[strV (x.f_s)], [Value.int .i64 (x.f_at)], rfl, rfl, rfl⟩

structure W_Piece where
  f_Var : List UInt8
  f_Lit : List UInt8
def kW_Piece : Kd W_Piece := Kd.iso (Kd.pair Kd.str Kd.str) (fun x => (x.f_Var, x.f_Lit))
theorem kW_Piece_open {K : Hp} {x : W_Piece} {cs : List Value} (h : kW_Piece.rep K x cs) : cs = [strV (x.f_Var), strV (x.f_Lit)] := by
  have h : (Kd.pair Kd.str Kd.str).rep K (x.f_Var, x.f_Lit) cs := h
  obtain ⟨c0, d0, rfl, rfl, rfl⟩ := h
  exact rfl
theorem kW_Piece_shut {K : Hp} {x : W_Piece} : kW_Piece.rep K x [strV (x.f_Var), strV (x.f_Lit)] := by
  show (Kd.pair Kd.str Kd.str).rep K (x.f_Var, x.f_Lit) [strV (x.f_Var), strV (x.f_Lit)]
  exact ⟨[strV (x.f_Var)], [strV (x.f_Lit)], rfl, rfl, rfl⟩

structure W_Token where
  f_Kind : Int
  f_Text : List UInt8
  f_Number : Int
  f_Pieces : List W_Piece
  f_At : Int
def kW_Token : Kd W_Token := Kd.iso (Kd.pair (Kd.int .i64) (Kd.pair Kd.str (Kd.pair (Kd.int .i64) (Kd.pair (Kd.slice kW_Piece) (Kd.int .i64))))) (fun x => (x.f_Kind, (x.f_Text, (x.f_Number, (x.f_Pieces, x.f_At)))))
theorem kW_Token_open {K : Hp} {x : W_Token} {cs : List Value} (h : kW_Token.rep K x cs) : ∃ v1, cs = [Value.int .i64 (x.f_Kind), strV (x.f_Text), Value.int .i64 (x.f_Number), v1, Value.int .i64 (x.f_At)] ∧ kW_Piece.sl K v1 x.f_Pieces := by
  have h : (Kd.pair (Kd.int .i64) (Kd.pair Kd.str (Kd.pair (Kd.int .i64) (Kd.pair (Kd.slice kW_Piece) (Kd.int .i64))))).rep K (x.f_Kind, (x.f_Text, (x.f_Number, (x.f_Pieces, x.f_At)))) cs := h
  obtain ⟨c0, d0, rfl, rfl, ⟨c1, d1, rfl, rfl, ⟨c2, d2, rfl, rfl, ⟨c3, d3, rfl, ⟨v1, rfl, g3⟩, rfl⟩⟩⟩⟩ := h
  exact ⟨v1, rfl, g3⟩
theorem kW_Token_shut {K : Hp} {x : W_Token} {v1 : Value} (g0 : kW_Piece.sl K v1 x.f_Pieces) : kW_Token.rep K x [Value.int .i64 (x.f_Kind), strV (x.f_Text), Value.int .i64 (x.f_Number), v1, Value.int .i64 (x.f_At)] := by
  show (Kd.pair (Kd.int .i64) (Kd.pair Kd.str (Kd.pair (Kd.int .i64) (Kd.pair (Kd.slice kW_Piece) (Kd.int .i64))))).rep K (x.f_Kind, (x.f_Text, (x.f_Number, (x.f_Pieces, x.f_At)))) [Value.int .i64 (x.f_Kind), strV (x.f_Text), Value.int .i64 (x.f_Number), v1, Value.int .i64 (x.f_At)]
  exact ⟨[Value.int .i64 (x.f_Kind)], [strV (x.f_Text), Value.int .i64 (x.f_Number), v1, Value.int .i64 (x.f_At)], rfl, rfl, ⟨[strV (x.f_Text)], [Value.int .i64 (x.f_Number), v1, Value.int .i64 (x.f_At)], rfl, rfl, ⟨[Value.int .i64 (x.f_Number)], [v1, Value.int .i64 (x.f_At)], rfl, rfl, ⟨[v1], [Value.int .i64 (x.f_At)], rfl, ⟨v1, rfl, g0⟩, rfl⟩⟩⟩⟩

structure R_Piece where
  f_Var : List UInt8
  f_Lit : List UInt8
def kR_Piece : Kd R_Piece := Kd.iso (Kd.pair Kd.str Kd.str) (fun x => (x.f_Var, x.f_Lit))
theorem kR_Piece_open {K : Hp} {x : R_Piece} {cs : List Value} (h : kR_Piece.rep K x cs) : cs = [strV (x.f_Var), strV (x.f_Lit)] := by
  have h : (Kd.pair Kd.str Kd.str).rep K (x.f_Var, x.f_Lit) cs := h
  obtain ⟨c0, d0, rfl, rfl, rfl⟩ := h
  exact rfl
theorem kR_Piece_shut {K : Hp} {x : R_Piece} : kR_Piece.rep K x [strV (x.f_Var), strV (x.f_Lit)] := by
  show (Kd.pair Kd.str Kd.str).rep K (x.f_Var, x.f_Lit) [strV (x.f_Var), strV (x.f_Lit)]
  exact ⟨[strV (x.f_Var)], [strV (x.f_Lit)], rfl, rfl, rfl⟩

structure R_Token where
  f_Kind : Int
  f_Text : List UInt8
  f_Number : Int
  f_Pieces : List R_Piece
  f_At : Int
def kR_Token : Kd R_Token := Kd.iso (Kd.pair (Kd.int .i64) (Kd.pair Kd.str (Kd.pair (Kd.int .i64) (Kd.pair (Kd.slice kR_Piece) (Kd.int .i64))))) (fun x => (x.f_Kind, (x.f_Text, (x.f_Number, (x.f_Pieces, x.f_At)))))
theorem kR_Token_open {K : Hp} {x : R_Token} {cs : List Value} (h : kR_Token.rep K x cs) : ∃ v1, cs = [Value.int .i64 (x.f_Kind), strV (x.f_Text), Value.int .i64 (x.f_Number), v1, Value.int .i64 (x.f_At)] ∧ kR_Piece.sl K v1 x.f_Pieces := by
  have h : (Kd.pair (Kd.int .i64) (Kd.pair Kd.str (Kd.pair (Kd.int .i64) (Kd.pair (Kd.slice kR_Piece) (Kd.int .i64))))).rep K (x.f_Kind, (x.f_Text, (x.f_Number, (x.f_Pieces, x.f_At)))) cs := h
  obtain ⟨c0, d0, rfl, rfl, ⟨c1, d1, rfl, rfl, ⟨c2, d2, rfl, rfl, ⟨c3, d3, rfl, ⟨v1, rfl, g3⟩, rfl⟩⟩⟩⟩ := h
  exact ⟨v1, rfl, g3⟩
theorem kR_Token_shut {K : Hp} {x : R_Token} {v1 : Value} (g0 : kR_Piece.sl K v1 x.f_Pieces) : kR_Token.rep K x [Value.int .i64 (x.f_Kind), strV (x.f_Text), Value.int .i64 (x.f_Number), v1, Value.int .i64 (x.f_At)] := by
  show (Kd.pair (Kd.int .i64) (Kd.pair Kd.str (Kd.pair (Kd.int .i64) (Kd.pair (Kd.slice kR_Piece) (Kd.int .i64))))).rep K (x.f_Kind, (x.f_Text, (x.f_Number, (x.f_Pieces, x.f_At)))) [Value.int .i64 (x.f_Kind), strV (x.f_Text), Value.int .i64 (x.f_Number), v1, Value.int .i64 (x.f_At)]
  exact ⟨[Value.int .i64 (x.f_Kind)], [strV (x.f_Text), Value.int .i64 (x.f_Number), v1, Value.int .i64 (x.f_At)], rfl, rfl, ⟨[strV (x.f_Text)], [Value.int .i64 (x.f_Number), v1, Value.int .i64 (x.f_At)], rfl, rfl, ⟨[Value.int .i64 (x.f_Number)], [v1, Value.int .i64 (x.f_At)], rfl, rfl, ⟨[v1], [Value.int .i64 (x.f_At)], rfl, ⟨v1, rfl, g0⟩, rfl⟩⟩⟩⟩

def Glob (w0 : World) : Prop := ∀ g, g ∈ [0, 1, 2] → IsErr w0 g

theorem mixed_ : Tryd.prog.follows .mixedOrders = true := by kernel_rfl
theorem fo_62_1 : fieldOff Tryd.prog 62 1 = some 1 := by kernel_rfl
theorem ag_3 : aggT Tryd.prog 3 = some false := by kernel_rfl
theorem fo_62_0 : fieldOff Tryd.prog 62 0 = some 0 := by kernel_rfl
theorem ag_9 : aggT Tryd.prog 9 = some false := by kernel_rfl
theorem un_9 : Tryd.prog.underlying 9 = some (.string) := by kernel_rfl
theorem ti_3 : tinfo Tryd.prog 3 = some (Value.int .i64 (0), 1, 8) := by kernel_rfl
theorem ti_24 : tinfo Tryd.prog 24 = some (Value.agg #[Value.int .i64 (0), strV (([] : List UInt8)), Value.int .i64 (0), Value.slice none 0 0, Value.int .i64 (0)], 5, 64) := by kernel_rfl
theorem ag_41 : aggT Tryd.prog 41 = some false := by kernel_rfl
theorem ag_24 : aggT Tryd.prog 24 = some true := by kernel_rfl
theorem un_51 : Tryd.prog.underlying 51 = some (.slice 5) := by kernel_rfl
theorem un_5 : Tryd.prog.underlying 5 = some (.int .u8) := by kernel_rfl
theorem ti_5 : tinfo Tryd.prog 5 = some (Value.int .u8 0, 1, 1) := by kernel_rfl
theorem ag_5 : aggT Tryd.prog 5 = some false := by kernel_rfl
theorem un_3 : Tryd.prog.underlying 3 = some (.int .i64) := by kernel_rfl
theorem ti_46 : tinfo Tryd.prog 46 = some (Value.agg #[strV (([] : List UInt8)), strV (([] : List UInt8))], 2, 32) := by kernel_rfl
theorem ag_46 : aggT Tryd.prog 46 = some true := by kernel_rfl
theorem fo_24_1 : fieldOff Tryd.prog 24 1 = some 1 := by kernel_rfl
theorem un_22 : Tryd.prog.underlying 22 = some (.slice 46) := by kernel_rfl
theorem fo_46_0 : fieldOff Tryd.prog 46 0 = some 0 := by kernel_rfl
theorem fo_46_1 : fieldOff Tryd.prog 46 1 = some 1 := by kernel_rfl
theorem ti_9 : tinfo Tryd.prog 9 = some (strV (([] : List UInt8)), 1, 16) := by kernel_rfl
theorem if_41 : ifaceT Tryd.prog 41 = some true := by kernel_rfl
theorem un_76 : Tryd.prog.underlying 76 = some (.slice 9) := by kernel_rfl
theorem fo_24_4 : fieldOff Tryd.prog 24 4 = some 4 := by kernel_rfl
theorem un_39 : Tryd.prog.underlying 39 = some (.slice 24) := by kernel_rfl
theorem fo_24_0 : fieldOff Tryd.prog 24 0 = some 0 := by kernel_rfl
theorem fo_24_3 : fieldOff Tryd.prog 24 3 = some 3 := by kernel_rfl
theorem ag_22 : aggT Tryd.prog 22 = some false := by kernel_rfl
theorem un_27 : Tryd.prog.underlying 27 = some (.slice 47) := by kernel_rfl
theorem ti_47 : tinfo Tryd.prog 47 = some (Value.agg #[strV (([] : List UInt8)), strV (([] : List UInt8))], 2, 32) := by kernel_rfl
theorem ag_47 : aggT Tryd.prog 47 = some true := by kernel_rfl
theorem fo_47_0 : fieldOff Tryd.prog 47 0 = some 0 := by kernel_rfl
theorem fo_47_1 : fieldOff Tryd.prog 47 1 = some 1 := by kernel_rfl
theorem un_4 : Tryd.prog.underlying 4 = some (.bool) := by kernel_rfl
theorem fo_53_0 : fieldOff Tryd.prog 53 0 = some 0 := by kernel_rfl
theorem ag_50 : aggT Tryd.prog 50 = some false := by kernel_rfl
theorem un_50 : Tryd.prog.underlying 50 = some (.pointer 53) := by kernel_rfl
theorem us_72 : unsafeT Tryd.prog 72 = true := by kernel_rfl
theorem ti_53 : tinfo Tryd.prog 53 = some (Value.agg #[Value.pointer none, Value.slice none 0 0], 2, 32) := by kernel_rfl
theorem li_53_2_0_53 : liesAt Tryd.prog Tryd.prog.depth 53 (2 / Tryd.prog.cellsOf 53) 0 53 1 = true := by kernel_rfl
theorem ti_50 : tinfo Tryd.prog 50 = some (Value.pointer none, 1, 8) := by kernel_rfl
theorem fo_53_1 : fieldOff Tryd.prog 53 1 = some 1 := by kernel_rfl
theorem ag_51 : aggT Tryd.prog 51 = some false := by kernel_rfl
theorem ti_51 : tinfo Tryd.prog 51 = some (Value.slice none 0 0, 1, 24) := by kernel_rfl
theorem un_68 : Tryd.prog.underlying 68 = some (.pointer 5) := by kernel_rfl
theorem ce_5 : Tryd.prog.cellsOf 5 = 1 := by kernel_rfl
theorem eq_46 : eqShape Tryd.prog 46 = some [0, 0] := by kernel_rfl
theorem fo_24_2 : fieldOff Tryd.prog 24 2 = some 2 := by kernel_rfl
theorem ti_35 : tinfo Tryd.prog 35 = some (Value.agg #[Value.int .i64 (0), strV (([] : List UInt8)), Value.int .i64 (0), Value.slice none 0 0, Value.int .i64 (0)], 5, 64) := by kernel_rfl
theorem ag_35 : aggT Tryd.prog 35 = some true := by kernel_rfl
theorem fo_35_0 : fieldOff Tryd.prog 35 0 = some 0 := by kernel_rfl
theorem fo_35_1 : fieldOff Tryd.prog 35 1 = some 1 := by kernel_rfl
theorem fo_35_2 : fieldOff Tryd.prog 35 2 = some 2 := by kernel_rfl
theorem fo_35_3 : fieldOff Tryd.prog 35 3 = some 3 := by kernel_rfl
theorem ag_27 : aggT Tryd.prog 27 = some false := by kernel_rfl
theorem eq_47 : eqShape Tryd.prog 47 = some [0, 0] := by kernel_rfl
theorem un_38 : Tryd.prog.underlying 38 = some (.int .u64) := by kernel_rfl

def W_reader_ends (p1 : W_reader) : Option (Bool × W_reader) := do
  some ((decide (p1.f_at ≥ ((p1.f_s.length : Int))), (⟨p1.f_s, p1.f_at⟩ : W_reader)))
def W_reader_while_l1 (p3 : UInt8 → Option Bool) (x11 : List UInt8) (x12 : Int) : Option ((List UInt8) × Int) := do
  let k17 := fun (x18 : List UInt8) (x19 : Int) => (do
      W_reader_while_l1 p3 x18 (w64 (x19 + 1)))
  let x22 ← (do
      let y24 ← W_reader_ends ((⟨x11, x12⟩ : W_reader))
      if (!y24.1) = true then (do
          let c29 ← ix y24.2.f_s y24.2.f_at
          let y31 ← p3 c29
          some ((y31, y24.2.f_s, y24.2.f_at)))
      else (do
          some ((false, y24.2.f_s, y24.2.f_at))) : Option (Bool × (List UInt8) × Int))
  if (x22.1) = true then (do
      k17 x22.2.1 x22.2.2)
  else (do
      some ((x22.2.1, x22.2.2)))
  partial_fixpoint
def W_reader_while (p1 : W_reader) (p3 : UInt8 → Option Bool) : Option ((List UInt8) × W_reader) := do
  let o13 ← W_reader_while_l1 p3 p1.f_s p1.f_at
  let s45 ← cutL o13.1 p1.f_at o13.2
  some ((s45, (⟨o13.1, o13.2⟩ : W_reader)))
def W_reader_skip_1 (p1 : UInt8) : Option Bool := do
  let x2 ← (do
      if (p1 == 32) = true then (do
          some true)
      else (do
          some (p1 == 9)) : Option Bool)
  let x5 ← (do
      if (x2) = true then (do
          some true)
      else (do
          some (p1 == 13)) : Option Bool)
  some x5
def W_reader_peek (p1 : W_reader) (p3 : Int) : Option (UInt8 × W_reader) := do
  if (decide ((w64 (p1.f_at + p3)) ≥ ((p1.f_s.length : Int)))) = true then (do
      some ((0, (⟨p1.f_s, p1.f_at⟩ : W_reader))))
  else (do
      let c5 ← ix p1.f_s (w64 (p1.f_at + p3))
      some ((c5, (⟨p1.f_s, p1.f_at⟩ : W_reader))))
def W_reader_skip_2 (p1 : UInt8) : Option Bool := do
  some (p1 != 10)
def W_reader_skip_l1 (x8 : List UInt8) (x9 : Int) : Option ((List UInt8) × Int) := do
  let y13 ← W_reader_while ((⟨x8, x9⟩ : W_reader)) W_reader_skip_1
  let y17 ← W_reader_peek ((⟨y13.2.f_s, y13.2.f_at⟩ : W_reader)) 0
  if (y17.1 == 35) = true then (do
      let y22 ← W_reader_while ((⟨y17.2.f_s, y17.2.f_at⟩ : W_reader)) W_reader_skip_2
      W_reader_skip_l1 y22.2.f_s y22.2.f_at)
  else (do
      some ((y17.2.f_s, y17.2.f_at)))
  partial_fixpoint
def W_reader_skip (p1 : W_reader) : Option W_reader := do
  let o10 ← W_reader_skip_l1 p1.f_s p1.f_at
  some ((⟨o10.1, o10.2⟩ : W_reader))
def W_begins (p1 : UInt8) : Option Bool := do
  let x2 ← (do
      if (decide (97 ≤ p1)) = true then (do
          some (decide (p1 ≤ 122)))
      else (do
          some false) : Option Bool)
  let x5 ← (do
      if (x2) = true then (do
          some true)
      else (do
          let x8 ← (do
              if (decide (65 ≤ p1)) = true then (do
                  some (decide (p1 ≤ 90)))
              else (do
                  some false) : Option Bool)
          some x8) : Option Bool)
  let x11 ← (do
      if (x5) = true then (do
          some true)
      else (do
          some (p1 == 95)) : Option Bool)
  some x11
def W_figure (p1 : UInt8) : Option Bool := do
  let x2 ← (do
      if (decide (48 ≤ p1)) = true then (do
          some (decide (p1 ≤ 57)))
      else (do
          some false) : Option Bool)
  some x2
def W_goes (p1 : UInt8) : Option Bool := do
  let y2 ← W_begins p1
  let x7 ← (do
      if (y2) = true then (do
          some true)
      else (do
          let y10 ← W_figure p1
          some y10) : Option Bool)
  some x7
def W_reader_name (p1 : W_reader) : Option (W_Token × (Option Nat) × W_reader) := do
  let y5 ← W_reader_while ((⟨p1.f_s, p1.f_at⟩ : W_reader)) W_goes
  if (decide (((y5.1.length : Int)) > 24)) = true then (do
      some (((⟨0, ([] : List UInt8), 0, ([] : List W_Piece), 0⟩ : W_Token), (some 0 : Option Nat), (⟨y5.2.f_s, y5.2.f_at⟩ : W_reader))))
  else (do
      some (((⟨1, y5.1, 0, ([] : List W_Piece), 0⟩ : W_Token), (none : Option Nat), (⟨y5.2.f_s, y5.2.f_at⟩ : W_reader))))
def W_reader_number_l1 (y12 : (List UInt8) × W_reader) (x53 : Int) (x54 : Int) : Option Int := do
  if (decide (x53 < ((y12.1.length : Int)))) = true then (do
      let e59 ← ix y12.1 x53
      W_reader_number_l1 y12 (w64 (x53 + 1)) (w64 ((w64 (10 * x54)) + (b8 (e59 - 48)))))
  else (do
      some x54)
  partial_fixpoint
def W_reader_number (p1 : W_reader) : Option (W_Token × (Option Nat) × W_reader) := do
  let y5 ← W_reader_peek ((⟨p1.f_s, p1.f_at⟩ : W_reader)) 0
  let x9 ← (do
      if (y5.1 == 45) = true then (do
          some (w64 (y5.2.f_at + 1)))
      else (do
          some y5.2.f_at) : Option Int)
  let y12 ← W_reader_while ((⟨y5.2.f_s, x9⟩ : W_reader)) W_figure
  if (decide (((y12.1.length : Int)) > 9)) = true then (do
      some (((⟨0, ([] : List UInt8), 0, ([] : List W_Piece), 0⟩ : W_Token), (some 0 : Option Nat), (⟨y12.2.f_s, y12.2.f_at⟩ : W_reader))))
  else (do
      let x17 ← (do
          if (y12.1 == ([] : List UInt8)) = true then (do
              some true)
          else (do
              let x20 ← (do
                  if (decide (((y12.1.length : Int)) > 1)) = true then (do
                      let c23 ← ix y12.1 0
                      some (c23 == 48))
                  else (do
                      some false) : Option Bool)
              some x20) : Option Bool)
      let x25 ← (do
          if (x17) = true then (do
              some true)
          else (do
              let x28 ← (do
                  if (y5.1 == 45) = true then (do
                      some (y12.1 == ([48] : List UInt8)))
                  else (do
                      some false) : Option Bool)
              some x28) : Option Bool)
      let x32 ← (do
          if (x25) = true then (do
              some ((true, y12.2.f_s, y12.2.f_at)))
          else (do
              let y35 ← W_reader_peek ((⟨y12.2.f_s, y12.2.f_at⟩ : W_reader)) 0
              let y39 ← W_goes y35.1
              some ((y39, y35.2.f_s, y35.2.f_at))) : Option (Bool × (List UInt8) × Int))
      if (x32.1) = true then (do
          some (((⟨0, ([] : List UInt8), 0, ([] : List W_Piece), 0⟩ : W_Token), (some 1 : Option Nat), (⟨x32.2.1, x32.2.2⟩ : W_reader))))
      else (do
          let _ ← req (y12.1.length ≤ 9223372036854775807)
          let o55 ← W_reader_number_l1 y12 0 0
          let x69 ← (do
              if (y5.1 == 45) = true then (do
                  some (w64 (0 - o55)))
              else (do
                  some o55) : Option Int)
          some (((⟨2, ([] : List UInt8), x69, ([] : List W_Piece), 0⟩ : W_Token), (none : Option Nat), (⟨x32.2.1, x32.2.2⟩ : W_reader)))))
def W_reader_variable (p1 : W_reader) : Option (W_Piece × (Option Nat) × W_reader) := do
  let y5 ← W_reader_peek ((⟨p1.f_s, p1.f_at⟩ : W_reader)) 0
  let y9 ← W_reader_ends ((⟨y5.2.f_s, y5.2.f_at⟩ : W_reader))
  if (y9.1) = true then (do
      some (((⟨([] : List UInt8), ([] : List UInt8)⟩ : W_Piece), (some 2 : Option Nat), (⟨y9.2.f_s, y9.2.f_at⟩ : W_reader))))
  else (do
      let y14 ← W_figure y5.1
      if (y14) = true then (do
          some (((⟨([y5.1] : List UInt8), ([] : List UInt8)⟩ : W_Piece), (none : Option Nat), (⟨y9.2.f_s, w64 (y9.2.f_at + 1)⟩ : W_reader))))
      else (do
          let y22 ← W_begins y5.1
          if (!y22) = true then (do
              some (((⟨([] : List UInt8), ([] : List UInt8)⟩ : W_Piece), (some 1 : Option Nat), (⟨y9.2.f_s, y9.2.f_at⟩ : W_reader))))
          else (do
              let y27 ← W_reader_name ((⟨y9.2.f_s, y9.2.f_at⟩ : W_reader))
              some (((⟨y27.1.f_Text, ([] : List UInt8)⟩ : W_Piece), y27.2.1, (⟨y27.2.2.f_s, y27.2.2.f_at⟩ : W_reader))))))
def internal_stringslite_IndexByte (p1 : List UInt8) (p2 : UInt8) : Option Int := do
  some (idxB p1 p2)
def strings_IndexByte (p1 : List UInt8) (p2 : UInt8) : Option Int := do
  let y3 ← internal_stringslite_IndexByte p1 p2
  some y3
def W_digit (p1 : UInt8) : Option Int := do
  let x2 ← (do
      let x4 ← (do
          if (decide (65 ≤ p1)) = true then (do
              some (decide (p1 ≤ 70)))
          else (do
              some false) : Option Bool)
      if (x4) = true then (do
          some (p1 + 32))
      else (do
          some p1) : Option UInt8)
  let y8 ← strings_IndexByte ([48, 49, 50, 51, 52, 53, 54, 55, 56, 57, 97, 98, 99, 100, 101, 102] : List UInt8) x2
  some y8
def W_reader_coded_l1 (x10 : Int) (x11 : Int) (x12 : List UInt8) (x13 : Int) : Option (Sum (Int × (List UInt8) × Int) ((Option Nat) × (List UInt8) × Int)) := do
  if (decide (x10 < 2)) = true then (do
      let y21 ← W_reader_ends ((⟨x12, x13⟩ : W_reader))
      if (y21.1) = true then (do
          some (Sum.inr (((some 2 : Option Nat), y21.2.f_s, y21.2.f_at))))
      else (do
          let c26 ← ix y21.2.f_s y21.2.f_at
          let y28 ← W_digit c26
          if (decide (y28 < 0)) = true then (do
              some (Sum.inr (((some 1 : Option Nat), y21.2.f_s, y21.2.f_at))))
          else (do
              W_reader_coded_l1 (w64 (x10 + 1)) (or64 (w64 (x11 * 2 ^ 4)) y28) y21.2.f_s (w64 (y21.2.f_at + 1)))))
  else (do
      some (Sum.inl ((x11, x12, x13))))
  partial_fixpoint
def W_reader_coded (p1 : W_reader) : Option (UInt8 × (Option Nat) × W_reader) := do
  let o14 ← W_reader_coded_l1 0 0 p1.f_s p1.f_at
  match o14 with
  | Sum.inl x17 => do
      some ((toB x17.1, (none : Option Nat), (⟨x17.2.1, x17.2.2⟩ : W_reader)))
  | Sum.inr x19 => do
      some ((0, x19.1, (⟨x19.2.1, x19.2.2⟩ : W_reader)))
def W_reader_escape (p1 : W_reader) : Option (UInt8 × (Option Nat) × W_reader) := do
  let y3 ← W_reader_ends ((⟨p1.f_s, p1.f_at⟩ : W_reader))
  if (y3.1) = true then (do
      some ((0, (some 2 : Option Nat), (⟨y3.2.f_s, y3.2.f_at⟩ : W_reader))))
  else (do
      let c8 ← ix y3.2.f_s y3.2.f_at
      let k10 := fun (_ : Unit) => (do
          some ((0, (some 1 : Option Nat), (⟨y3.2.f_s, w64 (y3.2.f_at + 1)⟩ : W_reader))))
      if (c8 == 110) = true then (do
          some ((10, (none : Option Nat), (⟨y3.2.f_s, w64 (y3.2.f_at + 1)⟩ : W_reader))))
      else (do
          if (c8 == 114) = true then (do
              some ((13, (none : Option Nat), (⟨y3.2.f_s, w64 (y3.2.f_at + 1)⟩ : W_reader))))
          else (do
              if (c8 == 116) = true then (do
                  some ((9, (none : Option Nat), (⟨y3.2.f_s, w64 (y3.2.f_at + 1)⟩ : W_reader))))
              else (do
                  if (c8 == 120) = true then (do
                      let y16 ← W_reader_coded ((⟨y3.2.f_s, w64 (y3.2.f_at + 1)⟩ : W_reader))
                      some ((y16.1, y16.2.1, (⟨y16.2.2.f_s, y16.2.2.f_at⟩ : W_reader))))
                  else (do
                      let x20 ← (do
                          if (c8 == 92) = true then (do
                              some (c8 == 92))
                          else (do
                              if (c8 == 34) = true then (do
                                  some (c8 == 34))
                              else (do
                                  some (c8 == 36))) : Option Bool)
                      if (x20) = true then (do
                          some ((c8, (none : Option Nat), (⟨y3.2.f_s, w64 (y3.2.f_at + 1)⟩ : W_reader))))
                      else (do
                          k10 ()))))))
def W_literal (p1 : List W_Piece) (p3 : UInt8) : Option (List W_Piece) := do
  let x5 ← (do
      if (decide ((w64 (((p1.length : Int)) - 1)) < 0)) = true then (do
          some true)
      else (do
          let e8 ← ix p1 (w64 (((p1.length : Int)) - 1))
          some (e8.f_Var != ([] : List UInt8))) : Option Bool)
  if (x5) = true then (do
      let _ ← req ((p1.length + ([(⟨([] : List UInt8), ([p3] : List UInt8)⟩ : W_Piece)]).length) * 32 ≤ 140737488355328 ∧ p1.length + ([(⟨([] : List UInt8), ([p3] : List UInt8)⟩ : W_Piece)]).length ≤ 9223372036854775807)
      some (p1 ++ ([(⟨([] : List UInt8), ([p3] : List UInt8)⟩ : W_Piece)])))
  else (do
      let e27 ← ix p1 (w64 (((p1.length : Int)) - 1))
      let _ ← req (e27.f_Lit.length + ([p3] : List UInt8).length ≤ 9223372036854775807)
      let e41 ← ix p1 (w64 (((p1.length : Int)) - 1))
      some (p1.set ((w64 (((p1.length : Int)) - 1))).toNat ((⟨e41.f_Var, e27.f_Lit ++ ([p3] : List UInt8)⟩ : W_Piece))))
def W_reader_piece (p1 : W_reader) (p3 : List W_Piece) : Option ((List W_Piece) × (Option Nat) × W_reader) := do
  let c6 ← ix p1.f_s p1.f_at
  if (c6 == 36) = true then (do
      let y9 ← W_reader_variable ((⟨p1.f_s, w64 (p1.f_at + 1)⟩ : W_reader))
      let _ ← req ((p3.length + [(⟨y9.1.f_Var, y9.1.f_Lit⟩ : W_Piece)].length) * 32 ≤ 140737488355328 ∧ p3.length + [(⟨y9.1.f_Var, y9.1.f_Lit⟩ : W_Piece)].length ≤ 9223372036854775807)
      some ((p3 ++ [(⟨y9.1.f_Var, y9.1.f_Lit⟩ : W_Piece)], y9.2.1, (⟨y9.2.2.f_s, y9.2.2.f_at⟩ : W_reader))))
  else (do
      if (c6 == 10) = true then (do
          some ((([] : List W_Piece), (some 1 : Option Nat), (⟨p1.f_s, w64 (p1.f_at + 1)⟩ : W_reader))))
      else (do
          if (c6 == 92) = true then (do
              let y23 ← W_reader_escape ((⟨p1.f_s, w64 (p1.f_at + 1)⟩ : W_reader))
              let y27 ← W_literal p3 y23.1
              some ((y27, y23.2.1, (⟨y23.2.2.f_s, y23.2.2.f_at⟩ : W_reader))))
          else (do
              let y33 ← W_literal p3 c6
              some ((y33, (none : Option Nat), (⟨p1.f_s, w64 (p1.f_at + 1)⟩ : W_reader))))))
def slices_IndexFunc_W_Piece_W_Piece_l1 (p1 : List W_Piece) (p4 : W_Piece → Option Bool) (x11 : Int) : Option (Sum Unit Int) := do
  if (decide (x11 < ((p1.length : Int)))) = true then (do
      let e19 ← ix p1 x11
      let y29 ← p4 e19
      if (y29) = true then (do
          some (Sum.inr x11))
      else (do
          slices_IndexFunc_W_Piece_W_Piece_l1 p1 p4 (w64 (x11 + 1))))
  else (do
      some (Sum.inl (())))
  partial_fixpoint
def slices_IndexFunc_W_Piece_W_Piece (p1 : List W_Piece) (p4 : W_Piece → Option Bool) : Option Int := do
  let o12 ← slices_IndexFunc_W_Piece_W_Piece_l1 p1 p4 0
  match o12 with
  | Sum.inl x15 => do
      some ((-1))
  | Sum.inr x17 => do
      some x17
def slices_ContainsFunc_W_Piece_W_Piece (p1 : List W_Piece) (p4 : W_Piece → Option Bool) : Option Bool := do
  let y7 ← slices_IndexFunc_W_Piece_W_Piece p1 p4
  some (decide (y7 ≥ 0))
def W_fits_1 (p1 : W_Piece) : Option Bool := do
  some (decide (((p1.f_Lit.length : Int)) > 400))
def W_fits (p1 : List W_Piece) : Option Bool := do
  let x5 ← (do
      if (decide (((p1.length : Int)) ≤ 40)) = true then (do
          let y8 ← slices_ContainsFunc_W_Piece_W_Piece p1 W_fits_1
          some (!y8))
      else (do
          some false) : Option Bool)
  some x5
def W_reader_text_l1 (x13 : List UInt8) (x14 : Int) (x15 : List W_Piece) : Option ((Option Nat) × (List UInt8) × Int × Int × (List W_Piece)) := do
  let y22 ← W_reader_ends ((⟨x13, x14⟩ : W_reader))
  if (y22.1) = true then (do
      some (((some 2 : Option Nat), y22.2.f_s, y22.2.f_at, 0, ([] : List W_Piece))))
  else (do
      let c27 ← ix y22.2.f_s y22.2.f_at
      if (c27 == 34) = true then (do
          some (((none : Option Nat), y22.2.f_s, w64 (y22.2.f_at + 1), 3, x15)))
      else (do
          let y32 ← W_reader_piece ((⟨y22.2.f_s, y22.2.f_at⟩ : W_reader)) x15
          if (y32.2.1.isSome) = true then (do
              some ((y32.2.1, y32.2.2.f_s, y32.2.2.f_at, 0, ([] : List W_Piece))))
          else (do
              let y46 ← W_fits y32.1
              if (!y46) = true then (do
                  some (((some 0 : Option Nat), y32.2.2.f_s, y32.2.2.f_at, 0, ([] : List W_Piece))))
              else (do
                  W_reader_text_l1 y32.2.2.f_s y32.2.2.f_at y32.1))))
  partial_fixpoint
def W_reader_text (p1 : W_reader) : Option (W_Token × (Option Nat) × W_reader) := do
  let o17 ← W_reader_text_l1 p1.f_s (w64 (p1.f_at + 1)) (([] : List W_Piece))
  some (((⟨o17.2.2.2.1, ([] : List UInt8), 0, o17.2.2.2.2, 0⟩ : W_Token), o17.1, (⟨o17.2.1, o17.2.2.1⟩ : W_reader)))
def internal_stringslite_HasPrefix (p1 : List UInt8) (p2 : List UInt8) : Option Bool := do
  let x3 ← (do
      if (decide (((p1.length : Int)) ≥ ((p2.length : Int)))) = true then (do
          let s6 ← cutL p1 0 (((p2.length : Int)))
          some (s6 == p2))
      else (do
          some false) : Option Bool)
  some x3
def strings_HasPrefix (p1 : List UInt8) (p2 : List UInt8) : Option Bool := do
  let y3 ← internal_stringslite_HasPrefix p1 p2
  some y3
def W_reader_sign_l1 (p1 : W_reader) (x12 : Int) : Option (Sum Unit (Int × (List UInt8) × Int)) := do
  if (decide (x12 < ((([([61, 61] : List UInt8), ([33, 61] : List UInt8), ([60, 61] : List UInt8), ([62, 61] : List UInt8), ([123] : List UInt8), ([125] : List UInt8), ([60] : List UInt8), ([62] : List UInt8)]).length : Int)))) = true then (do
      let e20 ← ix ([([61, 61] : List UInt8), ([33, 61] : List UInt8), ([60, 61] : List UInt8), ([62, 61] : List UInt8), ([123] : List UInt8), ([125] : List UInt8), ([60] : List UInt8), ([62] : List UInt8)]) x12
      let s30 ← cutL p1.f_s p1.f_at ((p1.f_s.length : Int))
      let y32 ← strings_HasPrefix s30 e20
      if (y32) = true then (do
          some (Sum.inr ((4, e20, w64 (p1.f_at + ((e20.length : Int)))))))
      else (do
          W_reader_sign_l1 p1 (w64 (x12 + 1))))
  else (do
      some (Sum.inl (())))
  partial_fixpoint
def W_reader_sign (p1 : W_reader) : Option (W_Token × (Option Nat) × W_reader) := do
  let o13 ← W_reader_sign_l1 p1 0
  match o13 with
  | Sum.inl x16 => do
      some (((⟨0, ([] : List UInt8), 0, ([] : List W_Piece), 0⟩ : W_Token), (some 1 : Option Nat), (⟨p1.f_s, p1.f_at⟩ : W_reader)))
  | Sum.inr x18 => do
      some (((⟨x18.1, x18.2.1, 0, ([] : List W_Piece), 0⟩ : W_Token), (none : Option Nat), (⟨p1.f_s, x18.2.2⟩ : W_reader)))
def W_reader_token (p1 : W_reader) : Option (W_Token × (Option Nat) × W_reader) := do
  let c5 ← ix p1.f_s p1.f_at
  let x7 ← (do
      if (c5 == 10) = true then (do
          some true)
      else (do
          some (c5 == 59)) : Option Bool)
  if (x7) = true then (do
      some (((⟨5, ([] : List UInt8), 0, ([] : List W_Piece), 0⟩ : W_Token), (none : Option Nat), (⟨p1.f_s, w64 (p1.f_at + 1)⟩ : W_reader))))
  else (do
      let y11 ← W_begins c5
      if (y11) = true then (do
          let y16 ← W_reader_name ((⟨p1.f_s, p1.f_at⟩ : W_reader))
          some (((⟨y16.1.f_Kind, y16.1.f_Text, y16.1.f_Number, y16.1.f_Pieces, y16.1.f_At⟩ : W_Token), y16.2.1, (⟨y16.2.2.f_s, y16.2.2.f_at⟩ : W_reader))))
      else (do
          let y22 ← W_figure c5
          let x26 ← (do
              if (y22) = true then (do
                  some true)
              else (do
                  some (c5 == 45)) : Option Bool)
          if (x26) = true then (do
              let y30 ← W_reader_number ((⟨p1.f_s, p1.f_at⟩ : W_reader))
              some (((⟨y30.1.f_Kind, y30.1.f_Text, y30.1.f_Number, y30.1.f_Pieces, y30.1.f_At⟩ : W_Token), y30.2.1, (⟨y30.2.2.f_s, y30.2.2.f_at⟩ : W_reader))))
          else (do
              if (c5 == 34) = true then (do
                  let y37 ← W_reader_text ((⟨p1.f_s, p1.f_at⟩ : W_reader))
                  some (((⟨y37.1.f_Kind, y37.1.f_Text, y37.1.f_Number, y37.1.f_Pieces, y37.1.f_At⟩ : W_Token), y37.2.1, (⟨y37.2.2.f_s, y37.2.2.f_at⟩ : W_reader))))
              else (do
                  let y43 ← W_reader_sign ((⟨p1.f_s, p1.f_at⟩ : W_reader))
                  some (((⟨y43.1.f_Kind, y43.1.f_Text, y43.1.f_Number, y43.1.f_Pieces, y43.1.f_At⟩ : W_Token), y43.2.1, (⟨y43.2.2.f_s, y43.2.2.f_at⟩ : W_reader)))))))
def W_Split_l1 (x17 : List UInt8) (x18 : Int) (x19 : List W_Token) : Option (Sum ((List UInt8) × Int × (List W_Token)) (Int × (Option Nat) × (List UInt8) × Int × (List W_Token))) := do
  let y29 ← W_reader_ends ((⟨x17, x18⟩ : W_reader))
  if (!y29.1) = true then (do
      let y34 ← W_reader_token ((⟨y29.2.f_s, y29.2.f_at⟩ : W_reader))
      if (y34.2.1.isSome) = true then (do
          some (Sum.inr ((y29.2.f_at, y34.2.1, y34.2.2.f_s, y34.2.2.f_at, x19))))
      else (do
          let _ ← req ((x19.length + [(⟨y34.1.f_Kind, y34.1.f_Text, y34.1.f_Number, y34.1.f_Pieces, y29.2.f_at⟩ : W_Token)].length) * 64 ≤ 140737488355328 ∧ x19.length + [(⟨y34.1.f_Kind, y34.1.f_Text, y34.1.f_Number, y34.1.f_Pieces, y29.2.f_at⟩ : W_Token)].length ≤ 9223372036854775807)
          let y48 ← W_reader_skip ((⟨y34.2.2.f_s, y34.2.2.f_at⟩ : W_reader))
          W_Split_l1 y48.f_s y48.f_at (x19 ++ [(⟨y34.1.f_Kind, y34.1.f_Text, y34.1.f_Number, y34.1.f_Pieces, y29.2.f_at⟩ : W_Token)])))
  else (do
      some (Sum.inl ((y29.2.f_s, y29.2.f_at, x19))))
  partial_fixpoint
def W_Split (p1 : List UInt8) : Option ((List W_Token) × Int × (Option Nat)) := do
  if (decide (((p1.length : Int)) > 4000)) = true then (do
      some ((([] : List W_Token), 0, (some 0 : Option Nat))))
  else (do
      let y6 ← W_reader_skip ((⟨p1, 0⟩ : W_reader))
      let o21 ← W_Split_l1 y6.f_s y6.f_at (([] : List W_Token))
      match o21 with
      | Sum.inl x24 => do
          some ((x24.2.2, 0, (none : Option Nat)))
      | Sum.inr x27 => do
          some ((([] : List W_Token), x27.1, x27.2.1)))
def Law_alive : Option Bool := do
  let y1 ← W_Split ([115, 101, 110, 100, 32, 34, 97, 36, 98, 92, 110, 34] : List UInt8)
  let x7 ← (do
      if (y1.2.2.isNone) = true then (do
          some (((y1.1.length : Int)) == 2))
      else (do
          some false) : Option Bool)
  let x10 ← (do
      if (x7) = true then (do
          let e13 ← ix y1.1 0
          some (e13.f_Kind == 1))
      else (do
          some false) : Option Bool)
  let x25 ← (do
      if (x10) = true then (do
          let e28 ← ix y1.1 1
          some (((e28.f_Pieces.length : Int)) == 3))
      else (do
          some false) : Option Bool)
  let x40 ← (do
      if (x25) = true then (do
          let e43 ← ix y1.1 1
          let e55 ← ix e43.f_Pieces 1
          some (e55.f_Var == ([98] : List UInt8)))
      else (do
          some false) : Option Bool)
  let x65 ← (do
      if (x40) = true then (do
          let e68 ← ix y1.1 1
          let e80 ← ix e68.f_Pieces 2
          some (e80.f_Lit == ([10] : List UInt8)))
      else (do
          some false) : Option Bool)
  some x65
def Law_long_l1 (p1 : List W_Piece) (x9 : Int) : Option (Sum Unit Unit) := do
  if (decide (x9 < ((p1.length : Int)))) = true then (do
      let e17 ← ix p1 x9
      let x29 ← (do
          if (decide (((e17.f_Var.length : Int)) > 100)) = true then (do
              some true)
          else (do
              some (decide (((e17.f_Lit.length : Int)) > 500))) : Option Bool)
      if (x29) = true then (do
          some (Sum.inr (())))
      else (do
          Law_long_l1 p1 (w64 (x9 + 1))))
  else (do
      some (Sum.inl (())))
  partial_fixpoint
def Law_long (p1 : List W_Piece) : Option Bool := do
  if (decide (((p1.length : Int)) > 60)) = true then (do
      some true)
  else (do
      let o10 ← Law_long_l1 p1 0
      match o10 with
      | Sum.inl x13 => do
          some false
      | Sum.inr x15 => do
          some true)
def Law_Pieces_l1 (p1 : List W_Piece) (x12 : Int) (x13 : List R_Piece) : Option (List R_Piece) := do
  if (decide (x12 < ((p1.length : Int)))) = true then (do
      let e20 ← ix p1 x12
      let _ ← req ((x13.length + [(⟨e20.f_Var, e20.f_Lit⟩ : R_Piece)].length) * 32 ≤ 140737488355328 ∧ x13.length + [(⟨e20.f_Var, e20.f_Lit⟩ : R_Piece)].length ≤ 9223372036854775807)
      Law_Pieces_l1 p1 (w64 (x12 + 1)) (x13 ++ [(⟨e20.f_Var, e20.f_Lit⟩ : R_Piece)]))
  else (do
      some x13)
  partial_fixpoint
def Law_Pieces (p1 : List W_Piece) : Option (List R_Piece) := do
  let o15 ← Law_Pieces_l1 p1 0 (([] : List R_Piece))
  some o15
def R_Figure (p1 : UInt8) : Option Bool := do
  let x2 ← (do
      if (decide (48 ≤ p1)) = true then (do
          some (decide (p1 ≤ 57)))
      else (do
          some false) : Option Bool)
  some x2
def R_Letter (p1 : UInt8) : Option Bool := do
  let x2 ← (do
      if (decide (97 ≤ p1)) = true then (do
          some (decide (p1 ≤ 122)))
      else (do
          some false) : Option Bool)
  let x5 ← (do
      if (x2) = true then (do
          some true)
      else (do
          let x8 ← (do
              if (decide (65 ≤ p1)) = true then (do
                  some (decide (p1 ≤ 90)))
              else (do
                  some false) : Option Bool)
          some x8) : Option Bool)
  let x11 ← (do
      if (x5) = true then (do
          some true)
      else (do
          some (p1 == 95)) : Option Bool)
  some x11
def R_span_l1 (p2 : Int) (p1 : List UInt8) (p3 : Bool) (x8 : Int) : Option Int := do
  let x13 ← (do
      if (decide ((w64 (p2 + x8)) < ((p1.length : Int)))) = true then (do
          let c16 ← ix p1 (w64 (p2 + x8))
          let y18 ← R_Figure c16
          let x23 ← (do
              if (y18) = true then (do
                  some true)
              else (do
                  let x27 ← (do
                      if (p3) = true then (do
                          let c30 ← ix p1 (w64 (p2 + x8))
                          let y32 ← R_Letter c30
                          some y32)
                      else (do
                          some false) : Option Bool)
                  some x27) : Option Bool)
          some x23)
      else (do
          some false) : Option Bool)
  if (x13) = true then (do
      R_span_l1 p2 p1 p3 (w64 (x8 + 1)))
  else (do
      some x8)
  partial_fixpoint
def R_span (p1 : List UInt8) (p2 : Int) (p3 : Bool) : Option Int := do
  let o9 ← R_span_l1 p2 p1 p3 0
  some o9
def R_Named (p1 : List UInt8) : Option Bool := do
  let x2 ← (do
      if (((p1.length : Int)) == 0) = true then (do
          some true)
      else (do
          some (decide (((p1.length : Int)) > 24))) : Option Bool)
  let x6 ← (do
      if (x2) = true then (do
          some true)
      else (do
          let y9 ← R_span p1 0 true
          some (y9 != ((p1.length : Int)))) : Option Bool)
  if (x6) = true then (do
      some false)
  else (do
      let c14 ← ix p1 0
      let y16 ← R_Letter c14
      let x20 ← (do
          if (y16) = true then (do
              some true)
          else (do
              some (((p1.length : Int)) == 1)) : Option Bool)
      some x20)
def R_Right_l1 (p1 : List R_Piece) (x8 : Int) : Option (Sum Unit Unit) := do
  if (decide (x8 < ((p1.length : Int)))) = true then (do
      let e16 ← ix p1 x8
      let x29 ← (do
          if ((decide (((e16.f_Var.length : Int)) > 0)) == (decide (((e16.f_Lit.length : Int)) > 0))) = true then (do
              some true)
          else (do
              let x33 ← (do
                  if (decide (((e16.f_Var.length : Int)) > 0)) = true then (do
                      let y36 ← R_Named e16.f_Var
                      some (!y36))
                  else (do
                      some false) : Option Bool)
              some x33) : Option Bool)
      let x40 ← (do
          if (x29) = true then (do
              some true)
          else (do
              some (decide (((e16.f_Lit.length : Int)) > 400))) : Option Bool)
      if (x40) = true then (do
          some (Sum.inr (())))
      else (do
          let x44 ← (do
              if (decide (x8 > 0)) = true then (do
                  some (decide (((e16.f_Lit.length : Int)) > 0)))
              else (do
                  some false) : Option Bool)
          let x47 ← (do
              if (x44) = true then (do
                  let e50 ← ix p1 (w64 (x8 - 1))
                  some (decide (((e50.f_Lit.length : Int)) > 0)))
              else (do
                  some false) : Option Bool)
          if (x47) = true then (do
              some (Sum.inr (())))
          else (do
              R_Right_l1 p1 (w64 (x8 + 1)))))
  else (do
      some (Sum.inl (())))
  partial_fixpoint
def R_Right (p1 : List R_Piece) : Option Bool := do
  let o9 ← R_Right_l1 p1 0
  match o9 with
  | Sum.inl x12 => do
      some (decide (((p1.length : Int)) ≤ 40))
  | Sum.inr x14 => do
      some false
def R_Quote_l2 (e18 : R_Piece) (x9 : Int) (p1 : List R_Piece) (x38 : Int) (x39 : List UInt8) : Option (List UInt8) := do
  if (decide (x38 < ((e18.f_Lit.length : Int)))) = true then (do
      let x45 ← (do
          let c47 ← ix e18.f_Lit x38
          let x49 ← (do
              if (x38 == 0) = true then (do
                  some (decide (x9 > 0)))
              else (do
                  some false) : Option Bool)
          let x53 ← (do
              if (x49) = true then (do
                  let e56 ← ix p1 (w64 (x9 - 1))
                  let c66 ← ix e56.f_Var 0
                  let y68 ← R_Letter c66
                  some y68)
              else (do
                  some false) : Option Bool)
          let x73 ← (do
              if (x53) = true then (do
                  let y76 ← R_Letter c47
                  let x81 ← (do
                      if (y76) = true then (do
                          some true)
                      else (do
                          let y84 ← R_Figure c47
                          some y84) : Option Bool)
                  some x81)
              else (do
                  some false) : Option Bool)
          if (c47 == 10) = true then (do
              let _ ← req (x39.length + ([92, 110] : List UInt8).length ≤ 9223372036854775807)
              some (x39 ++ ([92, 110] : List UInt8)))
          else (do
              if (c47 == 13) = true then (do
                  let _ ← req (x39.length + ([92, 114] : List UInt8).length ≤ 9223372036854775807)
                  some (x39 ++ ([92, 114] : List UInt8)))
              else (do
                  if (c47 == 9) = true then (do
                      let _ ← req (x39.length + ([92, 116] : List UInt8).length ≤ 9223372036854775807)
                      some (x39 ++ ([92, 116] : List UInt8)))
                  else (do
                      let x94 ← (do
                          if (c47 == 34) = true then (do
                              some true)
                          else (do
                              some (c47 == 36)) : Option Bool)
                      let x97 ← (do
                          if (x94) = true then (do
                              some true)
                          else (do
                              some (c47 == 92)) : Option Bool)
                      if (x97) = true then (do
                          let s101 ← cutL e18.f_Lit x38 ((w64 (x38 + 1)))
                          let _ ← req (([92] : List UInt8).length + s101.length ≤ 9223372036854775807)
                          let _ ← req (x39.length + (([92] : List UInt8) ++ s101).length ≤ 9223372036854775807)
                          some (x39 ++ (([92] : List UInt8) ++ s101)))
                      else (do
                          let x105 ← (do
                              if (decide (32 ≤ c47)) = true then (do
                                  some (decide (c47 < 127)))
                              else (do
                                  some false) : Option Bool)
                          let x108 ← (do
                              if (x105) = true then (do
                                  some (!x73))
                              else (do
                                  some false) : Option Bool)
                          if (x108) = true then (do
                              let s112 ← cutL e18.f_Lit x38 ((w64 (x38 + 1)))
                              let _ ← req (x39.length + s112.length ≤ 9223372036854775807)
                              some (x39 ++ s112))
                          else (do
                              let q115 ← bquo c47 16
                              let q117 ← bquo c47 16
                              let s119 ← cutL ([48, 49, 50, 51, 52, 53, 54, 55, 56, 57, 97, 98, 99, 100, 101, 102] : List UInt8) ((b8 q115)) ((b8 (q117 + 1)))
                              let _ ← req (([92, 120] : List UInt8).length + s119.length ≤ 9223372036854775807)
                              let q122 ← brem c47 16
                              let q124 ← brem c47 16
                              let s126 ← cutL ([48, 49, 50, 51, 52, 53, 54, 55, 56, 57, 97, 98, 99, 100, 101, 102] : List UInt8) ((b8 q122)) ((b8 (q124 + 1)))
                              let _ ← req ((([92, 120] : List UInt8) ++ s119).length + s126.length ≤ 9223372036854775807)
                              let _ ← req (x39.length + ((([92, 120] : List UInt8) ++ s119) ++ s126).length ≤ 9223372036854775807)
                              some (x39 ++ ((([92, 120] : List UInt8) ++ s119) ++ s126))))))) : Option (List UInt8))
      R_Quote_l2 e18 x9 p1 (w64 (x38 + 1)) x45)
  else (do
      some x39)
  partial_fixpoint
def R_Quote_l1 (p1 : List R_Piece) (x9 : Int) (x10 : List UInt8) : Option (List UInt8) := do
  if (decide (x9 < ((p1.length : Int)))) = true then (do
      let x16 ← (do
          let e18 ← ix p1 x9
          if (decide (((e18.f_Var.length : Int)) > 0)) = true then (do
              let _ ← req (([36] : List UInt8).length + e18.f_Var.length ≤ 9223372036854775807)
              let _ ← req (x10.length + (([36] : List UInt8) ++ e18.f_Var).length ≤ 9223372036854775807)
              some (x10 ++ (([36] : List UInt8) ++ e18.f_Var)))
          else (do
              let o40 ← R_Quote_l2 e18 x9 p1 0 x10
              some o40) : Option (List UInt8))
      R_Quote_l1 p1 (w64 (x9 + 1)) x16)
  else (do
      some x10)
  partial_fixpoint
def R_Quote (p1 : List R_Piece) : Option (List UInt8) := do
  let o11 ← R_Quote_l1 p1 0 ([34] : List UInt8)
  let _ ← req (o11.length + ([34] : List UInt8).length ≤ 9223372036854775807)
  some (o11 ++ ([34] : List UInt8))
def W_named_l1 (p1 : List UInt8) (x21 : Int) : Option (Sum Unit Unit) := do
  if (decide (x21 < ((p1.length : Int)))) = true then (do
      let e29 ← ix p1 x21
      let y39 ← W_goes e29
      if (!y39) = true then (do
          some (Sum.inr (())))
      else (do
          W_named_l1 p1 (w64 (x21 + 1))))
  else (do
      some (Sum.inl (())))
  partial_fixpoint
def W_named (p1 : List UInt8) : Option Bool := do
  let x3 ← (do
      if (((p1.length : Int)) == 1) = true then (do
          let c6 ← ix p1 0
          let y8 ← W_figure c6
          some y8)
      else (do
          some false) : Option Bool)
  if (x3) = true then (do
      some true)
  else (do
      let _ ← req (p1.length ≤ 9223372036854775807)
      let o22 ← W_named_l1 p1 0
      match o22 with
      | Sum.inl x25 => do
          let x44 ← (do
              if (p1 != ([] : List UInt8)) = true then (do
                  some (decide (((p1.length : Int)) ≤ 24)))
              else (do
                  some false) : Option Bool)
          let x48 ← (do
              if (x44) = true then (do
                  let c51 ← ix p1 0
                  let y53 ← W_begins c51
                  some y53)
              else (do
                  some false) : Option Bool)
          some x48
      | Sum.inr x27 => do
          some false)
def W_Right_l1 (p1 : List W_Piece) (x8 : Int) : Option (Sum Unit Unit) := do
  if (decide (x8 < ((p1.length : Int)))) = true then (do
      let e16 ← ix p1 x8
      let x29 ← (do
          if (e16.f_Var != ([] : List UInt8)) = true then (do
              let x33 ← (do
                  if (e16.f_Lit != ([] : List UInt8)) = true then (do
                      some true)
                  else (do
                      let y36 ← W_named e16.f_Var
                      some (!y36)) : Option Bool)
              some x33)
          else (do
              some false) : Option Bool)
      if (x29) = true then (do
          some (Sum.inr (())))
      else (do
          let x41 ← (do
              if (e16.f_Var == ([] : List UInt8)) = true then (do
                  let x44 ← (do
                      if (e16.f_Lit == ([] : List UInt8)) = true then (do
                          some true)
                      else (do
                          let x47 ← (do
                              if (decide (x8 > 0)) = true then (do
                                  let e50 ← ix p1 (w64 (x8 - 1))
                                  some (e50.f_Var == ([] : List UInt8)))
                              else (do
                                  some false) : Option Bool)
                          some x47) : Option Bool)
                  some x44)
              else (do
                  some false) : Option Bool)
          if (x41) = true then (do
              some (Sum.inr (())))
          else (do
              W_Right_l1 p1 (w64 (x8 + 1)))))
  else (do
      some (Sum.inl (())))
  partial_fixpoint
def W_Right (p1 : List W_Piece) : Option Bool := do
  let o9 ← W_Right_l1 p1 0
  match o9 with
  | Sum.inl x12 => do
      let y61 ← W_fits p1
      some y61
  | Sum.inr x14 => do
      some false
def strings_Builder_copyCheck (p1 : List UInt8) : Option (List UInt8) := do
  some p1
def strings_Builder_WriteByte (p1 : List UInt8) (p7 : UInt8) : Option ((Option Nat) × (List UInt8)) := do
  let y8 ← strings_Builder_copyCheck p1
  let _ ← req ((y8.length + ([p7] : List UInt8).length) * 1 ≤ 140737488355328 ∧ y8.length + ([p7] : List UInt8).length ≤ 9223372036854775807)
  some (((none : Option Nat), y8 ++ ([p7] : List UInt8)))
def strings_Builder_WriteString (p1 : List UInt8) (p7 : List UInt8) : Option (Int × (Option Nat) × (List UInt8)) := do
  let y8 ← strings_Builder_copyCheck p1
  let _ ← req ((y8.length + p7.length) * 1 ≤ 140737488355328 ∧ y8.length + p7.length ≤ 9223372036854775807)
  some (((p7.length : Int), (none : Option Nat), y8 ++ p7))
def W_told (p1 : UInt8) (p2 : Bool) : Option (List UInt8) := do
  if (p1 == 10) = true then (do
      some ([92, 110] : List UInt8))
  else (do
      if (p1 == 13) = true then (do
          some ([92, 114] : List UInt8))
      else (do
          if (p1 == 9) = true then (do
              some ([92, 116] : List UInt8))
          else (do
              let x6 ← (do
                  if (p1 == 34) = true then (do
                      some true)
                  else (do
                      some (p1 == 36)) : Option Bool)
              let x9 ← (do
                  if (x6) = true then (do
                      some true)
                  else (do
                      some (p1 == 92)) : Option Bool)
              if (x9) = true then (do
                  some [92, p1])
              else (do
                  let x16 ← (do
                      if (p2) = true then (do
                          some (decide (32 ≤ p1)))
                      else (do
                          some false) : Option Bool)
                  let x19 ← (do
                      if (x16) = true then (do
                          some (decide (p1 ≤ 126)))
                      else (do
                          some false) : Option Bool)
                  if (x19) = true then (do
                      some ([p1] : List UInt8))
                  else (do
                      let c26 ← ix ([48, 49, 50, 51, 52, 53, 54, 55, 56, 57, 97, 98, 99, 100, 101, 102] : List UInt8) (b8 (shr8 p1 4))
                      let c28 ← ix ([48, 49, 50, 51, 52, 53, 54, 55, 56, 57, 97, 98, 99, 100, 101, 102] : List UInt8) (b8 (p1 &&& 15))
                      let _ ← req (([92, 120] : List UInt8).length + [c26, c28].length ≤ 9223372036854775807)
                      some (([92, 120] : List UInt8) ++ [c26, c28]))))))
def strings_Builder_String (p1 : List UInt8) : Option (List UInt8) := do
  some p1
def W_Quote_l2 (e48 : W_Piece) (x30 : Bool) (x88 : Int) (x91 : List UInt8) : Option (List UInt8) := do
  if (decide (x88 < ((e48.f_Lit.length : Int)))) = true then (do
      let e100 ← ix e48.f_Lit x88
      let x110 ← (do
          if (!x30) = true then (do
              some true)
          else (do
              some (decide (x88 > 0))) : Option Bool)
      let x114 ← (do
          if (x110) = true then (do
              some true)
          else (do
              let y117 ← W_goes e100
              some (!y117)) : Option Bool)
      let y121 ← W_told e100 x114
      let y125 ← strings_Builder_WriteString x91 y121
      W_Quote_l2 e48 x30 (w64 (x88 + 1)) y125.2.2)
  else (do
      some x91)
  partial_fixpoint
def W_Quote_l1 (p1 : List W_Piece) (x29 : Int) (x30 : Bool) (x33 : List UInt8) : Option (List UInt8) := do
  if (decide (x29 < ((p1.length : Int)))) = true then (do
      let x43 ← (do
          let e48 ← ix p1 x29
          if (e48.f_Var != ([] : List UInt8)) = true then (do
              let _ ← req (([36] : List UInt8).length + e48.f_Var.length ≤ 9223372036854775807)
              let y62 ← strings_Builder_WriteString x33 (([36] : List UInt8) ++ e48.f_Var)
              let c70 ← ix e48.f_Var 0
              let y72 ← W_begins c70
              some ((y72, y62.2.2)))
          else (do
              let _ ← req (e48.f_Lit.length ≤ 9223372036854775807)
              let o93 ← W_Quote_l2 e48 x30 0 x33
              some ((false, o93))) : Option (Bool × (List UInt8)))
      W_Quote_l1 p1 (w64 (x29 + 1)) x43.1 x43.2)
  else (do
      some x33)
  partial_fixpoint
def W_Quote (p1 : List W_Piece) : Option (List UInt8) := do
  let y4 ← W_Right p1
  if (!y4) = true then (do
      some ([] : List UInt8))
  else (do
      let y12 ← strings_Builder_WriteByte ([] : List UInt8) 34
      let o35 ← W_Quote_l1 p1 0 false y12.2
      let y133 ← strings_Builder_WriteByte o35 34
      let y141 ← strings_Builder_String y133.2
      some y141)
def slices_Equal_W_Piece_W_Piece_l1 (p1 : List W_Piece) (p4 : List W_Piece) (x12 : Int) : Option (Sum Unit Unit) := do
  if (decide (x12 < ((p1.length : Int)))) = true then (do
      let e20 ← ix p1 x12
      let e30 ← ix p4 x12
      if (!((e20.f_Var == e30.f_Var) && ((e20.f_Lit == e30.f_Lit) && true))) = true then (do
          some (Sum.inr (())))
      else (do
          slices_Equal_W_Piece_W_Piece_l1 p1 p4 (w64 (x12 + 1))))
  else (do
      some (Sum.inl (())))
  partial_fixpoint
def slices_Equal_W_Piece_W_Piece (p1 : List W_Piece) (p4 : List W_Piece) : Option Bool := do
  if (((p1.length : Int)) != ((p4.length : Int))) = true then (do
      some false)
  else (do
      let o13 ← slices_Equal_W_Piece_W_Piece_l1 p1 p4 0
      match o13 with
      | Sum.inl x16 => do
          some true
      | Sum.inr x18 => do
          some false)
def W_Same (p1 : W_Token) (p4 : W_Token) : Option Bool := do
  let x11 ← (do
      if (p1.f_Kind == p4.f_Kind) = true then (do
          some (p1.f_Text == p4.f_Text))
      else (do
          some false) : Option Bool)
  let x14 ← (do
      if (x11) = true then (do
          some (p1.f_Number == p4.f_Number))
      else (do
          some false) : Option Bool)
  let x18 ← (do
      if (x14) = true then (do
          let y21 ← slices_Equal_W_Piece_W_Piece p1.f_Pieces p4.f_Pieces
          some y21)
      else (do
          some false) : Option Bool)
  some x18
def Law_Of (p1 : W_Token) : Option R_Token := do
  let y8 ← Law_Pieces p1.f_Pieces
  some ((⟨p1.f_Kind, p1.f_Text, p1.f_Number, y8, p1.f_At⟩ : R_Token))
def R_Same_l1 (p1 : R_Token) (p4 : R_Token) (x25 : Int) : Option (Sum Unit Unit) := do
  if (decide (x25 < ((p1.f_Pieces.length : Int)))) = true then (do
      let e33 ← ix p1.f_Pieces x25
      let e45 ← ix p4.f_Pieces x25
      if (!((e33.f_Var == e45.f_Var) && ((e33.f_Lit == e45.f_Lit) && true))) = true then (do
          some (Sum.inr (())))
      else (do
          R_Same_l1 p1 p4 (w64 (x25 + 1))))
  else (do
      some (Sum.inl (())))
  partial_fixpoint
def R_Same (p1 : R_Token) (p4 : R_Token) : Option Bool := do
  let x11 ← (do
      if (p1.f_Kind != p4.f_Kind) = true then (do
          some true)
      else (do
          some (p1.f_Text != p4.f_Text)) : Option Bool)
  let x14 ← (do
      if (x11) = true then (do
          some true)
      else (do
          some (p1.f_Number != p4.f_Number)) : Option Bool)
  let x17 ← (do
      if (x14) = true then (do
          some true)
      else (do
          some (((p1.f_Pieces.length : Int)) != ((p4.f_Pieces.length : Int)))) : Option Bool)
  if (x17) = true then (do
      some false)
  else (do
      let o26 ← R_Same_l1 p1 p4 0
      match o26 with
      | Sum.inl x29 => do
          some true
      | Sum.inr x31 => do
          some false)
def Law_WordsPieces (p1 : List W_Piece) (p4 : W_Token) (p7 : W_Token) : Option Bool := do
  let y14 ← Law_alive
  if (!y14) = true then (do
      some false)
  else (do
      let y19 ← Law_long p1
      let x24 ← (do
          if (y19) = true then (do
              some true)
          else (do
              let y27 ← Law_long p4.f_Pieces
              some y27) : Option Bool)
      let x32 ← (do
          if (x24) = true then (do
              some true)
          else (do
              let y35 ← Law_long p7.f_Pieces
              some y35) : Option Bool)
      let x39 ← (do
          if (x32) = true then (do
              some true)
          else (do
              some (decide (((p4.f_Text.length : Int)) > 200))) : Option Bool)
      let x42 ← (do
          if (x39) = true then (do
              some true)
          else (do
              some (decide (((p7.f_Text.length : Int)) > 200))) : Option Bool)
      if (x42) = true then (do
          some true)
      else (do
          let y46 ← Law_Pieces p1
          let x53 ← (do
              let y55 ← R_Right y46
              if (y55) = true then (do
                  let y60 ← R_Quote y46
                  some y60)
              else (do
                  some ([] : List UInt8)) : Option (List UInt8))
          let x65 ← (do
              let y67 ← W_Right p1
              let y71 ← R_Right y46
              if (y67 == y71) = true then (do
                  let y76 ← W_Quote p1
                  if (y76 == x53) = true then (do
                      let y81 ← W_Same p4 p7
                      let y85 ← Law_Of p4
                      let y91 ← Law_Of p7
                      let y97 ← R_Same y85 y91
                      some (y81 == y97))
                  else (do
                      some false))
              else (do
                  some false) : Option Bool)
          some x65))
def Law_WordsBack_l1 (q27 : Int) (x34 : Int) (x35 : List UInt8) : Option (List UInt8) := do
  if (decide (x34 < (IntKind.i64.wrap q27))) = true then (do
      let q40 ← irem x34 3
      let q42 ← irem x34 3
      let s44 ← cutL ([32, 9, 13] : List UInt8) q40 ((w64 (q42 + 1)))
      let _ ← req (s44.length + x35.length ≤ 9223372036854775807)
      Law_WordsBack_l1 q27 (w64 (x34 + 1)) (s44 ++ x35))
  else (do
      some x35)
  partial_fixpoint
def Law_WordsBack (p1 : List W_Piece) (p4 : Int) : Option Bool := do
  let y5 ← Law_alive
  if (!y5) = true then (do
      some false)
  else (do
      let y10 ← Law_long p1
      let x15 ← (do
          if (y10) = true then (do
              some true)
          else (do
              let y18 ← W_Right p1
              some (!y18)) : Option Bool)
      if (x15) = true then (do
          some true)
      else (do
          let y23 ← W_Quote p1
          let q27 ← irem (IntKind.u64.wrap p4) 9
          let o36 ← Law_WordsBack_l1 q27 0 y23
          if (decide (((o36.length : Int)) > 3900)) = true then (do
              some true)
          else (do
              let _ ← req (o36.length + ([32, 35, 32, 98, 101, 104, 105, 110, 100] : List UInt8).length ≤ 9223372036854775807)
              let y49 ← W_Split (o36 ++ ([32, 35, 32, 98, 101, 104, 105, 110, 100] : List UInt8))
              let x55 ← (do
                  if (y49.2.2.isNone) = true then (do
                      some (((y49.1.length : Int)) == 1))
                  else (do
                      some false) : Option Bool)
              let x58 ← (do
                  if (x55) = true then (do
                      let e61 ← ix y49.1 0
                      some (e61.f_At == (IntKind.i64.wrap q27)))
                  else (do
                      some false) : Option Bool)
              let x74 ← (do
                  if (x58) = true then (do
                      let e77 ← ix y49.1 0
                      let y89 ← W_Same e77 ((⟨3, ([] : List UInt8), 0, p1, 0⟩ : W_Token))
                      some y89)
                  else (do
                      some false) : Option Bool)
              some x74)))

end Go.Proofs.YtekcconmnhjhiaaDoor
