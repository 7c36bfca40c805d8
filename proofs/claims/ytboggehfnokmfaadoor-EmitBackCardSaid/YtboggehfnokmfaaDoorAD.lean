/-
  What the code computes: plain functions, and the walks.: the plain functions.
-/
import Derived.Test.YtboggehfnokmfaaDoorSl15
import Derived.Test.YtboggehfnokmfaaDoorProg
set_option linter.unusedVariables false
set_option linter.unusedSimpArgs false
set_option maxRecDepth 10000
set_option maxHeartbeats 1000000
set_option synthInstance.maxHeartbeats 400000
set_option synthInstance.maxSize 2000
namespace Go.Proofs.YtboggehfnokmfaaDoor
open Go Go.RowKit Sl

structure iac_Token where
  f_Kind : Int
  f_Code : Int
  f_Option : Int
  f_Body : List UInt8
  f_Cut : Bool
def kiac_Token : Kd iac_Token := Kd.iso (Kd.pair (Kd.int .i64) (Kd.pair (Kd.int .i64) (Kd.pair (Kd.int .i64) (Kd.pair (Kd.slice Kd.u8) Kd.bool)))) (fun x => (x.f_Kind, (x.f_Code, (x.f_Option, (x.f_Body, x.f_Cut)))))
theorem kiac_Token_open {K : Hp} {x : iac_Token} {cs : List Value} (h : kiac_Token.rep K x cs) : ∃ v1, cs = [Value.int .i64 (x.f_Kind), Value.int .i64 (x.f_Code), Value.int .i64 (x.f_Option), v1, Value.bool (x.f_Cut)] ∧ Kd.u8.sl K v1 x.f_Body := by
  replace h : (Kd.pair (Kd.int .i64) (Kd.pair (Kd.int .i64) (Kd.pair (Kd.int .i64) (Kd.pair (Kd.slice Kd.u8) Kd.bool)))).rep K (x.f_Kind, (x.f_Code, (x.f_Option, (x.f_Body, x.f_Cut)))) cs := h
  obtain ⟨c0, d0, rfl, h0, h⟩ := h
  obtain rfl := h0
  obtain ⟨c1, d1, rfl, h1, h⟩ := h
  obtain rfl := h1
  obtain ⟨c2, d2, rfl, h2, h⟩ := h
  obtain rfl := h2
  obtain ⟨c3, d3, rfl, h3, h⟩ := h
  obtain ⟨v1, rfl, g0⟩ := h3
  obtain rfl := h
  exact ⟨v1, rfl, g0⟩
theorem kiac_Token_shut {K : Hp} {x : iac_Token} {v1 : Value} (g0 : Kd.u8.sl K v1 x.f_Body) : kiac_Token.rep K x [Value.int .i64 (x.f_Kind), Value.int .i64 (x.f_Code), Value.int .i64 (x.f_Option), v1, Value.bool (x.f_Cut)] := by
  show (Kd.pair (Kd.int .i64) (Kd.pair (Kd.int .i64) (Kd.pair (Kd.int .i64) (Kd.pair (Kd.slice Kd.u8) Kd.bool)))).rep K (x.f_Kind, (x.f_Code, (x.f_Option, (x.f_Body, x.f_Cut)))) [Value.int .i64 (x.f_Kind), Value.int .i64 (x.f_Code), Value.int .i64 (x.f_Option), v1, Value.bool (x.f_Cut)]
  exact ⟨[Value.int .i64 (x.f_Kind)], [Value.int .i64 (x.f_Code), Value.int .i64 (x.f_Option), v1, Value.bool (x.f_Cut)], rfl, rfl, ⟨[Value.int .i64 (x.f_Code)], [Value.int .i64 (x.f_Option), v1, Value.bool (x.f_Cut)], rfl, rfl, ⟨[Value.int .i64 (x.f_Option)], [v1, Value.bool (x.f_Cut)], rfl, rfl, ⟨[v1], [Value.bool (x.f_Cut)], rfl, ⟨v1, rfl, g0⟩, rfl⟩⟩⟩⟩

structure iac_Tokens where
  f_state : Int
  f_token : iac_Token
def kiac_Tokens : Kd iac_Tokens := Kd.iso (Kd.pair (Kd.int .i64) kiac_Token) (fun x => (x.f_state, x.f_token))
theorem kiac_Tokens_open {K : Hp} {x : iac_Tokens} {cs : List Value} (h : kiac_Tokens.rep K x cs) : ∃ v1, cs = [Value.int .i64 (x.f_state), Value.int .i64 (x.f_token.f_Kind), Value.int .i64 (x.f_token.f_Code), Value.int .i64 (x.f_token.f_Option), v1, Value.bool (x.f_token.f_Cut)] ∧ Kd.u8.sl K v1 x.f_token.f_Body := by
  replace h : (Kd.pair (Kd.int .i64) kiac_Token).rep K (x.f_state, x.f_token) cs := h
  obtain ⟨c0, d0, rfl, h0, h⟩ := h
  obtain rfl := h0
  obtain ⟨v1, rfl, g0⟩ := kiac_Token_open h
  exact ⟨v1, rfl, g0⟩
theorem kiac_Tokens_shut {K : Hp} {x : iac_Tokens} {v1 : Value} (g0 : Kd.u8.sl K v1 x.f_token.f_Body) : kiac_Tokens.rep K x [Value.int .i64 (x.f_state), Value.int .i64 (x.f_token.f_Kind), Value.int .i64 (x.f_token.f_Code), Value.int .i64 (x.f_token.f_Option), v1, Value.bool (x.f_token.f_Cut)] := by
  show (Kd.pair (Kd.int .i64) kiac_Token).rep K (x.f_state, x.f_token) [Value.int .i64 (x.f_state), Value.int .i64 (x.f_token.f_Kind), Value.int .i64 (x.f_token.f_Code), Value.int .i64 (x.f_token.f_Option), v1, Value.bool (x.f_token.f_Cut)]
  exact ⟨[Value.int .i64 (x.f_state)], [Value.int .i64 (x.f_token.f_Kind), Value.int .i64 (x.f_token.f_Code), Value.int .i64 (x.f_token.f_Option), v1, Value.bool (x.f_token.f_Cut)], rfl, rfl, (kiac_Token_shut g0)⟩

def Glob (w0 : World) : Prop := ∀ g, g ∈ [0, 1, 2] → IsErr w0 g

theorem mixed_ : Tryd.prog.follows .mixedOrders = true := by kernel_rfl
theorem ag_32 : aggT Tryd.prog 32 = some false := by kernel_rfl
theorem un_3 : Tryd.prog.underlying 3 = some (.int .i64) := by kernel_rfl
theorem un_5 : Tryd.prog.underlying 5 = some (.int .u8) := by kernel_rfl
theorem un_23 : Tryd.prog.underlying 23 = some (.slice 5) := by kernel_rfl
theorem ti_5 : tinfo Tryd.prog 5 = some (Value.int .u8 0, 1, 1) := by kernel_rfl
theorem ag_5 : aggT Tryd.prog 5 = some false := by kernel_rfl
theorem un_9 : Tryd.prog.underlying 9 = some (.string) := by kernel_rfl
theorem un_21 : Tryd.prog.underlying 21 = some (.int .i32) := by kernel_rfl
theorem if_32 : ifaceT Tryd.prog 32 = some true := by kernel_rfl
theorem fo_38_1 : fieldOff Tryd.prog 38 1 = some 1 := by kernel_rfl
theorem fo_26_3 : fieldOff Tryd.prog 26 3 = some 3 := by kernel_rfl
theorem ag_23 : aggT Tryd.prog 23 = some false := by kernel_rfl
theorem fo_26_4 : fieldOff Tryd.prog 26 4 = some 4 := by kernel_rfl
theorem ti_4 : tinfo Tryd.prog 4 = some (Value.bool (false), 1, 1) := by kernel_rfl
theorem ti_23 : tinfo Tryd.prog 23 = some (Value.slice none 0 0, 1, 24) := by kernel_rfl
theorem ti_26 : tinfo Tryd.prog 26 = some (Value.agg #[Value.int .i64 (0), Value.int .i64 (0), Value.int .i64 (0), Value.slice none 0 0, Value.bool (false)], 5, 56) := by kernel_rfl
theorem fo_38_0 : fieldOff Tryd.prog 38 0 = some 0 := by kernel_rfl
theorem ag_3 : aggT Tryd.prog 3 = some false := by kernel_rfl
theorem ti_3 : tinfo Tryd.prog 3 = some (Value.int .i64 (0), 1, 8) := by kernel_rfl
theorem ag_26 : aggT Tryd.prog 26 = some true := by kernel_rfl
theorem fo_26_1 : fieldOff Tryd.prog 26 1 = some 1 := by kernel_rfl
theorem fo_26_0 : fieldOff Tryd.prog 26 0 = some 0 := by kernel_rfl
theorem fo_26_2 : fieldOff Tryd.prog 26 2 = some 2 := by kernel_rfl
theorem un_22 : Tryd.prog.underlying 22 = some (.slice 26) := by kernel_rfl
theorem un_59 : Tryd.prog.underlying 59 = some (.slice 23) := by kernel_rfl
theorem ag_4 : aggT Tryd.prog 4 = some false := by kernel_rfl
theorem un_4 : Tryd.prog.underlying 4 = some (.bool) := by kernel_rfl

def codes_Verb (p1 : Int) : Option Bool := do
  let x2 ← (do
      if (decide (p1 ≥ 251)) = true then (do
          some (decide (p1 ≤ 254)))
      else (do
          some false) : Option Bool)
  some x2
def emit_byteable (p1 : Int) : Option Bool := do
  let x2 ← (do
      if (decide (p1 ≥ 0)) = true then (do
          some (decide (p1 ≤ 255)))
      else (do
          some false) : Option Bool)
  some x2
def emit_Verb (p1 : Int) (p2 : Int) : Option ((List UInt8) × (Option Nat)) := do
  let y3 ← codes_Verb p1
  if (!y3) = true then (do
      some ((([] : List UInt8), (some 0 : Option Nat))))
  else (do
      let y8 ← emit_byteable p2
      if (!y8) = true then (do
          some ((([] : List UInt8), (some 1 : Option Nat))))
      else (do
          some (([255, toB p1, toB p2], (none : Option Nat)))))
def unicode_utf8_RuneCountInString (p1 : List UInt8) : Option Int := do
  none
def unicode_utf8_RuneCount_l1 (p1 : List UInt8) (x8 : Int) : Option (Sum Int Int) := do
  if (decide (x8 < ((p1.length : Int)))) = true then (do
      let e16 ← ix p1 x8
      if (decide (128 ≤ e16)) = true then (do
          let s27 ← cutL p1 x8 ((p1.length : Int))
          let y32 ← unicode_utf8_RuneCountInString s27
          some (Sum.inr (w64 (x8 + y32))))
      else (do
          unicode_utf8_RuneCount_l1 p1 (w64 (x8 + 1))))
  else (do
      some (Sum.inl x8))
  partial_fixpoint
def unicode_utf8_RuneCount (p1 : List UInt8) : Option Int := do
  let o9 ← unicode_utf8_RuneCount_l1 p1 0
  match o9 with
  | Sum.inl x12 => do
      some x12
  | Sum.inr x14 => do
      some x14
def bytes_IndexByte (p1 : List UInt8) (p4 : UInt8) : Option Int := do
  some (idxB p1 p4)
def bytes_Equal (p1 : List UInt8) (p4 : List UInt8) : Option Bool := do
  some (p1 == p4)
def internal_bytealg_Cutover (p1 : Int) : Option Int := do
  let q2 ← iquo (w64 (p1 + 16)) 8
  some q2
def internal_bytealg_hashStr_byte (p1 : List UInt8) : Option (Int × Int) := do
  none
def internal_bytealg_IndexRabinKarp_byte (p1 : List UInt8) (p4 : List UInt8) : Option Int := do
  let y7 ← internal_bytealg_hashStr_byte p4
  none
def bytes_Index (p1 : List UInt8) (p4 : List UInt8) : Option Int := do
  if (((p4.length : Int)) == 0) = true then (do
      some 0)
  else (do
      if (((p4.length : Int)) == 1) = true then (do
          let e9 ← ix p4 0
          let y19 ← bytes_IndexByte p1 e9
          some y19)
      else (do
          if (((p4.length : Int)) == ((p1.length : Int))) = true then (do
              let y24 ← bytes_Equal p4 p1
              if (y24) = true then (do
                  some 0)
              else (do
                  some ((-1))))
          else (do
              if (decide (((p4.length : Int)) > ((p1.length : Int)))) = true then (do
                  some ((-1)))
              else (do
                  none))))
def bytes_Count_l1 (p4 : List UInt8) (x30 : Int) (x31 : List UInt8) : Option Int := do
  let y37 ← bytes_Index x31 p4
  if (y37 == ((-1))) = true then (do
      some x30)
  else (do
      let s42 ← cutL x31 ((w64 (y37 + ((p4.length : Int))))) ((x31.length : Int))
      bytes_Count_l1 p4 (w64 (x30 + 1)) s42)
  partial_fixpoint
def bytes_Count (p1 : List UInt8) (p4 : List UInt8) : Option Int := do
  if (((p4.length : Int)) == 0) = true then (do
      let y8 ← unicode_utf8_RuneCount p1
      some (w64 (y8 + 1)))
  else (do
      if (((p4.length : Int)) == 1) = true then (do
          let e13 ← ix p4 0
          some (cntB p1 e13))
      else (do
          let o34 ← bytes_Count_l1 p4 0 p1
          some o34))
def unicode_utf8_decodeRuneSlow (p1 : List UInt8) : Option (Int × Int) := do
  if (decide (((p1.length : Int)) < 1)) = true then (do
      some ((65533, 0)))
  else (do
      let e5 ← ix p1 0
      none)
def unicode_utf8_DecodeRune (p1 : List UInt8) : Option (Int × Int) := do
  let k5 := fun (_ : Unit) => (do
      let y27 ← unicode_utf8_decodeRuneSlow p1
      some ((y27.1, y27.2)))
  none
def bytes_Replace_l1 (x25 : Int) (p1 : List UInt8) (p4 : List UInt8) (p7 : List UInt8) (x45 : Int) (x46 : Int) (x47 : Int) (x48 : List UInt8) : Option (Int × Int × (List UInt8)) := do
  if (decide (x45 < x25)) = true then (do
      let s53 ← cutL p1 x46 ((p1.length : Int))
      let y58 ← bytes_Index s53 p4
      let s62 ← cutL x48 x47 ((x48.length : Int))
      let s68 ← cutL p1 x46 ((w64 (x46 + y58)))
      let s73 ← cutL (ovw x48 x47.toNat ((((x48.length : Int)).toNat - x47.toNat)) s68) ((w64 (x47 + (((min s68.length ((((x48.length : Int)).toNat - x47.toNat)) : Nat) : Int))))) (((ovw x48 x47.toNat ((((x48.length : Int)).toNat - x47.toNat)) s68).length : Int))
      bytes_Replace_l1 x25 p1 p4 p7 (w64 (x45 + 1)) (w64 ((w64 (x46 + y58)) + ((p4.length : Int)))) (w64 ((w64 (x47 + (((min s68.length ((((x48.length : Int)).toNat - x47.toNat)) : Nat) : Int)))) + (((min p7.length (((((ovw x48 x47.toNat ((((x48.length : Int)).toNat - x47.toNat)) s68).length : Int)).toNat - ((w64 (x47 + (((min s68.length ((((x48.length : Int)).toNat - x47.toNat)) : Nat) : Int))))).toNat)) : Nat) : Int)))) (ovw (ovw x48 x47.toNat ((((x48.length : Int)).toNat - x47.toNat)) s68) (((w64 (x47 + (((min s68.length ((((x48.length : Int)).toNat - x47.toNat)) : Nat) : Int))))).toNat) (((((ovw x48 x47.toNat ((((x48.length : Int)).toNat - x47.toNat)) s68).length : Int)).toNat - ((w64 (x47 + (((min s68.length ((((x48.length : Int)).toNat - x47.toNat)) : Nat) : Int))))).toNat)) p7))
  else (do
      some ((x47, x46, x48)))
  partial_fixpoint
def bytes_Replace_l2 (x25 : Int) (p1 : List UInt8) (p7 : List UInt8) (x92 : Int) (x93 : Int) (x94 : Int) (x95 : List UInt8) : Option (Int × Int × (List UInt8)) := do
  if (decide (x92 < (w64 (x25 - 1)))) = true then (do
      let s100 ← cutL p1 x94 ((p1.length : Int))
      let y105 ← unicode_utf8_DecodeRune s100
      let s109 ← cutL x95 x93 ((x95.length : Int))
      let s115 ← cutL p1 x94 ((w64 (x94 + y105.2)))
      let s120 ← cutL (ovw x95 x93.toNat ((((x95.length : Int)).toNat - x93.toNat)) s115) ((w64 (x93 + (((min s115.length ((((x95.length : Int)).toNat - x93.toNat)) : Nat) : Int))))) (((ovw x95 x93.toNat ((((x95.length : Int)).toNat - x93.toNat)) s115).length : Int))
      bytes_Replace_l2 x25 p1 p7 (w64 (x92 + 1)) (w64 ((w64 (x93 + (((min s115.length ((((x95.length : Int)).toNat - x93.toNat)) : Nat) : Int)))) + (((min p7.length (((((ovw x95 x93.toNat ((((x95.length : Int)).toNat - x93.toNat)) s115).length : Int)).toNat - ((w64 (x93 + (((min s115.length ((((x95.length : Int)).toNat - x93.toNat)) : Nat) : Int))))).toNat)) : Nat) : Int)))) (w64 (x94 + y105.2)) (ovw (ovw x95 x93.toNat ((((x95.length : Int)).toNat - x93.toNat)) s115) (((w64 (x93 + (((min s115.length ((((x95.length : Int)).toNat - x93.toNat)) : Nat) : Int))))).toNat) (((((ovw x95 x93.toNat ((((x95.length : Int)).toNat - x93.toNat)) s115).length : Int)).toNat - ((w64 (x93 + (((min s115.length ((((x95.length : Int)).toNat - x93.toNat)) : Nat) : Int))))).toNat)) p7))
  else (do
      some ((x93, x94, x95)))
  partial_fixpoint
def bytes_Replace (p1 : List UInt8) (p4 : List UInt8) (p7 : List UInt8) (p10 : Int) : Option (List UInt8) := do
  let x12 ← (do
      if (p10 != 0) = true then (do
          let y15 ← bytes_Count p1 p4
          some y15)
      else (do
          some 0) : Option Int)
  if (x12 == 0) = true then (do
      let _ ← req ((([] : List UInt8).length + p1.length) * 1 ≤ 140737488355328 ∧ ([] : List UInt8).length + p1.length ≤ 9223372036854775807)
      some (([] : List UInt8) ++ p1))
  else (do
      let x25 ← (do
          let x27 ← (do
              if (decide (p10 < 0)) = true then (do
                  some true)
              else (do
                  some (decide (x12 < p10))) : Option Bool)
          if (x27) = true then (do
              some x12)
          else (do
              some p10) : Option Int)
      let _ ← req (0 ≤ (w64 (((p1.length : Int)) + (w64 (x25 * (w64 (((p7.length : Int)) - ((p4.length : Int)))))))) ∧ (w64 (((p1.length : Int)) + (w64 (x25 * (w64 (((p7.length : Int)) - ((p4.length : Int)))))))) ≤ (w64 (((p1.length : Int)) + (w64 (x25 * (w64 (((p7.length : Int)) - ((p4.length : Int)))))))) ∧ (w64 (((p1.length : Int)) + (w64 (x25 * (w64 (((p7.length : Int)) - ((p4.length : Int)))))))) * 1 ≤ 140737488355328 ∧ (w64 (((p1.length : Int)) + (w64 (x25 * (w64 (((p7.length : Int)) - ((p4.length : Int)))))))) ≤ 9223372036854775807)
      let x35 ← (do
          if (decide (((p4.length : Int)) > 0)) = true then (do
              let o49 ← bytes_Replace_l1 x25 p1 p4 p7 0 0 0 (List.replicate (w64 (((p1.length : Int)) + (w64 (x25 * (w64 (((p7.length : Int)) - ((p4.length : Int)))))))).toNat (0 : UInt8))
              some ((o49.1, o49.2.1, o49.2.2)))
          else (do
              let s79 ← cutL (List.replicate (w64 (((p1.length : Int)) + (w64 (x25 * (w64 (((p7.length : Int)) - ((p4.length : Int)))))))).toNat (0 : UInt8)) 0 (((List.replicate (w64 (((p1.length : Int)) + (w64 (x25 * (w64 (((p7.length : Int)) - ((p4.length : Int)))))))).toNat (0 : UInt8)).length : Int))
              let o96 ← bytes_Replace_l2 x25 p1 p7 0 (w64 (0 + (((min p7.length (((((List.replicate (w64 (((p1.length : Int)) + (w64 (x25 * (w64 (((p7.length : Int)) - ((p4.length : Int)))))))).toNat (0 : UInt8)).length : Int)).toNat - 0)) : Nat) : Int)))) 0 (ovw (List.replicate (w64 (((p1.length : Int)) + (w64 (x25 * (w64 (((p7.length : Int)) - ((p4.length : Int)))))))).toNat (0 : UInt8)) 0 (((((List.replicate (w64 (((p1.length : Int)) + (w64 (x25 * (w64 (((p7.length : Int)) - ((p4.length : Int)))))))).toNat (0 : UInt8)).length : Int)).toNat - 0)) p7)
              some ((o96.1, o96.2.1, o96.2.2))) : Option (Int × Int × (List UInt8)))
      let s126 ← cutL x35.2.2 x35.1 ((x35.2.2.length : Int))
      let s132 ← cutL p1 x35.2.1 ((p1.length : Int))
      let s137 ← cutL (ovw x35.2.2 x35.1.toNat ((((x35.2.2.length : Int)).toNat - x35.1.toNat)) s132) 0 ((w64 (x35.1 + (((min s132.length ((((x35.2.2.length : Int)).toNat - x35.1.toNat)) : Nat) : Int)))))
      some ((ovw x35.2.2 x35.1.toNat ((((x35.2.2.length : Int)).toNat - x35.1.toNat)) s132).take (((w64 (x35.1 + (((min s132.length ((((x35.2.2.length : Int)).toNat - x35.1.toNat)) : Nat) : Int))))).toNat)))
def bytes_ReplaceAll (p1 : List UInt8) (p4 : List UInt8) (p7 : List UInt8) : Option (List UInt8) := do
  let y10 ← bytes_Replace p1 p4 p7 ((-1))
  some y10
def emit_Data (p1 : List UInt8) : Option (List UInt8) := do
  let y10 ← bytes_ReplaceAll p1 ([255] : List UInt8) [255, 255]
  some y10
def Law_alive : Option Bool := do
  let y1 ← emit_Verb 253 1
  let x7 ← (do
      if (y1.2.isNone) = true then (do
          some (y1.1 == ([255, 253, 1] : List UInt8)))
      else (do
          some false) : Option Bool)
  let x11 ← (do
      if (x7) = true then (do
          let y17 ← emit_Data [1, 255]
          some (y17 == ([1, 255, 255] : List UInt8)))
      else (do
          some false) : Option Bool)
  some x11
def iac_Tokens_add (p1 : iac_Tokens) (p5 : UInt8) : Option iac_Tokens := do
  if (decide (((p1.f_token.f_Body.length : Int)) ≥ 256)) = true then (do
      some ((⟨p1.f_state, (⟨p1.f_token.f_Kind, p1.f_token.f_Code, p1.f_token.f_Option, p1.f_token.f_Body, true⟩ : iac_Token)⟩ : iac_Tokens)))
  else (do
      let _ ← req ((p1.f_token.f_Body.length + ([p5] : List UInt8).length) * 1 ≤ 140737488355328 ∧ p1.f_token.f_Body.length + ([p5] : List UInt8).length ≤ 9223372036854775807)
      some ((⟨p1.f_state, (⟨p1.f_token.f_Kind, p1.f_token.f_Code, p1.f_token.f_Option, p1.f_token.f_Body ++ ([p5] : List UInt8), p1.f_token.f_Cut⟩ : iac_Token)⟩ : iac_Tokens)))
def iac_Tokens_Feed (p1 : iac_Tokens) (p5 : UInt8) : Option (iac_Token × Bool × iac_Tokens) := do
  if (p1.f_state == 1) = true then (do
      if (p5 == 255) = true then (do
          some (((⟨1, 255, 0, ([] : List UInt8), false⟩ : iac_Token), true, (⟨0, (⟨0, 0, 0, ([] : List UInt8), false⟩ : iac_Token)⟩ : iac_Tokens))))
      else (do
          if (p5 == 250) = true then (do
              some (((⟨0, 0, 0, ([] : List UInt8), false⟩ : iac_Token), false, (⟨3, (⟨p1.f_token.f_Kind, p1.f_token.f_Code, p1.f_token.f_Option, p1.f_token.f_Body, p1.f_token.f_Cut⟩ : iac_Token)⟩ : iac_Tokens))))
          else (do
              let y14 ← codes_Verb (b8 p5)
              if (y14) = true then (do
                  some (((⟨0, 0, 0, ([] : List UInt8), false⟩ : iac_Token), false, (⟨2, (⟨0, b8 p5, 0, ([] : List UInt8), false⟩ : iac_Token)⟩ : iac_Tokens))))
              else (do
                  some (((⟨2, b8 p5, 0, ([] : List UInt8), false⟩ : iac_Token), true, (⟨0, (⟨0, 0, 0, ([] : List UInt8), false⟩ : iac_Token)⟩ : iac_Tokens)))))))
  else (do
      if (p1.f_state == 2) = true then (do
          some (((⟨3, p1.f_token.f_Code, b8 p5, ([] : List UInt8), false⟩ : iac_Token), true, (⟨0, (⟨0, 0, 0, ([] : List UInt8), false⟩ : iac_Token)⟩ : iac_Tokens))))
      else (do
          if (p1.f_state == 3) = true then (do
              some (((⟨0, 0, 0, ([] : List UInt8), false⟩ : iac_Token), false, (⟨4, (⟨0, 0, b8 p5, ([] : List UInt8), false⟩ : iac_Token)⟩ : iac_Tokens))))
          else (do
              if (p1.f_state == 4) = true then (do
                  if (p5 == 255) = true then (do
                      some (((⟨0, 0, 0, ([] : List UInt8), false⟩ : iac_Token), false, (⟨5, (⟨p1.f_token.f_Kind, p1.f_token.f_Code, p1.f_token.f_Option, p1.f_token.f_Body, p1.f_token.f_Cut⟩ : iac_Token)⟩ : iac_Tokens))))
                  else (do
                      let y27 ← iac_Tokens_add ((⟨p1.f_state, (⟨p1.f_token.f_Kind, p1.f_token.f_Code, p1.f_token.f_Option, p1.f_token.f_Body, p1.f_token.f_Cut⟩ : iac_Token)⟩ : iac_Tokens)) p5
                      some (((⟨0, 0, 0, ([] : List UInt8), false⟩ : iac_Token), false, (⟨y27.f_state, (⟨y27.f_token.f_Kind, y27.f_token.f_Code, y27.f_token.f_Option, y27.f_token.f_Body, y27.f_token.f_Cut⟩ : iac_Token)⟩ : iac_Tokens)))))
              else (do
                  if (p1.f_state == 5) = true then (do
                      if (p5 == 255) = true then (do
                          let y35 ← iac_Tokens_add ((⟨4, (⟨p1.f_token.f_Kind, p1.f_token.f_Code, p1.f_token.f_Option, p1.f_token.f_Body, p1.f_token.f_Cut⟩ : iac_Token)⟩ : iac_Tokens)) p5
                          some (((⟨0, 0, 0, ([] : List UInt8), false⟩ : iac_Token), false, (⟨y35.f_state, (⟨y35.f_token.f_Kind, y35.f_token.f_Code, y35.f_token.f_Option, y35.f_token.f_Body, y35.f_token.f_Cut⟩ : iac_Token)⟩ : iac_Tokens))))
                      else (do
                          if (p5 == 240) = true then (do
                              some (((⟨4, p1.f_token.f_Code, p1.f_token.f_Option, p1.f_token.f_Body, p1.f_token.f_Cut⟩ : iac_Token), true, (⟨0, (⟨0, 0, 0, ([] : List UInt8), false⟩ : iac_Token)⟩ : iac_Tokens))))
                          else (do
                              some (((⟨5, b8 p5, p1.f_token.f_Option, ([] : List UInt8), false⟩ : iac_Token), true, (⟨0, (⟨0, 0, 0, ([] : List UInt8), false⟩ : iac_Token)⟩ : iac_Tokens))))))
                  else (do
                      if (p5 == 255) = true then (do
                          some (((⟨0, 0, 0, ([] : List UInt8), false⟩ : iac_Token), false, (⟨1, (⟨p1.f_token.f_Kind, p1.f_token.f_Code, p1.f_token.f_Option, p1.f_token.f_Body, p1.f_token.f_Cut⟩ : iac_Token)⟩ : iac_Tokens))))
                      else (do
                          some (((⟨1, b8 p5, 0, ([] : List UInt8), false⟩ : iac_Token), true, (⟨0, (⟨0, 0, 0, ([] : List UInt8), false⟩ : iac_Token)⟩ : iac_Tokens)))))))))
def slices_Clone_byte_byte (p1 : List UInt8) : Option (List UInt8) := do
  let _ ← req ((([] : List UInt8).length + p1.length) * 1 ≤ 140737488355328 ∧ ([] : List UInt8).length + p1.length ≤ 9223372036854775807)
  some (([] : List UInt8) ++ p1)
def iac_Tokens_Idle (p1 : iac_Tokens) : Option (Bool × iac_Tokens) := do
  some ((p1.f_state == 0, (⟨p1.f_state, (⟨p1.f_token.f_Kind, p1.f_token.f_Code, p1.f_token.f_Option, p1.f_token.f_Body, p1.f_token.f_Cut⟩ : iac_Token)⟩ : iac_Tokens)))
def iac_All_l1 (p1 : List UInt8) (z14 : Int × (List iac_Token) × Int × Int × Int × Int × Bool × (List UInt8)) : Option ((List iac_Token) × Int × Int × Int × Int × Bool × (List UInt8)) := do
  if (decide (z14.1 < ((p1.length : Int)))) = true then (do
      let x24 ← (do
          let e28 ← ix p1 z14.1
          let y38 ← iac_Tokens_Feed ((⟨z14.2.2.1, (⟨z14.2.2.2.1, z14.2.2.2.2.1, z14.2.2.2.2.2.1, z14.2.2.2.2.2.2.2, z14.2.2.2.2.2.2.1⟩ : iac_Token)⟩ : iac_Tokens)) e28
          if (y38.2.1) = true then (do
              let y49 ← slices_Clone_byte_byte y38.1.f_Body
              let _ ← req ((z14.2.1.length + [(⟨y38.1.f_Kind, y38.1.f_Code, y38.1.f_Option, y49, y38.1.f_Cut⟩ : iac_Token)].length) * 56 ≤ 140737488355328 ∧ z14.2.1.length + [(⟨y38.1.f_Kind, y38.1.f_Code, y38.1.f_Option, y49, y38.1.f_Cut⟩ : iac_Token)].length ≤ 9223372036854775807)
              some ((z14.2.1 ++ [(⟨y38.1.f_Kind, y38.1.f_Code, y38.1.f_Option, y49, y38.1.f_Cut⟩ : iac_Token)], y38.2.2.f_state, y38.2.2.f_token.f_Kind, y38.2.2.f_token.f_Code, y38.2.2.f_token.f_Option, y38.2.2.f_token.f_Cut, y38.2.2.f_token.f_Body)))
          else (do
              some ((z14.2.1, y38.2.2.f_state, y38.2.2.f_token.f_Kind, y38.2.2.f_token.f_Code, y38.2.2.f_token.f_Option, y38.2.2.f_token.f_Cut, y38.2.2.f_token.f_Body))) : Option ((List iac_Token) × Int × Int × Int × Int × Bool × (List UInt8)))
      iac_All_l1 p1 ((w64 (z14.1 + 1), x24.1, x24.2.1, x24.2.2.1, x24.2.2.2.1, x24.2.2.2.2.1, x24.2.2.2.2.2.1, x24.2.2.2.2.2.2)))
  else (do
      some ((z14.2.1, z14.2.2.1, z14.2.2.2.1, z14.2.2.2.2.1, z14.2.2.2.2.2.1, z14.2.2.2.2.2.2.1, z14.2.2.2.2.2.2.2)))
  partial_fixpoint
def iac_All (p1 : List UInt8) : Option ((List iac_Token) × Bool) := do
  let o17 ← iac_All_l1 p1 ((0, ([] : List iac_Token), 0, 0, 0, 0, false, ([] : List UInt8)))
  let y60 ← iac_Tokens_Idle ((⟨o17.2.1, (⟨o17.2.2.1, o17.2.2.2.1, o17.2.2.2.2.1, o17.2.2.2.2.2.2, o17.2.2.2.2.2.1⟩ : iac_Token)⟩ : iac_Tokens))
  some ((o17.1, y60.1))
def codes_Plain (p1 : Int) : Option Bool := do
  let x2 ← (do
      if (decide (p1 ≥ 241)) = true then (do
          some (decide (p1 ≤ 249)))
      else (do
          some false) : Option Bool)
  some x2
def emit_Plain (p1 : Int) : Option ((List UInt8) × (Option Nat)) := do
  let y2 ← codes_Plain p1
  if (!y2) = true then (do
      some ((([] : List UInt8), (some 0 : Option Nat))))
  else (do
      some (([255, toB p1], (none : Option Nat))))
def slices_Grow_byte_byte (p2 : Int) : Option (List UInt8) := do
  let x4 ← (do
      if (decide (p2 < 0)) = true then (do
          none)
      else (do
          some (())) : Option Unit)
  let x7 ← (do
      if (decide ((w64 (p2 - (w64 (0 - 0)))) > 0)) = true then (do
          let _ ← req (0 < (w64 (p2 - (w64 (0 - 0)))) ∧ (w64 (p2 - (w64 (0 - 0)))) * 1 ≤ 140737488355328 ∧ (w64 (p2 - (w64 (0 - 0)))) ≤ 9223372036854775807)
          let s14 ← cutL (List.replicate (w64 (p2 - (w64 (0 - 0)))).toNat (0 : UInt8)) 0 0
          some ((List.replicate (w64 (p2 - (w64 (0 - 0)))).toNat (0 : UInt8)).take 0))
      else (do
          some ([] : List UInt8)) : Option (List UInt8))
  some x7
def slices_Concat_byte_byte_l1 (p1 : List (List UInt8)) (x9 : Int) (x10 : Int) : Option Int := do
  if (decide (x9 < ((p1.length : Int)))) = true then (do
      let x15 ← (do
          let e17 ← ix p1 x9
          if (decide ((w64 (x10 + ((e17.length : Int)))) < 0)) = true then (do
              none)
          else (do
              some (w64 (x10 + ((e17.length : Int))))) : Option Int)
      slices_Concat_byte_byte_l1 p1 (w64 (x9 + 1)) x15)
  else (do
      some x10)
  partial_fixpoint
def slices_Concat_byte_byte_l2 (p1 : List (List UInt8)) (x42 : Int) (x43 : List UInt8) : Option (List UInt8) := do
  if (decide (x42 < ((p1.length : Int)))) = true then (do
      let e50 ← ix p1 x42
      let _ ← req ((x43.length + e50.length) * 1 ≤ 140737488355328 ∧ x43.length + e50.length ≤ 9223372036854775807)
      slices_Concat_byte_byte_l2 p1 (w64 (x42 + 1)) (x43 ++ e50))
  else (do
      some x43)
  partial_fixpoint
def slices_Concat_byte_byte (p1 : List (List UInt8)) : Option (List UInt8) := do
  let o11 ← slices_Concat_byte_byte_l1 p1 0 0
  let y30 ← slices_Grow_byte_byte o11
  let o45 ← slices_Concat_byte_byte_l2 p1 0 y30
  some o45
def emit_Sub (p1 : Int) (p2 : List UInt8) : Option ((List UInt8) × (Option Nat)) := do
  let y5 ← emit_byteable p1
  if (!y5) = true then (do
      some ((([] : List UInt8), (some 1 : Option Nat))))
  else (do
      if (decide (((p2.length : Int)) > 256)) = true then (do
          some ((([] : List UInt8), (some 2 : Option Nat))))
      else (do
          let y14 ← emit_Data p2
          let y26 ← slices_Concat_byte_byte ([[255, 250, toB p1], y14, [255, 240]])
          some ((y26, (none : Option Nat)))))
def emit_Token (p1 : iac_Token) : Option ((List UInt8) × (Option Nat)) := do
  if (p1.f_Kind == 1) = true then (do
      let y7 ← emit_byteable p1.f_Code
      if (!y7) = true then (do
          some ((([] : List UInt8), (some 1 : Option Nat))))
      else (do
          let y15 ← emit_Data ([toB p1.f_Code] : List UInt8)
          some ((y15, (none : Option Nat)))))
  else (do
      if (p1.f_Kind == 2) = true then (do
          let y22 ← emit_Plain p1.f_Code
          some ((y22.1, y22.2)))
      else (do
          if (p1.f_Kind == 3) = true then (do
              let y29 ← emit_Verb p1.f_Code p1.f_Option
              some ((y29.1, y29.2)))
          else (do
              if (p1.f_Kind == 4) = true then (do
                  let y36 ← emit_Sub p1.f_Option p1.f_Body
                  let x42 ← (do
                      if (y36.2.isNone) = true then (do
                          some p1.f_Cut)
                      else (do
                          some false) : Option Bool)
                  if (x42) = true then (do
                      some ((([] : List UInt8), (some 2 : Option Nat))))
                  else (do
                      some ((y36.1, y36.2))))
              else (do
                  some ((([] : List UInt8), (some 0 : Option Nat)))))))
def emit_All_l1 (p1 : List iac_Token) (x11 : Int) (x12 : List UInt8) : Option (Sum (List UInt8) ((Option Nat) × (List UInt8))) := do
  if (decide (x11 < ((p1.length : Int)))) = true then (do
      let e23 ← ix p1 x11
      let y37 ← emit_Token e23
      if (y37.2.isSome) = true then (do
          some (Sum.inr ((y37.2, x12))))
      else (do
          let _ ← req ((x12.length + y37.1.length) * 1 ≤ 140737488355328 ∧ x12.length + y37.1.length ≤ 9223372036854775807)
          emit_All_l1 p1 (w64 (x11 + 1)) (x12 ++ y37.1)))
  else (do
      some (Sum.inl x12))
  partial_fixpoint
def emit_All (p1 : List iac_Token) : Option ((List UInt8) × (Option Nat)) := do
  let o14 ← emit_All_l1 p1 0 ([] : List UInt8)
  match o14 with
  | Sum.inl x17 => do
      some ((x17, (none : Option Nat)))
  | Sum.inr x20 => do
      some ((([] : List UInt8), x20.1))
def iac_Same (p1 : iac_Token) (p4 : iac_Token) : Option Bool := do
  let x11 ← (do
      if (p1.f_Kind == p4.f_Kind) = true then (do
          some (p1.f_Code == p4.f_Code))
      else (do
          some false) : Option Bool)
  let x14 ← (do
      if (x11) = true then (do
          some (p1.f_Option == p4.f_Option))
      else (do
          some false) : Option Bool)
  let x17 ← (do
      if (x14) = true then (do
          some (p1.f_Cut == p4.f_Cut))
      else (do
          some false) : Option Bool)
  let x21 ← (do
      if (x17) = true then (do
          let y24 ← bytes_Equal p1.f_Body p4.f_Body
          some y24)
      else (do
          some false) : Option Bool)
  some x21
def Law_back_l1 (p1 : List iac_Token) (y11 : (List iac_Token) × Bool) (x25 : Int) : Option (Sum Unit Unit) := do
  if (decide (x25 < ((p1.length : Int)))) = true then (do
      let k34 := fun (_ : Unit) => (do
          Law_back_l1 p1 y11 (w64 (x25 + 1)))
      let e36 ← ix p1 x25
      let x52 ← (do
          if (e36.f_Kind != 4) = true then (do
              some e36.f_Code)
          else (do
              some 0) : Option Int)
      let x55 ← (do
          let x57 ← (do
              if (e36.f_Kind == 3) = true then (do
                  some true)
              else (do
                  some (e36.f_Kind == 4)) : Option Bool)
          if (x57) = true then (do
              some e36.f_Option)
          else (do
              some 0) : Option Int)
      let x61 ← (do
          if (e36.f_Kind == 4) = true then (do
              some e36.f_Body)
          else (do
              some ([] : List UInt8)) : Option (List UInt8))
      let e66 ← ix y11.1 x25
      let y78 ← iac_Same e66 ((⟨e36.f_Kind, x52, x55, x61, false⟩ : iac_Token))
      if (!y78) = true then (do
          some (Sum.inr (())))
      else (do
          k34 ()))
  else (do
      some (Sum.inl (())))
  partial_fixpoint
def Law_back (p1 : List iac_Token) : Option Bool := do
  let y4 ← emit_All p1
  if (y4.2.isSome) = true then (do
      some (((y4.1.length : Int)) == 0))
  else (do
      let y11 ← iac_All y4.1
      let x17 ← (do
          if (!y11.2) = true then (do
              some true)
          else (do
              some (((y11.1.length : Int)) != ((p1.length : Int)))) : Option Bool)
      if (x17) = true then (do
          some false)
      else (do
          let o26 ← Law_back_l1 p1 y11 0
          match o26 with
          | Sum.inl x29 => do
              some true
          | Sum.inr x31 => do
              some false))
def Law_EmitBack_l1 (p1 : List iac_Token) (x20 : Int) : Option (Sum Unit Unit) := do
  if (decide (x20 < ((p1.length : Int)))) = true then (do
      let e28 ← ix p1 x20
      if (decide (((e28.f_Body.length : Int)) > 400)) = true then (do
          some (Sum.inr (())))
      else (do
          Law_EmitBack_l1 p1 (w64 (x20 + 1))))
  else (do
      some (Sum.inl (())))
  partial_fixpoint
def Law_EmitBack (p1 : List iac_Token) (p4 : List UInt8) : Option Bool := do
  let y7 ← Law_alive
  if (!y7) = true then (do
      some false)
  else (do
      let x12 ← (do
          if (decide (((p1.length : Int)) > 30)) = true then (do
              some true)
          else (do
              some (decide (((p4.length : Int)) > 600))) : Option Bool)
      if (x12) = true then (do
          some true)
      else (do
          let o21 ← Law_EmitBack_l1 p1 0
          match o21 with
          | Sum.inl x24 => do
              let y43 ← iac_All p4
              let y49 ← Law_back p1
              let x54 ← (do
                  if (y49) = true then (do
                      let y57 ← Law_back y43.1
                      some y57)
                  else (do
                      some false) : Option Bool)
              some x54
          | Sum.inr x26 => do
              some true))

end Go.Proofs.YtboggehfnokmfaaDoor
