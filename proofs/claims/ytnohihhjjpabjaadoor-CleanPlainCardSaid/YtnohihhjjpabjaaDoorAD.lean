/-
  What the code computes: plain functions, and the walks.: the plain functions.
-/
import Derived.Test.YtnohihhjjpabjaaDoorSl15
import Derived.Test.YtnohihhjjpabjaaDoorProg
set_option linter.unusedVariables false
set_option linter.unusedSimpArgs false
set_option maxRecDepth 10000
set_option maxHeartbeats 1000000
set_option synthInstance.maxHeartbeats 400000
set_option synthInstance.maxSize 2000
namespace Go.Proofs.YtnohihhjjpabjaaDoor
open Go Go.RowKit Sl

structure iac_Token where
  f_Kind : Int
  f_Code : Int
  f_Option : Int
  f_Body : List UInt8
  f_Cut : Bool
def kiac_Token : Kd iac_Token := Kd.iso (Kd.pair (Kd.int .i64) (Kd.pair (Kd.int .i64) (Kd.pair (Kd.int .i64) (Kd.pair (Kd.slice Kd.u8) Kd.bool)))) (fun x => (x.f_Kind, (x.f_Code, (x.f_Option, (x.f_Body, x.f_Cut)))))
theorem kiac_Token_open {K : Hp} {x : iac_Token} {cs : List Value} (h : kiac_Token.rep K x cs) : ∃ v1, cs = [Value.int .i64 (x.f_Kind), Value.int .i64 (x.f_Code), Value.int .i64 (x.f_Option), v1, Value.bool (x.f_Cut)] ∧ Kd.u8.sl K v1 x.f_Body := by
  replace h : (Kd.pair (Kd.int .i64) (Kd.pair (Kd.int .i64) (Kd.pair (Kd.int .i64) (Kd.pair (Kd.slice Kd.u8) Kd.bool)))).rep K (x.f_Kind, (x.f_Code, (x.f_Option, (x.f_Body, x.f_Cut)))) cs := h
  obtain ⟨c0, d0, rfl, h0, h⟩ := h
  obtain rfl := h0
  obtain ⟨c1, d1, rfl, h1, h⟩ := h
  obtain rfl := h1
  obtain ⟨c2, d2, rfl, h2, h⟩ := h
  obtain rfl := h2
  obtain ⟨c3, d3, rfl, h3, h⟩ := h
  obtain ⟨v1, rfl, g0⟩ := h3
  obtain rfl := h
  exact ⟨v1, rfl, g0⟩
theorem kiac_Token_shut {K : Hp} {x : iac_Token} {v1 : Value} (g0 : Kd.u8.sl K v1 x.f_Body) : kiac_Token.rep K x [Value.int .i64 (x.f_Kind), Value.int .i64 (x.f_Code), Value.int .i64 (x.f_Option), v1, Value.bool (x.f_Cut)] := by
  show (Kd.pair (Kd.int .i64) (Kd.pair (Kd.int .i64) (Kd.pair (Kd.int .i64) (Kd.pair (Kd.slice Kd.u8) Kd.bool)))).rep K (x.f_Kind, (x.f_Code, (x.f_Option, (x.f_Body, x.f_Cut)))) [Value.int .i64 (x.f_Kind), Value.int .i64 (x.f_Code), Value.int .i64 (x.f_Option), v1, Value.bool (x.f_Cut)]
  exact ⟨[Value.int .i64 (x.f_Kind)], [Value.int .i64 (x.f_Code), Value.int .i64 (x.f_Option), v1, Value.bool (x.f_Cut)], rfl, rfl, ⟨[Value.int .i64 (x.f_Code)], [Value.int .i64 (x.f_Option), v1, Value.bool (x.f_Cut)], rfl, rfl, ⟨[Value.int .i64 (x.f_Option)], [v1, Value.bool (x.f_Cut)], rfl, rfl, ⟨[v1], [Value.bool (x.f_Cut)], rfl, ⟨v1, rfl, g0⟩, rfl⟩⟩⟩⟩

structure iac_Tokens where
  f_state : Int
  f_token : iac_Token
def kiac_Tokens : Kd iac_Tokens := Kd.iso (Kd.pair (Kd.int .i64) kiac_Token) (fun x => (x.f_state, x.f_token))
theorem kiac_Tokens_open {K : Hp} {x : iac_Tokens} {cs : List Value} (h : kiac_Tokens.rep K x cs) : ∃ v1, cs = [Value.int .i64 (x.f_state), Value.int .i64 (x.f_token.f_Kind), Value.int .i64 (x.f_token.f_Code), Value.int .i64 (x.f_token.f_Option), v1, Value.bool (x.f_token.f_Cut)] ∧ Kd.u8.sl K v1 x.f_token.f_Body := by
  replace h : (Kd.pair (Kd.int .i64) kiac_Token).rep K (x.f_state, x.f_token) cs := h
  obtain ⟨c0, d0, rfl, h0, h⟩ := h
  obtain rfl := h0
  obtain ⟨v1, rfl, g0⟩ := kiac_Token_open h
  exact ⟨v1, rfl, g0⟩
theorem kiac_Tokens_shut {K : Hp} {x : iac_Tokens} {v1 : Value} (g0 : Kd.u8.sl K v1 x.f_token.f_Body) : kiac_Tokens.rep K x [Value.int .i64 (x.f_state), Value.int .i64 (x.f_token.f_Kind), Value.int .i64 (x.f_token.f_Code), Value.int .i64 (x.f_token.f_Option), v1, Value.bool (x.f_token.f_Cut)] := by
  show (Kd.pair (Kd.int .i64) kiac_Token).rep K (x.f_state, x.f_token) [Value.int .i64 (x.f_state), Value.int .i64 (x.f_token.f_Kind), Value.int .i64 (x.f_token.f_Code), Value.int .i64 (x.f_token.f_Option), v1, Value.bool (x.f_token.f_Cut)]
  exact ⟨[Value.int .i64 (x.f_state)], [Value.int .i64 (x.f_token.f_Kind), Value.int .i64 (x.f_token.f_Code), Value.int .i64 (x.f_token.f_Option), v1, Value.bool (x.f_token.f_Cut)], rfl, rfl, (kiac_Token_shut g0)⟩

structure nvt_In where
  f_behind : Bool
def knvt_In : Kd nvt_In := Kd.iso Kd.bool (fun x => x.f_behind)
theorem knvt_In_open {K : Hp} {x : nvt_In} {cs : List Value} (h : knvt_In.rep K x cs) : cs = [Value.bool (x.f_behind)] := by
  replace h : Kd.bool.rep K x.f_behind cs := h
  obtain rfl := h
  rfl
theorem knvt_In_shut {K : Hp} {x : nvt_In} : knvt_In.rep K x [Value.bool (x.f_behind)] := by
  show Kd.bool.rep K x.f_behind [Value.bool (x.f_behind)]
  exact rfl

structure clean_Cleaner where
  f_tokens : iac_Tokens
  f_in : nvt_In
  f_deaf : Bool
def kclean_Cleaner : Kd clean_Cleaner := Kd.iso (Kd.pair kiac_Tokens (Kd.pair knvt_In Kd.bool)) (fun x => (x.f_tokens, (x.f_in, x.f_deaf)))
theorem kclean_Cleaner_open {K : Hp} {x : clean_Cleaner} {cs : List Value} (h : kclean_Cleaner.rep K x cs) : ∃ v1, cs = [Value.int .i64 (x.f_tokens.f_state), Value.int .i64 (x.f_tokens.f_token.f_Kind), Value.int .i64 (x.f_tokens.f_token.f_Code), Value.int .i64 (x.f_tokens.f_token.f_Option), v1, Value.bool (x.f_tokens.f_token.f_Cut), Value.bool (x.f_in.f_behind), Value.bool (x.f_deaf)] ∧ Kd.u8.sl K v1 x.f_tokens.f_token.f_Body := by
  replace h : (Kd.pair kiac_Tokens (Kd.pair knvt_In Kd.bool)).rep K (x.f_tokens, (x.f_in, x.f_deaf)) cs := h
  obtain ⟨c0, d0, rfl, h0, h⟩ := h
  obtain ⟨v1, rfl, g0⟩ := kiac_Tokens_open h0
  obtain ⟨c1, d1, rfl, h1, h⟩ := h
  obtain rfl := knvt_In_open h1
  obtain rfl := h
  exact ⟨v1, rfl, g0⟩
theorem kclean_Cleaner_shut {K : Hp} {x : clean_Cleaner} {v1 : Value} (g0 : Kd.u8.sl K v1 x.f_tokens.f_token.f_Body) : kclean_Cleaner.rep K x [Value.int .i64 (x.f_tokens.f_state), Value.int .i64 (x.f_tokens.f_token.f_Kind), Value.int .i64 (x.f_tokens.f_token.f_Code), Value.int .i64 (x.f_tokens.f_token.f_Option), v1, Value.bool (x.f_tokens.f_token.f_Cut), Value.bool (x.f_in.f_behind), Value.bool (x.f_deaf)] := by
  show (Kd.pair kiac_Tokens (Kd.pair knvt_In Kd.bool)).rep K (x.f_tokens, (x.f_in, x.f_deaf)) [Value.int .i64 (x.f_tokens.f_state), Value.int .i64 (x.f_tokens.f_token.f_Kind), Value.int .i64 (x.f_tokens.f_token.f_Code), Value.int .i64 (x.f_tokens.f_token.f_Option), v1, Value.bool (x.f_tokens.f_token.f_Cut), Value.bool (x.f_in.f_behind), Value.bool (x.f_deaf)]
  exact ⟨[Value.int .i64 (x.f_tokens.f_state), Value.int .i64 (x.f_tokens.f_token.f_Kind), Value.int .i64 (x.f_tokens.f_token.f_Code), Value.int .i64 (x.f_tokens.f_token.f_Option), v1, Value.bool (x.f_tokens.f_token.f_Cut)], [Value.bool (x.f_in.f_behind), Value.bool (x.f_deaf)], rfl, (kiac_Tokens_shut g0), ⟨[Value.bool (x.f_in.f_behind)], [Value.bool (x.f_deaf)], rfl, (knvt_In_shut), rfl⟩⟩

def Glob (w0 : World) : Prop := ∀ g, g ∈ [0, 1] → IsErr w0 g

theorem mixed_ : Tryd.prog.follows .mixedOrders = true := by kernel_rfl
theorem un_40 : Tryd.prog.underlying 40 = some (.slice 3) := by kernel_rfl
theorem ti_3 : tinfo Tryd.prog 3 = some (Value.int .i64 (0), 1, 8) := by kernel_rfl
theorem ag_3 : aggT Tryd.prog 3 = some false := by kernel_rfl
theorem fo_43_1 : fieldOff Tryd.prog 43 1 = some 1 := by kernel_rfl
theorem fo_30_3 : fieldOff Tryd.prog 30 3 = some 3 := by kernel_rfl
theorem ag_22 : aggT Tryd.prog 22 = some false := by kernel_rfl
theorem un_22 : Tryd.prog.underlying 22 = some (.slice 5) := by kernel_rfl
theorem fo_30_4 : fieldOff Tryd.prog 30 4 = some 4 := by kernel_rfl
theorem ti_4 : tinfo Tryd.prog 4 = some (Value.bool (false), 1, 1) := by kernel_rfl
theorem ti_5 : tinfo Tryd.prog 5 = some (Value.int .u8 0, 1, 1) := by kernel_rfl
theorem ti_22 : tinfo Tryd.prog 22 = some (Value.slice none 0 0, 1, 24) := by kernel_rfl
theorem ti_30 : tinfo Tryd.prog 30 = some (Value.agg #[Value.int .i64 (0), Value.int .i64 (0), Value.int .i64 (0), Value.slice none 0 0, Value.bool (false)], 5, 56) := by kernel_rfl
theorem fo_43_0 : fieldOff Tryd.prog 43 0 = some 0 := by kernel_rfl
theorem ag_30 : aggT Tryd.prog 30 = some true := by kernel_rfl
theorem un_5 : Tryd.prog.underlying 5 = some (.int .u8) := by kernel_rfl
theorem un_3 : Tryd.prog.underlying 3 = some (.int .i64) := by kernel_rfl
theorem fo_30_1 : fieldOff Tryd.prog 30 1 = some 1 := by kernel_rfl
theorem fo_30_0 : fieldOff Tryd.prog 30 0 = some 0 := by kernel_rfl
theorem fo_30_2 : fieldOff Tryd.prog 30 2 = some 2 := by kernel_rfl
theorem fo_48_0 : fieldOff Tryd.prog 48 0 = some 0 := by kernel_rfl
theorem ag_4 : aggT Tryd.prog 4 = some false := by kernel_rfl
theorem fo_50_2 : fieldOff Tryd.prog 50 2 = some 7 := by kernel_rfl
theorem fo_50_1 : fieldOff Tryd.prog 50 1 = some 6 := by kernel_rfl
theorem fo_50_0 : fieldOff Tryd.prog 50 0 = some 0 := by kernel_rfl
theorem ag_5 : aggT Tryd.prog 5 = some false := by kernel_rfl
theorem un_25 : Tryd.prog.underlying 25 = some (.slice 30) := by kernel_rfl
theorem un_9 : Tryd.prog.underlying 9 = some (.string) := by kernel_rfl
theorem un_4 : Tryd.prog.underlying 4 = some (.bool) := by kernel_rfl
theorem un_21 : Tryd.prog.underlying 21 = some (.int .i32) := by kernel_rfl
theorem ag_35 : aggT Tryd.prog 35 = some false := by kernel_rfl
theorem un_23 : Tryd.prog.underlying 23 = some (.slice 22) := by kernel_rfl
theorem if_35 : ifaceT Tryd.prog 35 = some true := by kernel_rfl

def slices_Index_int_int_l1 (p1 : List Int) (p4 : Int) (x9 : Int) : Option (Sum Unit Int) := do
  if (decide (x9 < ((p1.length : Int)))) = true then (do
      let e17 ← ix p1 x9
      if (p4 == e17) = true then (do
          some (Sum.inr x9))
      else (do
          slices_Index_int_int_l1 p1 p4 (w64 (x9 + 1))))
  else (do
      some (Sum.inl (())))
  partial_fixpoint
def slices_Index_int_int (p1 : List Int) (p4 : Int) : Option Int := do
  let o10 ← slices_Index_int_int_l1 p1 p4 0
  match o10 with
  | Sum.inl x13 => do
      some ((-1))
  | Sum.inr x15 => do
      some x15
def slices_Contains_int_int (p1 : List Int) (p4 : Int) : Option Bool := do
  let y5 ← slices_Index_int_int p1 p4
  some (decide (y5 ≥ 0))
def codes_Verb (p1 : Int) : Option Bool := do
  let x2 ← (do
      if (decide (p1 ≥ 251)) = true then (do
          some (decide (p1 ≤ 254)))
      else (do
          some false) : Option Bool)
  some x2
def iac_Tokens_add (p1 : iac_Tokens) (p5 : UInt8) : Option iac_Tokens := do
  if (decide (((p1.f_token.f_Body.length : Int)) ≥ 256)) = true then (do
      some ((⟨p1.f_state, (⟨p1.f_token.f_Kind, p1.f_token.f_Code, p1.f_token.f_Option, p1.f_token.f_Body, true⟩ : iac_Token)⟩ : iac_Tokens)))
  else (do
      let _ ← req ((p1.f_token.f_Body.length + ([p5] : List UInt8).length) * 1 ≤ 140737488355328 ∧ p1.f_token.f_Body.length + ([p5] : List UInt8).length ≤ 9223372036854775807)
      some ((⟨p1.f_state, (⟨p1.f_token.f_Kind, p1.f_token.f_Code, p1.f_token.f_Option, p1.f_token.f_Body ++ ([p5] : List UInt8), p1.f_token.f_Cut⟩ : iac_Token)⟩ : iac_Tokens)))
def iac_Tokens_Feed (p1 : iac_Tokens) (p5 : UInt8) : Option (iac_Token × Bool × iac_Tokens) := do
  if (p1.f_state == 1) = true then (do
      if (p5 == 255) = true then (do
          some (((⟨1, 255, 0, ([] : List UInt8), false⟩ : iac_Token), true, (⟨0, (⟨0, 0, 0, ([] : List UInt8), false⟩ : iac_Token)⟩ : iac_Tokens))))
      else (do
          if (p5 == 250) = true then (do
              some (((⟨0, 0, 0, ([] : List UInt8), false⟩ : iac_Token), false, (⟨3, (⟨p1.f_token.f_Kind, p1.f_token.f_Code, p1.f_token.f_Option, p1.f_token.f_Body, p1.f_token.f_Cut⟩ : iac_Token)⟩ : iac_Tokens))))
          else (do
              let y14 ← codes_Verb (b8 p5)
              if (y14) = true then (do
                  some (((⟨0, 0, 0, ([] : List UInt8), false⟩ : iac_Token), false, (⟨2, (⟨0, b8 p5, 0, ([] : List UInt8), false⟩ : iac_Token)⟩ : iac_Tokens))))
              else (do
                  some (((⟨2, b8 p5, 0, ([] : List UInt8), false⟩ : iac_Token), true, (⟨0, (⟨0, 0, 0, ([] : List UInt8), false⟩ : iac_Token)⟩ : iac_Tokens)))))))
  else (do
      if (p1.f_state == 2) = true then (do
          some (((⟨3, p1.f_token.f_Code, b8 p5, ([] : List UInt8), false⟩ : iac_Token), true, (⟨0, (⟨0, 0, 0, ([] : List UInt8), false⟩ : iac_Token)⟩ : iac_Tokens))))
      else (do
          if (p1.f_state == 3) = true then (do
              some (((⟨0, 0, 0, ([] : List UInt8), false⟩ : iac_Token), false, (⟨4, (⟨0, 0, b8 p5, ([] : List UInt8), false⟩ : iac_Token)⟩ : iac_Tokens))))
          else (do
              if (p1.f_state == 4) = true then (do
                  if (p5 == 255) = true then (do
                      some (((⟨0, 0, 0, ([] : List UInt8), false⟩ : iac_Token), false, (⟨5, (⟨p1.f_token.f_Kind, p1.f_token.f_Code, p1.f_token.f_Option, p1.f_token.f_Body, p1.f_token.f_Cut⟩ : iac_Token)⟩ : iac_Tokens))))
                  else (do
                      let y27 ← iac_Tokens_add ((⟨p1.f_state, (⟨p1.f_token.f_Kind, p1.f_token.f_Code, p1.f_token.f_Option, p1.f_token.f_Body, p1.f_token.f_Cut⟩ : iac_Token)⟩ : iac_Tokens)) p5
                      some (((⟨0, 0, 0, ([] : List UInt8), false⟩ : iac_Token), false, (⟨y27.f_state, (⟨y27.f_token.f_Kind, y27.f_token.f_Code, y27.f_token.f_Option, y27.f_token.f_Body, y27.f_token.f_Cut⟩ : iac_Token)⟩ : iac_Tokens)))))
              else (do
                  if (p1.f_state == 5) = true then (do
                      if (p5 == 255) = true then (do
                          let y35 ← iac_Tokens_add ((⟨4, (⟨p1.f_token.f_Kind, p1.f_token.f_Code, p1.f_token.f_Option, p1.f_token.f_Body, p1.f_token.f_Cut⟩ : iac_Token)⟩ : iac_Tokens)) p5
                          some (((⟨0, 0, 0, ([] : List UInt8), false⟩ : iac_Token), false, (⟨y35.f_state, (⟨y35.f_token.f_Kind, y35.f_token.f_Code, y35.f_token.f_Option, y35.f_token.f_Body, y35.f_token.f_Cut⟩ : iac_Token)⟩ : iac_Tokens))))
                      else (do
                          if (p5 == 240) = true then (do
                              some (((⟨4, p1.f_token.f_Code, p1.f_token.f_Option, p1.f_token.f_Body, p1.f_token.f_Cut⟩ : iac_Token), true, (⟨0, (⟨0, 0, 0, ([] : List UInt8), false⟩ : iac_Token)⟩ : iac_Tokens))))
                          else (do
                              some (((⟨5, b8 p5, p1.f_token.f_Option, ([] : List UInt8), false⟩ : iac_Token), true, (⟨0, (⟨0, 0, 0, ([] : List UInt8), false⟩ : iac_Token)⟩ : iac_Tokens))))))
                  else (do
                      if (p5 == 255) = true then (do
                          some (((⟨0, 0, 0, ([] : List UInt8), false⟩ : iac_Token), false, (⟨1, (⟨p1.f_token.f_Kind, p1.f_token.f_Code, p1.f_token.f_Option, p1.f_token.f_Body, p1.f_token.f_Cut⟩ : iac_Token)⟩ : iac_Tokens))))
                      else (do
                          some (((⟨1, b8 p5, 0, ([] : List UInt8), false⟩ : iac_Token), true, (⟨0, (⟨0, 0, 0, ([] : List UInt8), false⟩ : iac_Token)⟩ : iac_Tokens)))))))))
def nvt_In_Next (p1 : nvt_In) (p3 : UInt8) (p4 : Bool) : Option (Bool × nvt_In) := do
  let x5 ← (do
      if (p4) = true then (do
          some true)
      else (do
          some (p3 != 0)) : Option Bool)
  let x8 ← (do
      if (x5) = true then (do
          some true)
      else (do
          some (!p1.f_behind)) : Option Bool)
  let x11 ← (do
      if (!p4) = true then (do
          some (p3 == 13))
      else (do
          some false) : Option Bool)
  some ((x8, (⟨x11⟩ : nvt_In)))
def clean_Cleaner_stays (p1 : clean_Cleaner) (p5 : iac_Token) (p8 : Bool) : Option (Bool × clean_Cleaner) := do
  let x11 ← (do
      if (p5.f_Kind == 2) = true then (do
          some (p5.f_Code == 242))
      else (do
          some false) : Option Bool)
  if (x11) = true then (do
      some ((true, (⟨(⟨p1.f_tokens.f_state, (⟨p1.f_tokens.f_token.f_Kind, p1.f_tokens.f_token.f_Code, p1.f_tokens.f_token.f_Option, p1.f_tokens.f_token.f_Body, p1.f_tokens.f_token.f_Cut⟩ : iac_Token)⟩ : iac_Tokens), (⟨p1.f_in.f_behind⟩ : nvt_In), false⟩ : clean_Cleaner))))
  else (do
      if (p5.f_Kind != 1) = true then (do
          some ((true, (⟨(⟨p1.f_tokens.f_state, (⟨p1.f_tokens.f_token.f_Kind, p1.f_tokens.f_token.f_Code, p1.f_tokens.f_token.f_Option, p1.f_tokens.f_token.f_Body, p1.f_tokens.f_token.f_Cut⟩ : iac_Token)⟩ : iac_Tokens), (⟨p1.f_in.f_behind⟩ : nvt_In), p1.f_deaf⟩ : clean_Cleaner))))
      else (do
          let x17 ← (do
              if (!p1.f_deaf) = true then (do
                  let y20 ← nvt_In_Next ((⟨p1.f_in.f_behind⟩ : nvt_In)) (toB p5.f_Code) p8
                  some ((y20.1, y20.2.f_behind)))
              else (do
                  some ((false, p1.f_in.f_behind))) : Option (Bool × Bool))
          some ((x17.1, (⟨(⟨p1.f_tokens.f_state, (⟨p1.f_tokens.f_token.f_Kind, p1.f_tokens.f_token.f_Code, p1.f_tokens.f_token.f_Option, p1.f_tokens.f_token.f_Body, p1.f_tokens.f_token.f_Cut⟩ : iac_Token)⟩ : iac_Tokens), (⟨x17.2⟩ : nvt_In), p1.f_deaf⟩ : clean_Cleaner)))))
def clean_Cleaner_Feed (p1 : clean_Cleaner) (p5 : UInt8) (p6 : Bool) (p7 : Bool) : Option (iac_Token × Bool × clean_Cleaner) := do
  let x10 ← (do
      if (p1.f_deaf) = true then (do
          some true)
      else (do
          some p6) : Option Bool)
  let y13 ← iac_Tokens_Feed ((⟨p1.f_tokens.f_state, (⟨p1.f_tokens.f_token.f_Kind, p1.f_tokens.f_token.f_Code, p1.f_tokens.f_token.f_Option, p1.f_tokens.f_token.f_Body, p1.f_tokens.f_token.f_Cut⟩ : iac_Token)⟩ : iac_Tokens)) p5
  let x24 ← (do
      if (!y13.2.1) = true then (do
          some ((true, y13.2.2.f_state, y13.2.2.f_token.f_Kind, y13.2.2.f_token.f_Code, y13.2.2.f_token.f_Option, y13.2.2.f_token.f_Cut, p1.f_in.f_behind, x10, y13.2.2.f_token.f_Body)))
      else (do
          let y28 ← clean_Cleaner_stays ((⟨(⟨y13.2.2.f_state, (⟨y13.2.2.f_token.f_Kind, y13.2.2.f_token.f_Code, y13.2.2.f_token.f_Option, y13.2.2.f_token.f_Body, y13.2.2.f_token.f_Cut⟩ : iac_Token)⟩ : iac_Tokens), (⟨p1.f_in.f_behind⟩ : nvt_In), x10⟩ : clean_Cleaner)) ((⟨y13.1.f_Kind, y13.1.f_Code, y13.1.f_Option, y13.1.f_Body, y13.1.f_Cut⟩ : iac_Token)) p7
          some ((!y28.1, y28.2.f_tokens.f_state, y28.2.f_tokens.f_token.f_Kind, y28.2.f_tokens.f_token.f_Code, y28.2.f_tokens.f_token.f_Option, y28.2.f_tokens.f_token.f_Cut, y28.2.f_in.f_behind, y28.2.f_deaf, y28.2.f_tokens.f_token.f_Body))) : Option (Bool × Int × Int × Int × Int × Bool × Bool × Bool × (List UInt8)))
  if (x24.1) = true then (do
      some (((⟨0, 0, 0, ([] : List UInt8), false⟩ : iac_Token), false, (⟨(⟨x24.2.1, (⟨x24.2.2.1, x24.2.2.2.1, x24.2.2.2.2.1, x24.2.2.2.2.2.2.2.2, x24.2.2.2.2.2.1⟩ : iac_Token)⟩ : iac_Tokens), (⟨x24.2.2.2.2.2.2.1⟩ : nvt_In), x24.2.2.2.2.2.2.2.1⟩ : clean_Cleaner))))
  else (do
      some (((⟨y13.1.f_Kind, y13.1.f_Code, y13.1.f_Option, y13.1.f_Body, y13.1.f_Cut⟩ : iac_Token), true, (⟨(⟨x24.2.1, (⟨x24.2.2.1, x24.2.2.2.1, x24.2.2.2.2.1, x24.2.2.2.2.2.2.2.2, x24.2.2.2.2.2.1⟩ : iac_Token)⟩ : iac_Tokens), (⟨x24.2.2.2.2.2.2.1⟩ : nvt_In), x24.2.2.2.2.2.2.2.1⟩ : clean_Cleaner))))
def clean_All_l1 (p1 : List UInt8) (p4 : List Int) (p7 : Bool) (z18 : Int × (List iac_Token) × Int × Int × Int × Int × Bool × Bool × Bool × (List UInt8)) : Option ((List iac_Token) × Int × Int × Int × Int × Bool × Bool × Bool × (List UInt8)) := do
  if (decide (z18.1 < ((p1.length : Int)))) = true then (do
      let x28 ← (do
          let e32 ← ix p1 z18.1
          let y42 ← slices_Contains_int_int p4 z18.1
          let y46 ← clean_Cleaner_Feed ((⟨(⟨z18.2.2.1, (⟨z18.2.2.2.1, z18.2.2.2.2.1, z18.2.2.2.2.2.1, z18.2.2.2.2.2.2.2.2.2, z18.2.2.2.2.2.2.1⟩ : iac_Token)⟩ : iac_Tokens), (⟨z18.2.2.2.2.2.2.2.1⟩ : nvt_In), z18.2.2.2.2.2.2.2.2.1⟩ : clean_Cleaner)) e32 y42 p7
          if (y46.2.1) = true then (do
              let _ ← req ((z18.2.1.length + [(⟨y46.1.f_Kind, y46.1.f_Code, y46.1.f_Option, y46.1.f_Body, y46.1.f_Cut⟩ : iac_Token)].length) * 56 ≤ 140737488355328 ∧ z18.2.1.length + [(⟨y46.1.f_Kind, y46.1.f_Code, y46.1.f_Option, y46.1.f_Body, y46.1.f_Cut⟩ : iac_Token)].length ≤ 9223372036854775807)
              some ((z18.2.1 ++ [(⟨y46.1.f_Kind, y46.1.f_Code, y46.1.f_Option, y46.1.f_Body, y46.1.f_Cut⟩ : iac_Token)], y46.2.2.f_tokens.f_state, y46.2.2.f_tokens.f_token.f_Kind, y46.2.2.f_tokens.f_token.f_Code, y46.2.2.f_tokens.f_token.f_Option, y46.2.2.f_tokens.f_token.f_Cut, y46.2.2.f_in.f_behind, y46.2.2.f_deaf, y46.2.2.f_tokens.f_token.f_Body)))
          else (do
              some ((z18.2.1, y46.2.2.f_tokens.f_state, y46.2.2.f_tokens.f_token.f_Kind, y46.2.2.f_tokens.f_token.f_Code, y46.2.2.f_tokens.f_token.f_Option, y46.2.2.f_tokens.f_token.f_Cut, y46.2.2.f_in.f_behind, y46.2.2.f_deaf, y46.2.2.f_tokens.f_token.f_Body))) : Option ((List iac_Token) × Int × Int × Int × Int × Bool × Bool × Bool × (List UInt8)))
      clean_All_l1 p1 p4 p7 ((w64 (z18.1 + 1), x28.1, x28.2.1, x28.2.2.1, x28.2.2.2.1, x28.2.2.2.2.1, x28.2.2.2.2.2.1, x28.2.2.2.2.2.2.1, x28.2.2.2.2.2.2.2.1, x28.2.2.2.2.2.2.2.2)))
  else (do
      some ((z18.2.1, z18.2.2.1, z18.2.2.2.1, z18.2.2.2.2.1, z18.2.2.2.2.2.1, z18.2.2.2.2.2.2.1, z18.2.2.2.2.2.2.2.1, z18.2.2.2.2.2.2.2.2.1, z18.2.2.2.2.2.2.2.2.2)))
  partial_fixpoint
def clean_All (p1 : List UInt8) (p4 : List Int) (p7 : Bool) : Option (List iac_Token) := do
  let o21 ← clean_All_l1 p1 p4 p7 ((0, ([] : List iac_Token), 0, 0, 0, 0, false, false, false, ([] : List UInt8)))
  some o21.1
def clean_Data_l1 (y9 : List iac_Token) (x21 : Int) (x22 : List UInt8) : Option (List UInt8) := do
  if (decide (x21 < ((y9.length : Int)))) = true then (do
      let x30 ← (do
          let e33 ← ix y9 x21
          if (e33.f_Kind == 1) = true then (do
              let _ ← req ((x22.length + ([toB e33.f_Code] : List UInt8).length) * 1 ≤ 140737488355328 ∧ x22.length + ([toB e33.f_Code] : List UInt8).length ≤ 9223372036854775807)
              some (x22 ++ ([toB e33.f_Code] : List UInt8)))
          else (do
              some x22) : Option (List UInt8))
      clean_Data_l1 y9 (w64 (x21 + 1)) x30)
  else (do
      some x22)
  partial_fixpoint
def clean_Data (p1 : List UInt8) (p4 : List Int) (p7 : Bool) : Option (List UInt8) := do
  let y9 ← clean_All p1 p4 p7
  let o24 ← clean_Data_l1 y9 0 ([] : List UInt8)
  some o24
def Law_alive : Option Bool := do
  let y7 ← clean_Data [97, 98, 99, 255, 242, 100] (([1] : List Int)) false
  some (y7 == ([97, 100] : List UInt8))
def slices_Clone_byte_byte (p1 : List UInt8) : Option (List UInt8) := do
  let _ ← req ((([] : List UInt8).length + p1.length) * 1 ≤ 140737488355328 ∧ ([] : List UInt8).length + p1.length ≤ 9223372036854775807)
  some (([] : List UInt8) ++ p1)
def iac_Tokens_Idle (p1 : iac_Tokens) : Option (Bool × iac_Tokens) := do
  some ((p1.f_state == 0, (⟨p1.f_state, (⟨p1.f_token.f_Kind, p1.f_token.f_Code, p1.f_token.f_Option, p1.f_token.f_Body, p1.f_token.f_Cut⟩ : iac_Token)⟩ : iac_Tokens)))
def iac_All_l1 (p1 : List UInt8) (z14 : Int × (List iac_Token) × Int × Int × Int × Int × Bool × (List UInt8)) : Option ((List iac_Token) × Int × Int × Int × Int × Bool × (List UInt8)) := do
  if (decide (z14.1 < ((p1.length : Int)))) = true then (do
      let x24 ← (do
          let e28 ← ix p1 z14.1
          let y38 ← iac_Tokens_Feed ((⟨z14.2.2.1, (⟨z14.2.2.2.1, z14.2.2.2.2.1, z14.2.2.2.2.2.1, z14.2.2.2.2.2.2.2, z14.2.2.2.2.2.2.1⟩ : iac_Token)⟩ : iac_Tokens)) e28
          if (y38.2.1) = true then (do
              let y49 ← slices_Clone_byte_byte y38.1.f_Body
              let _ ← req ((z14.2.1.length + [(⟨y38.1.f_Kind, y38.1.f_Code, y38.1.f_Option, y49, y38.1.f_Cut⟩ : iac_Token)].length) * 56 ≤ 140737488355328 ∧ z14.2.1.length + [(⟨y38.1.f_Kind, y38.1.f_Code, y38.1.f_Option, y49, y38.1.f_Cut⟩ : iac_Token)].length ≤ 9223372036854775807)
              some ((z14.2.1 ++ [(⟨y38.1.f_Kind, y38.1.f_Code, y38.1.f_Option, y49, y38.1.f_Cut⟩ : iac_Token)], y38.2.2.f_state, y38.2.2.f_token.f_Kind, y38.2.2.f_token.f_Code, y38.2.2.f_token.f_Option, y38.2.2.f_token.f_Cut, y38.2.2.f_token.f_Body)))
          else (do
              some ((z14.2.1, y38.2.2.f_state, y38.2.2.f_token.f_Kind, y38.2.2.f_token.f_Code, y38.2.2.f_token.f_Option, y38.2.2.f_token.f_Cut, y38.2.2.f_token.f_Body))) : Option ((List iac_Token) × Int × Int × Int × Int × Bool × (List UInt8)))
      iac_All_l1 p1 ((w64 (z14.1 + 1), x24.1, x24.2.1, x24.2.2.1, x24.2.2.2.1, x24.2.2.2.2.1, x24.2.2.2.2.2.1, x24.2.2.2.2.2.2)))
  else (do
      some ((z14.2.1, z14.2.2.1, z14.2.2.2.1, z14.2.2.2.2.1, z14.2.2.2.2.2.1, z14.2.2.2.2.2.2.1, z14.2.2.2.2.2.2.2)))
  partial_fixpoint
def iac_All (p1 : List UInt8) : Option ((List iac_Token) × Bool) := do
  let o17 ← iac_All_l1 p1 ((0, ([] : List iac_Token), 0, 0, 0, 0, false, ([] : List UInt8)))
  let y60 ← iac_Tokens_Idle ((⟨o17.2.1, (⟨o17.2.2.1, o17.2.2.2.1, o17.2.2.2.2.1, o17.2.2.2.2.2.2, o17.2.2.2.2.2.1⟩ : iac_Token)⟩ : iac_Tokens))
  some ((o17.1, y60.1))
def bytes_Equal (p1 : List UInt8) (p4 : List UInt8) : Option Bool := do
  some (p1 == p4)
def iac_Same (p1 : iac_Token) (p4 : iac_Token) : Option Bool := do
  let x11 ← (do
      if (p1.f_Kind == p4.f_Kind) = true then (do
          some (p1.f_Code == p4.f_Code))
      else (do
          some false) : Option Bool)
  let x14 ← (do
      if (x11) = true then (do
          some (p1.f_Option == p4.f_Option))
      else (do
          some false) : Option Bool)
  let x17 ← (do
      if (x14) = true then (do
          some (p1.f_Cut == p4.f_Cut))
      else (do
          some false) : Option Bool)
  let x21 ← (do
      if (x17) = true then (do
          let y24 ← bytes_Equal p1.f_Body p4.f_Body
          some y24)
      else (do
          some false) : Option Bool)
  some x21
def nvt_Encode_l1 (p1 : List UInt8) (p4 : Bool) (x12 : Int) (x13 : List UInt8) : Option (List UInt8) := do
  if (decide (x12 < ((p1.length : Int)))) = true then (do
      let x21 ← (do
          let e24 ← ix p1 x12
          let _ ← req ((x13.length + ([e24] : List UInt8).length) * 1 ≤ 140737488355328 ∧ x13.length + ([e24] : List UInt8).length ≤ 9223372036854775807)
          let x39 ← (do
              if (!p4) = true then (do
                  some (e24 == 13))
              else (do
                  some false) : Option Bool)
          let x42 ← (do
              if (x39) = true then (do
                  let x45 ← (do
                      if (x12 == (w64 (((p1.length : Int)) - 1))) = true then (do
                          some true)
                      else (do
                          let e48 ← ix p1 (w64 (x12 + 1))
                          some (e48 != 10)) : Option Bool)
                  some x45)
              else (do
                  some false) : Option Bool)
          if (x42) = true then (do
              let _ ← req (((x13 ++ ([e24] : List UInt8)).length + ([0] : List UInt8).length) * 1 ≤ 140737488355328 ∧ (x13 ++ ([e24] : List UInt8)).length + ([0] : List UInt8).length ≤ 9223372036854775807)
              some ((x13 ++ ([e24] : List UInt8)) ++ ([0] : List UInt8)))
          else (do
              some (x13 ++ ([e24] : List UInt8))) : Option (List UInt8))
      nvt_Encode_l1 p1 p4 (w64 (x12 + 1)) x21)
  else (do
      some x13)
  partial_fixpoint
def nvt_Encode (p1 : List UInt8) (p4 : Bool) : Option (List UInt8) := do
  let o15 ← nvt_Encode_l1 p1 p4 0 ([] : List UInt8)
  some o15
def unicode_utf8_RuneCountInString (p1 : List UInt8) : Option Int := do
  none
def unicode_utf8_RuneCount_l1 (p1 : List UInt8) (x8 : Int) : Option (Sum Int Int) := do
  if (decide (x8 < ((p1.length : Int)))) = true then (do
      let e16 ← ix p1 x8
      if (decide (128 ≤ e16)) = true then (do
          let s27 ← cutL p1 x8 ((p1.length : Int))
          let y32 ← unicode_utf8_RuneCountInString s27
          some (Sum.inr (w64 (x8 + y32))))
      else (do
          unicode_utf8_RuneCount_l1 p1 (w64 (x8 + 1))))
  else (do
      some (Sum.inl x8))
  partial_fixpoint
def unicode_utf8_RuneCount (p1 : List UInt8) : Option Int := do
  let o9 ← unicode_utf8_RuneCount_l1 p1 0
  match o9 with
  | Sum.inl x12 => do
      some x12
  | Sum.inr x14 => do
      some x14
def bytes_IndexByte (p1 : List UInt8) (p4 : UInt8) : Option Int := do
  some (idxB p1 p4)
def internal_bytealg_Cutover (p1 : Int) : Option Int := do
  let q2 ← iquo (w64 (p1 + 16)) 8
  some q2
def internal_bytealg_hashStr_byte (p1 : List UInt8) : Option (Int × Int) := do
  none
def internal_bytealg_IndexRabinKarp_byte (p1 : List UInt8) (p4 : List UInt8) : Option Int := do
  let y7 ← internal_bytealg_hashStr_byte p4
  none
def bytes_Index (p1 : List UInt8) (p4 : List UInt8) : Option Int := do
  if (((p4.length : Int)) == 0) = true then (do
      some 0)
  else (do
      if (((p4.length : Int)) == 1) = true then (do
          let e9 ← ix p4 0
          let y19 ← bytes_IndexByte p1 e9
          some y19)
      else (do
          if (((p4.length : Int)) == ((p1.length : Int))) = true then (do
              let y24 ← bytes_Equal p4 p1
              if (y24) = true then (do
                  some 0)
              else (do
                  some ((-1))))
          else (do
              if (decide (((p4.length : Int)) > ((p1.length : Int)))) = true then (do
                  some ((-1)))
              else (do
                  none))))
def bytes_Count_l1 (p4 : List UInt8) (x30 : Int) (x31 : List UInt8) : Option Int := do
  let y37 ← bytes_Index x31 p4
  if (y37 == ((-1))) = true then (do
      some x30)
  else (do
      let s42 ← cutL x31 ((w64 (y37 + ((p4.length : Int))))) ((x31.length : Int))
      bytes_Count_l1 p4 (w64 (x30 + 1)) s42)
  partial_fixpoint
def bytes_Count (p1 : List UInt8) (p4 : List UInt8) : Option Int := do
  if (((p4.length : Int)) == 0) = true then (do
      let y8 ← unicode_utf8_RuneCount p1
      some (w64 (y8 + 1)))
  else (do
      if (((p4.length : Int)) == 1) = true then (do
          let e13 ← ix p4 0
          some (cntB p1 e13))
      else (do
          let o34 ← bytes_Count_l1 p4 0 p1
          some o34))
def unicode_utf8_decodeRuneSlow (p1 : List UInt8) : Option (Int × Int) := do
  if (decide (((p1.length : Int)) < 1)) = true then (do
      some ((65533, 0)))
  else (do
      let e5 ← ix p1 0
      none)
def unicode_utf8_DecodeRune (p1 : List UInt8) : Option (Int × Int) := do
  let k5 := fun (_ : Unit) => (do
      let y27 ← unicode_utf8_decodeRuneSlow p1
      some ((y27.1, y27.2)))
  none
def bytes_Replace_l1 (x25 : Int) (p1 : List UInt8) (p4 : List UInt8) (p7 : List UInt8) (x45 : Int) (x46 : Int) (x47 : Int) (x48 : List UInt8) : Option (Int × Int × (List UInt8)) := do
  if (decide (x45 < x25)) = true then (do
      let s53 ← cutL p1 x46 ((p1.length : Int))
      let y58 ← bytes_Index s53 p4
      let s62 ← cutL x48 x47 ((x48.length : Int))
      let s68 ← cutL p1 x46 ((w64 (x46 + y58)))
      let s73 ← cutL (ovw x48 x47.toNat ((((x48.length : Int)).toNat - x47.toNat)) s68) ((w64 (x47 + (((min s68.length ((((x48.length : Int)).toNat - x47.toNat)) : Nat) : Int))))) (((ovw x48 x47.toNat ((((x48.length : Int)).toNat - x47.toNat)) s68).length : Int))
      bytes_Replace_l1 x25 p1 p4 p7 (w64 (x45 + 1)) (w64 ((w64 (x46 + y58)) + ((p4.length : Int)))) (w64 ((w64 (x47 + (((min s68.length ((((x48.length : Int)).toNat - x47.toNat)) : Nat) : Int)))) + (((min p7.length (((((ovw x48 x47.toNat ((((x48.length : Int)).toNat - x47.toNat)) s68).length : Int)).toNat - ((w64 (x47 + (((min s68.length ((((x48.length : Int)).toNat - x47.toNat)) : Nat) : Int))))).toNat)) : Nat) : Int)))) (ovw (ovw x48 x47.toNat ((((x48.length : Int)).toNat - x47.toNat)) s68) (((w64 (x47 + (((min s68.length ((((x48.length : Int)).toNat - x47.toNat)) : Nat) : Int))))).toNat) (((((ovw x48 x47.toNat ((((x48.length : Int)).toNat - x47.toNat)) s68).length : Int)).toNat - ((w64 (x47 + (((min s68.length ((((x48.length : Int)).toNat - x47.toNat)) : Nat) : Int))))).toNat)) p7))
  else (do
      some ((x47, x46, x48)))
  partial_fixpoint
def bytes_Replace_l2 (x25 : Int) (p1 : List UInt8) (p7 : List UInt8) (x92 : Int) (x93 : Int) (x94 : Int) (x95 : List UInt8) : Option (Int × Int × (List UInt8)) := do
  if (decide (x92 < (w64 (x25 - 1)))) = true then (do
      let s100 ← cutL p1 x94 ((p1.length : Int))
      let y105 ← unicode_utf8_DecodeRune s100
      let s109 ← cutL x95 x93 ((x95.length : Int))
      let s115 ← cutL p1 x94 ((w64 (x94 + y105.2)))
      let s120 ← cutL (ovw x95 x93.toNat ((((x95.length : Int)).toNat - x93.toNat)) s115) ((w64 (x93 + (((min s115.length ((((x95.length : Int)).toNat - x93.toNat)) : Nat) : Int))))) (((ovw x95 x93.toNat ((((x95.length : Int)).toNat - x93.toNat)) s115).length : Int))
      bytes_Replace_l2 x25 p1 p7 (w64 (x92 + 1)) (w64 ((w64 (x93 + (((min s115.length ((((x95.length : Int)).toNat - x93.toNat)) : Nat) : Int)))) + (((min p7.length (((((ovw x95 x93.toNat ((((x95.length : Int)).toNat - x93.toNat)) s115).length : Int)).toNat - ((w64 (x93 + (((min s115.length ((((x95.length : Int)).toNat - x93.toNat)) : Nat) : Int))))).toNat)) : Nat) : Int)))) (w64 (x94 + y105.2)) (ovw (ovw x95 x93.toNat ((((x95.length : Int)).toNat - x93.toNat)) s115) (((w64 (x93 + (((min s115.length ((((x95.length : Int)).toNat - x93.toNat)) : Nat) : Int))))).toNat) (((((ovw x95 x93.toNat ((((x95.length : Int)).toNat - x93.toNat)) s115).length : Int)).toNat - ((w64 (x93 + (((min s115.length ((((x95.length : Int)).toNat - x93.toNat)) : Nat) : Int))))).toNat)) p7))
  else (do
      some ((x93, x94, x95)))
  partial_fixpoint
def bytes_Replace (p1 : List UInt8) (p4 : List UInt8) (p7 : List UInt8) (p10 : Int) : Option (List UInt8) := do
  let x12 ← (do
      if (p10 != 0) = true then (do
          let y15 ← bytes_Count p1 p4
          some y15)
      else (do
          some 0) : Option Int)
  if (x12 == 0) = true then (do
      let _ ← req ((([] : List UInt8).length + p1.length) * 1 ≤ 140737488355328 ∧ ([] : List UInt8).length + p1.length ≤ 9223372036854775807)
      some (([] : List UInt8) ++ p1))
  else (do
      let x25 ← (do
          let x27 ← (do
              if (decide (p10 < 0)) = true then (do
                  some true)
              else (do
                  some (decide (x12 < p10))) : Option Bool)
          if (x27) = true then (do
              some x12)
          else (do
              some p10) : Option Int)
      let _ ← req (0 ≤ (w64 (((p1.length : Int)) + (w64 (x25 * (w64 (((p7.length : Int)) - ((p4.length : Int)))))))) ∧ (w64 (((p1.length : Int)) + (w64 (x25 * (w64 (((p7.length : Int)) - ((p4.length : Int)))))))) ≤ (w64 (((p1.length : Int)) + (w64 (x25 * (w64 (((p7.length : Int)) - ((p4.length : Int)))))))) ∧ (w64 (((p1.length : Int)) + (w64 (x25 * (w64 (((p7.length : Int)) - ((p4.length : Int)))))))) * 1 ≤ 140737488355328 ∧ (w64 (((p1.length : Int)) + (w64 (x25 * (w64 (((p7.length : Int)) - ((p4.length : Int)))))))) ≤ 9223372036854775807)
      let x35 ← (do
          if (decide (((p4.length : Int)) > 0)) = true then (do
              let o49 ← bytes_Replace_l1 x25 p1 p4 p7 0 0 0 (List.replicate (w64 (((p1.length : Int)) + (w64 (x25 * (w64 (((p7.length : Int)) - ((p4.length : Int)))))))).toNat (0 : UInt8))
              some ((o49.1, o49.2.1, o49.2.2)))
          else (do
              let s79 ← cutL (List.replicate (w64 (((p1.length : Int)) + (w64 (x25 * (w64 (((p7.length : Int)) - ((p4.length : Int)))))))).toNat (0 : UInt8)) 0 (((List.replicate (w64 (((p1.length : Int)) + (w64 (x25 * (w64 (((p7.length : Int)) - ((p4.length : Int)))))))).toNat (0 : UInt8)).length : Int))
              let o96 ← bytes_Replace_l2 x25 p1 p7 0 (w64 (0 + (((min p7.length (((((List.replicate (w64 (((p1.length : Int)) + (w64 (x25 * (w64 (((p7.length : Int)) - ((p4.length : Int)))))))).toNat (0 : UInt8)).length : Int)).toNat - 0)) : Nat) : Int)))) 0 (ovw (List.replicate (w64 (((p1.length : Int)) + (w64 (x25 * (w64 (((p7.length : Int)) - ((p4.length : Int)))))))).toNat (0 : UInt8)) 0 (((((List.replicate (w64 (((p1.length : Int)) + (w64 (x25 * (w64 (((p7.length : Int)) - ((p4.length : Int)))))))).toNat (0 : UInt8)).length : Int)).toNat - 0)) p7)
              some ((o96.1, o96.2.1, o96.2.2))) : Option (Int × Int × (List UInt8)))
      let s126 ← cutL x35.2.2 x35.1 ((x35.2.2.length : Int))
      let s132 ← cutL p1 x35.2.1 ((p1.length : Int))
      let s137 ← cutL (ovw x35.2.2 x35.1.toNat ((((x35.2.2.length : Int)).toNat - x35.1.toNat)) s132) 0 ((w64 (x35.1 + (((min s132.length ((((x35.2.2.length : Int)).toNat - x35.1.toNat)) : Nat) : Int)))))
      some ((ovw x35.2.2 x35.1.toNat ((((x35.2.2.length : Int)).toNat - x35.1.toNat)) s132).take (((w64 (x35.1 + (((min s132.length ((((x35.2.2.length : Int)).toNat - x35.1.toNat)) : Nat) : Int))))).toNat)))
def bytes_ReplaceAll (p1 : List UInt8) (p4 : List UInt8) (p7 : List UInt8) : Option (List UInt8) := do
  let y10 ← bytes_Replace p1 p4 p7 ((-1))
  some y10
def emit_Data (p1 : List UInt8) : Option (List UInt8) := do
  let y10 ← bytes_ReplaceAll p1 ([255] : List UInt8) [255, 255]
  some y10
def emit_byteable (p1 : Int) : Option Bool := do
  let x2 ← (do
      if (decide (p1 ≥ 0)) = true then (do
          some (decide (p1 ≤ 255)))
      else (do
          some false) : Option Bool)
  some x2
def emit_Verb (p1 : Int) (p2 : Int) : Option ((List UInt8) × (Option Nat)) := do
  let y3 ← codes_Verb p1
  if (!y3) = true then (do
      some ((([] : List UInt8), (some 0 : Option Nat))))
  else (do
      let y8 ← emit_byteable p2
      if (!y8) = true then (do
          some ((([] : List UInt8), (some 1 : Option Nat))))
      else (do
          some (([255, toB p1, toB p2], (none : Option Nat)))))
def Law_CleanPlain_l1 (y17 : (List iac_Token) × Bool) (y23 : List iac_Token) (x34 : Int) : Option (Sum Unit Unit) := do
  if (decide (x34 < ((y17.1.length : Int)))) = true then (do
      let e42 ← ix y17.1 x34
      let e56 ← ix y23 x34
      let y68 ← iac_Same e42 e56
      if (!y68) = true then (do
          some (Sum.inr (())))
      else (do
          Law_CleanPlain_l1 y17 y23 (w64 (x34 + 1))))
  else (do
      some (Sum.inl (())))
  partial_fixpoint
def Law_CleanPlain_l2 (p4 : List (List UInt8)) (p7 : Bool) (x82 : Int) (x83 : List UInt8) (x84 : List UInt8) : Option (Sum ((List UInt8) × (List UInt8)) (Bool × (List UInt8))) := do
  if (decide (x82 < ((p4.length : Int)))) = true then (do
      let e95 ← ix p4 x82
      if (decide (((e95.length : Int)) > 50)) = true then (do
          some (Sum.inr ((true, x84))))
      else (do
          let _ ← req (x83.length + e95.length ≤ 9223372036854775807)
          let y109 ← nvt_Encode e95 p7
          let y115 ← emit_Data y109
          let _ ← req ((x84.length + y115.length) * 1 ≤ 140737488355328 ∧ x84.length + y115.length ≤ 9223372036854775807)
          let q123 ← irem x82 4
          let y125 ← emit_Verb (w64 (251 + q123)) x82
          if (y125.2.isSome) = true then (do
              some (Sum.inr ((false, x84 ++ y115))))
          else (do
              let _ ← req (((x84 ++ y115).length + y125.1.length) * 1 ≤ 140737488355328 ∧ (x84 ++ y115).length + y125.1.length ≤ 9223372036854775807)
              Law_CleanPlain_l2 p4 p7 (w64 (x82 + 1)) (x83 ++ e95) ((x84 ++ y115) ++ y125.1))))
  else (do
      some (Sum.inl ((x83, x84))))
  partial_fixpoint
def Law_CleanPlain (p1 : List UInt8) (p4 : List (List UInt8)) (p7 : Bool) : Option Bool := do
  let y8 ← Law_alive
  if (!y8) = true then (do
      some false)
  else (do
      let x13 ← (do
          if (decide (((p1.length : Int)) > 300)) = true then (do
              some true)
          else (do
              some (decide (((p4.length : Int)) > 20))) : Option Bool)
      if (x13) = true then (do
          some true)
      else (do
          let y17 ← iac_All p1
          let y23 ← clean_All p1 (([] : List Int)) true
          if (((y17.1.length : Int)) != ((y23.length : Int))) = true then (do
              some false)
          else (do
              let o35 ← Law_CleanPlain_l1 y17 y23 0
              match o35 with
              | Sum.inl x38 => do
                  let o86 ← Law_CleanPlain_l2 p4 p7 0 ([] : List UInt8) ([] : List UInt8)
                  match o86 with
                  | Sum.inl x89 => do
                      let y136 ← clean_Data x89.2 (([] : List Int)) p7
                      some (y136 == x89.1)
                  | Sum.inr x92 => do
                      some x92.1
              | Sum.inr x40 => do
                  some false)))

end Go.Proofs.YtnohihhjjpabjaaDoor
