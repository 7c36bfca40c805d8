/-
  What the code computes: plain functions, and the walks.: the same functions with fuel, for closed evaluation.
-/
import Derived.Test.YthjfnknhcmhmiaaDoorBD
set_option linter.unusedVariables false
set_option linter.unusedSimpArgs false
set_option maxRecDepth 10000
set_option maxHeartbeats 1000000
set_option synthInstance.maxHeartbeats 400000
set_option synthInstance.maxSize 2000
namespace Go.Proofs.YthjfnknhcmhmiaaDoor
open Go Go.RowKit Sl

def unicode_utf8_RuneCountInString_n (n : Nat) (p1 : List UInt8) : Option Int := do
  none
theorem unicode_utf8_RuneCountInString_ns {n : Nat} {p1 : List UInt8} {r : Int} (h : unicode_utf8_RuneCountInString_n n p1 = some r) : unicode_utf8_RuneCountInString p1 = some r := by
  unfold unicode_utf8_RuneCountInString_n at h
  unfold unicode_utf8_RuneCountInString
  exact h
def unicode_utf8_decodeRuneInStringSlow_n (n : Nat) (p1 : List UInt8) : Option (Int × Int) := do
  if (decide (((p1.length : Int)) < 1)) = true then (do
      some ((65533, 0)))
  else (do
      let c3 ← ix p1 0
      none)
theorem unicode_utf8_decodeRuneInStringSlow_ns {n : Nat} {p1 : List UInt8} {r : Int × Int} (h : unicode_utf8_decodeRuneInStringSlow_n n p1 = some r) : unicode_utf8_decodeRuneInStringSlow p1 = some r := by
  unfold unicode_utf8_decodeRuneInStringSlow_n at h
  unfold unicode_utf8_decodeRuneInStringSlow
  rcases ifB h with ⟨hc_, h⟩ | ⟨hc_, h⟩
  · refine ifT hc_ ?_
    exact h
  · refine ifF hc_ ?_
    obtain ⟨c3, h_c3, h⟩ := bindO h
    refine bindI h_c3 ?_
    exact h
def unicode_utf8_DecodeRuneInString_n (n : Nat) (p1 : List UInt8) : Option (Int × Int) := do
  let x2 ← (do
      if (p1 != ([] : List UInt8)) = true then (do
          let c5 ← ix p1 0
          some (decide (c5 < 128)))
      else (do
          some false) : Option Bool)
  if (x2) = true then (do
      let c8 ← ix p1 0
      some ((IntKind.i32.wrap (b8 c8), 1)))
  else (do
      let y10 ← unicode_utf8_decodeRuneInStringSlow_n n p1
      some ((y10.1, y10.2)))
theorem unicode_utf8_DecodeRuneInString_ns {n : Nat} {p1 : List UInt8} {r : Int × Int} (h : unicode_utf8_DecodeRuneInString_n n p1 = some r) : unicode_utf8_DecodeRuneInString p1 = some r := by
  unfold unicode_utf8_DecodeRuneInString_n at h
  unfold unicode_utf8_DecodeRuneInString
  obtain ⟨x2, h_x2, h⟩ := bindO h
  refine bindI (a := x2) ?_ ?_
  ·
    rcases ifB h_x2 with ⟨hc_, h_x2⟩ | ⟨hc_, h_x2⟩
    · refine ifT hc_ ?_
      obtain ⟨c5, h_c5, h_x2⟩ := bindO h_x2
      refine bindI h_c5 ?_
      exact h_x2
    · refine ifF hc_ ?_
      exact h_x2
  ·
    rcases ifB h with ⟨hc_, h⟩ | ⟨hc_, h⟩
    · refine ifT hc_ ?_
      obtain ⟨c8, h_c8, h⟩ := bindO h
      refine bindI h_c8 ?_
      exact h
    · refine ifF hc_ ?_
      obtain ⟨y10, h_y10, h⟩ := bindO h
      refine bindI (unicode_utf8_decodeRuneInStringSlow_ns h_y10) ?_
      exact h
def strings_explode_l1_n (n : Nat) (x7 : Int) (x22 : Int) (x23 : List UInt8) (x24 : List (List UInt8)) : Option ((List UInt8) × (List (List UInt8))) :=
  match n with
  | 0 => none
  | n + 1 => do
    if (decide (x22 < (w64 (x7 - 1)))) = true then (do
        let y29 ← unicode_utf8_DecodeRuneInString_n n x23
        let s33 ← cutL x23 0 y29.2
        let e35 ← ix x24 x22
        let s45 ← cutL x23 y29.2 ((x23.length : Int))
        strings_explode_l1_n n x7 (w64 (x22 + 1)) s45 (x24.set x22.toNat s33))
    else (do
        some ((x23, x24)))
theorem strings_explode_l1_nr : ∀ (n : Nat) (x7 : Int) (x22 : Int) (x23 : List UInt8) (x24 : List (List UInt8)) (r : (List UInt8) × (List (List UInt8))), strings_explode_l1_n n x7 x22 x23 x24 = some r → strings_explode_l1 x7 x22 x23 x24 = some r := by
  intro n
  induction n with
  | zero => intro x7 x22 x23 x24 r h; cases h
  | succ n ih =>
    intro x7 x22 x23 x24 r h
    rw [strings_explode_l1_n] at h
    rw [strings_explode_l1]
    rcases ifB h with ⟨hc_, h⟩ | ⟨hc_, h⟩
    · refine ifT hc_ ?_
      obtain ⟨y29, h_y29, h⟩ := bindO h
      refine bindI (unicode_utf8_DecodeRuneInString_ns h_y29) ?_
      obtain ⟨s33, h_s33, h⟩ := bindO h
      refine bindI h_s33 ?_
      obtain ⟨e35, h_e35, h⟩ := bindO h
      refine bindI h_e35 ?_
      obtain ⟨s45, h_s45, h⟩ := bindO h
      refine bindI h_s45 ?_
      exact ih _ _ _ _ _ h
    · refine ifF hc_ ?_
      exact h
theorem strings_explode_l1_ns {n : Nat} {x7 : Int} {x22 : Int} {x23 : List UInt8} {x24 : List (List UInt8)} {r : (List UInt8) × (List (List UInt8))} (h : strings_explode_l1_n n x7 x22 x23 x24 = some r) : strings_explode_l1 x7 x22 x23 x24 = some r := strings_explode_l1_nr n x7 x22 x23 x24 r h
def strings_explode_n (n : Nat) (p1 : List UInt8) (p2 : Int) : Option (List (List UInt8)) := do
  let y3 ← unicode_utf8_RuneCountInString_n n p1
  let x7 ← (do
      let x9 ← (do
          if (decide (p2 < 0)) = true then (do
              some true)
          else (do
              some (decide (p2 > y3))) : Option Bool)
      if (x9) = true then (do
          some y3)
      else (do
          some p2) : Option Int)
  let _ ← req (0 ≤ x7 ∧ x7 ≤ x7 ∧ x7 * 16 ≤ 140737488355328 ∧ x7 ≤ 9223372036854775807)
  let o25 ← strings_explode_l1_n n x7 0 p1 (List.replicate x7.toNat (([] : List UInt8) : List UInt8))
  let x47 ← (do
      if (decide (x7 > 0)) = true then (do
          let e50 ← ix o25.2 (w64 (x7 - 1))
          some (o25.2.set ((w64 (x7 - 1))).toNat o25.1))
      else (do
          some o25.2) : Option (List (List UInt8)))
  some x47
theorem strings_explode_ns {n : Nat} {p1 : List UInt8} {p2 : Int} {r : List (List UInt8)} (h : strings_explode_n n p1 p2 = some r) : strings_explode p1 p2 = some r := by
  unfold strings_explode_n at h
  unfold strings_explode
  obtain ⟨y3, h_y3, h⟩ := bindO h
  refine bindI (unicode_utf8_RuneCountInString_ns h_y3) ?_
  obtain ⟨x7, h_x7, h⟩ := bindO h
  refine bindI (a := x7) ?_ ?_
  ·
    obtain ⟨x9, h_x9, h_x7⟩ := bindO h_x7
    refine bindI (a := x9) ?_ ?_
    ·
      rcases ifB h_x9 with ⟨hc_, h_x9⟩ | ⟨hc_, h_x9⟩
      · refine ifT hc_ ?_
        exact h_x9
      · refine ifF hc_ ?_
        exact h_x9
    ·
      rcases ifB h_x7 with ⟨hc_, h_x7⟩ | ⟨hc_, h_x7⟩
      · refine ifT hc_ ?_
        exact h_x7
      · refine ifF hc_ ?_
        exact h_x7
  ·
    obtain ⟨u_, hu_, h⟩ := bindO h
    refine bindI hu_ ?_
    obtain ⟨o25, h_o25, h⟩ := bindO h
    refine bindI (strings_explode_l1_ns h_o25) ?_
    obtain ⟨x47, h_x47, h⟩ := bindO h
    refine bindI (a := x47) ?_ ?_
    ·
      rcases ifB h_x47 with ⟨hc_, h_x47⟩ | ⟨hc_, h_x47⟩
      · refine ifT hc_ ?_
        obtain ⟨e50, h_e50, h_x47⟩ := bindO h_x47
        refine bindI h_e50 ?_
        exact h_x47
      · refine ifF hc_ ?_
        exact h_x47
    ·
      exact h
def internal_stringslite_IndexByte_n (n : Nat) (p1 : List UInt8) (p2 : UInt8) : Option Int := do
  some (idxB p1 p2)
theorem internal_stringslite_IndexByte_ns {n : Nat} {p1 : List UInt8} {p2 : UInt8} {r : Int} (h : internal_stringslite_IndexByte_n n p1 p2 = some r) : internal_stringslite_IndexByte p1 p2 = some r := by
  unfold internal_stringslite_IndexByte_n at h
  unfold internal_stringslite_IndexByte
  exact h
def internal_bytealg_Cutover_n (n : Nat) (p1 : Int) : Option Int := do
  let q2 ← iquo (w64 (p1 + 16)) 8
  some q2
theorem internal_bytealg_Cutover_ns {n : Nat} {p1 : Int} {r : Int} (h : internal_bytealg_Cutover_n n p1 = some r) : internal_bytealg_Cutover p1 = some r := by
  unfold internal_bytealg_Cutover_n at h
  unfold internal_bytealg_Cutover
  obtain ⟨q2, h_q2, h⟩ := bindO h
  refine bindI h_q2 ?_
  exact h
def internal_bytealg_hashStr_string_n (n : Nat) (p1 : List UInt8) : Option (Int × Int) := do
  none
theorem internal_bytealg_hashStr_string_ns {n : Nat} {p1 : List UInt8} {r : Int × Int} (h : internal_bytealg_hashStr_string_n n p1 = some r) : internal_bytealg_hashStr_string p1 = some r := by
  unfold internal_bytealg_hashStr_string_n at h
  unfold internal_bytealg_hashStr_string
  exact h
def internal_bytealg_IndexRabinKarp_string_n (n : Nat) (p1 : List UInt8) (p2 : List UInt8) : Option Int := do
  let y3 ← internal_bytealg_hashStr_string_n n p2
  none
theorem internal_bytealg_IndexRabinKarp_string_ns {n : Nat} {p1 : List UInt8} {p2 : List UInt8} {r : Int} (h : internal_bytealg_IndexRabinKarp_string_n n p1 p2 = some r) : internal_bytealg_IndexRabinKarp_string p1 p2 = some r := by
  unfold internal_bytealg_IndexRabinKarp_string_n at h
  unfold internal_bytealg_IndexRabinKarp_string
  obtain ⟨y3, h_y3, h⟩ := bindO h
  refine bindI (internal_bytealg_hashStr_string_ns h_y3) ?_
  exact h
def internal_stringslite_Index_n (n : Nat) (p1 : List UInt8) (p2 : List UInt8) : Option Int := do
  let x3 ← (do
      if (((p2.length : Int)) == 0) = true then (do
          some true)
      else (do
          some (p2 == p1)) : Option Bool)
  if (x3) = true then (do
      some 0)
  else (do
      if (((p2.length : Int)) == 1) = true then (do
          let c8 ← ix p2 0
          let y10 ← internal_stringslite_IndexByte_n n p1 c8
          some y10)
      else (do
          if (decide (((p2.length : Int)) ≥ ((p1.length : Int)))) = true then (do
              some ((-1)))
          else (do
              none)))
theorem internal_stringslite_Index_ns {n : Nat} {p1 : List UInt8} {p2 : List UInt8} {r : Int} (h : internal_stringslite_Index_n n p1 p2 = some r) : internal_stringslite_Index p1 p2 = some r := by
  unfold internal_stringslite_Index_n at h
  unfold internal_stringslite_Index
  obtain ⟨x3, h_x3, h⟩ := bindO h
  refine bindI (a := x3) ?_ ?_
  ·
    rcases ifB h_x3 with ⟨hc_, h_x3⟩ | ⟨hc_, h_x3⟩
    · refine ifT hc_ ?_
      exact h_x3
    · refine ifF hc_ ?_
      exact h_x3
  ·
    rcases ifB h with ⟨hc_, h⟩ | ⟨hc_, h⟩
    · refine ifT hc_ ?_
      exact h
    · refine ifF hc_ ?_
      rcases ifB h with ⟨hc_, h⟩ | ⟨hc_, h⟩
      · refine ifT hc_ ?_
        obtain ⟨c8, h_c8, h⟩ := bindO h
        refine bindI h_c8 ?_
        obtain ⟨y10, h_y10, h⟩ := bindO h
        refine bindI (internal_stringslite_IndexByte_ns h_y10) ?_
        exact h
      · refine ifF hc_ ?_
        rcases ifB h with ⟨hc_, h⟩ | ⟨hc_, h⟩
        · refine ifT hc_ ?_
          exact h
        · refine ifF hc_ ?_
          exact h
def strings_Index_n (n : Nat) (p1 : List UInt8) (p2 : List UInt8) : Option Int := do
  let y3 ← internal_stringslite_Index_n n p1 p2
  some y3
theorem strings_Index_ns {n : Nat} {p1 : List UInt8} {p2 : List UInt8} {r : Int} (h : strings_Index_n n p1 p2 = some r) : strings_Index p1 p2 = some r := by
  unfold strings_Index_n at h
  unfold strings_Index
  obtain ⟨y3, h_y3, h⟩ := bindO h
  refine bindI (internal_stringslite_Index_ns h_y3) ?_
  exact h
def strings_Count_l1_n (n : Nat) (p2 : List UInt8) (x16 : Int) (x17 : List UInt8) : Option Int :=
  match n with
  | 0 => none
  | n + 1 => do
    let y21 ← strings_Index_n n x17 p2
    if (y21 == ((-1))) = true then (do
        some x16)
    else (do
        let s26 ← cutL x17 ((w64 (y21 + ((p2.length : Int))))) ((x17.length : Int))
        strings_Count_l1_n n p2 (w64 (x16 + 1)) s26)
theorem strings_Count_l1_nr : ∀ (n : Nat) (p2 : List UInt8) (x16 : Int) (x17 : List UInt8) (r : Int), strings_Count_l1_n n p2 x16 x17 = some r → strings_Count_l1 p2 x16 x17 = some r := by
  intro n
  induction n with
  | zero => intro p2 x16 x17 r h; cases h
  | succ n ih =>
    intro p2 x16 x17 r h
    rw [strings_Count_l1_n] at h
    rw [strings_Count_l1]
    obtain ⟨y21, h_y21, h⟩ := bindO h
    refine bindI (strings_Index_ns h_y21) ?_
    rcases ifB h with ⟨hc_, h⟩ | ⟨hc_, h⟩
    · refine ifT hc_ ?_
      exact h
    · refine ifF hc_ ?_
      obtain ⟨s26, h_s26, h⟩ := bindO h
      refine bindI h_s26 ?_
      exact ih _ _ _ _ h
theorem strings_Count_l1_ns {n : Nat} {p2 : List UInt8} {x16 : Int} {x17 : List UInt8} {r : Int} (h : strings_Count_l1_n n p2 x16 x17 = some r) : strings_Count_l1 p2 x16 x17 = some r := strings_Count_l1_nr n p2 x16 x17 r h
def strings_Count_n (n : Nat) (p1 : List UInt8) (p2 : List UInt8) : Option Int := do
  if (((p2.length : Int)) == 0) = true then (do
      let y4 ← unicode_utf8_RuneCountInString_n n p1
      some (w64 (y4 + 1)))
  else (do
      if (((p2.length : Int)) == 1) = true then (do
          let c9 ← ix p2 0
          some (cntB p1 c9))
      else (do
          let o18 ← strings_Count_l1_n n p2 0 p1
          some o18))
theorem strings_Count_ns {n : Nat} {p1 : List UInt8} {p2 : List UInt8} {r : Int} (h : strings_Count_n n p1 p2 = some r) : strings_Count p1 p2 = some r := by
  unfold strings_Count_n at h
  unfold strings_Count
  rcases ifB h with ⟨hc_, h⟩ | ⟨hc_, h⟩
  · refine ifT hc_ ?_
    obtain ⟨y4, h_y4, h⟩ := bindO h
    refine bindI (unicode_utf8_RuneCountInString_ns h_y4) ?_
    exact h
  · refine ifF hc_ ?_
    rcases ifB h with ⟨hc_, h⟩ | ⟨hc_, h⟩
    · refine ifT hc_ ?_
      obtain ⟨c9, h_c9, h⟩ := bindO h
      refine bindI h_c9 ?_
      exact h
    · refine ifF hc_ ?_
      obtain ⟨o18, h_o18, h⟩ := bindO h
      refine bindI (strings_Count_l1_ns h_o18) ?_
      exact h
def strings_genSplit_l1_n (n : Nat) (p1 : List UInt8) (x14 : Int) (p2 : List UInt8) (p3 : Int) (x33 : Int) (x34 : List UInt8) (x35 : List (List UInt8)) : Option ((List UInt8) × Int × (List (List UInt8))) :=
  match n with
  | 0 => none
  | n + 1 => do
    if (decide (x33 < (w64 ((if w64 (((p1.length : Int)) + 1) < x14 then w64 (((p1.length : Int)) + 1) else x14) - 1)))) = true then (do
        let y40 ← strings_Index_n n x34 p2
        if (decide (y40 < 0)) = true then (do
            some ((x34, x33, x35)))
        else (do
            let s45 ← cutL x34 0 ((w64 (y40 + p3)))
            let e47 ← ix x35 x33
            let s57 ← cutL x34 ((w64 (y40 + ((p2.length : Int))))) ((x34.length : Int))
            strings_genSplit_l1_n n p1 x14 p2 p3 (w64 (x33 + 1)) s57 (x35.set x33.toNat s45)))
    else (do
        some ((x34, x33, x35)))
theorem strings_genSplit_l1_nr : ∀ (n : Nat) (p1 : List UInt8) (x14 : Int) (p2 : List UInt8) (p3 : Int) (x33 : Int) (x34 : List UInt8) (x35 : List (List UInt8)) (r : (List UInt8) × Int × (List (List UInt8))), strings_genSplit_l1_n n p1 x14 p2 p3 x33 x34 x35 = some r → strings_genSplit_l1 p1 x14 p2 p3 x33 x34 x35 = some r := by
  intro n
  induction n with
  | zero => intro p1 x14 p2 p3 x33 x34 x35 r h; cases h
  | succ n ih =>
    intro p1 x14 p2 p3 x33 x34 x35 r h
    rw [strings_genSplit_l1_n] at h
    rw [strings_genSplit_l1]
    rcases ifB h with ⟨hc_, h⟩ | ⟨hc_, h⟩
    · refine ifT hc_ ?_
      obtain ⟨y40, h_y40, h⟩ := bindO h
      refine bindI (strings_Index_ns h_y40) ?_
      rcases ifB h with ⟨hc_, h⟩ | ⟨hc_, h⟩
      · refine ifT hc_ ?_
        exact h
      · refine ifF hc_ ?_
        obtain ⟨s45, h_s45, h⟩ := bindO h
        refine bindI h_s45 ?_
        obtain ⟨e47, h_e47, h⟩ := bindO h
        refine bindI h_e47 ?_
        obtain ⟨s57, h_s57, h⟩ := bindO h
        refine bindI h_s57 ?_
        exact ih _ _ _ _ _ _ _ _ h
    · refine ifF hc_ ?_
      exact h
theorem strings_genSplit_l1_ns {n : Nat} {p1 : List UInt8} {x14 : Int} {p2 : List UInt8} {p3 : Int} {x33 : Int} {x34 : List UInt8} {x35 : List (List UInt8)} {r : (List UInt8) × Int × (List (List UInt8))} (h : strings_genSplit_l1_n n p1 x14 p2 p3 x33 x34 x35 = some r) : strings_genSplit_l1 p1 x14 p2 p3 x33 x34 x35 = some r := strings_genSplit_l1_nr n p1 x14 p2 p3 x33 x34 x35 r h
def strings_genSplit_n (n : Nat) (p1 : List UInt8) (p2 : List UInt8) (p3 : Int) (p4 : Int) : Option (List (List UInt8)) := do
  if (p4 == 0) = true then (do
      some (([] : List (List UInt8))))
  else (do
      if (p2 == ([] : List UInt8)) = true then (do
          let y7 ← strings_explode_n n p1 p4
          some y7)
      else (do
          let x14 ← (do
              if (decide (p4 < 0)) = true then (do
                  let y17 ← strings_Count_n n p1 p2
                  some (w64 (y17 + 1)))
              else (do
                  some p4) : Option Int)
          let _ ← req (0 ≤ (if w64 (((p1.length : Int)) + 1) < x14 then w64 (((p1.length : Int)) + 1) else x14) ∧ (if w64 (((p1.length : Int)) + 1) < x14 then w64 (((p1.length : Int)) + 1) else x14) ≤ (if w64 (((p1.length : Int)) + 1) < x14 then w64 (((p1.length : Int)) + 1) else x14) ∧ (if w64 (((p1.length : Int)) + 1) < x14 then w64 (((p1.length : Int)) + 1) else x14) * 16 ≤ 140737488355328 ∧ (if w64 (((p1.length : Int)) + 1) < x14 then w64 (((p1.length : Int)) + 1) else x14) ≤ 9223372036854775807)
          let x25 ← (do
              let o36 ← strings_genSplit_l1_n n p1 x14 p2 p3 0 p1 (List.replicate (if w64 (((p1.length : Int)) + 1) < x14 then w64 (((p1.length : Int)) + 1) else x14).toNat (([] : List UInt8) : List UInt8))
              some ((o36.1, o36.2.1, o36.2.2)) : Option ((List UInt8) × Int × (List (List UInt8))))
          let e59 ← ix x25.2.2 x25.2.1
          let s69 ← cutL (x25.2.2.set x25.2.1.toNat x25.1) 0 ((w64 (x25.2.1 + 1)))
          some ((x25.2.2.set x25.2.1.toNat x25.1).take (((w64 (x25.2.1 + 1))).toNat))))
theorem strings_genSplit_ns {n : Nat} {p1 : List UInt8} {p2 : List UInt8} {p3 : Int} {p4 : Int} {r : List (List UInt8)} (h : strings_genSplit_n n p1 p2 p3 p4 = some r) : strings_genSplit p1 p2 p3 p4 = some r := by
  unfold strings_genSplit_n at h
  unfold strings_genSplit
  rcases ifB h with ⟨hc_, h⟩ | ⟨hc_, h⟩
  · refine ifT hc_ ?_
    exact h
  · refine ifF hc_ ?_
    rcases ifB h with ⟨hc_, h⟩ | ⟨hc_, h⟩
    · refine ifT hc_ ?_
      obtain ⟨y7, h_y7, h⟩ := bindO h
      refine bindI (strings_explode_ns h_y7) ?_
      exact h
    · refine ifF hc_ ?_
      obtain ⟨x14, h_x14, h⟩ := bindO h
      refine bindI (a := x14) ?_ ?_
      ·
        rcases ifB h_x14 with ⟨hc_, h_x14⟩ | ⟨hc_, h_x14⟩
        · refine ifT hc_ ?_
          obtain ⟨y17, h_y17, h_x14⟩ := bindO h_x14
          refine bindI (strings_Count_ns h_y17) ?_
          exact h_x14
        · refine ifF hc_ ?_
          exact h_x14
      ·
        obtain ⟨u_, hu_, h⟩ := bindO h
        refine bindI hu_ ?_
        obtain ⟨x25, h_x25, h⟩ := bindO h
        refine bindI (a := x25) ?_ ?_
        ·
          obtain ⟨o36, h_o36, h_x25⟩ := bindO h_x25
          refine bindI (strings_genSplit_l1_ns h_o36) ?_
          exact h_x25
        ·
          obtain ⟨e59, h_e59, h⟩ := bindO h
          refine bindI h_e59 ?_
          obtain ⟨s69, h_s69, h⟩ := bindO h
          refine bindI h_s69 ?_
          exact h
def strings_Split_n (n : Nat) (p1 : List UInt8) (p2 : List UInt8) : Option (List (List UInt8)) := do
  let y3 ← strings_genSplit_n n p1 p2 0 ((-1))
  some y3
theorem strings_Split_ns {n : Nat} {p1 : List UInt8} {p2 : List UInt8} {r : List (List UInt8)} (h : strings_Split_n n p1 p2 = some r) : strings_Split p1 p2 = some r := by
  unfold strings_Split_n at h
  unfold strings_Split
  obtain ⟨y3, h_y3, h⟩ := bindO h
  refine bindI (strings_genSplit_ns h_y3) ?_
  exact h
def strings_IndexByte_n (n : Nat) (p1 : List UInt8) (p2 : UInt8) : Option Int := do
  let y3 ← internal_stringslite_IndexByte_n n p1 p2
  some y3
theorem strings_IndexByte_ns {n : Nat} {p1 : List UInt8} {p2 : UInt8} {r : Int} (h : strings_IndexByte_n n p1 p2 = some r) : strings_IndexByte p1 p2 = some r := by
  unfold strings_IndexByte_n at h
  unfold strings_IndexByte
  obtain ⟨y3, h_y3, h⟩ := bindO h
  refine bindI (internal_stringslite_IndexByte_ns h_y3) ?_
  exact h
def raw_read_l1_n (n : Nat) (p1 : List UInt8) (x16 : Int) (x17 : List UInt8) : Option (Sum (List UInt8) (List UInt8)) :=
  match n with
  | 0 => none
  | n + 1 => do
    if (decide (x16 < ((p1.length : Int)))) = true then (do
        let c28 ← ix p1 x16
        let c30 ← ix p1 (w64 (x16 + 1))
        let y32 ← strings_IndexByte_n n ([48, 49, 50, 51, 52, 53, 54, 55, 56, 57, 97, 98, 99, 100, 101, 102] : List UInt8) c28
        let y36 ← strings_IndexByte_n n ([48, 49, 50, 51, 52, 53, 54, 55, 56, 57, 97, 98, 99, 100, 101, 102] : List UInt8) c30
        let x40 ← (do
            if (decide (y32 < 0)) = true then (do
                some true)
            else (do
                some (decide (y36 < 0))) : Option Bool)
        if (x40) = true then (do
            some (Sum.inr x17))
        else (do
            let _ ← req ((x17.length + ([toB (or64 (w64 (y32 * 2 ^ 4)) y36)] : List UInt8).length) * 1 ≤ 140737488355328 ∧ x17.length + ([toB (or64 (w64 (y32 * 2 ^ 4)) y36)] : List UInt8).length ≤ 9223372036854775807)
            raw_read_l1_n n p1 (w64 (x16 + 2)) (x17 ++ ([toB (or64 (w64 (y32 * 2 ^ 4)) y36)] : List UInt8))))
    else (do
        some (Sum.inl x17))
theorem raw_read_l1_nr : ∀ (n : Nat) (p1 : List UInt8) (x16 : Int) (x17 : List UInt8) (r : Sum (List UInt8) (List UInt8)), raw_read_l1_n n p1 x16 x17 = some r → raw_read_l1 p1 x16 x17 = some r := by
  intro n
  induction n with
  | zero => intro p1 x16 x17 r h; cases h
  | succ n ih =>
    intro p1 x16 x17 r h
    rw [raw_read_l1_n] at h
    rw [raw_read_l1]
    rcases ifB h with ⟨hc_, h⟩ | ⟨hc_, h⟩
    · refine ifT hc_ ?_
      obtain ⟨c28, h_c28, h⟩ := bindO h
      refine bindI h_c28 ?_
      obtain ⟨c30, h_c30, h⟩ := bindO h
      refine bindI h_c30 ?_
      obtain ⟨y32, h_y32, h⟩ := bindO h
      refine bindI (strings_IndexByte_ns h_y32) ?_
      obtain ⟨y36, h_y36, h⟩ := bindO h
      refine bindI (strings_IndexByte_ns h_y36) ?_
      obtain ⟨x40, h_x40, h⟩ := bindO h
      refine bindI (a := x40) ?_ ?_
      ·
        rcases ifB h_x40 with ⟨hc_, h_x40⟩ | ⟨hc_, h_x40⟩
        · refine ifT hc_ ?_
          exact h_x40
        · refine ifF hc_ ?_
          exact h_x40
      ·
        rcases ifB h with ⟨hc_, h⟩ | ⟨hc_, h⟩
        · refine ifT hc_ ?_
          exact h
        · refine ifF hc_ ?_
          obtain ⟨u_, hu_, h⟩ := bindO h
          refine bindI hu_ ?_
          exact ih _ _ _ _ h
    · refine ifF hc_ ?_
      exact h
theorem raw_read_l1_ns {n : Nat} {p1 : List UInt8} {x16 : Int} {x17 : List UInt8} {r : Sum (List UInt8) (List UInt8)} (h : raw_read_l1_n n p1 x16 x17 = some r) : raw_read_l1 p1 x16 x17 = some r := raw_read_l1_nr n p1 x16 x17 r h
def raw_read_n (n : Nat) (p1 : List UInt8) : Option ((List UInt8) × Bool) := do
  if (p1 == ([45] : List UInt8)) = true then (do
      some ((([] : List UInt8), true)))
  else (do
      let x3 ← (do
          if (p1 == ([] : List UInt8)) = true then (do
              some true)
          else (do
              let q6 ← irem ((p1.length : Int)) 2
              some (q6 != 0)) : Option Bool)
      if (x3) = true then (do
          some ((([] : List UInt8), false)))
      else (do
          let o19 ← raw_read_l1_n n p1 0 ([] : List UInt8)
          match o19 with
          | Sum.inl x22 => do
              some ((x22, true))
          | Sum.inr x25 => do
              some ((([] : List UInt8), false))))
theorem raw_read_ns {n : Nat} {p1 : List UInt8} {r : (List UInt8) × Bool} (h : raw_read_n n p1 = some r) : raw_read p1 = some r := by
  unfold raw_read_n at h
  unfold raw_read
  rcases ifB h with ⟨hc_, h⟩ | ⟨hc_, h⟩
  · refine ifT hc_ ?_
    exact h
  · refine ifF hc_ ?_
    obtain ⟨x3, h_x3, h⟩ := bindO h
    refine bindI (a := x3) ?_ ?_
    ·
      rcases ifB h_x3 with ⟨hc_, h_x3⟩ | ⟨hc_, h_x3⟩
      · refine ifT hc_ ?_
        exact h_x3
      · refine ifF hc_ ?_
        obtain ⟨q6, h_q6, h_x3⟩ := bindO h_x3
        refine bindI h_q6 ?_
        exact h_x3
    ·
      rcases ifB h with ⟨hc_, h⟩ | ⟨hc_, h⟩
      · refine ifT hc_ ?_
        exact h
      · refine ifF hc_ ?_
        obtain ⟨o19, h_o19, h⟩ := bindO h
        refine bindI (raw_read_l1_ns h_o19) ?_
        rcases o19 with x_ | x_
        ·
          dsimp only at h ⊢
          exact h
        ·
          dsimp only at h ⊢
          exact h
def raw_number_n (n : Nat) (p1 : List UInt8) : Option (Int × Bool) := do
  let y2 ← strconv_ParseUint p1 10 16
  let x8 ← (do
      if (y2.2) = true then (do
          if (decide (((p1.length : Int)) ≤ 4)) = true then (do
              if (((p1.length : Int)) == 1) = true then (do
                  some true)
              else (do
                  let c13 ← ix p1 0
                  some (c13 != 48)))
          else (do
              some false))
      else (do
          some false) : Option Bool)
  some ((IntKind.i64.wrap y2.1, x8))
theorem raw_number_ns {n : Nat} {p1 : List UInt8} {r : Int × Bool} (h : raw_number_n n p1 = some r) : raw_number p1 = some r := by
  unfold raw_number_n at h
  unfold raw_number
  obtain ⟨y2, h_y2, h⟩ := bindO h
  refine bindI h_y2 ?_
  obtain ⟨x8, h_x8, h⟩ := bindO h
  refine bindI (a := x8) ?_ ?_
  ·
    rcases ifB h_x8 with ⟨hc_, h_x8⟩ | ⟨hc_, h_x8⟩
    · refine ifT hc_ ?_
      rcases ifB h_x8 with ⟨hc_, h_x8⟩ | ⟨hc_, h_x8⟩
      · refine ifT hc_ ?_
        rcases ifB h_x8 with ⟨hc_, h_x8⟩ | ⟨hc_, h_x8⟩
        · refine ifT hc_ ?_
          exact h_x8
        · refine ifF hc_ ?_
          obtain ⟨c13, h_c13, h_x8⟩ := bindO h_x8
          refine bindI h_c13 ?_
          exact h_x8
      · refine ifF hc_ ?_
        exact h_x8
    · refine ifF hc_ ?_
      exact h_x8
  ·
    exact h
def raw_marks_l1_n (n : Nat) (y3 : List (List UInt8)) (x15 : Int) (x16 : List Int) : Option (Sum (List Int) (List Int)) :=
  match n with
  | 0 => none
  | n + 1 => do
    if (decide (x15 < ((y3.length : Int)))) = true then (do
        let e27 ← ix y3 x15
        let y37 ← raw_number_n n e27
        if (!y37.2) = true then (do
            some (Sum.inr x16))
        else (do
            let _ ← req ((x16.length + (([y37.1] : List Int)).length) * 8 ≤ 140737488355328 ∧ x16.length + (([y37.1] : List Int)).length ≤ 9223372036854775807)
            raw_marks_l1_n n y3 (w64 (x15 + 1)) (x16 ++ (([y37.1] : List Int)))))
    else (do
        some (Sum.inl x16))
theorem raw_marks_l1_nr : ∀ (n : Nat) (y3 : List (List UInt8)) (x15 : Int) (x16 : List Int) (r : Sum (List Int) (List Int)), raw_marks_l1_n n y3 x15 x16 = some r → raw_marks_l1 y3 x15 x16 = some r := by
  intro n
  induction n with
  | zero => intro y3 x15 x16 r h; cases h
  | succ n ih =>
    intro y3 x15 x16 r h
    rw [raw_marks_l1_n] at h
    rw [raw_marks_l1]
    rcases ifB h with ⟨hc_, h⟩ | ⟨hc_, h⟩
    · refine ifT hc_ ?_
      obtain ⟨e27, h_e27, h⟩ := bindO h
      refine bindI h_e27 ?_
      obtain ⟨y37, h_y37, h⟩ := bindO h
      refine bindI (raw_number_ns h_y37) ?_
      rcases ifB h with ⟨hc_, h⟩ | ⟨hc_, h⟩
      · refine ifT hc_ ?_
        exact h
      · refine ifF hc_ ?_
        obtain ⟨u_, hu_, h⟩ := bindO h
        refine bindI hu_ ?_
        exact ih _ _ _ _ h
    · refine ifF hc_ ?_
      exact h
theorem raw_marks_l1_ns {n : Nat} {y3 : List (List UInt8)} {x15 : Int} {x16 : List Int} {r : Sum (List Int) (List Int)} (h : raw_marks_l1_n n y3 x15 x16 = some r) : raw_marks_l1 y3 x15 x16 = some r := raw_marks_l1_nr n y3 x15 x16 r h
def raw_marks_n (n : Nat) (p1 : List UInt8) : Option ((List Int) × Bool) := do
  let y3 ← strings_Split_n n p1 ([44] : List UInt8)
  let o18 ← raw_marks_l1_n n y3 0 (([] : List Int))
  match o18 with
  | Sum.inl x21 => do
      some ((x21, true))
  | Sum.inr x24 => do
      some ((([] : List Int), false))
theorem raw_marks_ns {n : Nat} {p1 : List UInt8} {r : (List Int) × Bool} (h : raw_marks_n n p1 = some r) : raw_marks p1 = some r := by
  unfold raw_marks_n at h
  unfold raw_marks
  obtain ⟨y3, h_y3, h⟩ := bindO h
  refine bindI (strings_Split_ns h_y3) ?_
  obtain ⟨o18, h_o18, h⟩ := bindO h
  refine bindI (raw_marks_l1_ns h_o18) ?_
  rcases o18 with x_ | x_
  ·
    dsimp only at h ⊢
    exact h
  ·
    dsimp only at h ⊢
    exact h
def raw_came_n (n : Nat) (p1 : List (List UInt8)) : Option (raw_Event × Bool) := do
  let x8 ← (do
      if (((p1.length : Int)) == 2) = true then (do
          some true)
      else (do
          let x11 ← (do
              if (((p1.length : Int)) == 4) = true then (do
                  let e14 ← ix p1 2
                  some (e14 == ([109, 97, 114, 107, 115] : List UInt8)))
              else (do
                  some false) : Option Bool)
          some x11) : Option Bool)
  if (!x8) = true then (do
      some (((⟨1, 0, ([] : List UInt8), ([] : List Int)⟩ : raw_Event), false)))
  else (do
      let e25 ← ix p1 1
      let y35 ← raw_read_n n e25
      let x42 ← (do
          let x46 ← (do
              if (y35.2) = true then (do
                  some (((p1.length : Int)) == 4))
              else (do
                  some false) : Option Bool)
          if (x46) = true then (do
              let e50 ← ix p1 3
              let y60 ← raw_marks_n n e50
              some ((y60.2, y60.1)))
          else (do
              some ((y35.2, ([] : List Int)))) : Option (Bool × (List Int)))
      some (((⟨1, 0, y35.1, x42.2⟩ : raw_Event), x42.1)))
theorem raw_came_ns {n : Nat} {p1 : List (List UInt8)} {r : raw_Event × Bool} (h : raw_came_n n p1 = some r) : raw_came p1 = some r := by
  unfold raw_came_n at h
  unfold raw_came
  obtain ⟨x8, h_x8, h⟩ := bindO h
  refine bindI (a := x8) ?_ ?_
  ·
    rcases ifB h_x8 with ⟨hc_, h_x8⟩ | ⟨hc_, h_x8⟩
    · refine ifT hc_ ?_
      exact h_x8
    · refine ifF hc_ ?_
      obtain ⟨x11, h_x11, h_x8⟩ := bindO h_x8
      refine bindI (a := x11) ?_ ?_
      ·
        rcases ifB h_x11 with ⟨hc_, h_x11⟩ | ⟨hc_, h_x11⟩
        · refine ifT hc_ ?_
          obtain ⟨e14, h_e14, h_x11⟩ := bindO h_x11
          refine bindI h_e14 ?_
          exact h_x11
        · refine ifF hc_ ?_
          exact h_x11
      ·
        exact h_x8
  ·
    rcases ifB h with ⟨hc_, h⟩ | ⟨hc_, h⟩
    · refine ifT hc_ ?_
      exact h
    · refine ifF hc_ ?_
      obtain ⟨e25, h_e25, h⟩ := bindO h
      refine bindI h_e25 ?_
      obtain ⟨y35, h_y35, h⟩ := bindO h
      refine bindI (raw_read_ns h_y35) ?_
      obtain ⟨x42, h_x42, h⟩ := bindO h
      refine bindI (a := x42) ?_ ?_
      ·
        obtain ⟨x46, h_x46, h_x42⟩ := bindO h_x42
        refine bindI (a := x46) ?_ ?_
        ·
          rcases ifB h_x46 with ⟨hc_, h_x46⟩ | ⟨hc_, h_x46⟩
          · refine ifT hc_ ?_
            exact h_x46
          · refine ifF hc_ ?_
            exact h_x46
        ·
          rcases ifB h_x42 with ⟨hc_, h_x42⟩ | ⟨hc_, h_x42⟩
          · refine ifT hc_ ?_
            obtain ⟨e50, h_e50, h_x42⟩ := bindO h_x42
            refine bindI h_e50 ?_
            obtain ⟨y60, h_y60, h_x42⟩ := bindO h_x42
            refine bindI (raw_marks_ns h_y60) ?_
            exact h_x42
          · refine ifF hc_ ?_
            exact h_x42
      ·
        exact h
def raw_counted_n (n : Nat) (p1 : Int) (p2 : List (List UInt8)) : Option (raw_Event × Bool) := do
  if (((p2.length : Int)) != 2) = true then (do
      some (((⟨0, 0, ([] : List UInt8), ([] : List Int)⟩ : raw_Event), false)))
  else (do
      let e8 ← ix p2 1
      let y18 ← raw_number_n n e8
      some (((⟨p1, y18.1, ([] : List UInt8), ([] : List Int)⟩ : raw_Event), y18.2)))
theorem raw_counted_ns {n : Nat} {p1 : Int} {p2 : List (List UInt8)} {r : raw_Event × Bool} (h : raw_counted_n n p1 p2 = some r) : raw_counted p1 p2 = some r := by
  unfold raw_counted_n at h
  unfold raw_counted
  rcases ifB h with ⟨hc_, h⟩ | ⟨hc_, h⟩
  · refine ifT hc_ ?_
    exact h
  · refine ifF hc_ ?_
    obtain ⟨e8, h_e8, h⟩ := bindO h
    refine bindI h_e8 ?_
    obtain ⟨y18, h_y18, h⟩ := bindO h
    refine bindI (raw_number_ns h_y18) ?_
    exact h
def raw_event_n (n : Nat) (p1 : List (List UInt8)) : Option (raw_Event × Bool) := do
  let e6 ← ix p1 0
  if (e6 == ([98, 121, 116, 101, 115] : List UInt8)) = true then (do
      let y17 ← raw_came_n n p1
      some (((⟨y17.1.f_Kind, y17.1.f_N, y17.1.f_Bytes, y17.1.f_Marks⟩ : raw_Event), y17.2)))
  else (do
      if (e6 == ([103, 114, 97, 110, 116] : List UInt8)) = true then (do
          let y26 ← raw_counted_n n 2 p1
          some (((⟨y26.1.f_Kind, y26.1.f_N, y26.1.f_Bytes, y26.1.f_Marks⟩ : raw_Event), y26.2)))
      else (do
          if (e6 == ([116, 105, 99, 107] : List UInt8)) = true then (do
              let y35 ← raw_counted_n n 3 p1
              some (((⟨y35.1.f_Kind, y35.1.f_N, y35.1.f_Bytes, y35.1.f_Marks⟩ : raw_Event), y35.2)))
          else (do
              if (e6 == ([99, 108, 111, 115, 101] : List UInt8)) = true then (do
                  some (((⟨4, 0, ([] : List UInt8), ([] : List Int)⟩ : raw_Event), ((p1.length : Int)) == 1)))
              else (do
                  some (((⟨0, 0, ([] : List UInt8), ([] : List Int)⟩ : raw_Event), false))))))
theorem raw_event_ns {n : Nat} {p1 : List (List UInt8)} {r : raw_Event × Bool} (h : raw_event_n n p1 = some r) : raw_event p1 = some r := by
  unfold raw_event_n at h
  unfold raw_event
  obtain ⟨e6, h_e6, h⟩ := bindO h
  refine bindI h_e6 ?_
  rcases ifB h with ⟨hc_, h⟩ | ⟨hc_, h⟩
  · refine ifT hc_ ?_
    obtain ⟨y17, h_y17, h⟩ := bindO h
    refine bindI (raw_came_ns h_y17) ?_
    exact h
  · refine ifF hc_ ?_
    rcases ifB h with ⟨hc_, h⟩ | ⟨hc_, h⟩
    · refine ifT hc_ ?_
      obtain ⟨y26, h_y26, h⟩ := bindO h
      refine bindI (raw_counted_ns h_y26) ?_
      exact h
    · refine ifF hc_ ?_
      rcases ifB h with ⟨hc_, h⟩ | ⟨hc_, h⟩
      · refine ifT hc_ ?_
        obtain ⟨y35, h_y35, h⟩ := bindO h
        refine bindI (raw_counted_ns h_y35) ?_
        exact h
      · refine ifF hc_ ?_
        rcases ifB h with ⟨hc_, h⟩ | ⟨hc_, h⟩
        · refine ifT hc_ ?_
          exact h
        · refine ifF hc_ ?_
          exact h
def raw_Event_marked_l1_n (n : Nat) (p1 : raw_Event) (x12 : Int) : Option (Sum Unit Unit) :=
  match n with
  | 0 => none
  | n + 1 => do
    if (decide (x12 < ((p1.f_Marks.length : Int)))) = true then (do
        let e20 ← ix p1.f_Marks x12
        let x30 ← (do
            if (decide (e20 < 0)) = true then (do
                some true)
            else (do
                some (decide (e20 ≥ ((p1.f_Bytes.length : Int))))) : Option Bool)
        let x33 ← (do
            if (x30) = true then (do
                some true)
            else (do
                let x36 ← (do
                    if (decide (x12 > 0)) = true then (do
                        let e39 ← ix p1.f_Marks (w64 (x12 - 1))
                        some (decide (e20 ≤ e39)))
                    else (do
                        some false) : Option Bool)
                some x36) : Option Bool)
        if (x33) = true then (do
            some (Sum.inr (())))
        else (do
            raw_Event_marked_l1_n n p1 (w64 (x12 + 1))))
    else (do
        some (Sum.inl (())))
theorem raw_Event_marked_l1_nr : ∀ (n : Nat) (p1 : raw_Event) (x12 : Int) (r : Sum Unit Unit), raw_Event_marked_l1_n n p1 x12 = some r → raw_Event_marked_l1 p1 x12 = some r := by
  intro n
  induction n with
  | zero => intro p1 x12 r h; cases h
  | succ n ih =>
    intro p1 x12 r h
    rw [raw_Event_marked_l1_n] at h
    rw [raw_Event_marked_l1]
    rcases ifB h with ⟨hc_, h⟩ | ⟨hc_, h⟩
    · refine ifT hc_ ?_
      obtain ⟨e20, h_e20, h⟩ := bindO h
      refine bindI h_e20 ?_
      obtain ⟨x30, h_x30, h⟩ := bindO h
      refine bindI (a := x30) ?_ ?_
      ·
        rcases ifB h_x30 with ⟨hc_, h_x30⟩ | ⟨hc_, h_x30⟩
        · refine ifT hc_ ?_
          exact h_x30
        · refine ifF hc_ ?_
          exact h_x30
      ·
        obtain ⟨x33, h_x33, h⟩ := bindO h
        refine bindI (a := x33) ?_ ?_
        ·
          rcases ifB h_x33 with ⟨hc_, h_x33⟩ | ⟨hc_, h_x33⟩
          · refine ifT hc_ ?_
            exact h_x33
          · refine ifF hc_ ?_
            obtain ⟨x36, h_x36, h_x33⟩ := bindO h_x33
            refine bindI (a := x36) ?_ ?_
            ·
              rcases ifB h_x36 with ⟨hc_, h_x36⟩ | ⟨hc_, h_x36⟩
              · refine ifT hc_ ?_
                obtain ⟨e39, h_e39, h_x36⟩ := bindO h_x36
                refine bindI h_e39 ?_
                exact h_x36
              · refine ifF hc_ ?_
                exact h_x36
            ·
              exact h_x33
        ·
          rcases ifB h with ⟨hc_, h⟩ | ⟨hc_, h⟩
          · refine ifT hc_ ?_
            exact h
          · refine ifF hc_ ?_
            exact ih _ _ _ h
    · refine ifF hc_ ?_
      exact h
theorem raw_Event_marked_l1_ns {n : Nat} {p1 : raw_Event} {x12 : Int} {r : Sum Unit Unit} (h : raw_Event_marked_l1_n n p1 x12 = some r) : raw_Event_marked_l1 p1 x12 = some r := raw_Event_marked_l1_nr n p1 x12 r h
def raw_Event_marked_n (n : Nat) (p1 : raw_Event) : Option Bool := do
  let o13 ← raw_Event_marked_l1_n n p1 0
  match o13 with
  | Sum.inl x16 => do
      some true
  | Sum.inr x18 => do
      some false
theorem raw_Event_marked_ns {n : Nat} {p1 : raw_Event} {r : Bool} (h : raw_Event_marked_n n p1 = some r) : raw_Event_marked p1 = some r := by
  unfold raw_Event_marked_n at h
  unfold raw_Event_marked
  obtain ⟨o13, h_o13, h⟩ := bindO h
  refine bindI (raw_Event_marked_l1_ns h_o13) ?_
  rcases o13 with x_ | x_
  ·
    dsimp only at h ⊢
    exact h
  ·
    dsimp only at h ⊢
    exact h
def raw_Right_n (n : Nat) (p1 : raw_Event) : Option Bool := do
  let k8 := fun (_ : Unit) => (do
      some false)
  if (p1.f_Kind == 1) = true then (do
      let x11 ← (do
          if (p1.f_N == 0) = true then (do
              some (decide (((p1.f_Bytes.length : Int)) ≤ 1024)))
          else (do
              some false) : Option Bool)
      let x15 ← (do
          if (x11) = true then (do
              let y18 ← raw_Event_marked_n n p1
              some y18)
          else (do
              some false) : Option Bool)
      some x15)
  else (do
      let x22 ← (do
          if (p1.f_Kind == 2) = true then (do
              some (p1.f_Kind == 2))
          else (do
              some (p1.f_Kind == 3)) : Option Bool)
      if (x22) = true then (do
          let x26 ← (do
              if (decide (p1.f_N ≥ 0)) = true then (do
                  some (decide (p1.f_N ≤ 9999)))
              else (do
                  some false) : Option Bool)
          let x29 ← (do
              if (x26) = true then (do
                  some ((w64 (((p1.f_Bytes.length : Int)) + ((p1.f_Marks.length : Int)))) == 0))
              else (do
                  some false) : Option Bool)
          some x29)
      else (do
          if (p1.f_Kind == 4) = true then (do
              let x33 ← (do
                  if (p1.f_N == 0) = true then (do
                      some ((w64 (((p1.f_Bytes.length : Int)) + ((p1.f_Marks.length : Int)))) == 0))
                  else (do
                      some false) : Option Bool)
              some x33)
          else (do
              k8 ())))
theorem raw_Right_ns {n : Nat} {p1 : raw_Event} {r : Bool} (h : raw_Right_n n p1 = some r) : raw_Right p1 = some r := by
  unfold raw_Right_n at h
  unfold raw_Right
  extract_lets k8 at h
  extract_lets k8'
  have hk_k8 : ∀ u_ r, k8 u_ = some r → k8' u_ = some r := by
    intro u_ r hk
    simp only [k8] at hk
    simp only [k8']
    exact hk
  rcases ifB h with ⟨hc_, h⟩ | ⟨hc_, h⟩
  · refine ifT hc_ ?_
    obtain ⟨x11, h_x11, h⟩ := bindO h
    refine bindI (a := x11) ?_ ?_
    ·
      rcases ifB h_x11 with ⟨hc_, h_x11⟩ | ⟨hc_, h_x11⟩
      · refine ifT hc_ ?_
        exact h_x11
      · refine ifF hc_ ?_
        exact h_x11
    ·
      obtain ⟨x15, h_x15, h⟩ := bindO h
      refine bindI (a := x15) ?_ ?_
      ·
        rcases ifB h_x15 with ⟨hc_, h_x15⟩ | ⟨hc_, h_x15⟩
        · refine ifT hc_ ?_
          obtain ⟨y18, h_y18, h_x15⟩ := bindO h_x15
          refine bindI (raw_Event_marked_ns h_y18) ?_
          exact h_x15
        · refine ifF hc_ ?_
          exact h_x15
      ·
        exact h
  · refine ifF hc_ ?_
    obtain ⟨x22, h_x22, h⟩ := bindO h
    refine bindI (a := x22) ?_ ?_
    ·
      rcases ifB h_x22 with ⟨hc_, h_x22⟩ | ⟨hc_, h_x22⟩
      · refine ifT hc_ ?_
        exact h_x22
      · refine ifF hc_ ?_
        exact h_x22
    ·
      rcases ifB h with ⟨hc_, h⟩ | ⟨hc_, h⟩
      · refine ifT hc_ ?_
        obtain ⟨x26, h_x26, h⟩ := bindO h
        refine bindI (a := x26) ?_ ?_
        ·
          rcases ifB h_x26 with ⟨hc_, h_x26⟩ | ⟨hc_, h_x26⟩
          · refine ifT hc_ ?_
            exact h_x26
          · refine ifF hc_ ?_
            exact h_x26
        ·
          obtain ⟨x29, h_x29, h⟩ := bindO h
          refine bindI (a := x29) ?_ ?_
          ·
            rcases ifB h_x29 with ⟨hc_, h_x29⟩ | ⟨hc_, h_x29⟩
            · refine ifT hc_ ?_
              exact h_x29
            · refine ifF hc_ ?_
              exact h_x29
          ·
            exact h
      · refine ifF hc_ ?_
        rcases ifB h with ⟨hc_, h⟩ | ⟨hc_, h⟩
        · refine ifT hc_ ?_
          obtain ⟨x33, h_x33, h⟩ := bindO h
          refine bindI (a := x33) ?_ ?_
          ·
            rcases ifB h_x33 with ⟨hc_, h_x33⟩ | ⟨hc_, h_x33⟩
            · refine ifT hc_ ?_
              exact h_x33
            · refine ifF hc_ ?_
              exact h_x33
          ·
            exact h
        · refine ifF hc_ ?_
          exact hk_k8  () _ h
def raw_Parse_n (n : Nat) (p1 : List UInt8) : Option (raw_Event × (Option Nat)) := do
  let y4 ← strings_Split_n n p1 ([32] : List UInt8)
  let y10 ← raw_event_n n y4
  let x21 ← (do
      if (!y10.2) = true then (do
          some true)
      else (do
          let y24 ← raw_Right_n n ((⟨y10.1.f_Kind, y10.1.f_N, y10.1.f_Bytes, y10.1.f_Marks⟩ : raw_Event))
          some (!y24)) : Option Bool)
  if (x21) = true then (do
      some (((⟨0, 0, ([] : List UInt8), ([] : List Int)⟩ : raw_Event), (some 0 : Option Nat))))
  else (do
      some (((⟨y10.1.f_Kind, y10.1.f_N, y10.1.f_Bytes, y10.1.f_Marks⟩ : raw_Event), (none : Option Nat))))
theorem raw_Parse_ns {n : Nat} {p1 : List UInt8} {r : raw_Event × (Option Nat)} (h : raw_Parse_n n p1 = some r) : raw_Parse p1 = some r := by
  unfold raw_Parse_n at h
  unfold raw_Parse
  obtain ⟨y4, h_y4, h⟩ := bindO h
  refine bindI (strings_Split_ns h_y4) ?_
  obtain ⟨y10, h_y10, h⟩ := bindO h
  refine bindI (raw_event_ns h_y10) ?_
  obtain ⟨x21, h_x21, h⟩ := bindO h
  refine bindI (a := x21) ?_ ?_
  ·
    rcases ifB h_x21 with ⟨hc_, h_x21⟩ | ⟨hc_, h_x21⟩
    · refine ifT hc_ ?_
      exact h_x21
    · refine ifF hc_ ?_
      obtain ⟨y24, h_y24, h_x21⟩ := bindO h_x21
      refine bindI (raw_Right_ns h_y24) ?_
      exact h_x21
  ·
    rcases ifB h with ⟨hc_, h⟩ | ⟨hc_, h⟩
    · refine ifT hc_ ?_
      exact h
    · refine ifF hc_ ?_
      exact h
def Num_SameInts_l1_n (n : Nat) (p1 : List Int) (p4 : List Int) (x12 : Int) : Option (Sum Unit Unit) :=
  match n with
  | 0 => none
  | n + 1 => do
    if (decide (x12 < ((p1.length : Int)))) = true then (do
        let e20 ← ix p1 x12
        let e30 ← ix p4 x12
        if (e20 != e30) = true then (do
            some (Sum.inr (())))
        else (do
            Num_SameInts_l1_n n p1 p4 (w64 (x12 + 1))))
    else (do
        some (Sum.inl (())))
theorem Num_SameInts_l1_nr : ∀ (n : Nat) (p1 : List Int) (p4 : List Int) (x12 : Int) (r : Sum Unit Unit), Num_SameInts_l1_n n p1 p4 x12 = some r → Num_SameInts_l1 p1 p4 x12 = some r := by
  intro n
  induction n with
  | zero => intro p1 p4 x12 r h; cases h
  | succ n ih =>
    intro p1 p4 x12 r h
    rw [Num_SameInts_l1_n] at h
    rw [Num_SameInts_l1]
    rcases ifB h with ⟨hc_, h⟩ | ⟨hc_, h⟩
    · refine ifT hc_ ?_
      obtain ⟨e20, h_e20, h⟩ := bindO h
      refine bindI h_e20 ?_
      obtain ⟨e30, h_e30, h⟩ := bindO h
      refine bindI h_e30 ?_
      rcases ifB h with ⟨hc_, h⟩ | ⟨hc_, h⟩
      · refine ifT hc_ ?_
        exact h
      · refine ifF hc_ ?_
        exact ih _ _ _ _ h
    · refine ifF hc_ ?_
      exact h
theorem Num_SameInts_l1_ns {n : Nat} {p1 : List Int} {p4 : List Int} {x12 : Int} {r : Sum Unit Unit} (h : Num_SameInts_l1_n n p1 p4 x12 = some r) : Num_SameInts_l1 p1 p4 x12 = some r := Num_SameInts_l1_nr n p1 p4 x12 r h
def Num_SameInts_n (n : Nat) (p1 : List Int) (p4 : List Int) : Option Bool := do
  if (((p1.length : Int)) != ((p4.length : Int))) = true then (do
      some false)
  else (do
      let o13 ← Num_SameInts_l1_n n p1 p4 0
      match o13 with
      | Sum.inl x16 => do
          some true
      | Sum.inr x18 => do
          some false)
theorem Num_SameInts_ns {n : Nat} {p1 : List Int} {p4 : List Int} {r : Bool} (h : Num_SameInts_n n p1 p4 = some r) : Num_SameInts p1 p4 = some r := by
  unfold Num_SameInts_n at h
  unfold Num_SameInts
  rcases ifB h with ⟨hc_, h⟩ | ⟨hc_, h⟩
  · refine ifT hc_ ?_
    exact h
  · refine ifF hc_ ?_
    obtain ⟨o13, h_o13, h⟩ := bindO h
    refine bindI (Num_SameInts_l1_ns h_o13) ?_
    rcases o13 with x_ | x_
    ·
      dsimp only at h ⊢
      exact h
    ·
      dsimp only at h ⊢
      exact h
def strings_Builder_copyCheck_n (n : Nat) (p1 : List UInt8) : Option (List UInt8) := do
  some p1
theorem strings_Builder_copyCheck_ns {n : Nat} {p1 : List UInt8} {r : List UInt8} (h : strings_Builder_copyCheck_n n p1 = some r) : strings_Builder_copyCheck p1 = some r := by
  unfold strings_Builder_copyCheck_n at h
  unfold strings_Builder_copyCheck
  exact h
def strings_Builder_WriteByte_n (n : Nat) (p1 : List UInt8) (p7 : UInt8) : Option ((Option Nat) × (List UInt8)) := do
  let y8 ← strings_Builder_copyCheck_n n p1
  let _ ← req ((y8.length + ([p7] : List UInt8).length) * 1 ≤ 140737488355328 ∧ y8.length + ([p7] : List UInt8).length ≤ 9223372036854775807)
  some (((none : Option Nat), y8 ++ ([p7] : List UInt8)))
theorem strings_Builder_WriteByte_ns {n : Nat} {p1 : List UInt8} {p7 : UInt8} {r : (Option Nat) × (List UInt8)} (h : strings_Builder_WriteByte_n n p1 p7 = some r) : strings_Builder_WriteByte p1 p7 = some r := by
  unfold strings_Builder_WriteByte_n at h
  unfold strings_Builder_WriteByte
  obtain ⟨y8, h_y8, h⟩ := bindO h
  refine bindI (strings_Builder_copyCheck_ns h_y8) ?_
  obtain ⟨u_, hu_, h⟩ := bindO h
  refine bindI hu_ ?_
  exact h
def strings_Builder_String_n (n : Nat) (p1 : List UInt8) : Option (List UInt8) := do
  some p1
theorem strings_Builder_String_ns {n : Nat} {p1 : List UInt8} {r : List UInt8} (h : strings_Builder_String_n n p1 = some r) : strings_Builder_String p1 = some r := by
  unfold strings_Builder_String_n at h
  unfold strings_Builder_String
  exact h
def raw_told_l1_n (n : Nat) (p1 : List UInt8) (x16 : Int) (x19 : List UInt8) : Option (List UInt8) :=
  match n with
  | 0 => none
  | n + 1 => do
    if (decide (x16 < ((p1.length : Int)))) = true then (do
        let e28 ← ix p1 x16
        let c38 ← ix ([48, 49, 50, 51, 52, 53, 54, 55, 56, 57, 97, 98, 99, 100, 101, 102] : List UInt8) (b8 (shr8 e28 4))
        let y40 ← strings_Builder_WriteByte_n n x19 c38
        let c48 ← ix ([48, 49, 50, 51, 52, 53, 54, 55, 56, 57, 97, 98, 99, 100, 101, 102] : List UInt8) (b8 (e28 &&& 15))
        let y50 ← strings_Builder_WriteByte_n n y40.2 c48
        raw_told_l1_n n p1 (w64 (x16 + 1)) y50.2)
    else (do
        some x19)
theorem raw_told_l1_nr : ∀ (n : Nat) (p1 : List UInt8) (x16 : Int) (x19 : List UInt8) (r : List UInt8), raw_told_l1_n n p1 x16 x19 = some r → raw_told_l1 p1 x16 x19 = some r := by
  intro n
  induction n with
  | zero => intro p1 x16 x19 r h; cases h
  | succ n ih =>
    intro p1 x16 x19 r h
    rw [raw_told_l1_n] at h
    rw [raw_told_l1]
    rcases ifB h with ⟨hc_, h⟩ | ⟨hc_, h⟩
    · refine ifT hc_ ?_
      obtain ⟨e28, h_e28, h⟩ := bindO h
      refine bindI h_e28 ?_
      obtain ⟨c38, h_c38, h⟩ := bindO h
      refine bindI h_c38 ?_
      obtain ⟨y40, h_y40, h⟩ := bindO h
      refine bindI (strings_Builder_WriteByte_ns h_y40) ?_
      obtain ⟨c48, h_c48, h⟩ := bindO h
      refine bindI h_c48 ?_
      obtain ⟨y50, h_y50, h⟩ := bindO h
      refine bindI (strings_Builder_WriteByte_ns h_y50) ?_
      exact ih _ _ _ _ h
    · refine ifF hc_ ?_
      exact h
theorem raw_told_l1_ns {n : Nat} {p1 : List UInt8} {x16 : Int} {x19 : List UInt8} {r : List UInt8} (h : raw_told_l1_n n p1 x16 x19 = some r) : raw_told_l1 p1 x16 x19 = some r := raw_told_l1_nr n p1 x16 x19 r h
def raw_told_n (n : Nat) (p1 : List UInt8) : Option (List UInt8) := do
  if (((p1.length : Int)) == 0) = true then (do
      some ([45] : List UInt8))
  else (do
      let o21 ← raw_told_l1_n n p1 0 ([] : List UInt8)
      let y58 ← strings_Builder_String_n n o21
      some y58)
theorem raw_told_ns {n : Nat} {p1 : List UInt8} {r : List UInt8} (h : raw_told_n n p1 = some r) : raw_told p1 = some r := by
  unfold raw_told_n at h
  unfold raw_told
  rcases ifB h with ⟨hc_, h⟩ | ⟨hc_, h⟩
  · refine ifT hc_ ?_
    exact h
  · refine ifF hc_ ?_
    obtain ⟨o21, h_o21, h⟩ := bindO h
    refine bindI (raw_told_l1_ns h_o21) ?_
    obtain ⟨y58, h_y58, h⟩ := bindO h
    refine bindI (strings_Builder_String_ns h_y58) ?_
    exact h
def raw_places_l1_n (n : Nat) (p1 : List Int) (x11 : Int) (x12 : List (List UInt8)) : Option (List (List UInt8)) :=
  match n with
  | 0 => none
  | n + 1 => do
    if (decide (x11 < ((p1.length : Int)))) = true then (do
        let e19 ← ix p1 x11
        let y29 ← strconv_Itoa e19
        let _ ← req ((x12.length + [y29].length) * 16 ≤ 140737488355328 ∧ x12.length + [y29].length ≤ 9223372036854775807)
        raw_places_l1_n n p1 (w64 (x11 + 1)) (x12 ++ [y29]))
    else (do
        some x12)
theorem raw_places_l1_nr : ∀ (n : Nat) (p1 : List Int) (x11 : Int) (x12 : List (List UInt8)) (r : List (List UInt8)), raw_places_l1_n n p1 x11 x12 = some r → raw_places_l1 p1 x11 x12 = some r := by
  intro n
  induction n with
  | zero => intro p1 x11 x12 r h; cases h
  | succ n ih =>
    intro p1 x11 x12 r h
    rw [raw_places_l1_n] at h
    rw [raw_places_l1]
    rcases ifB h with ⟨hc_, h⟩ | ⟨hc_, h⟩
    · refine ifT hc_ ?_
      obtain ⟨e19, h_e19, h⟩ := bindO h
      refine bindI h_e19 ?_
      obtain ⟨y29, h_y29, h⟩ := bindO h
      refine bindI h_y29 ?_
      obtain ⟨u_, hu_, h⟩ := bindO h
      refine bindI hu_ ?_
      exact ih _ _ _ _ h
    · refine ifF hc_ ?_
      exact h
theorem raw_places_l1_ns {n : Nat} {p1 : List Int} {x11 : Int} {x12 : List (List UInt8)} {r : List (List UInt8)} (h : raw_places_l1_n n p1 x11 x12 = some r) : raw_places_l1 p1 x11 x12 = some r := raw_places_l1_nr n p1 x11 x12 r h
def raw_places_n (n : Nat) (p1 : List Int) : Option (List UInt8) := do
  let o14 ← raw_places_l1_n n p1 0 (([] : List (List UInt8)))
  let y45 ← strings_Join o14 ([44] : List UInt8)
  some y45
theorem raw_places_ns {n : Nat} {p1 : List Int} {r : List UInt8} (h : raw_places_n n p1 = some r) : raw_places p1 = some r := by
  unfold raw_places_n at h
  unfold raw_places
  obtain ⟨o14, h_o14, h⟩ := bindO h
  refine bindI (raw_places_l1_ns h_o14) ?_
  obtain ⟨y45, h_y45, h⟩ := bindO h
  refine bindI h_y45 ?_
  exact h
def raw_Line_n (n : Nat) (p1 : raw_Event) : Option (List UInt8) := do
  let y8 ← raw_Right_n n p1
  if (!y8) = true then (do
      some ([] : List UInt8))
  else (do
      if (p1.f_Kind == 2) = true then (do
          let y14 ← strconv_Itoa p1.f_N
          let _ ← req (([103, 114, 97, 110, 116, 32] : List UInt8).length + y14.length ≤ 9223372036854775807)
          some (([103, 114, 97, 110, 116, 32] : List UInt8) ++ y14))
      else (do
          if (p1.f_Kind == 3) = true then (do
              let y20 ← strconv_Itoa p1.f_N
              let _ ← req (([116, 105, 99, 107, 32] : List UInt8).length + y20.length ≤ 9223372036854775807)
              some (([116, 105, 99, 107, 32] : List UInt8) ++ y20))
          else (do
              if (p1.f_Kind == 4) = true then (do
                  some ([99, 108, 111, 115, 101] : List UInt8))
              else (do
                  if (((p1.f_Marks.length : Int)) == 0) = true then (do
                      let y27 ← raw_told_n n p1.f_Bytes
                      let _ ← req (([98, 121, 116, 101, 115, 32] : List UInt8).length + y27.length ≤ 9223372036854775807)
                      some (([98, 121, 116, 101, 115, 32] : List UInt8) ++ y27))
                  else (do
                      let y32 ← raw_told_n n p1.f_Bytes
                      let _ ← req (([98, 121, 116, 101, 115, 32] : List UInt8).length + y32.length ≤ 9223372036854775807)
                      let _ ← req ((([98, 121, 116, 101, 115, 32] : List UInt8) ++ y32).length + ([32, 109, 97, 114, 107, 115, 32] : List UInt8).length ≤ 9223372036854775807)
                      let y38 ← raw_places_n n p1.f_Marks
                      let _ ← req (((([98, 121, 116, 101, 115, 32] : List UInt8) ++ y32) ++ ([32, 109, 97, 114, 107, 115, 32] : List UInt8)).length + y38.length ≤ 9223372036854775807)
                      some (((([98, 121, 116, 101, 115, 32] : List UInt8) ++ y32) ++ ([32, 109, 97, 114, 107, 115, 32] : List UInt8)) ++ y38))))))
theorem raw_Line_ns {n : Nat} {p1 : raw_Event} {r : List UInt8} (h : raw_Line_n n p1 = some r) : raw_Line p1 = some r := by
  unfold raw_Line_n at h
  unfold raw_Line
  obtain ⟨y8, h_y8, h⟩ := bindO h
  refine bindI (raw_Right_ns h_y8) ?_
  rcases ifB h with ⟨hc_, h⟩ | ⟨hc_, h⟩
  · refine ifT hc_ ?_
    exact h
  · refine ifF hc_ ?_
    rcases ifB h with ⟨hc_, h⟩ | ⟨hc_, h⟩
    · refine ifT hc_ ?_
      obtain ⟨y14, h_y14, h⟩ := bindO h
      refine bindI h_y14 ?_
      obtain ⟨u_, hu_, h⟩ := bindO h
      refine bindI hu_ ?_
      exact h
    · refine ifF hc_ ?_
      rcases ifB h with ⟨hc_, h⟩ | ⟨hc_, h⟩
      · refine ifT hc_ ?_
        obtain ⟨y20, h_y20, h⟩ := bindO h
        refine bindI h_y20 ?_
        obtain ⟨u_, hu_, h⟩ := bindO h
        refine bindI hu_ ?_
        exact h
      · refine ifF hc_ ?_
        rcases ifB h with ⟨hc_, h⟩ | ⟨hc_, h⟩
        · refine ifT hc_ ?_
          exact h
        · refine ifF hc_ ?_
          rcases ifB h with ⟨hc_, h⟩ | ⟨hc_, h⟩
          · refine ifT hc_ ?_
            obtain ⟨y27, h_y27, h⟩ := bindO h
            refine bindI (raw_told_ns h_y27) ?_
            obtain ⟨u_, hu_, h⟩ := bindO h
            refine bindI hu_ ?_
            exact h
          · refine ifF hc_ ?_
            obtain ⟨y32, h_y32, h⟩ := bindO h
            refine bindI (raw_told_ns h_y32) ?_
            obtain ⟨u_, hu_, h⟩ := bindO h
            refine bindI hu_ ?_
            obtain ⟨u_, hu_, h⟩ := bindO h
            refine bindI hu_ ?_
            obtain ⟨y38, h_y38, h⟩ := bindO h
            refine bindI (raw_places_ns h_y38) ?_
            obtain ⟨u_, hu_, h⟩ := bindO h
            refine bindI hu_ ?_
            exact h
def Law_alive_n (n : Nat) : Option Bool := do
  let y1 ← raw_Parse_n n ([98, 121, 116, 101, 115, 32, 54, 49, 54, 50, 32, 109, 97, 114, 107, 115, 32, 49] : List UInt8)
  let x11 ← (do
      if (y1.2.isNone) = true then (do
          some (y1.1.f_Kind == 1))
      else (do
          some false) : Option Bool)
  let x14 ← (do
      if (x11) = true then (do
          some (y1.1.f_Bytes == ([97, 98] : List UInt8)))
      else (do
          some false) : Option Bool)
  let x18 ← (do
      if (x14) = true then (do
          let y24 ← Num_SameInts_n n y1.1.f_Marks (([1] : List Int))
          some y24)
      else (do
          some false) : Option Bool)
  let x29 ← (do
      if (x18) = true then (do
          let y32 ← raw_Line_n n ((⟨y1.1.f_Kind, y1.1.f_N, y1.1.f_Bytes, y1.1.f_Marks⟩ : raw_Event))
          some (y32 == ([98, 121, 116, 101, 115, 32, 54, 49, 54, 50, 32, 109, 97, 114, 107, 115, 32, 49] : List UInt8)))
      else (do
          some false) : Option Bool)
  some x29
theorem Law_alive_ns {n : Nat} {r : Bool} (h : Law_alive_n n = some r) : Law_alive = some r := by
  unfold Law_alive_n at h
  unfold Law_alive
  obtain ⟨y1, h_y1, h⟩ := bindO h
  refine bindI (raw_Parse_ns h_y1) ?_
  obtain ⟨x11, h_x11, h⟩ := bindO h
  refine bindI (a := x11) ?_ ?_
  ·
    rcases ifB h_x11 with ⟨hc_, h_x11⟩ | ⟨hc_, h_x11⟩
    · refine ifT hc_ ?_
      exact h_x11
    · refine ifF hc_ ?_
      exact h_x11
  ·
    obtain ⟨x14, h_x14, h⟩ := bindO h
    refine bindI (a := x14) ?_ ?_
    ·
      rcases ifB h_x14 with ⟨hc_, h_x14⟩ | ⟨hc_, h_x14⟩
      · refine ifT hc_ ?_
        exact h_x14
      · refine ifF hc_ ?_
        exact h_x14
    ·
      obtain ⟨x18, h_x18, h⟩ := bindO h
      refine bindI (a := x18) ?_ ?_
      ·
        rcases ifB h_x18 with ⟨hc_, h_x18⟩ | ⟨hc_, h_x18⟩
        · refine ifT hc_ ?_
          obtain ⟨y24, h_y24, h_x18⟩ := bindO h_x18
          refine bindI (Num_SameInts_ns h_y24) ?_
          exact h_x18
        · refine ifF hc_ ?_
          exact h_x18
      ·
        obtain ⟨x29, h_x29, h⟩ := bindO h
        refine bindI (a := x29) ?_ ?_
        ·
          rcases ifB h_x29 with ⟨hc_, h_x29⟩ | ⟨hc_, h_x29⟩
          · refine ifT hc_ ?_
            obtain ⟨y32, h_y32, h_x29⟩ := bindO h_x29
            refine bindI (raw_Line_ns h_y32) ?_
            exact h_x29
          · refine ifF hc_ ?_
            exact h_x29
        ·
          exact h
def Law_long_n (n : Nat) (p1 : raw_Event) : Option Bool := do
  let x8 ← (do
      if (decide (((p1.f_Bytes.length : Int)) > 1100)) = true then (do
          some true)
      else (do
          some (decide (((p1.f_Marks.length : Int)) > 200))) : Option Bool)
  some x8
theorem Law_long_ns {n : Nat} {p1 : raw_Event} {r : Bool} (h : Law_long_n n p1 = some r) : Law_long p1 = some r := by
  unfold Law_long_n at h
  unfold Law_long
  obtain ⟨x8, h_x8, h⟩ := bindO h
  refine bindI (a := x8) ?_ ?_
  ·
    rcases ifB h_x8 with ⟨hc_, h_x8⟩ | ⟨hc_, h_x8⟩
    · refine ifT hc_ ?_
      exact h_x8
    · refine ifF hc_ ?_
      exact h_x8
  ·
    exact h
def Law_Of_n (n : Nat) (p1 : raw_Event) : Option R_Event := do
  some ((⟨p1.f_Kind, p1.f_N, p1.f_Bytes, p1.f_Marks⟩ : R_Event))
theorem Law_Of_ns {n : Nat} {p1 : raw_Event} {r : R_Event} (h : Law_Of_n n p1 = some r) : Law_Of p1 = some r := by
  unfold Law_Of_n at h
  unfold Law_Of
  exact h
def R_Right_l1_n (n : Nat) (p1 : R_Event) (x37 : Int) (x38 : Int) : Option (Sum Unit Unit) :=
  match n with
  | 0 => none
  | n + 1 => do
    if (decide (x37 < ((p1.f_Marks.length : Int)))) = true then (do
        let e46 ← ix p1.f_Marks x37
        let x56 ← (do
            if (decide (e46 ≤ x38)) = true then (do
                some true)
            else (do
                some (decide (e46 ≥ ((p1.f_Bytes.length : Int))))) : Option Bool)
        if (x56) = true then (do
            some (Sum.inr (())))
        else (do
            R_Right_l1_n n p1 (w64 (x37 + 1)) e46))
    else (do
        some (Sum.inl (())))
theorem R_Right_l1_nr : ∀ (n : Nat) (p1 : R_Event) (x37 : Int) (x38 : Int) (r : Sum Unit Unit), R_Right_l1_n n p1 x37 x38 = some r → R_Right_l1 p1 x37 x38 = some r := by
  intro n
  induction n with
  | zero => intro p1 x37 x38 r h; cases h
  | succ n ih =>
    intro p1 x37 x38 r h
    rw [R_Right_l1_n] at h
    rw [R_Right_l1]
    rcases ifB h with ⟨hc_, h⟩ | ⟨hc_, h⟩
    · refine ifT hc_ ?_
      obtain ⟨e46, h_e46, h⟩ := bindO h
      refine bindI h_e46 ?_
      obtain ⟨x56, h_x56, h⟩ := bindO h
      refine bindI (a := x56) ?_ ?_
      ·
        rcases ifB h_x56 with ⟨hc_, h_x56⟩ | ⟨hc_, h_x56⟩
        · refine ifT hc_ ?_
          exact h_x56
        · refine ifF hc_ ?_
          exact h_x56
      ·
        rcases ifB h with ⟨hc_, h⟩ | ⟨hc_, h⟩
        · refine ifT hc_ ?_
          exact h
        · refine ifF hc_ ?_
          exact ih _ _ _ _ h
    · refine ifF hc_ ?_
      exact h
theorem R_Right_l1_ns {n : Nat} {p1 : R_Event} {x37 : Int} {x38 : Int} {r : Sum Unit Unit} (h : R_Right_l1_n n p1 x37 x38 = some r) : R_Right_l1 p1 x37 x38 = some r := R_Right_l1_nr n p1 x37 x38 r h
def R_Right_n (n : Nat) (p1 : R_Event) : Option Bool := do
  let x6 ← (do
      if (decide (p1.f_Kind < 1)) = true then (do
          some true)
      else (do
          some (decide (p1.f_Kind > 4))) : Option Bool)
  let x9 ← (do
      if (x6) = true then (do
          some true)
      else (do
          some (decide (((p1.f_Bytes.length : Int)) > 1024))) : Option Bool)
  let x12 ← (do
      if (x9) = true then (do
          some true)
      else (do
          some (decide (p1.f_N < 0))) : Option Bool)
  let x15 ← (do
      if (x12) = true then (do
          some true)
      else (do
          some (decide (p1.f_N > 9999))) : Option Bool)
  if (x15) = true then (do
      some false)
  else (do
      let x19 ← (do
          if (p1.f_Kind != 1) = true then (do
              some (decide ((w64 (((p1.f_Bytes.length : Int)) + ((p1.f_Marks.length : Int)))) > 0)))
          else (do
              some false) : Option Bool)
      let x22 ← (do
          if (x19) = true then (do
              some true)
          else (do
              let x25 ← (do
                  if (p1.f_Kind == 1) = true then (do
                      some true)
                  else (do
                      some (p1.f_Kind == 4)) : Option Bool)
              let x28 ← (do
                  if (x25) = true then (do
                      some (p1.f_N != 0))
                  else (do
                      some false) : Option Bool)
              some x28) : Option Bool)
      if (x22) = true then (do
          some false)
      else (do
          let o39 ← R_Right_l1_n n p1 0 ((-1))
          match o39 with
          | Sum.inl x42 => do
              some true
          | Sum.inr x44 => do
              some false))
theorem R_Right_ns {n : Nat} {p1 : R_Event} {r : Bool} (h : R_Right_n n p1 = some r) : R_Right p1 = some r := by
  unfold R_Right_n at h
  unfold R_Right
  obtain ⟨x6, h_x6, h⟩ := bindO h
  refine bindI (a := x6) ?_ ?_
  ·
    rcases ifB h_x6 with ⟨hc_, h_x6⟩ | ⟨hc_, h_x6⟩
    · refine ifT hc_ ?_
      exact h_x6
    · refine ifF hc_ ?_
      exact h_x6
  ·
    obtain ⟨x9, h_x9, h⟩ := bindO h
    refine bindI (a := x9) ?_ ?_
    ·
      rcases ifB h_x9 with ⟨hc_, h_x9⟩ | ⟨hc_, h_x9⟩
      · refine ifT hc_ ?_
        exact h_x9
      · refine ifF hc_ ?_
        exact h_x9
    ·
      obtain ⟨x12, h_x12, h⟩ := bindO h
      refine bindI (a := x12) ?_ ?_
      ·
        rcases ifB h_x12 with ⟨hc_, h_x12⟩ | ⟨hc_, h_x12⟩
        · refine ifT hc_ ?_
          exact h_x12
        · refine ifF hc_ ?_
          exact h_x12
      ·
        obtain ⟨x15, h_x15, h⟩ := bindO h
        refine bindI (a := x15) ?_ ?_
        ·
          rcases ifB h_x15 with ⟨hc_, h_x15⟩ | ⟨hc_, h_x15⟩
          · refine ifT hc_ ?_
            exact h_x15
          · refine ifF hc_ ?_
            exact h_x15
        ·
          rcases ifB h with ⟨hc_, h⟩ | ⟨hc_, h⟩
          · refine ifT hc_ ?_
            exact h
          · refine ifF hc_ ?_
            obtain ⟨x19, h_x19, h⟩ := bindO h
            refine bindI (a := x19) ?_ ?_
            ·
              rcases ifB h_x19 with ⟨hc_, h_x19⟩ | ⟨hc_, h_x19⟩
              · refine ifT hc_ ?_
                exact h_x19
              · refine ifF hc_ ?_
                exact h_x19
            ·
              obtain ⟨x22, h_x22, h⟩ := bindO h
              refine bindI (a := x22) ?_ ?_
              ·
                rcases ifB h_x22 with ⟨hc_, h_x22⟩ | ⟨hc_, h_x22⟩
                · refine ifT hc_ ?_
                  exact h_x22
                · refine ifF hc_ ?_
                  obtain ⟨x25, h_x25, h_x22⟩ := bindO h_x22
                  refine bindI (a := x25) ?_ ?_
                  ·
                    rcases ifB h_x25 with ⟨hc_, h_x25⟩ | ⟨hc_, h_x25⟩
                    · refine ifT hc_ ?_
                      exact h_x25
                    · refine ifF hc_ ?_
                      exact h_x25
                  ·
                    obtain ⟨x28, h_x28, h_x22⟩ := bindO h_x22
                    refine bindI (a := x28) ?_ ?_
                    ·
                      rcases ifB h_x28 with ⟨hc_, h_x28⟩ | ⟨hc_, h_x28⟩
                      · refine ifT hc_ ?_
                        exact h_x28
                      · refine ifF hc_ ?_
                        exact h_x28
                    ·
                      exact h_x22
              ·
                rcases ifB h with ⟨hc_, h⟩ | ⟨hc_, h⟩
                · refine ifT hc_ ?_
                  exact h
                · refine ifF hc_ ?_
                  obtain ⟨o39, h_o39, h⟩ := bindO h
                  refine bindI (R_Right_l1_ns h_o39) ?_
                  rcases o39 with x_ | x_
                  ·
                    dsimp only at h ⊢
                    exact h
                  ·
                    dsimp only at h ⊢
                    exact h
def Num_Figures_l1_n (n : Nat) (x11 : Int) (x12 : List UInt8) : Option (List UInt8) :=
  match n with
  | 0 => none
  | n + 1 => do
    if (x11 != 0) = true then (do
        let q17 ← irem x11 10
        let x19 ← (do
            if (decide (q17 < 0)) = true then (do
                some (w64 (0 - q17)))
            else (do
                some q17) : Option Int)
        let s22 ← cutL ([48, 49, 50, 51, 52, 53, 54, 55, 56, 57] : List UInt8) x19 ((w64 (x19 + 1)))
        let _ ← req (s22.length + x12.length ≤ 9223372036854775807)
        let q25 ← iquo x11 10
        Num_Figures_l1_n n q25 (s22 ++ x12))
    else (do
        some x12)
theorem Num_Figures_l1_nr : ∀ (n : Nat) (x11 : Int) (x12 : List UInt8) (r : List UInt8), Num_Figures_l1_n n x11 x12 = some r → Num_Figures_l1 x11 x12 = some r := by
  intro n
  induction n with
  | zero => intro x11 x12 r h; cases h
  | succ n ih =>
    intro x11 x12 r h
    rw [Num_Figures_l1_n] at h
    rw [Num_Figures_l1]
    rcases ifB h with ⟨hc_, h⟩ | ⟨hc_, h⟩
    · refine ifT hc_ ?_
      obtain ⟨q17, h_q17, h⟩ := bindO h
      refine bindI h_q17 ?_
      obtain ⟨x19, h_x19, h⟩ := bindO h
      refine bindI (a := x19) ?_ ?_
      ·
        rcases ifB h_x19 with ⟨hc_, h_x19⟩ | ⟨hc_, h_x19⟩
        · refine ifT hc_ ?_
          exact h_x19
        · refine ifF hc_ ?_
          exact h_x19
      ·
        obtain ⟨s22, h_s22, h⟩ := bindO h
        refine bindI h_s22 ?_
        obtain ⟨u_, hu_, h⟩ := bindO h
        refine bindI hu_ ?_
        obtain ⟨q25, h_q25, h⟩ := bindO h
        refine bindI h_q25 ?_
        exact ih _ _ _ h
    · refine ifF hc_ ?_
      exact h
theorem Num_Figures_l1_ns {n : Nat} {x11 : Int} {x12 : List UInt8} {r : List UInt8} (h : Num_Figures_l1_n n x11 x12 = some r) : Num_Figures_l1 x11 x12 = some r := Num_Figures_l1_nr n x11 x12 r h
def Num_Figures_n (n : Nat) (p1 : Int) : Option (List UInt8) := do
  if (p1 == 0) = true then (do
      some ([48] : List UInt8))
  else (do
      let x3 ← (do
          if (decide (p1 < 0)) = true then (do
              some ([45] : List UInt8))
          else (do
              some ([] : List UInt8)) : Option (List UInt8))
      let o13 ← Num_Figures_l1_n n p1 ([] : List UInt8)
      let _ ← req (x3.length + o13.length ≤ 9223372036854775807)
      some (x3 ++ o13))
theorem Num_Figures_ns {n : Nat} {p1 : Int} {r : List UInt8} (h : Num_Figures_n n p1 = some r) : Num_Figures p1 = some r := by
  unfold Num_Figures_n at h
  unfold Num_Figures
  rcases ifB h with ⟨hc_, h⟩ | ⟨hc_, h⟩
  · refine ifT hc_ ?_
    exact h
  · refine ifF hc_ ?_
    obtain ⟨x3, h_x3, h⟩ := bindO h
    refine bindI (a := x3) ?_ ?_
    ·
      rcases ifB h_x3 with ⟨hc_, h_x3⟩ | ⟨hc_, h_x3⟩
      · refine ifT hc_ ?_
        exact h_x3
      · refine ifF hc_ ?_
        exact h_x3
    ·
      obtain ⟨o13, h_o13, h⟩ := bindO h
      refine bindI (Num_Figures_l1_ns h_o13) ?_
      obtain ⟨u_, hu_, h⟩ := bindO h
      refine bindI hu_ ?_
      exact h
def R_Line_l1_n (n : Nat) (p1 : R_Event) (x24 : Int) (x25 : List UInt8) : Option (List UInt8) :=
  match n with
  | 0 => none
  | n + 1 => do
    if (decide (x24 < ((p1.f_Bytes.length : Int)))) = true then (do
        let c30 ← ix p1.f_Bytes x24
        let q32 ← iquo (b8 c30) 16
        let c34 ← ix p1.f_Bytes x24
        let q36 ← irem (b8 c34) 16
        let s38 ← cutL ([48, 49, 50, 51, 52, 53, 54, 55, 56, 57, 97, 98, 99, 100, 101, 102] : List UInt8) q32 ((w64 (q32 + 1)))
        let s40 ← cutL ([48, 49, 50, 51, 52, 53, 54, 55, 56, 57, 97, 98, 99, 100, 101, 102] : List UInt8) q36 ((w64 (q36 + 1)))
        let _ ← req (s38.length + s40.length ≤ 9223372036854775807)
        let _ ← req (x25.length + (s38 ++ s40).length ≤ 9223372036854775807)
        R_Line_l1_n n p1 (w64 (x24 + 1)) (x25 ++ (s38 ++ s40)))
    else (do
        some x25)
theorem R_Line_l1_nr : ∀ (n : Nat) (p1 : R_Event) (x24 : Int) (x25 : List UInt8) (r : List UInt8), R_Line_l1_n n p1 x24 x25 = some r → R_Line_l1 p1 x24 x25 = some r := by
  intro n
  induction n with
  | zero => intro p1 x24 x25 r h; cases h
  | succ n ih =>
    intro p1 x24 x25 r h
    rw [R_Line_l1_n] at h
    rw [R_Line_l1]
    rcases ifB h with ⟨hc_, h⟩ | ⟨hc_, h⟩
    · refine ifT hc_ ?_
      obtain ⟨c30, h_c30, h⟩ := bindO h
      refine bindI h_c30 ?_
      obtain ⟨q32, h_q32, h⟩ := bindO h
      refine bindI h_q32 ?_
      obtain ⟨c34, h_c34, h⟩ := bindO h
      refine bindI h_c34 ?_
      obtain ⟨q36, h_q36, h⟩ := bindO h
      refine bindI h_q36 ?_
      obtain ⟨s38, h_s38, h⟩ := bindO h
      refine bindI h_s38 ?_
      obtain ⟨s40, h_s40, h⟩ := bindO h
      refine bindI h_s40 ?_
      obtain ⟨u_, hu_, h⟩ := bindO h
      refine bindI hu_ ?_
      obtain ⟨u_, hu_, h⟩ := bindO h
      refine bindI hu_ ?_
      exact ih _ _ _ _ h
    · refine ifF hc_ ?_
      exact h
theorem R_Line_l1_ns {n : Nat} {p1 : R_Event} {x24 : Int} {x25 : List UInt8} {r : List UInt8} (h : R_Line_l1_n n p1 x24 x25 = some r) : R_Line_l1 p1 x24 x25 = some r := R_Line_l1_nr n p1 x24 x25 r h
def R_Line_l2_n (n : Nat) (p1 : R_Event) (x53 : Int) (x54 : List UInt8) : Option (List UInt8) :=
  match n with
  | 0 => none
  | n + 1 => do
    if (decide (x53 < ((p1.f_Marks.length : Int)))) = true then (do
        let x60 ← (do
            let e62 ← ix p1.f_Marks x53
            let x72 ← (do
                if (x53 == 0) = true then (do
                    let _ ← req (x54.length + ([32, 109, 97, 114, 107, 115, 32] : List UInt8).length ≤ 9223372036854775807)
                    some (x54 ++ ([32, 109, 97, 114, 107, 115, 32] : List UInt8)))
                else (do
                    let _ ← req (x54.length + ([44] : List UInt8).length ≤ 9223372036854775807)
                    some (x54 ++ ([44] : List UInt8))) : Option (List UInt8))
            let y77 ← Num_Figures_n n e62
            let _ ← req (x72.length + y77.length ≤ 9223372036854775807)
            some (x72 ++ y77) : Option (List UInt8))
        R_Line_l2_n n p1 (w64 (x53 + 1)) x60)
    else (do
        some x54)
theorem R_Line_l2_nr : ∀ (n : Nat) (p1 : R_Event) (x53 : Int) (x54 : List UInt8) (r : List UInt8), R_Line_l2_n n p1 x53 x54 = some r → R_Line_l2 p1 x53 x54 = some r := by
  intro n
  induction n with
  | zero => intro p1 x53 x54 r h; cases h
  | succ n ih =>
    intro p1 x53 x54 r h
    rw [R_Line_l2_n] at h
    rw [R_Line_l2]
    rcases ifB h with ⟨hc_, h⟩ | ⟨hc_, h⟩
    · refine ifT hc_ ?_
      obtain ⟨x60, h_x60, h⟩ := bindO h
      refine bindI (a := x60) ?_ ?_
      ·
        obtain ⟨e62, h_e62, h_x60⟩ := bindO h_x60
        refine bindI h_e62 ?_
        obtain ⟨x72, h_x72, h_x60⟩ := bindO h_x60
        refine bindI (a := x72) ?_ ?_
        ·
          rcases ifB h_x72 with ⟨hc_, h_x72⟩ | ⟨hc_, h_x72⟩
          · refine ifT hc_ ?_
            obtain ⟨u_, hu_, h_x72⟩ := bindO h_x72
            refine bindI hu_ ?_
            exact h_x72
          · refine ifF hc_ ?_
            obtain ⟨u_, hu_, h_x72⟩ := bindO h_x72
            refine bindI hu_ ?_
            exact h_x72
        ·
          obtain ⟨y77, h_y77, h_x60⟩ := bindO h_x60
          refine bindI (Num_Figures_ns h_y77) ?_
          obtain ⟨u_, hu_, h_x60⟩ := bindO h_x60
          refine bindI hu_ ?_
          exact h_x60
      ·
        exact ih _ _ _ _ h
    · refine ifF hc_ ?_
      exact h
theorem R_Line_l2_ns {n : Nat} {p1 : R_Event} {x53 : Int} {x54 : List UInt8} {r : List UInt8} (h : R_Line_l2_n n p1 x53 x54 = some r) : R_Line_l2 p1 x53 x54 = some r := R_Line_l2_nr n p1 x53 x54 r h
def R_Line_n (n : Nat) (p1 : R_Event) : Option (List UInt8) := do
  if (p1.f_Kind == 2) = true then (do
      let y7 ← Num_Figures_n n p1.f_N
      let _ ← req (([103, 114, 97, 110, 116, 32] : List UInt8).length + y7.length ≤ 9223372036854775807)
      some (([103, 114, 97, 110, 116, 32] : List UInt8) ++ y7))
  else (do
      if (p1.f_Kind == 3) = true then (do
          let y13 ← Num_Figures_n n p1.f_N
          let _ ← req (([116, 105, 99, 107, 32] : List UInt8).length + y13.length ≤ 9223372036854775807)
          some (([116, 105, 99, 107, 32] : List UInt8) ++ y13))
      else (do
          if (p1.f_Kind == 4) = true then (do
              some ([99, 108, 111, 115, 101] : List UInt8))
          else (do
              let o26 ← R_Line_l1_n n p1 0 ([98, 121, 116, 101, 115, 32] : List UInt8)
              let x44 ← (do
                  if (((p1.f_Bytes.length : Int)) == 0) = true then (do
                      let _ ← req (o26.length + ([45] : List UInt8).length ≤ 9223372036854775807)
                      some (o26 ++ ([45] : List UInt8)))
                  else (do
                      some o26) : Option (List UInt8))
              let o55 ← R_Line_l2_n n p1 0 x44
              some o55)))
theorem R_Line_ns {n : Nat} {p1 : R_Event} {r : List UInt8} (h : R_Line_n n p1 = some r) : R_Line p1 = some r := by
  unfold R_Line_n at h
  unfold R_Line
  rcases ifB h with ⟨hc_, h⟩ | ⟨hc_, h⟩
  · refine ifT hc_ ?_
    obtain ⟨y7, h_y7, h⟩ := bindO h
    refine bindI (Num_Figures_ns h_y7) ?_
    obtain ⟨u_, hu_, h⟩ := bindO h
    refine bindI hu_ ?_
    exact h
  · refine ifF hc_ ?_
    rcases ifB h with ⟨hc_, h⟩ | ⟨hc_, h⟩
    · refine ifT hc_ ?_
      obtain ⟨y13, h_y13, h⟩ := bindO h
      refine bindI (Num_Figures_ns h_y13) ?_
      obtain ⟨u_, hu_, h⟩ := bindO h
      refine bindI hu_ ?_
      exact h
    · refine ifF hc_ ?_
      rcases ifB h with ⟨hc_, h⟩ | ⟨hc_, h⟩
      · refine ifT hc_ ?_
        exact h
      · refine ifF hc_ ?_
        obtain ⟨o26, h_o26, h⟩ := bindO h
        refine bindI (R_Line_l1_ns h_o26) ?_
        obtain ⟨x44, h_x44, h⟩ := bindO h
        refine bindI (a := x44) ?_ ?_
        ·
          rcases ifB h_x44 with ⟨hc_, h_x44⟩ | ⟨hc_, h_x44⟩
          · refine ifT hc_ ?_
            obtain ⟨u_, hu_, h_x44⟩ := bindO h_x44
            refine bindI hu_ ?_
            exact h_x44
          · refine ifF hc_ ?_
            exact h_x44
        ·
          obtain ⟨o55, h_o55, h⟩ := bindO h
          refine bindI (R_Line_l2_ns h_o55) ?_
          exact h
def raw_Sum_l1_n (n : Nat) (p1 : List raw_Event) (x11 : Int) (x12 : Int) (x13 : Int) (x14 : Int) : Option (Int × Int × Int) :=
  match n with
  | 0 => none
  | n + 1 => do
    if (decide (x11 < ((p1.length : Int)))) = true then (do
        let x20 ← (do
            let e22 ← ix p1 x11
            let y38 ← raw_Right_n n e22
            if (!y38) = true then (do
                some ((x14, x13, x12)))
            else (do
                if (e22.f_Kind == 2) = true then (do
                    some ((w64 (x14 + ((e22.f_Bytes.length : Int))), w64 (x13 + e22.f_N), x12)))
                else (do
                    if (e22.f_Kind == 3) = true then (do
                        some ((w64 (x14 + ((e22.f_Bytes.length : Int))), x13, w64 (x12 + e22.f_N))))
                    else (do
                        some ((w64 (x14 + ((e22.f_Bytes.length : Int))), x13, x12))))) : Option (Int × Int × Int))
        raw_Sum_l1_n n p1 (w64 (x11 + 1)) x20.2.2 x20.2.1 x20.1)
    else (do
        some ((x14, x13, x12)))
theorem raw_Sum_l1_nr : ∀ (n : Nat) (p1 : List raw_Event) (x11 : Int) (x12 : Int) (x13 : Int) (x14 : Int) (r : Int × Int × Int), raw_Sum_l1_n n p1 x11 x12 x13 x14 = some r → raw_Sum_l1 p1 x11 x12 x13 x14 = some r := by
  intro n
  induction n with
  | zero => intro p1 x11 x12 x13 x14 r h; cases h
  | succ n ih =>
    intro p1 x11 x12 x13 x14 r h
    rw [raw_Sum_l1_n] at h
    rw [raw_Sum_l1]
    rcases ifB h with ⟨hc_, h⟩ | ⟨hc_, h⟩
    · refine ifT hc_ ?_
      obtain ⟨x20, h_x20, h⟩ := bindO h
      refine bindI (a := x20) ?_ ?_
      ·
        obtain ⟨e22, h_e22, h_x20⟩ := bindO h_x20
        refine bindI h_e22 ?_
        obtain ⟨y38, h_y38, h_x20⟩ := bindO h_x20
        refine bindI (raw_Right_ns h_y38) ?_
        rcases ifB h_x20 with ⟨hc_, h_x20⟩ | ⟨hc_, h_x20⟩
        · refine ifT hc_ ?_
          exact h_x20
        · refine ifF hc_ ?_
          rcases ifB h_x20 with ⟨hc_, h_x20⟩ | ⟨hc_, h_x20⟩
          · refine ifT hc_ ?_
            exact h_x20
          · refine ifF hc_ ?_
            rcases ifB h_x20 with ⟨hc_, h_x20⟩ | ⟨hc_, h_x20⟩
            · refine ifT hc_ ?_
              exact h_x20
            · refine ifF hc_ ?_
              exact h_x20
      ·
        exact ih _ _ _ _ _ _ h
    · refine ifF hc_ ?_
      exact h
theorem raw_Sum_l1_ns {n : Nat} {p1 : List raw_Event} {x11 : Int} {x12 : Int} {x13 : Int} {x14 : Int} {r : Int × Int × Int} (h : raw_Sum_l1_n n p1 x11 x12 x13 x14 = some r) : raw_Sum_l1 p1 x11 x12 x13 x14 = some r := raw_Sum_l1_nr n p1 x11 x12 x13 x14 r h
def raw_Sum_n (n : Nat) (p1 : List raw_Event) : Option (Int × Int × Int) := do
  let o15 ← raw_Sum_l1_n n p1 0 0 0 0
  some ((o15.1, o15.2.1, o15.2.2))
theorem raw_Sum_ns {n : Nat} {p1 : List raw_Event} {r : Int × Int × Int} (h : raw_Sum_n n p1 = some r) : raw_Sum p1 = some r := by
  unfold raw_Sum_n at h
  unfold raw_Sum
  obtain ⟨o15, h_o15, h⟩ := bindO h
  refine bindI (raw_Sum_l1_ns h_o15) ?_
  exact h
def bytes_Equal_n (n : Nat) (p1 : List UInt8) (p4 : List UInt8) : Option Bool := do
  some (p1 == p4)
theorem bytes_Equal_ns {n : Nat} {p1 : List UInt8} {p4 : List UInt8} {r : Bool} (h : bytes_Equal_n n p1 p4 = some r) : bytes_Equal p1 p4 = some r := by
  unfold bytes_Equal_n at h
  unfold bytes_Equal
  exact h
def slices_Equal_int_int_l1_n (n : Nat) (p1 : List Int) (p4 : List Int) (x12 : Int) : Option (Sum Unit Unit) :=
  match n with
  | 0 => none
  | n + 1 => do
    if (decide (x12 < ((p1.length : Int)))) = true then (do
        let e20 ← ix p1 x12
        let e30 ← ix p4 x12
        if (e20 != e30) = true then (do
            some (Sum.inr (())))
        else (do
            slices_Equal_int_int_l1_n n p1 p4 (w64 (x12 + 1))))
    else (do
        some (Sum.inl (())))
theorem slices_Equal_int_int_l1_nr : ∀ (n : Nat) (p1 : List Int) (p4 : List Int) (x12 : Int) (r : Sum Unit Unit), slices_Equal_int_int_l1_n n p1 p4 x12 = some r → slices_Equal_int_int_l1 p1 p4 x12 = some r := by
  intro n
  induction n with
  | zero => intro p1 p4 x12 r h; cases h
  | succ n ih =>
    intro p1 p4 x12 r h
    rw [slices_Equal_int_int_l1_n] at h
    rw [slices_Equal_int_int_l1]
    rcases ifB h with ⟨hc_, h⟩ | ⟨hc_, h⟩
    · refine ifT hc_ ?_
      obtain ⟨e20, h_e20, h⟩ := bindO h
      refine bindI h_e20 ?_
      obtain ⟨e30, h_e30, h⟩ := bindO h
      refine bindI h_e30 ?_
      rcases ifB h with ⟨hc_, h⟩ | ⟨hc_, h⟩
      · refine ifT hc_ ?_
        exact h
      · refine ifF hc_ ?_
        exact ih _ _ _ _ h
    · refine ifF hc_ ?_
      exact h
theorem slices_Equal_int_int_l1_ns {n : Nat} {p1 : List Int} {p4 : List Int} {x12 : Int} {r : Sum Unit Unit} (h : slices_Equal_int_int_l1_n n p1 p4 x12 = some r) : slices_Equal_int_int_l1 p1 p4 x12 = some r := slices_Equal_int_int_l1_nr n p1 p4 x12 r h
def slices_Equal_int_int_n (n : Nat) (p1 : List Int) (p4 : List Int) : Option Bool := do
  if (((p1.length : Int)) != ((p4.length : Int))) = true then (do
      some false)
  else (do
      let o13 ← slices_Equal_int_int_l1_n n p1 p4 0
      match o13 with
      | Sum.inl x16 => do
          some true
      | Sum.inr x18 => do
          some false)
theorem slices_Equal_int_int_ns {n : Nat} {p1 : List Int} {p4 : List Int} {r : Bool} (h : slices_Equal_int_int_n n p1 p4 = some r) : slices_Equal_int_int p1 p4 = some r := by
  unfold slices_Equal_int_int_n at h
  unfold slices_Equal_int_int
  rcases ifB h with ⟨hc_, h⟩ | ⟨hc_, h⟩
  · refine ifT hc_ ?_
    exact h
  · refine ifF hc_ ?_
    obtain ⟨o13, h_o13, h⟩ := bindO h
    refine bindI (slices_Equal_int_int_l1_ns h_o13) ?_
    rcases o13 with x_ | x_
    ·
      dsimp only at h ⊢
      exact h
    ·
      dsimp only at h ⊢
      exact h
def raw_Same_n (n : Nat) (p1 : raw_Event) (p6 : raw_Event) : Option Bool := do
  let x15 ← (do
      if (p1.f_Kind == p6.f_Kind) = true then (do
          some (p1.f_N == p6.f_N))
      else (do
          some false) : Option Bool)
  let x19 ← (do
      if (x15) = true then (do
          let y22 ← bytes_Equal_n n p1.f_Bytes p6.f_Bytes
          some y22)
      else (do
          some false) : Option Bool)
  let x27 ← (do
      if (x19) = true then (do
          let y30 ← slices_Equal_int_int_n n p1.f_Marks p6.f_Marks
          some y30)
      else (do
          some false) : Option Bool)
  some x27
theorem raw_Same_ns {n : Nat} {p1 : raw_Event} {p6 : raw_Event} {r : Bool} (h : raw_Same_n n p1 p6 = some r) : raw_Same p1 p6 = some r := by
  unfold raw_Same_n at h
  unfold raw_Same
  obtain ⟨x15, h_x15, h⟩ := bindO h
  refine bindI (a := x15) ?_ ?_
  ·
    rcases ifB h_x15 with ⟨hc_, h_x15⟩ | ⟨hc_, h_x15⟩
    · refine ifT hc_ ?_
      exact h_x15
    · refine ifF hc_ ?_
      exact h_x15
  ·
    obtain ⟨x19, h_x19, h⟩ := bindO h
    refine bindI (a := x19) ?_ ?_
    ·
      rcases ifB h_x19 with ⟨hc_, h_x19⟩ | ⟨hc_, h_x19⟩
      · refine ifT hc_ ?_
        obtain ⟨y22, h_y22, h_x19⟩ := bindO h_x19
        refine bindI (bytes_Equal_ns h_y22) ?_
        exact h_x19
      · refine ifF hc_ ?_
        exact h_x19
    ·
      obtain ⟨x27, h_x27, h⟩ := bindO h
      refine bindI (a := x27) ?_ ?_
      ·
        rcases ifB h_x27 with ⟨hc_, h_x27⟩ | ⟨hc_, h_x27⟩
        · refine ifT hc_ ?_
          obtain ⟨y30, h_y30, h_x27⟩ := bindO h_x27
          refine bindI (slices_Equal_int_int_ns h_y30) ?_
          exact h_x27
        · refine ifF hc_ ?_
          exact h_x27
      ·
        exact h
def R_Same_n (n : Nat) (p1 : R_Event) (p4 : R_Event) : Option Bool := do
  let x11 ← (do
      if (p1.f_Kind == p4.f_Kind) = true then (do
          some (p1.f_N == p4.f_N))
      else (do
          some false) : Option Bool)
  let x14 ← (do
      if (x11) = true then (do
          some (p1.f_Bytes == p4.f_Bytes))
      else (do
          some false) : Option Bool)
  let x18 ← (do
      if (x14) = true then (do
          let y21 ← Num_SameInts_n n p1.f_Marks p4.f_Marks
          some y21)
      else (do
          some false) : Option Bool)
  some x18
theorem R_Same_ns {n : Nat} {p1 : R_Event} {p4 : R_Event} {r : Bool} (h : R_Same_n n p1 p4 = some r) : R_Same p1 p4 = some r := by
  unfold R_Same_n at h
  unfold R_Same
  obtain ⟨x11, h_x11, h⟩ := bindO h
  refine bindI (a := x11) ?_ ?_
  ·
    rcases ifB h_x11 with ⟨hc_, h_x11⟩ | ⟨hc_, h_x11⟩
    · refine ifT hc_ ?_
      exact h_x11
    · refine ifF hc_ ?_
      exact h_x11
  ·
    obtain ⟨x14, h_x14, h⟩ := bindO h
    refine bindI (a := x14) ?_ ?_
    ·
      rcases ifB h_x14 with ⟨hc_, h_x14⟩ | ⟨hc_, h_x14⟩
      · refine ifT hc_ ?_
        exact h_x14
      · refine ifF hc_ ?_
        exact h_x14
    ·
      obtain ⟨x18, h_x18, h⟩ := bindO h
      refine bindI (a := x18) ?_ ?_
      ·
        rcases ifB h_x18 with ⟨hc_, h_x18⟩ | ⟨hc_, h_x18⟩
        · refine ifT hc_ ?_
          obtain ⟨y21, h_y21, h_x18⟩ := bindO h_x18
          refine bindI (Num_SameInts_ns h_y21) ?_
          exact h_x18
        · refine ifF hc_ ?_
          exact h_x18
      ·
        exact h
def Law_RawEvents_l1_n (n : Nat) (x34 : Int × Int × (List UInt8) × (List Int) × Int × Int × (List UInt8) × (List Int)) (x192 : Int) (x193 : Int) (x194 : Int) (x195 : Int) : Option (Int × Int × Int) :=
  match n with
  | 0 => none
  | n + 1 => do
    if (decide (x192 < (([(⟨x34.1, x34.2.1, x34.2.2.1, x34.2.2.2.1⟩ : R_Event), (⟨x34.2.2.2.2.1, x34.2.2.2.2.2.1, x34.2.2.2.2.2.2.1, x34.2.2.2.2.2.2.2⟩ : R_Event)].length : Int)))) = true then (do
        let x201 ← (do
            let e203 ← ix [(⟨x34.1, x34.2.1, x34.2.2.1, x34.2.2.2.1⟩ : R_Event), (⟨x34.2.2.2.2.1, x34.2.2.2.2.2.1, x34.2.2.2.2.2.2.1, x34.2.2.2.2.2.2.2⟩ : R_Event)] x192
            let y217 ← R_Right_n n e203
            if (y217) = true then (do
                let x222 ← (do
                    if (e203.f_Kind == 2) = true then (do
                        some true)
                    else (do
                        some (e203.f_Kind == 3)) : Option Bool)
                if (x222) = true then (do
                    if ((w64 (e203.f_Kind - 1)) == 0) = true then (do
                        some ((w64 ((w64 (x193 + ((e203.f_Bytes.length : Int)))) + e203.f_N), x194, x195)))
                    else (do
                        if ((w64 (e203.f_Kind - 1)) == 1) = true then (do
                            some ((w64 (x193 + ((e203.f_Bytes.length : Int))), w64 (x194 + e203.f_N), x195)))
                        else (do
                            if ((w64 (e203.f_Kind - 1)) == 2) = true then (do
                                some ((w64 (x193 + ((e203.f_Bytes.length : Int))), x194, w64 (x195 + e203.f_N))))
                            else (do
                                none))))
                else (do
                    some ((w64 (x193 + ((e203.f_Bytes.length : Int))), x194, x195))))
            else (do
                some ((x193, x194, x195))) : Option (Int × Int × Int))
        Law_RawEvents_l1_n n x34 (w64 (x192 + 1)) x201.1 x201.2.1 x201.2.2)
    else (do
        some ((x193, x194, x195)))
theorem Law_RawEvents_l1_nr : ∀ (n : Nat) (x34 : Int × Int × (List UInt8) × (List Int) × Int × Int × (List UInt8) × (List Int)) (x192 : Int) (x193 : Int) (x194 : Int) (x195 : Int) (r : Int × Int × Int), Law_RawEvents_l1_n n x34 x192 x193 x194 x195 = some r → Law_RawEvents_l1 x34 x192 x193 x194 x195 = some r := by
  intro n
  induction n with
  | zero => intro x34 x192 x193 x194 x195 r h; cases h
  | succ n ih =>
    intro x34 x192 x193 x194 x195 r h
    rw [Law_RawEvents_l1_n] at h
    rw [Law_RawEvents_l1]
    rcases ifB h with ⟨hc_, h⟩ | ⟨hc_, h⟩
    · refine ifT hc_ ?_
      obtain ⟨x201, h_x201, h⟩ := bindO h
      refine bindI (a := x201) ?_ ?_
      ·
        obtain ⟨e203, h_e203, h_x201⟩ := bindO h_x201
        refine bindI h_e203 ?_
        obtain ⟨y217, h_y217, h_x201⟩ := bindO h_x201
        refine bindI (R_Right_ns h_y217) ?_
        rcases ifB h_x201 with ⟨hc_, h_x201⟩ | ⟨hc_, h_x201⟩
        · refine ifT hc_ ?_
          obtain ⟨x222, h_x222, h_x201⟩ := bindO h_x201
          refine bindI (a := x222) ?_ ?_
          ·
            rcases ifB h_x222 with ⟨hc_, h_x222⟩ | ⟨hc_, h_x222⟩
            · refine ifT hc_ ?_
              exact h_x222
            · refine ifF hc_ ?_
              exact h_x222
          ·
            rcases ifB h_x201 with ⟨hc_, h_x201⟩ | ⟨hc_, h_x201⟩
            · refine ifT hc_ ?_
              rcases ifB h_x201 with ⟨hc_, h_x201⟩ | ⟨hc_, h_x201⟩
              · refine ifT hc_ ?_
                exact h_x201
              · refine ifF hc_ ?_
                rcases ifB h_x201 with ⟨hc_, h_x201⟩ | ⟨hc_, h_x201⟩
                · refine ifT hc_ ?_
                  exact h_x201
                · refine ifF hc_ ?_
                  rcases ifB h_x201 with ⟨hc_, h_x201⟩ | ⟨hc_, h_x201⟩
                  · refine ifT hc_ ?_
                    exact h_x201
                  · refine ifF hc_ ?_
                    exact h_x201
            · refine ifF hc_ ?_
              exact h_x201
        · refine ifF hc_ ?_
          exact h_x201
      ·
        exact ih _ _ _ _ _ _ h
    · refine ifF hc_ ?_
      exact h
theorem Law_RawEvents_l1_ns {n : Nat} {x34 : Int × Int × (List UInt8) × (List Int) × Int × Int × (List UInt8) × (List Int)} {x192 : Int} {x193 : Int} {x194 : Int} {x195 : Int} {r : Int × Int × Int} (h : Law_RawEvents_l1_n n x34 x192 x193 x194 x195 = some r) : Law_RawEvents_l1 x34 x192 x193 x194 x195 = some r := Law_RawEvents_l1_nr n x34 x192 x193 x194 x195 r h
def Law_RawEvents_n (n : Nat) (p1 : raw_Event) (p6 : raw_Event) : Option Bool := do
  let y15 ← Law_alive_n n
  if (!y15) = true then (do
      some false)
  else (do
      let y20 ← Law_long_n n p1
      let x25 ← (do
          if (y20) = true then (do
              some true)
          else (do
              let y28 ← Law_long_n n p6
              some y28) : Option Bool)
      if (x25) = true then (do
          some true)
      else (do
          let x34 ← (do
              let y44 ← Law_Of_n n p1
              let y50 ← Law_Of_n n p6
              some ((y44.f_Kind, y44.f_N, y44.f_Bytes, y44.f_Marks, y50.f_Kind, y50.f_N, y50.f_Bytes, y50.f_Marks)) : Option (Int × Int × (List UInt8) × (List Int) × Int × Int × (List UInt8) × (List Int)))
          let y176 ← R_Right_n n ((⟨x34.1, x34.2.1, x34.2.2.1, x34.2.2.2.1⟩ : R_Event))
          let o196 ← Law_RawEvents_l1_n n x34 0 0 0 0
          let x230 ← (do
              if (y176) = true then (do
                  let y233 ← R_Line_n n ((⟨x34.1, x34.2.1, x34.2.2.1, x34.2.2.2.1⟩ : R_Event))
                  some y233)
              else (do
                  some ([] : List UInt8)) : Option (List UInt8))
          let y240 ← raw_Sum_n n [p1, p6]
          let x245 ← (do
              let y247 ← raw_Right_n n p1
              if (y247 == y176) = true then (do
                  let y252 ← raw_Line_n n p1
                  if (y252 == x230) = true then (do
                      let y257 ← raw_Same_n n p1 p6
                      let y261 ← R_Same_n n ((⟨x34.1, x34.2.1, x34.2.2.1, x34.2.2.2.1⟩ : R_Event)) ((⟨x34.2.2.2.2.1, x34.2.2.2.2.2.1, x34.2.2.2.2.2.2.1, x34.2.2.2.2.2.2.2⟩ : R_Event))
                      if (y257 == y261) = true then (do
                          some (([y240.1, y240.2.1, y240.2.2] : List Int) == ([o196.1, o196.2.1, o196.2.2] : List Int)))
                      else (do
                          some false))
                  else (do
                      some false))
              else (do
                  some false) : Option Bool)
          some x245))
theorem Law_RawEvents_ns {n : Nat} {p1 : raw_Event} {p6 : raw_Event} {r : Bool} (h : Law_RawEvents_n n p1 p6 = some r) : Law_RawEvents p1 p6 = some r := by
  unfold Law_RawEvents_n at h
  unfold Law_RawEvents
  obtain ⟨y15, h_y15, h⟩ := bindO h
  refine bindI (Law_alive_ns h_y15) ?_
  rcases ifB h with ⟨hc_, h⟩ | ⟨hc_, h⟩
  · refine ifT hc_ ?_
    exact h
  · refine ifF hc_ ?_
    obtain ⟨y20, h_y20, h⟩ := bindO h
    refine bindI (Law_long_ns h_y20) ?_
    obtain ⟨x25, h_x25, h⟩ := bindO h
    refine bindI (a := x25) ?_ ?_
    ·
      rcases ifB h_x25 with ⟨hc_, h_x25⟩ | ⟨hc_, h_x25⟩
      · refine ifT hc_ ?_
        exact h_x25
      · refine ifF hc_ ?_
        obtain ⟨y28, h_y28, h_x25⟩ := bindO h_x25
        refine bindI (Law_long_ns h_y28) ?_
        exact h_x25
    ·
      rcases ifB h with ⟨hc_, h⟩ | ⟨hc_, h⟩
      · refine ifT hc_ ?_
        exact h
      · refine ifF hc_ ?_
        obtain ⟨x34, h_x34, h⟩ := bindO h
        refine bindI (a := x34) ?_ ?_
        ·
          obtain ⟨y44, h_y44, h_x34⟩ := bindO h_x34
          refine bindI (Law_Of_ns h_y44) ?_
          obtain ⟨y50, h_y50, h_x34⟩ := bindO h_x34
          refine bindI (Law_Of_ns h_y50) ?_
          exact h_x34
        ·
          obtain ⟨y176, h_y176, h⟩ := bindO h
          refine bindI (R_Right_ns h_y176) ?_
          obtain ⟨o196, h_o196, h⟩ := bindO h
          refine bindI (Law_RawEvents_l1_ns h_o196) ?_
          obtain ⟨x230, h_x230, h⟩ := bindO h
          refine bindI (a := x230) ?_ ?_
          ·
            rcases ifB h_x230 with ⟨hc_, h_x230⟩ | ⟨hc_, h_x230⟩
            · refine ifT hc_ ?_
              obtain ⟨y233, h_y233, h_x230⟩ := bindO h_x230
              refine bindI (R_Line_ns h_y233) ?_
              exact h_x230
            · refine ifF hc_ ?_
              exact h_x230
          ·
            obtain ⟨y240, h_y240, h⟩ := bindO h
            refine bindI (raw_Sum_ns h_y240) ?_
            obtain ⟨x245, h_x245, h⟩ := bindO h
            refine bindI (a := x245) ?_ ?_
            ·
              obtain ⟨y247, h_y247, h_x245⟩ := bindO h_x245
              refine bindI (raw_Right_ns h_y247) ?_
              rcases ifB h_x245 with ⟨hc_, h_x245⟩ | ⟨hc_, h_x245⟩
              · refine ifT hc_ ?_
                obtain ⟨y252, h_y252, h_x245⟩ := bindO h_x245
                refine bindI (raw_Line_ns h_y252) ?_
                rcases ifB h_x245 with ⟨hc_, h_x245⟩ | ⟨hc_, h_x245⟩
                · refine ifT hc_ ?_
                  obtain ⟨y257, h_y257, h_x245⟩ := bindO h_x245
                  refine bindI (raw_Same_ns h_y257) ?_
                  obtain ⟨y261, h_y261, h_x245⟩ := bindO h_x245
                  refine bindI (R_Same_ns h_y261) ?_
                  rcases ifB h_x245 with ⟨hc_, h_x245⟩ | ⟨hc_, h_x245⟩
                  · refine ifT hc_ ?_
                    exact h_x245
                  · refine ifF hc_ ?_
                    exact h_x245
                · refine ifF hc_ ?_
                  exact h_x245
              · refine ifF hc_ ?_
                exact h_x245
            ·
              exact h
end Go.Proofs.YthjfnknhcmhmiaaDoor
