/-
  What the code computes: plain functions, and the walks.: the same functions with fuel, for closed evaluation.
-/
import Derived.Test.YtboggehfnokmfaaDoorAD
set_option linter.unusedVariables false
set_option linter.unusedSimpArgs false
set_option maxRecDepth 10000
set_option maxHeartbeats 1000000
set_option synthInstance.maxHeartbeats 400000
set_option synthInstance.maxSize 2000
namespace Go.Proofs.YtboggehfnokmfaaDoor
open Go Go.RowKit Sl

def codes_Verb_n (n : Nat) (p1 : Int) : Option Bool := do
  let x2 ← (do
      if (decide (p1 ≥ 251)) = true then (do
          some (decide (p1 ≤ 254)))
      else (do
          some false) : Option Bool)
  some x2
theorem codes_Verb_ns {n : Nat} {p1 : Int} {r : Bool} (h : codes_Verb_n n p1 = some r) : codes_Verb p1 = some r := by
  unfold codes_Verb_n at h
  unfold codes_Verb
  obtain ⟨x2, h_x2, h⟩ := bindO h
  refine bindI (a := x2) ?_ ?_
  ·
    rcases ifB h_x2 with ⟨hc_, h_x2⟩ | ⟨hc_, h_x2⟩
    · refine ifT hc_ ?_
      exact h_x2
    · refine ifF hc_ ?_
      exact h_x2
  ·
    exact h
def emit_byteable_n (n : Nat) (p1 : Int) : Option Bool := do
  let x2 ← (do
      if (decide (p1 ≥ 0)) = true then (do
          some (decide (p1 ≤ 255)))
      else (do
          some false) : Option Bool)
  some x2
theorem emit_byteable_ns {n : Nat} {p1 : Int} {r : Bool} (h : emit_byteable_n n p1 = some r) : emit_byteable p1 = some r := by
  unfold emit_byteable_n at h
  unfold emit_byteable
  obtain ⟨x2, h_x2, h⟩ := bindO h
  refine bindI (a := x2) ?_ ?_
  ·
    rcases ifB h_x2 with ⟨hc_, h_x2⟩ | ⟨hc_, h_x2⟩
    · refine ifT hc_ ?_
      exact h_x2
    · refine ifF hc_ ?_
      exact h_x2
  ·
    exact h
def emit_Verb_n (n : Nat) (p1 : Int) (p2 : Int) : Option ((List UInt8) × (Option Nat)) := do
  let y3 ← codes_Verb_n n p1
  if (!y3) = true then (do
      some ((([] : List UInt8), (some 0 : Option Nat))))
  else (do
      let y8 ← emit_byteable_n n p2
      if (!y8) = true then (do
          some ((([] : List UInt8), (some 1 : Option Nat))))
      else (do
          some (([255, toB p1, toB p2], (none : Option Nat)))))
theorem emit_Verb_ns {n : Nat} {p1 : Int} {p2 : Int} {r : (List UInt8) × (Option Nat)} (h : emit_Verb_n n p1 p2 = some r) : emit_Verb p1 p2 = some r := by
  unfold emit_Verb_n at h
  unfold emit_Verb
  obtain ⟨y3, h_y3, h⟩ := bindO h
  refine bindI (codes_Verb_ns h_y3) ?_
  rcases ifB h with ⟨hc_, h⟩ | ⟨hc_, h⟩
  · refine ifT hc_ ?_
    exact h
  · refine ifF hc_ ?_
    obtain ⟨y8, h_y8, h⟩ := bindO h
    refine bindI (emit_byteable_ns h_y8) ?_
    rcases ifB h with ⟨hc_, h⟩ | ⟨hc_, h⟩
    · refine ifT hc_ ?_
      exact h
    · refine ifF hc_ ?_
      exact h
def unicode_utf8_RuneCountInString_n (n : Nat) (p1 : List UInt8) : Option Int := do
  none
theorem unicode_utf8_RuneCountInString_ns {n : Nat} {p1 : List UInt8} {r : Int} (h : unicode_utf8_RuneCountInString_n n p1 = some r) : unicode_utf8_RuneCountInString p1 = some r := by
  unfold unicode_utf8_RuneCountInString_n at h
  unfold unicode_utf8_RuneCountInString
  exact h
def unicode_utf8_RuneCount_l1_n (n : Nat) (p1 : List UInt8) (x8 : Int) : Option (Sum Int Int) :=
  match n with
  | 0 => none
  | n + 1 => do
    if (decide (x8 < ((p1.length : Int)))) = true then (do
        let e16 ← ix p1 x8
        if (decide (128 ≤ e16)) = true then (do
            let s27 ← cutL p1 x8 ((p1.length : Int))
            let y32 ← unicode_utf8_RuneCountInString_n n s27
            some (Sum.inr (w64 (x8 + y32))))
        else (do
            unicode_utf8_RuneCount_l1_n n p1 (w64 (x8 + 1))))
    else (do
        some (Sum.inl x8))
theorem unicode_utf8_RuneCount_l1_nr : ∀ (n : Nat) (p1 : List UInt8) (x8 : Int) (r : Sum Int Int), unicode_utf8_RuneCount_l1_n n p1 x8 = some r → unicode_utf8_RuneCount_l1 p1 x8 = some r := by
  intro n
  induction n with
  | zero => intro p1 x8 r h; cases h
  | succ n ih =>
    intro p1 x8 r h
    rw [unicode_utf8_RuneCount_l1_n] at h
    rw [unicode_utf8_RuneCount_l1]
    rcases ifB h with ⟨hc_, h⟩ | ⟨hc_, h⟩
    · refine ifT hc_ ?_
      obtain ⟨e16, h_e16, h⟩ := bindO h
      refine bindI h_e16 ?_
      rcases ifB h with ⟨hc_, h⟩ | ⟨hc_, h⟩
      · refine ifT hc_ ?_
        obtain ⟨s27, h_s27, h⟩ := bindO h
        refine bindI h_s27 ?_
        obtain ⟨y32, h_y32, h⟩ := bindO h
        refine bindI (unicode_utf8_RuneCountInString_ns h_y32) ?_
        exact h
      · refine ifF hc_ ?_
        exact ih _ _ _ h
    · refine ifF hc_ ?_
      exact h
theorem unicode_utf8_RuneCount_l1_ns {n : Nat} {p1 : List UInt8} {x8 : Int} {r : Sum Int Int} (h : unicode_utf8_RuneCount_l1_n n p1 x8 = some r) : unicode_utf8_RuneCount_l1 p1 x8 = some r := unicode_utf8_RuneCount_l1_nr n p1 x8 r h
def unicode_utf8_RuneCount_n (n : Nat) (p1 : List UInt8) : Option Int := do
  let o9 ← unicode_utf8_RuneCount_l1_n n p1 0
  match o9 with
  | Sum.inl x12 => do
      some x12
  | Sum.inr x14 => do
      some x14
theorem unicode_utf8_RuneCount_ns {n : Nat} {p1 : List UInt8} {r : Int} (h : unicode_utf8_RuneCount_n n p1 = some r) : unicode_utf8_RuneCount p1 = some r := by
  unfold unicode_utf8_RuneCount_n at h
  unfold unicode_utf8_RuneCount
  obtain ⟨o9, h_o9, h⟩ := bindO h
  refine bindI (unicode_utf8_RuneCount_l1_ns h_o9) ?_
  rcases o9 with x_ | x_
  ·
    dsimp only at h ⊢
    exact h
  ·
    dsimp only at h ⊢
    exact h
def bytes_IndexByte_n (n : Nat) (p1 : List UInt8) (p4 : UInt8) : Option Int := do
  some (idxB p1 p4)
theorem bytes_IndexByte_ns {n : Nat} {p1 : List UInt8} {p4 : UInt8} {r : Int} (h : bytes_IndexByte_n n p1 p4 = some r) : bytes_IndexByte p1 p4 = some r := by
  unfold bytes_IndexByte_n at h
  unfold bytes_IndexByte
  exact h
def bytes_Equal_n (n : Nat) (p1 : List UInt8) (p4 : List UInt8) : Option Bool := do
  some (p1 == p4)
theorem bytes_Equal_ns {n : Nat} {p1 : List UInt8} {p4 : List UInt8} {r : Bool} (h : bytes_Equal_n n p1 p4 = some r) : bytes_Equal p1 p4 = some r := by
  unfold bytes_Equal_n at h
  unfold bytes_Equal
  exact h
def internal_bytealg_Cutover_n (n : Nat) (p1 : Int) : Option Int := do
  let q2 ← iquo (w64 (p1 + 16)) 8
  some q2
theorem internal_bytealg_Cutover_ns {n : Nat} {p1 : Int} {r : Int} (h : internal_bytealg_Cutover_n n p1 = some r) : internal_bytealg_Cutover p1 = some r := by
  unfold internal_bytealg_Cutover_n at h
  unfold internal_bytealg_Cutover
  obtain ⟨q2, h_q2, h⟩ := bindO h
  refine bindI h_q2 ?_
  exact h
def internal_bytealg_hashStr_byte_n (n : Nat) (p1 : List UInt8) : Option (Int × Int) := do
  none
theorem internal_bytealg_hashStr_byte_ns {n : Nat} {p1 : List UInt8} {r : Int × Int} (h : internal_bytealg_hashStr_byte_n n p1 = some r) : internal_bytealg_hashStr_byte p1 = some r := by
  unfold internal_bytealg_hashStr_byte_n at h
  unfold internal_bytealg_hashStr_byte
  exact h
def internal_bytealg_IndexRabinKarp_byte_n (n : Nat) (p1 : List UInt8) (p4 : List UInt8) : Option Int := do
  let y7 ← internal_bytealg_hashStr_byte_n n p4
  none
theorem internal_bytealg_IndexRabinKarp_byte_ns {n : Nat} {p1 : List UInt8} {p4 : List UInt8} {r : Int} (h : internal_bytealg_IndexRabinKarp_byte_n n p1 p4 = some r) : internal_bytealg_IndexRabinKarp_byte p1 p4 = some r := by
  unfold internal_bytealg_IndexRabinKarp_byte_n at h
  unfold internal_bytealg_IndexRabinKarp_byte
  obtain ⟨y7, h_y7, h⟩ := bindO h
  refine bindI (internal_bytealg_hashStr_byte_ns h_y7) ?_
  exact h
def bytes_Index_n (n : Nat) (p1 : List UInt8) (p4 : List UInt8) : Option Int := do
  if (((p4.length : Int)) == 0) = true then (do
      some 0)
  else (do
      if (((p4.length : Int)) == 1) = true then (do
          let e9 ← ix p4 0
          let y19 ← bytes_IndexByte_n n p1 e9
          some y19)
      else (do
          if (((p4.length : Int)) == ((p1.length : Int))) = true then (do
              let y24 ← bytes_Equal_n n p4 p1
              if (y24) = true then (do
                  some 0)
              else (do
                  some ((-1))))
          else (do
              if (decide (((p4.length : Int)) > ((p1.length : Int)))) = true then (do
                  some ((-1)))
              else (do
                  none))))
theorem bytes_Index_ns {n : Nat} {p1 : List UInt8} {p4 : List UInt8} {r : Int} (h : bytes_Index_n n p1 p4 = some r) : bytes_Index p1 p4 = some r := by
  unfold bytes_Index_n at h
  unfold bytes_Index
  rcases ifB h with ⟨hc_, h⟩ | ⟨hc_, h⟩
  · refine ifT hc_ ?_
    exact h
  · refine ifF hc_ ?_
    rcases ifB h with ⟨hc_, h⟩ | ⟨hc_, h⟩
    · refine ifT hc_ ?_
      obtain ⟨e9, h_e9, h⟩ := bindO h
      refine bindI h_e9 ?_
      obtain ⟨y19, h_y19, h⟩ := bindO h
      refine bindI (bytes_IndexByte_ns h_y19) ?_
      exact h
    · refine ifF hc_ ?_
      rcases ifB h with ⟨hc_, h⟩ | ⟨hc_, h⟩
      · refine ifT hc_ ?_
        obtain ⟨y24, h_y24, h⟩ := bindO h
        refine bindI (bytes_Equal_ns h_y24) ?_
        rcases ifB h with ⟨hc_, h⟩ | ⟨hc_, h⟩
        · refine ifT hc_ ?_
          exact h
        · refine ifF hc_ ?_
          exact h
      · refine ifF hc_ ?_
        rcases ifB h with ⟨hc_, h⟩ | ⟨hc_, h⟩
        · refine ifT hc_ ?_
          exact h
        · refine ifF hc_ ?_
          exact h
def bytes_Count_l1_n (n : Nat) (p4 : List UInt8) (x30 : Int) (x31 : List UInt8) : Option Int :=
  match n with
  | 0 => none
  | n + 1 => do
    let y37 ← bytes_Index_n n x31 p4
    if (y37 == ((-1))) = true then (do
        some x30)
    else (do
        let s42 ← cutL x31 ((w64 (y37 + ((p4.length : Int))))) ((x31.length : Int))
        bytes_Count_l1_n n p4 (w64 (x30 + 1)) s42)
theorem bytes_Count_l1_nr : ∀ (n : Nat) (p4 : List UInt8) (x30 : Int) (x31 : List UInt8) (r : Int), bytes_Count_l1_n n p4 x30 x31 = some r → bytes_Count_l1 p4 x30 x31 = some r := by
  intro n
  induction n with
  | zero => intro p4 x30 x31 r h; cases h
  | succ n ih =>
    intro p4 x30 x31 r h
    rw [bytes_Count_l1_n] at h
    rw [bytes_Count_l1]
    obtain ⟨y37, h_y37, h⟩ := bindO h
    refine bindI (bytes_Index_ns h_y37) ?_
    rcases ifB h with ⟨hc_, h⟩ | ⟨hc_, h⟩
    · refine ifT hc_ ?_
      exact h
    · refine ifF hc_ ?_
      obtain ⟨s42, h_s42, h⟩ := bindO h
      refine bindI h_s42 ?_
      exact ih _ _ _ _ h
theorem bytes_Count_l1_ns {n : Nat} {p4 : List UInt8} {x30 : Int} {x31 : List UInt8} {r : Int} (h : bytes_Count_l1_n n p4 x30 x31 = some r) : bytes_Count_l1 p4 x30 x31 = some r := bytes_Count_l1_nr n p4 x30 x31 r h
def bytes_Count_n (n : Nat) (p1 : List UInt8) (p4 : List UInt8) : Option Int := do
  if (((p4.length : Int)) == 0) = true then (do
      let y8 ← unicode_utf8_RuneCount_n n p1
      some (w64 (y8 + 1)))
  else (do
      if (((p4.length : Int)) == 1) = true then (do
          let e13 ← ix p4 0
          some (cntB p1 e13))
      else (do
          let o34 ← bytes_Count_l1_n n p4 0 p1
          some o34))
theorem bytes_Count_ns {n : Nat} {p1 : List UInt8} {p4 : List UInt8} {r : Int} (h : bytes_Count_n n p1 p4 = some r) : bytes_Count p1 p4 = some r := by
  unfold bytes_Count_n at h
  unfold bytes_Count
  rcases ifB h with ⟨hc_, h⟩ | ⟨hc_, h⟩
  · refine ifT hc_ ?_
    obtain ⟨y8, h_y8, h⟩ := bindO h
    refine bindI (unicode_utf8_RuneCount_ns h_y8) ?_
    exact h
  · refine ifF hc_ ?_
    rcases ifB h with ⟨hc_, h⟩ | ⟨hc_, h⟩
    · refine ifT hc_ ?_
      obtain ⟨e13, h_e13, h⟩ := bindO h
      refine bindI h_e13 ?_
      exact h
    · refine ifF hc_ ?_
      obtain ⟨o34, h_o34, h⟩ := bindO h
      refine bindI (bytes_Count_l1_ns h_o34) ?_
      exact h
def unicode_utf8_decodeRuneSlow_n (n : Nat) (p1 : List UInt8) : Option (Int × Int) := do
  if (decide (((p1.length : Int)) < 1)) = true then (do
      some ((65533, 0)))
  else (do
      let e5 ← ix p1 0
      none)
theorem unicode_utf8_decodeRuneSlow_ns {n : Nat} {p1 : List UInt8} {r : Int × Int} (h : unicode_utf8_decodeRuneSlow_n n p1 = some r) : unicode_utf8_decodeRuneSlow p1 = some r := by
  unfold unicode_utf8_decodeRuneSlow_n at h
  unfold unicode_utf8_decodeRuneSlow
  rcases ifB h with ⟨hc_, h⟩ | ⟨hc_, h⟩
  · refine ifT hc_ ?_
    exact h
  · refine ifF hc_ ?_
    obtain ⟨e5, h_e5, h⟩ := bindO h
    refine bindI h_e5 ?_
    exact h
def unicode_utf8_DecodeRune_n (n : Nat) (p1 : List UInt8) : Option (Int × Int) := do
  let k5 := fun (_ : Unit) => (do
      let y27 ← unicode_utf8_decodeRuneSlow_n n p1
      some ((y27.1, y27.2)))
  none
theorem unicode_utf8_DecodeRune_ns {n : Nat} {p1 : List UInt8} {r : Int × Int} (h : unicode_utf8_DecodeRune_n n p1 = some r) : unicode_utf8_DecodeRune p1 = some r := by
  unfold unicode_utf8_DecodeRune_n at h
  unfold unicode_utf8_DecodeRune
  extract_lets k5 at h
  extract_lets k5'
  have hk_k5 : ∀ u_ r, k5 u_ = some r → k5' u_ = some r := by
    intro u_ r hk
    simp only [k5] at hk
    simp only [k5']
    obtain ⟨y27, h_y27, hk⟩ := bindO hk
    refine bindI (unicode_utf8_decodeRuneSlow_ns h_y27) ?_
    exact hk
  exact h
def bytes_Replace_l1_n (n : Nat) (x25 : Int) (p1 : List UInt8) (p4 : List UInt8) (p7 : List UInt8) (x45 : Int) (x46 : Int) (x47 : Int) (x48 : List UInt8) : Option (Int × Int × (List UInt8)) :=
  match n with
  | 0 => none
  | n + 1 => do
    if (decide (x45 < x25)) = true then (do
        let s53 ← cutL p1 x46 ((p1.length : Int))
        let y58 ← bytes_Index_n n s53 p4
        let s62 ← cutL x48 x47 ((x48.length : Int))
        let s68 ← cutL p1 x46 ((w64 (x46 + y58)))
        let s73 ← cutL (ovw x48 x47.toNat ((((x48.length : Int)).toNat - x47.toNat)) s68) ((w64 (x47 + (((min s68.length ((((x48.length : Int)).toNat - x47.toNat)) : Nat) : Int))))) (((ovw x48 x47.toNat ((((x48.length : Int)).toNat - x47.toNat)) s68).length : Int))
        bytes_Replace_l1_n n x25 p1 p4 p7 (w64 (x45 + 1)) (w64 ((w64 (x46 + y58)) + ((p4.length : Int)))) (w64 ((w64 (x47 + (((min s68.length ((((x48.length : Int)).toNat - x47.toNat)) : Nat) : Int)))) + (((min p7.length (((((ovw x48 x47.toNat ((((x48.length : Int)).toNat - x47.toNat)) s68).length : Int)).toNat - ((w64 (x47 + (((min s68.length ((((x48.length : Int)).toNat - x47.toNat)) : Nat) : Int))))).toNat)) : Nat) : Int)))) (ovw (ovw x48 x47.toNat ((((x48.length : Int)).toNat - x47.toNat)) s68) (((w64 (x47 + (((min s68.length ((((x48.length : Int)).toNat - x47.toNat)) : Nat) : Int))))).toNat) (((((ovw x48 x47.toNat ((((x48.length : Int)).toNat - x47.toNat)) s68).length : Int)).toNat - ((w64 (x47 + (((min s68.length ((((x48.length : Int)).toNat - x47.toNat)) : Nat) : Int))))).toNat)) p7))
    else (do
        some ((x47, x46, x48)))
theorem bytes_Replace_l1_nr : ∀ (n : Nat) (x25 : Int) (p1 : List UInt8) (p4 : List UInt8) (p7 : List UInt8) (x45 : Int) (x46 : Int) (x47 : Int) (x48 : List UInt8) (r : Int × Int × (List UInt8)), bytes_Replace_l1_n n x25 p1 p4 p7 x45 x46 x47 x48 = some r → bytes_Replace_l1 x25 p1 p4 p7 x45 x46 x47 x48 = some r := by
  intro n
  induction n with
  | zero => intro x25 p1 p4 p7 x45 x46 x47 x48 r h; cases h
  | succ n ih =>
    intro x25 p1 p4 p7 x45 x46 x47 x48 r h
    rw [bytes_Replace_l1_n] at h
    rw [bytes_Replace_l1]
    rcases ifB h with ⟨hc_, h⟩ | ⟨hc_, h⟩
    · refine ifT hc_ ?_
      obtain ⟨s53, h_s53, h⟩ := bindO h
      refine bindI h_s53 ?_
      obtain ⟨y58, h_y58, h⟩ := bindO h
      refine bindI (bytes_Index_ns h_y58) ?_
      obtain ⟨s62, h_s62, h⟩ := bindO h
      refine bindI h_s62 ?_
      obtain ⟨s68, h_s68, h⟩ := bindO h
      refine bindI h_s68 ?_
      obtain ⟨s73, h_s73, h⟩ := bindO h
      refine bindI h_s73 ?_
      exact ih _ _ _ _ _ _ _ _ _ h
    · refine ifF hc_ ?_
      exact h
theorem bytes_Replace_l1_ns {n : Nat} {x25 : Int} {p1 : List UInt8} {p4 : List UInt8} {p7 : List UInt8} {x45 : Int} {x46 : Int} {x47 : Int} {x48 : List UInt8} {r : Int × Int × (List UInt8)} (h : bytes_Replace_l1_n n x25 p1 p4 p7 x45 x46 x47 x48 = some r) : bytes_Replace_l1 x25 p1 p4 p7 x45 x46 x47 x48 = some r := bytes_Replace_l1_nr n x25 p1 p4 p7 x45 x46 x47 x48 r h
def bytes_Replace_l2_n (n : Nat) (x25 : Int) (p1 : List UInt8) (p7 : List UInt8) (x92 : Int) (x93 : Int) (x94 : Int) (x95 : List UInt8) : Option (Int × Int × (List UInt8)) :=
  match n with
  | 0 => none
  | n + 1 => do
    if (decide (x92 < (w64 (x25 - 1)))) = true then (do
        let s100 ← cutL p1 x94 ((p1.length : Int))
        let y105 ← unicode_utf8_DecodeRune_n n s100
        let s109 ← cutL x95 x93 ((x95.length : Int))
        let s115 ← cutL p1 x94 ((w64 (x94 + y105.2)))
        let s120 ← cutL (ovw x95 x93.toNat ((((x95.length : Int)).toNat - x93.toNat)) s115) ((w64 (x93 + (((min s115.length ((((x95.length : Int)).toNat - x93.toNat)) : Nat) : Int))))) (((ovw x95 x93.toNat ((((x95.length : Int)).toNat - x93.toNat)) s115).length : Int))
        bytes_Replace_l2_n n x25 p1 p7 (w64 (x92 + 1)) (w64 ((w64 (x93 + (((min s115.length ((((x95.length : Int)).toNat - x93.toNat)) : Nat) : Int)))) + (((min p7.length (((((ovw x95 x93.toNat ((((x95.length : Int)).toNat - x93.toNat)) s115).length : Int)).toNat - ((w64 (x93 + (((min s115.length ((((x95.length : Int)).toNat - x93.toNat)) : Nat) : Int))))).toNat)) : Nat) : Int)))) (w64 (x94 + y105.2)) (ovw (ovw x95 x93.toNat ((((x95.length : Int)).toNat - x93.toNat)) s115) (((w64 (x93 + (((min s115.length ((((x95.length : Int)).toNat - x93.toNat)) : Nat) : Int))))).toNat) (((((ovw x95 x93.toNat ((((x95.length : Int)).toNat - x93.toNat)) s115).length : Int)).toNat - ((w64 (x93 + (((min s115.length ((((x95.length : Int)).toNat - x93.toNat)) : Nat) : Int))))).toNat)) p7))
    else (do
        some ((x93, x94, x95)))
theorem bytes_Replace_l2_nr : ∀ (n : Nat) (x25 : Int) (p1 : List UInt8) (p7 : List UInt8) (x92 : Int) (x93 : Int) (x94 : Int) (x95 : List UInt8) (r : Int × Int × (List UInt8)), bytes_Replace_l2_n n x25 p1 p7 x92 x93 x94 x95 = some r → bytes_Replace_l2 x25 p1 p7 x92 x93 x94 x95 = some r := by
  intro n
  induction n with
  | zero => intro x25 p1 p7 x92 x93 x94 x95 r h; cases h
  | succ n ih =>
    intro x25 p1 p7 x92 x93 x94 x95 r h
    rw [bytes_Replace_l2_n] at h
    rw [bytes_Replace_l2]
    rcases ifB h with ⟨hc_, h⟩ | ⟨hc_, h⟩
    · refine ifT hc_ ?_
      obtain ⟨s100, h_s100, h⟩ := bindO h
      refine bindI h_s100 ?_
      obtain ⟨y105, h_y105, h⟩ := bindO h
      refine bindI (unicode_utf8_DecodeRune_ns h_y105) ?_
      obtain ⟨s109, h_s109, h⟩ := bindO h
      refine bindI h_s109 ?_
      obtain ⟨s115, h_s115, h⟩ := bindO h
      refine bindI h_s115 ?_
      obtain ⟨s120, h_s120, h⟩ := bindO h
      refine bindI h_s120 ?_
      exact ih _ _ _ _ _ _ _ _ h
    · refine ifF hc_ ?_
      exact h
theorem bytes_Replace_l2_ns {n : Nat} {x25 : Int} {p1 : List UInt8} {p7 : List UInt8} {x92 : Int} {x93 : Int} {x94 : Int} {x95 : List UInt8} {r : Int × Int × (List UInt8)} (h : bytes_Replace_l2_n n x25 p1 p7 x92 x93 x94 x95 = some r) : bytes_Replace_l2 x25 p1 p7 x92 x93 x94 x95 = some r := bytes_Replace_l2_nr n x25 p1 p7 x92 x93 x94 x95 r h
def bytes_Replace_n (n : Nat) (p1 : List UInt8) (p4 : List UInt8) (p7 : List UInt8) (p10 : Int) : Option (List UInt8) := do
  let x12 ← (do
      if (p10 != 0) = true then (do
          let y15 ← bytes_Count_n n p1 p4
          some y15)
      else (do
          some 0) : Option Int)
  if (x12 == 0) = true then (do
      let _ ← req ((([] : List UInt8).length + p1.length) * 1 ≤ 140737488355328 ∧ ([] : List UInt8).length + p1.length ≤ 9223372036854775807)
      some (([] : List UInt8) ++ p1))
  else (do
      let x25 ← (do
          let x27 ← (do
              if (decide (p10 < 0)) = true then (do
                  some true)
              else (do
                  some (decide (x12 < p10))) : Option Bool)
          if (x27) = true then (do
              some x12)
          else (do
              some p10) : Option Int)
      let _ ← req (0 ≤ (w64 (((p1.length : Int)) + (w64 (x25 * (w64 (((p7.length : Int)) - ((p4.length : Int)))))))) ∧ (w64 (((p1.length : Int)) + (w64 (x25 * (w64 (((p7.length : Int)) - ((p4.length : Int)))))))) ≤ (w64 (((p1.length : Int)) + (w64 (x25 * (w64 (((p7.length : Int)) - ((p4.length : Int)))))))) ∧ (w64 (((p1.length : Int)) + (w64 (x25 * (w64 (((p7.length : Int)) - ((p4.length : Int)))))))) * 1 ≤ 140737488355328 ∧ (w64 (((p1.length : Int)) + (w64 (x25 * (w64 (((p7.length : Int)) - ((p4.length : Int)))))))) ≤ 9223372036854775807)
      let x35 ← (do
          if (decide (((p4.length : Int)) > 0)) = true then (do
              let o49 ← bytes_Replace_l1_n n x25 p1 p4 p7 0 0 0 (List.replicate (w64 (((p1.length : Int)) + (w64 (x25 * (w64 (((p7.length : Int)) - ((p4.length : Int)))))))).toNat (0 : UInt8))
              some ((o49.1, o49.2.1, o49.2.2)))
          else (do
              let s79 ← cutL (List.replicate (w64 (((p1.length : Int)) + (w64 (x25 * (w64 (((p7.length : Int)) - ((p4.length : Int)))))))).toNat (0 : UInt8)) 0 (((List.replicate (w64 (((p1.length : Int)) + (w64 (x25 * (w64 (((p7.length : Int)) - ((p4.length : Int)))))))).toNat (0 : UInt8)).length : Int))
              let o96 ← bytes_Replace_l2_n n x25 p1 p7 0 (w64 (0 + (((min p7.length (((((List.replicate (w64 (((p1.length : Int)) + (w64 (x25 * (w64 (((p7.length : Int)) - ((p4.length : Int)))))))).toNat (0 : UInt8)).length : Int)).toNat - 0)) : Nat) : Int)))) 0 (ovw (List.replicate (w64 (((p1.length : Int)) + (w64 (x25 * (w64 (((p7.length : Int)) - ((p4.length : Int)))))))).toNat (0 : UInt8)) 0 (((((List.replicate (w64 (((p1.length : Int)) + (w64 (x25 * (w64 (((p7.length : Int)) - ((p4.length : Int)))))))).toNat (0 : UInt8)).length : Int)).toNat - 0)) p7)
              some ((o96.1, o96.2.1, o96.2.2))) : Option (Int × Int × (List UInt8)))
      let s126 ← cutL x35.2.2 x35.1 ((x35.2.2.length : Int))
      let s132 ← cutL p1 x35.2.1 ((p1.length : Int))
      let s137 ← cutL (ovw x35.2.2 x35.1.toNat ((((x35.2.2.length : Int)).toNat - x35.1.toNat)) s132) 0 ((w64 (x35.1 + (((min s132.length ((((x35.2.2.length : Int)).toNat - x35.1.toNat)) : Nat) : Int)))))
      some ((ovw x35.2.2 x35.1.toNat ((((x35.2.2.length : Int)).toNat - x35.1.toNat)) s132).take (((w64 (x35.1 + (((min s132.length ((((x35.2.2.length : Int)).toNat - x35.1.toNat)) : Nat) : Int))))).toNat)))
theorem bytes_Replace_ns {n : Nat} {p1 : List UInt8} {p4 : List UInt8} {p7 : List UInt8} {p10 : Int} {r : List UInt8} (h : bytes_Replace_n n p1 p4 p7 p10 = some r) : bytes_Replace p1 p4 p7 p10 = some r := by
  unfold bytes_Replace_n at h
  unfold bytes_Replace
  obtain ⟨x12, h_x12, h⟩ := bindO h
  refine bindI (a := x12) ?_ ?_
  ·
    rcases ifB h_x12 with ⟨hc_, h_x12⟩ | ⟨hc_, h_x12⟩
    · refine ifT hc_ ?_
      obtain ⟨y15, h_y15, h_x12⟩ := bindO h_x12
      refine bindI (bytes_Count_ns h_y15) ?_
      exact h_x12
    · refine ifF hc_ ?_
      exact h_x12
  ·
    rcases ifB h with ⟨hc_, h⟩ | ⟨hc_, h⟩
    · refine ifT hc_ ?_
      obtain ⟨u_, hu_, h⟩ := bindO h
      refine bindI hu_ ?_
      exact h
    · refine ifF hc_ ?_
      obtain ⟨x25, h_x25, h⟩ := bindO h
      refine bindI (a := x25) ?_ ?_
      ·
        obtain ⟨x27, h_x27, h_x25⟩ := bindO h_x25
        refine bindI (a := x27) ?_ ?_
        ·
          rcases ifB h_x27 with ⟨hc_, h_x27⟩ | ⟨hc_, h_x27⟩
          · refine ifT hc_ ?_
            exact h_x27
          · refine ifF hc_ ?_
            exact h_x27
        ·
          rcases ifB h_x25 with ⟨hc_, h_x25⟩ | ⟨hc_, h_x25⟩
          · refine ifT hc_ ?_
            exact h_x25
          · refine ifF hc_ ?_
            exact h_x25
      ·
        obtain ⟨u_, hu_, h⟩ := bindO h
        refine bindI hu_ ?_
        obtain ⟨x35, h_x35, h⟩ := bindO h
        refine bindI (a := x35) ?_ ?_
        ·
          rcases ifB h_x35 with ⟨hc_, h_x35⟩ | ⟨hc_, h_x35⟩
          · refine ifT hc_ ?_
            obtain ⟨o49, h_o49, h_x35⟩ := bindO h_x35
            refine bindI (bytes_Replace_l1_ns h_o49) ?_
            exact h_x35
          · refine ifF hc_ ?_
            obtain ⟨s79, h_s79, h_x35⟩ := bindO h_x35
            refine bindI h_s79 ?_
            obtain ⟨o96, h_o96, h_x35⟩ := bindO h_x35
            refine bindI (bytes_Replace_l2_ns h_o96) ?_
            exact h_x35
        ·
          obtain ⟨s126, h_s126, h⟩ := bindO h
          refine bindI h_s126 ?_
          obtain ⟨s132, h_s132, h⟩ := bindO h
          refine bindI h_s132 ?_
          obtain ⟨s137, h_s137, h⟩ := bindO h
          refine bindI h_s137 ?_
          exact h
def bytes_ReplaceAll_n (n : Nat) (p1 : List UInt8) (p4 : List UInt8) (p7 : List UInt8) : Option (List UInt8) := do
  let y10 ← bytes_Replace_n n p1 p4 p7 ((-1))
  some y10
theorem bytes_ReplaceAll_ns {n : Nat} {p1 : List UInt8} {p4 : List UInt8} {p7 : List UInt8} {r : List UInt8} (h : bytes_ReplaceAll_n n p1 p4 p7 = some r) : bytes_ReplaceAll p1 p4 p7 = some r := by
  unfold bytes_ReplaceAll_n at h
  unfold bytes_ReplaceAll
  obtain ⟨y10, h_y10, h⟩ := bindO h
  refine bindI (bytes_Replace_ns h_y10) ?_
  exact h
def emit_Data_n (n : Nat) (p1 : List UInt8) : Option (List UInt8) := do
  let y10 ← bytes_ReplaceAll_n n p1 ([255] : List UInt8) [255, 255]
  some y10
theorem emit_Data_ns {n : Nat} {p1 : List UInt8} {r : List UInt8} (h : emit_Data_n n p1 = some r) : emit_Data p1 = some r := by
  unfold emit_Data_n at h
  unfold emit_Data
  obtain ⟨y10, h_y10, h⟩ := bindO h
  refine bindI (bytes_ReplaceAll_ns h_y10) ?_
  exact h
def Law_alive_n (n : Nat) : Option Bool := do
  let y1 ← emit_Verb_n n 253 1
  let x7 ← (do
      if (y1.2.isNone) = true then (do
          some (y1.1 == ([255, 253, 1] : List UInt8)))
      else (do
          some false) : Option Bool)
  let x11 ← (do
      if (x7) = true then (do
          let y17 ← emit_Data_n n [1, 255]
          some (y17 == ([1, 255, 255] : List UInt8)))
      else (do
          some false) : Option Bool)
  some x11
theorem Law_alive_ns {n : Nat} {r : Bool} (h : Law_alive_n n = some r) : Law_alive = some r := by
  unfold Law_alive_n at h
  unfold Law_alive
  obtain ⟨y1, h_y1, h⟩ := bindO h
  refine bindI (emit_Verb_ns h_y1) ?_
  obtain ⟨x7, h_x7, h⟩ := bindO h
  refine bindI (a := x7) ?_ ?_
  ·
    rcases ifB h_x7 with ⟨hc_, h_x7⟩ | ⟨hc_, h_x7⟩
    · refine ifT hc_ ?_
      exact h_x7
    · refine ifF hc_ ?_
      exact h_x7
  ·
    obtain ⟨x11, h_x11, h⟩ := bindO h
    refine bindI (a := x11) ?_ ?_
    ·
      rcases ifB h_x11 with ⟨hc_, h_x11⟩ | ⟨hc_, h_x11⟩
      · refine ifT hc_ ?_
        obtain ⟨y17, h_y17, h_x11⟩ := bindO h_x11
        refine bindI (emit_Data_ns h_y17) ?_
        exact h_x11
      · refine ifF hc_ ?_
        exact h_x11
    ·
      exact h
def iac_Tokens_add_n (n : Nat) (p1 : iac_Tokens) (p5 : UInt8) : Option iac_Tokens := do
  if (decide (((p1.f_token.f_Body.length : Int)) ≥ 256)) = true then (do
      some ((⟨p1.f_state, (⟨p1.f_token.f_Kind, p1.f_token.f_Code, p1.f_token.f_Option, p1.f_token.f_Body, true⟩ : iac_Token)⟩ : iac_Tokens)))
  else (do
      let _ ← req ((p1.f_token.f_Body.length + ([p5] : List UInt8).length) * 1 ≤ 140737488355328 ∧ p1.f_token.f_Body.length + ([p5] : List UInt8).length ≤ 9223372036854775807)
      some ((⟨p1.f_state, (⟨p1.f_token.f_Kind, p1.f_token.f_Code, p1.f_token.f_Option, p1.f_token.f_Body ++ ([p5] : List UInt8), p1.f_token.f_Cut⟩ : iac_Token)⟩ : iac_Tokens)))
theorem iac_Tokens_add_ns {n : Nat} {p1 : iac_Tokens} {p5 : UInt8} {r : iac_Tokens} (h : iac_Tokens_add_n n p1 p5 = some r) : iac_Tokens_add p1 p5 = some r := by
  unfold iac_Tokens_add_n at h
  unfold iac_Tokens_add
  rcases ifB h with ⟨hc_, h⟩ | ⟨hc_, h⟩
  · refine ifT hc_ ?_
    exact h
  · refine ifF hc_ ?_
    obtain ⟨u_, hu_, h⟩ := bindO h
    refine bindI hu_ ?_
    exact h
def iac_Tokens_Feed_n (n : Nat) (p1 : iac_Tokens) (p5 : UInt8) : Option (iac_Token × Bool × iac_Tokens) := do
  if (p1.f_state == 1) = true then (do
      if (p5 == 255) = true then (do
          some (((⟨1, 255, 0, ([] : List UInt8), false⟩ : iac_Token), true, (⟨0, (⟨0, 0, 0, ([] : List UInt8), false⟩ : iac_Token)⟩ : iac_Tokens))))
      else (do
          if (p5 == 250) = true then (do
              some (((⟨0, 0, 0, ([] : List UInt8), false⟩ : iac_Token), false, (⟨3, (⟨p1.f_token.f_Kind, p1.f_token.f_Code, p1.f_token.f_Option, p1.f_token.f_Body, p1.f_token.f_Cut⟩ : iac_Token)⟩ : iac_Tokens))))
          else (do
              let y14 ← codes_Verb_n n (b8 p5)
              if (y14) = true then (do
                  some (((⟨0, 0, 0, ([] : List UInt8), false⟩ : iac_Token), false, (⟨2, (⟨0, b8 p5, 0, ([] : List UInt8), false⟩ : iac_Token)⟩ : iac_Tokens))))
              else (do
                  some (((⟨2, b8 p5, 0, ([] : List UInt8), false⟩ : iac_Token), true, (⟨0, (⟨0, 0, 0, ([] : List UInt8), false⟩ : iac_Token)⟩ : iac_Tokens)))))))
  else (do
      if (p1.f_state == 2) = true then (do
          some (((⟨3, p1.f_token.f_Code, b8 p5, ([] : List UInt8), false⟩ : iac_Token), true, (⟨0, (⟨0, 0, 0, ([] : List UInt8), false⟩ : iac_Token)⟩ : iac_Tokens))))
      else (do
          if (p1.f_state == 3) = true then (do
              some (((⟨0, 0, 0, ([] : List UInt8), false⟩ : iac_Token), false, (⟨4, (⟨0, 0, b8 p5, ([] : List UInt8), false⟩ : iac_Token)⟩ : iac_Tokens))))
          else (do
              if (p1.f_state == 4) = true then (do
                  if (p5 == 255) = true then (do
                      some (((⟨0, 0, 0, ([] : List UInt8), false⟩ : iac_Token), false, (⟨5, (⟨p1.f_token.f_Kind, p1.f_token.f_Code, p1.f_token.f_Option, p1.f_token.f_Body, p1.f_token.f_Cut⟩ : iac_Token)⟩ : iac_Tokens))))
                  else (do
                      let y27 ← iac_Tokens_add_n n ((⟨p1.f_state, (⟨p1.f_token.f_Kind, p1.f_token.f_Code, p1.f_token.f_Option, p1.f_token.f_Body, p1.f_token.f_Cut⟩ : iac_Token)⟩ : iac_Tokens)) p5
                      some (((⟨0, 0, 0, ([] : List UInt8), false⟩ : iac_Token), false, (⟨y27.f_state, (⟨y27.f_token.f_Kind, y27.f_token.f_Code, y27.f_token.f_Option, y27.f_token.f_Body, y27.f_token.f_Cut⟩ : iac_Token)⟩ : iac_Tokens)))))
              else (do
                  if (p1.f_state == 5) = true then (do
                      if (p5 == 255) = true then (do
                          let y35 ← iac_Tokens_add_n n ((⟨4, (⟨p1.f_token.f_Kind, p1.f_token.f_Code, p1.f_token.f_Option, p1.f_token.f_Body, p1.f_token.f_Cut⟩ : iac_Token)⟩ : iac_Tokens)) p5
                          some (((⟨0, 0, 0, ([] : List UInt8), false⟩ : iac_Token), false, (⟨y35.f_state, (⟨y35.f_token.f_Kind, y35.f_token.f_Code, y35.f_token.f_Option, y35.f_token.f_Body, y35.f_token.f_Cut⟩ : iac_Token)⟩ : iac_Tokens))))
                      else (do
                          if (p5 == 240) = true then (do
                              some (((⟨4, p1.f_token.f_Code, p1.f_token.f_Option, p1.f_token.f_Body, p1.f_token.f_Cut⟩ : iac_Token), true, (⟨0, (⟨0, 0, 0, ([] : List UInt8), false⟩ : iac_Token)⟩ : iac_Tokens))))
                          else (do
                              some (((⟨5, b8 p5, p1.f_token.f_Option, ([] : List UInt8), false⟩ : iac_Token), true, (⟨0, (⟨0, 0, 0, ([] : List UInt8), false⟩ : iac_Token)⟩ : iac_Tokens))))))
                  else (do
                      if (p5 == 255) = true then (do
                          some (((⟨0, 0, 0, ([] : List UInt8), false⟩ : iac_Token), false, (⟨1, (⟨p1.f_token.f_Kind, p1.f_token.f_Code, p1.f_token.f_Option, p1.f_token.f_Body, p1.f_token.f_Cut⟩ : iac_Token)⟩ : iac_Tokens))))
                      else (do
                          some (((⟨1, b8 p5, 0, ([] : List UInt8), false⟩ : iac_Token), true, (⟨0, (⟨0, 0, 0, ([] : List UInt8), false⟩ : iac_Token)⟩ : iac_Tokens)))))))))
theorem iac_Tokens_Feed_ns {n : Nat} {p1 : iac_Tokens} {p5 : UInt8} {r : iac_Token × Bool × iac_Tokens} (h : iac_Tokens_Feed_n n p1 p5 = some r) : iac_Tokens_Feed p1 p5 = some r := by
  unfold iac_Tokens_Feed_n at h
  unfold iac_Tokens_Feed
  rcases ifB h with ⟨hc_, h⟩ | ⟨hc_, h⟩
  · refine ifT hc_ ?_
    rcases ifB h with ⟨hc_, h⟩ | ⟨hc_, h⟩
    · refine ifT hc_ ?_
      exact h
    · refine ifF hc_ ?_
      rcases ifB h with ⟨hc_, h⟩ | ⟨hc_, h⟩
      · refine ifT hc_ ?_
        exact h
      · refine ifF hc_ ?_
        obtain ⟨y14, h_y14, h⟩ := bindO h
        refine bindI (codes_Verb_ns h_y14) ?_
        rcases ifB h with ⟨hc_, h⟩ | ⟨hc_, h⟩
        · refine ifT hc_ ?_
          exact h
        · refine ifF hc_ ?_
          exact h
  · refine ifF hc_ ?_
    rcases ifB h with ⟨hc_, h⟩ | ⟨hc_, h⟩
    · refine ifT hc_ ?_
      exact h
    · refine ifF hc_ ?_
      rcases ifB h with ⟨hc_, h⟩ | ⟨hc_, h⟩
      · refine ifT hc_ ?_
        exact h
      · refine ifF hc_ ?_
        rcases ifB h with ⟨hc_, h⟩ | ⟨hc_, h⟩
        · refine ifT hc_ ?_
          rcases ifB h with ⟨hc_, h⟩ | ⟨hc_, h⟩
          · refine ifT hc_ ?_
            exact h
          · refine ifF hc_ ?_
            obtain ⟨y27, h_y27, h⟩ := bindO h
            refine bindI (iac_Tokens_add_ns h_y27) ?_
            exact h
        · refine ifF hc_ ?_
          rcases ifB h with ⟨hc_, h⟩ | ⟨hc_, h⟩
          · refine ifT hc_ ?_
            rcases ifB h with ⟨hc_, h⟩ | ⟨hc_, h⟩
            · refine ifT hc_ ?_
              obtain ⟨y35, h_y35, h⟩ := bindO h
              refine bindI (iac_Tokens_add_ns h_y35) ?_
              exact h
            · refine ifF hc_ ?_
              rcases ifB h with ⟨hc_, h⟩ | ⟨hc_, h⟩
              · refine ifT hc_ ?_
                exact h
              · refine ifF hc_ ?_
                exact h
          · refine ifF hc_ ?_
            rcases ifB h with ⟨hc_, h⟩ | ⟨hc_, h⟩
            · refine ifT hc_ ?_
              exact h
            · refine ifF hc_ ?_
              exact h
def slices_Clone_byte_byte_n (n : Nat) (p1 : List UInt8) : Option (List UInt8) := do
  let _ ← req ((([] : List UInt8).length + p1.length) * 1 ≤ 140737488355328 ∧ ([] : List UInt8).length + p1.length ≤ 9223372036854775807)
  some (([] : List UInt8) ++ p1)
theorem slices_Clone_byte_byte_ns {n : Nat} {p1 : List UInt8} {r : List UInt8} (h : slices_Clone_byte_byte_n n p1 = some r) : slices_Clone_byte_byte p1 = some r := by
  unfold slices_Clone_byte_byte_n at h
  unfold slices_Clone_byte_byte
  obtain ⟨u_, hu_, h⟩ := bindO h
  refine bindI hu_ ?_
  exact h
def iac_Tokens_Idle_n (n : Nat) (p1 : iac_Tokens) : Option (Bool × iac_Tokens) := do
  some ((p1.f_state == 0, (⟨p1.f_state, (⟨p1.f_token.f_Kind, p1.f_token.f_Code, p1.f_token.f_Option, p1.f_token.f_Body, p1.f_token.f_Cut⟩ : iac_Token)⟩ : iac_Tokens)))
theorem iac_Tokens_Idle_ns {n : Nat} {p1 : iac_Tokens} {r : Bool × iac_Tokens} (h : iac_Tokens_Idle_n n p1 = some r) : iac_Tokens_Idle p1 = some r := by
  unfold iac_Tokens_Idle_n at h
  unfold iac_Tokens_Idle
  exact h
def iac_All_l1_n (n : Nat) (p1 : List UInt8) (z14 : Int × (List iac_Token) × Int × Int × Int × Int × Bool × (List UInt8)) : Option ((List iac_Token) × Int × Int × Int × Int × Bool × (List UInt8)) :=
  match n with
  | 0 => none
  | n + 1 => do
    if (decide (z14.1 < ((p1.length : Int)))) = true then (do
        let x24 ← (do
            let e28 ← ix p1 z14.1
            let y38 ← iac_Tokens_Feed_n n ((⟨z14.2.2.1, (⟨z14.2.2.2.1, z14.2.2.2.2.1, z14.2.2.2.2.2.1, z14.2.2.2.2.2.2.2, z14.2.2.2.2.2.2.1⟩ : iac_Token)⟩ : iac_Tokens)) e28
            if (y38.2.1) = true then (do
                let y49 ← slices_Clone_byte_byte_n n y38.1.f_Body
                let _ ← req ((z14.2.1.length + [(⟨y38.1.f_Kind, y38.1.f_Code, y38.1.f_Option, y49, y38.1.f_Cut⟩ : iac_Token)].length) * 56 ≤ 140737488355328 ∧ z14.2.1.length + [(⟨y38.1.f_Kind, y38.1.f_Code, y38.1.f_Option, y49, y38.1.f_Cut⟩ : iac_Token)].length ≤ 9223372036854775807)
                some ((z14.2.1 ++ [(⟨y38.1.f_Kind, y38.1.f_Code, y38.1.f_Option, y49, y38.1.f_Cut⟩ : iac_Token)], y38.2.2.f_state, y38.2.2.f_token.f_Kind, y38.2.2.f_token.f_Code, y38.2.2.f_token.f_Option, y38.2.2.f_token.f_Cut, y38.2.2.f_token.f_Body)))
            else (do
                some ((z14.2.1, y38.2.2.f_state, y38.2.2.f_token.f_Kind, y38.2.2.f_token.f_Code, y38.2.2.f_token.f_Option, y38.2.2.f_token.f_Cut, y38.2.2.f_token.f_Body))) : Option ((List iac_Token) × Int × Int × Int × Int × Bool × (List UInt8)))
        iac_All_l1_n n p1 ((w64 (z14.1 + 1), x24.1, x24.2.1, x24.2.2.1, x24.2.2.2.1, x24.2.2.2.2.1, x24.2.2.2.2.2.1, x24.2.2.2.2.2.2)))
    else (do
        some ((z14.2.1, z14.2.2.1, z14.2.2.2.1, z14.2.2.2.2.1, z14.2.2.2.2.2.1, z14.2.2.2.2.2.2.1, z14.2.2.2.2.2.2.2)))
theorem iac_All_l1_nr : ∀ (n : Nat) (p1 : List UInt8) (z14 : Int × (List iac_Token) × Int × Int × Int × Int × Bool × (List UInt8)) (r : (List iac_Token) × Int × Int × Int × Int × Bool × (List UInt8)), iac_All_l1_n n p1 z14 = some r → iac_All_l1 p1 z14 = some r := by
  intro n
  induction n with
  | zero => intro p1 z14 r h; cases h
  | succ n ih =>
    intro p1 z14 r h
    rw [iac_All_l1_n] at h
    rw [iac_All_l1]
    rcases ifB h with ⟨hc_, h⟩ | ⟨hc_, h⟩
    · refine ifT hc_ ?_
      obtain ⟨x24, h_x24, h⟩ := bindO h
      refine bindI (a := x24) ?_ ?_
      ·
        obtain ⟨e28, h_e28, h_x24⟩ := bindO h_x24
        refine bindI h_e28 ?_
        obtain ⟨y38, h_y38, h_x24⟩ := bindO h_x24
        refine bindI (iac_Tokens_Feed_ns h_y38) ?_
        rcases ifB h_x24 with ⟨hc_, h_x24⟩ | ⟨hc_, h_x24⟩
        · refine ifT hc_ ?_
          obtain ⟨y49, h_y49, h_x24⟩ := bindO h_x24
          refine bindI (slices_Clone_byte_byte_ns h_y49) ?_
          obtain ⟨u_, hu_, h_x24⟩ := bindO h_x24
          refine bindI hu_ ?_
          exact h_x24
        · refine ifF hc_ ?_
          exact h_x24
      ·
        exact ih _ _ _ h
    · refine ifF hc_ ?_
      exact h
theorem iac_All_l1_ns {n : Nat} {p1 : List UInt8} {z14 : Int × (List iac_Token) × Int × Int × Int × Int × Bool × (List UInt8)} {r : (List iac_Token) × Int × Int × Int × Int × Bool × (List UInt8)} (h : iac_All_l1_n n p1 z14 = some r) : iac_All_l1 p1 z14 = some r := iac_All_l1_nr n p1 z14 r h
def iac_All_n (n : Nat) (p1 : List UInt8) : Option ((List iac_Token) × Bool) := do
  let o17 ← iac_All_l1_n n p1 ((0, ([] : List iac_Token), 0, 0, 0, 0, false, ([] : List UInt8)))
  let y60 ← iac_Tokens_Idle_n n ((⟨o17.2.1, (⟨o17.2.2.1, o17.2.2.2.1, o17.2.2.2.2.1, o17.2.2.2.2.2.2, o17.2.2.2.2.2.1⟩ : iac_Token)⟩ : iac_Tokens))
  some ((o17.1, y60.1))
theorem iac_All_ns {n : Nat} {p1 : List UInt8} {r : (List iac_Token) × Bool} (h : iac_All_n n p1 = some r) : iac_All p1 = some r := by
  unfold iac_All_n at h
  unfold iac_All
  obtain ⟨o17, h_o17, h⟩ := bindO h
  refine bindI (iac_All_l1_ns h_o17) ?_
  obtain ⟨y60, h_y60, h⟩ := bindO h
  refine bindI (iac_Tokens_Idle_ns h_y60) ?_
  exact h
def codes_Plain_n (n : Nat) (p1 : Int) : Option Bool := do
  let x2 ← (do
      if (decide (p1 ≥ 241)) = true then (do
          some (decide (p1 ≤ 249)))
      else (do
          some false) : Option Bool)
  some x2
theorem codes_Plain_ns {n : Nat} {p1 : Int} {r : Bool} (h : codes_Plain_n n p1 = some r) : codes_Plain p1 = some r := by
  unfold codes_Plain_n at h
  unfold codes_Plain
  obtain ⟨x2, h_x2, h⟩ := bindO h
  refine bindI (a := x2) ?_ ?_
  ·
    rcases ifB h_x2 with ⟨hc_, h_x2⟩ | ⟨hc_, h_x2⟩
    · refine ifT hc_ ?_
      exact h_x2
    · refine ifF hc_ ?_
      exact h_x2
  ·
    exact h
def emit_Plain_n (n : Nat) (p1 : Int) : Option ((List UInt8) × (Option Nat)) := do
  let y2 ← codes_Plain_n n p1
  if (!y2) = true then (do
      some ((([] : List UInt8), (some 0 : Option Nat))))
  else (do
      some (([255, toB p1], (none : Option Nat))))
theorem emit_Plain_ns {n : Nat} {p1 : Int} {r : (List UInt8) × (Option Nat)} (h : emit_Plain_n n p1 = some r) : emit_Plain p1 = some r := by
  unfold emit_Plain_n at h
  unfold emit_Plain
  obtain ⟨y2, h_y2, h⟩ := bindO h
  refine bindI (codes_Plain_ns h_y2) ?_
  rcases ifB h with ⟨hc_, h⟩ | ⟨hc_, h⟩
  · refine ifT hc_ ?_
    exact h
  · refine ifF hc_ ?_
    exact h
def slices_Grow_byte_byte_n (n : Nat) (p2 : Int) : Option (List UInt8) := do
  let x4 ← (do
      if (decide (p2 < 0)) = true then (do
          none)
      else (do
          some (())) : Option Unit)
  let x7 ← (do
      if (decide ((w64 (p2 - (w64 (0 - 0)))) > 0)) = true then (do
          let _ ← req (0 < (w64 (p2 - (w64 (0 - 0)))) ∧ (w64 (p2 - (w64 (0 - 0)))) * 1 ≤ 140737488355328 ∧ (w64 (p2 - (w64 (0 - 0)))) ≤ 9223372036854775807)
          let s14 ← cutL (List.replicate (w64 (p2 - (w64 (0 - 0)))).toNat (0 : UInt8)) 0 0
          some ((List.replicate (w64 (p2 - (w64 (0 - 0)))).toNat (0 : UInt8)).take 0))
      else (do
          some ([] : List UInt8)) : Option (List UInt8))
  some x7
theorem slices_Grow_byte_byte_ns {n : Nat} {p2 : Int} {r : List UInt8} (h : slices_Grow_byte_byte_n n p2 = some r) : slices_Grow_byte_byte p2 = some r := by
  unfold slices_Grow_byte_byte_n at h
  unfold slices_Grow_byte_byte
  obtain ⟨x4, h_x4, h⟩ := bindO h
  refine bindI (a := x4) ?_ ?_
  ·
    rcases ifB h_x4 with ⟨hc_, h_x4⟩ | ⟨hc_, h_x4⟩
    · refine ifT hc_ ?_
      exact h_x4
    · refine ifF hc_ ?_
      exact h_x4
  ·
    obtain ⟨x7, h_x7, h⟩ := bindO h
    refine bindI (a := x7) ?_ ?_
    ·
      rcases ifB h_x7 with ⟨hc_, h_x7⟩ | ⟨hc_, h_x7⟩
      · refine ifT hc_ ?_
        obtain ⟨u_, hu_, h_x7⟩ := bindO h_x7
        refine bindI hu_ ?_
        obtain ⟨s14, h_s14, h_x7⟩ := bindO h_x7
        refine bindI h_s14 ?_
        exact h_x7
      · refine ifF hc_ ?_
        exact h_x7
    ·
      exact h
def slices_Concat_byte_byte_l1_n (n : Nat) (p1 : List (List UInt8)) (x9 : Int) (x10 : Int) : Option Int :=
  match n with
  | 0 => none
  | n + 1 => do
    if (decide (x9 < ((p1.length : Int)))) = true then (do
        let x15 ← (do
            let e17 ← ix p1 x9
            if (decide ((w64 (x10 + ((e17.length : Int)))) < 0)) = true then (do
                none)
            else (do
                some (w64 (x10 + ((e17.length : Int))))) : Option Int)
        slices_Concat_byte_byte_l1_n n p1 (w64 (x9 + 1)) x15)
    else (do
        some x10)
theorem slices_Concat_byte_byte_l1_nr : ∀ (n : Nat) (p1 : List (List UInt8)) (x9 : Int) (x10 : Int) (r : Int), slices_Concat_byte_byte_l1_n n p1 x9 x10 = some r → slices_Concat_byte_byte_l1 p1 x9 x10 = some r := by
  intro n
  induction n with
  | zero => intro p1 x9 x10 r h; cases h
  | succ n ih =>
    intro p1 x9 x10 r h
    rw [slices_Concat_byte_byte_l1_n] at h
    rw [slices_Concat_byte_byte_l1]
    rcases ifB h with ⟨hc_, h⟩ | ⟨hc_, h⟩
    · refine ifT hc_ ?_
      obtain ⟨x15, h_x15, h⟩ := bindO h
      refine bindI (a := x15) ?_ ?_
      ·
        obtain ⟨e17, h_e17, h_x15⟩ := bindO h_x15
        refine bindI h_e17 ?_
        rcases ifB h_x15 with ⟨hc_, h_x15⟩ | ⟨hc_, h_x15⟩
        · refine ifT hc_ ?_
          exact h_x15
        · refine ifF hc_ ?_
          exact h_x15
      ·
        exact ih _ _ _ _ h
    · refine ifF hc_ ?_
      exact h
theorem slices_Concat_byte_byte_l1_ns {n : Nat} {p1 : List (List UInt8)} {x9 : Int} {x10 : Int} {r : Int} (h : slices_Concat_byte_byte_l1_n n p1 x9 x10 = some r) : slices_Concat_byte_byte_l1 p1 x9 x10 = some r := slices_Concat_byte_byte_l1_nr n p1 x9 x10 r h
def slices_Concat_byte_byte_l2_n (n : Nat) (p1 : List (List UInt8)) (x42 : Int) (x43 : List UInt8) : Option (List UInt8) :=
  match n with
  | 0 => none
  | n + 1 => do
    if (decide (x42 < ((p1.length : Int)))) = true then (do
        let e50 ← ix p1 x42
        let _ ← req ((x43.length + e50.length) * 1 ≤ 140737488355328 ∧ x43.length + e50.length ≤ 9223372036854775807)
        slices_Concat_byte_byte_l2_n n p1 (w64 (x42 + 1)) (x43 ++ e50))
    else (do
        some x43)
theorem slices_Concat_byte_byte_l2_nr : ∀ (n : Nat) (p1 : List (List UInt8)) (x42 : Int) (x43 : List UInt8) (r : List UInt8), slices_Concat_byte_byte_l2_n n p1 x42 x43 = some r → slices_Concat_byte_byte_l2 p1 x42 x43 = some r := by
  intro n
  induction n with
  | zero => intro p1 x42 x43 r h; cases h
  | succ n ih =>
    intro p1 x42 x43 r h
    rw [slices_Concat_byte_byte_l2_n] at h
    rw [slices_Concat_byte_byte_l2]
    rcases ifB h with ⟨hc_, h⟩ | ⟨hc_, h⟩
    · refine ifT hc_ ?_
      obtain ⟨e50, h_e50, h⟩ := bindO h
      refine bindI h_e50 ?_
      obtain ⟨u_, hu_, h⟩ := bindO h
      refine bindI hu_ ?_
      exact ih _ _ _ _ h
    · refine ifF hc_ ?_
      exact h
theorem slices_Concat_byte_byte_l2_ns {n : Nat} {p1 : List (List UInt8)} {x42 : Int} {x43 : List UInt8} {r : List UInt8} (h : slices_Concat_byte_byte_l2_n n p1 x42 x43 = some r) : slices_Concat_byte_byte_l2 p1 x42 x43 = some r := slices_Concat_byte_byte_l2_nr n p1 x42 x43 r h
def slices_Concat_byte_byte_n (n : Nat) (p1 : List (List UInt8)) : Option (List UInt8) := do
  let o11 ← slices_Concat_byte_byte_l1_n n p1 0 0
  let y30 ← slices_Grow_byte_byte_n n o11
  let o45 ← slices_Concat_byte_byte_l2_n n p1 0 y30
  some o45
theorem slices_Concat_byte_byte_ns {n : Nat} {p1 : List (List UInt8)} {r : List UInt8} (h : slices_Concat_byte_byte_n n p1 = some r) : slices_Concat_byte_byte p1 = some r := by
  unfold slices_Concat_byte_byte_n at h
  unfold slices_Concat_byte_byte
  obtain ⟨o11, h_o11, h⟩ := bindO h
  refine bindI (slices_Concat_byte_byte_l1_ns h_o11) ?_
  obtain ⟨y30, h_y30, h⟩ := bindO h
  refine bindI (slices_Grow_byte_byte_ns h_y30) ?_
  obtain ⟨o45, h_o45, h⟩ := bindO h
  refine bindI (slices_Concat_byte_byte_l2_ns h_o45) ?_
  exact h
def emit_Sub_n (n : Nat) (p1 : Int) (p2 : List UInt8) : Option ((List UInt8) × (Option Nat)) := do
  let y5 ← emit_byteable_n n p1
  if (!y5) = true then (do
      some ((([] : List UInt8), (some 1 : Option Nat))))
  else (do
      if (decide (((p2.length : Int)) > 256)) = true then (do
          some ((([] : List UInt8), (some 2 : Option Nat))))
      else (do
          let y14 ← emit_Data_n n p2
          let y26 ← slices_Concat_byte_byte_n n ([[255, 250, toB p1], y14, [255, 240]])
          some ((y26, (none : Option Nat)))))
theorem emit_Sub_ns {n : Nat} {p1 : Int} {p2 : List UInt8} {r : (List UInt8) × (Option Nat)} (h : emit_Sub_n n p1 p2 = some r) : emit_Sub p1 p2 = some r := by
  unfold emit_Sub_n at h
  unfold emit_Sub
  obtain ⟨y5, h_y5, h⟩ := bindO h
  refine bindI (emit_byteable_ns h_y5) ?_
  rcases ifB h with ⟨hc_, h⟩ | ⟨hc_, h⟩
  · refine ifT hc_ ?_
    exact h
  · refine ifF hc_ ?_
    rcases ifB h with ⟨hc_, h⟩ | ⟨hc_, h⟩
    · refine ifT hc_ ?_
      exact h
    · refine ifF hc_ ?_
      obtain ⟨y14, h_y14, h⟩ := bindO h
      refine bindI (emit_Data_ns h_y14) ?_
      obtain ⟨y26, h_y26, h⟩ := bindO h
      refine bindI (slices_Concat_byte_byte_ns h_y26) ?_
      exact h
def emit_Token_n (n : Nat) (p1 : iac_Token) : Option ((List UInt8) × (Option Nat)) := do
  if (p1.f_Kind == 1) = true then (do
      let y7 ← emit_byteable_n n p1.f_Code
      if (!y7) = true then (do
          some ((([] : List UInt8), (some 1 : Option Nat))))
      else (do
          let y15 ← emit_Data_n n ([toB p1.f_Code] : List UInt8)
          some ((y15, (none : Option Nat)))))
  else (do
      if (p1.f_Kind == 2) = true then (do
          let y22 ← emit_Plain_n n p1.f_Code
          some ((y22.1, y22.2)))
      else (do
          if (p1.f_Kind == 3) = true then (do
              let y29 ← emit_Verb_n n p1.f_Code p1.f_Option
              some ((y29.1, y29.2)))
          else (do
              if (p1.f_Kind == 4) = true then (do
                  let y36 ← emit_Sub_n n p1.f_Option p1.f_Body
                  let x42 ← (do
                      if (y36.2.isNone) = true then (do
                          some p1.f_Cut)
                      else (do
                          some false) : Option Bool)
                  if (x42) = true then (do
                      some ((([] : List UInt8), (some 2 : Option Nat))))
                  else (do
                      some ((y36.1, y36.2))))
              else (do
                  some ((([] : List UInt8), (some 0 : Option Nat)))))))
theorem emit_Token_ns {n : Nat} {p1 : iac_Token} {r : (List UInt8) × (Option Nat)} (h : emit_Token_n n p1 = some r) : emit_Token p1 = some r := by
  unfold emit_Token_n at h
  unfold emit_Token
  rcases ifB h with ⟨hc_, h⟩ | ⟨hc_, h⟩
  · refine ifT hc_ ?_
    obtain ⟨y7, h_y7, h⟩ := bindO h
    refine bindI (emit_byteable_ns h_y7) ?_
    rcases ifB h with ⟨hc_, h⟩ | ⟨hc_, h⟩
    · refine ifT hc_ ?_
      exact h
    · refine ifF hc_ ?_
      obtain ⟨y15, h_y15, h⟩ := bindO h
      refine bindI (emit_Data_ns h_y15) ?_
      exact h
  · refine ifF hc_ ?_
    rcases ifB h with ⟨hc_, h⟩ | ⟨hc_, h⟩
    · refine ifT hc_ ?_
      obtain ⟨y22, h_y22, h⟩ := bindO h
      refine bindI (emit_Plain_ns h_y22) ?_
      exact h
    · refine ifF hc_ ?_
      rcases ifB h with ⟨hc_, h⟩ | ⟨hc_, h⟩
      · refine ifT hc_ ?_
        obtain ⟨y29, h_y29, h⟩ := bindO h
        refine bindI (emit_Verb_ns h_y29) ?_
        exact h
      · refine ifF hc_ ?_
        rcases ifB h with ⟨hc_, h⟩ | ⟨hc_, h⟩
        · refine ifT hc_ ?_
          obtain ⟨y36, h_y36, h⟩ := bindO h
          refine bindI (emit_Sub_ns h_y36) ?_
          obtain ⟨x42, h_x42, h⟩ := bindO h
          refine bindI (a := x42) ?_ ?_
          ·
            rcases ifB h_x42 with ⟨hc_, h_x42⟩ | ⟨hc_, h_x42⟩
            · refine ifT hc_ ?_
              exact h_x42
            · refine ifF hc_ ?_
              exact h_x42
          ·
            rcases ifB h with ⟨hc_, h⟩ | ⟨hc_, h⟩
            · refine ifT hc_ ?_
              exact h
            · refine ifF hc_ ?_
              exact h
        · refine ifF hc_ ?_
          exact h
def emit_All_l1_n (n : Nat) (p1 : List iac_Token) (x11 : Int) (x12 : List UInt8) : Option (Sum (List UInt8) ((Option Nat) × (List UInt8))) :=
  match n with
  | 0 => none
  | n + 1 => do
    if (decide (x11 < ((p1.length : Int)))) = true then (do
        let e23 ← ix p1 x11
        let y37 ← emit_Token_n n e23
        if (y37.2.isSome) = true then (do
            some (Sum.inr ((y37.2, x12))))
        else (do
            let _ ← req ((x12.length + y37.1.length) * 1 ≤ 140737488355328 ∧ x12.length + y37.1.length ≤ 9223372036854775807)
            emit_All_l1_n n p1 (w64 (x11 + 1)) (x12 ++ y37.1)))
    else (do
        some (Sum.inl x12))
theorem emit_All_l1_nr : ∀ (n : Nat) (p1 : List iac_Token) (x11 : Int) (x12 : List UInt8) (r : Sum (List UInt8) ((Option Nat) × (List UInt8))), emit_All_l1_n n p1 x11 x12 = some r → emit_All_l1 p1 x11 x12 = some r := by
  intro n
  induction n with
  | zero => intro p1 x11 x12 r h; cases h
  | succ n ih =>
    intro p1 x11 x12 r h
    rw [emit_All_l1_n] at h
    rw [emit_All_l1]
    rcases ifB h with ⟨hc_, h⟩ | ⟨hc_, h⟩
    · refine ifT hc_ ?_
      obtain ⟨e23, h_e23, h⟩ := bindO h
      refine bindI h_e23 ?_
      obtain ⟨y37, h_y37, h⟩ := bindO h
      refine bindI (emit_Token_ns h_y37) ?_
      rcases ifB h with ⟨hc_, h⟩ | ⟨hc_, h⟩
      · refine ifT hc_ ?_
        exact h
      · refine ifF hc_ ?_
        obtain ⟨u_, hu_, h⟩ := bindO h
        refine bindI hu_ ?_
        exact ih _ _ _ _ h
    · refine ifF hc_ ?_
      exact h
theorem emit_All_l1_ns {n : Nat} {p1 : List iac_Token} {x11 : Int} {x12 : List UInt8} {r : Sum (List UInt8) ((Option Nat) × (List UInt8))} (h : emit_All_l1_n n p1 x11 x12 = some r) : emit_All_l1 p1 x11 x12 = some r := emit_All_l1_nr n p1 x11 x12 r h
def emit_All_n (n : Nat) (p1 : List iac_Token) : Option ((List UInt8) × (Option Nat)) := do
  let o14 ← emit_All_l1_n n p1 0 ([] : List UInt8)
  match o14 with
  | Sum.inl x17 => do
      some ((x17, (none : Option Nat)))
  | Sum.inr x20 => do
      some ((([] : List UInt8), x20.1))
theorem emit_All_ns {n : Nat} {p1 : List iac_Token} {r : (List UInt8) × (Option Nat)} (h : emit_All_n n p1 = some r) : emit_All p1 = some r := by
  unfold emit_All_n at h
  unfold emit_All
  obtain ⟨o14, h_o14, h⟩ := bindO h
  refine bindI (emit_All_l1_ns h_o14) ?_
  rcases o14 with x_ | x_
  ·
    dsimp only at h ⊢
    exact h
  ·
    dsimp only at h ⊢
    exact h
def iac_Same_n (n : Nat) (p1 : iac_Token) (p4 : iac_Token) : Option Bool := do
  let x11 ← (do
      if (p1.f_Kind == p4.f_Kind) = true then (do
          some (p1.f_Code == p4.f_Code))
      else (do
          some false) : Option Bool)
  let x14 ← (do
      if (x11) = true then (do
          some (p1.f_Option == p4.f_Option))
      else (do
          some false) : Option Bool)
  let x17 ← (do
      if (x14) = true then (do
          some (p1.f_Cut == p4.f_Cut))
      else (do
          some false) : Option Bool)
  let x21 ← (do
      if (x17) = true then (do
          let y24 ← bytes_Equal_n n p1.f_Body p4.f_Body
          some y24)
      else (do
          some false) : Option Bool)
  some x21
theorem iac_Same_ns {n : Nat} {p1 : iac_Token} {p4 : iac_Token} {r : Bool} (h : iac_Same_n n p1 p4 = some r) : iac_Same p1 p4 = some r := by
  unfold iac_Same_n at h
  unfold iac_Same
  obtain ⟨x11, h_x11, h⟩ := bindO h
  refine bindI (a := x11) ?_ ?_
  ·
    rcases ifB h_x11 with ⟨hc_, h_x11⟩ | ⟨hc_, h_x11⟩
    · refine ifT hc_ ?_
      exact h_x11
    · refine ifF hc_ ?_
      exact h_x11
  ·
    obtain ⟨x14, h_x14, h⟩ := bindO h
    refine bindI (a := x14) ?_ ?_
    ·
      rcases ifB h_x14 with ⟨hc_, h_x14⟩ | ⟨hc_, h_x14⟩
      · refine ifT hc_ ?_
        exact h_x14
      · refine ifF hc_ ?_
        exact h_x14
    ·
      obtain ⟨x17, h_x17, h⟩ := bindO h
      refine bindI (a := x17) ?_ ?_
      ·
        rcases ifB h_x17 with ⟨hc_, h_x17⟩ | ⟨hc_, h_x17⟩
        · refine ifT hc_ ?_
          exact h_x17
        · refine ifF hc_ ?_
          exact h_x17
      ·
        obtain ⟨x21, h_x21, h⟩ := bindO h
        refine bindI (a := x21) ?_ ?_
        ·
          rcases ifB h_x21 with ⟨hc_, h_x21⟩ | ⟨hc_, h_x21⟩
          · refine ifT hc_ ?_
            obtain ⟨y24, h_y24, h_x21⟩ := bindO h_x21
            refine bindI (bytes_Equal_ns h_y24) ?_
            exact h_x21
          · refine ifF hc_ ?_
            exact h_x21
        ·
          exact h
def Law_back_l1_n (n : Nat) (p1 : List iac_Token) (y11 : (List iac_Token) × Bool) (x25 : Int) : Option (Sum Unit Unit) :=
  match n with
  | 0 => none
  | n + 1 => do
    if (decide (x25 < ((p1.length : Int)))) = true then (do
        let k34 := fun (_ : Unit) => (do
            Law_back_l1_n n p1 y11 (w64 (x25 + 1)))
        let e36 ← ix p1 x25
        let x52 ← (do
            if (e36.f_Kind != 4) = true then (do
                some e36.f_Code)
            else (do
                some 0) : Option Int)
        let x55 ← (do
            let x57 ← (do
                if (e36.f_Kind == 3) = true then (do
                    some true)
                else (do
                    some (e36.f_Kind == 4)) : Option Bool)
            if (x57) = true then (do
                some e36.f_Option)
            else (do
                some 0) : Option Int)
        let x61 ← (do
            if (e36.f_Kind == 4) = true then (do
                some e36.f_Body)
            else (do
                some ([] : List UInt8)) : Option (List UInt8))
        let e66 ← ix y11.1 x25
        let y78 ← iac_Same_n n e66 ((⟨e36.f_Kind, x52, x55, x61, false⟩ : iac_Token))
        if (!y78) = true then (do
            some (Sum.inr (())))
        else (do
            k34 ()))
    else (do
        some (Sum.inl (())))
theorem Law_back_l1_nr : ∀ (n : Nat) (p1 : List iac_Token) (y11 : (List iac_Token) × Bool) (x25 : Int) (r : Sum Unit Unit), Law_back_l1_n n p1 y11 x25 = some r → Law_back_l1 p1 y11 x25 = some r := by
  intro n
  induction n with
  | zero => intro p1 y11 x25 r h; cases h
  | succ n ih =>
    intro p1 y11 x25 r h
    rw [Law_back_l1_n] at h
    rw [Law_back_l1]
    rcases ifB h with ⟨hc_, h⟩ | ⟨hc_, h⟩
    · refine ifT hc_ ?_
      obtain ⟨e36, h_e36, h⟩ := bindO h
      refine bindI h_e36 ?_
      obtain ⟨x52, h_x52, h⟩ := bindO h
      refine bindI (a := x52) ?_ ?_
      ·
        rcases ifB h_x52 with ⟨hc_, h_x52⟩ | ⟨hc_, h_x52⟩
        · refine ifT hc_ ?_
          exact h_x52
        · refine ifF hc_ ?_
          exact h_x52
      ·
        obtain ⟨x55, h_x55, h⟩ := bindO h
        refine bindI (a := x55) ?_ ?_
        ·
          obtain ⟨x57, h_x57, h_x55⟩ := bindO h_x55
          refine bindI (a := x57) ?_ ?_
          ·
            rcases ifB h_x57 with ⟨hc_, h_x57⟩ | ⟨hc_, h_x57⟩
            · refine ifT hc_ ?_
              exact h_x57
            · refine ifF hc_ ?_
              exact h_x57
          ·
            rcases ifB h_x55 with ⟨hc_, h_x55⟩ | ⟨hc_, h_x55⟩
            · refine ifT hc_ ?_
              exact h_x55
            · refine ifF hc_ ?_
              exact h_x55
        ·
          obtain ⟨x61, h_x61, h⟩ := bindO h
          refine bindI (a := x61) ?_ ?_
          ·
            rcases ifB h_x61 with ⟨hc_, h_x61⟩ | ⟨hc_, h_x61⟩
            · refine ifT hc_ ?_
              exact h_x61
            · refine ifF hc_ ?_
              exact h_x61
          ·
            obtain ⟨e66, h_e66, h⟩ := bindO h
            refine bindI h_e66 ?_
            obtain ⟨y78, h_y78, h⟩ := bindO h
            refine bindI (iac_Same_ns h_y78) ?_
            rcases ifB h with ⟨hc_, h⟩ | ⟨hc_, h⟩
            · refine ifT hc_ ?_
              exact h
            · refine ifF hc_ ?_
              try dsimp only at h ⊢
              exact ih _ _ _ _ h
    · refine ifF hc_ ?_
      exact h
theorem Law_back_l1_ns {n : Nat} {p1 : List iac_Token} {y11 : (List iac_Token) × Bool} {x25 : Int} {r : Sum Unit Unit} (h : Law_back_l1_n n p1 y11 x25 = some r) : Law_back_l1 p1 y11 x25 = some r := Law_back_l1_nr n p1 y11 x25 r h
def Law_back_n (n : Nat) (p1 : List iac_Token) : Option Bool := do
  let y4 ← emit_All_n n p1
  if (y4.2.isSome) = true then (do
      some (((y4.1.length : Int)) == 0))
  else (do
      let y11 ← iac_All_n n y4.1
      let x17 ← (do
          if (!y11.2) = true then (do
              some true)
          else (do
              some (((y11.1.length : Int)) != ((p1.length : Int)))) : Option Bool)
      if (x17) = true then (do
          some false)
      else (do
          let o26 ← Law_back_l1_n n p1 y11 0
          match o26 with
          | Sum.inl x29 => do
              some true
          | Sum.inr x31 => do
              some false))
theorem Law_back_ns {n : Nat} {p1 : List iac_Token} {r : Bool} (h : Law_back_n n p1 = some r) : Law_back p1 = some r := by
  unfold Law_back_n at h
  unfold Law_back
  obtain ⟨y4, h_y4, h⟩ := bindO h
  refine bindI (emit_All_ns h_y4) ?_
  rcases ifB h with ⟨hc_, h⟩ | ⟨hc_, h⟩
  · refine ifT hc_ ?_
    exact h
  · refine ifF hc_ ?_
    obtain ⟨y11, h_y11, h⟩ := bindO h
    refine bindI (iac_All_ns h_y11) ?_
    obtain ⟨x17, h_x17, h⟩ := bindO h
    refine bindI (a := x17) ?_ ?_
    ·
      rcases ifB h_x17 with ⟨hc_, h_x17⟩ | ⟨hc_, h_x17⟩
      · refine ifT hc_ ?_
        exact h_x17
      · refine ifF hc_ ?_
        exact h_x17
    ·
      rcases ifB h with ⟨hc_, h⟩ | ⟨hc_, h⟩
      · refine ifT hc_ ?_
        exact h
      · refine ifF hc_ ?_
        obtain ⟨o26, h_o26, h⟩ := bindO h
        refine bindI (Law_back_l1_ns h_o26) ?_
        rcases o26 with x_ | x_
        ·
          dsimp only at h ⊢
          exact h
        ·
          dsimp only at h ⊢
          exact h
def Law_EmitBack_l1_n (n : Nat) (p1 : List iac_Token) (x20 : Int) : Option (Sum Unit Unit) :=
  match n with
  | 0 => none
  | n + 1 => do
    if (decide (x20 < ((p1.length : Int)))) = true then (do
        let e28 ← ix p1 x20
        if (decide (((e28.f_Body.length : Int)) > 400)) = true then (do
            some (Sum.inr (())))
        else (do
            Law_EmitBack_l1_n n p1 (w64 (x20 + 1))))
    else (do
        some (Sum.inl (())))
theorem Law_EmitBack_l1_nr : ∀ (n : Nat) (p1 : List iac_Token) (x20 : Int) (r : Sum Unit Unit), Law_EmitBack_l1_n n p1 x20 = some r → Law_EmitBack_l1 p1 x20 = some r := by
  intro n
  induction n with
  | zero => intro p1 x20 r h; cases h
  | succ n ih =>
    intro p1 x20 r h
    rw [Law_EmitBack_l1_n] at h
    rw [Law_EmitBack_l1]
    rcases ifB h with ⟨hc_, h⟩ | ⟨hc_, h⟩
    · refine ifT hc_ ?_
      obtain ⟨e28, h_e28, h⟩ := bindO h
      refine bindI h_e28 ?_
      rcases ifB h with ⟨hc_, h⟩ | ⟨hc_, h⟩
      · refine ifT hc_ ?_
        exact h
      · refine ifF hc_ ?_
        exact ih _ _ _ h
    · refine ifF hc_ ?_
      exact h
theorem Law_EmitBack_l1_ns {n : Nat} {p1 : List iac_Token} {x20 : Int} {r : Sum Unit Unit} (h : Law_EmitBack_l1_n n p1 x20 = some r) : Law_EmitBack_l1 p1 x20 = some r := Law_EmitBack_l1_nr n p1 x20 r h
def Law_EmitBack_n (n : Nat) (p1 : List iac_Token) (p4 : List UInt8) : Option Bool := do
  let y7 ← Law_alive_n n
  if (!y7) = true then (do
      some false)
  else (do
      let x12 ← (do
          if (decide (((p1.length : Int)) > 30)) = true then (do
              some true)
          else (do
              some (decide (((p4.length : Int)) > 600))) : Option Bool)
      if (x12) = true then (do
          some true)
      else (do
          let o21 ← Law_EmitBack_l1_n n p1 0
          match o21 with
          | Sum.inl x24 => do
              let y43 ← iac_All_n n p4
              let y49 ← Law_back_n n p1
              let x54 ← (do
                  if (y49) = true then (do
                      let y57 ← Law_back_n n y43.1
                      some y57)
                  else (do
                      some false) : Option Bool)
              some x54
          | Sum.inr x26 => do
              some true))
theorem Law_EmitBack_ns {n : Nat} {p1 : List iac_Token} {p4 : List UInt8} {r : Bool} (h : Law_EmitBack_n n p1 p4 = some r) : Law_EmitBack p1 p4 = some r := by
  unfold Law_EmitBack_n at h
  unfold Law_EmitBack
  obtain ⟨y7, h_y7, h⟩ := bindO h
  refine bindI (Law_alive_ns h_y7) ?_
  rcases ifB h with ⟨hc_, h⟩ | ⟨hc_, h⟩
  · refine ifT hc_ ?_
    exact h
  · refine ifF hc_ ?_
    obtain ⟨x12, h_x12, h⟩ := bindO h
    refine bindI (a := x12) ?_ ?_
    ·
      rcases ifB h_x12 with ⟨hc_, h_x12⟩ | ⟨hc_, h_x12⟩
      · refine ifT hc_ ?_
        exact h_x12
      · refine ifF hc_ ?_
        exact h_x12
    ·
      rcases ifB h with ⟨hc_, h⟩ | ⟨hc_, h⟩
      · refine ifT hc_ ?_
        exact h
      · refine ifF hc_ ?_
        obtain ⟨o21, h_o21, h⟩ := bindO h
        refine bindI (Law_EmitBack_l1_ns h_o21) ?_
        rcases o21 with x_ | x_
        ·
          dsimp only at h ⊢
          obtain ⟨y43, h_y43, h⟩ := bindO h
          refine bindI (iac_All_ns h_y43) ?_
          obtain ⟨y49, h_y49, h⟩ := bindO h
          refine bindI (Law_back_ns h_y49) ?_
          obtain ⟨x54, h_x54, h⟩ := bindO h
          refine bindI (a := x54) ?_ ?_
          ·
            rcases ifB h_x54 with ⟨hc_, h_x54⟩ | ⟨hc_, h_x54⟩
            · refine ifT hc_ ?_
              obtain ⟨y57, h_y57, h_x54⟩ := bindO h_x54
              refine bindI (Law_back_ns h_y57) ?_
              exact h_x54
            · refine ifF hc_ ?_
              exact h_x54
          ·
            exact h
        ·
          dsimp only at h ⊢
          exact h
end Go.Proofs.YtboggehfnokmfaaDoor
