/-
  What the code computes: plain functions, and the walks.: the same functions with fuel, for closed evaluation.
-/
import Derived.Test.YtekcconmnhjhiaaDoorAD
set_option linter.unusedVariables false
set_option linter.unusedSimpArgs false
set_option maxRecDepth 10000
set_option maxHeartbeats 1000000
namespace Go.Proofs.YtekcconmnhjhiaaDoor
open Go Go.RowKit Sl

def W_reader_ends_n (n : Nat) (p1 : W_reader) : Option (Bool × W_reader) := do
  some ((decide (p1.f_at ≥ ((p1.f_s.length : Int))), (⟨p1.f_s, p1.f_at⟩ : W_reader)))
theorem W_reader_ends_ns {n : Nat} {p1 : W_reader} {r : Bool × W_reader} (h : W_reader_ends_n n p1 = some r) : W_reader_ends p1 = some r := by
  unfold W_reader_ends_n at h
  unfold W_reader_ends
  exact h
def W_reader_while_l1_n (n : Nat) (p3 : UInt8 → Option Bool) (x11 : List UInt8) (x12 : Int) : Option ((List UInt8) × Int) :=
  match n with
  | 0 => none
  | n + 1 => do
    let k17 := fun (x18 : List UInt8) (x19 : Int) => (do
        W_reader_while_l1_n n p3 x18 (w64 (x19 + 1)))
    let x22 ← (do
        let y24 ← W_reader_ends_n n ((⟨x11, x12⟩ : W_reader))
        if (!y24.1) = true then (do
            let c29 ← ix y24.2.f_s y24.2.f_at
            let y31 ← p3 c29
            some ((y31, y24.2.f_s, y24.2.f_at)))
        else (do
            some ((false, y24.2.f_s, y24.2.f_at))) : Option (Bool × (List UInt8) × Int))
    if (x22.1) = true then (do
        k17 x22.2.1 x22.2.2)
    else (do
        some ((x22.2.1, x22.2.2)))
theorem W_reader_while_l1_nr {p3 p3' : UInt8 → Option Bool} (hp_p3 : ∀ x r, p3' x = some r → p3 x = some r) : ∀ (n : Nat) (x11 : List UInt8) (x12 : Int) (r : (List UInt8) × Int), W_reader_while_l1_n n p3' x11 x12 = some r → W_reader_while_l1 p3 x11 x12 = some r := by
  intro n
  induction n with
  | zero => intro x11 x12 r h; cases h
  | succ n ih =>
    intro x11 x12 r h
    rw [W_reader_while_l1_n] at h
    rw [W_reader_while_l1]
    obtain ⟨x22, h_x22, h⟩ := bindO h
    refine bindI (a := x22) ?_ ?_
    ·
      obtain ⟨y24, h_y24, h_x22⟩ := bindO h_x22
      refine bindI (W_reader_ends_ns h_y24) ?_
      rcases ifB h_x22 with ⟨hc_, h_x22⟩ | ⟨hc_, h_x22⟩
      · refine ifT hc_ ?_
        obtain ⟨c29, h_c29, h_x22⟩ := bindO h_x22
        refine bindI h_c29 ?_
        obtain ⟨y31, h_y31, h_x22⟩ := bindO h_x22
        refine bindI (hp_p3 _ _ h_y31) ?_
        exact h_x22
      · refine ifF hc_ ?_
        exact h_x22
    ·
      rcases ifB h with ⟨hc_, h⟩ | ⟨hc_, h⟩
      · refine ifT hc_ ?_
        try dsimp only at h ⊢
        exact ih _ _ _ h
      · refine ifF hc_ ?_
        exact h
theorem W_reader_while_l1_ns {n : Nat} {p3 p3' : UInt8 → Option Bool} (hp_p3 : ∀ x r, p3' x = some r → p3 x = some r) {x11 : List UInt8} {x12 : Int} {r : (List UInt8) × Int} (h : W_reader_while_l1_n n p3' x11 x12 = some r) : W_reader_while_l1 p3 x11 x12 = some r := W_reader_while_l1_nr hp_p3 n x11 x12 r h
def W_reader_while_n (n : Nat) (p1 : W_reader) (p3 : UInt8 → Option Bool) : Option ((List UInt8) × W_reader) := do
  let o13 ← W_reader_while_l1_n n p3 p1.f_s p1.f_at
  let s45 ← cutL o13.1 p1.f_at o13.2
  some ((s45, (⟨o13.1, o13.2⟩ : W_reader)))
theorem W_reader_while_ns {n : Nat} {p3 p3' : UInt8 → Option Bool} (hp_p3 : ∀ x r, p3' x = some r → p3 x = some r) {p1 : W_reader} {r : (List UInt8) × W_reader} (h : W_reader_while_n n p1 p3' = some r) : W_reader_while p1 p3 = some r := by
  unfold W_reader_while_n at h
  unfold W_reader_while
  obtain ⟨o13, h_o13, h⟩ := bindO h
  refine bindI (W_reader_while_l1_ns hp_p3 h_o13) ?_
  obtain ⟨s45, h_s45, h⟩ := bindO h
  refine bindI h_s45 ?_
  exact h
def W_reader_skip_1_n (n : Nat) (p1 : UInt8) : Option Bool := do
  let x2 ← (do
      if (p1 == 32) = true then (do
          some true)
      else (do
          some (p1 == 9)) : Option Bool)
  let x5 ← (do
      if (x2) = true then (do
          some true)
      else (do
          some (p1 == 13)) : Option Bool)
  some x5
theorem W_reader_skip_1_ns {n : Nat} {p1 : UInt8} {r : Bool} (h : W_reader_skip_1_n n p1 = some r) : W_reader_skip_1 p1 = some r := by
  unfold W_reader_skip_1_n at h
  unfold W_reader_skip_1
  obtain ⟨x2, h_x2, h⟩ := bindO h
  refine bindI (a := x2) ?_ ?_
  ·
    rcases ifB h_x2 with ⟨hc_, h_x2⟩ | ⟨hc_, h_x2⟩
    · refine ifT hc_ ?_
      exact h_x2
    · refine ifF hc_ ?_
      exact h_x2
  ·
    obtain ⟨x5, h_x5, h⟩ := bindO h
    refine bindI (a := x5) ?_ ?_
    ·
      rcases ifB h_x5 with ⟨hc_, h_x5⟩ | ⟨hc_, h_x5⟩
      · refine ifT hc_ ?_
        exact h_x5
      · refine ifF hc_ ?_
        exact h_x5
    ·
      exact h
def W_reader_peek_n (n : Nat) (p1 : W_reader) (p3 : Int) : Option (UInt8 × W_reader) := do
  if (decide ((w64 (p1.f_at + p3)) ≥ ((p1.f_s.length : Int)))) = true then (do
      some ((0, (⟨p1.f_s, p1.f_at⟩ : W_reader))))
  else (do
      let c5 ← ix p1.f_s (w64 (p1.f_at + p3))
      some ((c5, (⟨p1.f_s, p1.f_at⟩ : W_reader))))
theorem W_reader_peek_ns {n : Nat} {p1 : W_reader} {p3 : Int} {r : UInt8 × W_reader} (h : W_reader_peek_n n p1 p3 = some r) : W_reader_peek p1 p3 = some r := by
  unfold W_reader_peek_n at h
  unfold W_reader_peek
  rcases ifB h with ⟨hc_, h⟩ | ⟨hc_, h⟩
  · refine ifT hc_ ?_
    exact h
  · refine ifF hc_ ?_
    obtain ⟨c5, h_c5, h⟩ := bindO h
    refine bindI h_c5 ?_
    exact h
def W_reader_skip_2_n (n : Nat) (p1 : UInt8) : Option Bool := do
  some (p1 != 10)
theorem W_reader_skip_2_ns {n : Nat} {p1 : UInt8} {r : Bool} (h : W_reader_skip_2_n n p1 = some r) : W_reader_skip_2 p1 = some r := by
  unfold W_reader_skip_2_n at h
  unfold W_reader_skip_2
  exact h
def W_reader_skip_l1_n (n : Nat) (x8 : List UInt8) (x9 : Int) : Option ((List UInt8) × Int) :=
  match n with
  | 0 => none
  | n + 1 => do
    let y13 ← W_reader_while_n n ((⟨x8, x9⟩ : W_reader)) (W_reader_skip_1_n n)
    let y17 ← W_reader_peek_n n ((⟨y13.2.f_s, y13.2.f_at⟩ : W_reader)) 0
    if (y17.1 == 35) = true then (do
        let y22 ← W_reader_while_n n ((⟨y17.2.f_s, y17.2.f_at⟩ : W_reader)) (W_reader_skip_2_n n)
        W_reader_skip_l1_n n y22.2.f_s y22.2.f_at)
    else (do
        some ((y17.2.f_s, y17.2.f_at)))
theorem W_reader_skip_l1_nr : ∀ (n : Nat) (x8 : List UInt8) (x9 : Int) (r : (List UInt8) × Int), W_reader_skip_l1_n n x8 x9 = some r → W_reader_skip_l1 x8 x9 = some r := by
  intro n
  induction n with
  | zero => intro x8 x9 r h; cases h
  | succ n ih =>
    intro x8 x9 r h
    rw [W_reader_skip_l1_n] at h
    rw [W_reader_skip_l1]
    obtain ⟨y13, h_y13, h⟩ := bindO h
    refine bindI (W_reader_while_ns (fun _ _ hx_ => W_reader_skip_1_ns hx_) h_y13) ?_
    obtain ⟨y17, h_y17, h⟩ := bindO h
    refine bindI (W_reader_peek_ns h_y17) ?_
    rcases ifB h with ⟨hc_, h⟩ | ⟨hc_, h⟩
    · refine ifT hc_ ?_
      obtain ⟨y22, h_y22, h⟩ := bindO h
      refine bindI (W_reader_while_ns (fun _ _ hx_ => W_reader_skip_2_ns hx_) h_y22) ?_
      exact ih _ _ _ h
    · refine ifF hc_ ?_
      exact h
theorem W_reader_skip_l1_ns {n : Nat} {x8 : List UInt8} {x9 : Int} {r : (List UInt8) × Int} (h : W_reader_skip_l1_n n x8 x9 = some r) : W_reader_skip_l1 x8 x9 = some r := W_reader_skip_l1_nr n x8 x9 r h
def W_reader_skip_n (n : Nat) (p1 : W_reader) : Option W_reader := do
  let o10 ← W_reader_skip_l1_n n p1.f_s p1.f_at
  some ((⟨o10.1, o10.2⟩ : W_reader))
theorem W_reader_skip_ns {n : Nat} {p1 : W_reader} {r : W_reader} (h : W_reader_skip_n n p1 = some r) : W_reader_skip p1 = some r := by
  unfold W_reader_skip_n at h
  unfold W_reader_skip
  obtain ⟨o10, h_o10, h⟩ := bindO h
  refine bindI (W_reader_skip_l1_ns h_o10) ?_
  exact h
def W_begins_n (n : Nat) (p1 : UInt8) : Option Bool := do
  let x2 ← (do
      if (decide (97 ≤ p1)) = true then (do
          some (decide (p1 ≤ 122)))
      else (do
          some false) : Option Bool)
  let x5 ← (do
      if (x2) = true then (do
          some true)
      else (do
          let x8 ← (do
              if (decide (65 ≤ p1)) = true then (do
                  some (decide (p1 ≤ 90)))
              else (do
                  some false) : Option Bool)
          some x8) : Option Bool)
  let x11 ← (do
      if (x5) = true then (do
          some true)
      else (do
          some (p1 == 95)) : Option Bool)
  some x11
theorem W_begins_ns {n : Nat} {p1 : UInt8} {r : Bool} (h : W_begins_n n p1 = some r) : W_begins p1 = some r := by
  unfold W_begins_n at h
  unfold W_begins
  obtain ⟨x2, h_x2, h⟩ := bindO h
  refine bindI (a := x2) ?_ ?_
  ·
    rcases ifB h_x2 with ⟨hc_, h_x2⟩ | ⟨hc_, h_x2⟩
    · refine ifT hc_ ?_
      exact h_x2
    · refine ifF hc_ ?_
      exact h_x2
  ·
    obtain ⟨x5, h_x5, h⟩ := bindO h
    refine bindI (a := x5) ?_ ?_
    ·
      rcases ifB h_x5 with ⟨hc_, h_x5⟩ | ⟨hc_, h_x5⟩
      · refine ifT hc_ ?_
        exact h_x5
      · refine ifF hc_ ?_
        obtain ⟨x8, h_x8, h_x5⟩ := bindO h_x5
        refine bindI (a := x8) ?_ ?_
        ·
          rcases ifB h_x8 with ⟨hc_, h_x8⟩ | ⟨hc_, h_x8⟩
          · refine ifT hc_ ?_
            exact h_x8
          · refine ifF hc_ ?_
            exact h_x8
        ·
          exact h_x5
    ·
      obtain ⟨x11, h_x11, h⟩ := bindO h
      refine bindI (a := x11) ?_ ?_
      ·
        rcases ifB h_x11 with ⟨hc_, h_x11⟩ | ⟨hc_, h_x11⟩
        · refine ifT hc_ ?_
          exact h_x11
        · refine ifF hc_ ?_
          exact h_x11
      ·
        exact h
def W_figure_n (n : Nat) (p1 : UInt8) : Option Bool := do
  let x2 ← (do
      if (decide (48 ≤ p1)) = true then (do
          some (decide (p1 ≤ 57)))
      else (do
          some false) : Option Bool)
  some x2
theorem W_figure_ns {n : Nat} {p1 : UInt8} {r : Bool} (h : W_figure_n n p1 = some r) : W_figure p1 = some r := by
  unfold W_figure_n at h
  unfold W_figure
  obtain ⟨x2, h_x2, h⟩ := bindO h
  refine bindI (a := x2) ?_ ?_
  ·
    rcases ifB h_x2 with ⟨hc_, h_x2⟩ | ⟨hc_, h_x2⟩
    · refine ifT hc_ ?_
      exact h_x2
    · refine ifF hc_ ?_
      exact h_x2
  ·
    exact h
def W_goes_n (n : Nat) (p1 : UInt8) : Option Bool := do
  let y2 ← W_begins_n n p1
  let x7 ← (do
      if (y2) = true then (do
          some true)
      else (do
          let y10 ← W_figure_n n p1
          some y10) : Option Bool)
  some x7
theorem W_goes_ns {n : Nat} {p1 : UInt8} {r : Bool} (h : W_goes_n n p1 = some r) : W_goes p1 = some r := by
  unfold W_goes_n at h
  unfold W_goes
  obtain ⟨y2, h_y2, h⟩ := bindO h
  refine bindI (W_begins_ns h_y2) ?_
  obtain ⟨x7, h_x7, h⟩ := bindO h
  refine bindI (a := x7) ?_ ?_
  ·
    rcases ifB h_x7 with ⟨hc_, h_x7⟩ | ⟨hc_, h_x7⟩
    · refine ifT hc_ ?_
      exact h_x7
    · refine ifF hc_ ?_
      obtain ⟨y10, h_y10, h_x7⟩ := bindO h_x7
      refine bindI (W_figure_ns h_y10) ?_
      exact h_x7
  ·
    exact h
def W_reader_name_n (n : Nat) (p1 : W_reader) : Option (W_Token × (Option Nat) × W_reader) := do
  let y5 ← W_reader_while_n n ((⟨p1.f_s, p1.f_at⟩ : W_reader)) (W_goes_n n)
  if (decide (((y5.1.length : Int)) > 24)) = true then (do
      some (((⟨0, ([] : List UInt8), 0, ([] : List W_Piece), 0⟩ : W_Token), (some 0 : Option Nat), (⟨y5.2.f_s, y5.2.f_at⟩ : W_reader))))
  else (do
      some (((⟨1, y5.1, 0, ([] : List W_Piece), 0⟩ : W_Token), (none : Option Nat), (⟨y5.2.f_s, y5.2.f_at⟩ : W_reader))))
theorem W_reader_name_ns {n : Nat} {p1 : W_reader} {r : W_Token × (Option Nat) × W_reader} (h : W_reader_name_n n p1 = some r) : W_reader_name p1 = some r := by
  unfold W_reader_name_n at h
  unfold W_reader_name
  obtain ⟨y5, h_y5, h⟩ := bindO h
  refine bindI (W_reader_while_ns (fun _ _ hx_ => W_goes_ns hx_) h_y5) ?_
  rcases ifB h with ⟨hc_, h⟩ | ⟨hc_, h⟩
  · refine ifT hc_ ?_
    exact h
  · refine ifF hc_ ?_
    exact h
def W_reader_number_l1_n (n : Nat) (y12 : (List UInt8) × W_reader) (x53 : Int) (x54 : Int) : Option Int :=
  match n with
  | 0 => none
  | n + 1 => do
    if (decide (x53 < ((y12.1.length : Int)))) = true then (do
        let e59 ← ix y12.1 x53
        W_reader_number_l1_n n y12 (w64 (x53 + 1)) (w64 ((w64 (10 * x54)) + (b8 (e59 - 48)))))
    else (do
        some x54)
theorem W_reader_number_l1_nr : ∀ (n : Nat) (y12 : (List UInt8) × W_reader) (x53 : Int) (x54 : Int) (r : Int), W_reader_number_l1_n n y12 x53 x54 = some r → W_reader_number_l1 y12 x53 x54 = some r := by
  intro n
  induction n with
  | zero => intro y12 x53 x54 r h; cases h
  | succ n ih =>
    intro y12 x53 x54 r h
    rw [W_reader_number_l1_n] at h
    rw [W_reader_number_l1]
    rcases ifB h with ⟨hc_, h⟩ | ⟨hc_, h⟩
    · refine ifT hc_ ?_
      obtain ⟨e59, h_e59, h⟩ := bindO h
      refine bindI h_e59 ?_
      exact ih _ _ _ _ h
    · refine ifF hc_ ?_
      exact h
theorem W_reader_number_l1_ns {n : Nat} {y12 : (List UInt8) × W_reader} {x53 : Int} {x54 : Int} {r : Int} (h : W_reader_number_l1_n n y12 x53 x54 = some r) : W_reader_number_l1 y12 x53 x54 = some r := W_reader_number_l1_nr n y12 x53 x54 r h
def W_reader_number_n (n : Nat) (p1 : W_reader) : Option (W_Token × (Option Nat) × W_reader) := do
  let y5 ← W_reader_peek_n n ((⟨p1.f_s, p1.f_at⟩ : W_reader)) 0
  let x9 ← (do
      if (y5.1 == 45) = true then (do
          some (w64 (y5.2.f_at + 1)))
      else (do
          some y5.2.f_at) : Option Int)
  let y12 ← W_reader_while_n n ((⟨y5.2.f_s, x9⟩ : W_reader)) (W_figure_n n)
  if (decide (((y12.1.length : Int)) > 9)) = true then (do
      some (((⟨0, ([] : List UInt8), 0, ([] : List W_Piece), 0⟩ : W_Token), (some 0 : Option Nat), (⟨y12.2.f_s, y12.2.f_at⟩ : W_reader))))
  else (do
      let x17 ← (do
          if (y12.1 == ([] : List UInt8)) = true then (do
              some true)
          else (do
              let x20 ← (do
                  if (decide (((y12.1.length : Int)) > 1)) = true then (do
                      let c23 ← ix y12.1 0
                      some (c23 == 48))
                  else (do
                      some false) : Option Bool)
              some x20) : Option Bool)
      let x25 ← (do
          if (x17) = true then (do
              some true)
          else (do
              let x28 ← (do
                  if (y5.1 == 45) = true then (do
                      some (y12.1 == ([48] : List UInt8)))
                  else (do
                      some false) : Option Bool)
              some x28) : Option Bool)
      let x32 ← (do
          if (x25) = true then (do
              some ((true, y12.2.f_s, y12.2.f_at)))
          else (do
              let y35 ← W_reader_peek_n n ((⟨y12.2.f_s, y12.2.f_at⟩ : W_reader)) 0
              let y39 ← W_goes_n n y35.1
              some ((y39, y35.2.f_s, y35.2.f_at))) : Option (Bool × (List UInt8) × Int))
      if (x32.1) = true then (do
          some (((⟨0, ([] : List UInt8), 0, ([] : List W_Piece), 0⟩ : W_Token), (some 1 : Option Nat), (⟨x32.2.1, x32.2.2⟩ : W_reader))))
      else (do
          let _ ← req (y12.1.length ≤ 9223372036854775807)
          let o55 ← W_reader_number_l1_n n y12 0 0
          let x69 ← (do
              if (y5.1 == 45) = true then (do
                  some (w64 (0 - o55)))
              else (do
                  some o55) : Option Int)
          some (((⟨2, ([] : List UInt8), x69, ([] : List W_Piece), 0⟩ : W_Token), (none : Option Nat), (⟨x32.2.1, x32.2.2⟩ : W_reader)))))
theorem W_reader_number_ns {n : Nat} {p1 : W_reader} {r : W_Token × (Option Nat) × W_reader} (h : W_reader_number_n n p1 = some r) : W_reader_number p1 = some r := by
  unfold W_reader_number_n at h
  unfold W_reader_number
  obtain ⟨y5, h_y5, h⟩ := bindO h
  refine bindI (W_reader_peek_ns h_y5) ?_
  obtain ⟨x9, h_x9, h⟩ := bindO h
  refine bindI (a := x9) ?_ ?_
  ·
    rcases ifB h_x9 with ⟨hc_, h_x9⟩ | ⟨hc_, h_x9⟩
    · refine ifT hc_ ?_
      exact h_x9
    · refine ifF hc_ ?_
      exact h_x9
  ·
    obtain ⟨y12, h_y12, h⟩ := bindO h
    refine bindI (W_reader_while_ns (fun _ _ hx_ => W_figure_ns hx_) h_y12) ?_
    rcases ifB h with ⟨hc_, h⟩ | ⟨hc_, h⟩
    · refine ifT hc_ ?_
      exact h
    · refine ifF hc_ ?_
      obtain ⟨x17, h_x17, h⟩ := bindO h
      refine bindI (a := x17) ?_ ?_
      ·
        rcases ifB h_x17 with ⟨hc_, h_x17⟩ | ⟨hc_, h_x17⟩
        · refine ifT hc_ ?_
          exact h_x17
        · refine ifF hc_ ?_
          obtain ⟨x20, h_x20, h_x17⟩ := bindO h_x17
          refine bindI (a := x20) ?_ ?_
          ·
            rcases ifB h_x20 with ⟨hc_, h_x20⟩ | ⟨hc_, h_x20⟩
            · refine ifT hc_ ?_
              obtain ⟨c23, h_c23, h_x20⟩ := bindO h_x20
              refine bindI h_c23 ?_
              exact h_x20
            · refine ifF hc_ ?_
              exact h_x20
          ·
            exact h_x17
      ·
        obtain ⟨x25, h_x25, h⟩ := bindO h
        refine bindI (a := x25) ?_ ?_
        ·
          rcases ifB h_x25 with ⟨hc_, h_x25⟩ | ⟨hc_, h_x25⟩
          · refine ifT hc_ ?_
            exact h_x25
          · refine ifF hc_ ?_
            obtain ⟨x28, h_x28, h_x25⟩ := bindO h_x25
            refine bindI (a := x28) ?_ ?_
            ·
              rcases ifB h_x28 with ⟨hc_, h_x28⟩ | ⟨hc_, h_x28⟩
              · refine ifT hc_ ?_
                exact h_x28
              · refine ifF hc_ ?_
                exact h_x28
            ·
              exact h_x25
        ·
          obtain ⟨x32, h_x32, h⟩ := bindO h
          refine bindI (a := x32) ?_ ?_
          ·
            rcases ifB h_x32 with ⟨hc_, h_x32⟩ | ⟨hc_, h_x32⟩
            · refine ifT hc_ ?_
              exact h_x32
            · refine ifF hc_ ?_
              obtain ⟨y35, h_y35, h_x32⟩ := bindO h_x32
              refine bindI (W_reader_peek_ns h_y35) ?_
              obtain ⟨y39, h_y39, h_x32⟩ := bindO h_x32
              refine bindI (W_goes_ns h_y39) ?_
              exact h_x32
          ·
            rcases ifB h with ⟨hc_, h⟩ | ⟨hc_, h⟩
            · refine ifT hc_ ?_
              exact h
            · refine ifF hc_ ?_
              obtain ⟨u_, hu_, h⟩ := bindO h
              refine bindI hu_ ?_
              obtain ⟨o55, h_o55, h⟩ := bindO h
              refine bindI (W_reader_number_l1_ns h_o55) ?_
              obtain ⟨x69, h_x69, h⟩ := bindO h
              refine bindI (a := x69) ?_ ?_
              ·
                rcases ifB h_x69 with ⟨hc_, h_x69⟩ | ⟨hc_, h_x69⟩
                · refine ifT hc_ ?_
                  exact h_x69
                · refine ifF hc_ ?_
                  exact h_x69
              ·
                exact h
def W_reader_variable_n (n : Nat) (p1 : W_reader) : Option (W_Piece × (Option Nat) × W_reader) := do
  let y5 ← W_reader_peek_n n ((⟨p1.f_s, p1.f_at⟩ : W_reader)) 0
  let y9 ← W_reader_ends_n n ((⟨y5.2.f_s, y5.2.f_at⟩ : W_reader))
  if (y9.1) = true then (do
      some (((⟨([] : List UInt8), ([] : List UInt8)⟩ : W_Piece), (some 2 : Option Nat), (⟨y9.2.f_s, y9.2.f_at⟩ : W_reader))))
  else (do
      let y14 ← W_figure_n n y5.1
      if (y14) = true then (do
          some (((⟨([y5.1] : List UInt8), ([] : List UInt8)⟩ : W_Piece), (none : Option Nat), (⟨y9.2.f_s, w64 (y9.2.f_at + 1)⟩ : W_reader))))
      else (do
          let y22 ← W_begins_n n y5.1
          if (!y22) = true then (do
              some (((⟨([] : List UInt8), ([] : List UInt8)⟩ : W_Piece), (some 1 : Option Nat), (⟨y9.2.f_s, y9.2.f_at⟩ : W_reader))))
          else (do
              let y27 ← W_reader_name_n n ((⟨y9.2.f_s, y9.2.f_at⟩ : W_reader))
              some (((⟨y27.1.f_Text, ([] : List UInt8)⟩ : W_Piece), y27.2.1, (⟨y27.2.2.f_s, y27.2.2.f_at⟩ : W_reader))))))
theorem W_reader_variable_ns {n : Nat} {p1 : W_reader} {r : W_Piece × (Option Nat) × W_reader} (h : W_reader_variable_n n p1 = some r) : W_reader_variable p1 = some r := by
  unfold W_reader_variable_n at h
  unfold W_reader_variable
  obtain ⟨y5, h_y5, h⟩ := bindO h
  refine bindI (W_reader_peek_ns h_y5) ?_
  obtain ⟨y9, h_y9, h⟩ := bindO h
  refine bindI (W_reader_ends_ns h_y9) ?_
  rcases ifB h with ⟨hc_, h⟩ | ⟨hc_, h⟩
  · refine ifT hc_ ?_
    exact h
  · refine ifF hc_ ?_
    obtain ⟨y14, h_y14, h⟩ := bindO h
    refine bindI (W_figure_ns h_y14) ?_
    rcases ifB h with ⟨hc_, h⟩ | ⟨hc_, h⟩
    · refine ifT hc_ ?_
      exact h
    · refine ifF hc_ ?_
      obtain ⟨y22, h_y22, h⟩ := bindO h
      refine bindI (W_begins_ns h_y22) ?_
      rcases ifB h with ⟨hc_, h⟩ | ⟨hc_, h⟩
      · refine ifT hc_ ?_
        exact h
      · refine ifF hc_ ?_
        obtain ⟨y27, h_y27, h⟩ := bindO h
        refine bindI (W_reader_name_ns h_y27) ?_
        exact h
def internal_stringslite_IndexByte_n (n : Nat) (p1 : List UInt8) (p2 : UInt8) : Option Int := do
  some (idxB p1 p2)
theorem internal_stringslite_IndexByte_ns {n : Nat} {p1 : List UInt8} {p2 : UInt8} {r : Int} (h : internal_stringslite_IndexByte_n n p1 p2 = some r) : internal_stringslite_IndexByte p1 p2 = some r := by
  unfold internal_stringslite_IndexByte_n at h
  unfold internal_stringslite_IndexByte
  exact h
def strings_IndexByte_n (n : Nat) (p1 : List UInt8) (p2 : UInt8) : Option Int := do
  let y3 ← internal_stringslite_IndexByte_n n p1 p2
  some y3
theorem strings_IndexByte_ns {n : Nat} {p1 : List UInt8} {p2 : UInt8} {r : Int} (h : strings_IndexByte_n n p1 p2 = some r) : strings_IndexByte p1 p2 = some r := by
  unfold strings_IndexByte_n at h
  unfold strings_IndexByte
  obtain ⟨y3, h_y3, h⟩ := bindO h
  refine bindI (internal_stringslite_IndexByte_ns h_y3) ?_
  exact h
def W_digit_n (n : Nat) (p1 : UInt8) : Option Int := do
  let x2 ← (do
      let x4 ← (do
          if (decide (65 ≤ p1)) = true then (do
              some (decide (p1 ≤ 70)))
          else (do
              some false) : Option Bool)
      if (x4) = true then (do
          some (p1 + 32))
      else (do
          some p1) : Option UInt8)
  let y8 ← strings_IndexByte_n n ([48, 49, 50, 51, 52, 53, 54, 55, 56, 57, 97, 98, 99, 100, 101, 102] : List UInt8) x2
  some y8
theorem W_digit_ns {n : Nat} {p1 : UInt8} {r : Int} (h : W_digit_n n p1 = some r) : W_digit p1 = some r := by
  unfold W_digit_n at h
  unfold W_digit
  obtain ⟨x2, h_x2, h⟩ := bindO h
  refine bindI (a := x2) ?_ ?_
  ·
    obtain ⟨x4, h_x4, h_x2⟩ := bindO h_x2
    refine bindI (a := x4) ?_ ?_
    ·
      rcases ifB h_x4 with ⟨hc_, h_x4⟩ | ⟨hc_, h_x4⟩
      · refine ifT hc_ ?_
        exact h_x4
      · refine ifF hc_ ?_
        exact h_x4
    ·
      rcases ifB h_x2 with ⟨hc_, h_x2⟩ | ⟨hc_, h_x2⟩
      · refine ifT hc_ ?_
        exact h_x2
      · refine ifF hc_ ?_
        exact h_x2
  ·
    obtain ⟨y8, h_y8, h⟩ := bindO h
    refine bindI (strings_IndexByte_ns h_y8) ?_
    exact h
def W_reader_coded_l1_n (n : Nat) (x10 : Int) (x11 : Int) (x12 : List UInt8) (x13 : Int) : Option (Sum (Int × (List UInt8) × Int) ((Option Nat) × (List UInt8) × Int)) :=
  match n with
  | 0 => none
  | n + 1 => do
    if (decide (x10 < 2)) = true then (do
        let y21 ← W_reader_ends_n n ((⟨x12, x13⟩ : W_reader))
        if (y21.1) = true then (do
            some (Sum.inr (((some 2 : Option Nat), y21.2.f_s, y21.2.f_at))))
        else (do
            let c26 ← ix y21.2.f_s y21.2.f_at
            let y28 ← W_digit_n n c26
            if (decide (y28 < 0)) = true then (do
                some (Sum.inr (((some 1 : Option Nat), y21.2.f_s, y21.2.f_at))))
            else (do
                W_reader_coded_l1_n n (w64 (x10 + 1)) (or64 (w64 (x11 * 2 ^ 4)) y28) y21.2.f_s (w64 (y21.2.f_at + 1)))))
    else (do
        some (Sum.inl ((x11, x12, x13))))
theorem W_reader_coded_l1_nr : ∀ (n : Nat) (x10 : Int) (x11 : Int) (x12 : List UInt8) (x13 : Int) (r : Sum (Int × (List UInt8) × Int) ((Option Nat) × (List UInt8) × Int)), W_reader_coded_l1_n n x10 x11 x12 x13 = some r → W_reader_coded_l1 x10 x11 x12 x13 = some r := by
  intro n
  induction n with
  | zero => intro x10 x11 x12 x13 r h; cases h
  | succ n ih =>
    intro x10 x11 x12 x13 r h
    rw [W_reader_coded_l1_n] at h
    rw [W_reader_coded_l1]
    rcases ifB h with ⟨hc_, h⟩ | ⟨hc_, h⟩
    · refine ifT hc_ ?_
      obtain ⟨y21, h_y21, h⟩ := bindO h
      refine bindI (W_reader_ends_ns h_y21) ?_
      rcases ifB h with ⟨hc_, h⟩ | ⟨hc_, h⟩
      · refine ifT hc_ ?_
        exact h
      · refine ifF hc_ ?_
        obtain ⟨c26, h_c26, h⟩ := bindO h
        refine bindI h_c26 ?_
        obtain ⟨y28, h_y28, h⟩ := bindO h
        refine bindI (W_digit_ns h_y28) ?_
        rcases ifB h with ⟨hc_, h⟩ | ⟨hc_, h⟩
        · refine ifT hc_ ?_
          exact h
        · refine ifF hc_ ?_
          exact ih _ _ _ _ _ h
    · refine ifF hc_ ?_
      exact h
theorem W_reader_coded_l1_ns {n : Nat} {x10 : Int} {x11 : Int} {x12 : List UInt8} {x13 : Int} {r : Sum (Int × (List UInt8) × Int) ((Option Nat) × (List UInt8) × Int)} (h : W_reader_coded_l1_n n x10 x11 x12 x13 = some r) : W_reader_coded_l1 x10 x11 x12 x13 = some r := W_reader_coded_l1_nr n x10 x11 x12 x13 r h
def W_reader_coded_n (n : Nat) (p1 : W_reader) : Option (UInt8 × (Option Nat) × W_reader) := do
  let o14 ← W_reader_coded_l1_n n 0 0 p1.f_s p1.f_at
  match o14 with
  | Sum.inl x17 => do
      some ((toB x17.1, (none : Option Nat), (⟨x17.2.1, x17.2.2⟩ : W_reader)))
  | Sum.inr x19 => do
      some ((0, x19.1, (⟨x19.2.1, x19.2.2⟩ : W_reader)))
theorem W_reader_coded_ns {n : Nat} {p1 : W_reader} {r : UInt8 × (Option Nat) × W_reader} (h : W_reader_coded_n n p1 = some r) : W_reader_coded p1 = some r := by
  unfold W_reader_coded_n at h
  unfold W_reader_coded
  obtain ⟨o14, h_o14, h⟩ := bindO h
  refine bindI (W_reader_coded_l1_ns h_o14) ?_
  rcases o14 with x_ | x_
  ·
    dsimp only at h ⊢
    exact h
  ·
    dsimp only at h ⊢
    exact h
def W_reader_escape_n (n : Nat) (p1 : W_reader) : Option (UInt8 × (Option Nat) × W_reader) := do
  let y3 ← W_reader_ends_n n ((⟨p1.f_s, p1.f_at⟩ : W_reader))
  if (y3.1) = true then (do
      some ((0, (some 2 : Option Nat), (⟨y3.2.f_s, y3.2.f_at⟩ : W_reader))))
  else (do
      let c8 ← ix y3.2.f_s y3.2.f_at
      let k10 := fun (_ : Unit) => (do
          some ((0, (some 1 : Option Nat), (⟨y3.2.f_s, w64 (y3.2.f_at + 1)⟩ : W_reader))))
      if (c8 == 110) = true then (do
          some ((10, (none : Option Nat), (⟨y3.2.f_s, w64 (y3.2.f_at + 1)⟩ : W_reader))))
      else (do
          if (c8 == 114) = true then (do
              some ((13, (none : Option Nat), (⟨y3.2.f_s, w64 (y3.2.f_at + 1)⟩ : W_reader))))
          else (do
              if (c8 == 116) = true then (do
                  some ((9, (none : Option Nat), (⟨y3.2.f_s, w64 (y3.2.f_at + 1)⟩ : W_reader))))
              else (do
                  if (c8 == 120) = true then (do
                      let y16 ← W_reader_coded_n n ((⟨y3.2.f_s, w64 (y3.2.f_at + 1)⟩ : W_reader))
                      some ((y16.1, y16.2.1, (⟨y16.2.2.f_s, y16.2.2.f_at⟩ : W_reader))))
                  else (do
                      let x20 ← (do
                          if (c8 == 92) = true then (do
                              some (c8 == 92))
                          else (do
                              if (c8 == 34) = true then (do
                                  some (c8 == 34))
                              else (do
                                  some (c8 == 36))) : Option Bool)
                      if (x20) = true then (do
                          some ((c8, (none : Option Nat), (⟨y3.2.f_s, w64 (y3.2.f_at + 1)⟩ : W_reader))))
                      else (do
                          k10 ()))))))
theorem W_reader_escape_ns {n : Nat} {p1 : W_reader} {r : UInt8 × (Option Nat) × W_reader} (h : W_reader_escape_n n p1 = some r) : W_reader_escape p1 = some r := by
  unfold W_reader_escape_n at h
  unfold W_reader_escape
  obtain ⟨y3, h_y3, h⟩ := bindO h
  refine bindI (W_reader_ends_ns h_y3) ?_
  rcases ifB h with ⟨hc_, h⟩ | ⟨hc_, h⟩
  · refine ifT hc_ ?_
    exact h
  · refine ifF hc_ ?_
    obtain ⟨c8, h_c8, h⟩ := bindO h
    refine bindI h_c8 ?_
    extract_lets k10 at h
    extract_lets k10'
    have hk_k10 : ∀ u_ r, k10 u_ = some r → k10' u_ = some r := by
      intro u_ r hk
      simp only [k10] at hk
      simp only [k10']
      exact hk
    rcases ifB h with ⟨hc_, h⟩ | ⟨hc_, h⟩
    · refine ifT hc_ ?_
      exact h
    · refine ifF hc_ ?_
      rcases ifB h with ⟨hc_, h⟩ | ⟨hc_, h⟩
      · refine ifT hc_ ?_
        exact h
      · refine ifF hc_ ?_
        rcases ifB h with ⟨hc_, h⟩ | ⟨hc_, h⟩
        · refine ifT hc_ ?_
          exact h
        · refine ifF hc_ ?_
          rcases ifB h with ⟨hc_, h⟩ | ⟨hc_, h⟩
          · refine ifT hc_ ?_
            obtain ⟨y16, h_y16, h⟩ := bindO h
            refine bindI (W_reader_coded_ns h_y16) ?_
            exact h
          · refine ifF hc_ ?_
            obtain ⟨x20, h_x20, h⟩ := bindO h
            refine bindI (a := x20) ?_ ?_
            ·
              rcases ifB h_x20 with ⟨hc_, h_x20⟩ | ⟨hc_, h_x20⟩
              · refine ifT hc_ ?_
                exact h_x20
              · refine ifF hc_ ?_
                rcases ifB h_x20 with ⟨hc_, h_x20⟩ | ⟨hc_, h_x20⟩
                · refine ifT hc_ ?_
                  exact h_x20
                · refine ifF hc_ ?_
                  exact h_x20
            ·
              rcases ifB h with ⟨hc_, h⟩ | ⟨hc_, h⟩
              · refine ifT hc_ ?_
                exact h
              · refine ifF hc_ ?_
                exact hk_k10  () _ h
def W_literal_n (n : Nat) (p1 : List W_Piece) (p3 : UInt8) : Option (List W_Piece) := do
  let x5 ← (do
      if (decide ((w64 (((p1.length : Int)) - 1)) < 0)) = true then (do
          some true)
      else (do
          let e8 ← ix p1 (w64 (((p1.length : Int)) - 1))
          some (e8.f_Var != ([] : List UInt8))) : Option Bool)
  if (x5) = true then (do
      let _ ← req ((p1.length + ([(⟨([] : List UInt8), ([p3] : List UInt8)⟩ : W_Piece)]).length) * 32 ≤ 140737488355328 ∧ p1.length + ([(⟨([] : List UInt8), ([p3] : List UInt8)⟩ : W_Piece)]).length ≤ 9223372036854775807)
      some (p1 ++ ([(⟨([] : List UInt8), ([p3] : List UInt8)⟩ : W_Piece)])))
  else (do
      let e27 ← ix p1 (w64 (((p1.length : Int)) - 1))
      let _ ← req (e27.f_Lit.length + ([p3] : List UInt8).length ≤ 9223372036854775807)
      let e41 ← ix p1 (w64 (((p1.length : Int)) - 1))
      some (p1.set ((w64 (((p1.length : Int)) - 1))).toNat ((⟨e41.f_Var, e27.f_Lit ++ ([p3] : List UInt8)⟩ : W_Piece))))
theorem W_literal_ns {n : Nat} {p1 : List W_Piece} {p3 : UInt8} {r : List W_Piece} (h : W_literal_n n p1 p3 = some r) : W_literal p1 p3 = some r := by
  unfold W_literal_n at h
  unfold W_literal
  obtain ⟨x5, h_x5, h⟩ := bindO h
  refine bindI (a := x5) ?_ ?_
  ·
    rcases ifB h_x5 with ⟨hc_, h_x5⟩ | ⟨hc_, h_x5⟩
    · refine ifT hc_ ?_
      exact h_x5
    · refine ifF hc_ ?_
      obtain ⟨e8, h_e8, h_x5⟩ := bindO h_x5
      refine bindI h_e8 ?_
      exact h_x5
  ·
    rcases ifB h with ⟨hc_, h⟩ | ⟨hc_, h⟩
    · refine ifT hc_ ?_
      obtain ⟨u_, hu_, h⟩ := bindO h
      refine bindI hu_ ?_
      exact h
    · refine ifF hc_ ?_
      obtain ⟨e27, h_e27, h⟩ := bindO h
      refine bindI h_e27 ?_
      obtain ⟨u_, hu_, h⟩ := bindO h
      refine bindI hu_ ?_
      obtain ⟨e41, h_e41, h⟩ := bindO h
      refine bindI h_e41 ?_
      exact h
def W_reader_piece_n (n : Nat) (p1 : W_reader) (p3 : List W_Piece) : Option ((List W_Piece) × (Option Nat) × W_reader) := do
  let c6 ← ix p1.f_s p1.f_at
  if (c6 == 36) = true then (do
      let y9 ← W_reader_variable_n n ((⟨p1.f_s, w64 (p1.f_at + 1)⟩ : W_reader))
      let _ ← req ((p3.length + [(⟨y9.1.f_Var, y9.1.f_Lit⟩ : W_Piece)].length) * 32 ≤ 140737488355328 ∧ p3.length + [(⟨y9.1.f_Var, y9.1.f_Lit⟩ : W_Piece)].length ≤ 9223372036854775807)
      some ((p3 ++ [(⟨y9.1.f_Var, y9.1.f_Lit⟩ : W_Piece)], y9.2.1, (⟨y9.2.2.f_s, y9.2.2.f_at⟩ : W_reader))))
  else (do
      if (c6 == 10) = true then (do
          some ((([] : List W_Piece), (some 1 : Option Nat), (⟨p1.f_s, w64 (p1.f_at + 1)⟩ : W_reader))))
      else (do
          if (c6 == 92) = true then (do
              let y23 ← W_reader_escape_n n ((⟨p1.f_s, w64 (p1.f_at + 1)⟩ : W_reader))
              let y27 ← W_literal_n n p3 y23.1
              some ((y27, y23.2.1, (⟨y23.2.2.f_s, y23.2.2.f_at⟩ : W_reader))))
          else (do
              let y33 ← W_literal_n n p3 c6
              some ((y33, (none : Option Nat), (⟨p1.f_s, w64 (p1.f_at + 1)⟩ : W_reader))))))
theorem W_reader_piece_ns {n : Nat} {p1 : W_reader} {p3 : List W_Piece} {r : (List W_Piece) × (Option Nat) × W_reader} (h : W_reader_piece_n n p1 p3 = some r) : W_reader_piece p1 p3 = some r := by
  unfold W_reader_piece_n at h
  unfold W_reader_piece
  obtain ⟨c6, h_c6, h⟩ := bindO h
  refine bindI h_c6 ?_
  rcases ifB h with ⟨hc_, h⟩ | ⟨hc_, h⟩
  · refine ifT hc_ ?_
    obtain ⟨y9, h_y9, h⟩ := bindO h
    refine bindI (W_reader_variable_ns h_y9) ?_
    obtain ⟨u_, hu_, h⟩ := bindO h
    refine bindI hu_ ?_
    exact h
  · refine ifF hc_ ?_
    rcases ifB h with ⟨hc_, h⟩ | ⟨hc_, h⟩
    · refine ifT hc_ ?_
      exact h
    · refine ifF hc_ ?_
      rcases ifB h with ⟨hc_, h⟩ | ⟨hc_, h⟩
      · refine ifT hc_ ?_
        obtain ⟨y23, h_y23, h⟩ := bindO h
        refine bindI (W_reader_escape_ns h_y23) ?_
        obtain ⟨y27, h_y27, h⟩ := bindO h
        refine bindI (W_literal_ns h_y27) ?_
        exact h
      · refine ifF hc_ ?_
        obtain ⟨y33, h_y33, h⟩ := bindO h
        refine bindI (W_literal_ns h_y33) ?_
        exact h
def slices_IndexFunc_W_Piece_W_Piece_l1_n (n : Nat) (p1 : List W_Piece) (p4 : W_Piece → Option Bool) (x11 : Int) : Option (Sum Unit Int) :=
  match n with
  | 0 => none
  | n + 1 => do
    if (decide (x11 < ((p1.length : Int)))) = true then (do
        let e19 ← ix p1 x11
        let y29 ← p4 e19
        if (y29) = true then (do
            some (Sum.inr x11))
        else (do
            slices_IndexFunc_W_Piece_W_Piece_l1_n n p1 p4 (w64 (x11 + 1))))
    else (do
        some (Sum.inl (())))
theorem slices_IndexFunc_W_Piece_W_Piece_l1_nr {p4 p4' : W_Piece → Option Bool} (hp_p4 : ∀ x r, p4' x = some r → p4 x = some r) : ∀ (n : Nat) (p1 : List W_Piece) (x11 : Int) (r : Sum Unit Int), slices_IndexFunc_W_Piece_W_Piece_l1_n n p1 p4' x11 = some r → slices_IndexFunc_W_Piece_W_Piece_l1 p1 p4 x11 = some r := by
  intro n
  induction n with
  | zero => intro p1 x11 r h; cases h
  | succ n ih =>
    intro p1 x11 r h
    rw [slices_IndexFunc_W_Piece_W_Piece_l1_n] at h
    rw [slices_IndexFunc_W_Piece_W_Piece_l1]
    rcases ifB h with ⟨hc_, h⟩ | ⟨hc_, h⟩
    · refine ifT hc_ ?_
      obtain ⟨e19, h_e19, h⟩ := bindO h
      refine bindI h_e19 ?_
      obtain ⟨y29, h_y29, h⟩ := bindO h
      refine bindI (hp_p4 _ _ h_y29) ?_
      rcases ifB h with ⟨hc_, h⟩ | ⟨hc_, h⟩
      · refine ifT hc_ ?_
        exact h
      · refine ifF hc_ ?_
        exact ih _ _ _ h
    · refine ifF hc_ ?_
      exact h
theorem slices_IndexFunc_W_Piece_W_Piece_l1_ns {n : Nat} {p4 p4' : W_Piece → Option Bool} (hp_p4 : ∀ x r, p4' x = some r → p4 x = some r) {p1 : List W_Piece} {x11 : Int} {r : Sum Unit Int} (h : slices_IndexFunc_W_Piece_W_Piece_l1_n n p1 p4' x11 = some r) : slices_IndexFunc_W_Piece_W_Piece_l1 p1 p4 x11 = some r := slices_IndexFunc_W_Piece_W_Piece_l1_nr hp_p4 n p1 x11 r h
def slices_IndexFunc_W_Piece_W_Piece_n (n : Nat) (p1 : List W_Piece) (p4 : W_Piece → Option Bool) : Option Int := do
  let o12 ← slices_IndexFunc_W_Piece_W_Piece_l1_n n p1 p4 0
  match o12 with
  | Sum.inl x15 => do
      some ((-1))
  | Sum.inr x17 => do
      some x17
theorem slices_IndexFunc_W_Piece_W_Piece_ns {n : Nat} {p4 p4' : W_Piece → Option Bool} (hp_p4 : ∀ x r, p4' x = some r → p4 x = some r) {p1 : List W_Piece} {r : Int} (h : slices_IndexFunc_W_Piece_W_Piece_n n p1 p4' = some r) : slices_IndexFunc_W_Piece_W_Piece p1 p4 = some r := by
  unfold slices_IndexFunc_W_Piece_W_Piece_n at h
  unfold slices_IndexFunc_W_Piece_W_Piece
  obtain ⟨o12, h_o12, h⟩ := bindO h
  refine bindI (slices_IndexFunc_W_Piece_W_Piece_l1_ns hp_p4 h_o12) ?_
  rcases o12 with x_ | x_
  ·
    dsimp only at h ⊢
    exact h
  ·
    dsimp only at h ⊢
    exact h
def slices_ContainsFunc_W_Piece_W_Piece_n (n : Nat) (p1 : List W_Piece) (p4 : W_Piece → Option Bool) : Option Bool := do
  let y7 ← slices_IndexFunc_W_Piece_W_Piece_n n p1 p4
  some (decide (y7 ≥ 0))
theorem slices_ContainsFunc_W_Piece_W_Piece_ns {n : Nat} {p4 p4' : W_Piece → Option Bool} (hp_p4 : ∀ x r, p4' x = some r → p4 x = some r) {p1 : List W_Piece} {r : Bool} (h : slices_ContainsFunc_W_Piece_W_Piece_n n p1 p4' = some r) : slices_ContainsFunc_W_Piece_W_Piece p1 p4 = some r := by
  unfold slices_ContainsFunc_W_Piece_W_Piece_n at h
  unfold slices_ContainsFunc_W_Piece_W_Piece
  obtain ⟨y7, h_y7, h⟩ := bindO h
  refine bindI (slices_IndexFunc_W_Piece_W_Piece_ns hp_p4 h_y7) ?_
  exact h
def W_fits_1_n (n : Nat) (p1 : W_Piece) : Option Bool := do
  some (decide (((p1.f_Lit.length : Int)) > 400))
theorem W_fits_1_ns {n : Nat} {p1 : W_Piece} {r : Bool} (h : W_fits_1_n n p1 = some r) : W_fits_1 p1 = some r := by
  unfold W_fits_1_n at h
  unfold W_fits_1
  exact h
def W_fits_n (n : Nat) (p1 : List W_Piece) : Option Bool := do
  let x5 ← (do
      if (decide (((p1.length : Int)) ≤ 40)) = true then (do
          let y8 ← slices_ContainsFunc_W_Piece_W_Piece_n n p1 (W_fits_1_n n)
          some (!y8))
      else (do
          some false) : Option Bool)
  some x5
theorem W_fits_ns {n : Nat} {p1 : List W_Piece} {r : Bool} (h : W_fits_n n p1 = some r) : W_fits p1 = some r := by
  unfold W_fits_n at h
  unfold W_fits
  obtain ⟨x5, h_x5, h⟩ := bindO h
  refine bindI (a := x5) ?_ ?_
  ·
    rcases ifB h_x5 with ⟨hc_, h_x5⟩ | ⟨hc_, h_x5⟩
    · refine ifT hc_ ?_
      obtain ⟨y8, h_y8, h_x5⟩ := bindO h_x5
      refine bindI (slices_ContainsFunc_W_Piece_W_Piece_ns (fun _ _ hx_ => W_fits_1_ns hx_) h_y8) ?_
      exact h_x5
    · refine ifF hc_ ?_
      exact h_x5
  ·
    exact h
def W_reader_text_l1_n (n : Nat) (x13 : List UInt8) (x14 : Int) (x15 : List W_Piece) : Option ((Option Nat) × (List UInt8) × Int × Int × (List W_Piece)) :=
  match n with
  | 0 => none
  | n + 1 => do
    let y22 ← W_reader_ends_n n ((⟨x13, x14⟩ : W_reader))
    if (y22.1) = true then (do
        some (((some 2 : Option Nat), y22.2.f_s, y22.2.f_at, 0, ([] : List W_Piece))))
    else (do
        let c27 ← ix y22.2.f_s y22.2.f_at
        if (c27 == 34) = true then (do
            some (((none : Option Nat), y22.2.f_s, w64 (y22.2.f_at + 1), 3, x15)))
        else (do
            let y32 ← W_reader_piece_n n ((⟨y22.2.f_s, y22.2.f_at⟩ : W_reader)) x15
            if (y32.2.1.isSome) = true then (do
                some ((y32.2.1, y32.2.2.f_s, y32.2.2.f_at, 0, ([] : List W_Piece))))
            else (do
                let y46 ← W_fits_n n y32.1
                if (!y46) = true then (do
                    some (((some 0 : Option Nat), y32.2.2.f_s, y32.2.2.f_at, 0, ([] : List W_Piece))))
                else (do
                    W_reader_text_l1_n n y32.2.2.f_s y32.2.2.f_at y32.1))))
theorem W_reader_text_l1_nr : ∀ (n : Nat) (x13 : List UInt8) (x14 : Int) (x15 : List W_Piece) (r : (Option Nat) × (List UInt8) × Int × Int × (List W_Piece)), W_reader_text_l1_n n x13 x14 x15 = some r → W_reader_text_l1 x13 x14 x15 = some r := by
  intro n
  induction n with
  | zero => intro x13 x14 x15 r h; cases h
  | succ n ih =>
    intro x13 x14 x15 r h
    rw [W_reader_text_l1_n] at h
    rw [W_reader_text_l1]
    obtain ⟨y22, h_y22, h⟩ := bindO h
    refine bindI (W_reader_ends_ns h_y22) ?_
    rcases ifB h with ⟨hc_, h⟩ | ⟨hc_, h⟩
    · refine ifT hc_ ?_
      exact h
    · refine ifF hc_ ?_
      obtain ⟨c27, h_c27, h⟩ := bindO h
      refine bindI h_c27 ?_
      rcases ifB h with ⟨hc_, h⟩ | ⟨hc_, h⟩
      · refine ifT hc_ ?_
        exact h
      · refine ifF hc_ ?_
        obtain ⟨y32, h_y32, h⟩ := bindO h
        refine bindI (W_reader_piece_ns h_y32) ?_
        rcases ifB h with ⟨hc_, h⟩ | ⟨hc_, h⟩
        · refine ifT hc_ ?_
          exact h
        · refine ifF hc_ ?_
          obtain ⟨y46, h_y46, h⟩ := bindO h
          refine bindI (W_fits_ns h_y46) ?_
          rcases ifB h with ⟨hc_, h⟩ | ⟨hc_, h⟩
          · refine ifT hc_ ?_
            exact h
          · refine ifF hc_ ?_
            exact ih _ _ _ _ h
theorem W_reader_text_l1_ns {n : Nat} {x13 : List UInt8} {x14 : Int} {x15 : List W_Piece} {r : (Option Nat) × (List UInt8) × Int × Int × (List W_Piece)} (h : W_reader_text_l1_n n x13 x14 x15 = some r) : W_reader_text_l1 x13 x14 x15 = some r := W_reader_text_l1_nr n x13 x14 x15 r h
def W_reader_text_n (n : Nat) (p1 : W_reader) : Option (W_Token × (Option Nat) × W_reader) := do
  let o17 ← W_reader_text_l1_n n p1.f_s (w64 (p1.f_at + 1)) (([] : List W_Piece))
  some (((⟨o17.2.2.2.1, ([] : List UInt8), 0, o17.2.2.2.2, 0⟩ : W_Token), o17.1, (⟨o17.2.1, o17.2.2.1⟩ : W_reader)))
theorem W_reader_text_ns {n : Nat} {p1 : W_reader} {r : W_Token × (Option Nat) × W_reader} (h : W_reader_text_n n p1 = some r) : W_reader_text p1 = some r := by
  unfold W_reader_text_n at h
  unfold W_reader_text
  obtain ⟨o17, h_o17, h⟩ := bindO h
  refine bindI (W_reader_text_l1_ns h_o17) ?_
  exact h
def internal_stringslite_HasPrefix_n (n : Nat) (p1 : List UInt8) (p2 : List UInt8) : Option Bool := do
  let x3 ← (do
      if (decide (((p1.length : Int)) ≥ ((p2.length : Int)))) = true then (do
          let s6 ← cutL p1 0 (((p2.length : Int)))
          some (s6 == p2))
      else (do
          some false) : Option Bool)
  some x3
theorem internal_stringslite_HasPrefix_ns {n : Nat} {p1 : List UInt8} {p2 : List UInt8} {r : Bool} (h : internal_stringslite_HasPrefix_n n p1 p2 = some r) : internal_stringslite_HasPrefix p1 p2 = some r := by
  unfold internal_stringslite_HasPrefix_n at h
  unfold internal_stringslite_HasPrefix
  obtain ⟨x3, h_x3, h⟩ := bindO h
  refine bindI (a := x3) ?_ ?_
  ·
    rcases ifB h_x3 with ⟨hc_, h_x3⟩ | ⟨hc_, h_x3⟩
    · refine ifT hc_ ?_
      obtain ⟨s6, h_s6, h_x3⟩ := bindO h_x3
      refine bindI h_s6 ?_
      exact h_x3
    · refine ifF hc_ ?_
      exact h_x3
  ·
    exact h
def strings_HasPrefix_n (n : Nat) (p1 : List UInt8) (p2 : List UInt8) : Option Bool := do
  let y3 ← internal_stringslite_HasPrefix_n n p1 p2
  some y3
theorem strings_HasPrefix_ns {n : Nat} {p1 : List UInt8} {p2 : List UInt8} {r : Bool} (h : strings_HasPrefix_n n p1 p2 = some r) : strings_HasPrefix p1 p2 = some r := by
  unfold strings_HasPrefix_n at h
  unfold strings_HasPrefix
  obtain ⟨y3, h_y3, h⟩ := bindO h
  refine bindI (internal_stringslite_HasPrefix_ns h_y3) ?_
  exact h
def W_reader_sign_l1_n (n : Nat) (p1 : W_reader) (x12 : Int) : Option (Sum Unit (Int × (List UInt8) × Int)) :=
  match n with
  | 0 => none
  | n + 1 => do
    if (decide (x12 < ((([([61, 61] : List UInt8), ([33, 61] : List UInt8), ([60, 61] : List UInt8), ([62, 61] : List UInt8), ([123] : List UInt8), ([125] : List UInt8), ([60] : List UInt8), ([62] : List UInt8)]).length : Int)))) = true then (do
        let e20 ← ix ([([61, 61] : List UInt8), ([33, 61] : List UInt8), ([60, 61] : List UInt8), ([62, 61] : List UInt8), ([123] : List UInt8), ([125] : List UInt8), ([60] : List UInt8), ([62] : List UInt8)]) x12
        let s30 ← cutL p1.f_s p1.f_at ((p1.f_s.length : Int))
        let y32 ← strings_HasPrefix_n n s30 e20
        if (y32) = true then (do
            some (Sum.inr ((4, e20, w64 (p1.f_at + ((e20.length : Int)))))))
        else (do
            W_reader_sign_l1_n n p1 (w64 (x12 + 1))))
    else (do
        some (Sum.inl (())))
theorem W_reader_sign_l1_nr : ∀ (n : Nat) (p1 : W_reader) (x12 : Int) (r : Sum Unit (Int × (List UInt8) × Int)), W_reader_sign_l1_n n p1 x12 = some r → W_reader_sign_l1 p1 x12 = some r := by
  intro n
  induction n with
  | zero => intro p1 x12 r h; cases h
  | succ n ih =>
    intro p1 x12 r h
    rw [W_reader_sign_l1_n] at h
    rw [W_reader_sign_l1]
    rcases ifB h with ⟨hc_, h⟩ | ⟨hc_, h⟩
    · refine ifT hc_ ?_
      obtain ⟨e20, h_e20, h⟩ := bindO h
      refine bindI h_e20 ?_
      obtain ⟨s30, h_s30, h⟩ := bindO h
      refine bindI h_s30 ?_
      obtain ⟨y32, h_y32, h⟩ := bindO h
      refine bindI (strings_HasPrefix_ns h_y32) ?_
      rcases ifB h with ⟨hc_, h⟩ | ⟨hc_, h⟩
      · refine ifT hc_ ?_
        exact h
      · refine ifF hc_ ?_
        exact ih _ _ _ h
    · refine ifF hc_ ?_
      exact h
theorem W_reader_sign_l1_ns {n : Nat} {p1 : W_reader} {x12 : Int} {r : Sum Unit (Int × (List UInt8) × Int)} (h : W_reader_sign_l1_n n p1 x12 = some r) : W_reader_sign_l1 p1 x12 = some r := W_reader_sign_l1_nr n p1 x12 r h
def W_reader_sign_n (n : Nat) (p1 : W_reader) : Option (W_Token × (Option Nat) × W_reader) := do
  let o13 ← W_reader_sign_l1_n n p1 0
  match o13 with
  | Sum.inl x16 => do
      some (((⟨0, ([] : List UInt8), 0, ([] : List W_Piece), 0⟩ : W_Token), (some 1 : Option Nat), (⟨p1.f_s, p1.f_at⟩ : W_reader)))
  | Sum.inr x18 => do
      some (((⟨x18.1, x18.2.1, 0, ([] : List W_Piece), 0⟩ : W_Token), (none : Option Nat), (⟨p1.f_s, x18.2.2⟩ : W_reader)))
theorem W_reader_sign_ns {n : Nat} {p1 : W_reader} {r : W_Token × (Option Nat) × W_reader} (h : W_reader_sign_n n p1 = some r) : W_reader_sign p1 = some r := by
  unfold W_reader_sign_n at h
  unfold W_reader_sign
  obtain ⟨o13, h_o13, h⟩ := bindO h
  refine bindI (W_reader_sign_l1_ns h_o13) ?_
  rcases o13 with x_ | x_
  ·
    dsimp only at h ⊢
    exact h
  ·
    dsimp only at h ⊢
    exact h
def W_reader_token_n (n : Nat) (p1 : W_reader) : Option (W_Token × (Option Nat) × W_reader) := do
  let c5 ← ix p1.f_s p1.f_at
  let x7 ← (do
      if (c5 == 10) = true then (do
          some true)
      else (do
          some (c5 == 59)) : Option Bool)
  if (x7) = true then (do
      some (((⟨5, ([] : List UInt8), 0, ([] : List W_Piece), 0⟩ : W_Token), (none : Option Nat), (⟨p1.f_s, w64 (p1.f_at + 1)⟩ : W_reader))))
  else (do
      let y11 ← W_begins_n n c5
      if (y11) = true then (do
          let y16 ← W_reader_name_n n ((⟨p1.f_s, p1.f_at⟩ : W_reader))
          some (((⟨y16.1.f_Kind, y16.1.f_Text, y16.1.f_Number, y16.1.f_Pieces, y16.1.f_At⟩ : W_Token), y16.2.1, (⟨y16.2.2.f_s, y16.2.2.f_at⟩ : W_reader))))
      else (do
          let y22 ← W_figure_n n c5
          let x26 ← (do
              if (y22) = true then (do
                  some true)
              else (do
                  some (c5 == 45)) : Option Bool)
          if (x26) = true then (do
              let y30 ← W_reader_number_n n ((⟨p1.f_s, p1.f_at⟩ : W_reader))
              some (((⟨y30.1.f_Kind, y30.1.f_Text, y30.1.f_Number, y30.1.f_Pieces, y30.1.f_At⟩ : W_Token), y30.2.1, (⟨y30.2.2.f_s, y30.2.2.f_at⟩ : W_reader))))
          else (do
              if (c5 == 34) = true then (do
                  let y37 ← W_reader_text_n n ((⟨p1.f_s, p1.f_at⟩ : W_reader))
                  some (((⟨y37.1.f_Kind, y37.1.f_Text, y37.1.f_Number, y37.1.f_Pieces, y37.1.f_At⟩ : W_Token), y37.2.1, (⟨y37.2.2.f_s, y37.2.2.f_at⟩ : W_reader))))
              else (do
                  let y43 ← W_reader_sign_n n ((⟨p1.f_s, p1.f_at⟩ : W_reader))
                  some (((⟨y43.1.f_Kind, y43.1.f_Text, y43.1.f_Number, y43.1.f_Pieces, y43.1.f_At⟩ : W_Token), y43.2.1, (⟨y43.2.2.f_s, y43.2.2.f_at⟩ : W_reader)))))))
theorem W_reader_token_ns {n : Nat} {p1 : W_reader} {r : W_Token × (Option Nat) × W_reader} (h : W_reader_token_n n p1 = some r) : W_reader_token p1 = some r := by
  unfold W_reader_token_n at h
  unfold W_reader_token
  obtain ⟨c5, h_c5, h⟩ := bindO h
  refine bindI h_c5 ?_
  obtain ⟨x7, h_x7, h⟩ := bindO h
  refine bindI (a := x7) ?_ ?_
  ·
    rcases ifB h_x7 with ⟨hc_, h_x7⟩ | ⟨hc_, h_x7⟩
    · refine ifT hc_ ?_
      exact h_x7
    · refine ifF hc_ ?_
      exact h_x7
  ·
    rcases ifB h with ⟨hc_, h⟩ | ⟨hc_, h⟩
    · refine ifT hc_ ?_
      exact h
    · refine ifF hc_ ?_
      obtain ⟨y11, h_y11, h⟩ := bindO h
      refine bindI (W_begins_ns h_y11) ?_
      rcases ifB h with ⟨hc_, h⟩ | ⟨hc_, h⟩
      · refine ifT hc_ ?_
        obtain ⟨y16, h_y16, h⟩ := bindO h
        refine bindI (W_reader_name_ns h_y16) ?_
        exact h
      · refine ifF hc_ ?_
        obtain ⟨y22, h_y22, h⟩ := bindO h
        refine bindI (W_figure_ns h_y22) ?_
        obtain ⟨x26, h_x26, h⟩ := bindO h
        refine bindI (a := x26) ?_ ?_
        ·
          rcases ifB h_x26 with ⟨hc_, h_x26⟩ | ⟨hc_, h_x26⟩
          · refine ifT hc_ ?_
            exact h_x26
          · refine ifF hc_ ?_
            exact h_x26
        ·
          rcases ifB h with ⟨hc_, h⟩ | ⟨hc_, h⟩
          · refine ifT hc_ ?_
            obtain ⟨y30, h_y30, h⟩ := bindO h
            refine bindI (W_reader_number_ns h_y30) ?_
            exact h
          · refine ifF hc_ ?_
            rcases ifB h with ⟨hc_, h⟩ | ⟨hc_, h⟩
            · refine ifT hc_ ?_
              obtain ⟨y37, h_y37, h⟩ := bindO h
              refine bindI (W_reader_text_ns h_y37) ?_
              exact h
            · refine ifF hc_ ?_
              obtain ⟨y43, h_y43, h⟩ := bindO h
              refine bindI (W_reader_sign_ns h_y43) ?_
              exact h
def W_Split_l1_n (n : Nat) (x17 : List UInt8) (x18 : Int) (x19 : List W_Token) : Option (Sum ((List UInt8) × Int × (List W_Token)) (Int × (Option Nat) × (List UInt8) × Int × (List W_Token))) :=
  match n with
  | 0 => none
  | n + 1 => do
    let y29 ← W_reader_ends_n n ((⟨x17, x18⟩ : W_reader))
    if (!y29.1) = true then (do
        let y34 ← W_reader_token_n n ((⟨y29.2.f_s, y29.2.f_at⟩ : W_reader))
        if (y34.2.1.isSome) = true then (do
            some (Sum.inr ((y29.2.f_at, y34.2.1, y34.2.2.f_s, y34.2.2.f_at, x19))))
        else (do
            let _ ← req ((x19.length + [(⟨y34.1.f_Kind, y34.1.f_Text, y34.1.f_Number, y34.1.f_Pieces, y29.2.f_at⟩ : W_Token)].length) * 64 ≤ 140737488355328 ∧ x19.length + [(⟨y34.1.f_Kind, y34.1.f_Text, y34.1.f_Number, y34.1.f_Pieces, y29.2.f_at⟩ : W_Token)].length ≤ 9223372036854775807)
            let y48 ← W_reader_skip_n n ((⟨y34.2.2.f_s, y34.2.2.f_at⟩ : W_reader))
            W_Split_l1_n n y48.f_s y48.f_at (x19 ++ [(⟨y34.1.f_Kind, y34.1.f_Text, y34.1.f_Number, y34.1.f_Pieces, y29.2.f_at⟩ : W_Token)])))
    else (do
        some (Sum.inl ((y29.2.f_s, y29.2.f_at, x19))))
theorem W_Split_l1_nr : ∀ (n : Nat) (x17 : List UInt8) (x18 : Int) (x19 : List W_Token) (r : Sum ((List UInt8) × Int × (List W_Token)) (Int × (Option Nat) × (List UInt8) × Int × (List W_Token))), W_Split_l1_n n x17 x18 x19 = some r → W_Split_l1 x17 x18 x19 = some r := by
  intro n
  induction n with
  | zero => intro x17 x18 x19 r h; cases h
  | succ n ih =>
    intro x17 x18 x19 r h
    rw [W_Split_l1_n] at h
    rw [W_Split_l1]
    obtain ⟨y29, h_y29, h⟩ := bindO h
    refine bindI (W_reader_ends_ns h_y29) ?_
    rcases ifB h with ⟨hc_, h⟩ | ⟨hc_, h⟩
    · refine ifT hc_ ?_
      obtain ⟨y34, h_y34, h⟩ := bindO h
      refine bindI (W_reader_token_ns h_y34) ?_
      rcases ifB h with ⟨hc_, h⟩ | ⟨hc_, h⟩
      · refine ifT hc_ ?_
        exact h
      · refine ifF hc_ ?_
        obtain ⟨u_, hu_, h⟩ := bindO h
        refine bindI hu_ ?_
        obtain ⟨y48, h_y48, h⟩ := bindO h
        refine bindI (W_reader_skip_ns h_y48) ?_
        exact ih _ _ _ _ h
    · refine ifF hc_ ?_
      exact h
theorem W_Split_l1_ns {n : Nat} {x17 : List UInt8} {x18 : Int} {x19 : List W_Token} {r : Sum ((List UInt8) × Int × (List W_Token)) (Int × (Option Nat) × (List UInt8) × Int × (List W_Token))} (h : W_Split_l1_n n x17 x18 x19 = some r) : W_Split_l1 x17 x18 x19 = some r := W_Split_l1_nr n x17 x18 x19 r h
def W_Split_n (n : Nat) (p1 : List UInt8) : Option ((List W_Token) × Int × (Option Nat)) := do
  if (decide (((p1.length : Int)) > 4000)) = true then (do
      some ((([] : List W_Token), 0, (some 0 : Option Nat))))
  else (do
      let y6 ← W_reader_skip_n n ((⟨p1, 0⟩ : W_reader))
      let o21 ← W_Split_l1_n n y6.f_s y6.f_at (([] : List W_Token))
      match o21 with
      | Sum.inl x24 => do
          some ((x24.2.2, 0, (none : Option Nat)))
      | Sum.inr x27 => do
          some ((([] : List W_Token), x27.1, x27.2.1)))
theorem W_Split_ns {n : Nat} {p1 : List UInt8} {r : (List W_Token) × Int × (Option Nat)} (h : W_Split_n n p1 = some r) : W_Split p1 = some r := by
  unfold W_Split_n at h
  unfold W_Split
  rcases ifB h with ⟨hc_, h⟩ | ⟨hc_, h⟩
  · refine ifT hc_ ?_
    exact h
  · refine ifF hc_ ?_
    obtain ⟨y6, h_y6, h⟩ := bindO h
    refine bindI (W_reader_skip_ns h_y6) ?_
    obtain ⟨o21, h_o21, h⟩ := bindO h
    refine bindI (W_Split_l1_ns h_o21) ?_
    rcases o21 with x_ | x_
    ·
      dsimp only at h ⊢
      exact h
    ·
      dsimp only at h ⊢
      exact h
def Law_alive_n (n : Nat) : Option Bool := do
  let y1 ← W_Split_n n ([115, 101, 110, 100, 32, 34, 97, 36, 98, 92, 110, 34] : List UInt8)
  let x7 ← (do
      if (y1.2.2.isNone) = true then (do
          some (((y1.1.length : Int)) == 2))
      else (do
          some false) : Option Bool)
  let x10 ← (do
      if (x7) = true then (do
          let e13 ← ix y1.1 0
          some (e13.f_Kind == 1))
      else (do
          some false) : Option Bool)
  let x25 ← (do
      if (x10) = true then (do
          let e28 ← ix y1.1 1
          some (((e28.f_Pieces.length : Int)) == 3))
      else (do
          some false) : Option Bool)
  let x40 ← (do
      if (x25) = true then (do
          let e43 ← ix y1.1 1
          let e55 ← ix e43.f_Pieces 1
          some (e55.f_Var == ([98] : List UInt8)))
      else (do
          some false) : Option Bool)
  let x65 ← (do
      if (x40) = true then (do
          let e68 ← ix y1.1 1
          let e80 ← ix e68.f_Pieces 2
          some (e80.f_Lit == ([10] : List UInt8)))
      else (do
          some false) : Option Bool)
  some x65
theorem Law_alive_ns {n : Nat} {r : Bool} (h : Law_alive_n n = some r) : Law_alive = some r := by
  unfold Law_alive_n at h
  unfold Law_alive
  obtain ⟨y1, h_y1, h⟩ := bindO h
  refine bindI (W_Split_ns h_y1) ?_
  obtain ⟨x7, h_x7, h⟩ := bindO h
  refine bindI (a := x7) ?_ ?_
  ·
    rcases ifB h_x7 with ⟨hc_, h_x7⟩ | ⟨hc_, h_x7⟩
    · refine ifT hc_ ?_
      exact h_x7
    · refine ifF hc_ ?_
      exact h_x7
  ·
    obtain ⟨x10, h_x10, h⟩ := bindO h
    refine bindI (a := x10) ?_ ?_
    ·
      rcases ifB h_x10 with ⟨hc_, h_x10⟩ | ⟨hc_, h_x10⟩
      · refine ifT hc_ ?_
        obtain ⟨e13, h_e13, h_x10⟩ := bindO h_x10
        refine bindI h_e13 ?_
        exact h_x10
      · refine ifF hc_ ?_
        exact h_x10
    ·
      obtain ⟨x25, h_x25, h⟩ := bindO h
      refine bindI (a := x25) ?_ ?_
      ·
        rcases ifB h_x25 with ⟨hc_, h_x25⟩ | ⟨hc_, h_x25⟩
        · refine ifT hc_ ?_
          obtain ⟨e28, h_e28, h_x25⟩ := bindO h_x25
          refine bindI h_e28 ?_
          exact h_x25
        · refine ifF hc_ ?_
          exact h_x25
      ·
        obtain ⟨x40, h_x40, h⟩ := bindO h
        refine bindI (a := x40) ?_ ?_
        ·
          rcases ifB h_x40 with ⟨hc_, h_x40⟩ | ⟨hc_, h_x40⟩
          · refine ifT hc_ ?_
            obtain ⟨e43, h_e43, h_x40⟩ := bindO h_x40
            refine bindI h_e43 ?_
            obtain ⟨e55, h_e55, h_x40⟩ := bindO h_x40
            refine bindI h_e55 ?_
            exact h_x40
          · refine ifF hc_ ?_
            exact h_x40
        ·
          obtain ⟨x65, h_x65, h⟩ := bindO h
          refine bindI (a := x65) ?_ ?_
          ·
            rcases ifB h_x65 with ⟨hc_, h_x65⟩ | ⟨hc_, h_x65⟩
            · refine ifT hc_ ?_
              obtain ⟨e68, h_e68, h_x65⟩ := bindO h_x65
              refine bindI h_e68 ?_
              obtain ⟨e80, h_e80, h_x65⟩ := bindO h_x65
              refine bindI h_e80 ?_
              exact h_x65
            · refine ifF hc_ ?_
              exact h_x65
          ·
            exact h
def Law_long_l1_n (n : Nat) (p1 : List W_Piece) (x9 : Int) : Option (Sum Unit Unit) :=
  match n with
  | 0 => none
  | n + 1 => do
    if (decide (x9 < ((p1.length : Int)))) = true then (do
        let e17 ← ix p1 x9
        let x29 ← (do
            if (decide (((e17.f_Var.length : Int)) > 100)) = true then (do
                some true)
            else (do
                some (decide (((e17.f_Lit.length : Int)) > 500))) : Option Bool)
        if (x29) = true then (do
            some (Sum.inr (())))
        else (do
            Law_long_l1_n n p1 (w64 (x9 + 1))))
    else (do
        some (Sum.inl (())))
theorem Law_long_l1_nr : ∀ (n : Nat) (p1 : List W_Piece) (x9 : Int) (r : Sum Unit Unit), Law_long_l1_n n p1 x9 = some r → Law_long_l1 p1 x9 = some r := by
  intro n
  induction n with
  | zero => intro p1 x9 r h; cases h
  | succ n ih =>
    intro p1 x9 r h
    rw [Law_long_l1_n] at h
    rw [Law_long_l1]
    rcases ifB h with ⟨hc_, h⟩ | ⟨hc_, h⟩
    · refine ifT hc_ ?_
      obtain ⟨e17, h_e17, h⟩ := bindO h
      refine bindI h_e17 ?_
      obtain ⟨x29, h_x29, h⟩ := bindO h
      refine bindI (a := x29) ?_ ?_
      ·
        rcases ifB h_x29 with ⟨hc_, h_x29⟩ | ⟨hc_, h_x29⟩
        · refine ifT hc_ ?_
          exact h_x29
        · refine ifF hc_ ?_
          exact h_x29
      ·
        rcases ifB h with ⟨hc_, h⟩ | ⟨hc_, h⟩
        · refine ifT hc_ ?_
          exact h
        · refine ifF hc_ ?_
          exact ih _ _ _ h
    · refine ifF hc_ ?_
      exact h
theorem Law_long_l1_ns {n : Nat} {p1 : List W_Piece} {x9 : Int} {r : Sum Unit Unit} (h : Law_long_l1_n n p1 x9 = some r) : Law_long_l1 p1 x9 = some r := Law_long_l1_nr n p1 x9 r h
def Law_long_n (n : Nat) (p1 : List W_Piece) : Option Bool := do
  if (decide (((p1.length : Int)) > 60)) = true then (do
      some true)
  else (do
      let o10 ← Law_long_l1_n n p1 0
      match o10 with
      | Sum.inl x13 => do
          some false
      | Sum.inr x15 => do
          some true)
theorem Law_long_ns {n : Nat} {p1 : List W_Piece} {r : Bool} (h : Law_long_n n p1 = some r) : Law_long p1 = some r := by
  unfold Law_long_n at h
  unfold Law_long
  rcases ifB h with ⟨hc_, h⟩ | ⟨hc_, h⟩
  · refine ifT hc_ ?_
    exact h
  · refine ifF hc_ ?_
    obtain ⟨o10, h_o10, h⟩ := bindO h
    refine bindI (Law_long_l1_ns h_o10) ?_
    rcases o10 with x_ | x_
    ·
      dsimp only at h ⊢
      exact h
    ·
      dsimp only at h ⊢
      exact h
def Law_Pieces_l1_n (n : Nat) (p1 : List W_Piece) (x12 : Int) (x13 : List R_Piece) : Option (List R_Piece) :=
  match n with
  | 0 => none
  | n + 1 => do
    if (decide (x12 < ((p1.length : Int)))) = true then (do
        let e20 ← ix p1 x12
        let _ ← req ((x13.length + [(⟨e20.f_Var, e20.f_Lit⟩ : R_Piece)].length) * 32 ≤ 140737488355328 ∧ x13.length + [(⟨e20.f_Var, e20.f_Lit⟩ : R_Piece)].length ≤ 9223372036854775807)
        Law_Pieces_l1_n n p1 (w64 (x12 + 1)) (x13 ++ [(⟨e20.f_Var, e20.f_Lit⟩ : R_Piece)]))
    else (do
        some x13)
theorem Law_Pieces_l1_nr : ∀ (n : Nat) (p1 : List W_Piece) (x12 : Int) (x13 : List R_Piece) (r : List R_Piece), Law_Pieces_l1_n n p1 x12 x13 = some r → Law_Pieces_l1 p1 x12 x13 = some r := by
  intro n
  induction n with
  | zero => intro p1 x12 x13 r h; cases h
  | succ n ih =>
    intro p1 x12 x13 r h
    rw [Law_Pieces_l1_n] at h
    rw [Law_Pieces_l1]
    rcases ifB h with ⟨hc_, h⟩ | ⟨hc_, h⟩
    · refine ifT hc_ ?_
      obtain ⟨e20, h_e20, h⟩ := bindO h
      refine bindI h_e20 ?_
      obtain ⟨u_, hu_, h⟩ := bindO h
      refine bindI hu_ ?_
      exact ih _ _ _ _ h
    · refine ifF hc_ ?_
      exact h
theorem Law_Pieces_l1_ns {n : Nat} {p1 : List W_Piece} {x12 : Int} {x13 : List R_Piece} {r : List R_Piece} (h : Law_Pieces_l1_n n p1 x12 x13 = some r) : Law_Pieces_l1 p1 x12 x13 = some r := Law_Pieces_l1_nr n p1 x12 x13 r h
def Law_Pieces_n (n : Nat) (p1 : List W_Piece) : Option (List R_Piece) := do
  let o15 ← Law_Pieces_l1_n n p1 0 (([] : List R_Piece))
  some o15
theorem Law_Pieces_ns {n : Nat} {p1 : List W_Piece} {r : List R_Piece} (h : Law_Pieces_n n p1 = some r) : Law_Pieces p1 = some r := by
  unfold Law_Pieces_n at h
  unfold Law_Pieces
  obtain ⟨o15, h_o15, h⟩ := bindO h
  refine bindI (Law_Pieces_l1_ns h_o15) ?_
  exact h
def R_Figure_n (n : Nat) (p1 : UInt8) : Option Bool := do
  let x2 ← (do
      if (decide (48 ≤ p1)) = true then (do
          some (decide (p1 ≤ 57)))
      else (do
          some false) : Option Bool)
  some x2
theorem R_Figure_ns {n : Nat} {p1 : UInt8} {r : Bool} (h : R_Figure_n n p1 = some r) : R_Figure p1 = some r := by
  unfold R_Figure_n at h
  unfold R_Figure
  obtain ⟨x2, h_x2, h⟩ := bindO h
  refine bindI (a := x2) ?_ ?_
  ·
    rcases ifB h_x2 with ⟨hc_, h_x2⟩ | ⟨hc_, h_x2⟩
    · refine ifT hc_ ?_
      exact h_x2
    · refine ifF hc_ ?_
      exact h_x2
  ·
    exact h
def R_Letter_n (n : Nat) (p1 : UInt8) : Option Bool := do
  let x2 ← (do
      if (decide (97 ≤ p1)) = true then (do
          some (decide (p1 ≤ 122)))
      else (do
          some false) : Option Bool)
  let x5 ← (do
      if (x2) = true then (do
          some true)
      else (do
          let x8 ← (do
              if (decide (65 ≤ p1)) = true then (do
                  some (decide (p1 ≤ 90)))
              else (do
                  some false) : Option Bool)
          some x8) : Option Bool)
  let x11 ← (do
      if (x5) = true then (do
          some true)
      else (do
          some (p1 == 95)) : Option Bool)
  some x11
theorem R_Letter_ns {n : Nat} {p1 : UInt8} {r : Bool} (h : R_Letter_n n p1 = some r) : R_Letter p1 = some r := by
  unfold R_Letter_n at h
  unfold R_Letter
  obtain ⟨x2, h_x2, h⟩ := bindO h
  refine bindI (a := x2) ?_ ?_
  ·
    rcases ifB h_x2 with ⟨hc_, h_x2⟩ | ⟨hc_, h_x2⟩
    · refine ifT hc_ ?_
      exact h_x2
    · refine ifF hc_ ?_
      exact h_x2
  ·
    obtain ⟨x5, h_x5, h⟩ := bindO h
    refine bindI (a := x5) ?_ ?_
    ·
      rcases ifB h_x5 with ⟨hc_, h_x5⟩ | ⟨hc_, h_x5⟩
      · refine ifT hc_ ?_
        exact h_x5
      · refine ifF hc_ ?_
        obtain ⟨x8, h_x8, h_x5⟩ := bindO h_x5
        refine bindI (a := x8) ?_ ?_
        ·
          rcases ifB h_x8 with ⟨hc_, h_x8⟩ | ⟨hc_, h_x8⟩
          · refine ifT hc_ ?_
            exact h_x8
          · refine ifF hc_ ?_
            exact h_x8
        ·
          exact h_x5
    ·
      obtain ⟨x11, h_x11, h⟩ := bindO h
      refine bindI (a := x11) ?_ ?_
      ·
        rcases ifB h_x11 with ⟨hc_, h_x11⟩ | ⟨hc_, h_x11⟩
        · refine ifT hc_ ?_
          exact h_x11
        · refine ifF hc_ ?_
          exact h_x11
      ·
        exact h
def R_span_l1_n (n : Nat) (p2 : Int) (p1 : List UInt8) (p3 : Bool) (x8 : Int) : Option Int :=
  match n with
  | 0 => none
  | n + 1 => do
    let x13 ← (do
        if (decide ((w64 (p2 + x8)) < ((p1.length : Int)))) = true then (do
            let c16 ← ix p1 (w64 (p2 + x8))
            let y18 ← R_Figure_n n c16
            let x23 ← (do
                if (y18) = true then (do
                    some true)
                else (do
                    let x27 ← (do
                        if (p3) = true then (do
                            let c30 ← ix p1 (w64 (p2 + x8))
                            let y32 ← R_Letter_n n c30
                            some y32)
                        else (do
                            some false) : Option Bool)
                    some x27) : Option Bool)
            some x23)
        else (do
            some false) : Option Bool)
    if (x13) = true then (do
        R_span_l1_n n p2 p1 p3 (w64 (x8 + 1)))
    else (do
        some x8)
theorem R_span_l1_nr : ∀ (n : Nat) (p2 : Int) (p1 : List UInt8) (p3 : Bool) (x8 : Int) (r : Int), R_span_l1_n n p2 p1 p3 x8 = some r → R_span_l1 p2 p1 p3 x8 = some r := by
  intro n
  induction n with
  | zero => intro p2 p1 p3 x8 r h; cases h
  | succ n ih =>
    intro p2 p1 p3 x8 r h
    rw [R_span_l1_n] at h
    rw [R_span_l1]
    obtain ⟨x13, h_x13, h⟩ := bindO h
    refine bindI (a := x13) ?_ ?_
    ·
      rcases ifB h_x13 with ⟨hc_, h_x13⟩ | ⟨hc_, h_x13⟩
      · refine ifT hc_ ?_
        obtain ⟨c16, h_c16, h_x13⟩ := bindO h_x13
        refine bindI h_c16 ?_
        obtain ⟨y18, h_y18, h_x13⟩ := bindO h_x13
        refine bindI (R_Figure_ns h_y18) ?_
        obtain ⟨x23, h_x23, h_x13⟩ := bindO h_x13
        refine bindI (a := x23) ?_ ?_
        ·
          rcases ifB h_x23 with ⟨hc_, h_x23⟩ | ⟨hc_, h_x23⟩
          · refine ifT hc_ ?_
            exact h_x23
          · refine ifF hc_ ?_
            obtain ⟨x27, h_x27, h_x23⟩ := bindO h_x23
            refine bindI (a := x27) ?_ ?_
            ·
              rcases ifB h_x27 with ⟨hc_, h_x27⟩ | ⟨hc_, h_x27⟩
              · refine ifT hc_ ?_
                obtain ⟨c30, h_c30, h_x27⟩ := bindO h_x27
                refine bindI h_c30 ?_
                obtain ⟨y32, h_y32, h_x27⟩ := bindO h_x27
                refine bindI (R_Letter_ns h_y32) ?_
                exact h_x27
              · refine ifF hc_ ?_
                exact h_x27
            ·
              exact h_x23
        ·
          exact h_x13
      · refine ifF hc_ ?_
        exact h_x13
    ·
      rcases ifB h with ⟨hc_, h⟩ | ⟨hc_, h⟩
      · refine ifT hc_ ?_
        exact ih _ _ _ _ _ h
      · refine ifF hc_ ?_
        exact h
theorem R_span_l1_ns {n : Nat} {p2 : Int} {p1 : List UInt8} {p3 : Bool} {x8 : Int} {r : Int} (h : R_span_l1_n n p2 p1 p3 x8 = some r) : R_span_l1 p2 p1 p3 x8 = some r := R_span_l1_nr n p2 p1 p3 x8 r h
def R_span_n (n : Nat) (p1 : List UInt8) (p2 : Int) (p3 : Bool) : Option Int := do
  let o9 ← R_span_l1_n n p2 p1 p3 0
  some o9
theorem R_span_ns {n : Nat} {p1 : List UInt8} {p2 : Int} {p3 : Bool} {r : Int} (h : R_span_n n p1 p2 p3 = some r) : R_span p1 p2 p3 = some r := by
  unfold R_span_n at h
  unfold R_span
  obtain ⟨o9, h_o9, h⟩ := bindO h
  refine bindI (R_span_l1_ns h_o9) ?_
  exact h
def R_Named_n (n : Nat) (p1 : List UInt8) : Option Bool := do
  let x2 ← (do
      if (((p1.length : Int)) == 0) = true then (do
          some true)
      else (do
          some (decide (((p1.length : Int)) > 24))) : Option Bool)
  let x6 ← (do
      if (x2) = true then (do
          some true)
      else (do
          let y9 ← R_span_n n p1 0 true
          some (y9 != ((p1.length : Int)))) : Option Bool)
  if (x6) = true then (do
      some false)
  else (do
      let c14 ← ix p1 0
      let y16 ← R_Letter_n n c14
      let x20 ← (do
          if (y16) = true then (do
              some true)
          else (do
              some (((p1.length : Int)) == 1)) : Option Bool)
      some x20)
theorem R_Named_ns {n : Nat} {p1 : List UInt8} {r : Bool} (h : R_Named_n n p1 = some r) : R_Named p1 = some r := by
  unfold R_Named_n at h
  unfold R_Named
  obtain ⟨x2, h_x2, h⟩ := bindO h
  refine bindI (a := x2) ?_ ?_
  ·
    rcases ifB h_x2 with ⟨hc_, h_x2⟩ | ⟨hc_, h_x2⟩
    · refine ifT hc_ ?_
      exact h_x2
    · refine ifF hc_ ?_
      exact h_x2
  ·
    obtain ⟨x6, h_x6, h⟩ := bindO h
    refine bindI (a := x6) ?_ ?_
    ·
      rcases ifB h_x6 with ⟨hc_, h_x6⟩ | ⟨hc_, h_x6⟩
      · refine ifT hc_ ?_
        exact h_x6
      · refine ifF hc_ ?_
        obtain ⟨y9, h_y9, h_x6⟩ := bindO h_x6
        refine bindI (R_span_ns h_y9) ?_
        exact h_x6
    ·
      rcases ifB h with ⟨hc_, h⟩ | ⟨hc_, h⟩
      · refine ifT hc_ ?_
        exact h
      · refine ifF hc_ ?_
        obtain ⟨c14, h_c14, h⟩ := bindO h
        refine bindI h_c14 ?_
        obtain ⟨y16, h_y16, h⟩ := bindO h
        refine bindI (R_Letter_ns h_y16) ?_
        obtain ⟨x20, h_x20, h⟩ := bindO h
        refine bindI (a := x20) ?_ ?_
        ·
          rcases ifB h_x20 with ⟨hc_, h_x20⟩ | ⟨hc_, h_x20⟩
          · refine ifT hc_ ?_
            exact h_x20
          · refine ifF hc_ ?_
            exact h_x20
        ·
          exact h
def R_Right_l1_n (n : Nat) (p1 : List R_Piece) (x8 : Int) : Option (Sum Unit Unit) :=
  match n with
  | 0 => none
  | n + 1 => do
    if (decide (x8 < ((p1.length : Int)))) = true then (do
        let e16 ← ix p1 x8
        let x29 ← (do
            if ((decide (((e16.f_Var.length : Int)) > 0)) == (decide (((e16.f_Lit.length : Int)) > 0))) = true then (do
                some true)
            else (do
                let x33 ← (do
                    if (decide (((e16.f_Var.length : Int)) > 0)) = true then (do
                        let y36 ← R_Named_n n e16.f_Var
                        some (!y36))
                    else (do
                        some false) : Option Bool)
                some x33) : Option Bool)
        let x40 ← (do
            if (x29) = true then (do
                some true)
            else (do
                some (decide (((e16.f_Lit.length : Int)) > 400))) : Option Bool)
        if (x40) = true then (do
            some (Sum.inr (())))
        else (do
            let x44 ← (do
                if (decide (x8 > 0)) = true then (do
                    some (decide (((e16.f_Lit.length : Int)) > 0)))
                else (do
                    some false) : Option Bool)
            let x47 ← (do
                if (x44) = true then (do
                    let e50 ← ix p1 (w64 (x8 - 1))
                    some (decide (((e50.f_Lit.length : Int)) > 0)))
                else (do
                    some false) : Option Bool)
            if (x47) = true then (do
                some (Sum.inr (())))
            else (do
                R_Right_l1_n n p1 (w64 (x8 + 1)))))
    else (do
        some (Sum.inl (())))
theorem R_Right_l1_nr : ∀ (n : Nat) (p1 : List R_Piece) (x8 : Int) (r : Sum Unit Unit), R_Right_l1_n n p1 x8 = some r → R_Right_l1 p1 x8 = some r := by
  intro n
  induction n with
  | zero => intro p1 x8 r h; cases h
  | succ n ih =>
    intro p1 x8 r h
    rw [R_Right_l1_n] at h
    rw [R_Right_l1]
    rcases ifB h with ⟨hc_, h⟩ | ⟨hc_, h⟩
    · refine ifT hc_ ?_
      obtain ⟨e16, h_e16, h⟩ := bindO h
      refine bindI h_e16 ?_
      obtain ⟨x29, h_x29, h⟩ := bindO h
      refine bindI (a := x29) ?_ ?_
      ·
        rcases ifB h_x29 with ⟨hc_, h_x29⟩ | ⟨hc_, h_x29⟩
        · refine ifT hc_ ?_
          exact h_x29
        · refine ifF hc_ ?_
          obtain ⟨x33, h_x33, h_x29⟩ := bindO h_x29
          refine bindI (a := x33) ?_ ?_
          ·
            rcases ifB h_x33 with ⟨hc_, h_x33⟩ | ⟨hc_, h_x33⟩
            · refine ifT hc_ ?_
              obtain ⟨y36, h_y36, h_x33⟩ := bindO h_x33
              refine bindI (R_Named_ns h_y36) ?_
              exact h_x33
            · refine ifF hc_ ?_
              exact h_x33
          ·
            exact h_x29
      ·
        obtain ⟨x40, h_x40, h⟩ := bindO h
        refine bindI (a := x40) ?_ ?_
        ·
          rcases ifB h_x40 with ⟨hc_, h_x40⟩ | ⟨hc_, h_x40⟩
          · refine ifT hc_ ?_
            exact h_x40
          · refine ifF hc_ ?_
            exact h_x40
        ·
          rcases ifB h with ⟨hc_, h⟩ | ⟨hc_, h⟩
          · refine ifT hc_ ?_
            exact h
          · refine ifF hc_ ?_
            obtain ⟨x44, h_x44, h⟩ := bindO h
            refine bindI (a := x44) ?_ ?_
            ·
              rcases ifB h_x44 with ⟨hc_, h_x44⟩ | ⟨hc_, h_x44⟩
              · refine ifT hc_ ?_
                exact h_x44
              · refine ifF hc_ ?_
                exact h_x44
            ·
              obtain ⟨x47, h_x47, h⟩ := bindO h
              refine bindI (a := x47) ?_ ?_
              ·
                rcases ifB h_x47 with ⟨hc_, h_x47⟩ | ⟨hc_, h_x47⟩
                · refine ifT hc_ ?_
                  obtain ⟨e50, h_e50, h_x47⟩ := bindO h_x47
                  refine bindI h_e50 ?_
                  exact h_x47
                · refine ifF hc_ ?_
                  exact h_x47
              ·
                rcases ifB h with ⟨hc_, h⟩ | ⟨hc_, h⟩
                · refine ifT hc_ ?_
                  exact h
                · refine ifF hc_ ?_
                  exact ih _ _ _ h
    · refine ifF hc_ ?_
      exact h
theorem R_Right_l1_ns {n : Nat} {p1 : List R_Piece} {x8 : Int} {r : Sum Unit Unit} (h : R_Right_l1_n n p1 x8 = some r) : R_Right_l1 p1 x8 = some r := R_Right_l1_nr n p1 x8 r h
def R_Right_n (n : Nat) (p1 : List R_Piece) : Option Bool := do
  let o9 ← R_Right_l1_n n p1 0
  match o9 with
  | Sum.inl x12 => do
      some (decide (((p1.length : Int)) ≤ 40))
  | Sum.inr x14 => do
      some false
theorem R_Right_ns {n : Nat} {p1 : List R_Piece} {r : Bool} (h : R_Right_n n p1 = some r) : R_Right p1 = some r := by
  unfold R_Right_n at h
  unfold R_Right
  obtain ⟨o9, h_o9, h⟩ := bindO h
  refine bindI (R_Right_l1_ns h_o9) ?_
  rcases o9 with x_ | x_
  ·
    dsimp only at h ⊢
    exact h
  ·
    dsimp only at h ⊢
    exact h
def R_Quote_l2_n (n : Nat) (e18 : R_Piece) (x9 : Int) (p1 : List R_Piece) (x38 : Int) (x39 : List UInt8) : Option (List UInt8) :=
  match n with
  | 0 => none
  | n + 1 => do
    if (decide (x38 < ((e18.f_Lit.length : Int)))) = true then (do
        let x45 ← (do
            let c47 ← ix e18.f_Lit x38
            let x49 ← (do
                if (x38 == 0) = true then (do
                    some (decide (x9 > 0)))
                else (do
                    some false) : Option Bool)
            let x53 ← (do
                if (x49) = true then (do
                    let e56 ← ix p1 (w64 (x9 - 1))
                    let c66 ← ix e56.f_Var 0
                    let y68 ← R_Letter_n n c66
                    some y68)
                else (do
                    some false) : Option Bool)
            let x73 ← (do
                if (x53) = true then (do
                    let y76 ← R_Letter_n n c47
                    let x81 ← (do
                        if (y76) = true then (do
                            some true)
                        else (do
                            let y84 ← R_Figure_n n c47
                            some y84) : Option Bool)
                    some x81)
                else (do
                    some false) : Option Bool)
            if (c47 == 10) = true then (do
                let _ ← req (x39.length + ([92, 110] : List UInt8).length ≤ 9223372036854775807)
                some (x39 ++ ([92, 110] : List UInt8)))
            else (do
                if (c47 == 13) = true then (do
                    let _ ← req (x39.length + ([92, 114] : List UInt8).length ≤ 9223372036854775807)
                    some (x39 ++ ([92, 114] : List UInt8)))
                else (do
                    if (c47 == 9) = true then (do
                        let _ ← req (x39.length + ([92, 116] : List UInt8).length ≤ 9223372036854775807)
                        some (x39 ++ ([92, 116] : List UInt8)))
                    else (do
                        let x94 ← (do
                            if (c47 == 34) = true then (do
                                some true)
                            else (do
                                some (c47 == 36)) : Option Bool)
                        let x97 ← (do
                            if (x94) = true then (do
                                some true)
                            else (do
                                some (c47 == 92)) : Option Bool)
                        if (x97) = true then (do
                            let s101 ← cutL e18.f_Lit x38 ((w64 (x38 + 1)))
                            let _ ← req (([92] : List UInt8).length + s101.length ≤ 9223372036854775807)
                            let _ ← req (x39.length + (([92] : List UInt8) ++ s101).length ≤ 9223372036854775807)
                            some (x39 ++ (([92] : List UInt8) ++ s101)))
                        else (do
                            let x105 ← (do
                                if (decide (32 ≤ c47)) = true then (do
                                    some (decide (c47 < 127)))
                                else (do
                                    some false) : Option Bool)
                            let x108 ← (do
                                if (x105) = true then (do
                                    some (!x73))
                                else (do
                                    some false) : Option Bool)
                            if (x108) = true then (do
                                let s112 ← cutL e18.f_Lit x38 ((w64 (x38 + 1)))
                                let _ ← req (x39.length + s112.length ≤ 9223372036854775807)
                                some (x39 ++ s112))
                            else (do
                                let q115 ← bquo c47 16
                                let q117 ← bquo c47 16
                                let s119 ← cutL ([48, 49, 50, 51, 52, 53, 54, 55, 56, 57, 97, 98, 99, 100, 101, 102] : List UInt8) ((b8 q115)) ((b8 (q117 + 1)))
                                let _ ← req (([92, 120] : List UInt8).length + s119.length ≤ 9223372036854775807)
                                let q122 ← brem c47 16
                                let q124 ← brem c47 16
                                let s126 ← cutL ([48, 49, 50, 51, 52, 53, 54, 55, 56, 57, 97, 98, 99, 100, 101, 102] : List UInt8) ((b8 q122)) ((b8 (q124 + 1)))
                                let _ ← req ((([92, 120] : List UInt8) ++ s119).length + s126.length ≤ 9223372036854775807)
                                let _ ← req (x39.length + ((([92, 120] : List UInt8) ++ s119) ++ s126).length ≤ 9223372036854775807)
                                some (x39 ++ ((([92, 120] : List UInt8) ++ s119) ++ s126))))))) : Option (List UInt8))
        R_Quote_l2_n n e18 x9 p1 (w64 (x38 + 1)) x45)
    else (do
        some x39)
theorem R_Quote_l2_nr : ∀ (n : Nat) (e18 : R_Piece) (x9 : Int) (p1 : List R_Piece) (x38 : Int) (x39 : List UInt8) (r : List UInt8), R_Quote_l2_n n e18 x9 p1 x38 x39 = some r → R_Quote_l2 e18 x9 p1 x38 x39 = some r := by
  intro n
  induction n with
  | zero => intro e18 x9 p1 x38 x39 r h; cases h
  | succ n ih =>
    intro e18 x9 p1 x38 x39 r h
    rw [R_Quote_l2_n] at h
    rw [R_Quote_l2]
    rcases ifB h with ⟨hc_, h⟩ | ⟨hc_, h⟩
    · refine ifT hc_ ?_
      obtain ⟨x45, h_x45, h⟩ := bindO h
      refine bindI (a := x45) ?_ ?_
      ·
        obtain ⟨c47, h_c47, h_x45⟩ := bindO h_x45
        refine bindI h_c47 ?_
        obtain ⟨x49, h_x49, h_x45⟩ := bindO h_x45
        refine bindI (a := x49) ?_ ?_
        ·
          rcases ifB h_x49 with ⟨hc_, h_x49⟩ | ⟨hc_, h_x49⟩
          · refine ifT hc_ ?_
            exact h_x49
          · refine ifF hc_ ?_
            exact h_x49
        ·
          obtain ⟨x53, h_x53, h_x45⟩ := bindO h_x45
          refine bindI (a := x53) ?_ ?_
          ·
            rcases ifB h_x53 with ⟨hc_, h_x53⟩ | ⟨hc_, h_x53⟩
            · refine ifT hc_ ?_
              obtain ⟨e56, h_e56, h_x53⟩ := bindO h_x53
              refine bindI h_e56 ?_
              obtain ⟨c66, h_c66, h_x53⟩ := bindO h_x53
              refine bindI h_c66 ?_
              obtain ⟨y68, h_y68, h_x53⟩ := bindO h_x53
              refine bindI (R_Letter_ns h_y68) ?_
              exact h_x53
            · refine ifF hc_ ?_
              exact h_x53
          ·
            obtain ⟨x73, h_x73, h_x45⟩ := bindO h_x45
            refine bindI (a := x73) ?_ ?_
            ·
              rcases ifB h_x73 with ⟨hc_, h_x73⟩ | ⟨hc_, h_x73⟩
              · refine ifT hc_ ?_
                obtain ⟨y76, h_y76, h_x73⟩ := bindO h_x73
                refine bindI (R_Letter_ns h_y76) ?_
                obtain ⟨x81, h_x81, h_x73⟩ := bindO h_x73
                refine bindI (a := x81) ?_ ?_
                ·
                  rcases ifB h_x81 with ⟨hc_, h_x81⟩ | ⟨hc_, h_x81⟩
                  · refine ifT hc_ ?_
                    exact h_x81
                  · refine ifF hc_ ?_
                    obtain ⟨y84, h_y84, h_x81⟩ := bindO h_x81
                    refine bindI (R_Figure_ns h_y84) ?_
                    exact h_x81
                ·
                  exact h_x73
              · refine ifF hc_ ?_
                exact h_x73
            ·
              rcases ifB h_x45 with ⟨hc_, h_x45⟩ | ⟨hc_, h_x45⟩
              · refine ifT hc_ ?_
                obtain ⟨u_, hu_, h_x45⟩ := bindO h_x45
                refine bindI hu_ ?_
                exact h_x45
              · refine ifF hc_ ?_
                rcases ifB h_x45 with ⟨hc_, h_x45⟩ | ⟨hc_, h_x45⟩
                · refine ifT hc_ ?_
                  obtain ⟨u_, hu_, h_x45⟩ := bindO h_x45
                  refine bindI hu_ ?_
                  exact h_x45
                · refine ifF hc_ ?_
                  rcases ifB h_x45 with ⟨hc_, h_x45⟩ | ⟨hc_, h_x45⟩
                  · refine ifT hc_ ?_
                    obtain ⟨u_, hu_, h_x45⟩ := bindO h_x45
                    refine bindI hu_ ?_
                    exact h_x45
                  · refine ifF hc_ ?_
                    obtain ⟨x94, h_x94, h_x45⟩ := bindO h_x45
                    refine bindI (a := x94) ?_ ?_
                    ·
                      rcases ifB h_x94 with ⟨hc_, h_x94⟩ | ⟨hc_, h_x94⟩
                      · refine ifT hc_ ?_
                        exact h_x94
                      · refine ifF hc_ ?_
                        exact h_x94
                    ·
                      obtain ⟨x97, h_x97, h_x45⟩ := bindO h_x45
                      refine bindI (a := x97) ?_ ?_
                      ·
                        rcases ifB h_x97 with ⟨hc_, h_x97⟩ | ⟨hc_, h_x97⟩
                        · refine ifT hc_ ?_
                          exact h_x97
                        · refine ifF hc_ ?_
                          exact h_x97
                      ·
                        rcases ifB h_x45 with ⟨hc_, h_x45⟩ | ⟨hc_, h_x45⟩
                        · refine ifT hc_ ?_
                          obtain ⟨s101, h_s101, h_x45⟩ := bindO h_x45
                          refine bindI h_s101 ?_
                          obtain ⟨u_, hu_, h_x45⟩ := bindO h_x45
                          refine bindI hu_ ?_
                          obtain ⟨u_, hu_, h_x45⟩ := bindO h_x45
                          refine bindI hu_ ?_
                          exact h_x45
                        · refine ifF hc_ ?_
                          obtain ⟨x105, h_x105, h_x45⟩ := bindO h_x45
                          refine bindI (a := x105) ?_ ?_
                          ·
                            rcases ifB h_x105 with ⟨hc_, h_x105⟩ | ⟨hc_, h_x105⟩
                            · refine ifT hc_ ?_
                              exact h_x105
                            · refine ifF hc_ ?_
                              exact h_x105
                          ·
                            obtain ⟨x108, h_x108, h_x45⟩ := bindO h_x45
                            refine bindI (a := x108) ?_ ?_
                            ·
                              rcases ifB h_x108 with ⟨hc_, h_x108⟩ | ⟨hc_, h_x108⟩
                              · refine ifT hc_ ?_
                                exact h_x108
                              · refine ifF hc_ ?_
                                exact h_x108
                            ·
                              rcases ifB h_x45 with ⟨hc_, h_x45⟩ | ⟨hc_, h_x45⟩
                              · refine ifT hc_ ?_
                                obtain ⟨s112, h_s112, h_x45⟩ := bindO h_x45
                                refine bindI h_s112 ?_
                                obtain ⟨u_, hu_, h_x45⟩ := bindO h_x45
                                refine bindI hu_ ?_
                                exact h_x45
                              · refine ifF hc_ ?_
                                obtain ⟨q115, h_q115, h_x45⟩ := bindO h_x45
                                refine bindI h_q115 ?_
                                obtain ⟨q117, h_q117, h_x45⟩ := bindO h_x45
                                refine bindI h_q117 ?_
                                obtain ⟨s119, h_s119, h_x45⟩ := bindO h_x45
                                refine bindI h_s119 ?_
                                obtain ⟨u_, hu_, h_x45⟩ := bindO h_x45
                                refine bindI hu_ ?_
                                obtain ⟨q122, h_q122, h_x45⟩ := bindO h_x45
                                refine bindI h_q122 ?_
                                obtain ⟨q124, h_q124, h_x45⟩ := bindO h_x45
                                refine bindI h_q124 ?_
                                obtain ⟨s126, h_s126, h_x45⟩ := bindO h_x45
                                refine bindI h_s126 ?_
                                obtain ⟨u_, hu_, h_x45⟩ := bindO h_x45
                                refine bindI hu_ ?_
                                obtain ⟨u_, hu_, h_x45⟩ := bindO h_x45
                                refine bindI hu_ ?_
                                exact h_x45
      ·
        exact ih _ _ _ _ _ _ h
    · refine ifF hc_ ?_
      exact h
theorem R_Quote_l2_ns {n : Nat} {e18 : R_Piece} {x9 : Int} {p1 : List R_Piece} {x38 : Int} {x39 : List UInt8} {r : List UInt8} (h : R_Quote_l2_n n e18 x9 p1 x38 x39 = some r) : R_Quote_l2 e18 x9 p1 x38 x39 = some r := R_Quote_l2_nr n e18 x9 p1 x38 x39 r h
def R_Quote_l1_n (n : Nat) (p1 : List R_Piece) (x9 : Int) (x10 : List UInt8) : Option (List UInt8) :=
  match n with
  | 0 => none
  | n + 1 => do
    if (decide (x9 < ((p1.length : Int)))) = true then (do
        let x16 ← (do
            let e18 ← ix p1 x9
            if (decide (((e18.f_Var.length : Int)) > 0)) = true then (do
                let _ ← req (([36] : List UInt8).length + e18.f_Var.length ≤ 9223372036854775807)
                let _ ← req (x10.length + (([36] : List UInt8) ++ e18.f_Var).length ≤ 9223372036854775807)
                some (x10 ++ (([36] : List UInt8) ++ e18.f_Var)))
            else (do
                let o40 ← R_Quote_l2_n n e18 x9 p1 0 x10
                some o40) : Option (List UInt8))
        R_Quote_l1_n n p1 (w64 (x9 + 1)) x16)
    else (do
        some x10)
theorem R_Quote_l1_nr : ∀ (n : Nat) (p1 : List R_Piece) (x9 : Int) (x10 : List UInt8) (r : List UInt8), R_Quote_l1_n n p1 x9 x10 = some r → R_Quote_l1 p1 x9 x10 = some r := by
  intro n
  induction n with
  | zero => intro p1 x9 x10 r h; cases h
  | succ n ih =>
    intro p1 x9 x10 r h
    rw [R_Quote_l1_n] at h
    rw [R_Quote_l1]
    rcases ifB h with ⟨hc_, h⟩ | ⟨hc_, h⟩
    · refine ifT hc_ ?_
      obtain ⟨x16, h_x16, h⟩ := bindO h
      refine bindI (a := x16) ?_ ?_
      ·
        obtain ⟨e18, h_e18, h_x16⟩ := bindO h_x16
        refine bindI h_e18 ?_
        rcases ifB h_x16 with ⟨hc_, h_x16⟩ | ⟨hc_, h_x16⟩
        · refine ifT hc_ ?_
          obtain ⟨u_, hu_, h_x16⟩ := bindO h_x16
          refine bindI hu_ ?_
          obtain ⟨u_, hu_, h_x16⟩ := bindO h_x16
          refine bindI hu_ ?_
          exact h_x16
        · refine ifF hc_ ?_
          obtain ⟨o40, h_o40, h_x16⟩ := bindO h_x16
          refine bindI (R_Quote_l2_ns h_o40) ?_
          exact h_x16
      ·
        exact ih _ _ _ _ h
    · refine ifF hc_ ?_
      exact h
theorem R_Quote_l1_ns {n : Nat} {p1 : List R_Piece} {x9 : Int} {x10 : List UInt8} {r : List UInt8} (h : R_Quote_l1_n n p1 x9 x10 = some r) : R_Quote_l1 p1 x9 x10 = some r := R_Quote_l1_nr n p1 x9 x10 r h
def R_Quote_n (n : Nat) (p1 : List R_Piece) : Option (List UInt8) := do
  let o11 ← R_Quote_l1_n n p1 0 ([34] : List UInt8)
  let _ ← req (o11.length + ([34] : List UInt8).length ≤ 9223372036854775807)
  some (o11 ++ ([34] : List UInt8))
theorem R_Quote_ns {n : Nat} {p1 : List R_Piece} {r : List UInt8} (h : R_Quote_n n p1 = some r) : R_Quote p1 = some r := by
  unfold R_Quote_n at h
  unfold R_Quote
  obtain ⟨o11, h_o11, h⟩ := bindO h
  refine bindI (R_Quote_l1_ns h_o11) ?_
  obtain ⟨u_, hu_, h⟩ := bindO h
  refine bindI hu_ ?_
  exact h
def W_named_l1_n (n : Nat) (p1 : List UInt8) (x21 : Int) : Option (Sum Unit Unit) :=
  match n with
  | 0 => none
  | n + 1 => do
    if (decide (x21 < ((p1.length : Int)))) = true then (do
        let e29 ← ix p1 x21
        let y39 ← W_goes_n n e29
        if (!y39) = true then (do
            some (Sum.inr (())))
        else (do
            W_named_l1_n n p1 (w64 (x21 + 1))))
    else (do
        some (Sum.inl (())))
theorem W_named_l1_nr : ∀ (n : Nat) (p1 : List UInt8) (x21 : Int) (r : Sum Unit Unit), W_named_l1_n n p1 x21 = some r → W_named_l1 p1 x21 = some r := by
  intro n
  induction n with
  | zero => intro p1 x21 r h; cases h
  | succ n ih =>
    intro p1 x21 r h
    rw [W_named_l1_n] at h
    rw [W_named_l1]
    rcases ifB h with ⟨hc_, h⟩ | ⟨hc_, h⟩
    · refine ifT hc_ ?_
      obtain ⟨e29, h_e29, h⟩ := bindO h
      refine bindI h_e29 ?_
      obtain ⟨y39, h_y39, h⟩ := bindO h
      refine bindI (W_goes_ns h_y39) ?_
      rcases ifB h with ⟨hc_, h⟩ | ⟨hc_, h⟩
      · refine ifT hc_ ?_
        exact h
      · refine ifF hc_ ?_
        exact ih _ _ _ h
    · refine ifF hc_ ?_
      exact h
theorem W_named_l1_ns {n : Nat} {p1 : List UInt8} {x21 : Int} {r : Sum Unit Unit} (h : W_named_l1_n n p1 x21 = some r) : W_named_l1 p1 x21 = some r := W_named_l1_nr n p1 x21 r h
def W_named_n (n : Nat) (p1 : List UInt8) : Option Bool := do
  let x3 ← (do
      if (((p1.length : Int)) == 1) = true then (do
          let c6 ← ix p1 0
          let y8 ← W_figure_n n c6
          some y8)
      else (do
          some false) : Option Bool)
  if (x3) = true then (do
      some true)
  else (do
      let _ ← req (p1.length ≤ 9223372036854775807)
      let o22 ← W_named_l1_n n p1 0
      match o22 with
      | Sum.inl x25 => do
          let x44 ← (do
              if (p1 != ([] : List UInt8)) = true then (do
                  some (decide (((p1.length : Int)) ≤ 24)))
              else (do
                  some false) : Option Bool)
          let x48 ← (do
              if (x44) = true then (do
                  let c51 ← ix p1 0
                  let y53 ← W_begins_n n c51
                  some y53)
              else (do
                  some false) : Option Bool)
          some x48
      | Sum.inr x27 => do
          some false)
theorem W_named_ns {n : Nat} {p1 : List UInt8} {r : Bool} (h : W_named_n n p1 = some r) : W_named p1 = some r := by
  unfold W_named_n at h
  unfold W_named
  obtain ⟨x3, h_x3, h⟩ := bindO h
  refine bindI (a := x3) ?_ ?_
  ·
    rcases ifB h_x3 with ⟨hc_, h_x3⟩ | ⟨hc_, h_x3⟩
    · refine ifT hc_ ?_
      obtain ⟨c6, h_c6, h_x3⟩ := bindO h_x3
      refine bindI h_c6 ?_
      obtain ⟨y8, h_y8, h_x3⟩ := bindO h_x3
      refine bindI (W_figure_ns h_y8) ?_
      exact h_x3
    · refine ifF hc_ ?_
      exact h_x3
  ·
    rcases ifB h with ⟨hc_, h⟩ | ⟨hc_, h⟩
    · refine ifT hc_ ?_
      exact h
    · refine ifF hc_ ?_
      obtain ⟨u_, hu_, h⟩ := bindO h
      refine bindI hu_ ?_
      obtain ⟨o22, h_o22, h⟩ := bindO h
      refine bindI (W_named_l1_ns h_o22) ?_
      rcases o22 with x_ | x_
      ·
        dsimp only at h ⊢
        obtain ⟨x44, h_x44, h⟩ := bindO h
        refine bindI (a := x44) ?_ ?_
        ·
          rcases ifB h_x44 with ⟨hc_, h_x44⟩ | ⟨hc_, h_x44⟩
          · refine ifT hc_ ?_
            exact h_x44
          · refine ifF hc_ ?_
            exact h_x44
        ·
          obtain ⟨x48, h_x48, h⟩ := bindO h
          refine bindI (a := x48) ?_ ?_
          ·
            rcases ifB h_x48 with ⟨hc_, h_x48⟩ | ⟨hc_, h_x48⟩
            · refine ifT hc_ ?_
              obtain ⟨c51, h_c51, h_x48⟩ := bindO h_x48
              refine bindI h_c51 ?_
              obtain ⟨y53, h_y53, h_x48⟩ := bindO h_x48
              refine bindI (W_begins_ns h_y53) ?_
              exact h_x48
            · refine ifF hc_ ?_
              exact h_x48
          ·
            exact h
      ·
        dsimp only at h ⊢
        exact h
def W_Right_l1_n (n : Nat) (p1 : List W_Piece) (x8 : Int) : Option (Sum Unit Unit) :=
  match n with
  | 0 => none
  | n + 1 => do
    if (decide (x8 < ((p1.length : Int)))) = true then (do
        let e16 ← ix p1 x8
        let x29 ← (do
            if (e16.f_Var != ([] : List UInt8)) = true then (do
                let x33 ← (do
                    if (e16.f_Lit != ([] : List UInt8)) = true then (do
                        some true)
                    else (do
                        let y36 ← W_named_n n e16.f_Var
                        some (!y36)) : Option Bool)
                some x33)
            else (do
                some false) : Option Bool)
        if (x29) = true then (do
            some (Sum.inr (())))
        else (do
            let x41 ← (do
                if (e16.f_Var == ([] : List UInt8)) = true then (do
                    let x44 ← (do
                        if (e16.f_Lit == ([] : List UInt8)) = true then (do
                            some true)
                        else (do
                            let x47 ← (do
                                if (decide (x8 > 0)) = true then (do
                                    let e50 ← ix p1 (w64 (x8 - 1))
                                    some (e50.f_Var == ([] : List UInt8)))
                                else (do
                                    some false) : Option Bool)
                            some x47) : Option Bool)
                    some x44)
                else (do
                    some false) : Option Bool)
            if (x41) = true then (do
                some (Sum.inr (())))
            else (do
                W_Right_l1_n n p1 (w64 (x8 + 1)))))
    else (do
        some (Sum.inl (())))
theorem W_Right_l1_nr : ∀ (n : Nat) (p1 : List W_Piece) (x8 : Int) (r : Sum Unit Unit), W_Right_l1_n n p1 x8 = some r → W_Right_l1 p1 x8 = some r := by
  intro n
  induction n with
  | zero => intro p1 x8 r h; cases h
  | succ n ih =>
    intro p1 x8 r h
    rw [W_Right_l1_n] at h
    rw [W_Right_l1]
    rcases ifB h with ⟨hc_, h⟩ | ⟨hc_, h⟩
    · refine ifT hc_ ?_
      obtain ⟨e16, h_e16, h⟩ := bindO h
      refine bindI h_e16 ?_
      obtain ⟨x29, h_x29, h⟩ := bindO h
      refine bindI (a := x29) ?_ ?_
      ·
        rcases ifB h_x29 with ⟨hc_, h_x29⟩ | ⟨hc_, h_x29⟩
        · refine ifT hc_ ?_
          obtain ⟨x33, h_x33, h_x29⟩ := bindO h_x29
          refine bindI (a := x33) ?_ ?_
          ·
            rcases ifB h_x33 with ⟨hc_, h_x33⟩ | ⟨hc_, h_x33⟩
            · refine ifT hc_ ?_
              exact h_x33
            · refine ifF hc_ ?_
              obtain ⟨y36, h_y36, h_x33⟩ := bindO h_x33
              refine bindI (W_named_ns h_y36) ?_
              exact h_x33
          ·
            exact h_x29
        · refine ifF hc_ ?_
          exact h_x29
      ·
        rcases ifB h with ⟨hc_, h⟩ | ⟨hc_, h⟩
        · refine ifT hc_ ?_
          exact h
        · refine ifF hc_ ?_
          obtain ⟨x41, h_x41, h⟩ := bindO h
          refine bindI (a := x41) ?_ ?_
          ·
            rcases ifB h_x41 with ⟨hc_, h_x41⟩ | ⟨hc_, h_x41⟩
            · refine ifT hc_ ?_
              obtain ⟨x44, h_x44, h_x41⟩ := bindO h_x41
              refine bindI (a := x44) ?_ ?_
              ·
                rcases ifB h_x44 with ⟨hc_, h_x44⟩ | ⟨hc_, h_x44⟩
                · refine ifT hc_ ?_
                  exact h_x44
                · refine ifF hc_ ?_
                  obtain ⟨x47, h_x47, h_x44⟩ := bindO h_x44
                  refine bindI (a := x47) ?_ ?_
                  ·
                    rcases ifB h_x47 with ⟨hc_, h_x47⟩ | ⟨hc_, h_x47⟩
                    · refine ifT hc_ ?_
                      obtain ⟨e50, h_e50, h_x47⟩ := bindO h_x47
                      refine bindI h_e50 ?_
                      exact h_x47
                    · refine ifF hc_ ?_
                      exact h_x47
                  ·
                    exact h_x44
              ·
                exact h_x41
            · refine ifF hc_ ?_
              exact h_x41
          ·
            rcases ifB h with ⟨hc_, h⟩ | ⟨hc_, h⟩
            · refine ifT hc_ ?_
              exact h
            · refine ifF hc_ ?_
              exact ih _ _ _ h
    · refine ifF hc_ ?_
      exact h
theorem W_Right_l1_ns {n : Nat} {p1 : List W_Piece} {x8 : Int} {r : Sum Unit Unit} (h : W_Right_l1_n n p1 x8 = some r) : W_Right_l1 p1 x8 = some r := W_Right_l1_nr n p1 x8 r h
def W_Right_n (n : Nat) (p1 : List W_Piece) : Option Bool := do
  let o9 ← W_Right_l1_n n p1 0
  match o9 with
  | Sum.inl x12 => do
      let y61 ← W_fits_n n p1
      some y61
  | Sum.inr x14 => do
      some false
theorem W_Right_ns {n : Nat} {p1 : List W_Piece} {r : Bool} (h : W_Right_n n p1 = some r) : W_Right p1 = some r := by
  unfold W_Right_n at h
  unfold W_Right
  obtain ⟨o9, h_o9, h⟩ := bindO h
  refine bindI (W_Right_l1_ns h_o9) ?_
  rcases o9 with x_ | x_
  ·
    dsimp only at h ⊢
    obtain ⟨y61, h_y61, h⟩ := bindO h
    refine bindI (W_fits_ns h_y61) ?_
    exact h
  ·
    dsimp only at h ⊢
    exact h
def strings_Builder_copyCheck_n (n : Nat) (p1 : List UInt8) : Option (List UInt8) := do
  some p1
theorem strings_Builder_copyCheck_ns {n : Nat} {p1 : List UInt8} {r : List UInt8} (h : strings_Builder_copyCheck_n n p1 = some r) : strings_Builder_copyCheck p1 = some r := by
  unfold strings_Builder_copyCheck_n at h
  unfold strings_Builder_copyCheck
  exact h
def strings_Builder_WriteByte_n (n : Nat) (p1 : List UInt8) (p7 : UInt8) : Option ((Option Nat) × (List UInt8)) := do
  let y8 ← strings_Builder_copyCheck_n n p1
  let _ ← req ((y8.length + ([p7] : List UInt8).length) * 1 ≤ 140737488355328 ∧ y8.length + ([p7] : List UInt8).length ≤ 9223372036854775807)
  some (((none : Option Nat), y8 ++ ([p7] : List UInt8)))
theorem strings_Builder_WriteByte_ns {n : Nat} {p1 : List UInt8} {p7 : UInt8} {r : (Option Nat) × (List UInt8)} (h : strings_Builder_WriteByte_n n p1 p7 = some r) : strings_Builder_WriteByte p1 p7 = some r := by
  unfold strings_Builder_WriteByte_n at h
  unfold strings_Builder_WriteByte
  obtain ⟨y8, h_y8, h⟩ := bindO h
  refine bindI (strings_Builder_copyCheck_ns h_y8) ?_
  obtain ⟨u_, hu_, h⟩ := bindO h
  refine bindI hu_ ?_
  exact h
def strings_Builder_WriteString_n (n : Nat) (p1 : List UInt8) (p7 : List UInt8) : Option (Int × (Option Nat) × (List UInt8)) := do
  let y8 ← strings_Builder_copyCheck_n n p1
  let _ ← req ((y8.length + p7.length) * 1 ≤ 140737488355328 ∧ y8.length + p7.length ≤ 9223372036854775807)
  some (((p7.length : Int), (none : Option Nat), y8 ++ p7))
theorem strings_Builder_WriteString_ns {n : Nat} {p1 : List UInt8} {p7 : List UInt8} {r : Int × (Option Nat) × (List UInt8)} (h : strings_Builder_WriteString_n n p1 p7 = some r) : strings_Builder_WriteString p1 p7 = some r := by
  unfold strings_Builder_WriteString_n at h
  unfold strings_Builder_WriteString
  obtain ⟨y8, h_y8, h⟩ := bindO h
  refine bindI (strings_Builder_copyCheck_ns h_y8) ?_
  obtain ⟨u_, hu_, h⟩ := bindO h
  refine bindI hu_ ?_
  exact h
def W_told_n (n : Nat) (p1 : UInt8) (p2 : Bool) : Option (List UInt8) := do
  if (p1 == 10) = true then (do
      some ([92, 110] : List UInt8))
  else (do
      if (p1 == 13) = true then (do
          some ([92, 114] : List UInt8))
      else (do
          if (p1 == 9) = true then (do
              some ([92, 116] : List UInt8))
          else (do
              let x6 ← (do
                  if (p1 == 34) = true then (do
                      some true)
                  else (do
                      some (p1 == 36)) : Option Bool)
              let x9 ← (do
                  if (x6) = true then (do
                      some true)
                  else (do
                      some (p1 == 92)) : Option Bool)
              if (x9) = true then (do
                  some [92, p1])
              else (do
                  let x16 ← (do
                      if (p2) = true then (do
                          some (decide (32 ≤ p1)))
                      else (do
                          some false) : Option Bool)
                  let x19 ← (do
                      if (x16) = true then (do
                          some (decide (p1 ≤ 126)))
                      else (do
                          some false) : Option Bool)
                  if (x19) = true then (do
                      some ([p1] : List UInt8))
                  else (do
                      let c26 ← ix ([48, 49, 50, 51, 52, 53, 54, 55, 56, 57, 97, 98, 99, 100, 101, 102] : List UInt8) (b8 (shr8 p1 4))
                      let c28 ← ix ([48, 49, 50, 51, 52, 53, 54, 55, 56, 57, 97, 98, 99, 100, 101, 102] : List UInt8) (b8 (p1 &&& 15))
                      let _ ← req (([92, 120] : List UInt8).length + [c26, c28].length ≤ 9223372036854775807)
                      some (([92, 120] : List UInt8) ++ [c26, c28]))))))
theorem W_told_ns {n : Nat} {p1 : UInt8} {p2 : Bool} {r : List UInt8} (h : W_told_n n p1 p2 = some r) : W_told p1 p2 = some r := by
  unfold W_told_n at h
  unfold W_told
  rcases ifB h with ⟨hc_, h⟩ | ⟨hc_, h⟩
  · refine ifT hc_ ?_
    exact h
  · refine ifF hc_ ?_
    rcases ifB h with ⟨hc_, h⟩ | ⟨hc_, h⟩
    · refine ifT hc_ ?_
      exact h
    · refine ifF hc_ ?_
      rcases ifB h with ⟨hc_, h⟩ | ⟨hc_, h⟩
      · refine ifT hc_ ?_
        exact h
      · refine ifF hc_ ?_
        obtain ⟨x6, h_x6, h⟩ := bindO h
        refine bindI (a := x6) ?_ ?_
        ·
          rcases ifB h_x6 with ⟨hc_, h_x6⟩ | ⟨hc_, h_x6⟩
          · refine ifT hc_ ?_
            exact h_x6
          · refine ifF hc_ ?_
            exact h_x6
        ·
          obtain ⟨x9, h_x9, h⟩ := bindO h
          refine bindI (a := x9) ?_ ?_
          ·
            rcases ifB h_x9 with ⟨hc_, h_x9⟩ | ⟨hc_, h_x9⟩
            · refine ifT hc_ ?_
              exact h_x9
            · refine ifF hc_ ?_
              exact h_x9
          ·
            rcases ifB h with ⟨hc_, h⟩ | ⟨hc_, h⟩
            · refine ifT hc_ ?_
              exact h
            · refine ifF hc_ ?_
              obtain ⟨x16, h_x16, h⟩ := bindO h
              refine bindI (a := x16) ?_ ?_
              ·
                rcases ifB h_x16 with ⟨hc_, h_x16⟩ | ⟨hc_, h_x16⟩
                · refine ifT hc_ ?_
                  exact h_x16
                · refine ifF hc_ ?_
                  exact h_x16
              ·
                obtain ⟨x19, h_x19, h⟩ := bindO h
                refine bindI (a := x19) ?_ ?_
                ·
                  rcases ifB h_x19 with ⟨hc_, h_x19⟩ | ⟨hc_, h_x19⟩
                  · refine ifT hc_ ?_
                    exact h_x19
                  · refine ifF hc_ ?_
                    exact h_x19
                ·
                  rcases ifB h with ⟨hc_, h⟩ | ⟨hc_, h⟩
                  · refine ifT hc_ ?_
                    exact h
                  · refine ifF hc_ ?_
                    obtain ⟨c26, h_c26, h⟩ := bindO h
                    refine bindI h_c26 ?_
                    obtain ⟨c28, h_c28, h⟩ := bindO h
                    refine bindI h_c28 ?_
                    obtain ⟨u_, hu_, h⟩ := bindO h
                    refine bindI hu_ ?_
                    exact h
def strings_Builder_String_n (n : Nat) (p1 : List UInt8) : Option (List UInt8) := do
  some p1
theorem strings_Builder_String_ns {n : Nat} {p1 : List UInt8} {r : List UInt8} (h : strings_Builder_String_n n p1 = some r) : strings_Builder_String p1 = some r := by
  unfold strings_Builder_String_n at h
  unfold strings_Builder_String
  exact h
def W_Quote_l2_n (n : Nat) (e48 : W_Piece) (x30 : Bool) (x88 : Int) (x91 : List UInt8) : Option (List UInt8) :=
  match n with
  | 0 => none
  | n + 1 => do
    if (decide (x88 < ((e48.f_Lit.length : Int)))) = true then (do
        let e100 ← ix e48.f_Lit x88
        let x110 ← (do
            if (!x30) = true then (do
                some true)
            else (do
                some (decide (x88 > 0))) : Option Bool)
        let x114 ← (do
            if (x110) = true then (do
                some true)
            else (do
                let y117 ← W_goes_n n e100
                some (!y117)) : Option Bool)
        let y121 ← W_told_n n e100 x114
        let y125 ← strings_Builder_WriteString_n n x91 y121
        W_Quote_l2_n n e48 x30 (w64 (x88 + 1)) y125.2.2)
    else (do
        some x91)
theorem W_Quote_l2_nr : ∀ (n : Nat) (e48 : W_Piece) (x30 : Bool) (x88 : Int) (x91 : List UInt8) (r : List UInt8), W_Quote_l2_n n e48 x30 x88 x91 = some r → W_Quote_l2 e48 x30 x88 x91 = some r := by
  intro n
  induction n with
  | zero => intro e48 x30 x88 x91 r h; cases h
  | succ n ih =>
    intro e48 x30 x88 x91 r h
    rw [W_Quote_l2_n] at h
    rw [W_Quote_l2]
    rcases ifB h with ⟨hc_, h⟩ | ⟨hc_, h⟩
    · refine ifT hc_ ?_
      obtain ⟨e100, h_e100, h⟩ := bindO h
      refine bindI h_e100 ?_
      obtain ⟨x110, h_x110, h⟩ := bindO h
      refine bindI (a := x110) ?_ ?_
      ·
        rcases ifB h_x110 with ⟨hc_, h_x110⟩ | ⟨hc_, h_x110⟩
        · refine ifT hc_ ?_
          exact h_x110
        · refine ifF hc_ ?_
          exact h_x110
      ·
        obtain ⟨x114, h_x114, h⟩ := bindO h
        refine bindI (a := x114) ?_ ?_
        ·
          rcases ifB h_x114 with ⟨hc_, h_x114⟩ | ⟨hc_, h_x114⟩
          · refine ifT hc_ ?_
            exact h_x114
          · refine ifF hc_ ?_
            obtain ⟨y117, h_y117, h_x114⟩ := bindO h_x114
            refine bindI (W_goes_ns h_y117) ?_
            exact h_x114
        ·
          obtain ⟨y121, h_y121, h⟩ := bindO h
          refine bindI (W_told_ns h_y121) ?_
          obtain ⟨y125, h_y125, h⟩ := bindO h
          refine bindI (strings_Builder_WriteString_ns h_y125) ?_
          exact ih _ _ _ _ _ h
    · refine ifF hc_ ?_
      exact h
theorem W_Quote_l2_ns {n : Nat} {e48 : W_Piece} {x30 : Bool} {x88 : Int} {x91 : List UInt8} {r : List UInt8} (h : W_Quote_l2_n n e48 x30 x88 x91 = some r) : W_Quote_l2 e48 x30 x88 x91 = some r := W_Quote_l2_nr n e48 x30 x88 x91 r h
def W_Quote_l1_n (n : Nat) (p1 : List W_Piece) (x29 : Int) (x30 : Bool) (x33 : List UInt8) : Option (List UInt8) :=
  match n with
  | 0 => none
  | n + 1 => do
    if (decide (x29 < ((p1.length : Int)))) = true then (do
        let x43 ← (do
            let e48 ← ix p1 x29
            if (e48.f_Var != ([] : List UInt8)) = true then (do
                let _ ← req (([36] : List UInt8).length + e48.f_Var.length ≤ 9223372036854775807)
                let y62 ← strings_Builder_WriteString_n n x33 (([36] : List UInt8) ++ e48.f_Var)
                let c70 ← ix e48.f_Var 0
                let y72 ← W_begins_n n c70
                some ((y72, y62.2.2)))
            else (do
                let _ ← req (e48.f_Lit.length ≤ 9223372036854775807)
                let o93 ← W_Quote_l2_n n e48 x30 0 x33
                some ((false, o93))) : Option (Bool × (List UInt8)))
        W_Quote_l1_n n p1 (w64 (x29 + 1)) x43.1 x43.2)
    else (do
        some x33)
theorem W_Quote_l1_nr : ∀ (n : Nat) (p1 : List W_Piece) (x29 : Int) (x30 : Bool) (x33 : List UInt8) (r : List UInt8), W_Quote_l1_n n p1 x29 x30 x33 = some r → W_Quote_l1 p1 x29 x30 x33 = some r := by
  intro n
  induction n with
  | zero => intro p1 x29 x30 x33 r h; cases h
  | succ n ih =>
    intro p1 x29 x30 x33 r h
    rw [W_Quote_l1_n] at h
    rw [W_Quote_l1]
    rcases ifB h with ⟨hc_, h⟩ | ⟨hc_, h⟩
    · refine ifT hc_ ?_
      obtain ⟨x43, h_x43, h⟩ := bindO h
      refine bindI (a := x43) ?_ ?_
      ·
        obtain ⟨e48, h_e48, h_x43⟩ := bindO h_x43
        refine bindI h_e48 ?_
        rcases ifB h_x43 with ⟨hc_, h_x43⟩ | ⟨hc_, h_x43⟩
        · refine ifT hc_ ?_
          obtain ⟨u_, hu_, h_x43⟩ := bindO h_x43
          refine bindI hu_ ?_
          obtain ⟨y62, h_y62, h_x43⟩ := bindO h_x43
          refine bindI (strings_Builder_WriteString_ns h_y62) ?_
          obtain ⟨c70, h_c70, h_x43⟩ := bindO h_x43
          refine bindI h_c70 ?_
          obtain ⟨y72, h_y72, h_x43⟩ := bindO h_x43
          refine bindI (W_begins_ns h_y72) ?_
          exact h_x43
        · refine ifF hc_ ?_
          obtain ⟨u_, hu_, h_x43⟩ := bindO h_x43
          refine bindI hu_ ?_
          obtain ⟨o93, h_o93, h_x43⟩ := bindO h_x43
          refine bindI (W_Quote_l2_ns h_o93) ?_
          exact h_x43
      ·
        exact ih _ _ _ _ _ h
    · refine ifF hc_ ?_
      exact h
theorem W_Quote_l1_ns {n : Nat} {p1 : List W_Piece} {x29 : Int} {x30 : Bool} {x33 : List UInt8} {r : List UInt8} (h : W_Quote_l1_n n p1 x29 x30 x33 = some r) : W_Quote_l1 p1 x29 x30 x33 = some r := W_Quote_l1_nr n p1 x29 x30 x33 r h
def W_Quote_n (n : Nat) (p1 : List W_Piece) : Option (List UInt8) := do
  let y4 ← W_Right_n n p1
  if (!y4) = true then (do
      some ([] : List UInt8))
  else (do
      let y12 ← strings_Builder_WriteByte_n n ([] : List UInt8) 34
      let o35 ← W_Quote_l1_n n p1 0 false y12.2
      let y133 ← strings_Builder_WriteByte_n n o35 34
      let y141 ← strings_Builder_String_n n y133.2
      some y141)
theorem W_Quote_ns {n : Nat} {p1 : List W_Piece} {r : List UInt8} (h : W_Quote_n n p1 = some r) : W_Quote p1 = some r := by
  unfold W_Quote_n at h
  unfold W_Quote
  obtain ⟨y4, h_y4, h⟩ := bindO h
  refine bindI (W_Right_ns h_y4) ?_
  rcases ifB h with ⟨hc_, h⟩ | ⟨hc_, h⟩
  · refine ifT hc_ ?_
    exact h
  · refine ifF hc_ ?_
    obtain ⟨y12, h_y12, h⟩ := bindO h
    refine bindI (strings_Builder_WriteByte_ns h_y12) ?_
    obtain ⟨o35, h_o35, h⟩ := bindO h
    refine bindI (W_Quote_l1_ns h_o35) ?_
    obtain ⟨y133, h_y133, h⟩ := bindO h
    refine bindI (strings_Builder_WriteByte_ns h_y133) ?_
    obtain ⟨y141, h_y141, h⟩ := bindO h
    refine bindI (strings_Builder_String_ns h_y141) ?_
    exact h
def slices_Equal_W_Piece_W_Piece_l1_n (n : Nat) (p1 : List W_Piece) (p4 : List W_Piece) (x12 : Int) : Option (Sum Unit Unit) :=
  match n with
  | 0 => none
  | n + 1 => do
    if (decide (x12 < ((p1.length : Int)))) = true then (do
        let e20 ← ix p1 x12
        let e30 ← ix p4 x12
        if (!((e20.f_Var == e30.f_Var) && ((e20.f_Lit == e30.f_Lit) && true))) = true then (do
            some (Sum.inr (())))
        else (do
            slices_Equal_W_Piece_W_Piece_l1_n n p1 p4 (w64 (x12 + 1))))
    else (do
        some (Sum.inl (())))
theorem slices_Equal_W_Piece_W_Piece_l1_nr : ∀ (n : Nat) (p1 : List W_Piece) (p4 : List W_Piece) (x12 : Int) (r : Sum Unit Unit), slices_Equal_W_Piece_W_Piece_l1_n n p1 p4 x12 = some r → slices_Equal_W_Piece_W_Piece_l1 p1 p4 x12 = some r := by
  intro n
  induction n with
  | zero => intro p1 p4 x12 r h; cases h
  | succ n ih =>
    intro p1 p4 x12 r h
    rw [slices_Equal_W_Piece_W_Piece_l1_n] at h
    rw [slices_Equal_W_Piece_W_Piece_l1]
    rcases ifB h with ⟨hc_, h⟩ | ⟨hc_, h⟩
    · refine ifT hc_ ?_
      obtain ⟨e20, h_e20, h⟩ := bindO h
      refine bindI h_e20 ?_
      obtain ⟨e30, h_e30, h⟩ := bindO h
      refine bindI h_e30 ?_
      rcases ifB h with ⟨hc_, h⟩ | ⟨hc_, h⟩
      · refine ifT hc_ ?_
        exact h
      · refine ifF hc_ ?_
        exact ih _ _ _ _ h
    · refine ifF hc_ ?_
      exact h
theorem slices_Equal_W_Piece_W_Piece_l1_ns {n : Nat} {p1 : List W_Piece} {p4 : List W_Piece} {x12 : Int} {r : Sum Unit Unit} (h : slices_Equal_W_Piece_W_Piece_l1_n n p1 p4 x12 = some r) : slices_Equal_W_Piece_W_Piece_l1 p1 p4 x12 = some r := slices_Equal_W_Piece_W_Piece_l1_nr n p1 p4 x12 r h
def slices_Equal_W_Piece_W_Piece_n (n : Nat) (p1 : List W_Piece) (p4 : List W_Piece) : Option Bool := do
  if (((p1.length : Int)) != ((p4.length : Int))) = true then (do
      some false)
  else (do
      let o13 ← slices_Equal_W_Piece_W_Piece_l1_n n p1 p4 0
      match o13 with
      | Sum.inl x16 => do
          some true
      | Sum.inr x18 => do
          some false)
theorem slices_Equal_W_Piece_W_Piece_ns {n : Nat} {p1 : List W_Piece} {p4 : List W_Piece} {r : Bool} (h : slices_Equal_W_Piece_W_Piece_n n p1 p4 = some r) : slices_Equal_W_Piece_W_Piece p1 p4 = some r := by
  unfold slices_Equal_W_Piece_W_Piece_n at h
  unfold slices_Equal_W_Piece_W_Piece
  rcases ifB h with ⟨hc_, h⟩ | ⟨hc_, h⟩
  · refine ifT hc_ ?_
    exact h
  · refine ifF hc_ ?_
    obtain ⟨o13, h_o13, h⟩ := bindO h
    refine bindI (slices_Equal_W_Piece_W_Piece_l1_ns h_o13) ?_
    rcases o13 with x_ | x_
    ·
      dsimp only at h ⊢
      exact h
    ·
      dsimp only at h ⊢
      exact h
def W_Same_n (n : Nat) (p1 : W_Token) (p4 : W_Token) : Option Bool := do
  let x11 ← (do
      if (p1.f_Kind == p4.f_Kind) = true then (do
          some (p1.f_Text == p4.f_Text))
      else (do
          some false) : Option Bool)
  let x14 ← (do
      if (x11) = true then (do
          some (p1.f_Number == p4.f_Number))
      else (do
          some false) : Option Bool)
  let x18 ← (do
      if (x14) = true then (do
          let y21 ← slices_Equal_W_Piece_W_Piece_n n p1.f_Pieces p4.f_Pieces
          some y21)
      else (do
          some false) : Option Bool)
  some x18
theorem W_Same_ns {n : Nat} {p1 : W_Token} {p4 : W_Token} {r : Bool} (h : W_Same_n n p1 p4 = some r) : W_Same p1 p4 = some r := by
  unfold W_Same_n at h
  unfold W_Same
  obtain ⟨x11, h_x11, h⟩ := bindO h
  refine bindI (a := x11) ?_ ?_
  ·
    rcases ifB h_x11 with ⟨hc_, h_x11⟩ | ⟨hc_, h_x11⟩
    · refine ifT hc_ ?_
      exact h_x11
    · refine ifF hc_ ?_
      exact h_x11
  ·
    obtain ⟨x14, h_x14, h⟩ := bindO h
    refine bindI (a := x14) ?_ ?_
    ·
      rcases ifB h_x14 with ⟨hc_, h_x14⟩ | ⟨hc_, h_x14⟩
      · refine ifT hc_ ?_
        exact h_x14
      · refine ifF hc_ ?_
        exact h_x14
    ·
      obtain ⟨x18, h_x18, h⟩ := bindO h
      refine bindI (a := x18) ?_ ?_
      ·
        rcases ifB h_x18 with ⟨hc_, h_x18⟩ | ⟨hc_, h_x18⟩
        · refine ifT hc_ ?_
          obtain ⟨y21, h_y21, h_x18⟩ := bindO h_x18
          refine bindI (slices_Equal_W_Piece_W_Piece_ns h_y21) ?_
          exact h_x18
        · refine ifF hc_ ?_
          exact h_x18
      ·
        exact h
def Law_Of_n (n : Nat) (p1 : W_Token) : Option R_Token := do
  let y8 ← Law_Pieces_n n p1.f_Pieces
  some ((⟨p1.f_Kind, p1.f_Text, p1.f_Number, y8, p1.f_At⟩ : R_Token))
theorem Law_Of_ns {n : Nat} {p1 : W_Token} {r : R_Token} (h : Law_Of_n n p1 = some r) : Law_Of p1 = some r := by
  unfold Law_Of_n at h
  unfold Law_Of
  obtain ⟨y8, h_y8, h⟩ := bindO h
  refine bindI (Law_Pieces_ns h_y8) ?_
  exact h
def R_Same_l1_n (n : Nat) (p1 : R_Token) (p4 : R_Token) (x25 : Int) : Option (Sum Unit Unit) :=
  match n with
  | 0 => none
  | n + 1 => do
    if (decide (x25 < ((p1.f_Pieces.length : Int)))) = true then (do
        let e33 ← ix p1.f_Pieces x25
        let e45 ← ix p4.f_Pieces x25
        if (!((e33.f_Var == e45.f_Var) && ((e33.f_Lit == e45.f_Lit) && true))) = true then (do
            some (Sum.inr (())))
        else (do
            R_Same_l1_n n p1 p4 (w64 (x25 + 1))))
    else (do
        some (Sum.inl (())))
theorem R_Same_l1_nr : ∀ (n : Nat) (p1 : R_Token) (p4 : R_Token) (x25 : Int) (r : Sum Unit Unit), R_Same_l1_n n p1 p4 x25 = some r → R_Same_l1 p1 p4 x25 = some r := by
  intro n
  induction n with
  | zero => intro p1 p4 x25 r h; cases h
  | succ n ih =>
    intro p1 p4 x25 r h
    rw [R_Same_l1_n] at h
    rw [R_Same_l1]
    rcases ifB h with ⟨hc_, h⟩ | ⟨hc_, h⟩
    · refine ifT hc_ ?_
      obtain ⟨e33, h_e33, h⟩ := bindO h
      refine bindI h_e33 ?_
      obtain ⟨e45, h_e45, h⟩ := bindO h
      refine bindI h_e45 ?_
      rcases ifB h with ⟨hc_, h⟩ | ⟨hc_, h⟩
      · refine ifT hc_ ?_
        exact h
      · refine ifF hc_ ?_
        exact ih _ _ _ _ h
    · refine ifF hc_ ?_
      exact h
theorem R_Same_l1_ns {n : Nat} {p1 : R_Token} {p4 : R_Token} {x25 : Int} {r : Sum Unit Unit} (h : R_Same_l1_n n p1 p4 x25 = some r) : R_Same_l1 p1 p4 x25 = some r := R_Same_l1_nr n p1 p4 x25 r h
def R_Same_n (n : Nat) (p1 : R_Token) (p4 : R_Token) : Option Bool := do
  let x11 ← (do
      if (p1.f_Kind != p4.f_Kind) = true then (do
          some true)
      else (do
          some (p1.f_Text != p4.f_Text)) : Option Bool)
  let x14 ← (do
      if (x11) = true then (do
          some true)
      else (do
          some (p1.f_Number != p4.f_Number)) : Option Bool)
  let x17 ← (do
      if (x14) = true then (do
          some true)
      else (do
          some (((p1.f_Pieces.length : Int)) != ((p4.f_Pieces.length : Int)))) : Option Bool)
  if (x17) = true then (do
      some false)
  else (do
      let o26 ← R_Same_l1_n n p1 p4 0
      match o26 with
      | Sum.inl x29 => do
          some true
      | Sum.inr x31 => do
          some false)
theorem R_Same_ns {n : Nat} {p1 : R_Token} {p4 : R_Token} {r : Bool} (h : R_Same_n n p1 p4 = some r) : R_Same p1 p4 = some r := by
  unfold R_Same_n at h
  unfold R_Same
  obtain ⟨x11, h_x11, h⟩ := bindO h
  refine bindI (a := x11) ?_ ?_
  ·
    rcases ifB h_x11 with ⟨hc_, h_x11⟩ | ⟨hc_, h_x11⟩
    · refine ifT hc_ ?_
      exact h_x11
    · refine ifF hc_ ?_
      exact h_x11
  ·
    obtain ⟨x14, h_x14, h⟩ := bindO h
    refine bindI (a := x14) ?_ ?_
    ·
      rcases ifB h_x14 with ⟨hc_, h_x14⟩ | ⟨hc_, h_x14⟩
      · refine ifT hc_ ?_
        exact h_x14
      · refine ifF hc_ ?_
        exact h_x14
    ·
      obtain ⟨x17, h_x17, h⟩ := bindO h
      refine bindI (a := x17) ?_ ?_
      ·
        rcases ifB h_x17 with ⟨hc_, h_x17⟩ | ⟨hc_, h_x17⟩
        · refine ifT hc_ ?_
          exact h_x17
        · refine ifF hc_ ?_
          exact h_x17
      ·
        rcases ifB h with ⟨hc_, h⟩ | ⟨hc_, h⟩
        · refine ifT hc_ ?_
          exact h
        · refine ifF hc_ ?_
          obtain ⟨o26, h_o26, h⟩ := bindO h
          refine bindI (R_Same_l1_ns h_o26) ?_
          rcases o26 with x_ | x_
          ·
            dsimp only at h ⊢
            exact h
          ·
            dsimp only at h ⊢
            exact h
def Law_WordsPieces_n (n : Nat) (p1 : List W_Piece) (p4 : W_Token) (p7 : W_Token) : Option Bool := do
  let y14 ← Law_alive_n n
  if (!y14) = true then (do
      some false)
  else (do
      let y19 ← Law_long_n n p1
      let x24 ← (do
          if (y19) = true then (do
              some true)
          else (do
              let y27 ← Law_long_n n p4.f_Pieces
              some y27) : Option Bool)
      let x32 ← (do
          if (x24) = true then (do
              some true)
          else (do
              let y35 ← Law_long_n n p7.f_Pieces
              some y35) : Option Bool)
      let x39 ← (do
          if (x32) = true then (do
              some true)
          else (do
              some (decide (((p4.f_Text.length : Int)) > 200))) : Option Bool)
      let x42 ← (do
          if (x39) = true then (do
              some true)
          else (do
              some (decide (((p7.f_Text.length : Int)) > 200))) : Option Bool)
      if (x42) = true then (do
          some true)
      else (do
          let y46 ← Law_Pieces_n n p1
          let x53 ← (do
              let y55 ← R_Right_n n y46
              if (y55) = true then (do
                  let y60 ← R_Quote_n n y46
                  some y60)
              else (do
                  some ([] : List UInt8)) : Option (List UInt8))
          let x65 ← (do
              let y67 ← W_Right_n n p1
              let y71 ← R_Right_n n y46
              if (y67 == y71) = true then (do
                  let y76 ← W_Quote_n n p1
                  if (y76 == x53) = true then (do
                      let y81 ← W_Same_n n p4 p7
                      let y85 ← Law_Of_n n p4
                      let y91 ← Law_Of_n n p7
                      let y97 ← R_Same_n n y85 y91
                      some (y81 == y97))
                  else (do
                      some false))
              else (do
                  some false) : Option Bool)
          some x65))
theorem Law_WordsPieces_ns {n : Nat} {p1 : List W_Piece} {p4 : W_Token} {p7 : W_Token} {r : Bool} (h : Law_WordsPieces_n n p1 p4 p7 = some r) : Law_WordsPieces p1 p4 p7 = some r := by
  unfold Law_WordsPieces_n at h
  unfold Law_WordsPieces
  obtain ⟨y14, h_y14, h⟩ := bindO h
  refine bindI (Law_alive_ns h_y14) ?_
  rcases ifB h with ⟨hc_, h⟩ | ⟨hc_, h⟩
  · refine ifT hc_ ?_
    exact h
  · refine ifF hc_ ?_
    obtain ⟨y19, h_y19, h⟩ := bindO h
    refine bindI (Law_long_ns h_y19) ?_
    obtain ⟨x24, h_x24, h⟩ := bindO h
    refine bindI (a := x24) ?_ ?_
    ·
      rcases ifB h_x24 with ⟨hc_, h_x24⟩ | ⟨hc_, h_x24⟩
      · refine ifT hc_ ?_
        exact h_x24
      · refine ifF hc_ ?_
        obtain ⟨y27, h_y27, h_x24⟩ := bindO h_x24
        refine bindI (Law_long_ns h_y27) ?_
        exact h_x24
    ·
      obtain ⟨x32, h_x32, h⟩ := bindO h
      refine bindI (a := x32) ?_ ?_
      ·
        rcases ifB h_x32 with ⟨hc_, h_x32⟩ | ⟨hc_, h_x32⟩
        · refine ifT hc_ ?_
          exact h_x32
        · refine ifF hc_ ?_
          obtain ⟨y35, h_y35, h_x32⟩ := bindO h_x32
          refine bindI (Law_long_ns h_y35) ?_
          exact h_x32
      ·
        obtain ⟨x39, h_x39, h⟩ := bindO h
        refine bindI (a := x39) ?_ ?_
        ·
          rcases ifB h_x39 with ⟨hc_, h_x39⟩ | ⟨hc_, h_x39⟩
          · refine ifT hc_ ?_
            exact h_x39
          · refine ifF hc_ ?_
            exact h_x39
        ·
          obtain ⟨x42, h_x42, h⟩ := bindO h
          refine bindI (a := x42) ?_ ?_
          ·
            rcases ifB h_x42 with ⟨hc_, h_x42⟩ | ⟨hc_, h_x42⟩
            · refine ifT hc_ ?_
              exact h_x42
            · refine ifF hc_ ?_
              exact h_x42
          ·
            rcases ifB h with ⟨hc_, h⟩ | ⟨hc_, h⟩
            · refine ifT hc_ ?_
              exact h
            · refine ifF hc_ ?_
              obtain ⟨y46, h_y46, h⟩ := bindO h
              refine bindI (Law_Pieces_ns h_y46) ?_
              obtain ⟨x53, h_x53, h⟩ := bindO h
              refine bindI (a := x53) ?_ ?_
              ·
                obtain ⟨y55, h_y55, h_x53⟩ := bindO h_x53
                refine bindI (R_Right_ns h_y55) ?_
                rcases ifB h_x53 with ⟨hc_, h_x53⟩ | ⟨hc_, h_x53⟩
                · refine ifT hc_ ?_
                  obtain ⟨y60, h_y60, h_x53⟩ := bindO h_x53
                  refine bindI (R_Quote_ns h_y60) ?_
                  exact h_x53
                · refine ifF hc_ ?_
                  exact h_x53
              ·
                obtain ⟨x65, h_x65, h⟩ := bindO h
                refine bindI (a := x65) ?_ ?_
                ·
                  obtain ⟨y67, h_y67, h_x65⟩ := bindO h_x65
                  refine bindI (W_Right_ns h_y67) ?_
                  obtain ⟨y71, h_y71, h_x65⟩ := bindO h_x65
                  refine bindI (R_Right_ns h_y71) ?_
                  rcases ifB h_x65 with ⟨hc_, h_x65⟩ | ⟨hc_, h_x65⟩
                  · refine ifT hc_ ?_
                    obtain ⟨y76, h_y76, h_x65⟩ := bindO h_x65
                    refine bindI (W_Quote_ns h_y76) ?_
                    rcases ifB h_x65 with ⟨hc_, h_x65⟩ | ⟨hc_, h_x65⟩
                    · refine ifT hc_ ?_
                      obtain ⟨y81, h_y81, h_x65⟩ := bindO h_x65
                      refine bindI (W_Same_ns h_y81) ?_
                      obtain ⟨y85, h_y85, h_x65⟩ := bindO h_x65
                      refine bindI (Law_Of_ns h_y85) ?_
                      obtain ⟨y91, h_y91, h_x65⟩ := bindO h_x65
                      refine bindI (Law_Of_ns h_y91) ?_
                      obtain ⟨y97, h_y97, h_x65⟩ := bindO h_x65
                      refine bindI (R_Same_ns h_y97) ?_
                      exact h_x65
                    · refine ifF hc_ ?_
                      exact h_x65
                  · refine ifF hc_ ?_
                    exact h_x65
                ·
                  exact h
def Law_WordsBack_l1_n (n : Nat) (q27 : Int) (x34 : Int) (x35 : List UInt8) : Option (List UInt8) :=
  match n with
  | 0 => none
  | n + 1 => do
    if (decide (x34 < (IntKind.i64.wrap q27))) = true then (do
        let q40 ← irem x34 3
        let q42 ← irem x34 3
        let s44 ← cutL ([32, 9, 13] : List UInt8) q40 ((w64 (q42 + 1)))
        let _ ← req (s44.length + x35.length ≤ 9223372036854775807)
        Law_WordsBack_l1_n n q27 (w64 (x34 + 1)) (s44 ++ x35))
    else (do
        some x35)
theorem Law_WordsBack_l1_nr : ∀ (n : Nat) (q27 : Int) (x34 : Int) (x35 : List UInt8) (r : List UInt8), Law_WordsBack_l1_n n q27 x34 x35 = some r → Law_WordsBack_l1 q27 x34 x35 = some r := by
  intro n
  induction n with
  | zero => intro q27 x34 x35 r h; cases h
  | succ n ih =>
    intro q27 x34 x35 r h
    rw [Law_WordsBack_l1_n] at h
    rw [Law_WordsBack_l1]
    rcases ifB h with ⟨hc_, h⟩ | ⟨hc_, h⟩
    · refine ifT hc_ ?_
      obtain ⟨q40, h_q40, h⟩ := bindO h
      refine bindI h_q40 ?_
      obtain ⟨q42, h_q42, h⟩ := bindO h
      refine bindI h_q42 ?_
      obtain ⟨s44, h_s44, h⟩ := bindO h
      refine bindI h_s44 ?_
      obtain ⟨u_, hu_, h⟩ := bindO h
      refine bindI hu_ ?_
      exact ih _ _ _ _ h
    · refine ifF hc_ ?_
      exact h
theorem Law_WordsBack_l1_ns {n : Nat} {q27 : Int} {x34 : Int} {x35 : List UInt8} {r : List UInt8} (h : Law_WordsBack_l1_n n q27 x34 x35 = some r) : Law_WordsBack_l1 q27 x34 x35 = some r := Law_WordsBack_l1_nr n q27 x34 x35 r h
def Law_WordsBack_n (n : Nat) (p1 : List W_Piece) (p4 : Int) : Option Bool := do
  let y5 ← Law_alive_n n
  if (!y5) = true then (do
      some false)
  else (do
      let y10 ← Law_long_n n p1
      let x15 ← (do
          if (y10) = true then (do
              some true)
          else (do
              let y18 ← W_Right_n n p1
              some (!y18)) : Option Bool)
      if (x15) = true then (do
          some true)
      else (do
          let y23 ← W_Quote_n n p1
          let q27 ← irem (IntKind.u64.wrap p4) 9
          let o36 ← Law_WordsBack_l1_n n q27 0 y23
          if (decide (((o36.length : Int)) > 3900)) = true then (do
              some true)
          else (do
              let _ ← req (o36.length + ([32, 35, 32, 98, 101, 104, 105, 110, 100] : List UInt8).length ≤ 9223372036854775807)
              let y49 ← W_Split_n n (o36 ++ ([32, 35, 32, 98, 101, 104, 105, 110, 100] : List UInt8))
              let x55 ← (do
                  if (y49.2.2.isNone) = true then (do
                      some (((y49.1.length : Int)) == 1))
                  else (do
                      some false) : Option Bool)
              let x58 ← (do
                  if (x55) = true then (do
                      let e61 ← ix y49.1 0
                      some (e61.f_At == (IntKind.i64.wrap q27)))
                  else (do
                      some false) : Option Bool)
              let x74 ← (do
                  if (x58) = true then (do
                      let e77 ← ix y49.1 0
                      let y89 ← W_Same_n n e77 ((⟨3, ([] : List UInt8), 0, p1, 0⟩ : W_Token))
                      some y89)
                  else (do
                      some false) : Option Bool)
              some x74)))
theorem Law_WordsBack_ns {n : Nat} {p1 : List W_Piece} {p4 : Int} {r : Bool} (h : Law_WordsBack_n n p1 p4 = some r) : Law_WordsBack p1 p4 = some r := by
  unfold Law_WordsBack_n at h
  unfold Law_WordsBack
  obtain ⟨y5, h_y5, h⟩ := bindO h
  refine bindI (Law_alive_ns h_y5) ?_
  rcases ifB h with ⟨hc_, h⟩ | ⟨hc_, h⟩
  · refine ifT hc_ ?_
    exact h
  · refine ifF hc_ ?_
    obtain ⟨y10, h_y10, h⟩ := bindO h
    refine bindI (Law_long_ns h_y10) ?_
    obtain ⟨x15, h_x15, h⟩ := bindO h
    refine bindI (a := x15) ?_ ?_
    ·
      rcases ifB h_x15 with ⟨hc_, h_x15⟩ | ⟨hc_, h_x15⟩
      · refine ifT hc_ ?_
        exact h_x15
      · refine ifF hc_ ?_
        obtain ⟨y18, h_y18, h_x15⟩ := bindO h_x15
        refine bindI (W_Right_ns h_y18) ?_
        exact h_x15
    ·
      rcases ifB h with ⟨hc_, h⟩ | ⟨hc_, h⟩
      · refine ifT hc_ ?_
        exact h
      · refine ifF hc_ ?_
        obtain ⟨y23, h_y23, h⟩ := bindO h
        refine bindI (W_Quote_ns h_y23) ?_
        obtain ⟨q27, h_q27, h⟩ := bindO h
        refine bindI h_q27 ?_
        obtain ⟨o36, h_o36, h⟩ := bindO h
        refine bindI (Law_WordsBack_l1_ns h_o36) ?_
        rcases ifB h with ⟨hc_, h⟩ | ⟨hc_, h⟩
        · refine ifT hc_ ?_
          exact h
        · refine ifF hc_ ?_
          obtain ⟨u_, hu_, h⟩ := bindO h
          refine bindI hu_ ?_
          obtain ⟨y49, h_y49, h⟩ := bindO h
          refine bindI (W_Split_ns h_y49) ?_
          obtain ⟨x55, h_x55, h⟩ := bindO h
          refine bindI (a := x55) ?_ ?_
          ·
            rcases ifB h_x55 with ⟨hc_, h_x55⟩ | ⟨hc_, h_x55⟩
            · refine ifT hc_ ?_
              exact h_x55
            · refine ifF hc_ ?_
              exact h_x55
          ·
            obtain ⟨x58, h_x58, h⟩ := bindO h
            refine bindI (a := x58) ?_ ?_
            ·
              rcases ifB h_x58 with ⟨hc_, h_x58⟩ | ⟨hc_, h_x58⟩
              · refine ifT hc_ ?_
                obtain ⟨e61, h_e61, h_x58⟩ := bindO h_x58
                refine bindI h_e61 ?_
                exact h_x58
              · refine ifF hc_ ?_
                exact h_x58
            ·
              obtain ⟨x74, h_x74, h⟩ := bindO h
              refine bindI (a := x74) ?_ ?_
              ·
                rcases ifB h_x74 with ⟨hc_, h_x74⟩ | ⟨hc_, h_x74⟩
                · refine ifT hc_ ?_
                  obtain ⟨e77, h_e77, h_x74⟩ := bindO h_x74
                  refine bindI h_e77 ?_
                  obtain ⟨y89, h_y89, h_x74⟩ := bindO h_x74
                  refine bindI (W_Same_ns h_y89) ?_
                  exact h_x74
                · refine ifF hc_ ?_
                  exact h_x74
              ·
                exact h
end Go.Proofs.YtekcconmnhjhiaaDoor
