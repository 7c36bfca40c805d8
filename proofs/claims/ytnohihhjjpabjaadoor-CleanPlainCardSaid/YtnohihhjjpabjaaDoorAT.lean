/-
  What the code computes: plain functions, and the walks.: the same functions with fuel, for closed evaluation.
-/
import Derived.Test.YtnohihhjjpabjaaDoorAD
set_option linter.unusedVariables false
set_option linter.unusedSimpArgs false
set_option maxRecDepth 10000
set_option maxHeartbeats 1000000
set_option synthInstance.maxHeartbeats 400000
set_option synthInstance.maxSize 2000
namespace Go.Proofs.YtnohihhjjpabjaaDoor
open Go Go.RowKit Sl

def slices_Index_int_int_l1_n (n : Nat) (p1 : List Int) (p4 : Int) (x9 : Int) : Option (Sum Unit Int) :=
  match n with
  | 0 => none
  | n + 1 => do
    if (decide (x9 < ((p1.length : Int)))) = true then (do
        let e17 ← ix p1 x9
        if (p4 == e17) = true then (do
            some (Sum.inr x9))
        else (do
            slices_Index_int_int_l1_n n p1 p4 (w64 (x9 + 1))))
    else (do
        some (Sum.inl (())))
theorem slices_Index_int_int_l1_nr : ∀ (n : Nat) (p1 : List Int) (p4 : Int) (x9 : Int) (r : Sum Unit Int), slices_Index_int_int_l1_n n p1 p4 x9 = some r → slices_Index_int_int_l1 p1 p4 x9 = some r := by
  intro n
  induction n with
  | zero => intro p1 p4 x9 r h; cases h
  | succ n ih =>
    intro p1 p4 x9 r h
    rw [slices_Index_int_int_l1_n] at h
    rw [slices_Index_int_int_l1]
    rcases ifB h with ⟨hc_, h⟩ | ⟨hc_, h⟩
    · refine ifT hc_ ?_
      obtain ⟨e17, h_e17, h⟩ := bindO h
      refine bindI h_e17 ?_
      rcases ifB h with ⟨hc_, h⟩ | ⟨hc_, h⟩
      · refine ifT hc_ ?_
        exact h
      · refine ifF hc_ ?_
        exact ih _ _ _ _ h
    · refine ifF hc_ ?_
      exact h
theorem slices_Index_int_int_l1_ns {n : Nat} {p1 : List Int} {p4 : Int} {x9 : Int} {r : Sum Unit Int} (h : slices_Index_int_int_l1_n n p1 p4 x9 = some r) : slices_Index_int_int_l1 p1 p4 x9 = some r := slices_Index_int_int_l1_nr n p1 p4 x9 r h
def slices_Index_int_int_n (n : Nat) (p1 : List Int) (p4 : Int) : Option Int := do
  let o10 ← slices_Index_int_int_l1_n n p1 p4 0
  match o10 with
  | Sum.inl x13 => do
      some ((-1))
  | Sum.inr x15 => do
      some x15
theorem slices_Index_int_int_ns {n : Nat} {p1 : List Int} {p4 : Int} {r : Int} (h : slices_Index_int_int_n n p1 p4 = some r) : slices_Index_int_int p1 p4 = some r := by
  unfold slices_Index_int_int_n at h
  unfold slices_Index_int_int
  obtain ⟨o10, h_o10, h⟩ := bindO h
  refine bindI (slices_Index_int_int_l1_ns h_o10) ?_
  rcases o10 with x_ | x_
  ·
    dsimp only at h ⊢
    exact h
  ·
    dsimp only at h ⊢
    exact h
def slices_Contains_int_int_n (n : Nat) (p1 : List Int) (p4 : Int) : Option Bool := do
  let y5 ← slices_Index_int_int_n n p1 p4
  some (decide (y5 ≥ 0))
theorem slices_Contains_int_int_ns {n : Nat} {p1 : List Int} {p4 : Int} {r : Bool} (h : slices_Contains_int_int_n n p1 p4 = some r) : slices_Contains_int_int p1 p4 = some r := by
  unfold slices_Contains_int_int_n at h
  unfold slices_Contains_int_int
  obtain ⟨y5, h_y5, h⟩ := bindO h
  refine bindI (slices_Index_int_int_ns h_y5) ?_
  exact h
def codes_Verb_n (n : Nat) (p1 : Int) : Option Bool := do
  let x2 ← (do
      if (decide (p1 ≥ 251)) = true then (do
          some (decide (p1 ≤ 254)))
      else (do
          some false) : Option Bool)
  some x2
theorem codes_Verb_ns {n : Nat} {p1 : Int} {r : Bool} (h : codes_Verb_n n p1 = some r) : codes_Verb p1 = some r := by
  unfold codes_Verb_n at h
  unfold codes_Verb
  obtain ⟨x2, h_x2, h⟩ := bindO h
  refine bindI (a := x2) ?_ ?_
  ·
    rcases ifB h_x2 with ⟨hc_, h_x2⟩ | ⟨hc_, h_x2⟩
    · refine ifT hc_ ?_
      exact h_x2
    · refine ifF hc_ ?_
      exact h_x2
  ·
    exact h
def iac_Tokens_add_n (n : Nat) (p1 : iac_Tokens) (p5 : UInt8) : Option iac_Tokens := do
  if (decide (((p1.f_token.f_Body.length : Int)) ≥ 256)) = true then (do
      some ((⟨p1.f_state, (⟨p1.f_token.f_Kind, p1.f_token.f_Code, p1.f_token.f_Option, p1.f_token.f_Body, true⟩ : iac_Token)⟩ : iac_Tokens)))
  else (do
      let _ ← req ((p1.f_token.f_Body.length + ([p5] : List UInt8).length) * 1 ≤ 140737488355328 ∧ p1.f_token.f_Body.length + ([p5] : List UInt8).length ≤ 9223372036854775807)
      some ((⟨p1.f_state, (⟨p1.f_token.f_Kind, p1.f_token.f_Code, p1.f_token.f_Option, p1.f_token.f_Body ++ ([p5] : List UInt8), p1.f_token.f_Cut⟩ : iac_Token)⟩ : iac_Tokens)))
theorem iac_Tokens_add_ns {n : Nat} {p1 : iac_Tokens} {p5 : UInt8} {r : iac_Tokens} (h : iac_Tokens_add_n n p1 p5 = some r) : iac_Tokens_add p1 p5 = some r := by
  unfold iac_Tokens_add_n at h
  unfold iac_Tokens_add
  rcases ifB h with ⟨hc_, h⟩ | ⟨hc_, h⟩
  · refine ifT hc_ ?_
    exact h
  · refine ifF hc_ ?_
    obtain ⟨u_, hu_, h⟩ := bindO h
    refine bindI hu_ ?_
    exact h
def iac_Tokens_Feed_n (n : Nat) (p1 : iac_Tokens) (p5 : UInt8) : Option (iac_Token × Bool × iac_Tokens) := do
  if (p1.f_state == 1) = true then (do
      if (p5 == 255) = true then (do
          some (((⟨1, 255, 0, ([] : List UInt8), false⟩ : iac_Token), true, (⟨0, (⟨0, 0, 0, ([] : List UInt8), false⟩ : iac_Token)⟩ : iac_Tokens))))
      else (do
          if (p5 == 250) = true then (do
              some (((⟨0, 0, 0, ([] : List UInt8), false⟩ : iac_Token), false, (⟨3, (⟨p1.f_token.f_Kind, p1.f_token.f_Code, p1.f_token.f_Option, p1.f_token.f_Body, p1.f_token.f_Cut⟩ : iac_Token)⟩ : iac_Tokens))))
          else (do
              let y14 ← codes_Verb_n n (b8 p5)
              if (y14) = true then (do
                  some (((⟨0, 0, 0, ([] : List UInt8), false⟩ : iac_Token), false, (⟨2, (⟨0, b8 p5, 0, ([] : List UInt8), false⟩ : iac_Token)⟩ : iac_Tokens))))
              else (do
                  some (((⟨2, b8 p5, 0, ([] : List UInt8), false⟩ : iac_Token), true, (⟨0, (⟨0, 0, 0, ([] : List UInt8), false⟩ : iac_Token)⟩ : iac_Tokens)))))))
  else (do
      if (p1.f_state == 2) = true then (do
          some (((⟨3, p1.f_token.f_Code, b8 p5, ([] : List UInt8), false⟩ : iac_Token), true, (⟨0, (⟨0, 0, 0, ([] : List UInt8), false⟩ : iac_Token)⟩ : iac_Tokens))))
      else (do
          if (p1.f_state == 3) = true then (do
              some (((⟨0, 0, 0, ([] : List UInt8), false⟩ : iac_Token), false, (⟨4, (⟨0, 0, b8 p5, ([] : List UInt8), false⟩ : iac_Token)⟩ : iac_Tokens))))
          else (do
              if (p1.f_state == 4) = true then (do
                  if (p5 == 255) = true then (do
                      some (((⟨0, 0, 0, ([] : List UInt8), false⟩ : iac_Token), false, (⟨5, (⟨p1.f_token.f_Kind, p1.f_token.f_Code, p1.f_token.f_Option, p1.f_token.f_Body, p1.f_token.f_Cut⟩ : iac_Token)⟩ : iac_Tokens))))
                  else (do
                      let y27 ← iac_Tokens_add_n n ((⟨p1.f_state, (⟨p1.f_token.f_Kind, p1.f_token.f_Code, p1.f_token.f_Option, p1.f_token.f_Body, p1.f_token.f_Cut⟩ : iac_Token)⟩ : iac_Tokens)) p5
                      some (((⟨0, 0, 0, ([] : List UInt8), false⟩ : iac_Token), false, (⟨y27.f_state, (⟨y27.f_token.f_Kind, y27.f_token.f_Code, y27.f_token.f_Option, y27.f_token.f_Body, y27.f_token.f_Cut⟩ : iac_Token)⟩ : iac_Tokens)))))
              else (do
                  if (p1.f_state == 5) = true then (do
                      if (p5 == 255) = true then (do
                          let y35 ← iac_Tokens_add_n n ((⟨4, (⟨p1.f_token.f_Kind, p1.f_token.f_Code, p1.f_token.f_Option, p1.f_token.f_Body, p1.f_token.f_Cut⟩ : iac_Token)⟩ : iac_Tokens)) p5
                          some (((⟨0, 0, 0, ([] : List UInt8), false⟩ : iac_Token), false, (⟨y35.f_state, (⟨y35.f_token.f_Kind, y35.f_token.f_Code, y35.f_token.f_Option, y35.f_token.f_Body, y35.f_token.f_Cut⟩ : iac_Token)⟩ : iac_Tokens))))
                      else (do
                          if (p5 == 240) = true then (do
                              some (((⟨4, p1.f_token.f_Code, p1.f_token.f_Option, p1.f_token.f_Body, p1.f_token.f_Cut⟩ : iac_Token), true, (⟨0, (⟨0, 0, 0, ([] : List UInt8), false⟩ : iac_Token)⟩ : iac_Tokens))))
                          else (do
                              some (((⟨5, b8 p5, p1.f_token.f_Option, ([] : List UInt8), false⟩ : iac_Token), true, (⟨0, (⟨0, 0, 0, ([] : List UInt8), false⟩ : iac_Token)⟩ : iac_Tokens))))))
                  else (do
                      if (p5 == 255) = true then (do
                          some (((⟨0, 0, 0, ([] : List UInt8), false⟩ : iac_Token), false, (⟨1, (⟨p1.f_token.f_Kind, p1.f_token.f_Code, p1.f_token.f_Option, p1.f_token.f_Body, p1.f_token.f_Cut⟩ : iac_Token)⟩ : iac_Tokens))))
                      else (do
                          some (((⟨1, b8 p5, 0, ([] : List UInt8), false⟩ : iac_Token), true, (⟨0, (⟨0, 0, 0, ([] : List UInt8), false⟩ : iac_Token)⟩ : iac_Tokens)))))))))
theorem iac_Tokens_Feed_ns {n : Nat} {p1 : iac_Tokens} {p5 : UInt8} {r : iac_Token × Bool × iac_Tokens} (h : iac_Tokens_Feed_n n p1 p5 = some r) : iac_Tokens_Feed p1 p5 = some r := by
  unfold iac_Tokens_Feed_n at h
  unfold iac_Tokens_Feed
  rcases ifB h with ⟨hc_, h⟩ | ⟨hc_, h⟩
  · refine ifT hc_ ?_
    rcases ifB h with ⟨hc_, h⟩ | ⟨hc_, h⟩
    · refine ifT hc_ ?_
      exact h
    · refine ifF hc_ ?_
      rcases ifB h with ⟨hc_, h⟩ | ⟨hc_, h⟩
      · refine ifT hc_ ?_
        exact h
      · refine ifF hc_ ?_
        obtain ⟨y14, h_y14, h⟩ := bindO h
        refine bindI (codes_Verb_ns h_y14) ?_
        rcases ifB h with ⟨hc_, h⟩ | ⟨hc_, h⟩
        · refine ifT hc_ ?_
          exact h
        · refine ifF hc_ ?_
          exact h
  · refine ifF hc_ ?_
    rcases ifB h with ⟨hc_, h⟩ | ⟨hc_, h⟩
    · refine ifT hc_ ?_
      exact h
    · refine ifF hc_ ?_
      rcases ifB h with ⟨hc_, h⟩ | ⟨hc_, h⟩
      · refine ifT hc_ ?_
        exact h
      · refine ifF hc_ ?_
        rcases ifB h with ⟨hc_, h⟩ | ⟨hc_, h⟩
        · refine ifT hc_ ?_
          rcases ifB h with ⟨hc_, h⟩ | ⟨hc_, h⟩
          · refine ifT hc_ ?_
            exact h
          · refine ifF hc_ ?_
            obtain ⟨y27, h_y27, h⟩ := bindO h
            refine bindI (iac_Tokens_add_ns h_y27) ?_
            exact h
        · refine ifF hc_ ?_
          rcases ifB h with ⟨hc_, h⟩ | ⟨hc_, h⟩
          · refine ifT hc_ ?_
            rcases ifB h with ⟨hc_, h⟩ | ⟨hc_, h⟩
            · refine ifT hc_ ?_
              obtain ⟨y35, h_y35, h⟩ := bindO h
              refine bindI (iac_Tokens_add_ns h_y35) ?_
              exact h
            · refine ifF hc_ ?_
              rcases ifB h with ⟨hc_, h⟩ | ⟨hc_, h⟩
              · refine ifT hc_ ?_
                exact h
              · refine ifF hc_ ?_
                exact h
          · refine ifF hc_ ?_
            rcases ifB h with ⟨hc_, h⟩ | ⟨hc_, h⟩
            · refine ifT hc_ ?_
              exact h
            · refine ifF hc_ ?_
              exact h
def nvt_In_Next_n (n : Nat) (p1 : nvt_In) (p3 : UInt8) (p4 : Bool) : Option (Bool × nvt_In) := do
  let x5 ← (do
      if (p4) = true then (do
          some true)
      else (do
          some (p3 != 0)) : Option Bool)
  let x8 ← (do
      if (x5) = true then (do
          some true)
      else (do
          some (!p1.f_behind)) : Option Bool)
  let x11 ← (do
      if (!p4) = true then (do
          some (p3 == 13))
      else (do
          some false) : Option Bool)
  some ((x8, (⟨x11⟩ : nvt_In)))
theorem nvt_In_Next_ns {n : Nat} {p1 : nvt_In} {p3 : UInt8} {p4 : Bool} {r : Bool × nvt_In} (h : nvt_In_Next_n n p1 p3 p4 = some r) : nvt_In_Next p1 p3 p4 = some r := by
  unfold nvt_In_Next_n at h
  unfold nvt_In_Next
  obtain ⟨x5, h_x5, h⟩ := bindO h
  refine bindI (a := x5) ?_ ?_
  ·
    rcases ifB h_x5 with ⟨hc_, h_x5⟩ | ⟨hc_, h_x5⟩
    · refine ifT hc_ ?_
      exact h_x5
    · refine ifF hc_ ?_
      exact h_x5
  ·
    obtain ⟨x8, h_x8, h⟩ := bindO h
    refine bindI (a := x8) ?_ ?_
    ·
      rcases ifB h_x8 with ⟨hc_, h_x8⟩ | ⟨hc_, h_x8⟩
      · refine ifT hc_ ?_
        exact h_x8
      · refine ifF hc_ ?_
        exact h_x8
    ·
      obtain ⟨x11, h_x11, h⟩ := bindO h
      refine bindI (a := x11) ?_ ?_
      ·
        rcases ifB h_x11 with ⟨hc_, h_x11⟩ | ⟨hc_, h_x11⟩
        · refine ifT hc_ ?_
          exact h_x11
        · refine ifF hc_ ?_
          exact h_x11
      ·
        exact h
def clean_Cleaner_stays_n (n : Nat) (p1 : clean_Cleaner) (p5 : iac_Token) (p8 : Bool) : Option (Bool × clean_Cleaner) := do
  let x11 ← (do
      if (p5.f_Kind == 2) = true then (do
          some (p5.f_Code == 242))
      else (do
          some false) : Option Bool)
  if (x11) = true then (do
      some ((true, (⟨(⟨p1.f_tokens.f_state, (⟨p1.f_tokens.f_token.f_Kind, p1.f_tokens.f_token.f_Code, p1.f_tokens.f_token.f_Option, p1.f_tokens.f_token.f_Body, p1.f_tokens.f_token.f_Cut⟩ : iac_Token)⟩ : iac_Tokens), (⟨p1.f_in.f_behind⟩ : nvt_In), false⟩ : clean_Cleaner))))
  else (do
      if (p5.f_Kind != 1) = true then (do
          some ((true, (⟨(⟨p1.f_tokens.f_state, (⟨p1.f_tokens.f_token.f_Kind, p1.f_tokens.f_token.f_Code, p1.f_tokens.f_token.f_Option, p1.f_tokens.f_token.f_Body, p1.f_tokens.f_token.f_Cut⟩ : iac_Token)⟩ : iac_Tokens), (⟨p1.f_in.f_behind⟩ : nvt_In), p1.f_deaf⟩ : clean_Cleaner))))
      else (do
          let x17 ← (do
              if (!p1.f_deaf) = true then (do
                  let y20 ← nvt_In_Next_n n ((⟨p1.f_in.f_behind⟩ : nvt_In)) (toB p5.f_Code) p8
                  some ((y20.1, y20.2.f_behind)))
              else (do
                  some ((false, p1.f_in.f_behind))) : Option (Bool × Bool))
          some ((x17.1, (⟨(⟨p1.f_tokens.f_state, (⟨p1.f_tokens.f_token.f_Kind, p1.f_tokens.f_token.f_Code, p1.f_tokens.f_token.f_Option, p1.f_tokens.f_token.f_Body, p1.f_tokens.f_token.f_Cut⟩ : iac_Token)⟩ : iac_Tokens), (⟨x17.2⟩ : nvt_In), p1.f_deaf⟩ : clean_Cleaner)))))
theorem clean_Cleaner_stays_ns {n : Nat} {p1 : clean_Cleaner} {p5 : iac_Token} {p8 : Bool} {r : Bool × clean_Cleaner} (h : clean_Cleaner_stays_n n p1 p5 p8 = some r) : clean_Cleaner_stays p1 p5 p8 = some r := by
  unfold clean_Cleaner_stays_n at h
  unfold clean_Cleaner_stays
  obtain ⟨x11, h_x11, h⟩ := bindO h
  refine bindI (a := x11) ?_ ?_
  ·
    rcases ifB h_x11 with ⟨hc_, h_x11⟩ | ⟨hc_, h_x11⟩
    · refine ifT hc_ ?_
      exact h_x11
    · refine ifF hc_ ?_
      exact h_x11
  ·
    rcases ifB h with ⟨hc_, h⟩ | ⟨hc_, h⟩
    · refine ifT hc_ ?_
      exact h
    · refine ifF hc_ ?_
      rcases ifB h with ⟨hc_, h⟩ | ⟨hc_, h⟩
      · refine ifT hc_ ?_
        exact h
      · refine ifF hc_ ?_
        obtain ⟨x17, h_x17, h⟩ := bindO h
        refine bindI (a := x17) ?_ ?_
        ·
          rcases ifB h_x17 with ⟨hc_, h_x17⟩ | ⟨hc_, h_x17⟩
          · refine ifT hc_ ?_
            obtain ⟨y20, h_y20, h_x17⟩ := bindO h_x17
            refine bindI (nvt_In_Next_ns h_y20) ?_
            exact h_x17
          · refine ifF hc_ ?_
            exact h_x17
        ·
          exact h
def clean_Cleaner_Feed_n (n : Nat) (p1 : clean_Cleaner) (p5 : UInt8) (p6 : Bool) (p7 : Bool) : Option (iac_Token × Bool × clean_Cleaner) := do
  let x10 ← (do
      if (p1.f_deaf) = true then (do
          some true)
      else (do
          some p6) : Option Bool)
  let y13 ← iac_Tokens_Feed_n n ((⟨p1.f_tokens.f_state, (⟨p1.f_tokens.f_token.f_Kind, p1.f_tokens.f_token.f_Code, p1.f_tokens.f_token.f_Option, p1.f_tokens.f_token.f_Body, p1.f_tokens.f_token.f_Cut⟩ : iac_Token)⟩ : iac_Tokens)) p5
  let x24 ← (do
      if (!y13.2.1) = true then (do
          some ((true, y13.2.2.f_state, y13.2.2.f_token.f_Kind, y13.2.2.f_token.f_Code, y13.2.2.f_token.f_Option, y13.2.2.f_token.f_Cut, p1.f_in.f_behind, x10, y13.2.2.f_token.f_Body)))
      else (do
          let y28 ← clean_Cleaner_stays_n n ((⟨(⟨y13.2.2.f_state, (⟨y13.2.2.f_token.f_Kind, y13.2.2.f_token.f_Code, y13.2.2.f_token.f_Option, y13.2.2.f_token.f_Body, y13.2.2.f_token.f_Cut⟩ : iac_Token)⟩ : iac_Tokens), (⟨p1.f_in.f_behind⟩ : nvt_In), x10⟩ : clean_Cleaner)) ((⟨y13.1.f_Kind, y13.1.f_Code, y13.1.f_Option, y13.1.f_Body, y13.1.f_Cut⟩ : iac_Token)) p7
          some ((!y28.1, y28.2.f_tokens.f_state, y28.2.f_tokens.f_token.f_Kind, y28.2.f_tokens.f_token.f_Code, y28.2.f_tokens.f_token.f_Option, y28.2.f_tokens.f_token.f_Cut, y28.2.f_in.f_behind, y28.2.f_deaf, y28.2.f_tokens.f_token.f_Body))) : Option (Bool × Int × Int × Int × Int × Bool × Bool × Bool × (List UInt8)))
  if (x24.1) = true then (do
      some (((⟨0, 0, 0, ([] : List UInt8), false⟩ : iac_Token), false, (⟨(⟨x24.2.1, (⟨x24.2.2.1, x24.2.2.2.1, x24.2.2.2.2.1, x24.2.2.2.2.2.2.2.2, x24.2.2.2.2.2.1⟩ : iac_Token)⟩ : iac_Tokens), (⟨x24.2.2.2.2.2.2.1⟩ : nvt_In), x24.2.2.2.2.2.2.2.1⟩ : clean_Cleaner))))
  else (do
      some (((⟨y13.1.f_Kind, y13.1.f_Code, y13.1.f_Option, y13.1.f_Body, y13.1.f_Cut⟩ : iac_Token), true, (⟨(⟨x24.2.1, (⟨x24.2.2.1, x24.2.2.2.1, x24.2.2.2.2.1, x24.2.2.2.2.2.2.2.2, x24.2.2.2.2.2.1⟩ : iac_Token)⟩ : iac_Tokens), (⟨x24.2.2.2.2.2.2.1⟩ : nvt_In), x24.2.2.2.2.2.2.2.1⟩ : clean_Cleaner))))
theorem clean_Cleaner_Feed_ns {n : Nat} {p1 : clean_Cleaner} {p5 : UInt8} {p6 : Bool} {p7 : Bool} {r : iac_Token × Bool × clean_Cleaner} (h : clean_Cleaner_Feed_n n p1 p5 p6 p7 = some r) : clean_Cleaner_Feed p1 p5 p6 p7 = some r := by
  unfold clean_Cleaner_Feed_n at h
  unfold clean_Cleaner_Feed
  obtain ⟨x10, h_x10, h⟩ := bindO h
  refine bindI (a := x10) ?_ ?_
  ·
    rcases ifB h_x10 with ⟨hc_, h_x10⟩ | ⟨hc_, h_x10⟩
    · refine ifT hc_ ?_
      exact h_x10
    · refine ifF hc_ ?_
      exact h_x10
  ·
    obtain ⟨y13, h_y13, h⟩ := bindO h
    refine bindI (iac_Tokens_Feed_ns h_y13) ?_
    obtain ⟨x24, h_x24, h⟩ := bindO h
    refine bindI (a := x24) ?_ ?_
    ·
      rcases ifB h_x24 with ⟨hc_, h_x24⟩ | ⟨hc_, h_x24⟩
      · refine ifT hc_ ?_
        exact h_x24
      · refine ifF hc_ ?_
        obtain ⟨y28, h_y28, h_x24⟩ := bindO h_x24
        refine bindI (clean_Cleaner_stays_ns h_y28) ?_
        exact h_x24
    ·
      rcases ifB h with ⟨hc_, h⟩ | ⟨hc_, h⟩
      · refine ifT hc_ ?_
        exact h
      · refine ifF hc_ ?_
        exact h
def clean_All_l1_n (n : Nat) (p1 : List UInt8) (p4 : List Int) (p7 : Bool) (z18 : Int × (List iac_Token) × Int × Int × Int × Int × Bool × Bool × Bool × (List UInt8)) : Option ((List iac_Token) × Int × Int × Int × Int × Bool × Bool × Bool × (List UInt8)) :=
  match n with
  | 0 => none
  | n + 1 => do
    if (decide (z18.1 < ((p1.length : Int)))) = true then (do
        let x28 ← (do
            let e32 ← ix p1 z18.1
            let y42 ← slices_Contains_int_int_n n p4 z18.1
            let y46 ← clean_Cleaner_Feed_n n ((⟨(⟨z18.2.2.1, (⟨z18.2.2.2.1, z18.2.2.2.2.1, z18.2.2.2.2.2.1, z18.2.2.2.2.2.2.2.2.2, z18.2.2.2.2.2.2.1⟩ : iac_Token)⟩ : iac_Tokens), (⟨z18.2.2.2.2.2.2.2.1⟩ : nvt_In), z18.2.2.2.2.2.2.2.2.1⟩ : clean_Cleaner)) e32 y42 p7
            if (y46.2.1) = true then (do
                let _ ← req ((z18.2.1.length + [(⟨y46.1.f_Kind, y46.1.f_Code, y46.1.f_Option, y46.1.f_Body, y46.1.f_Cut⟩ : iac_Token)].length) * 56 ≤ 140737488355328 ∧ z18.2.1.length + [(⟨y46.1.f_Kind, y46.1.f_Code, y46.1.f_Option, y46.1.f_Body, y46.1.f_Cut⟩ : iac_Token)].length ≤ 9223372036854775807)
                some ((z18.2.1 ++ [(⟨y46.1.f_Kind, y46.1.f_Code, y46.1.f_Option, y46.1.f_Body, y46.1.f_Cut⟩ : iac_Token)], y46.2.2.f_tokens.f_state, y46.2.2.f_tokens.f_token.f_Kind, y46.2.2.f_tokens.f_token.f_Code, y46.2.2.f_tokens.f_token.f_Option, y46.2.2.f_tokens.f_token.f_Cut, y46.2.2.f_in.f_behind, y46.2.2.f_deaf, y46.2.2.f_tokens.f_token.f_Body)))
            else (do
                some ((z18.2.1, y46.2.2.f_tokens.f_state, y46.2.2.f_tokens.f_token.f_Kind, y46.2.2.f_tokens.f_token.f_Code, y46.2.2.f_tokens.f_token.f_Option, y46.2.2.f_tokens.f_token.f_Cut, y46.2.2.f_in.f_behind, y46.2.2.f_deaf, y46.2.2.f_tokens.f_token.f_Body))) : Option ((List iac_Token) × Int × Int × Int × Int × Bool × Bool × Bool × (List UInt8)))
        clean_All_l1_n n p1 p4 p7 ((w64 (z18.1 + 1), x28.1, x28.2.1, x28.2.2.1, x28.2.2.2.1, x28.2.2.2.2.1, x28.2.2.2.2.2.1, x28.2.2.2.2.2.2.1, x28.2.2.2.2.2.2.2.1, x28.2.2.2.2.2.2.2.2)))
    else (do
        some ((z18.2.1, z18.2.2.1, z18.2.2.2.1, z18.2.2.2.2.1, z18.2.2.2.2.2.1, z18.2.2.2.2.2.2.1, z18.2.2.2.2.2.2.2.1, z18.2.2.2.2.2.2.2.2.1, z18.2.2.2.2.2.2.2.2.2)))
theorem clean_All_l1_nr : ∀ (n : Nat) (p1 : List UInt8) (p4 : List Int) (p7 : Bool) (z18 : Int × (List iac_Token) × Int × Int × Int × Int × Bool × Bool × Bool × (List UInt8)) (r : (List iac_Token) × Int × Int × Int × Int × Bool × Bool × Bool × (List UInt8)), clean_All_l1_n n p1 p4 p7 z18 = some r → clean_All_l1 p1 p4 p7 z18 = some r := by
  intro n
  induction n with
  | zero => intro p1 p4 p7 z18 r h; cases h
  | succ n ih =>
    intro p1 p4 p7 z18 r h
    rw [clean_All_l1_n] at h
    rw [clean_All_l1]
    rcases ifB h with ⟨hc_, h⟩ | ⟨hc_, h⟩
    · refine ifT hc_ ?_
      obtain ⟨x28, h_x28, h⟩ := bindO h
      refine bindI (a := x28) ?_ ?_
      ·
        obtain ⟨e32, h_e32, h_x28⟩ := bindO h_x28
        refine bindI h_e32 ?_
        obtain ⟨y42, h_y42, h_x28⟩ := bindO h_x28
        refine bindI (slices_Contains_int_int_ns h_y42) ?_
        obtain ⟨y46, h_y46, h_x28⟩ := bindO h_x28
        refine bindI (clean_Cleaner_Feed_ns h_y46) ?_
        rcases ifB h_x28 with ⟨hc_, h_x28⟩ | ⟨hc_, h_x28⟩
        · refine ifT hc_ ?_
          obtain ⟨u_, hu_, h_x28⟩ := bindO h_x28
          refine bindI hu_ ?_
          exact h_x28
        · refine ifF hc_ ?_
          exact h_x28
      ·
        exact ih _ _ _ _ _ h
    · refine ifF hc_ ?_
      exact h
theorem clean_All_l1_ns {n : Nat} {p1 : List UInt8} {p4 : List Int} {p7 : Bool} {z18 : Int × (List iac_Token) × Int × Int × Int × Int × Bool × Bool × Bool × (List UInt8)} {r : (List iac_Token) × Int × Int × Int × Int × Bool × Bool × Bool × (List UInt8)} (h : clean_All_l1_n n p1 p4 p7 z18 = some r) : clean_All_l1 p1 p4 p7 z18 = some r := clean_All_l1_nr n p1 p4 p7 z18 r h
def clean_All_n (n : Nat) (p1 : List UInt8) (p4 : List Int) (p7 : Bool) : Option (List iac_Token) := do
  let o21 ← clean_All_l1_n n p1 p4 p7 ((0, ([] : List iac_Token), 0, 0, 0, 0, false, false, false, ([] : List UInt8)))
  some o21.1
theorem clean_All_ns {n : Nat} {p1 : List UInt8} {p4 : List Int} {p7 : Bool} {r : List iac_Token} (h : clean_All_n n p1 p4 p7 = some r) : clean_All p1 p4 p7 = some r := by
  unfold clean_All_n at h
  unfold clean_All
  obtain ⟨o21, h_o21, h⟩ := bindO h
  refine bindI (clean_All_l1_ns h_o21) ?_
  exact h
def clean_Data_l1_n (n : Nat) (y9 : List iac_Token) (x21 : Int) (x22 : List UInt8) : Option (List UInt8) :=
  match n with
  | 0 => none
  | n + 1 => do
    if (decide (x21 < ((y9.length : Int)))) = true then (do
        let x30 ← (do
            let e33 ← ix y9 x21
            if (e33.f_Kind == 1) = true then (do
                let _ ← req ((x22.length + ([toB e33.f_Code] : List UInt8).length) * 1 ≤ 140737488355328 ∧ x22.length + ([toB e33.f_Code] : List UInt8).length ≤ 9223372036854775807)
                some (x22 ++ ([toB e33.f_Code] : List UInt8)))
            else (do
                some x22) : Option (List UInt8))
        clean_Data_l1_n n y9 (w64 (x21 + 1)) x30)
    else (do
        some x22)
theorem clean_Data_l1_nr : ∀ (n : Nat) (y9 : List iac_Token) (x21 : Int) (x22 : List UInt8) (r : List UInt8), clean_Data_l1_n n y9 x21 x22 = some r → clean_Data_l1 y9 x21 x22 = some r := by
  intro n
  induction n with
  | zero => intro y9 x21 x22 r h; cases h
  | succ n ih =>
    intro y9 x21 x22 r h
    rw [clean_Data_l1_n] at h
    rw [clean_Data_l1]
    rcases ifB h with ⟨hc_, h⟩ | ⟨hc_, h⟩
    · refine ifT hc_ ?_
      obtain ⟨x30, h_x30, h⟩ := bindO h
      refine bindI (a := x30) ?_ ?_
      ·
        obtain ⟨e33, h_e33, h_x30⟩ := bindO h_x30
        refine bindI h_e33 ?_
        rcases ifB h_x30 with ⟨hc_, h_x30⟩ | ⟨hc_, h_x30⟩
        · refine ifT hc_ ?_
          obtain ⟨u_, hu_, h_x30⟩ := bindO h_x30
          refine bindI hu_ ?_
          exact h_x30
        · refine ifF hc_ ?_
          exact h_x30
      ·
        exact ih _ _ _ _ h
    · refine ifF hc_ ?_
      exact h
theorem clean_Data_l1_ns {n : Nat} {y9 : List iac_Token} {x21 : Int} {x22 : List UInt8} {r : List UInt8} (h : clean_Data_l1_n n y9 x21 x22 = some r) : clean_Data_l1 y9 x21 x22 = some r := clean_Data_l1_nr n y9 x21 x22 r h
def clean_Data_n (n : Nat) (p1 : List UInt8) (p4 : List Int) (p7 : Bool) : Option (List UInt8) := do
  let y9 ← clean_All_n n p1 p4 p7
  let o24 ← clean_Data_l1_n n y9 0 ([] : List UInt8)
  some o24
theorem clean_Data_ns {n : Nat} {p1 : List UInt8} {p4 : List Int} {p7 : Bool} {r : List UInt8} (h : clean_Data_n n p1 p4 p7 = some r) : clean_Data p1 p4 p7 = some r := by
  unfold clean_Data_n at h
  unfold clean_Data
  obtain ⟨y9, h_y9, h⟩ := bindO h
  refine bindI (clean_All_ns h_y9) ?_
  obtain ⟨o24, h_o24, h⟩ := bindO h
  refine bindI (clean_Data_l1_ns h_o24) ?_
  exact h
def Law_alive_n (n : Nat) : Option Bool := do
  let y7 ← clean_Data_n n [97, 98, 99, 255, 242, 100] (([1] : List Int)) false
  some (y7 == ([97, 100] : List UInt8))
theorem Law_alive_ns {n : Nat} {r : Bool} (h : Law_alive_n n = some r) : Law_alive = some r := by
  unfold Law_alive_n at h
  unfold Law_alive
  obtain ⟨y7, h_y7, h⟩ := bindO h
  refine bindI (clean_Data_ns h_y7) ?_
  exact h
def slices_Clone_byte_byte_n (n : Nat) (p1 : List UInt8) : Option (List UInt8) := do
  let _ ← req ((([] : List UInt8).length + p1.length) * 1 ≤ 140737488355328 ∧ ([] : List UInt8).length + p1.length ≤ 9223372036854775807)
  some (([] : List UInt8) ++ p1)
theorem slices_Clone_byte_byte_ns {n : Nat} {p1 : List UInt8} {r : List UInt8} (h : slices_Clone_byte_byte_n n p1 = some r) : slices_Clone_byte_byte p1 = some r := by
  unfold slices_Clone_byte_byte_n at h
  unfold slices_Clone_byte_byte
  obtain ⟨u_, hu_, h⟩ := bindO h
  refine bindI hu_ ?_
  exact h
def iac_Tokens_Idle_n (n : Nat) (p1 : iac_Tokens) : Option (Bool × iac_Tokens) := do
  some ((p1.f_state == 0, (⟨p1.f_state, (⟨p1.f_token.f_Kind, p1.f_token.f_Code, p1.f_token.f_Option, p1.f_token.f_Body, p1.f_token.f_Cut⟩ : iac_Token)⟩ : iac_Tokens)))
theorem iac_Tokens_Idle_ns {n : Nat} {p1 : iac_Tokens} {r : Bool × iac_Tokens} (h : iac_Tokens_Idle_n n p1 = some r) : iac_Tokens_Idle p1 = some r := by
  unfold iac_Tokens_Idle_n at h
  unfold iac_Tokens_Idle
  exact h
def iac_All_l1_n (n : Nat) (p1 : List UInt8) (z14 : Int × (List iac_Token) × Int × Int × Int × Int × Bool × (List UInt8)) : Option ((List iac_Token) × Int × Int × Int × Int × Bool × (List UInt8)) :=
  match n with
  | 0 => none
  | n + 1 => do
    if (decide (z14.1 < ((p1.length : Int)))) = true then (do
        let x24 ← (do
            let e28 ← ix p1 z14.1
            let y38 ← iac_Tokens_Feed_n n ((⟨z14.2.2.1, (⟨z14.2.2.2.1, z14.2.2.2.2.1, z14.2.2.2.2.2.1, z14.2.2.2.2.2.2.2, z14.2.2.2.2.2.2.1⟩ : iac_Token)⟩ : iac_Tokens)) e28
            if (y38.2.1) = true then (do
                let y49 ← slices_Clone_byte_byte_n n y38.1.f_Body
                let _ ← req ((z14.2.1.length + [(⟨y38.1.f_Kind, y38.1.f_Code, y38.1.f_Option, y49, y38.1.f_Cut⟩ : iac_Token)].length) * 56 ≤ 140737488355328 ∧ z14.2.1.length + [(⟨y38.1.f_Kind, y38.1.f_Code, y38.1.f_Option, y49, y38.1.f_Cut⟩ : iac_Token)].length ≤ 9223372036854775807)
                some ((z14.2.1 ++ [(⟨y38.1.f_Kind, y38.1.f_Code, y38.1.f_Option, y49, y38.1.f_Cut⟩ : iac_Token)], y38.2.2.f_state, y38.2.2.f_token.f_Kind, y38.2.2.f_token.f_Code, y38.2.2.f_token.f_Option, y38.2.2.f_token.f_Cut, y38.2.2.f_token.f_Body)))
            else (do
                some ((z14.2.1, y38.2.2.f_state, y38.2.2.f_token.f_Kind, y38.2.2.f_token.f_Code, y38.2.2.f_token.f_Option, y38.2.2.f_token.f_Cut, y38.2.2.f_token.f_Body))) : Option ((List iac_Token) × Int × Int × Int × Int × Bool × (List UInt8)))
        iac_All_l1_n n p1 ((w64 (z14.1 + 1), x24.1, x24.2.1, x24.2.2.1, x24.2.2.2.1, x24.2.2.2.2.1, x24.2.2.2.2.2.1, x24.2.2.2.2.2.2)))
    else (do
        some ((z14.2.1, z14.2.2.1, z14.2.2.2.1, z14.2.2.2.2.1, z14.2.2.2.2.2.1, z14.2.2.2.2.2.2.1, z14.2.2.2.2.2.2.2)))
theorem iac_All_l1_nr : ∀ (n : Nat) (p1 : List UInt8) (z14 : Int × (List iac_Token) × Int × Int × Int × Int × Bool × (List UInt8)) (r : (List iac_Token) × Int × Int × Int × Int × Bool × (List UInt8)), iac_All_l1_n n p1 z14 = some r → iac_All_l1 p1 z14 = some r := by
  intro n
  induction n with
  | zero => intro p1 z14 r h; cases h
  | succ n ih =>
    intro p1 z14 r h
    rw [iac_All_l1_n] at h
    rw [iac_All_l1]
    rcases ifB h with ⟨hc_, h⟩ | ⟨hc_, h⟩
    · refine ifT hc_ ?_
      obtain ⟨x24, h_x24, h⟩ := bindO h
      refine bindI (a := x24) ?_ ?_
      ·
        obtain ⟨e28, h_e28, h_x24⟩ := bindO h_x24
        refine bindI h_e28 ?_
        obtain ⟨y38, h_y38, h_x24⟩ := bindO h_x24
        refine bindI (iac_Tokens_Feed_ns h_y38) ?_
        rcases ifB h_x24 with ⟨hc_, h_x24⟩ | ⟨hc_, h_x24⟩
        · refine ifT hc_ ?_
          obtain ⟨y49, h_y49, h_x24⟩ := bindO h_x24
          refine bindI (slices_Clone_byte_byte_ns h_y49) ?_
          obtain ⟨u_, hu_, h_x24⟩ := bindO h_x24
          refine bindI hu_ ?_
          exact h_x24
        · refine ifF hc_ ?_
          exact h_x24
      ·
        exact ih _ _ _ h
    · refine ifF hc_ ?_
      exact h
theorem iac_All_l1_ns {n : Nat} {p1 : List UInt8} {z14 : Int × (List iac_Token) × Int × Int × Int × Int × Bool × (List UInt8)} {r : (List iac_Token) × Int × Int × Int × Int × Bool × (List UInt8)} (h : iac_All_l1_n n p1 z14 = some r) : iac_All_l1 p1 z14 = some r := iac_All_l1_nr n p1 z14 r h
def iac_All_n (n : Nat) (p1 : List UInt8) : Option ((List iac_Token) × Bool) := do
  let o17 ← iac_All_l1_n n p1 ((0, ([] : List iac_Token), 0, 0, 0, 0, false, ([] : List UInt8)))
  let y60 ← iac_Tokens_Idle_n n ((⟨o17.2.1, (⟨o17.2.2.1, o17.2.2.2.1, o17.2.2.2.2.1, o17.2.2.2.2.2.2, o17.2.2.2.2.2.1⟩ : iac_Token)⟩ : iac_Tokens))
  some ((o17.1, y60.1))
theorem iac_All_ns {n : Nat} {p1 : List UInt8} {r : (List iac_Token) × Bool} (h : iac_All_n n p1 = some r) : iac_All p1 = some r := by
  unfold iac_All_n at h
  unfold iac_All
  obtain ⟨o17, h_o17, h⟩ := bindO h
  refine bindI (iac_All_l1_ns h_o17) ?_
  obtain ⟨y60, h_y60, h⟩ := bindO h
  refine bindI (iac_Tokens_Idle_ns h_y60) ?_
  exact h
def bytes_Equal_n (n : Nat) (p1 : List UInt8) (p4 : List UInt8) : Option Bool := do
  some (p1 == p4)
theorem bytes_Equal_ns {n : Nat} {p1 : List UInt8} {p4 : List UInt8} {r : Bool} (h : bytes_Equal_n n p1 p4 = some r) : bytes_Equal p1 p4 = some r := by
  unfold bytes_Equal_n at h
  unfold bytes_Equal
  exact h
def iac_Same_n (n : Nat) (p1 : iac_Token) (p4 : iac_Token) : Option Bool := do
  let x11 ← (do
      if (p1.f_Kind == p4.f_Kind) = true then (do
          some (p1.f_Code == p4.f_Code))
      else (do
          some false) : Option Bool)
  let x14 ← (do
      if (x11) = true then (do
          some (p1.f_Option == p4.f_Option))
      else (do
          some false) : Option Bool)
  let x17 ← (do
      if (x14) = true then (do
          some (p1.f_Cut == p4.f_Cut))
      else (do
          some false) : Option Bool)
  let x21 ← (do
      if (x17) = true then (do
          let y24 ← bytes_Equal_n n p1.f_Body p4.f_Body
          some y24)
      else (do
          some false) : Option Bool)
  some x21
theorem iac_Same_ns {n : Nat} {p1 : iac_Token} {p4 : iac_Token} {r : Bool} (h : iac_Same_n n p1 p4 = some r) : iac_Same p1 p4 = some r := by
  unfold iac_Same_n at h
  unfold iac_Same
  obtain ⟨x11, h_x11, h⟩ := bindO h
  refine bindI (a := x11) ?_ ?_
  ·
    rcases ifB h_x11 with ⟨hc_, h_x11⟩ | ⟨hc_, h_x11⟩
    · refine ifT hc_ ?_
      exact h_x11
    · refine ifF hc_ ?_
      exact h_x11
  ·
    obtain ⟨x14, h_x14, h⟩ := bindO h
    refine bindI (a := x14) ?_ ?_
    ·
      rcases ifB h_x14 with ⟨hc_, h_x14⟩ | ⟨hc_, h_x14⟩
      · refine ifT hc_ ?_
        exact h_x14
      · refine ifF hc_ ?_
        exact h_x14
    ·
      obtain ⟨x17, h_x17, h⟩ := bindO h
      refine bindI (a := x17) ?_ ?_
      ·
        rcases ifB h_x17 with ⟨hc_, h_x17⟩ | ⟨hc_, h_x17⟩
        · refine ifT hc_ ?_
          exact h_x17
        · refine ifF hc_ ?_
          exact h_x17
      ·
        obtain ⟨x21, h_x21, h⟩ := bindO h
        refine bindI (a := x21) ?_ ?_
        ·
          rcases ifB h_x21 with ⟨hc_, h_x21⟩ | ⟨hc_, h_x21⟩
          · refine ifT hc_ ?_
            obtain ⟨y24, h_y24, h_x21⟩ := bindO h_x21
            refine bindI (bytes_Equal_ns h_y24) ?_
            exact h_x21
          · refine ifF hc_ ?_
            exact h_x21
        ·
          exact h
def nvt_Encode_l1_n (n : Nat) (p1 : List UInt8) (p4 : Bool) (x12 : Int) (x13 : List UInt8) : Option (List UInt8) :=
  match n with
  | 0 => none
  | n + 1 => do
    if (decide (x12 < ((p1.length : Int)))) = true then (do
        let x21 ← (do
            let e24 ← ix p1 x12
            let _ ← req ((x13.length + ([e24] : List UInt8).length) * 1 ≤ 140737488355328 ∧ x13.length + ([e24] : List UInt8).length ≤ 9223372036854775807)
            let x39 ← (do
                if (!p4) = true then (do
                    some (e24 == 13))
                else (do
                    some false) : Option Bool)
            let x42 ← (do
                if (x39) = true then (do
                    let x45 ← (do
                        if (x12 == (w64 (((p1.length : Int)) - 1))) = true then (do
                            some true)
                        else (do
                            let e48 ← ix p1 (w64 (x12 + 1))
                            some (e48 != 10)) : Option Bool)
                    some x45)
                else (do
                    some false) : Option Bool)
            if (x42) = true then (do
                let _ ← req (((x13 ++ ([e24] : List UInt8)).length + ([0] : List UInt8).length) * 1 ≤ 140737488355328 ∧ (x13 ++ ([e24] : List UInt8)).length + ([0] : List UInt8).length ≤ 9223372036854775807)
                some ((x13 ++ ([e24] : List UInt8)) ++ ([0] : List UInt8)))
            else (do
                some (x13 ++ ([e24] : List UInt8))) : Option (List UInt8))
        nvt_Encode_l1_n n p1 p4 (w64 (x12 + 1)) x21)
    else (do
        some x13)
theorem nvt_Encode_l1_nr : ∀ (n : Nat) (p1 : List UInt8) (p4 : Bool) (x12 : Int) (x13 : List UInt8) (r : List UInt8), nvt_Encode_l1_n n p1 p4 x12 x13 = some r → nvt_Encode_l1 p1 p4 x12 x13 = some r := by
  intro n
  induction n with
  | zero => intro p1 p4 x12 x13 r h; cases h
  | succ n ih =>
    intro p1 p4 x12 x13 r h
    rw [nvt_Encode_l1_n] at h
    rw [nvt_Encode_l1]
    rcases ifB h with ⟨hc_, h⟩ | ⟨hc_, h⟩
    · refine ifT hc_ ?_
      obtain ⟨x21, h_x21, h⟩ := bindO h
      refine bindI (a := x21) ?_ ?_
      ·
        obtain ⟨e24, h_e24, h_x21⟩ := bindO h_x21
        refine bindI h_e24 ?_
        obtain ⟨u_, hu_, h_x21⟩ := bindO h_x21
        refine bindI hu_ ?_
        obtain ⟨x39, h_x39, h_x21⟩ := bindO h_x21
        refine bindI (a := x39) ?_ ?_
        ·
          rcases ifB h_x39 with ⟨hc_, h_x39⟩ | ⟨hc_, h_x39⟩
          · refine ifT hc_ ?_
            exact h_x39
          · refine ifF hc_ ?_
            exact h_x39
        ·
          obtain ⟨x42, h_x42, h_x21⟩ := bindO h_x21
          refine bindI (a := x42) ?_ ?_
          ·
            rcases ifB h_x42 with ⟨hc_, h_x42⟩ | ⟨hc_, h_x42⟩
            · refine ifT hc_ ?_
              obtain ⟨x45, h_x45, h_x42⟩ := bindO h_x42
              refine bindI (a := x45) ?_ ?_
              ·
                rcases ifB h_x45 with ⟨hc_, h_x45⟩ | ⟨hc_, h_x45⟩
                · refine ifT hc_ ?_
                  exact h_x45
                · refine ifF hc_ ?_
                  obtain ⟨e48, h_e48, h_x45⟩ := bindO h_x45
                  refine bindI h_e48 ?_
                  exact h_x45
              ·
                exact h_x42
            · refine ifF hc_ ?_
              exact h_x42
          ·
            rcases ifB h_x21 with ⟨hc_, h_x21⟩ | ⟨hc_, h_x21⟩
            · refine ifT hc_ ?_
              obtain ⟨u_, hu_, h_x21⟩ := bindO h_x21
              refine bindI hu_ ?_
              exact h_x21
            · refine ifF hc_ ?_
              exact h_x21
      ·
        exact ih _ _ _ _ _ h
    · refine ifF hc_ ?_
      exact h
theorem nvt_Encode_l1_ns {n : Nat} {p1 : List UInt8} {p4 : Bool} {x12 : Int} {x13 : List UInt8} {r : List UInt8} (h : nvt_Encode_l1_n n p1 p4 x12 x13 = some r) : nvt_Encode_l1 p1 p4 x12 x13 = some r := nvt_Encode_l1_nr n p1 p4 x12 x13 r h
def nvt_Encode_n (n : Nat) (p1 : List UInt8) (p4 : Bool) : Option (List UInt8) := do
  let o15 ← nvt_Encode_l1_n n p1 p4 0 ([] : List UInt8)
  some o15
theorem nvt_Encode_ns {n : Nat} {p1 : List UInt8} {p4 : Bool} {r : List UInt8} (h : nvt_Encode_n n p1 p4 = some r) : nvt_Encode p1 p4 = some r := by
  unfold nvt_Encode_n at h
  unfold nvt_Encode
  obtain ⟨o15, h_o15, h⟩ := bindO h
  refine bindI (nvt_Encode_l1_ns h_o15) ?_
  exact h
def unicode_utf8_RuneCountInString_n (n : Nat) (p1 : List UInt8) : Option Int := do
  none
theorem unicode_utf8_RuneCountInString_ns {n : Nat} {p1 : List UInt8} {r : Int} (h : unicode_utf8_RuneCountInString_n n p1 = some r) : unicode_utf8_RuneCountInString p1 = some r := by
  unfold unicode_utf8_RuneCountInString_n at h
  unfold unicode_utf8_RuneCountInString
  exact h
def unicode_utf8_RuneCount_l1_n (n : Nat) (p1 : List UInt8) (x8 : Int) : Option (Sum Int Int) :=
  match n with
  | 0 => none
  | n + 1 => do
    if (decide (x8 < ((p1.length : Int)))) = true then (do
        let e16 ← ix p1 x8
        if (decide (128 ≤ e16)) = true then (do
            let s27 ← cutL p1 x8 ((p1.length : Int))
            let y32 ← unicode_utf8_RuneCountInString_n n s27
            some (Sum.inr (w64 (x8 + y32))))
        else (do
            unicode_utf8_RuneCount_l1_n n p1 (w64 (x8 + 1))))
    else (do
        some (Sum.inl x8))
theorem unicode_utf8_RuneCount_l1_nr : ∀ (n : Nat) (p1 : List UInt8) (x8 : Int) (r : Sum Int Int), unicode_utf8_RuneCount_l1_n n p1 x8 = some r → unicode_utf8_RuneCount_l1 p1 x8 = some r := by
  intro n
  induction n with
  | zero => intro p1 x8 r h; cases h
  | succ n ih =>
    intro p1 x8 r h
    rw [unicode_utf8_RuneCount_l1_n] at h
    rw [unicode_utf8_RuneCount_l1]
    rcases ifB h with ⟨hc_, h⟩ | ⟨hc_, h⟩
    · refine ifT hc_ ?_
      obtain ⟨e16, h_e16, h⟩ := bindO h
      refine bindI h_e16 ?_
      rcases ifB h with ⟨hc_, h⟩ | ⟨hc_, h⟩
      · refine ifT hc_ ?_
        obtain ⟨s27, h_s27, h⟩ := bindO h
        refine bindI h_s27 ?_
        obtain ⟨y32, h_y32, h⟩ := bindO h
        refine bindI (unicode_utf8_RuneCountInString_ns h_y32) ?_
        exact h
      · refine ifF hc_ ?_
        exact ih _ _ _ h
    · refine ifF hc_ ?_
      exact h
theorem unicode_utf8_RuneCount_l1_ns {n : Nat} {p1 : List UInt8} {x8 : Int} {r : Sum Int Int} (h : unicode_utf8_RuneCount_l1_n n p1 x8 = some r) : unicode_utf8_RuneCount_l1 p1 x8 = some r := unicode_utf8_RuneCount_l1_nr n p1 x8 r h
def unicode_utf8_RuneCount_n (n : Nat) (p1 : List UInt8) : Option Int := do
  let o9 ← unicode_utf8_RuneCount_l1_n n p1 0
  match o9 with
  | Sum.inl x12 => do
      some x12
  | Sum.inr x14 => do
      some x14
theorem unicode_utf8_RuneCount_ns {n : Nat} {p1 : List UInt8} {r : Int} (h : unicode_utf8_RuneCount_n n p1 = some r) : unicode_utf8_RuneCount p1 = some r := by
  unfold unicode_utf8_RuneCount_n at h
  unfold unicode_utf8_RuneCount
  obtain ⟨o9, h_o9, h⟩ := bindO h
  refine bindI (unicode_utf8_RuneCount_l1_ns h_o9) ?_
  rcases o9 with x_ | x_
  ·
    dsimp only at h ⊢
    exact h
  ·
    dsimp only at h ⊢
    exact h
def bytes_IndexByte_n (n : Nat) (p1 : List UInt8) (p4 : UInt8) : Option Int := do
  some (idxB p1 p4)
theorem bytes_IndexByte_ns {n : Nat} {p1 : List UInt8} {p4 : UInt8} {r : Int} (h : bytes_IndexByte_n n p1 p4 = some r) : bytes_IndexByte p1 p4 = some r := by
  unfold bytes_IndexByte_n at h
  unfold bytes_IndexByte
  exact h
def internal_bytealg_Cutover_n (n : Nat) (p1 : Int) : Option Int := do
  let q2 ← iquo (w64 (p1 + 16)) 8
  some q2
theorem internal_bytealg_Cutover_ns {n : Nat} {p1 : Int} {r : Int} (h : internal_bytealg_Cutover_n n p1 = some r) : internal_bytealg_Cutover p1 = some r := by
  unfold internal_bytealg_Cutover_n at h
  unfold internal_bytealg_Cutover
  obtain ⟨q2, h_q2, h⟩ := bindO h
  refine bindI h_q2 ?_
  exact h
def internal_bytealg_hashStr_byte_n (n : Nat) (p1 : List UInt8) : Option (Int × Int) := do
  none
theorem internal_bytealg_hashStr_byte_ns {n : Nat} {p1 : List UInt8} {r : Int × Int} (h : internal_bytealg_hashStr_byte_n n p1 = some r) : internal_bytealg_hashStr_byte p1 = some r := by
  unfold internal_bytealg_hashStr_byte_n at h
  unfold internal_bytealg_hashStr_byte
  exact h
def internal_bytealg_IndexRabinKarp_byte_n (n : Nat) (p1 : List UInt8) (p4 : List UInt8) : Option Int := do
  let y7 ← internal_bytealg_hashStr_byte_n n p4
  none
theorem internal_bytealg_IndexRabinKarp_byte_ns {n : Nat} {p1 : List UInt8} {p4 : List UInt8} {r : Int} (h : internal_bytealg_IndexRabinKarp_byte_n n p1 p4 = some r) : internal_bytealg_IndexRabinKarp_byte p1 p4 = some r := by
  unfold internal_bytealg_IndexRabinKarp_byte_n at h
  unfold internal_bytealg_IndexRabinKarp_byte
  obtain ⟨y7, h_y7, h⟩ := bindO h
  refine bindI (internal_bytealg_hashStr_byte_ns h_y7) ?_
  exact h
def bytes_Index_n (n : Nat) (p1 : List UInt8) (p4 : List UInt8) : Option Int := do
  if (((p4.length : Int)) == 0) = true then (do
      some 0)
  else (do
      if (((p4.length : Int)) == 1) = true then (do
          let e9 ← ix p4 0
          let y19 ← bytes_IndexByte_n n p1 e9
          some y19)
      else (do
          if (((p4.length : Int)) == ((p1.length : Int))) = true then (do
              let y24 ← bytes_Equal_n n p4 p1
              if (y24) = true then (do
                  some 0)
              else (do
                  some ((-1))))
          else (do
              if (decide (((p4.length : Int)) > ((p1.length : Int)))) = true then (do
                  some ((-1)))
              else (do
                  none))))
theorem bytes_Index_ns {n : Nat} {p1 : List UInt8} {p4 : List UInt8} {r : Int} (h : bytes_Index_n n p1 p4 = some r) : bytes_Index p1 p4 = some r := by
  unfold bytes_Index_n at h
  unfold bytes_Index
  rcases ifB h with ⟨hc_, h⟩ | ⟨hc_, h⟩
  · refine ifT hc_ ?_
    exact h
  · refine ifF hc_ ?_
    rcases ifB h with ⟨hc_, h⟩ | ⟨hc_, h⟩
    · refine ifT hc_ ?_
      obtain ⟨e9, h_e9, h⟩ := bindO h
      refine bindI h_e9 ?_
      obtain ⟨y19, h_y19, h⟩ := bindO h
      refine bindI (bytes_IndexByte_ns h_y19) ?_
      exact h
    · refine ifF hc_ ?_
      rcases ifB h with ⟨hc_, h⟩ | ⟨hc_, h⟩
      · refine ifT hc_ ?_
        obtain ⟨y24, h_y24, h⟩ := bindO h
        refine bindI (bytes_Equal_ns h_y24) ?_
        rcases ifB h with ⟨hc_, h⟩ | ⟨hc_, h⟩
        · refine ifT hc_ ?_
          exact h
        · refine ifF hc_ ?_
          exact h
      · refine ifF hc_ ?_
        rcases ifB h with ⟨hc_, h⟩ | ⟨hc_, h⟩
        · refine ifT hc_ ?_
          exact h
        · refine ifF hc_ ?_
          exact h
def bytes_Count_l1_n (n : Nat) (p4 : List UInt8) (x30 : Int) (x31 : List UInt8) : Option Int :=
  match n with
  | 0 => none
  | n + 1 => do
    let y37 ← bytes_Index_n n x31 p4
    if (y37 == ((-1))) = true then (do
        some x30)
    else (do
        let s42 ← cutL x31 ((w64 (y37 + ((p4.length : Int))))) ((x31.length : Int))
        bytes_Count_l1_n n p4 (w64 (x30 + 1)) s42)
theorem bytes_Count_l1_nr : ∀ (n : Nat) (p4 : List UInt8) (x30 : Int) (x31 : List UInt8) (r : Int), bytes_Count_l1_n n p4 x30 x31 = some r → bytes_Count_l1 p4 x30 x31 = some r := by
  intro n
  induction n with
  | zero => intro p4 x30 x31 r h; cases h
  | succ n ih =>
    intro p4 x30 x31 r h
    rw [bytes_Count_l1_n] at h
    rw [bytes_Count_l1]
    obtain ⟨y37, h_y37, h⟩ := bindO h
    refine bindI (bytes_Index_ns h_y37) ?_
    rcases ifB h with ⟨hc_, h⟩ | ⟨hc_, h⟩
    · refine ifT hc_ ?_
      exact h
    · refine ifF hc_ ?_
      obtain ⟨s42, h_s42, h⟩ := bindO h
      refine bindI h_s42 ?_
      exact ih _ _ _ _ h
theorem bytes_Count_l1_ns {n : Nat} {p4 : List UInt8} {x30 : Int} {x31 : List UInt8} {r : Int} (h : bytes_Count_l1_n n p4 x30 x31 = some r) : bytes_Count_l1 p4 x30 x31 = some r := bytes_Count_l1_nr n p4 x30 x31 r h
def bytes_Count_n (n : Nat) (p1 : List UInt8) (p4 : List UInt8) : Option Int := do
  if (((p4.length : Int)) == 0) = true then (do
      let y8 ← unicode_utf8_RuneCount_n n p1
      some (w64 (y8 + 1)))
  else (do
      if (((p4.length : Int)) == 1) = true then (do
          let e13 ← ix p4 0
          some (cntB p1 e13))
      else (do
          let o34 ← bytes_Count_l1_n n p4 0 p1
          some o34))
theorem bytes_Count_ns {n : Nat} {p1 : List UInt8} {p4 : List UInt8} {r : Int} (h : bytes_Count_n n p1 p4 = some r) : bytes_Count p1 p4 = some r := by
  unfold bytes_Count_n at h
  unfold bytes_Count
  rcases ifB h with ⟨hc_, h⟩ | ⟨hc_, h⟩
  · refine ifT hc_ ?_
    obtain ⟨y8, h_y8, h⟩ := bindO h
    refine bindI (unicode_utf8_RuneCount_ns h_y8) ?_
    exact h
  · refine ifF hc_ ?_
    rcases ifB h with ⟨hc_, h⟩ | ⟨hc_, h⟩
    · refine ifT hc_ ?_
      obtain ⟨e13, h_e13, h⟩ := bindO h
      refine bindI h_e13 ?_
      exact h
    · refine ifF hc_ ?_
      obtain ⟨o34, h_o34, h⟩ := bindO h
      refine bindI (bytes_Count_l1_ns h_o34) ?_
      exact h
def unicode_utf8_decodeRuneSlow_n (n : Nat) (p1 : List UInt8) : Option (Int × Int) := do
  if (decide (((p1.length : Int)) < 1)) = true then (do
      some ((65533, 0)))
  else (do
      let e5 ← ix p1 0
      none)
theorem unicode_utf8_decodeRuneSlow_ns {n : Nat} {p1 : List UInt8} {r : Int × Int} (h : unicode_utf8_decodeRuneSlow_n n p1 = some r) : unicode_utf8_decodeRuneSlow p1 = some r := by
  unfold unicode_utf8_decodeRuneSlow_n at h
  unfold unicode_utf8_decodeRuneSlow
  rcases ifB h with ⟨hc_, h⟩ | ⟨hc_, h⟩
  · refine ifT hc_ ?_
    exact h
  · refine ifF hc_ ?_
    obtain ⟨e5, h_e5, h⟩ := bindO h
    refine bindI h_e5 ?_
    exact h
def unicode_utf8_DecodeRune_n (n : Nat) (p1 : List UInt8) : Option (Int × Int) := do
  let k5 := fun (_ : Unit) => (do
      let y27 ← unicode_utf8_decodeRuneSlow_n n p1
      some ((y27.1, y27.2)))
  none
theorem unicode_utf8_DecodeRune_ns {n : Nat} {p1 : List UInt8} {r : Int × Int} (h : unicode_utf8_DecodeRune_n n p1 = some r) : unicode_utf8_DecodeRune p1 = some r := by
  unfold unicode_utf8_DecodeRune_n at h
  unfold unicode_utf8_DecodeRune
  extract_lets k5 at h
  extract_lets k5'
  have hk_k5 : ∀ u_ r, k5 u_ = some r → k5' u_ = some r := by
    intro u_ r hk
    simp only [k5] at hk
    simp only [k5']
    obtain ⟨y27, h_y27, hk⟩ := bindO hk
    refine bindI (unicode_utf8_decodeRuneSlow_ns h_y27) ?_
    exact hk
  exact h
def bytes_Replace_l1_n (n : Nat) (x25 : Int) (p1 : List UInt8) (p4 : List UInt8) (p7 : List UInt8) (x45 : Int) (x46 : Int) (x47 : Int) (x48 : List UInt8) : Option (Int × Int × (List UInt8)) :=
  match n with
  | 0 => none
  | n + 1 => do
    if (decide (x45 < x25)) = true then (do
        let s53 ← cutL p1 x46 ((p1.length : Int))
        let y58 ← bytes_Index_n n s53 p4
        let s62 ← cutL x48 x47 ((x48.length : Int))
        let s68 ← cutL p1 x46 ((w64 (x46 + y58)))
        let s73 ← cutL (ovw x48 x47.toNat ((((x48.length : Int)).toNat - x47.toNat)) s68) ((w64 (x47 + (((min s68.length ((((x48.length : Int)).toNat - x47.toNat)) : Nat) : Int))))) (((ovw x48 x47.toNat ((((x48.length : Int)).toNat - x47.toNat)) s68).length : Int))
        bytes_Replace_l1_n n x25 p1 p4 p7 (w64 (x45 + 1)) (w64 ((w64 (x46 + y58)) + ((p4.length : Int)))) (w64 ((w64 (x47 + (((min s68.length ((((x48.length : Int)).toNat - x47.toNat)) : Nat) : Int)))) + (((min p7.length (((((ovw x48 x47.toNat ((((x48.length : Int)).toNat - x47.toNat)) s68).length : Int)).toNat - ((w64 (x47 + (((min s68.length ((((x48.length : Int)).toNat - x47.toNat)) : Nat) : Int))))).toNat)) : Nat) : Int)))) (ovw (ovw x48 x47.toNat ((((x48.length : Int)).toNat - x47.toNat)) s68) (((w64 (x47 + (((min s68.length ((((x48.length : Int)).toNat - x47.toNat)) : Nat) : Int))))).toNat) (((((ovw x48 x47.toNat ((((x48.length : Int)).toNat - x47.toNat)) s68).length : Int)).toNat - ((w64 (x47 + (((min s68.length ((((x48.length : Int)).toNat - x47.toNat)) : Nat) : Int))))).toNat)) p7))
    else (do
        some ((x47, x46, x48)))
theorem bytes_Replace_l1_nr : ∀ (n : Nat) (x25 : Int) (p1 : List UInt8) (p4 : List UInt8) (p7 : List UInt8) (x45 : Int) (x46 : Int) (x47 : Int) (x48 : List UInt8) (r : Int × Int × (List UInt8)), bytes_Replace_l1_n n x25 p1 p4 p7 x45 x46 x47 x48 = some r → bytes_Replace_l1 x25 p1 p4 p7 x45 x46 x47 x48 = some r := by
  intro n
  induction n with
  | zero => intro x25 p1 p4 p7 x45 x46 x47 x48 r h; cases h
  | succ n ih =>
    intro x25 p1 p4 p7 x45 x46 x47 x48 r h
    rw [bytes_Replace_l1_n] at h
    rw [bytes_Replace_l1]
    rcases ifB h with ⟨hc_, h⟩ | ⟨hc_, h⟩
    · refine ifT hc_ ?_
      obtain ⟨s53, h_s53, h⟩ := bindO h
      refine bindI h_s53 ?_
      obtain ⟨y58, h_y58, h⟩ := bindO h
      refine bindI (bytes_Index_ns h_y58) ?_
      obtain ⟨s62, h_s62, h⟩ := bindO h
      refine bindI h_s62 ?_
      obtain ⟨s68, h_s68, h⟩ := bindO h
      refine bindI h_s68 ?_
      obtain ⟨s73, h_s73, h⟩ := bindO h
      refine bindI h_s73 ?_
      exact ih _ _ _ _ _ _ _ _ _ h
    · refine ifF hc_ ?_
      exact h
theorem bytes_Replace_l1_ns {n : Nat} {x25 : Int} {p1 : List UInt8} {p4 : List UInt8} {p7 : List UInt8} {x45 : Int} {x46 : Int} {x47 : Int} {x48 : List UInt8} {r : Int × Int × (List UInt8)} (h : bytes_Replace_l1_n n x25 p1 p4 p7 x45 x46 x47 x48 = some r) : bytes_Replace_l1 x25 p1 p4 p7 x45 x46 x47 x48 = some r := bytes_Replace_l1_nr n x25 p1 p4 p7 x45 x46 x47 x48 r h
def bytes_Replace_l2_n (n : Nat) (x25 : Int) (p1 : List UInt8) (p7 : List UInt8) (x92 : Int) (x93 : Int) (x94 : Int) (x95 : List UInt8) : Option (Int × Int × (List UInt8)) :=
  match n with
  | 0 => none
  | n + 1 => do
    if (decide (x92 < (w64 (x25 - 1)))) = true then (do
        let s100 ← cutL p1 x94 ((p1.length : Int))
        let y105 ← unicode_utf8_DecodeRune_n n s100
        let s109 ← cutL x95 x93 ((x95.length : Int))
        let s115 ← cutL p1 x94 ((w64 (x94 + y105.2)))
        let s120 ← cutL (ovw x95 x93.toNat ((((x95.length : Int)).toNat - x93.toNat)) s115) ((w64 (x93 + (((min s115.length ((((x95.length : Int)).toNat - x93.toNat)) : Nat) : Int))))) (((ovw x95 x93.toNat ((((x95.length : Int)).toNat - x93.toNat)) s115).length : Int))
        bytes_Replace_l2_n n x25 p1 p7 (w64 (x92 + 1)) (w64 ((w64 (x93 + (((min s115.length ((((x95.length : Int)).toNat - x93.toNat)) : Nat) : Int)))) + (((min p7.length (((((ovw x95 x93.toNat ((((x95.length : Int)).toNat - x93.toNat)) s115).length : Int)).toNat - ((w64 (x93 + (((min s115.length ((((x95.length : Int)).toNat - x93.toNat)) : Nat) : Int))))).toNat)) : Nat) : Int)))) (w64 (x94 + y105.2)) (ovw (ovw x95 x93.toNat ((((x95.length : Int)).toNat - x93.toNat)) s115) (((w64 (x93 + (((min s115.length ((((x95.length : Int)).toNat - x93.toNat)) : Nat) : Int))))).toNat) (((((ovw x95 x93.toNat ((((x95.length : Int)).toNat - x93.toNat)) s115).length : Int)).toNat - ((w64 (x93 + (((min s115.length ((((x95.length : Int)).toNat - x93.toNat)) : Nat) : Int))))).toNat)) p7))
    else (do
        some ((x93, x94, x95)))
theorem bytes_Replace_l2_nr : ∀ (n : Nat) (x25 : Int) (p1 : List UInt8) (p7 : List UInt8) (x92 : Int) (x93 : Int) (x94 : Int) (x95 : List UInt8) (r : Int × Int × (List UInt8)), bytes_Replace_l2_n n x25 p1 p7 x92 x93 x94 x95 = some r → bytes_Replace_l2 x25 p1 p7 x92 x93 x94 x95 = some r := by
  intro n
  induction n with
  | zero => intro x25 p1 p7 x92 x93 x94 x95 r h; cases h
  | succ n ih =>
    intro x25 p1 p7 x92 x93 x94 x95 r h
    rw [bytes_Replace_l2_n] at h
    rw [bytes_Replace_l2]
    rcases ifB h with ⟨hc_, h⟩ | ⟨hc_, h⟩
    · refine ifT hc_ ?_
      obtain ⟨s100, h_s100, h⟩ := bindO h
      refine bindI h_s100 ?_
      obtain ⟨y105, h_y105, h⟩ := bindO h
      refine bindI (unicode_utf8_DecodeRune_ns h_y105) ?_
      obtain ⟨s109, h_s109, h⟩ := bindO h
      refine bindI h_s109 ?_
      obtain ⟨s115, h_s115, h⟩ := bindO h
      refine bindI h_s115 ?_
      obtain ⟨s120, h_s120, h⟩ := bindO h
      refine bindI h_s120 ?_
      exact ih _ _ _ _ _ _ _ _ h
    · refine ifF hc_ ?_
      exact h
theorem bytes_Replace_l2_ns {n : Nat} {x25 : Int} {p1 : List UInt8} {p7 : List UInt8} {x92 : Int} {x93 : Int} {x94 : Int} {x95 : List UInt8} {r : Int × Int × (List UInt8)} (h : bytes_Replace_l2_n n x25 p1 p7 x92 x93 x94 x95 = some r) : bytes_Replace_l2 x25 p1 p7 x92 x93 x94 x95 = some r := bytes_Replace_l2_nr n x25 p1 p7 x92 x93 x94 x95 r h
def bytes_Replace_n (n : Nat) (p1 : List UInt8) (p4 : List UInt8) (p7 : List UInt8) (p10 : Int) : Option (List UInt8) := do
  let x12 ← (do
      if (p10 != 0) = true then (do
          let y15 ← bytes_Count_n n p1 p4
          some y15)
      else (do
          some 0) : Option Int)
  if (x12 == 0) = true then (do
      let _ ← req ((([] : List UInt8).length + p1.length) * 1 ≤ 140737488355328 ∧ ([] : List UInt8).length + p1.length ≤ 9223372036854775807)
      some (([] : List UInt8) ++ p1))
  else (do
      let x25 ← (do
          let x27 ← (do
              if (decide (p10 < 0)) = true then (do
                  some true)
              else (do
                  some (decide (x12 < p10))) : Option Bool)
          if (x27) = true then (do
              some x12)
          else (do
              some p10) : Option Int)
      let _ ← req (0 ≤ (w64 (((p1.length : Int)) + (w64 (x25 * (w64 (((p7.length : Int)) - ((p4.length : Int)))))))) ∧ (w64 (((p1.length : Int)) + (w64 (x25 * (w64 (((p7.length : Int)) - ((p4.length : Int)))))))) ≤ (w64 (((p1.length : Int)) + (w64 (x25 * (w64 (((p7.length : Int)) - ((p4.length : Int)))))))) ∧ (w64 (((p1.length : Int)) + (w64 (x25 * (w64 (((p7.length : Int)) - ((p4.length : Int)))))))) * 1 ≤ 140737488355328 ∧ (w64 (((p1.length : Int)) + (w64 (x25 * (w64 (((p7.length : Int)) - ((p4.length : Int)))))))) ≤ 9223372036854775807)
      let x35 ← (do
          if (decide (((p4.length : Int)) > 0)) = true then (do
              let o49 ← bytes_Replace_l1_n n x25 p1 p4 p7 0 0 0 (List.replicate (w64 (((p1.length : Int)) + (w64 (x25 * (w64 (((p7.length : Int)) - ((p4.length : Int)))))))).toNat (0 : UInt8))
              some ((o49.1, o49.2.1, o49.2.2)))
          else (do
              let s79 ← cutL (List.replicate (w64 (((p1.length : Int)) + (w64 (x25 * (w64 (((p7.length : Int)) - ((p4.length : Int)))))))).toNat (0 : UInt8)) 0 (((List.replicate (w64 (((p1.length : Int)) + (w64 (x25 * (w64 (((p7.length : Int)) - ((p4.length : Int)))))))).toNat (0 : UInt8)).length : Int))
              let o96 ← bytes_Replace_l2_n n x25 p1 p7 0 (w64 (0 + (((min p7.length (((((List.replicate (w64 (((p1.length : Int)) + (w64 (x25 * (w64 (((p7.length : Int)) - ((p4.length : Int)))))))).toNat (0 : UInt8)).length : Int)).toNat - 0)) : Nat) : Int)))) 0 (ovw (List.replicate (w64 (((p1.length : Int)) + (w64 (x25 * (w64 (((p7.length : Int)) - ((p4.length : Int)))))))).toNat (0 : UInt8)) 0 (((((List.replicate (w64 (((p1.length : Int)) + (w64 (x25 * (w64 (((p7.length : Int)) - ((p4.length : Int)))))))).toNat (0 : UInt8)).length : Int)).toNat - 0)) p7)
              some ((o96.1, o96.2.1, o96.2.2))) : Option (Int × Int × (List UInt8)))
      let s126 ← cutL x35.2.2 x35.1 ((x35.2.2.length : Int))
      let s132 ← cutL p1 x35.2.1 ((p1.length : Int))
      let s137 ← cutL (ovw x35.2.2 x35.1.toNat ((((x35.2.2.length : Int)).toNat - x35.1.toNat)) s132) 0 ((w64 (x35.1 + (((min s132.length ((((x35.2.2.length : Int)).toNat - x35.1.toNat)) : Nat) : Int)))))
      some ((ovw x35.2.2 x35.1.toNat ((((x35.2.2.length : Int)).toNat - x35.1.toNat)) s132).take (((w64 (x35.1 + (((min s132.length ((((x35.2.2.length : Int)).toNat - x35.1.toNat)) : Nat) : Int))))).toNat)))
theorem bytes_Replace_ns {n : Nat} {p1 : List UInt8} {p4 : List UInt8} {p7 : List UInt8} {p10 : Int} {r : List UInt8} (h : bytes_Replace_n n p1 p4 p7 p10 = some r) : bytes_Replace p1 p4 p7 p10 = some r := by
  unfold bytes_Replace_n at h
  unfold bytes_Replace
  obtain ⟨x12, h_x12, h⟩ := bindO h
  refine bindI (a := x12) ?_ ?_
  ·
    rcases ifB h_x12 with ⟨hc_, h_x12⟩ | ⟨hc_, h_x12⟩
    · refine ifT hc_ ?_
      obtain ⟨y15, h_y15, h_x12⟩ := bindO h_x12
      refine bindI (bytes_Count_ns h_y15) ?_
      exact h_x12
    · refine ifF hc_ ?_
      exact h_x12
  ·
    rcases ifB h with ⟨hc_, h⟩ | ⟨hc_, h⟩
    · refine ifT hc_ ?_
      obtain ⟨u_, hu_, h⟩ := bindO h
      refine bindI hu_ ?_
      exact h
    · refine ifF hc_ ?_
      obtain ⟨x25, h_x25, h⟩ := bindO h
      refine bindI (a := x25) ?_ ?_
      ·
        obtain ⟨x27, h_x27, h_x25⟩ := bindO h_x25
        refine bindI (a := x27) ?_ ?_
        ·
          rcases ifB h_x27 with ⟨hc_, h_x27⟩ | ⟨hc_, h_x27⟩
          · refine ifT hc_ ?_
            exact h_x27
          · refine ifF hc_ ?_
            exact h_x27
        ·
          rcases ifB h_x25 with ⟨hc_, h_x25⟩ | ⟨hc_, h_x25⟩
          · refine ifT hc_ ?_
            exact h_x25
          · refine ifF hc_ ?_
            exact h_x25
      ·
        obtain ⟨u_, hu_, h⟩ := bindO h
        refine bindI hu_ ?_
        obtain ⟨x35, h_x35, h⟩ := bindO h
        refine bindI (a := x35) ?_ ?_
        ·
          rcases ifB h_x35 with ⟨hc_, h_x35⟩ | ⟨hc_, h_x35⟩
          · refine ifT hc_ ?_
            obtain ⟨o49, h_o49, h_x35⟩ := bindO h_x35
            refine bindI (bytes_Replace_l1_ns h_o49) ?_
            exact h_x35
          · refine ifF hc_ ?_
            obtain ⟨s79, h_s79, h_x35⟩ := bindO h_x35
            refine bindI h_s79 ?_
            obtain ⟨o96, h_o96, h_x35⟩ := bindO h_x35
            refine bindI (bytes_Replace_l2_ns h_o96) ?_
            exact h_x35
        ·
          obtain ⟨s126, h_s126, h⟩ := bindO h
          refine bindI h_s126 ?_
          obtain ⟨s132, h_s132, h⟩ := bindO h
          refine bindI h_s132 ?_
          obtain ⟨s137, h_s137, h⟩ := bindO h
          refine bindI h_s137 ?_
          exact h
def bytes_ReplaceAll_n (n : Nat) (p1 : List UInt8) (p4 : List UInt8) (p7 : List UInt8) : Option (List UInt8) := do
  let y10 ← bytes_Replace_n n p1 p4 p7 ((-1))
  some y10
theorem bytes_ReplaceAll_ns {n : Nat} {p1 : List UInt8} {p4 : List UInt8} {p7 : List UInt8} {r : List UInt8} (h : bytes_ReplaceAll_n n p1 p4 p7 = some r) : bytes_ReplaceAll p1 p4 p7 = some r := by
  unfold bytes_ReplaceAll_n at h
  unfold bytes_ReplaceAll
  obtain ⟨y10, h_y10, h⟩ := bindO h
  refine bindI (bytes_Replace_ns h_y10) ?_
  exact h
def emit_Data_n (n : Nat) (p1 : List UInt8) : Option (List UInt8) := do
  let y10 ← bytes_ReplaceAll_n n p1 ([255] : List UInt8) [255, 255]
  some y10
theorem emit_Data_ns {n : Nat} {p1 : List UInt8} {r : List UInt8} (h : emit_Data_n n p1 = some r) : emit_Data p1 = some r := by
  unfold emit_Data_n at h
  unfold emit_Data
  obtain ⟨y10, h_y10, h⟩ := bindO h
  refine bindI (bytes_ReplaceAll_ns h_y10) ?_
  exact h
def emit_byteable_n (n : Nat) (p1 : Int) : Option Bool := do
  let x2 ← (do
      if (decide (p1 ≥ 0)) = true then (do
          some (decide (p1 ≤ 255)))
      else (do
          some false) : Option Bool)
  some x2
theorem emit_byteable_ns {n : Nat} {p1 : Int} {r : Bool} (h : emit_byteable_n n p1 = some r) : emit_byteable p1 = some r := by
  unfold emit_byteable_n at h
  unfold emit_byteable
  obtain ⟨x2, h_x2, h⟩ := bindO h
  refine bindI (a := x2) ?_ ?_
  ·
    rcases ifB h_x2 with ⟨hc_, h_x2⟩ | ⟨hc_, h_x2⟩
    · refine ifT hc_ ?_
      exact h_x2
    · refine ifF hc_ ?_
      exact h_x2
  ·
    exact h
def emit_Verb_n (n : Nat) (p1 : Int) (p2 : Int) : Option ((List UInt8) × (Option Nat)) := do
  let y3 ← codes_Verb_n n p1
  if (!y3) = true then (do
      some ((([] : List UInt8), (some 0 : Option Nat))))
  else (do
      let y8 ← emit_byteable_n n p2
      if (!y8) = true then (do
          some ((([] : List UInt8), (some 1 : Option Nat))))
      else (do
          some (([255, toB p1, toB p2], (none : Option Nat)))))
theorem emit_Verb_ns {n : Nat} {p1 : Int} {p2 : Int} {r : (List UInt8) × (Option Nat)} (h : emit_Verb_n n p1 p2 = some r) : emit_Verb p1 p2 = some r := by
  unfold emit_Verb_n at h
  unfold emit_Verb
  obtain ⟨y3, h_y3, h⟩ := bindO h
  refine bindI (codes_Verb_ns h_y3) ?_
  rcases ifB h with ⟨hc_, h⟩ | ⟨hc_, h⟩
  · refine ifT hc_ ?_
    exact h
  · refine ifF hc_ ?_
    obtain ⟨y8, h_y8, h⟩ := bindO h
    refine bindI (emit_byteable_ns h_y8) ?_
    rcases ifB h with ⟨hc_, h⟩ | ⟨hc_, h⟩
    · refine ifT hc_ ?_
      exact h
    · refine ifF hc_ ?_
      exact h
def Law_CleanPlain_l1_n (n : Nat) (y17 : (List iac_Token) × Bool) (y23 : List iac_Token) (x34 : Int) : Option (Sum Unit Unit) :=
  match n with
  | 0 => none
  | n + 1 => do
    if (decide (x34 < ((y17.1.length : Int)))) = true then (do
        let e42 ← ix y17.1 x34
        let e56 ← ix y23 x34
        let y68 ← iac_Same_n n e42 e56
        if (!y68) = true then (do
            some (Sum.inr (())))
        else (do
            Law_CleanPlain_l1_n n y17 y23 (w64 (x34 + 1))))
    else (do
        some (Sum.inl (())))
theorem Law_CleanPlain_l1_nr : ∀ (n : Nat) (y17 : (List iac_Token) × Bool) (y23 : List iac_Token) (x34 : Int) (r : Sum Unit Unit), Law_CleanPlain_l1_n n y17 y23 x34 = some r → Law_CleanPlain_l1 y17 y23 x34 = some r := by
  intro n
  induction n with
  | zero => intro y17 y23 x34 r h; cases h
  | succ n ih =>
    intro y17 y23 x34 r h
    rw [Law_CleanPlain_l1_n] at h
    rw [Law_CleanPlain_l1]
    rcases ifB h with ⟨hc_, h⟩ | ⟨hc_, h⟩
    · refine ifT hc_ ?_
      obtain ⟨e42, h_e42, h⟩ := bindO h
      refine bindI h_e42 ?_
      obtain ⟨e56, h_e56, h⟩ := bindO h
      refine bindI h_e56 ?_
      obtain ⟨y68, h_y68, h⟩ := bindO h
      refine bindI (iac_Same_ns h_y68) ?_
      rcases ifB h with ⟨hc_, h⟩ | ⟨hc_, h⟩
      · refine ifT hc_ ?_
        exact h
      · refine ifF hc_ ?_
        exact ih _ _ _ _ h
    · refine ifF hc_ ?_
      exact h
theorem Law_CleanPlain_l1_ns {n : Nat} {y17 : (List iac_Token) × Bool} {y23 : List iac_Token} {x34 : Int} {r : Sum Unit Unit} (h : Law_CleanPlain_l1_n n y17 y23 x34 = some r) : Law_CleanPlain_l1 y17 y23 x34 = some r := Law_CleanPlain_l1_nr n y17 y23 x34 r h
def Law_CleanPlain_l2_n (n : Nat) (p4 : List (List UInt8)) (p7 : Bool) (x82 : Int) (x83 : List UInt8) (x84 : List UInt8) : Option (Sum ((List UInt8) × (List UInt8)) (Bool × (List UInt8))) :=
  match n with
  | 0 => none
  | n + 1 => do
    if (decide (x82 < ((p4.length : Int)))) = true then (do
        let e95 ← ix p4 x82
        if (decide (((e95.length : Int)) > 50)) = true then (do
            some (Sum.inr ((true, x84))))
        else (do
            let _ ← req (x83.length + e95.length ≤ 9223372036854775807)
            let y109 ← nvt_Encode_n n e95 p7
            let y115 ← emit_Data_n n y109
            let _ ← req ((x84.length + y115.length) * 1 ≤ 140737488355328 ∧ x84.length + y115.length ≤ 9223372036854775807)
            let q123 ← irem x82 4
            let y125 ← emit_Verb_n n (w64 (251 + q123)) x82
            if (y125.2.isSome) = true then (do
                some (Sum.inr ((false, x84 ++ y115))))
            else (do
                let _ ← req (((x84 ++ y115).length + y125.1.length) * 1 ≤ 140737488355328 ∧ (x84 ++ y115).length + y125.1.length ≤ 9223372036854775807)
                Law_CleanPlain_l2_n n p4 p7 (w64 (x82 + 1)) (x83 ++ e95) ((x84 ++ y115) ++ y125.1))))
    else (do
        some (Sum.inl ((x83, x84))))
theorem Law_CleanPlain_l2_nr : ∀ (n : Nat) (p4 : List (List UInt8)) (p7 : Bool) (x82 : Int) (x83 : List UInt8) (x84 : List UInt8) (r : Sum ((List UInt8) × (List UInt8)) (Bool × (List UInt8))), Law_CleanPlain_l2_n n p4 p7 x82 x83 x84 = some r → Law_CleanPlain_l2 p4 p7 x82 x83 x84 = some r := by
  intro n
  induction n with
  | zero => intro p4 p7 x82 x83 x84 r h; cases h
  | succ n ih =>
    intro p4 p7 x82 x83 x84 r h
    rw [Law_CleanPlain_l2_n] at h
    rw [Law_CleanPlain_l2]
    rcases ifB h with ⟨hc_, h⟩ | ⟨hc_, h⟩
    · refine ifT hc_ ?_
      obtain ⟨e95, h_e95, h⟩ := bindO h
      refine bindI h_e95 ?_
      rcases ifB h with ⟨hc_, h⟩ | ⟨hc_, h⟩
      · refine ifT hc_ ?_
        exact h
      · refine ifF hc_ ?_
        obtain ⟨u_, hu_, h⟩ := bindO h
        refine bindI hu_ ?_
        obtain ⟨y109, h_y109, h⟩ := bindO h
        refine bindI (nvt_Encode_ns h_y109) ?_
        obtain ⟨y115, h_y115, h⟩ := bindO h
        refine bindI (emit_Data_ns h_y115) ?_
        obtain ⟨u_, hu_, h⟩ := bindO h
        refine bindI hu_ ?_
        obtain ⟨q123, h_q123, h⟩ := bindO h
        refine bindI h_q123 ?_
        obtain ⟨y125, h_y125, h⟩ := bindO h
        refine bindI (emit_Verb_ns h_y125) ?_
        rcases ifB h with ⟨hc_, h⟩ | ⟨hc_, h⟩
        · refine ifT hc_ ?_
          exact h
        · refine ifF hc_ ?_
          obtain ⟨u_, hu_, h⟩ := bindO h
          refine bindI hu_ ?_
          exact ih _ _ _ _ _ _ h
    · refine ifF hc_ ?_
      exact h
theorem Law_CleanPlain_l2_ns {n : Nat} {p4 : List (List UInt8)} {p7 : Bool} {x82 : Int} {x83 : List UInt8} {x84 : List UInt8} {r : Sum ((List UInt8) × (List UInt8)) (Bool × (List UInt8))} (h : Law_CleanPlain_l2_n n p4 p7 x82 x83 x84 = some r) : Law_CleanPlain_l2 p4 p7 x82 x83 x84 = some r := Law_CleanPlain_l2_nr n p4 p7 x82 x83 x84 r h
def Law_CleanPlain_n (n : Nat) (p1 : List UInt8) (p4 : List (List UInt8)) (p7 : Bool) : Option Bool := do
  let y8 ← Law_alive_n n
  if (!y8) = true then (do
      some false)
  else (do
      let x13 ← (do
          if (decide (((p1.length : Int)) > 300)) = true then (do
              some true)
          else (do
              some (decide (((p4.length : Int)) > 20))) : Option Bool)
      if (x13) = true then (do
          some true)
      else (do
          let y17 ← iac_All_n n p1
          let y23 ← clean_All_n n p1 (([] : List Int)) true
          if (((y17.1.length : Int)) != ((y23.length : Int))) = true then (do
              some false)
          else (do
              let o35 ← Law_CleanPlain_l1_n n y17 y23 0
              match o35 with
              | Sum.inl x38 => do
                  let o86 ← Law_CleanPlain_l2_n n p4 p7 0 ([] : List UInt8) ([] : List UInt8)
                  match o86 with
                  | Sum.inl x89 => do
                      let y136 ← clean_Data_n n x89.2 (([] : List Int)) p7
                      some (y136 == x89.1)
                  | Sum.inr x92 => do
                      some x92.1
              | Sum.inr x40 => do
                  some false)))
theorem Law_CleanPlain_ns {n : Nat} {p1 : List UInt8} {p4 : List (List UInt8)} {p7 : Bool} {r : Bool} (h : Law_CleanPlain_n n p1 p4 p7 = some r) : Law_CleanPlain p1 p4 p7 = some r := by
  unfold Law_CleanPlain_n at h
  unfold Law_CleanPlain
  obtain ⟨y8, h_y8, h⟩ := bindO h
  refine bindI (Law_alive_ns h_y8) ?_
  rcases ifB h with ⟨hc_, h⟩ | ⟨hc_, h⟩
  · refine ifT hc_ ?_
    exact h
  · refine ifF hc_ ?_
    obtain ⟨x13, h_x13, h⟩ := bindO h
    refine bindI (a := x13) ?_ ?_
    ·
      rcases ifB h_x13 with ⟨hc_, h_x13⟩ | ⟨hc_, h_x13⟩
      · refine ifT hc_ ?_
        exact h_x13
      · refine ifF hc_ ?_
        exact h_x13
    ·
      rcases ifB h with ⟨hc_, h⟩ | ⟨hc_, h⟩
      · refine ifT hc_ ?_
        exact h
      · refine ifF hc_ ?_
        obtain ⟨y17, h_y17, h⟩ := bindO h
        refine bindI (iac_All_ns h_y17) ?_
        obtain ⟨y23, h_y23, h⟩ := bindO h
        refine bindI (clean_All_ns h_y23) ?_
        rcases ifB h with ⟨hc_, h⟩ | ⟨hc_, h⟩
        · refine ifT hc_ ?_
          exact h
        · refine ifF hc_ ?_
          obtain ⟨o35, h_o35, h⟩ := bindO h
          refine bindI (Law_CleanPlain_l1_ns h_o35) ?_
          rcases o35 with x_ | x_
          ·
            dsimp only at h ⊢
            obtain ⟨o86, h_o86, h⟩ := bindO h
            refine bindI (Law_CleanPlain_l2_ns h_o86) ?_
            rcases o86 with x_ | x_
            ·
              dsimp only at h ⊢
              obtain ⟨y136, h_y136, h⟩ := bindO h
              refine bindI (clean_Data_ns h_y136) ?_
              exact h
            ·
              dsimp only at h ⊢
              exact h
          ·
            dsimp only at h ⊢
            exact h
end Go.Proofs.YtnohihhjjpabjaaDoor
