/-
  Plain laws of tokens: the machine that reads bytes; tokens told as bytes are read back.
-/
import Derived.Test.YtnohihhjjpabjaaDoorPl2
set_option linter.unusedVariables false
set_option linter.unusedSimpArgs false
set_option maxRecDepth 10000
namespace Go.Proofs.YtnohihhjjpabjaaDoor
open Go Go.RowKit Sl

theorem cverb_eq (n : Int) : codes_Verb n = some (decide (251 ≤ n) && decide (n ≤ 254)) := by
  unfold codes_Verb
  by_cases h : 251 ≤ n <;> simp [h]
theorem byteable_eq (n : Int) : emit_byteable n = some (decide (0 ≤ n) && decide (n ≤ 255)) := by
  unfold emit_byteable
  by_cases h : 0 ≤ n <;> simp [h]
/-! ### the machine -/
abbrev tk0 : iac_Token := ⟨0, 0, 0, [], false⟩
abbrev tks0 : iac_Tokens := ⟨0, tk0⟩
def addB (s : iac_Tokens) (c : UInt8) : iac_Tokens := if 256 ≤ s.f_token.f_Body.length then ⟨s.f_state, { s.f_token with f_Cut := true }⟩ else ⟨s.f_state, { s.f_token with f_Body := s.f_token.f_Body ++ [c] }⟩
def stepB (s : iac_Tokens) (c : UInt8) : Option iac_Token × iac_Tokens :=
  if s.f_state = 1 then
    if c = 255 then (some ⟨1, 255, 0, [], false⟩, tks0) else if c = 250 then (none, ⟨3, s.f_token⟩)
    else if 251 ≤ b8 c ∧ b8 c ≤ 254 then (none, ⟨2, ⟨0, b8 c, 0, [], false⟩⟩) else (some ⟨2, b8 c, 0, [], false⟩, tks0)
  else if s.f_state = 2 then (some ⟨3, s.f_token.f_Code, b8 c, [], false⟩, tks0)
  else if s.f_state = 3 then (none, ⟨4, ⟨0, 0, b8 c, [], false⟩⟩)
  else if s.f_state = 4 then if c = 255 then (none, ⟨5, s.f_token⟩) else (none, addB s c)
  else if s.f_state = 5 then
    if c = 255 then (none, addB ⟨4, s.f_token⟩ c) else if c = 240 then (some { s.f_token with f_Kind := 4 }, tks0)
    else (some ⟨5, b8 c, s.f_token.f_Option, [], false⟩, tks0)
  else if c = 255 then (none, ⟨1, s.f_token⟩) else (some ⟨1, b8 c, 0, [], false⟩, tks0)
def Sane (s : iac_Tokens) : Prop := s.f_token.f_Body.length ≤ 256
theorem add_eq (s : iac_Tokens) (c : UInt8) : iac_Tokens_add s c = some (addB s c) := by
  unfold iac_Tokens_add addB
  by_cases h : 256 ≤ s.f_token.f_Body.length
  · rw [if_pos (by simp; omega), if_pos h]
  · rw [if_neg (by simp; omega), obind (req_yes (by simp; omega)), if_neg h]
theorem sane_add {s : iac_Tokens} (c : UInt8) (h : Sane s) : Sane (addB s c) := by
  unfold Sane addB at *
  split
  · exact h
  · simp; omega
theorem feed_eq (s : iac_Tokens) (c : UInt8) : iac_Tokens_Feed s c = some ((stepB s c).1.getD tk0, (stepB s c).1.isSome, (stepB s c).2) := by
  obtain ⟨st, tk⟩ := s
  unfold iac_Tokens_Feed stepB
  simp only [add_eq, cverb_eq, Option.bind_eq_bind, Option.bind_some, beq_iff_eq]
  by_cases h1 : st = 1
  · simp only [h1, if_true]
    by_cases c1 : c = 255
    · simp [c1]
    by_cases c2 : c = 250
    · simp [c1, c2]
    by_cases c3 : 251 ≤ b8 c ∧ b8 c ≤ 254
    · simp [c1, c2, c3]
    · have : (decide (251 ≤ b8 c) && decide (b8 c ≤ 254)) = false := by
        rw [Bool.and_eq_false_iff, decide_eq_false_iff_not, decide_eq_false_iff_not]; omega
      simp [c1, c2, c3, this]
  by_cases h2 : st = 2
  · simp [h1, h2]
  by_cases h3 : st = 3
  · simp [h1, h2, h3]
  by_cases h4 : st = 4
  · by_cases c1 : c = 255 <;> simp [h4, c1]
  by_cases h5 : st = 5
  · by_cases c1 : c = 255
    · simp [h5, c1]
    · by_cases c2 : c = 240 <;> simp [h5, c1, c2]
  · by_cases c1 : c = 255 <;> simp [h1, h2, h3, h4, h5, c1]
theorem sane_step {s : iac_Tokens} (c : UInt8) (h : Sane s) : Sane (stepB s c).2 ∧ ∀ t, (stepB s c).1 = some t → t.f_Body.length ≤ 256 := by
  have h0 : Sane tks0 := by simp [Sane]
  unfold stepB
  have ha := sane_add c h
  have hb := sane_add (s := ⟨4, s.f_token⟩) c h
  unfold Sane at h h0 ⊢
  (repeat' split) <;> refine ⟨?_, fun t ht => ?_⟩ <;> first | exact h0 | exact h | exact ha | exact hb | (simp; done) | (cases ht; done) | (simp only [Option.some.injEq] at ht; subst ht; first | exact h | simp)
def runB : iac_Tokens → List UInt8 → List iac_Token × iac_Tokens
  | s, [] => ([], s)
  | s, c :: r => ((stepB s c).1.toList ++ (runB (stepB s c).2 r).1, (runB (stepB s c).2 r).2)
theorem runB_append (s : iac_Tokens) (a b : List UInt8) : runB s (a ++ b) = ((runB s a).1 ++ (runB (runB s a).2 b).1, (runB (runB s a).2 b).2) := by
  induction a generalizing s with
  | nil => rfl
  | cons c a ih => simp only [List.cons_append, runB, ih, List.append_assoc]
theorem clone_eq (s : List UInt8) (h : s.length ≤ 1000000) : slices_Clone_byte_byte s = some s := by
  unfold slices_Clone_byte_byte
  rw [obind (req_yes (by simp; omega))]; rfl
theorem all_l1 (b : List UInt8) (hb : b.length ≤ 1000000) : ∀ (r : List UInt8) (i : Nat) (s : iac_Tokens) (out : List iac_Token), b.drop i = r → i ≤ b.length → Sane s → out.length + r.length ≤ 1000000 →
    iac_All_l1 b ((i : Int), out, s.f_state, s.f_token.f_Kind, s.f_token.f_Code, s.f_token.f_Option, s.f_token.f_Cut, s.f_token.f_Body) = some (out ++ (runB s r).1, (runB s r).2.f_state, (runB s r).2.f_token.f_Kind, (runB s r).2.f_token.f_Code, (runB s r).2.f_token.f_Option, (runB s r).2.f_token.f_Cut, (runB s r).2.f_token.f_Body) := by
  intro r
  induction r with
  | nil =>
    intro i s out hr hi hs ho
    have := drop_len hr hi
    rw [iac_All_l1, if_neg (by simp at this ⊢; omega)]
    simp [runB]
  | cons c r ih =>
    intro i s out hr hi hs ho
    have hlt := drop_lt hr
    have hst := sane_step c hs
    rw [List.length_cons] at ho
    rw [iac_All_l1, if_pos (by simpa using hlt), obind (ix_drop hr)]
    have hf := feed_eq s c
    rw [obind hf]
    dsimp only
    have ih' := ih (i + 1) (stepB s c).2
    rw [show w64 ((i : Int) + 1) = ((i + 1 : Nat) : Int) from w64_succ (by omega)]
    cases ht : (stepB s c).1 with
    | none =>
      rw [if_neg (by simp), osome]
      rw [ih' out (drop_next hr) (by omega) hst.1 (by omega)]
      simp [runB, ht]
    | some t =>
      have hbl := hst.2 t ht
      rw [if_pos (by simp)]
      simp only [Option.getD_some]
      rw [obind (clone_eq t.f_Body (by omega)), obind (req_yes (by simp; omega)), osome]
      rw [ih' (out ++ [t]) (drop_next hr) (by omega) hst.1 (by simp; omega)]
      simp [runB, ht]
theorem all_eq (b : List UInt8) (hb : b.length ≤ 1000000) : iac_All b = some ((runB tks0 b).1, (runB tks0 b).2.f_state == 0) := by
  unfold iac_All
  have h := all_l1 b hb b 0 tks0 [] rfl (by omega) (by simp [Sane]) (by simpa using hb)
  have h' : iac_All_l1 b (0, [], 0, 0, 0, 0, false, []) = _ := h
  rw [obind h']
  unfold iac_Tokens_Idle
  simp
theorem runB_len (s : iac_Tokens) (b : List UInt8) : (runB s b).1.length ≤ b.length := by
  induction b generalizing s with
  | nil => simp [runB]
  | cons c b ih =>
    have := ih (stepB s c).2
    have h1 : (stepB s c).1.toList.length ≤ 1 := by cases (stepB s c).1 <;> simp
    simp only [runB, List.length_append, List.length_cons]; omega
/-! ### a token's bytes -/
theorem b8_toB {n : Int} (h : 0 ≤ n) (h' : n ≤ 255) : b8 (toB n) = n := by
  simp only [b8, toB]
  rw [UInt8.toNat_ofNat_of_lt' (by simp [UInt8.size]; omega)]
  omega
end Go.Proofs.YtnohihhjjpabjaaDoor
