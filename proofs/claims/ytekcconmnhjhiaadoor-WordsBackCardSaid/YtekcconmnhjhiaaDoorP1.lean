/-
  The plain law of chapter 30, first part: letters, names, when pieces are right.
-/
import Derived.Test.YtekcconmnhjhiaaDoorAT
set_option linter.unusedVariables false
set_option linter.unusedSimpArgs false
set_option maxRecDepth 10000
namespace Go.Proofs.YtekcconmnhjhiaaDoor
open Go Go.RowKit Sl

theorem w64_id {n : Int} (h0 : -9223372036854775808 ≤ n) (h1 : n < 9223372036854775808) : w64 n = n := by
  simp only [w64, wrap64]; omega
theorem ix_nat {α : Type} (l : List α) (i : Nat) : ix l (i : Int) = l[i]? := by simp [ix]
theorem ix_lt {α : Type} {l : List α} {i : Nat} (h : i < l.length) : ix l (i : Int) = some l[i] := by simp [ix, h]

def letterB (c : UInt8) : Bool := (decide (97 ≤ c) && decide (c ≤ 122)) || ((decide (65 ≤ c) && decide (c ≤ 90)) || c == 95)
def figB (c : UInt8) : Bool := decide (48 ≤ c) && decide (c ≤ 57)
def goesB (c : UInt8) : Bool := letterB c || figB c
theorem begins_eq (c : UInt8) : W_begins c = some (letterB c) := by
  unfold W_begins letterB
  by_cases h1 : 97 ≤ c <;> by_cases h2 : c ≤ 122 <;> by_cases h3 : 65 ≤ c <;> by_cases h4 : c ≤ 90 <;> simp [h1, h2, h3, h4]
theorem letter_eq (c : UInt8) : R_Letter c = some (letterB c) := begins_eq c
theorem wfig_eq (c : UInt8) : W_figure c = some (figB c) := by
  unfold W_figure figB
  by_cases h1 : 48 ≤ c <;> simp [h1]
theorem rfig_eq (c : UInt8) : R_Figure c = some (figB c) := wfig_eq c
theorem goes_eq (c : UInt8) : W_goes c = some (goesB c) := by
  unfold W_goes goesB
  rw [begins_eq]
  cases h : letterB c <;> simp [h, wfig_eq]

/-! names -/
def namedB (s : List UInt8) : Bool := !s.isEmpty && decide (s.length ≤ 24) && s.all goesB && (letterB (s.headD 0) || s.length == 1)
theorem named_l1 (s : List UInt8) (hs : s.length ≤ 9223372036854775807) : ∀ i : Nat, i ≤ s.length → W_named_l1 s (i : Int) = some (if (s.drop i).all goesB then .inl () else .inr ()) := by
  intro i hi
  induction h : s.length - i generalizing i with
  | zero =>
    have : i = s.length := by omega
    subst this
    rw [W_named_l1]
    simp
  | succ n ih =>
    have hlt : i < s.length := by omega
    rw [W_named_l1]
    have e : w64 ((i : Int) + 1) = ((i + 1 : Nat) : Int) := by rw [w64_id (by omega) (by omega)]; rfl
    rw [if_pos (by simpa using hlt), ix_lt hlt]
    simp only [Option.bind_eq_bind, Option.bind_some, goes_eq, e, ih (i + 1) (by omega) (by omega)]
    rw [List.drop_eq_getElem_cons hlt, List.all_cons]
    cases goesB s[i] <;> simp
theorem span_l1 (s : List UInt8) (hs : s.length ≤ 4611686018427387904) : ∀ i : Nat, i ≤ s.length → R_span_l1 0 s true (i : Int) = some ((i + ((s.drop i).takeWhile goesB).length : Nat) : Int) := by
  intro i hi
  induction h : s.length - i generalizing i with
  | zero =>
    have : i = s.length := by omega
    subst this
    rw [R_span_l1]
    rw [Int.zero_add, w64_id (by omega) (by omega)]
    simp
  | succ n ih =>
    have hlt : i < s.length := by omega
    rw [R_span_l1]
    have e : w64 ((i : Int) + 1) = ((i + 1 : Nat) : Int) := by rw [w64_id (by omega) (by omega)]; rfl
    rw [Int.zero_add, w64_id (n := (i : Int)) (by omega) (by omega)]
    rw [if_pos (by simpa using hlt), ix_lt hlt]
    simp only [Option.bind_eq_bind, Option.bind_some, rfig_eq, letter_eq, e, ih (i + 1) (by omega) (by omega)]
    rw [List.drop_eq_getElem_cons hlt, List.takeWhile_cons]
    unfold goesB
    cases letterB s[i] <;> cases figB s[i] <;> simp <;> omega
theorem takeWhile_all {α : Type} (p : α → Bool) (l : List α) : ((l.takeWhile p).length == l.length) = l.all p := by
  induction l with
  | nil => rfl
  | cons x l ih =>
    rw [List.takeWhile_cons, List.all_cons]
    cases hx : p x
    · simp
    · simp only [List.length_cons, Bool.true_and, ← ih, if_true]
      simp
theorem letter_not_fig (c : UInt8) (h : figB c = true) : letterB c = false := by
  unfold figB letterB at *
  simp only [Bool.and_eq_true, decide_eq_true_eq] at h
  obtain ⟨h1, h2⟩ := h
  have a1 : ¬ 97 ≤ c := fun h' => by have := UInt8.le_iff_toNat_le.1 h'; have := UInt8.le_iff_toNat_le.1 h2; simp at *; omega
  have a2 : ¬ 65 ≤ c := fun h' => by have := UInt8.le_iff_toNat_le.1 h'; have := UInt8.le_iff_toNat_le.1 h2; simp at *; omega
  have a3 : ¬ c = 95 := fun h' => by subst h'; revert h2; decide
  simp [a1, a2, a3]
theorem wnamed_eq (s : List UInt8) (hs : s.length ≤ 4611686018427387904) : W_named s = some (namedB s) := by
  unfold W_named namedB
  cases s with
  | nil =>
    have : W_named_l1 [] 0 = some (.inl ()) := named_l1 [] (by simp) 0 (by simp)
    simp [req, this]
  | cons c r =>
    have hl : W_named_l1 (c :: r) 0 = some (if (c :: r).all goesB then .inl () else .inr ()) := named_l1 (c :: r) (by omega) 0 (by simp)
    have h0 : ix (c :: r) 0 = some c := rfl
    have hr : req ((c :: r).length ≤ 9223372036854775807) = some () := by unfold req; rw [if_pos (by omega)]
    simp only [h0, hr, hl, Option.bind_eq_bind, Option.bind_some, wfig_eq, begins_eq]
    cases r with
    | nil =>
      cases hf : figB c
      · cases hg : letterB c <;> simp [goesB, hf, hg]
      · have := letter_not_fig c hf
        simp [goesB, hf, this]
    | cons d r =>
      have hne : ((((c :: d :: r).length : Nat) : Int) == 1) = false := by simp; omega
      rw [hne]
      simp only [Bool.false_eq_true, if_false, Option.bind_some]
      cases hall : (c :: d :: r).all goesB
      · simp
      · simp only [if_true]
        by_cases h24 : (c :: d :: r).length ≤ 24
        · have : ((((c :: d :: r).length : Nat) : Int) ≤ 24) := by omega
          have h24' : r.length + 1 + 1 ≤ 24 := by simpa using h24
          rw [decide_eq_true this, decide_eq_true h24, show letterB ((c :: d :: r).headD 0) = letterB c from rfl, show ((c :: d :: r).length == 1) = false by simp]
          cases letterB c <;> simp
        · have : ¬ ((((c :: d :: r).length : Nat) : Int) ≤ 24) := by omega
          rw [decide_eq_false this, decide_eq_false h24]
          simp
theorem rnamed_eq (s : List UInt8) (hs : s.length ≤ 4611686018427387904) : R_Named s = some (namedB s) := by
  unfold R_Named namedB
  cases s with
  | nil => simp
  | cons c r =>
    have hl := span_l1 (c :: r) hs 0 (by simp)
    rw [Nat.zero_add, List.drop_zero] at hl
    replace hl : R_span_l1 0 (c :: r) true 0 = some ((((c :: r).takeWhile goesB).length : Nat) : Int) := hl
    have hsp : R_span (c :: r) 0 true = some ((((c :: r).takeWhile goesB).length : Nat) : Int) := by
      unfold R_span
      simp only [hl, Option.bind_eq_bind, Option.bind_some]
    have h0 : ix (c :: r) 0 = some c := rfl
    have hlen0 : ((((c :: r).length : Nat) : Int) == 0) = false := by simp; omega
    rw [hlen0]
    simp only [Bool.false_eq_true, if_false, hsp, h0, letter_eq, Option.bind_eq_bind, Option.bind_some]
    by_cases h24 : (c :: r).length ≤ 24
    · have e1 : decide ((((c :: r).length : Nat) : Int) > 24) = false := by simp; simp at h24; omega
      rw [e1]
      simp only [Bool.false_eq_true, if_false, Option.bind_some]
      have e2 : (((((c :: r).takeWhile goesB).length : Nat) : Int) != (((c :: r).length : Nat) : Int)) = !((c :: r).all goesB) := by
        rw [← takeWhile_all]
        rw [Bool.eq_iff_iff]; simp only [bne_iff_ne, ne_eq, Int.natCast_inj, Bool.not_eq_true', beq_eq_false_iff_ne]
      rw [e2]
      cases hall : (c :: r).all goesB
      · simp
      · have e3 : ((((c :: r).length : Nat) : Int) == 1) = ((c :: r).length == 1) := by
          rw [Bool.eq_iff_iff, beq_iff_eq, beq_iff_eq]; omega
        rw [e3, decide_eq_true h24, show letterB ((c :: r).headD 0) = letterB c from rfl]
        cases letterB c <;> cases ((c :: r).length == 1) <;> simp
    · have e1 : decide ((((c :: r).length : Nat) : Int) > 24) = true := by simp; simp at h24; omega
      rw [e1]
      rw [decide_eq_false h24]
      simp
end Go.Proofs.YtekcconmnhjhiaaDoor
