/-
  Plain laws that several chapters share: small steps; places in lists; bytes escaped.
-/
import Derived.Test.YthjfnknhcmhmiaaDoorBT
set_option linter.unusedVariables false
set_option linter.unusedSimpArgs false
set_option maxRecDepth 10000
namespace Go.Proofs.YthjfnknhcmhmiaaDoor
open Go Go.RowKit Sl

theorem obind {α β : Type} {x : Option α} {a : α} {f : α → Option β} (h : x = some a) : (x >>= f) = f a := by rw [h]; rfl
theorem osome {α β : Type} {a : α} {f : α → Option β} : (some a >>= f) = f a := rfl
theorem oif {α β : Type} {c : Bool} {x y : α} {f : α → Option β} : ((if c = true then some x else some y) >>= f) = f (if c = true then x else y) := by cases c <;> rfl
theorem req_yes {p : Prop} [Decidable p] (h : p) : req p = some () := by unfold req; rw [if_pos h]
theorem w64_id {n : Int} (h0 : -9223372036854775808 ≤ n) (h1 : n < 9223372036854775808) : w64 n = n := by
  simp only [w64, wrap64]; omega
theorem w64_nat {n : Nat} (h1 : n < 9223372036854775808) : w64 (n : Int) = (n : Int) := w64_id (by omega) (by omega)
theorem w64_succ {n : Nat} (h1 : n < 9223372036854775807) : w64 ((n : Int) + 1) = ((n + 1 : Nat) : Int) := by rw [w64_id (by omega) (by omega)]; rfl
theorem w64_add {n m : Nat} (h1 : n + m < 9223372036854775808) : w64 ((n : Int) + (m : Int)) = ((n + m : Nat) : Int) := by rw [w64_id (by omega) (by omega)]; rfl
theorem ix_nat {α : Type} (l : List α) (i : Nat) : ix l (i : Int) = l[i]? := by simp [ix]
theorem ix_lt {α : Type} {l : List α} {i : Nat} (h : i < l.length) : ix l (i : Int) = some l[i] := by simp [ix, h]
theorem ix_drop {α : Type} {l r : List α} {c : α} {i : Nat} (h : l.drop i = c :: r) : ix l (i : Int) = some c := by
  rw [ix_nat, ← List.head?_drop, h]; rfl
theorem drop_len {α : Type} {l r : List α} {i : Nat} (h : l.drop i = r) (hi : i ≤ l.length) : l.length = i + r.length := by
  rw [← h, List.length_drop]; omega
theorem drop_lt {α : Type} {l r : List α} {c : α} {i : Nat} (h : l.drop i = c :: r) : i < l.length := by
  rcases Nat.lt_or_ge i l.length with hl | hl
  · exact hl
  · rw [List.drop_eq_nil_of_le hl] at h; cases h
theorem drop_next {α : Type} {l r : List α} {c : α} {i : Nat} (h : l.drop i = c :: r) : l.drop (i + 1) = r := by
  rw [← List.drop_drop, h]; rfl
theorem cutL_nat {α : Type} (l : List α) (i j : Nat) (hi : i ≤ j) (hj : j ≤ l.length) : cutL l (i : Int) (j : Int) = some ((l.take j).drop i) := by
  unfold cutL
  rw [if_pos ⟨by omega, by omega, by omega⟩]; simp
theorem cutL_mid {α : Type} (a b c : List α) : cutL (a ++ b ++ c) (a.length : Int) ((a.length + b.length : Nat) : Int) = some b := by
  rw [cutL_nat _ _ _ (by omega) (by simp), List.take_append_of_le_length (by simp), List.take_of_length_le (by simp), List.drop_left]
theorem cutL_end {α : Type} (a b : List α) : cutL (a ++ b) (a.length : Int) ((a ++ b).length : Int) = some b := by
  rw [cutL_nat _ _ _ (by simp) (by omega), List.take_of_length_le (by omega), List.drop_left]
/-! bytes sought -/
theorem idxB_eq (s : List UInt8) (c : UInt8) : idxB s c = Lib.indexByte s c := Lib.firstIdx_eq ⟨s.toArray⟩ c
theorem idxB_none {s : List UInt8} {c : UInt8} (h : c ∉ s) : idxB s c = -1 := by
  rw [idxB_eq]
  induction s with
  | nil => rfl
  | cons x s ih =>
    have h1 : ¬ x = c := fun e => h (by simp [e])
    have := ih (fun e => h (by simp [e]))
    simp [Lib.indexByte, h1, this]
theorem idxB_at {p : List UInt8} (q : List UInt8) {c : UInt8} (h : c ∉ p) : idxB (p ++ c :: q) c = (p.length : Int) := by
  rw [idxB_eq]
  induction p with
  | nil => simp [Lib.indexByte]
  | cons x p ih =>
    have h1 : ¬ x = c := fun e => h (by simp [e])
    have := ih (fun e => h (by simp [e]))
    have h2 : ¬ ((p.length : Int) = -1) := by omega
    simp [Lib.indexByte, h1, this, h2]
theorem split_at_mem {s : List UInt8} {c : UInt8} (h : c ∈ s) : ∃ p q, s = p ++ c :: q ∧ c ∉ p := by
  induction s with
  | nil => simp at h
  | cons x s ih =>
    by_cases hx : x = c
    · subst hx; exact ⟨[], s, rfl, by simp⟩
    · have : c ∈ s := by
        rcases List.mem_cons.1 h with h | h
        · exact absurd h.symm hx
        · exact h
      obtain ⟨p, q, rfl, hp⟩ := ih this
      exact ⟨x :: p, q, rfl, by simp [hp, Ne.symm hx]⟩
/-! bytes escaped: each 255 twice -/
def esc (b : List UInt8) : List UInt8 := b.flatMap fun c => if c = 255 then [255, 255] else [c]
theorem esc_nil : esc [] = [] := rfl
theorem esc_append (a b : List UInt8) : esc (a ++ b) = esc a ++ esc b := by simp [esc]
theorem esc_cons (c : UInt8) (b : List UInt8) : esc (c :: b) = (if c = 255 then [255, 255] else [c]) ++ esc b := by simp [esc]
theorem esc_plain {b : List UInt8} (h : (255 : UInt8) ∉ b) : esc b = b := by
  induction b with
  | nil => rfl
  | cons c b ih =>
    have h1 : ¬ c = 255 := fun e => h (by simp [e])
    rw [esc_cons, if_neg h1, ih (fun e => h (by simp [e]))]; rfl
theorem esc_length (b : List UInt8) : (esc b).length = b.length + b.count 255 := by
  induction b with
  | nil => rfl
  | cons c b ih =>
    rw [esc_cons, List.length_append, ih, List.count_cons]
    by_cases h : c = 255
    · simp [h]; omega
    · simp [h]; omega
/-! a row overwritten -/
theorem ovw_at {α : Type} (A Z Y : List α) {n : Nat} (h : Y.length ≤ n) : ovw (A ++ Z) A.length n Y = A ++ Y ++ Z.drop Y.length := by
  unfold ovw
  rw [Nat.min_eq_right h, List.take_of_length_le h, List.take_append_of_le_length (by omega), List.take_of_length_le (by omega)]
  congr 1
  rw [← List.drop_drop, List.drop_left]
theorem ix3_0 {α : Type} (a b c : α) : ix [a, b, c] 0 = some a := rfl
end Go.Proofs.YthjfnknhcmhmiaaDoor
