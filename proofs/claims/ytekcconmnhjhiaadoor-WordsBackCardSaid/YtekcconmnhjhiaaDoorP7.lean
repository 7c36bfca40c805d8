/-
  The plain law of chapter 30, seventh part: what is quoted is read back, letter by letter.
-/
import Derived.Test.YtekcconmnhjhiaaDoorP6
set_option linter.unusedVariables false
set_option linter.unusedSimpArgs false
set_option maxRecDepth 10000
namespace Go.Proofs.YtekcconmnhjhiaaDoor
open Go Go.RowKit Sl

/-- r is what is left of s behind place a -/
structure At (s : List UInt8) (a : Nat) (r : List UInt8) : Prop where
  rest : s.drop a = r
  le : a ≤ s.length
  small : s.length ≤ 4000
theorem At.len {s : List UInt8} {a : Nat} {r : List UInt8} (h : At s a r) : s.length = a + r.length := by
  have := congrArg List.length h.rest
  rw [List.length_drop] at this
  have := h.le
  omega
theorem At.ix {s : List UInt8} {a : Nat} {c : UInt8} {r : List UInt8} (h : At s a (c :: r)) : ix s (a : Int) = some c := by
  rw [ix_nat, ← List.head?_drop, h.rest]; rfl
theorem At.app {s : List UInt8} {a : Nat} {x r : List UInt8} (h : At s a (x ++ r)) : At s (a + x.length) r := by
  have := h.len
  rw [List.length_append] at this
  exact ⟨by rw [← List.drop_drop, h.rest]; simp, by omega, h.small⟩
theorem At.next {s : List UInt8} {a : Nat} {c : UInt8} {r : List UInt8} (h : At s a (c :: r)) : At s (a + 1) r := At.app (x := [c]) h
theorem At.w1 {s : List UInt8} {a : Nat} {r : List UInt8} (h : At s a r) : w64 ((a : Int) + 1) = ((a + 1 : Nat) : Int) := by
  have := h.le; have := h.small
  rw [w64_id (by omega) (by omega)]; rfl
theorem At.more {s : List UInt8} {a : Nat} {c : UInt8} {r : List UInt8} (h : At s a (c :: r)) : W_reader_ends ⟨s, (a : Int)⟩ = some (false, ⟨s, (a : Int)⟩) := by
  have := h.len
  rw [List.length_cons] at this
  unfold W_reader_ends
  have : decide ((a : Int) ≥ (s.length : Int)) = false := by simp; omega
  simp only [this]
theorem At.done {s : List UInt8} {a : Nat} (h : At s a []) : W_reader_ends ⟨s, (a : Int)⟩ = some (true, ⟨s, (a : Int)⟩) := by
  have := h.len
  rw [List.length_nil] at this
  unfold W_reader_ends
  have : decide ((a : Int) ≥ (s.length : Int)) = true := by simp; omega
  simp only [this]
theorem At.peek {s : List UInt8} {a : Nat} {c : UInt8} {r : List UInt8} (h : At s a (c :: r)) : W_reader_peek ⟨s, (a : Int)⟩ 0 = some (c, ⟨s, (a : Int)⟩) := by
  have := h.len
  rw [List.length_cons] at this
  have := h.small
  unfold W_reader_peek
  have e : w64 ((a : Int) + 0) = (a : Int) := by rw [w64_id (by omega) (by omega)]; omega
  have : decide ((a : Int) ≥ (s.length : Int)) = false := by simp; omega
  simp only [e, this, h.ix]
  simp
theorem At.peek0 {s : List UInt8} {a : Nat} (h : At s a []) : W_reader_peek ⟨s, (a : Int)⟩ 0 = some (0, ⟨s, (a : Int)⟩) := by
  have := h.len
  rw [List.length_nil] at this
  have := h.small
  unfold W_reader_peek
  have e : w64 ((a : Int) + 0) = (a : Int) := by rw [w64_id (by omega) (by omega)]; omega
  have : decide ((a : Int) ≥ (s.length : Int)) = true := by simp; omega
  simp only [e, this]
  simp
theorem while_l1 {s : List UInt8} {p : UInt8 → Option Bool} {q : UInt8 → Bool} (hp : ∀ c, p c = some (q c)) : ∀ (r : List UInt8) (a : Nat), At s a r → W_reader_while_l1 p s (a : Int) = some (s, ((a + (r.takeWhile q).length : Nat) : Int)) := by
  intro r
  induction r with
  | nil =>
    intro a h
    rw [W_reader_while_l1]
    simp [h.done]
  | cons c r ih =>
    intro a h
    rw [W_reader_while_l1]
    simp only [h.more, h.ix, hp, Option.bind_eq_bind, Option.bind_some, Bool.not_false, if_true, h.w1]
    rw [ih (a + 1) h.next, List.takeWhile_cons]
    cases q c
    · simp
    · simp; omega
theorem while_eq {s : List UInt8} {p : UInt8 → Option Bool} {q : UInt8 → Bool} (hp : ∀ c, p c = some (q c)) {r : List UInt8} {a : Nat} (h : At s a r) : W_reader_while ⟨s, (a : Int)⟩ p = some (r.takeWhile q, ⟨s, ((a + (r.takeWhile q).length : Nat) : Int)⟩) := by
  unfold W_reader_while
  simp only [while_l1 hp r a h, Option.bind_eq_bind, Option.bind_some]
  have hl := h.len
  have ht : (r.takeWhile q).length ≤ r.length := List.Sublist.length_le (List.takeWhile_sublist q)
  unfold cutL
  rw [if_pos ⟨by omega, by omega, by omega⟩]
  simp only [Option.bind_some, Int.toNat_natCast]
  rw [List.drop_take, h.rest]
  have : a + (r.takeWhile q).length - a = (r.takeWhile q).length := by omega
  rw [this, ← List.prefix_iff_eq_take.1 (List.takeWhile_prefix q)]
/-! signs of base 16 -/
theorem digit_fin : ∀ n : Fin 16, W_digit (hexs.getD n.1 0) = some (n.1 : Int) := by decide +kernel
theorem digit_eq (n : Nat) (hn : n < 16) : W_digit (hexs.getD n 0) = some (n : Int) := digit_fin ⟨n, hn⟩
theorem or_eq : ∀ a : Nat, a < 16 → ∀ b : Nat, b < 16 → or64 (w64 ((a : Int) * 2 ^ 4)) (b : Int) = ((16 * a + b : Nat) : Int) := by decide +kernel
theorem or_eq0 : ∀ b : Nat, b < 16 → or64 (w64 ((0 : Int) * 2 ^ 4)) (b : Int) = (b : Int) := by decide +kernel
theorem coded_eq {s : List UInt8} {a : Nat} {r : List UInt8} (n m : Nat) (hn : n < 16) (hm : m < 16) (h : At s a (hexs.getD n 0 :: hexs.getD m 0 :: r)) : W_reader_coded ⟨s, (a : Int)⟩ = some (toB ((16 * n + m : Nat) : Int), none, ⟨s, ((a + 2 : Nat) : Int)⟩) := by
  unfold W_reader_coded
  have h1 := h.next
  have h2 := h1.next
  have n0 : decide ((n : Int) < 0) = false := by simp
  have m0 : decide ((m : Int) < 0) = false := by simp
  have hl : W_reader_coded_l1 0 0 s (a : Int) = some (.inl (((16 * n + m : Nat) : Int), s, ((a + 2 : Nat) : Int))) := by
    rw [W_reader_coded_l1]
    simp only [h.more, h.ix, digit_eq n hn, n0, h.w1, or_eq0 n hn, Option.bind_eq_bind, Option.bind_some]
    rw [W_reader_coded_l1]
    simp only [h1.more, h1.ix, digit_eq m hm, m0, h1.w1, Option.bind_eq_bind, Option.bind_some]
    rw [W_reader_coded_l1]
    have w1 : w64 (0 + 1) = 1 := by decide +kernel
    have w2 : w64 (1 + 1) = 2 := by decide +kernel
    simp only [w1, w2, or_eq n hn m hm]
    have e3 : ((a + 1 + 1 : Nat) : Int) = ((a + 2 : Nat) : Int) := rfl
    rw [e3]
    simp
  simp only [hl, Option.bind_eq_bind, Option.bind_some]
theorem toB_id (c : UInt8) : toB ((16 * (c.toNat / 16) + c.toNat % 16 : Nat) : Int) = c := by
  have := c.toNat_lt
  have e : 16 * (c.toNat / 16) + c.toNat % 16 = c.toNat := by omega
  rw [e]
  unfold toB
  have e2 : ((c.toNat : Int) % 256).toNat = c.toNat := by omega
  rw [e2, UInt8.ofNat_toNat]
/-- a letter that was told is read -/
theorem piece_told {s : List UInt8} {a : Nat} {c : UInt8} {p : Bool} {r : List UInt8} (P : List W_Piece) (h : At s a (toldB c p ++ r)) : W_reader_piece ⟨s, (a : Int)⟩ P = (W_literal P c).bind fun P' => some (P', none, ⟨s, ((a + (toldB c p).length : Nat) : Int)⟩) := by
  unfold W_reader_piece
  unfold toldB at h ⊢
  by_cases a1 : c = 10
  · subst a1
    simp only [if_true, List.cons_append, List.nil_append] at h ⊢
    have h1 := h.next
    unfold W_reader_escape
    simp only [h.ix, h.w1, h1.more, h1.ix, h1.w1, show a + 1 + 1 = a + 2 from rfl, Option.bind_eq_bind, Option.bind_some]
    simp
  rw [if_neg a1] at h ⊢
  by_cases a2 : c = 13
  · subst a2
    simp only [if_true, List.cons_append, List.nil_append] at h ⊢
    have h1 := h.next
    unfold W_reader_escape
    simp only [h.ix, h.w1, h1.more, h1.ix, h1.w1, show a + 1 + 1 = a + 2 from rfl, Option.bind_eq_bind, Option.bind_some]
    simp
  rw [if_neg a2] at h ⊢
  by_cases a3 : c = 9
  · subst a3
    simp only [if_true, List.cons_append, List.nil_append] at h ⊢
    have h1 := h.next
    unfold W_reader_escape
    simp only [h.ix, h.w1, h1.more, h1.ix, h1.w1, show a + 1 + 1 = a + 2 from rfl, Option.bind_eq_bind, Option.bind_some]
    simp
  rw [if_neg a3] at h ⊢
  by_cases a4 : c = 34 ∨ c = 36 ∨ c = 92
  · rw [if_pos a4] at h ⊢
    simp only [List.cons_append, List.nil_append] at h ⊢
    have h1 := h.next
    unfold W_reader_escape
    simp only [h.ix, h.w1, h1.more, h1.ix, h1.w1, show a + 1 + 1 = a + 2 from rfl, Option.bind_eq_bind, Option.bind_some]
    rcases a4 with rfl | rfl | rfl <;> simp
  rw [if_neg a4] at h ⊢
  simp only [not_or] at a4
  by_cases a5 : p = true ∧ 32 ≤ c ∧ c ≤ 126
  · rw [if_pos a5] at h ⊢
    simp only [List.cons_append, List.nil_append] at h ⊢
    simp only [h.ix, h.w1, Option.bind_eq_bind, Option.bind_some]
    simp [a4.2.1, a1, a4.2.2]
  rw [if_neg a5] at h ⊢
  simp only [List.cons_append, List.nil_append] at h ⊢
  have h1 := h.next
  have h2 := h1.next
  have hc := c.toNat_lt
  unfold W_reader_escape
  simp only [h.ix, h.w1, h1.more, h1.ix, h1.w1, coded_eq _ _ (show c.toNat / 16 < 16 by omega) (show c.toNat % 16 < 16 by omega) h2, toB_id, Option.bind_eq_bind, Option.bind_some]
  have e : ((a + 1 + 1 + 2 : Nat) : Int) = ((a + 4 : Nat) : Int) := by omega
  rw [e]
  simp
/-- pieces that a text may have -/
def Fit (P : List W_Piece) : Prop := P.length ≤ 40 ∧ ∀ x ∈ P, x.f_Lit.length ≤ 400
theorem Fit.eq {P : List W_Piece} (h : Fit P) : W_fits P = some true := by
  rw [fits_eq P (by have := h.1; omega), decide_eq_true h.1]
  have : (P.any fun x => decide (x.f_Lit.length > 400)) = false := by
    rw [List.any_eq_false]
    intro x hx
    have := h.2 x hx
    simp; omega
  rw [this]; rfl
theorem text_step {s : List UInt8} {a : Nat} {c : UInt8} {r : List UInt8} {P P' : List W_Piece} {b : Nat} (h : At s a (c :: r)) (hc : c ≠ 34) (hp : W_reader_piece ⟨s, (a : Int)⟩ P = some (P', none, ⟨s, (b : Int)⟩)) (hf : Fit P') : W_reader_text_l1 s (a : Int) P = W_reader_text_l1 s (b : Int) P' := by
  rw [W_reader_text_l1]
  have hc' : (c == 34) = false := by simpa using hc
  simp only [h.more, h.ix, hc', hp, hf.eq, Option.bind_eq_bind, Option.bind_some]
  simp
theorem toldB_cons (c : UInt8) (p : Bool) : ∃ d r, toldB c p = d :: r ∧ d ≠ 34 ∧ d ≠ 36 ∧ ((goesB c = true → p = false) → goesB d = false) := by
  unfold toldB
  have g92 : goesB 92 = false := by decide
  split
  · exact ⟨_, _, rfl, by decide, by decide, fun _ => g92⟩
  split
  · exact ⟨_, _, rfl, by decide, by decide, fun _ => g92⟩
  split
  · exact ⟨_, _, rfl, by decide, by decide, fun _ => g92⟩
  split
  · exact ⟨_, _, rfl, by decide, by decide, fun _ => g92⟩
  rename_i a4
  simp only [not_or] at a4
  split
  · rename_i a5
    refine ⟨_, _, rfl, a4.1, a4.2.1, fun hh => ?_⟩
    cases hg : goesB c
    · rfl
    · have := hh hg
      rw [a5.1] at this; cases this
  · exact ⟨_, _, rfl, by decide, by decide, fun _ => g92⟩
theorem text_letter {s : List UInt8} {a : Nat} {c : UInt8} {p : Bool} {r : List UInt8} {P P' : List W_Piece} (h : At s a (toldB c p ++ r)) (hl : W_literal P c = some P') (hf : Fit P') : W_reader_text_l1 s (a : Int) P = W_reader_text_l1 s ((a + (toldB c p).length : Nat) : Int) P' := by
  obtain ⟨d, q, e, hd, _⟩ := toldB_cons c p
  have hp := piece_told P h
  rw [hl] at hp
  have h' := h
  rw [e] at h'
  exact text_step h' hd hp hf
theorem literal_more (A : List W_Piece) (d : List UInt8) (c : UInt8) (hA : A.length ≤ 1000) (hd : d.length ≤ 1000) : W_literal (A ++ [⟨[], d⟩]) c = some (A ++ [⟨[], d ++ [c]⟩]) := by
  unfold W_literal
  have hlen : (A ++ [(⟨[], d⟩ : W_Piece)]).length = A.length + 1 := by simp
  have e : w64 ((((A ++ [(⟨[], d⟩ : W_Piece)]).length : Nat) : Int) - 1) = (A.length : Int) := by
    rw [hlen, w64_id (by omega) (by omega)]; omega
  have hx : ix (A ++ [(⟨[], d⟩ : W_Piece)]) (A.length : Int) = some ⟨[], d⟩ := by rw [ix_nat]; simp
  have n0 : decide ((A.length : Int) < 0) = false := by simp
  have hr : req (d.length + ([c] : List UInt8).length ≤ 9223372036854775807) = some () := req_yes (by simp; omega)
  simp only [e, hx, n0, hr, Option.bind_eq_bind, Option.bind_some]
  simp
theorem literal_new (A : List W_Piece) (c : UInt8) (hA : A.length ≤ 1000) (hv : A = [] ∨ ∃ B y, A = B ++ [y] ∧ y.f_Var ≠ []) : W_literal A c = some (A ++ [⟨[], [c]⟩]) := by
  unfold W_literal
  have e : w64 ((A.length : Int) - 1) = (A.length : Int) - 1 := by rw [w64_id (by omega) (by omega)]
  have hr : req ((A.length + ([(⟨([] : List UInt8), ([c] : List UInt8)⟩ : W_Piece)]).length) * 32 ≤ 140737488355328 ∧ A.length + ([(⟨([] : List UInt8), ([c] : List UInt8)⟩ : W_Piece)]).length ≤ 9223372036854775807) = some () := req_yes (by simp; omega)
  rw [e]
  rcases hv with rfl | ⟨B, y, rfl, hy⟩
  · simp [show req True = some () from rfl]
  · have hlen : (((B ++ [y]).length : Nat) : Int) - 1 = (B.length : Int) := by rw [List.length_append]; simp
    have hx : ix (B ++ [y]) (B.length : Int) = some y := by rw [ix_nat]; simp
    have n0 : decide ((B.length : Int) < 0) = false := by simp
    have hy' : (y.f_Var != []) = true := by simpa using hy
    simp only [hlen, hx, n0, hy', hr, Option.bind_eq_bind, Option.bind_some]
    simp
end Go.Proofs.YtekcconmnhjhiaaDoor
