/-
  The plain law of chapter 30, eighth part: a quoted text is read back whole; the law that it is one token wherever it stands.
-/
import Derived.Test.YtekcconmnhjhiaaDoorP7
set_option linter.unusedVariables false
set_option linter.unusedSimpArgs false
set_option maxRecDepth 10000
namespace Go.Proofs.YtekcconmnhjhiaaDoor
open Go Go.RowKit Sl

theorem text_lit {s : List UInt8} {A : List W_Piece} (hA : A.length ≤ 39) (hx : ∀ x ∈ A, x.f_Lit.length ≤ 400) : ∀ (cs d : List UInt8) (a : Nat) (r : List UInt8), d.length + cs.length ≤ 400 → At s a (litQ false cs ++ r) → W_reader_text_l1 s (a : Int) (A ++ [⟨[], d⟩]) = W_reader_text_l1 s ((a + (litQ false cs).length : Nat) : Int) (A ++ [⟨[], d ++ cs⟩]) := by
  intro cs
  induction cs with
  | nil => intro d a r hd h; simp [litQ]
  | cons c cs ih =>
    intro d a r hd h
    rw [List.length_cons] at hd
    simp only [litQ, List.append_assoc] at h ⊢
    rw [text_letter h (literal_more A d c (by omega) (by omega)) ⟨by simp; omega, fun x hx' => ?_⟩]
    · rw [ih (d ++ [c]) _ r (by simp; omega) h.app]
      rw [List.length_append, Nat.add_assoc, List.append_assoc]; rfl
    · rw [List.mem_append, List.mem_singleton] at hx'
      rcases hx' with hx' | rfl
      · exact hx x hx'
      · simp; omega
theorem text_lit0 {s : List UInt8} {A : List W_Piece} {f : Bool} {x : W_Piece} (hv : A = [] ∨ ∃ B y, A = B ++ [y] ∧ y.f_Var ≠ []) (h0 : x.f_Var = []) (h1 : x.f_Lit ≠ []) (hF : Fit (A ++ [x])) {a : Nat} {r : List UInt8} (h : At s a (litQ f x.f_Lit ++ r)) : W_reader_text_l1 s (a : Int) A = W_reader_text_l1 s ((a + (litQ f x.f_Lit).length : Nat) : Int) (A ++ [x]) := by
  obtain ⟨v, cs⟩ := x
  obtain rfl : v = [] := h0
  cases cs with
  | nil => exact absurd rfl h1
  | cons c cs =>
    have hl := hF.1
    rw [List.length_append, List.length_singleton] at hl
    have hlit : (c :: cs).length ≤ 400 := hF.2 ⟨[], c :: cs⟩ (by simp)
    rw [List.length_cons] at hlit
    have hAx : ∀ y ∈ A, y.f_Lit.length ≤ 400 := fun y hy => hF.2 y (by simp [hy])
    simp only [litQ, List.append_assoc] at h ⊢
    rw [text_letter h (literal_new A c (by omega) hv) ⟨by simp; omega, fun y hy => ?_⟩]
    · rw [text_lit (by omega) hAx cs [c] _ r (by simp; omega) h.app]
      rw [List.length_append, Nat.add_assoc]; rfl
    · rw [List.mem_append, List.mem_singleton] at hy
      rcases hy with hy | rfl
      · exact hAx y hy
      · simp
theorem goes_take {v r : List UInt8} (hv : v.all goesB = true) (hr : r.takeWhile goesB = []) : (v ++ r).takeWhile goesB = v := by
  rw [List.takeWhile_append_of_pos (fun x hx => List.all_eq_true.1 hv x hx), hr, List.append_nil]
theorem variable_eq {s : List UInt8} {v r : List UInt8} (hv : namedB v = true) (hr : letterB (v.headD 0) = true → r.takeWhile goesB = []) {a : Nat} (h : At s a (v ++ r)) : W_reader_variable ⟨s, (a : Int)⟩ = some (⟨v, []⟩, none, ⟨s, ((a + v.length : Nat) : Int)⟩) := by
  unfold namedB at hv
  simp only [Bool.and_eq_true, Bool.not_eq_true', decide_eq_true_eq, Bool.or_eq_true, beq_iff_eq] at hv
  obtain ⟨⟨⟨hne, h24⟩, hall⟩, hh⟩ := hv
  unfold W_reader_variable
  cases v with
  | nil => simp at hne
  | cons c v =>
    have h' : At s a (c :: (v ++ r)) := h
    have hd : (c :: v).headD 0 = c := rfl
    rw [hd] at hr hh
    simp only [h'.peek, h'.more, wfig_eq, begins_eq, Option.bind_eq_bind, Option.bind_some]
    cases hf : figB c
    · have hlt : letterB c = true := by
        rw [List.all_cons, Bool.and_eq_true] at hall
        have := hall.1
        unfold goesB at this
        rw [hf] at this
        simpa using this
      have hw := while_eq (p := W_goes) goes_eq h
      rw [goes_take hall (hr hlt)] at hw
      unfold W_reader_name
      have n24 : decide ((((c :: v).length : Nat) : Int) > 24) = false := by simp; simp at h24; omega
      simp only [hlt, hw, n24, Option.bind_eq_bind, Option.bind_some]
      simp
    · have hlt := letter_not_fig c hf
      have hv0 : v = [] := by
        rcases hh with hh | hh
        · rw [hlt] at hh; cases hh
        · simpa using hh
      subst hv0
      simp [h'.w1]
theorem piece_var {s : List UInt8} {v r : List UInt8} {P : List W_Piece} (hP : P.length ≤ 1000) (hv : namedB v = true) (hr : letterB (v.headD 0) = true → r.takeWhile goesB = []) {a : Nat} (h : At s a (36 :: (v ++ r))) : W_reader_piece ⟨s, (a : Int)⟩ P = some (P ++ [⟨v, []⟩], none, ⟨s, ((a + (v.length + 1) : Nat) : Int)⟩) := by
  unfold W_reader_piece
  have hx := variable_eq hv hr h.next
  have hr' : req ((P.length + [(⟨v, []⟩ : W_Piece)].length) * 32 ≤ 140737488355328 ∧ P.length + [(⟨v, []⟩ : W_Piece)].length ≤ 9223372036854775807) = some () := req_yes (by simp; omega)
  have e : ((a + 1 + v.length : Nat) : Int) = ((a + (v.length + 1) : Nat) : Int) := by omega
  simp only [h.ix, h.w1, hx, hr', e, Option.bind_eq_bind, Option.bind_some]
  simp
theorem body_stop (r : List W_Piece) (hw : WB false r = true) (t : List UInt8) : (bodyQ true r ++ 34 :: t).takeWhile goesB = [] := by
  cases r with
  | nil => simp [bodyQ, show goesB 34 = false by decide]
  | cons x r =>
    simp only [WB, Bool.and_eq_true, Bool.not_eq_true'] at hw
    simp only [bodyQ]
    split
    · simp [show goesB 36 = false by decide]
    · rename_i hv
      have hv : x.f_Var = [] := Classical.not_not.1 hv
      cases hl : x.f_Lit with
      | nil => simp [badW, hv, hl] at hw
      | cons c cs =>
        obtain ⟨d, q, e, _, _, hg⟩ := toldB_cons c (!(true && goesB c))
        have := hg (fun h => by simp [h])
        simp [litQ] at *
        rw [e]
        simp [this]
theorem Fit.pre {A r : List W_Piece} (h : Fit (A ++ r)) : Fit A := ⟨by have := h.1; rw [List.length_append] at this; omega, fun x hx => h.2 x (by simp [hx])⟩
theorem text_all {s : List UInt8} (r : List W_Piece) : ∀ (p f : Bool) (A : List W_Piece) (a : Nat) (t : List UInt8), WB p r = true → Fit (A ++ r) → (p = false → A = [] ∨ ∃ B y, A = B ++ [y] ∧ y.f_Var ≠ []) → At s a (bodyQ f r ++ 34 :: t) → W_reader_text_l1 s (a : Int) A = some (none, s, ((a + (bodyQ f r).length + 1 : Nat) : Int), 3, A ++ r) := by
  induction r with
  | nil =>
    intro p f A a t _ _ _ h
    have h' : At s a (34 :: t) := h
    rw [W_reader_text_l1]
    simp [h'.more, h'.ix, h'.w1, bodyQ]
  | cons x r ih =>
    intro p f A a t hw hF hp h
    simp only [WB, Bool.and_eq_true, Bool.not_eq_true'] at hw
    obtain ⟨hbad, hrest⟩ := hw
    have hF' : Fit ((A ++ [x]) ++ r) := by rwa [List.append_assoc]
    simp only [bodyQ] at h ⊢
    by_cases hv : x.f_Var = []
    · have hn : ¬ (x.f_Var ≠ []) := fun h => h hv
      rw [if_neg hn] at h ⊢
      rw [List.append_assoc] at h
      have hp0 : p = false := by
        cases p with
        | false => rfl
        | true => simp [badW, hv] at hbad
      have hl : x.f_Lit ≠ [] := fun hl => by simp [badW, hv, hl] at hbad
      rw [text_lit0 (hp hp0) hv hl hF'.pre h]
      have hvv : (x.f_Var == []) = true := by simp [hv]
      rw [hvv] at hrest
      rw [ih true false (A ++ [x]) _ t hrest hF' (fun h => by cases h) h.app]
      rw [List.length_append, List.append_assoc, Nat.add_assoc a]; rfl
    · rw [if_pos hv] at h ⊢
      have hnv : namedB x.f_Var = true := by
        cases hh : namedB x.f_Var
        · simp [badW, hv, hh] at hbad
        · rfl
      have hl : x.f_Lit = [] := by
        by_cases hl : x.f_Lit = []
        · exact hl
        · simp [badW, hv, hl] at hbad
      have hvv : (x.f_Var == []) = false := by simp [hv]
      rw [hvv] at hrest
      obtain ⟨v, lit⟩ := x
      obtain rfl : lit = [] := hl
      have h' : At s a (36 :: (v ++ (bodyQ (letterB (v.headD 0)) r ++ 34 :: t))) := by
        have e : 36 :: (v ++ (bodyQ (letterB (v.headD 0)) r ++ 34 :: t)) = 36 :: v ++ bodyQ (letterB (v.headD 0)) r ++ 34 :: t := by simp
        rw [e]; exact h
      have hA := hF'.pre.1
      rw [List.length_append, List.length_singleton] at hA
      rw [text_step h' (by decide) (piece_var (by omega) hnv (fun hlt => by rw [hlt]; exact body_stop r hrest t) h') hF'.pre]
      have h2 : At s (a + (v.length + 1)) (bodyQ (letterB (v.headD 0)) r ++ 34 :: t) := by
        have := h'.next.app
        have e : a + 1 + v.length = a + (v.length + 1) := by omega
        rwa [e] at this
      rw [ih false (letterB (v.headD 0)) (A ++ [⟨v, []⟩]) _ t hrest hF' (fun _ => .inr ⟨A, _, rfl, hv⟩) h2]
      have e : a + (v.length + 1) + (bodyQ (letterB (v.headD 0)) r).length + 1 = a + (36 :: v ++ bodyQ (letterB (v.headD 0)) r).length + 1 := by simp; omega
      rw [e, List.append_assoc]; rfl
end Go.Proofs.YtekcconmnhjhiaaDoor
