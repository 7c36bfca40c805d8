/-
  The plain law of chapter 30, fifth part: the reference quotes alike; pieces turned; tokens held against each other; the law.
-/
import Derived.Test.YtekcconmnhjhiaaDoorP4
set_option linter.unusedVariables false
set_option linter.unusedSimpArgs false
set_option maxRecDepth 10000
namespace Go.Proofs.YtekcconmnhjhiaaDoor
open Go Go.RowKit Sl

/-- what holds back, at piece i -/
def flagAt (l : List W_Piece) (i : Nat) : Bool := decide (0 < i) && (l[i - 1]?).any fun x => letterB (x.f_Var.headD 0)
/-- the piece ahead of i is a variable -/
def varBefore (l : List W_Piece) (i : Nat) : Prop := 0 < i → ∃ y, l[i - 1]? = some y ∧ y.f_Var ≠ []
theorem rheld_eq (l : List W_Piece) (i j : Nat) (c : UInt8) (hl : l.length ≤ 60) (hi : i ≤ l.length) (hv : varBefore l i) : rheld (l.map toR) (i : Int) (j : Int) c = some ((flagAt l i && decide (j = 0)) && goesB c) := by
  unfold rheld flagAt
  by_cases hj : j = 0
  · subst hj
    by_cases h0 : 0 < i
    · obtain ⟨y, hy, hne⟩ := hv h0
      have e2 : w64 ((i : Int) - 1) = ((i - 1 : Nat) : Int) := by rw [w64_id (by omega) (by omega)]; omega
      have hx : ix (l.map toR) ((i - 1 : Nat) : Int) = some (toR y) := by rw [ix_nat, List.getElem?_map, hy]; rfl
      have hc0 : ix (toR y).f_Var 0 = some (y.f_Var.headD 0) := by
        show ix y.f_Var 0 = _
        cases hq : y.f_Var with
        | nil => exact absurd hq hne
        | cons a b => rfl
      have h1 : decide ((i : Int) > 0) = true := by simp; omega
      rw [e2, hx]
      simp only [h1, hc0, hy, h0, Option.bind_eq_bind, Option.bind_some, letter_eq, rfig_eq, Int.ofNat_zero, beq_self_eq_true, if_true, decide_true, Bool.true_and, Option.any_some, Bool.and_true]
      unfold goesB
      cases letterB (y.f_Var.headD 0) <;> cases letterB c <;> cases figB c <;> simp
    · have h1 : decide ((i : Int) > 0) = false := by simp; omega
      simp [h1, h0]
  · have h1 : ((j : Int) == 0) = false := by simp; omega
    simp [h1, hj]
theorem rquote_l2 (l : List W_Piece) (i : Nat) (x : W_Piece) (hl : l.length ≤ 60) (hi : i ≤ l.length) (hv : varBefore l i) (hx : x.f_Lit.length ≤ 500) : ∀ (j : Nat) (acc : List UInt8), j ≤ x.f_Lit.length → acc.length + 4 * (x.f_Lit.length - j) ≤ 100000000 → R_Quote_l2 (toR x) (i : Int) (l.map toR) (j : Int) acc = some (acc ++ litQ (flagAt l i && decide (j = 0)) (x.f_Lit.drop j)) := by
  intro j acc hj hb
  induction h : x.f_Lit.length - j generalizing j acc with
  | zero =>
    have : j = x.f_Lit.length := by omega
    subst this
    rw [rl2_eq]
    simp [litQ, toR]
  | succ n ih =>
    have hlt : j < x.f_Lit.length := by omega
    rw [rl2_eq]
    have e1 : w64 ((j : Int) + 1) = ((j + 1 : Nat) : Int) := by rw [w64_id (by omega) (by omega)]; rfl
    have hlit : (toR x).f_Lit = x.f_Lit := rfl
    have hg : x.f_Lit[j]? = some x.f_Lit[j] := by simp [hlt]
    rw [hlit, if_pos (by simpa using hlt), ix_lt hlt]
    simp only [Option.bind_eq_bind, Option.bind_some, rheld_eq l i j _ hl hi hv]
    rw [rtold_eq x.f_Lit j _ _ acc hg hx (by omega)]
    simp only [Option.bind_some, e1]
    have hlen := toldB_len x.f_Lit[j] (!((flagAt l i && decide (j = 0)) && goesB x.f_Lit[j]))
    rw [ih (j + 1) _ (by omega) (by rw [List.length_append]; omega) (by omega)]
    rw [List.drop_eq_getElem_cons hlt]
    simp [litQ]
theorem flagAt_succ {l : List W_Piece} {i : Nat} (h : i < l.length) : flagAt l (i + 1) = letterB (l[i].f_Var.headD 0) := by simp [flagAt, h]
theorem rquote_l1 (l : List W_Piece) (hs : Small l) : ∀ (i : Nat) (p : Bool) (acc : List UInt8), i ≤ l.length → acc.length + 2001 * (l.length - i) ≤ 10000000 → WB p (l.drop i) = true → (p = false → varBefore l i) → R_Quote_l1 (l.map toR) (i : Int) acc = some (acc ++ bodyQ (if p then false else flagAt l i) (l.drop i)) := by
  intro i p acc hi hb hw hp
  have hlen := hs.1
  induction h : l.length - i generalizing i p acc with
  | zero =>
    have : i = l.length := by omega
    subst this
    rw [R_Quote_l1]
    simp [bodyQ]
  | succ n ih =>
    have hlt : i < l.length := by omega
    rw [R_Quote_l1]
    have e : w64 ((i : Int) + 1) = ((i + 1 : Nat) : Int) := by rw [w64_id (by omega) (by omega)]; rfl
    have hm : ix (l.map toR) (i : Int) = some (toR l[i]) := by rw [ix_nat]; simp [hlt]
    rw [if_pos (by simpa using hlt), hm]
    have hx := hs.2 l[i] (List.getElem_mem hlt)
    rw [List.drop_eq_getElem_cons hlt] at hw ⊢
    simp only [WB, Bool.and_eq_true, Bool.not_eq_true'] at hw
    obtain ⟨hbad, hrest⟩ := hw
    simp only [bodyQ, Option.bind_eq_bind, Option.bind_some, toR]
    by_cases hv : l[i].f_Var = []
    · have hc : decide (((l[i].f_Var.length : Nat) : Int) > 0) = false := by simp [hv]
      rw [hc, if_neg (by simp [hv])]
      have hpf : p = false := by
        cases p with
        | false => rfl
        | true => simp [badW, hv] at hbad
      subst hpf
      have h2 : R_Quote_l2 (toR l[i]) (i : Int) (l.map toR) 0 acc = some (acc ++ litQ (flagAt l i) l[i].f_Lit) := by
        have := rquote_l2 l i l[i] hlen hi (hp rfl) hx.2 0 acc (by omega) (by omega)
        simpa using this
      simp only [toR] at h2
      have hll := litQ_len l[i].f_Lit (flagAt l i)
      simp only [Bool.false_eq_true, if_false, Option.bind_some, h2, e]
      have hvv : (l[i].f_Var == []) = true := by simp [hv]
      rw [hvv] at hrest
      rw [ih (i + 1) true _ (by omega) (by rw [List.length_append]; omega) hrest (fun h => by cases h) (by omega)]
      simp [hv]
    · have h1 : 1 ≤ l[i].f_Var.length := by
        cases hq : l[i].f_Var with
        | nil => exact absurd hq hv
        | cons a b => simp
      have hc : decide (((l[i].f_Var.length : Nat) : Int) > 0) = true := by simp; omega
      rw [hc, if_pos hv]
      rw [req_yes (by simp; omega)]
      simp only [if_true, Option.bind_some]
      rw [req_yes (by simp; omega)]
      simp only [Option.bind_some, e]
      have hvv : (l[i].f_Var == []) = false := by simp [hv]
      rw [hvv] at hrest
      have hnext : varBefore l (i + 1) := fun _ => ⟨l[i], by simp [hlt], hv⟩
      rw [ih (i + 1) false _ (by omega) (by simp; omega) hrest (fun _ => hnext) (by omega)]
      rw [flagAt_succ hlt]
      simp
theorem rquote_eq (l : List W_Piece) (hs : Small l) (hw : WB false l = true) : R_Quote (l.map toR) = some (quoteB l) := by
  unfold R_Quote
  have hlen := hs.1
  have hbl := bodyQ_len l hs.2 false
  have h1 : R_Quote_l1 (l.map toR) 0 [34] = some ([34] ++ bodyQ false l) := by
    have := rquote_l1 l hs 0 false [34] (by omega) (by simp; omega) (by simpa using hw) (fun _ h => absurd h (by omega))
    have hf : flagAt l 0 = false := rfl
    simpa [hf] using this
  simp only [h1, Option.bind_eq_bind, Option.bind_some]
  rw [req_yes (by simp; omega)]
  simp [quoteB]
/-! pieces turned; tokens held against each other -/
theorem pieces_l1 (l : List W_Piece) (hl : l.length ≤ 60) : ∀ (i : Nat) (acc : List R_Piece), i ≤ l.length → acc.length + (l.length - i) ≤ 1000 → Law_Pieces_l1 l (i : Int) acc = some (acc ++ (l.drop i).map toR) := by
  intro i acc hi hb
  induction h : l.length - i generalizing i acc with
  | zero =>
    have : i = l.length := by omega
    subst this
    rw [Law_Pieces_l1]
    simp
  | succ n ih =>
    have hlt : i < l.length := by omega
    rw [Law_Pieces_l1]
    have e : w64 ((i : Int) + 1) = ((i + 1 : Nat) : Int) := by rw [w64_id (by omega) (by omega)]; rfl
    rw [if_pos (by simpa using hlt), ix_lt hlt]
    simp only [Option.bind_eq_bind, Option.bind_some]
    rw [req_yes (by simp; omega)]
    simp only [Option.bind_some, e]
    rw [ih (i + 1) _ (by omega) (by simp; omega) (by omega)]
    rw [List.drop_eq_getElem_cons hlt, List.map_cons, List.append_assoc]
    rfl
theorem pieces_eq (l : List W_Piece) (hl : l.length ≤ 60) : Law_Pieces l = some (l.map toR) := by
  unfold Law_Pieces
  have h : Law_Pieces_l1 l 0 [] = some ([] ++ l.map toR) := by
    have := pieces_l1 l hl 0 [] (by omega) (by simp; omega)
    simpa using this
  simp [h]
theorem long_l1 (l : List W_Piece) (hl : l.length ≤ 60) : ∀ i : Nat, i ≤ l.length → ∃ b : Bool, Law_long_l1 l (i : Int) = some (if b then .inl () else .inr ()) ∧ (b = true → ∀ x ∈ l.drop i, x.f_Var.length ≤ 100 ∧ x.f_Lit.length ≤ 500) := by
  intro i hi
  induction h : l.length - i generalizing i with
  | zero =>
    have : i = l.length := by omega
    subst this
    rw [Law_long_l1]
    exact ⟨true, by simp, fun _ x hx => by simp at hx⟩
  | succ n ih =>
    have hlt : i < l.length := by omega
    rw [Law_long_l1]
    have e : w64 ((i : Int) + 1) = ((i + 1 : Nat) : Int) := by rw [w64_id (by omega) (by omega)]; rfl
    rw [if_pos (by simpa using hlt), ix_lt hlt]
    obtain ⟨b, hb1, hb2⟩ := ih (i + 1) (by omega) (by omega)
    simp only [Option.bind_eq_bind, Option.bind_some, e, hb1]
    by_cases a1 : l[i].f_Var.length > 100
    · have : decide (((l[i].f_Var.length : Nat) : Int) > 100) = true := by simp; omega
      exact ⟨false, by simp [this], fun h => by cases h⟩
    · have h1 : decide (((l[i].f_Var.length : Nat) : Int) > 100) = false := by simp; omega
      by_cases a2 : l[i].f_Lit.length > 500
      · have : decide (((l[i].f_Lit.length : Nat) : Int) > 500) = true := by simp; omega
        exact ⟨false, by simp [h1, this], fun h => by cases h⟩
      · have h2 : decide (((l[i].f_Lit.length : Nat) : Int) > 500) = false := by simp; omega
        refine ⟨b, by simp [h1, h2], fun hb x hx => ?_⟩
        rw [List.drop_eq_getElem_cons hlt] at hx
        rcases List.mem_cons.1 hx with rfl | hx
        · exact ⟨by omega, by omega⟩
        · exact hb2 hb x hx
theorem long_eq (l : List W_Piece) : ∃ b : Bool, Law_long l = some b ∧ (b = false → Small l) := by
  unfold Law_long
  by_cases h60 : l.length > 60
  · have : decide ((l.length : Int) > 60) = true := by simp; omega
    exact ⟨true, by simp [this], fun h => by cases h⟩
  · have h1 : decide ((l.length : Int) > 60) = false := by simp; omega
    obtain ⟨b, hb1, hb2⟩ := long_l1 l (by omega) 0 (by omega)
    have e0 : ((0 : Nat) : Int) = 0 := rfl
    rw [e0] at hb1
    cases b with
    | true => exact ⟨false, by simp [h1, hb1], fun _ => ⟨by omega, fun x hx => hb2 rfl x (by simpa using hx)⟩⟩
    | false => exact ⟨true, by simp [h1, hb1], fun h => by cases h⟩
end Go.Proofs.YtekcconmnhjhiaaDoor
