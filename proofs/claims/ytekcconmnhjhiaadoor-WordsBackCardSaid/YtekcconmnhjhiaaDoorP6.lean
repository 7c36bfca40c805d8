/-
  The plain law of chapter 30, sixth part: tokens held against each other; the law of pieces.
-/
import Derived.Test.YtekcconmnhjhiaaDoorP5
set_option linter.unusedVariables false
set_option linter.unusedSimpArgs false
set_option maxRecDepth 10000
namespace Go.Proofs.YtekcconmnhjhiaaDoor
open Go Go.RowKit Sl

def eqP (x y : W_Piece) : Bool := (x.f_Var == y.f_Var) && ((x.f_Lit == y.f_Lit) && true)
def eqFrom (l m : List W_Piece) (i : Nat) : Bool := ((l.drop i).zip (m.drop i)).all fun p => eqP p.1 p.2
theorem eqFrom_step {l m : List W_Piece} {i : Nat} (h : i < l.length) (h' : i < m.length) : eqFrom l m i = (eqP l[i] m[i] && eqFrom l m (i + 1)) := by
  unfold eqFrom
  rw [List.drop_eq_getElem_cons h, List.drop_eq_getElem_cons h', List.zip_cons_cons, List.all_cons]
theorem wequal_l1 (l m : List W_Piece) (hl : l.length ≤ 60) (hm : l.length = m.length) : ∀ i : Nat, i ≤ l.length → slices_Equal_W_Piece_W_Piece_l1 l m (i : Int) = some (if eqFrom l m i then .inl () else .inr ()) := by
  intro i hi
  induction h : l.length - i generalizing i with
  | zero =>
    have : i = l.length := by omega
    subst this
    rw [slices_Equal_W_Piece_W_Piece_l1]
    simp [eqFrom]
  | succ n ih =>
    have hlt : i < l.length := by omega
    have hlt' : i < m.length := by omega
    rw [slices_Equal_W_Piece_W_Piece_l1]
    have e : w64 ((i : Int) + 1) = ((i + 1 : Nat) : Int) := by rw [w64_id (by omega) (by omega)]; rfl
    rw [if_pos (by simpa using hlt), ix_lt hlt, ix_lt hlt', eqFrom_step hlt hlt']
    simp only [Option.bind_eq_bind, Option.bind_some, e, ih (i + 1) (by omega) (by omega)]
    show (if (!(eqP l[i] m[i])) = true then _ else _) = _
    cases eqP l[i] m[i] <;> simp
theorem rsame_l1 (t u : R_Token) (l m : List W_Piece) (ht : t.f_Pieces = l.map toR) (hu : u.f_Pieces = m.map toR) (hl : l.length ≤ 60) (hm : l.length = m.length) : ∀ i : Nat, i ≤ l.length → R_Same_l1 t u (i : Int) = some (if eqFrom l m i then .inl () else .inr ()) := by
  intro i hi
  induction h : l.length - i generalizing i with
  | zero =>
    have : i = l.length := by omega
    subst this
    rw [R_Same_l1]
    simp [eqFrom, ht]
  | succ n ih =>
    have hlt : i < l.length := by omega
    have hlt' : i < m.length := by omega
    rw [R_Same_l1]
    have e : w64 ((i : Int) + 1) = ((i + 1 : Nat) : Int) := by rw [w64_id (by omega) (by omega)]; rfl
    have h1 : ix t.f_Pieces (i : Int) = some (toR l[i]) := by rw [ht, ix_nat]; simp [hlt]
    have h2 : ix u.f_Pieces (i : Int) = some (toR m[i]) := by rw [hu, ix_nat]; simp [hlt']
    rw [if_pos (by rw [ht]; simpa using hlt), h1, h2, eqFrom_step hlt hlt']
    simp only [Option.bind_eq_bind, Option.bind_some, e, ih (i + 1) (by omega) (by omega)]
    show (if (!(eqP l[i] m[i])) = true then _ else _) = _
    cases eqP l[i] m[i] <;> simp
theorem wequal_eq (l m : List W_Piece) (hl : l.length ≤ 60) : slices_Equal_W_Piece_W_Piece l m = some (l.length == m.length && eqFrom l m 0) := by
  unfold slices_Equal_W_Piece_W_Piece
  by_cases hm : l.length = m.length
  · have h1 : (((l.length : Nat) : Int) != ((m.length : Nat) : Int)) = false := by simp [hm]
    have h2 : slices_Equal_W_Piece_W_Piece_l1 l m 0 = _ := wequal_l1 l m hl hm 0 (by omega)
    rw [h1, h2]
    cases eqFrom l m 0 <;> simp [hm]
  · have h1 : (((l.length : Nat) : Int) != ((m.length : Nat) : Int)) = true := by simp; omega
    have h3 : (l.length == m.length) = false := by simpa using hm
    rw [h1, h3]
    simp
def sameB (t u : W_Token) : Bool := (t.f_Kind == u.f_Kind) && (t.f_Text == u.f_Text) && (t.f_Number == u.f_Number) && ((t.f_Pieces.length == u.f_Pieces.length) && eqFrom t.f_Pieces u.f_Pieces 0)
theorem wsame_eq (t u : W_Token) (h : t.f_Pieces.length ≤ 60) : W_Same t u = some (sameB t u) := by
  unfold W_Same sameB
  simp only [wequal_eq _ _ h, Option.bind_eq_bind, Option.bind_some]
  cases t.f_Kind == u.f_Kind <;> cases t.f_Text == u.f_Text <;> cases t.f_Number == u.f_Number <;> simp
def ofT (t : W_Token) : R_Token := ⟨t.f_Kind, t.f_Text, t.f_Number, t.f_Pieces.map toR, t.f_At⟩
theorem of_eq (t : W_Token) (h : t.f_Pieces.length ≤ 60) : Law_Of t = some (ofT t) := by
  unfold Law_Of
  simp [pieces_eq _ h, ofT]
theorem rsame_eq (t u : W_Token) (h : t.f_Pieces.length ≤ 60) : R_Same (ofT t) (ofT u) = some (sameB t u) := by
  unfold R_Same sameB
  have hlen : (((ofT t).f_Pieces.length : Nat) : Int) != (((ofT u).f_Pieces.length : Nat) : Int) ↔ True ∧ t.f_Pieces.length ≠ u.f_Pieces.length := by
    simp [ofT]; omega
  show (do
    let x11 ← (if (t.f_Kind != u.f_Kind) = true then some true else some (t.f_Text != u.f_Text))
    let x14 ← (if x11 = true then some true else some (t.f_Number != u.f_Number))
    let x17 ← (if x14 = true then some true else some ((((ofT t).f_Pieces.length : Nat) : Int) != (((ofT u).f_Pieces.length : Nat) : Int)))
    if x17 = true then some false else do
      let o26 ← R_Same_l1 (ofT t) (ofT u) 0
      match o26 with
      | Sum.inl x29 => some true
      | Sum.inr x31 => some false) = _
  by_cases hm : t.f_Pieces.length = u.f_Pieces.length
  · have h2 : R_Same_l1 (ofT t) (ofT u) 0 = _ := rsame_l1 (ofT t) (ofT u) t.f_Pieces u.f_Pieces rfl rfl h hm 0 (by omega)
    have h1 : ((((ofT t).f_Pieces.length : Nat) : Int) != (((ofT u).f_Pieces.length : Nat) : Int)) = false := by simp [ofT, hm]
    have h3 : (t.f_Pieces.length == u.f_Pieces.length) = true := by simpa using hm
    rw [h1, h2, h3]
    simp only [bne]
    cases t.f_Kind == u.f_Kind <;> cases t.f_Text == u.f_Text <;> cases t.f_Number == u.f_Number <;> cases eqFrom t.f_Pieces u.f_Pieces 0 <;> simp
  · have h1 : ((((ofT t).f_Pieces.length : Nat) : Int) != (((ofT u).f_Pieces.length : Nat) : Int)) = true := by simp [ofT]; omega
    have h3 : (t.f_Pieces.length == u.f_Pieces.length) = false := by simpa using hm
    rw [h1, h3]
    simp only [bne]
    cases t.f_Kind == u.f_Kind <;> cases t.f_Text == u.f_Text <;> cases t.f_Number == u.f_Number <;> simp
theorem alive_true : Law_alive = some true := Law_alive_ns (n := 40) (by kernel_rfl)
/-- THE LAW, PLAIN. -/
theorem wordsPieces_true (l : List W_Piece) (t u : W_Token) : Law_WordsPieces l t u = some true := by
  unfold Law_WordsPieces
  rw [alive_true]
  obtain ⟨b1, h1, s1⟩ := long_eq l
  obtain ⟨b2, h2, s2⟩ := long_eq t.f_Pieces
  obtain ⟨b3, h3, s3⟩ := long_eq u.f_Pieces
  simp only [h1, h2, h3, Option.bind_eq_bind, Option.bind_some, Bool.not_true, Bool.false_eq_true, if_false]
  cases b1 with
  | true => simp
  | false =>
  cases b2 with
  | true => simp
  | false =>
  cases b3 with
  | true => simp
  | false =>
  have hs := s1 rfl
  have ht := (s2 rfl).1
  have hu := (s3 rfl).1
  obtain ⟨r, hr1, hr2⟩ := right_same l hs
  have hq := wquote_eq l hs hr1
  simp only [pieces_eq l hs.1, hr1, hr2, hq, of_eq t ht, of_eq u hu, wsame_eq t u ht, rsame_eq t u ht, Option.bind_eq_bind, Option.bind_some, Bool.false_eq_true, if_false]
  cases decide (((t.f_Text.length : Nat) : Int) > 200)
  · cases decide (((u.f_Text.length : Nat) : Int) > 200)
    · cases r with
      | false => simp
      | true =>
        have hw : WB false l = true := by
          have := wright_eq l hs
          rw [hr1] at this
          have := Option.some.inj this
          cases hh : WB false l
          · rw [hh] at this; simp at this
          · rfl
        simp [rquote_eq l hs hw]
    · simp
  · simp
end Go.Proofs.YtekcconmnhjhiaaDoor
