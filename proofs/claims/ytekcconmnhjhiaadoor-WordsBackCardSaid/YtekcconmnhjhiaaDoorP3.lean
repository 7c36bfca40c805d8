/-
  The plain law of chapter 30, third part: what is quoted.
-/
import Derived.Test.YtekcconmnhjhiaaDoorP2
set_option linter.unusedVariables false
set_option linter.unusedSimpArgs false
set_option maxRecDepth 10000
namespace Go.Proofs.YtekcconmnhjhiaaDoor
open Go Go.RowKit Sl

def hexs : List UInt8 := [48, 49, 50, 51, 52, 53, 54, 55, 56, 57, 97, 98, 99, 100, 101, 102]
def toldB (c : UInt8) (plain : Bool) : List UInt8 :=
  if c = 10 then [92, 110] else if c = 13 then [92, 114] else if c = 9 then [92, 116]
  else if c = 34 ∨ c = 36 ∨ c = 92 then [92, c]
  else if plain = true ∧ 32 ≤ c ∧ c ≤ 126 then [c] else [92, 120, hexs.getD (c.toNat / 16) 0, hexs.getD (c.toNat % 16) 0]
theorem toldB_len (c : UInt8) (p : Bool) : (toldB c p).length ≤ 4 := by
  unfold toldB; (repeat' split) <;> simp
theorem req_yes {p : Prop} [Decidable p] (h : p) : req p = some () := by unfold req; rw [if_pos h]
theorem shr8_4 (c : UInt8) : (shr8 c 4).toNat = c.toNat / 16 := by
  have := c.toNat_lt
  unfold shr8
  rw [UInt8.toNat_ofNat_of_lt' (by simp [UInt8.size]; omega)]
theorem and_15 (c : UInt8) : (c &&& 15).toNat = c.toNat % 16 := by
  rw [UInt8.toNat_and]
  exact Nat.and_two_pow_sub_one_eq_mod c.toNat 4
theorem hex_at (n : Nat) (h : n < 16) : ix hexs (n : Int) = some (hexs.getD n 0) := by
  rw [ix_nat, List.getElem?_eq_getElem (by simpa [hexs] using h), List.getD_eq_getElem?_getD, List.getElem?_eq_getElem (by simpa [hexs] using h)]
  rfl
theorem told_eq (c : UInt8) (p : Bool) : W_told c p = some (toldB c p) := by
  have hc := c.toNat_lt
  unfold W_told toldB
  have h1 : ix ([48, 49, 50, 51, 52, 53, 54, 55, 56, 57, 97, 98, 99, 100, 101, 102] : List UInt8) (b8 (shr8 c 4)) = some (hexs.getD (c.toNat / 16) 0) := by
    have := hex_at (c.toNat / 16) (by omega)
    simp only [b8, shr8_4]
    exact this
  have h2 : ix ([48, 49, 50, 51, 52, 53, 54, 55, 56, 57, 97, 98, 99, 100, 101, 102] : List UInt8) (b8 (c &&& 15)) = some (hexs.getD (c.toNat % 16) 0) := by
    have := hex_at (c.toNat % 16) (by omega)
    simp only [b8, and_15]
    exact this
  by_cases a1 : c = 10
  · simp [a1]
  by_cases a2 : c = 13
  · simp [a2]
  by_cases a3 : c = 9
  · simp [a3]
  by_cases a4 : c = 34
  · simp [a4]
  by_cases a5 : c = 36
  · simp [a5]
  by_cases a6 : c = 92
  · simp [a6]
  simp only [h1, h2, a1, a2, a3, a4, a5, a6, beq_iff_eq, if_false, Option.bind_eq_bind, Option.bind_some, or_self]
  cases p <;> by_cases a7 : 32 ≤ c <;> by_cases a8 : c ≤ 126 <;> simp [a7, a8, a4, a5, a6, req, h1, h2]
/-- a literal's text; f: it may not begin with what goes on in a name -/
def litQ : Bool → List UInt8 → List UInt8
  | _, [] => []
  | f, c :: r => toldB c (!(f && goesB c)) ++ litQ false r
theorem litQ_len (s : List UInt8) : ∀ f, (litQ f s).length ≤ 4 * s.length := by
  induction s with
  | nil => intro f; simp [litQ]
  | cons c r ih =>
    intro f
    have := toldB_len c (!(f && goesB c))
    have := ih false
    simp only [litQ, List.length_append, List.length_cons]
    omega
theorem write_eq (x y : List UInt8) (h : x.length + y.length ≤ 100000000) : strings_Builder_WriteString x y = some (((y.length : Nat) : Int), none, x ++ y) := by
  unfold strings_Builder_WriteString strings_Builder_copyCheck
  simp only [Option.bind_eq_bind, Option.bind_some]
  rw [req_yes (by omega)]
  rfl
theorem byte_eq (x : List UInt8) (c : UInt8) (h : x.length ≤ 100000000) : strings_Builder_WriteByte x c = some (none, x ++ [c]) := by
  unfold strings_Builder_WriteByte strings_Builder_copyCheck
  simp only [Option.bind_eq_bind, Option.bind_some]
  rw [req_yes (by simp; omega)]
  rfl
theorem wquote_l2 (e : W_Piece) (f : Bool) (hl : e.f_Lit.length ≤ 500) : ∀ (j : Nat) (acc : List UInt8), j ≤ e.f_Lit.length → acc.length + 4 * (e.f_Lit.length - j) ≤ 100000000 → W_Quote_l2 e f (j : Int) acc = some (acc ++ litQ (f && decide (j = 0)) (e.f_Lit.drop j)) := by
  intro j acc hj hb
  induction h : e.f_Lit.length - j generalizing j acc with
  | zero =>
    have : j = e.f_Lit.length := by omega
    subst this
    rw [W_Quote_l2]
    simp [litQ]
  | succ n ih =>
    have hlt : j < e.f_Lit.length := by omega
    rw [W_Quote_l2]
    have e1 : w64 ((j : Int) + 1) = ((j + 1 : Nat) : Int) := by rw [w64_id (by omega) (by omega)]; rfl
    rw [if_pos (by simpa using hlt), ix_lt hlt]
    have hp : ∀ K : Bool → Option (List UInt8), ((do
        let x106 ← (if (!f) = true then some true else some (decide ((j : Int) > 0)))
        let x110 ← (if x106 = true then some true else do
          let y113 ← W_goes e.f_Lit[j]
          some (!y113))
        K x110) : Option (List UInt8)) = K (!((f && decide (j = 0)) && goesB e.f_Lit[j])) := by
      intro K
      simp only [goes_eq, Option.bind_eq_bind, Option.bind_some]
      by_cases h0 : j = 0
      · subst h0; cases f <;> simp
      · have : decide ((j : Int) > 0) = true := by simp; omega
        rw [this]; cases f <;> simp [h0]
    have := hp (fun x110 => do
      let y116 ← W_told e.f_Lit[j] x110
      let y119 ← strings_Builder_WriteString acc y116
      W_Quote_l2 e f (w64 ((j : Int) + 1)) y119.2.2)
    refine Eq.trans this ?_
    have hlen := toldB_len e.f_Lit[j] (!((f && decide (j = 0)) && goesB e.f_Lit[j]))
    simp only [told_eq, Option.bind_eq_bind, Option.bind_some]
    rw [write_eq _ _ (by omega)]
    simp only [Option.bind_some, e1]
    rw [ih (j + 1) _ (by omega) (by rw [List.length_append]; omega) (by omega)]
    rw [List.drop_eq_getElem_cons hlt]
    simp [litQ]
/-- the text between the quotes; f: what came last was a name that a letter or '_' begins -/
def bodyQ : Bool → List W_Piece → List UInt8
  | _, [] => []
  | f, x :: r => if x.f_Var ≠ [] then 36 :: x.f_Var ++ bodyQ (letterB (x.f_Var.headD 0)) r else litQ f x.f_Lit ++ bodyQ false r
theorem wquote_l1 (l : List W_Piece) (hs : Small l) : ∀ (i : Nat) (f : Bool) (acc : List UInt8), i ≤ l.length → acc.length + 2001 * (l.length - i) ≤ 10000000 → W_Quote_l1 l (i : Int) f acc = some (acc ++ bodyQ f (l.drop i)) := by
  intro i f acc hi hb
  have hlen := hs.1
  induction h : l.length - i generalizing i f acc with
  | zero =>
    have : i = l.length := by omega
    subst this
    rw [W_Quote_l1]
    simp [bodyQ]
  | succ n ih =>
    have hlt : i < l.length := by omega
    rw [W_Quote_l1]
    have e : w64 ((i : Int) + 1) = ((i + 1 : Nat) : Int) := by rw [w64_id (by omega) (by omega)]; rfl
    rw [if_pos (by simpa using hlt), ix_lt hlt]
    have hx := hs.2 l[i] (List.getElem_mem hlt)
    rw [List.drop_eq_getElem_cons hlt]
    simp only [bodyQ, Option.bind_eq_bind, Option.bind_some]
    by_cases hv : l[i].f_Var = []
    · rw [if_neg (by simp [hv]), if_neg (by simp [hv])]
      rw [req_yes (by omega)]
      have h2 : W_Quote_l2 l[i] f 0 acc = some (acc ++ litQ f l[i].f_Lit) := by
        have := wquote_l2 l[i] f hx.2 0 acc (by omega) (by omega)
        simpa using this
      simp only [Option.bind_some, h2, e]
      have := litQ_len l[i].f_Lit f
      rw [ih (i + 1) _ _ (by omega) (by rw [List.length_append]; omega) (by omega)]
      simp
    · rw [if_pos (by simp [hv]), if_pos hv]
      have h1 : 1 ≤ l[i].f_Var.length := by
        cases hq : l[i].f_Var with
        | nil => exact absurd hq hv
        | cons a b => simp
      rw [req_yes (by simp; omega)]
      simp only [Option.bind_some]
      rw [write_eq _ _ (by simp; omega)]
      have h0 : ix l[i].f_Var 0 = some (l[i].f_Var.headD 0) := by
        cases hq : l[i].f_Var with
        | nil => exact absurd hq hv
        | cons a b => rfl
      simp only [Option.bind_some, h0, begins_eq, e]
      rw [ih (i + 1) _ _ (by omega) (by simp; omega) (by omega)]
      simp
theorem bodyQ_len (l : List W_Piece) (h : ∀ x ∈ l, x.f_Var.length ≤ 100 ∧ x.f_Lit.length ≤ 500) : ∀ f, (bodyQ f l).length ≤ 2001 * l.length := by
  induction l with
  | nil => intro f; simp [bodyQ]
  | cons x r ih =>
    intro f
    have hx := h x List.mem_cons_self
    have ih' := ih (fun y hy => h y (List.mem_cons_of_mem _ hy))
    simp only [bodyQ]
    split
    · have := ih' (letterB (x.f_Var.headD 0))
      simp only [List.cons_append, List.length_cons, List.length_append]; omega
    · have := ih' false
      have := litQ_len x.f_Lit f
      simp only [List.length_append, List.length_cons]; omega
def quoteB (l : List W_Piece) : List UInt8 := 34 :: bodyQ false l ++ [34]
theorem wquote_eq (l : List W_Piece) (hs : Small l) {r : Bool} (hr : W_Right l = some r) : W_Quote l = some (if r then quoteB l else []) := by
  unfold W_Quote
  rw [hr]
  cases r with
  | false => simp
  | true =>
    have hlen := hs.1
    have hbl := bodyQ_len l hs.2 false
    have h1 : W_Quote_l1 l 0 false [34] = some ([34] ++ bodyQ false l) := by
      have := wquote_l1 l hs 0 false [34] (by omega) (by simp; omega)
      simpa using this
    simp only [Option.bind_eq_bind, Option.bind_some, Bool.not_true, Bool.false_eq_true, if_false]
    rw [byte_eq [] 34 (by simp)]
    simp only [Option.bind_some, List.nil_append, h1]
    rw [byte_eq _ 34 (by simp; omega)]
    simp [strings_Builder_String, quoteB]
end Go.Proofs.YtekcconmnhjhiaaDoor
