/-
  The plain law of chapter 30, second part: when pieces are right, and what is too long.
-/
import Derived.Test.YtekcconmnhjhiaaDoorP1
set_option linter.unusedVariables false
set_option linter.unusedSimpArgs false
set_option maxRecDepth 10000
namespace Go.Proofs.YtekcconmnhjhiaaDoor
open Go Go.RowKit Sl

/-- pieces of a bearable size -/
def Small (l : List W_Piece) : Prop := l.length ≤ 60 ∧ ∀ x ∈ l, x.f_Var.length ≤ 100 ∧ x.f_Lit.length ≤ 500
def badW (p : Bool) (x : W_Piece) : Bool := (x.f_Var != [] && (x.f_Lit != [] || !namedB x.f_Var)) || (x.f_Var == [] && (x.f_Lit == [] || p))
def WB : Bool → List W_Piece → Bool
  | _, [] => true
  | p, x :: r => !badW p x && WB (x.f_Var == []) r
def prevW (l : List W_Piece) (i : Nat) : Bool := decide (0 < i) && (l[i - 1]?).any fun x => x.f_Var == []
theorem prevW_succ {l : List W_Piece} {i : Nat} (h : i < l.length) : prevW l (i + 1) = (l[i].f_Var == []) := by simp [prevW, h]
theorem prevW_get {l : List W_Piece} {i : Nat} (h0 : 0 < i) (h : i ≤ l.length) : ∃ x, l[i - 1]? = some x ∧ prevW l i = (x.f_Var == []) := by
  have : i - 1 < l.length := by omega
  exact ⟨l[i - 1], by simp [this], by simp [prevW, h0, this]⟩
theorem wright_l1 (l : List W_Piece) (hs : Small l) : ∀ i : Nat, i ≤ l.length → W_Right_l1 l (i : Int) = some (if WB (prevW l i) (l.drop i) then .inl () else .inr ()) := by
  intro i hi
  have hlen := hs.1
  induction h : l.length - i generalizing i with
  | zero =>
    have : i = l.length := by omega
    subst this
    rw [W_Right_l1]
    simp [WB]
  | succ n ih =>
    have hlt : i < l.length := by omega
    rw [W_Right_l1]
    have e : w64 ((i : Int) + 1) = ((i + 1 : Nat) : Int) := by rw [w64_id (by omega) (by omega)]; rfl
    rw [if_pos (by simpa using hlt), ix_lt hlt]
    have hx := hs.2 l[i] (List.getElem_mem hlt)
    have ih' := ih (i + 1) (by omega) (by omega)
    rw [prevW_succ hlt] at ih'
    rw [List.drop_eq_getElem_cons hlt]
    simp only [WB, badW, Option.bind_eq_bind, Option.bind_some, wnamed_eq _ (show l[i].f_Var.length ≤ 4611686018427387904 by omega), e, ih']
    have hprev : (if decide ((i : Int) > 0) = true then (do
        let e49 ← ix l (w64 ((i : Int) - 1))
        some (e49.f_Var == ([] : List UInt8))) else some false) = some (prevW l i) := by
      by_cases h0 : 0 < i
      · obtain ⟨x, hx1, hx2⟩ := prevW_get h0 hi
        have e2 : w64 ((i : Int) - 1) = ((i - 1 : Nat) : Int) := by rw [w64_id (by omega) (by omega)]; omega
        rw [if_pos (by simpa using h0), e2, ix_nat, hx1, hx2]
        rfl
      · rw [if_neg (by simpa using h0)]
        simp [prevW, h0]
    simp only [Option.bind_eq_bind] at hprev
    rw [hprev]
    clear ih' hx hprev
    by_cases hA : l[i].f_Var = [] <;> by_cases hB : l[i].f_Lit = []
    · simp [hA, hB]
    · cases prevW l i <;> simp [hA, hB]
    · simp [hA, hB]
      cases namedB l[i].f_Var <;> simp
    · simp [hA, hB]
/-! too long -/
theorem index_l1 (l : List W_Piece) (hl : l.length ≤ 60) (p : W_Piece → Option Bool) (q : W_Piece → Bool) (hp : ∀ x, p x = some (q x)) : ∀ i : Nat, i ≤ l.length → ((l.drop i).any q = true → ∃ j : Nat, slices_IndexFunc_W_Piece_W_Piece_l1 l p (i : Int) = some (.inr (j : Int))) ∧ ((l.drop i).any q = false → slices_IndexFunc_W_Piece_W_Piece_l1 l p (i : Int) = some (.inl ())) := by
  intro i hi
  induction h : l.length - i generalizing i with
  | zero =>
    have : i = l.length := by omega
    subst this
    rw [slices_IndexFunc_W_Piece_W_Piece_l1]
    simp
  | succ n ih =>
    have hlt : i < l.length := by omega
    rw [slices_IndexFunc_W_Piece_W_Piece_l1]
    have e : w64 ((i : Int) + 1) = ((i + 1 : Nat) : Int) := by rw [w64_id (by omega) (by omega)]; rfl
    rw [if_pos (by simpa using hlt), ix_lt hlt]
    have ih' := ih (i + 1) (by omega) (by omega)
    rw [List.drop_eq_getElem_cons hlt, List.any_cons]
    simp only [Option.bind_eq_bind, Option.bind_some, hp, e]
    cases q l[i]
    · simpa using ih'
    · exact ⟨fun _ => ⟨i, by simp⟩, fun h => by simp at h⟩
theorem fits_eq (l : List W_Piece) (hl : l.length ≤ 60) : W_fits l = some (decide (l.length ≤ 40) && !l.any fun x => decide (x.f_Lit.length > 400)) := by
  unfold W_fits slices_ContainsFunc_W_Piece_W_Piece slices_IndexFunc_W_Piece_W_Piece
  have hp : ∀ x, W_fits_1 x = some (decide (x.f_Lit.length > 400)) := fun x => by
    unfold W_fits_1
    congr 2
    rw [eq_iff_iff]; omega
  have h := index_l1 l hl W_fits_1 _ hp 0 (by omega)
  rw [List.drop_zero] at h
  have e0 : ((0 : Nat) : Int) = 0 := rfl
  rw [e0] at h
  by_cases h40 : l.length ≤ 40
  · have : decide ((l.length : Int) ≤ 40) = true := by simp; omega
    rw [this, decide_eq_true h40]
    cases ha : l.any fun x => decide (x.f_Lit.length > 400)
    · simp [h.2 ha]
    · obtain ⟨j, hj⟩ := h.1 ha
      simp [hj]
  · have : decide ((l.length : Int) ≤ 40) = false := by simp; omega
    rw [this, decide_eq_false h40]
    simp
theorem wright_eq (l : List W_Piece) (hs : Small l) : W_Right l = some (WB false l && (decide (l.length ≤ 40) && !l.any fun x => decide (x.f_Lit.length > 400))) := by
  unfold W_Right
  have h : W_Right_l1 l 0 = _ := wright_l1 l hs 0 (by omega)
  rw [h, show prevW l 0 = false from rfl, List.drop_zero]
  cases WB false l
  · simp
  · simp [fits_eq l hs.1]
/-! the reference's -/
def toR (x : W_Piece) : R_Piece := ⟨x.f_Var, x.f_Lit⟩
def badR (p : Bool) (x : R_Piece) : Bool := (decide (x.f_Var.length > 0) == decide (x.f_Lit.length > 0)) || (decide (x.f_Var.length > 0) && !namedB x.f_Var) || decide (x.f_Lit.length > 400) || (decide (x.f_Lit.length > 0) && p)
def RB : Bool → List R_Piece → Bool
  | _, [] => true
  | p, x :: r => !badR p x && RB (decide (x.f_Lit.length > 0)) r
def prevR (l : List R_Piece) (i : Nat) : Bool := decide (0 < i) && (l[i - 1]?).any fun x => decide (x.f_Lit.length > 0)
theorem prevR_succ {l : List R_Piece} {i : Nat} (h : i < l.length) : prevR l (i + 1) = decide (l[i].f_Lit.length > 0) := by simp [prevR, h]
theorem prevR_get {l : List R_Piece} {i : Nat} (h0 : 0 < i) (h : i ≤ l.length) : ∃ x, l[i - 1]? = some x ∧ prevR l i = decide (x.f_Lit.length > 0) := by
  have : i - 1 < l.length := by omega
  exact ⟨l[i - 1], by simp [this], by simp [prevR, h0, this]⟩
def SmallR (l : List R_Piece) : Prop := l.length ≤ 60 ∧ ∀ x ∈ l, x.f_Var.length ≤ 100 ∧ x.f_Lit.length ≤ 500
theorem idec {n m : Nat} : decide ((n : Int) > (m : Int)) = decide (n > m) := by
  rw [decide_eq_decide]; omega
theorem rright_l1 (l : List R_Piece) (hs : SmallR l) : ∀ i : Nat, i ≤ l.length → R_Right_l1 l (i : Int) = some (if RB (prevR l i) (l.drop i) then .inl () else .inr ()) := by
  intro i hi
  have hlen := hs.1
  induction h : l.length - i generalizing i with
  | zero =>
    have : i = l.length := by omega
    subst this
    rw [R_Right_l1]
    simp [RB]
  | succ n ih =>
    have hlt : i < l.length := by omega
    rw [R_Right_l1]
    have e : w64 ((i : Int) + 1) = ((i + 1 : Nat) : Int) := by rw [w64_id (by omega) (by omega)]; rfl
    rw [if_pos (by simpa using hlt), ix_lt hlt]
    have hx := hs.2 l[i] (List.getElem_mem hlt)
    have ih' := ih (i + 1) (by omega) (by omega)
    rw [prevR_succ hlt] at ih'
    rw [List.drop_eq_getElem_cons hlt]
    have c0 : ∀ n : Nat, decide ((n : Int) > 0) = decide (n > 0) := fun n => idec (m := 0)
    have c4 : ∀ n : Nat, decide ((n : Int) > 400) = decide (n > 400) := fun n => idec (m := 400)
    simp only [RB, badR, Option.bind_eq_bind, Option.bind_some, rnamed_eq _ (show l[i].f_Var.length ≤ 4611686018427387904 by omega), e, ih', c0, c4]
    by_cases h0 : 0 < i
    · obtain ⟨x, hx1, hx2⟩ := prevR_get h0 hi
      have e2 : w64 ((i : Int) - 1) = ((i - 1 : Nat) : Int) := by rw [w64_id (by omega) (by omega)]; omega
      rw [e2, ix_nat, hx1, hx2]
      simp only [Option.bind_some, c0, h0, gt_iff_lt, decide_true, if_true]
      generalize decide (0 < l[i].f_Var.length) = a
      generalize decide (0 < l[i].f_Lit.length) = b
      generalize decide (400 < l[i].f_Lit.length) = c
      generalize namedB l[i].f_Var = d
      generalize decide (0 < x.f_Lit.length) = f
      cases a <;> cases b <;> cases c <;> cases d <;> cases f <;> simp
    · have hp : prevR l i = false := by simp [prevR, h0]
      rw [hp]
      simp only [gt_iff_lt, h0, decide_false, Bool.false_eq_true, if_false, Option.bind_some]
      generalize decide (0 < l[i].f_Var.length) = a
      generalize decide (0 < l[i].f_Lit.length) = b
      generalize decide (400 < l[i].f_Lit.length) = c
      generalize namedB l[i].f_Var = d
      cases a <;> cases b <;> cases c <;> cases d <;> simp
theorem rright_eq (l : List R_Piece) (hs : SmallR l) : R_Right l = some (RB false l && decide (l.length ≤ 40)) := by
  unfold R_Right
  have h : R_Right_l1 l 0 = _ := rright_l1 l hs 0 (by omega)
  rw [h, show prevR l 0 = false from rfl, List.drop_zero]
  have c40 : decide ((l.length : Int) ≤ 40) = decide (l.length ≤ 40) := by rw [decide_eq_decide]; omega
  cases RB false l
  · simp
  · simp [c40]
theorem WB_RB (l : List W_Piece) : ∀ p : Bool, (WB p l && !l.any fun x => decide (x.f_Lit.length > 400)) = RB p (l.map toR) := by
  induction l with
  | nil => intro p; rfl
  | cons x r ih =>
    intro p
    simp only [WB, RB, List.map_cons, List.any_cons, badW, badR, toR]
    rw [← ih]
    obtain ⟨a, b⟩ := x
    cases a with
    | nil =>
      cases b with
      | nil => simp
      | cons b0 b =>
        simp
        cases p <;> simp
        generalize decide (400 < b.length + 1) = c
        cases c <;> simp
    | cons a0 a =>
      cases b with
      | nil =>
        have n0 : (a0 :: a != []) = true := rfl
        have n1 : (a0 :: a == []) = false := rfl
        simp [n0, n1, Bool.and_assoc]
      | cons b0 b => simp
theorem right_same (l : List W_Piece) (hs : Small l) : ∃ r, W_Right l = some r ∧ R_Right (l.map toR) = some r := by
  have hr : SmallR (l.map toR) := ⟨by simpa using hs.1, fun y hy => by
    obtain ⟨x, hx, rfl⟩ := List.mem_map.1 hy
    exact hs.2 x hx⟩
  refine ⟨_, wright_eq l hs, ?_⟩
  rw [rright_eq _ hr, ← WB_RB, List.length_map]
  cases WB false l <;> cases decide (l.length ≤ 40) <;> simp
end Go.Proofs.YtekcconmnhjhiaaDoor
