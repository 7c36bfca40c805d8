/-
  A small logic for memory: what is known of the heap and never written again (K), what the call owns (a list of atoms), and how both stand to a world. Plain theorems and definitions over any program.
-/
import Derived.WalkKit
import Derived.KernelRfl
import Derived.Laws.BytesArg
import Derived.Laws.BytesString
import Derived.Laws.Slices
import Derived.Lib.ConvBytes
import Derived.ScopeJumps
import Derived.Orders
set_option linter.unusedVariables false
set_option linter.unusedSimpArgs false
namespace Go.Proofs.YthjfnknhcmhmiaaDoor.Sl
open Go Go.RowKit

/-! ### 1. Pieces of heap -/
abbrev Hp := Nat → Option Obj
def Hp.le (h k : Hp) : Prop := ∀ g o, h g = some o → k g = some o
def Hp.disj (h k : Hp) : Prop := ∀ g, h g = none ∨ k g = none
def Hp.join (h k : Hp) : Hp := fun g => match h g with | some o => some o | none => k g
def Hp.single (g : Nat) (o : Obj) : Hp := fun k => if k = g then some o else none
def Hp.zero : Hp := fun _ => none
def hp (w : World) : Hp := fun g => w.heap[g]?

theorem Hp.le.refl (h : Hp) : h.le h := fun _ _ e => e
theorem Hp.le.trans {a b c : Hp} (h : a.le b) (k : b.le c) : a.le c := fun g o e => k g o (h g o e)
theorem Hp.le_join_left (h k : Hp) : h.le (h.join k) := fun g o e => by simp [Hp.join, e]
theorem Hp.le_join_right {h k : Hp} (d : h.disj k) : k.le (h.join k) := fun g o e => by
  rcases d g with hn | hn
  · simp [Hp.join, hn, e]
  · rw [hn] at e; cases e
theorem Hp.join_le {h k w : Hp} (a : h.le w) (b : k.le w) : (h.join k).le w := fun g o e => by
  simp only [Hp.join] at e
  cases hg : h g with
  | some x => rw [hg] at e; simp only at e; exact a g o (by rw [hg, e])
  | none => rw [hg] at e; exact b g o e
theorem Hp.disj.symm {h k : Hp} (d : h.disj k) : k.disj h := fun g => (d g).symm
theorem Hp.disj_join {a h k : Hp} (d : a.disj h) (e : a.disj k) : a.disj (h.join k) := fun g => by
  rcases d g with x | x
  · exact .inl x
  · rcases e g with y | y
    · exact .inl y
    · exact .inr (by simp [Hp.join, x, y])
theorem Hp.join_disj {a h k : Hp} (d : h.disj a) (e : k.disj a) : (h.join k).disj a := (Hp.disj_join d.symm e.symm).symm
theorem Hp.disj_of_le {a b c : Hp} (h : a.le b) (d : b.disj c) : a.disj c := fun g => by
  cases ha : a g with
  | none => exact .inl rfl
  | some o => exact .inr ((d g).resolve_left (by rw [h g o ha]; simp))
theorem Hp.single_self (g : Nat) (o : Obj) : Hp.single g o g = some o := by simp [Hp.single]
theorem Hp.single_other {g k : Nat} (o : Obj) (h : k ≠ g) : Hp.single g o k = none := by simp [Hp.single, h]
theorem Hp.single_le {g : Nat} {o : Obj} {h : Hp} : (Hp.single g o).le h ↔ h g = some o := by
  constructor
  · exact fun e => e g o (Hp.single_self g o)
  · intro e k p hk
    simp only [Hp.single] at hk
    split at hk
    · subst_vars; rw [e]; exact hk
    · cases hk
theorem Hp.zero_disj (h : Hp) : Hp.zero.disj h := fun _ => .inl rfl
theorem Hp.zero_le (h : Hp) : Hp.zero.le h := fun _ _ e => by cases e

/-! ### 2. Atoms -/
/-- What is owned: a predicate on what is known and on a piece of heap; it bears that more is known. -/
structure SP where
  p : Hp → Hp → Prop
  mono : ∀ {K K' h}, Hp.le K K' → p K h → p K' h

/-- A list of atoms, each over a piece of its own. -/
structure Sat (w0 w : World) (K : Hp) (L : List SP) : Prop where
  os : w.os = w0.os
  tape : w.tape = w0.tape
  output : w.output = w0.output
  know : Hp.le K (hp w)
  base : Hp.le (hp w0) K
  parts : ∃ f : Nat → Hp, (∀ (i : Nat) (A : SP), L[i]? = some A → A.p K (f i)) ∧ (∀ i j, i ≠ j → Hp.disj (f i) (f j)) ∧ (∀ i, Hp.disj K (f i)) ∧ (∀ i, Hp.le (f i) (hp w))

namespace SP
def emp : SP := ⟨fun _ h => ∀ g, h g = none, fun _ h => h⟩
def star (A B : SP) : SP := ⟨fun K h => ∃ h1 h2 : Hp, Hp.disj h1 h2 ∧ h = Hp.join h1 h2 ∧ A.p K h1 ∧ B.p K h2, fun k ⟨h1, h2, d, e, a, b⟩ => ⟨h1, h2, d, e, A.mono k a, B.mono k b⟩⟩
def ex {α : Type} (A : α → SP) : SP := ⟨fun K h => ∃ x, (A x).p K h, fun k ⟨x, a⟩ => ⟨x, (A x).mono k a⟩⟩
/-- a fact on what is known -/
def pure (φ : Hp → Prop) (m : ∀ {K K'}, Hp.le K K' → φ K → φ K') : SP := ⟨fun K h => (∀ g, h g = none) ∧ φ K, fun k ⟨a, b⟩ => ⟨a, m k b⟩⟩
/-- block g is just this -/
def blk (g : Nat) (t : TypeId) (cs : List Value) : SP := ⟨fun _ h => h = Hp.single g (.cells cs.toArray t (0, 0)), fun _ h => h⟩
def obj (g : Nat) (o : Obj) : SP := ⟨fun _ h => h = Hp.single g o, fun _ h => h⟩
end SP

namespace Sat
variable {w0 w w' : World} {K K' : Hp} {L L' : List SP} {A B : SP}

/-- The atoms in another order, or fewer. -/
theorem sub (h : Sat w0 w K L) (σ : Nat → Nat) (inj : ∀ i j, i < L'.length → j < L'.length → σ i = σ j → i = j) (hL : ∀ (i : Nat) (A : SP), L'[i]? = some A → L[σ i]? = some A) : Sat w0 w K L' := by
  obtain ⟨f, h1, h2, h3, h4⟩ := h.parts
  refine ⟨h.os, h.tape, h.output, h.know, h.base, fun i => if i < L'.length then f (σ i) else Hp.zero, ?_, ?_, ?_, ?_⟩
  · intro i A hA
    have hi := (List.getElem?_eq_some_iff.1 hA).1
    simp only [if_pos hi]
    exact h1 _ _ (hL i A hA)
  · intro i j hij
    by_cases hi : i < L'.length
    · by_cases hj : j < L'.length
      · simp only [if_pos hi, if_pos hj]
        exact h2 _ _ (fun e => hij (inj i j hi hj e))
      · simp only [if_neg hj]
        exact (Hp.zero_disj _).symm
    · simp only [if_neg hi]
      exact Hp.zero_disj _
  · intro i
    show Hp.disj K (if i < L'.length then f (σ i) else Hp.zero)
    split
    · exact h3 _
    · exact (Hp.zero_disj _).symm
  · intro i
    show Hp.le (if i < L'.length then f (σ i) else Hp.zero) _
    split
    · exact h4 _
    · exact Hp.zero_le _

theorem getElem?_eraseIdx_lt {α : Type} (L : List α) (i j : Nat) (h : j < i) : (L.eraseIdx i)[j]? = L[j]? := by
  rw [List.getElem?_eraseIdx]; simp [h]

/-- Atom i to the front. -/
theorem pull (h : Sat w0 w K L) (i : Nat) (hA : L[i]? = some A) (hL : L.eraseIdx i = L') : Sat w0 w K (A :: L') := by
  subst hL
  refine h.sub (fun j => if j = 0 then i else if j - 1 < i then j - 1 else j) ?_ ?_
  · intro a b _ _ e
    have e' : (if a = 0 then i else if a - 1 < i then a - 1 else a) = (if b = 0 then i else if b - 1 < i then b - 1 else b) := e
    revert e'
    (repeat' split) <;> omega
  · intro j B hB
    cases j with
    | zero => simp at hB; subst hB; simpa using hA
    | succ j =>
      simp only [List.getElem?_cons_succ, List.getElem?_eraseIdx] at hB
      simp only [Nat.add_one_sub_one, Nat.add_eq_zero_iff, Nat.succ_ne_zero, and_false, if_false]
      split at hB
      · rename_i hlt; rw [if_pos hlt]; exact hB
      · rename_i hlt; rw [if_neg hlt]; exact hB
theorem tail (h : Sat w0 w K (A :: L)) : Sat w0 w K L := h.sub (fun i => i + 1) (fun _ _ _ _ e => by omega) (fun i B hB => by simpa using hB)
theorem only (h : Sat w0 w K (A :: L)) : Sat w0 w K [A] := h.sub id (fun _ _ _ _ e => e) (fun i B hB => by cases i with | zero => simpa using hB | succ i => simp at hB)
theorem nil_ (h : Sat w0 w K L) : Sat w0 w K [] := h.sub id (fun _ _ _ _ e => e) (fun i B hB => by simp at hB)

/-- the first atom's piece and the others' -/
theorem split1 (h : Sat w0 w K (A :: L)) : ∃ a : Hp, A.p K a ∧ Hp.le a (hp w) ∧ Hp.disj K a ∧ ∃ f : Nat → Hp, (∀ (i : Nat) (A : SP), L[i]? = some A → A.p K (f i)) ∧ (∀ i j, i ≠ j → Hp.disj (f i) (f j)) ∧ (∀ i, Hp.disj K (f i)) ∧ (∀ i, Hp.le (f i) (hp w)) ∧ (∀ i, Hp.disj a (f i)) := by
  obtain ⟨f, h1, h2, h3, h4⟩ := h.parts
  exact ⟨f 0, h1 0 A rfl, h4 0, h3 0, fun i => f (i + 1), fun i B hB => h1 (i + 1) B (by simpa using hB), fun i j hij => h2 _ _ (by omega), fun i => h3 _, fun i => h4 _, fun i => h2 _ _ (by omega)⟩
theorem of_split {a : Hp} {f : Nat → Hp} (ho : w.os = w0.os) (ht : w.tape = w0.tape) (hu : w.output = w0.output) (hk : Hp.le K (hp w)) (hb : Hp.le (hp w0) K) (ha : A.p K a) (hl : Hp.le a (hp w)) (hd : Hp.disj K a)
    (h1 : ∀ (i : Nat) (A : SP), L[i]? = some A → A.p K (f i)) (h2 : ∀ i j, i ≠ j → Hp.disj (f i) (f j)) (h3 : ∀ i, Hp.disj K (f i)) (h4 : ∀ i, Hp.le (f i) (hp w)) (h5 : ∀ i, Hp.disj a (f i)) : Sat w0 w K (A :: L) :=
  ⟨ho, ht, hu, hk, hb, fun i => match i with | 0 => a | i + 1 => f i,
    fun i B hB => match i, hB with | 0, hB => by simp at hB; subst hB; exact ha | i + 1, hB => h1 i B (by simpa using hB),
    fun i j hij => match i, j, hij with | 0, 0, h => absurd rfl h | 0, j + 1, _ => h5 j | i + 1, 0, _ => (h5 i).symm | i + 1, j + 1, h => h2 i j (by omega),
    fun i => match i with | 0 => hd | i + 1 => h3 i,
    fun i => match i with | 0 => hl | i + 1 => h4 i⟩

/-- THE GENERAL STEP: what is behind the first atom changes, and fresh blocks come; all else stays. -/
theorem update (h : Sat w0 w K (A :: L)) (ho : w'.os = w.os) (ht : w'.tape = w.tape) (hu : w'.output = w.output)
    (hs : ∀ a : Hp, A.p K a → Hp.le a (hp w) → ∃ b : Hp, B.p K b ∧ Hp.le b (hp w') ∧ (∀ g, b g ≠ none → a g ≠ none ∨ hp w g = none) ∧ (∀ g, a g = none → ∀ o, hp w g = some o → hp w' g = some o)) : Sat w0 w' K (B :: L) := by
  obtain ⟨a, ha, hal, had, f, h1, h2, h3, h4, h5⟩ := h.split1
  obtain ⟨b, hb, hbl, hbf, hk⟩ := hs a ha hal
  have away : ∀ x : Hp, Hp.le x (hp w) → Hp.disj a x → Hp.disj b x := by
    intro x hx hax g
    rcases hax g with e | e
    · cases hbg : b g with
      | none => exact .inl rfl
      | some o =>
        rcases hbf g (by simp [hbg]) with e' | e'
        · exact absurd e e'
        · refine .inr ?_
          cases hxg : x g with
          | none => rfl
          | some o' => rw [hx g o' hxg] at e'; cases e'
    · exact .inr e
  have stay : ∀ x : Hp, Hp.le x (hp w) → Hp.disj a x → Hp.le x (hp w') := by
    intro x hx hax g o hg
    rcases hax g with e | e
    · exact hk g e o (hx g o hg)
    · rw [e] at hg; cases hg
  exact of_split (ho.trans h.os) (ht.trans h.tape) (hu.trans h.output) (stay K h.know had.symm) h.base hb hbl (away K h.know had.symm).symm h1 h2 h3 (fun i => stay _ (h4 i) (h5 i)) (fun i => away _ (h4 i) (h5 i))

/-- Nothing that was there changes. -/
theorem grow (h : Sat w0 w K L) (ho : w'.os = w.os) (ht : w'.tape = w.tape) (hu : w'.output = w.output) (hk : Hp.le (hp w) (hp w')) : Sat w0 w' K L := by
  obtain ⟨f, h1, h2, h3, h4⟩ := h.parts
  exact ⟨ho.trans h.os, ht.trans h.tape, hu.trans h.output, h.know.trans hk, h.base, f, h1, h2, h3, fun i => (h4 i).trans hk⟩

/-- A new piece. -/
theorem add (h : Sat w0 w K L) (ho : w'.os = w.os) (ht : w'.tape = w.tape) (hu : w'.output = w.output) (hk : Hp.le (hp w) (hp w')) (b : Hp) (hb : B.p K b) (hl : Hp.le b (hp w')) (hf : ∀ g, b g ≠ none → hp w g = none) : Sat w0 w' K (B :: L) := by
  obtain ⟨f, h1, h2, h3, h4⟩ := h.parts
  have away : ∀ x : Hp, Hp.le x (hp w) → Hp.disj b x := by
    intro x hx g
    cases hbg : b g with
    | none => exact .inl rfl
    | some o =>
      refine .inr ?_
      have := hf g (by simp [hbg])
      cases hxg : x g with
      | none => rfl
      | some o' => rw [hx g o' hxg] at this; cases this
  exact of_split (ho.trans h.os) (ht.trans h.tape) (hu.trans h.output) (h.know.trans hk) h.base hb hl (away K h.know).symm h1 h2 h3 (fun i => (h4 i).trans hk) (fun i => away _ (h4 i))

theorem swap (h : Sat w0 w K (A :: L)) (hs : ∀ a, A.p K a → B.p K a) : Sat w0 w K (B :: L) := by
  obtain ⟨a, ha, hal, had, f, h1, h2, h3, h4, h5⟩ := h.split1
  exact of_split h.os h.tape h.output h.know h.base (hs a ha) hal had h1 h2 h3 h4 h5
theorem open_star (h : Sat w0 w K (SP.star A B :: L)) : Sat w0 w K (A :: B :: L) := by
  obtain ⟨a, ⟨x, y, d, rfl, hx, hy⟩, hal, had, f, h1, h2, h3, h4, h5⟩ := h.split1
  have lx : Hp.le x (Hp.join x y) := Hp.le_join_left x y
  have ly : Hp.le y (Hp.join x y) := Hp.le_join_right d
  refine of_split h.os h.tape h.output h.know h.base hx (lx.trans hal) (Hp.disj_of_le lx had.symm).symm (f := fun i => match i with | 0 => y | i + 1 => f i) ?_ ?_ ?_ ?_ ?_
  · intro i B' hB
    cases i with
    | zero => simp at hB; subst hB; exact hy
    | succ i => exact h1 i B' (by simpa using hB)
  · intro i j hij
    match i, j, hij with
    | 0, 0, h => exact absurd rfl h
    | 0, j + 1, _ => exact Hp.disj_of_le ly (h5 j)
    | i + 1, 0, _ => exact (Hp.disj_of_le ly (h5 i)).symm
    | i + 1, j + 1, h => exact h2 i j (by omega)
  · intro i
    cases i with
    | zero => exact (Hp.disj_of_le ly had.symm).symm
    | succ i => exact h3 i
  · intro i
    cases i with
    | zero => exact ly.trans hal
    | succ i => exact h4 i
  · intro i
    cases i with
    | zero => exact d
    | succ i => exact Hp.disj_of_le lx (h5 i)
theorem fold_star (h : Sat w0 w K (A :: B :: L)) : Sat w0 w K (SP.star A B :: L) := by
  obtain ⟨a, ha, hal, had, f, h1, h2, h3, h4, h5⟩ := h.split1
  refine of_split (a := Hp.join a (f 0)) (f := fun i => f (i + 1)) h.os h.tape h.output h.know h.base ⟨a, f 0, h5 0, rfl, ha, h1 0 B rfl⟩ (Hp.join_le hal (h4 0)) (Hp.disj_join had (h3 0)) (fun i A' hA => h1 (i + 1) A' (by simpa using hA)) (fun i j hij => h2 _ _ (by omega)) (fun i => h3 _) (fun i => h4 _) (fun i => Hp.join_disj (h5 _) (h2 _ _ (by omega)))
theorem open_ex {α : Type} {A : α → SP} (h : Sat w0 w K (SP.ex A :: L)) : ∃ x, Sat w0 w K (A x :: L) := by
  obtain ⟨a, ⟨x, ha⟩, hal, had, f, h1, h2, h3, h4, h5⟩ := h.split1
  exact ⟨x, of_split h.os h.tape h.output h.know h.base ha hal had h1 h2 h3 h4 h5⟩
theorem fold_ex {α : Type} {A : α → SP} (x : α) (h : Sat w0 w K (A x :: L)) : Sat w0 w K (SP.ex A :: L) := h.swap fun _ ha => ⟨x, ha⟩
theorem open_pure {φ : Hp → Prop} {m} (h : Sat w0 w K (SP.pure φ m :: L)) : φ K ∧ Sat w0 w K L := by
  obtain ⟨a, ⟨_, hφ⟩, _⟩ := h.split1
  exact ⟨hφ, h.tail⟩
theorem fold_pure {φ : Hp → Prop} {m} (h : Sat w0 w K L) (hφ : φ K) : Sat w0 w K (SP.pure φ m :: L) :=
  h.add rfl rfl rfl (Hp.le.refl _) Hp.zero ⟨fun _ => rfl, hφ⟩ (Hp.zero_le _) (fun g hg => absurd rfl hg)

/-- What is owned becomes known: nobody writes it any more. -/
theorem keep (h : Sat w0 w K (A :: L)) : ∃ a : Hp, A.p K a ∧ Hp.le a (hp w) ∧ Hp.disj K a ∧ Hp.le K (Hp.join K a) ∧ Hp.le a (Hp.join K a) ∧ Sat w0 w (Hp.join K a) L := by
  obtain ⟨a, ha, hal, had, f, h1, h2, h3, h4, h5⟩ := h.split1
  refine ⟨a, ha, hal, had, Hp.le_join_left K a, Hp.le_join_right had, h.os, h.tape, h.output, Hp.join_le h.know hal, h.base.trans (Hp.le_join_left K a), f, fun i A' hA => A'.mono (Hp.le_join_left K a) (h1 i A' hA), h2, fun i => Hp.join_disj (h3 i) (h5 i), h4⟩

end Sat
end Go.Proofs.YthjfnknhcmhmiaaDoor.Sl
