/-
  Chapter 36: the plain law of RawEvents, its end.
-/
import Derived.Test.YthjfnknhcmhmiaaDoorP4
set_option linter.unusedVariables false
set_option linter.unusedSimpArgs false
set_option maxRecDepth 10000
namespace Go.Proofs.YthjfnknhcmhmiaaDoor
open Go Go.RowKit Sl

theorem both_l1 (a b : List Int) (ha : a.length ≤ 1000000) (hab : a.length = b.length) : ∀ (r s : List Int) (i : Nat), a.drop i = r → b.drop i = s → i ≤ a.length → slices_Equal_int_int_l1 a b (i : Int) = some (if r = s then Sum.inl () else Sum.inr ()) ∧ Num_SameInts_l1 a b (i : Int) = some (if r = s then Sum.inl () else Sum.inr ())
  | [], s, i, h, h', hi => by
    have := drop_len h hi
    have hs : s = [] := by
      have h2 := drop_len h' (by omega)
      rw [List.length_nil] at this
      apply List.eq_nil_of_length_eq_zero; omega
    subst hs
    constructor
    · rw [slices_Equal_int_int_l1, if_neg (by simp at this ⊢; omega)]; rfl
    · rw [Num_SameInts_l1, if_neg (by simp at this ⊢; omega)]; rfl
  | m :: r, s, i, h, h', hi => by
    have hl := drop_lt h
    obtain ⟨q, s, rfl⟩ : ∃ q s', s = q :: s' := by
      cases s with
      | nil => have := drop_len h' (by omega); simp at this; omega
      | cons q s => exact ⟨q, s, rfl⟩
    obtain ⟨h1, h2⟩ := both_l1 a b ha hab r s (i + 1) (drop_next h) (drop_next h') (by omega)
    constructor
    · rw [slices_Equal_int_int_l1, if_pos (by simpa using hl), obind (ix_drop h), obind (ix_drop h'), w64_succ (by omega), h1]
      by_cases e : m = q
      · subst e; simp
      · simp [e]
    · rw [Num_SameInts_l1, if_pos (by simpa using hl), obind (ix_drop h), obind (ix_drop h'), w64_succ (by omega), h2]
      by_cases e : m = q
      · subst e; simp
      · simp [e]
theorem both_ints (a b : List Int) (ha : a.length ≤ 1000000) : slices_Equal_int_int a b = some (decide (a = b)) ∧ Num_SameInts a b = some (decide (a = b)) := by
  by_cases hl : a.length = b.length
  · obtain ⟨h1, h2⟩ := both_l1 a b ha hl _ _ 0 rfl rfl (by omega)
    have h1' : slices_Equal_int_int_l1 a b 0 = some (if a = b then Sum.inl () else Sum.inr ()) := h1
    have h2' : Num_SameInts_l1 a b 0 = some (if a = b then Sum.inl () else Sum.inr ()) := h2
    constructor
    · unfold slices_Equal_int_int
      rw [if_neg (by simp; omega), obind h1']
      by_cases e : a = b <;> simp [e]
    · unfold Num_SameInts
      rw [if_neg (by simp; omega), obind h2']
      by_cases e : a = b <;> simp [e]
  · have hne : ¬ a = b := fun e => hl (by rw [e])
    constructor
    · unfold slices_Equal_int_int
      rw [if_pos (by simp; omega)]; simp [hne]
    · unfold Num_SameInts
      rw [if_pos (by simp; omega)]; simp [hne]
theorem same_eq (a b : raw_Event) (ha : Small a) : ∃ r, raw_Same a b = some r ∧ R_Same ⟨a.f_Kind, a.f_N, a.f_Bytes, a.f_Marks⟩ ⟨b.f_Kind, b.f_N, b.f_Bytes, b.f_Marks⟩ = some r := by
  obtain ⟨h1, h2⟩ := both_ints a.f_Marks b.f_Marks (by have := ha.2; omega)
  refine ⟨a.f_Kind == b.f_Kind && a.f_N == b.f_N && a.f_Bytes == b.f_Bytes && decide (a.f_Marks = b.f_Marks), ?_, ?_⟩
  · unfold raw_Same bytes_Equal
    rw [oif]
    by_cases e1 : a.f_Kind = b.f_Kind ∧ a.f_N = b.f_N
    · rw [if_pos (by simp [e1]), osome, osome]
      by_cases e2 : a.f_Bytes = b.f_Bytes
      · rw [if_pos (by simp [e2]), obind h1, osome]; simp [e1, e2]
      · rw [if_neg (by simp [e2])]; simp [e2]
    · rw [if_neg (by
        intro g; apply e1
        by_cases q : a.f_Kind = b.f_Kind
        · rw [if_pos (by simp [q])] at g; exact ⟨q, by simpa using g⟩
        · rw [if_neg (by simp [q])] at g; cases g)]
      have : (a.f_Kind == b.f_Kind && a.f_N == b.f_N) = false := by
        rw [Bool.eq_false_iff]; intro g; apply e1; simpa using g
      rw [this]; rfl
  · unfold R_Same
    dsimp only
    rw [oif]
    by_cases e1 : a.f_Kind = b.f_Kind ∧ a.f_N = b.f_N
    · rw [if_pos (by simp [e1]), osome]
      by_cases e2 : a.f_Bytes = b.f_Bytes
      · rw [if_pos (by simp [e2]), obind h2, osome]; simp [e1, e2]
      · rw [if_neg (by simp [e2])]; simp [e2]
    · rw [if_neg (by
        intro g; apply e1
        by_cases q : a.f_Kind = b.f_Kind
        · rw [if_pos (by simp [q])] at g; exact ⟨q, by simpa using g⟩
        · rw [if_neg (by simp [q])] at g; cases g)]
      have : (a.f_Kind == b.f_Kind && a.f_N == b.f_N) = false := by
        rw [Bool.eq_false_iff]; intro g; apply e1; simpa using g
      rw [this]; rfl
def stepS (e : raw_Event) (b g t : Int) : Int × Int × Int :=
  if rightB e.f_Kind e.f_N e.f_Bytes e.f_Marks = true then (w64 (b + (e.f_Bytes.length : Int)), if e.f_Kind = 2 then w64 (g + e.f_N) else g, if e.f_Kind = 3 then w64 (t + e.f_N) else t) else (b, g, t)
theorem sum_step (l : List raw_Event) (i : Nat) (e : raw_Event) (hi : l[i]? = some e) (hl : i < l.length) (hk : l.length ≤ 1000) (hs : Small e) (t g b : Int) : raw_Sum_l1 l (i : Int) t g b = raw_Sum_l1 l ((i + 1 : Nat) : Int) (stepS e b g t).2.2 (stepS e b g t).2.1 (stepS e b g t).1 := by
  have hx : ix l (i : Int) = some e := by rw [ix_nat]; exact hi
  rw [raw_Sum_l1, if_pos (by simpa using hl), obind hx, obind (raw_right_eq e hs), w64_succ (by omega)]
  unfold stepS
  cases rightB e.f_Kind e.f_N e.f_Bytes e.f_Marks with
  | false => rw [if_pos (by simp), osome, if_neg (by simp)]
  | true =>
    rw [if_neg (by simp), if_pos rfl]
    by_cases k2 : e.f_Kind = 2
    · rw [if_pos (by simp [k2]), osome, if_pos k2, if_neg (by omega)]
    · rw [if_neg (by simp [k2]), if_neg k2]
      by_cases k3 : e.f_Kind = 3
      · rw [if_pos (by simp [k3]), osome, if_pos k3]
      · rw [if_neg (by simp [k3]), osome, if_neg k3]
theorem sum_two (a b : raw_Event) (ha : Small a) (hb : Small b) : raw_Sum [a, b] = some (stepS b (stepS a 0 0 0).1 (stepS a 0 0 0).2.1 (stepS a 0 0 0).2.2) := by
  unfold raw_Sum
  have h0 := sum_step [a, b] 0 a rfl (by simp) (by simp) ha 0 0 0
  have h1 := sum_step [a, b] 1 b rfl (by simp) (by simp) hb (stepS a 0 0 0).2.2 (stepS a 0 0 0).2.1 (stepS a 0 0 0).1
  have h2 : ∀ t g b' : Int, raw_Sum_l1 [a, b] ((1 + 1 : Nat) : Int) t g b' = some (b', g, t) := by
    intro t g b'
    rw [raw_Sum_l1, if_neg (by simp)]
  have e : raw_Sum_l1 [a, b] 0 0 0 0 = some (stepS b (stepS a 0 0 0).1 (stepS a 0 0 0).2.1 (stepS a 0 0 0).2.2) := by
    have h0' : raw_Sum_l1 [a, b] 0 0 0 0 = raw_Sum_l1 [a, b] ((0 + 1 : Nat) : Int) (stepS a 0 0 0).2.2 (stepS a 0 0 0).2.1 (stepS a 0 0 0).1 := h0
    rw [h0', show (0 + 1 : Nat) = 1 from rfl, h1, h2]
  rw [obind e]
theorem law_step (a b e : raw_Event) (i : Nat) (hi : [a, b][i]? = some e) (hl : i < 2) (hs : Small e) (x y z : Int) : Law_RawEvents_l1 (a.f_Kind, a.f_N, a.f_Bytes, a.f_Marks, b.f_Kind, b.f_N, b.f_Bytes, b.f_Marks) (i : Int) x y z = Law_RawEvents_l1 (a.f_Kind, a.f_N, a.f_Bytes, a.f_Marks, b.f_Kind, b.f_N, b.f_Bytes, b.f_Marks) ((i + 1 : Nat) : Int) (stepS e x y z).1 (stepS e x y z).2.1 (stepS e x y z).2.2 := by
  have hx : ix [(⟨a.f_Kind, a.f_N, a.f_Bytes, a.f_Marks⟩ : R_Event), (⟨b.f_Kind, b.f_N, b.f_Bytes, b.f_Marks⟩ : R_Event)] (i : Int) = some ⟨e.f_Kind, e.f_N, e.f_Bytes, e.f_Marks⟩ := by
    rw [ix_nat]
    match i, hl with
    | 0, _ => obtain rfl : a = e := Option.some.inj hi; rfl
    | 1, _ => obtain rfl : b = e := Option.some.inj hi; rfl
  rw [Law_RawEvents_l1, if_pos (by simp; omega)]
  dsimp only
  rw [obind hx, obind (r_right_eq _ _ _ _ hs), w64_succ (by omega)]
  unfold stepS
  dsimp only
  cases hr : rightB e.f_Kind e.f_N e.f_Bytes e.f_Marks with
  | false => rw [if_neg (by simp), osome, if_neg (by simp)]
  | true =>
    rw [if_pos rfl, oif, if_pos rfl]
    by_cases k2 : e.f_Kind = 2
    · rw [k2, if_pos (by simp), show w64 (2 - 1) = 1 from by decide +kernel, if_neg (by simp), if_pos (by simp), osome]; rfl
    · by_cases k3 : e.f_Kind = 3
      · rw [k3, if_pos (by simp), show w64 (3 - 1) = 2 from by decide +kernel, if_neg (by simp), if_neg (by simp), if_pos (by simp), osome]; rfl
      · rw [if_neg (by simp [k2, k3]), osome, if_neg k2, if_neg k3]
theorem law_two (a b : raw_Event) (ha : Small a) (hb : Small b) : Law_RawEvents_l1 (a.f_Kind, a.f_N, a.f_Bytes, a.f_Marks, b.f_Kind, b.f_N, b.f_Bytes, b.f_Marks) 0 0 0 0 = some (stepS b (stepS a 0 0 0).1 (stepS a 0 0 0).2.1 (stepS a 0 0 0).2.2) := by
  have h0 := law_step a b a 0 rfl (by omega) ha 0 0 0
  have h1 := law_step a b b 1 rfl (by omega) hb (stepS a 0 0 0).1 (stepS a 0 0 0).2.1 (stepS a 0 0 0).2.2
  have h0' : Law_RawEvents_l1 (a.f_Kind, a.f_N, a.f_Bytes, a.f_Marks, b.f_Kind, b.f_N, b.f_Bytes, b.f_Marks) 0 0 0 0 = Law_RawEvents_l1 (a.f_Kind, a.f_N, a.f_Bytes, a.f_Marks, b.f_Kind, b.f_N, b.f_Bytes, b.f_Marks) ((0 + 1 : Nat) : Int) (stepS a 0 0 0).1 (stepS a 0 0 0).2.1 (stepS a 0 0 0).2.2 := h0
  rw [h0', show (0 + 1 : Nat) = 1 from rfl, h1, Law_RawEvents_l1, if_neg (by simp)]
theorem alive_true : Law_alive = some true := Law_alive_ns (n := 40) (by kernel_rfl)
theorem rawEvents_true (a b : raw_Event) : Law_RawEvents a b = some true := by
  unfold Law_RawEvents Law_long Law_Of
  rw [obind alive_true, if_neg (by simp), oif, osome, oif, osome]
  by_cases hh : (a.f_Bytes.length ≤ 1100 ∧ a.f_Marks.length ≤ 200) ∧ (b.f_Bytes.length ≤ 1100 ∧ b.f_Marks.length ≤ 200)
  · obtain ⟨⟨a1, a2⟩, ⟨b1, b2⟩⟩ := hh
    have ha : Small a := ⟨a1, by omega⟩
    have hb : Small b := ⟨b1, by omega⟩
    rw [if_neg (by simp; omega), osome, if_neg (by simp; omega), osome, osome, osome]
    dsimp only
    obtain ⟨r, s1, s2⟩ := same_eq a b ha
    rw [obind (r_right_eq _ _ _ _ ha), obind (law_two a b ha hb)]
    have hline : ∃ L, (if rightB a.f_Kind a.f_N a.f_Bytes a.f_Marks = true then (do
                  let y233 ← R_Line ((⟨a.f_Kind, a.f_N, a.f_Bytes, a.f_Marks⟩ : R_Event))
                  some y233)
              else (do
                  some ([] : List UInt8)) : Option (List UInt8)) = some L ∧ raw_Line a = some L := by
      obtain ⟨q, h3, h4⟩ := right_tot a ha
      have h5 := raw_right_eq a ha
      obtain rfl : q = rightB a.f_Kind a.f_N a.f_Bytes a.f_Marks := Option.some.inj (h3.symm.trans h5)
      cases hq : rightB a.f_Kind a.f_N a.f_Bytes a.f_Marks with
      | false =>
        refine ⟨[], rfl, ?_⟩
        rw [hq] at h3
        unfold raw_Line
        rw [obind h3, if_pos (by simp)]
      | true =>
        rw [hq] at h3
        obtain ⟨hM, ys, hsh⟩ := h4 hq
        refine ⟨Lib.join ys [32], ?_, line_sh hsh ha hM h3⟩
        rw [if_pos rfl, obind (rline_sh (k := a.f_Kind) (n := a.f_N) (b := a.f_Bytes) (ms := a.f_Marks) hsh ha hM)]
    obtain ⟨L, l1, l2⟩ := hline
    rw [obind l1, obind (sum_two a b ha hb), obind (raw_right_eq a ha), if_pos (by simp), obind l2, if_pos (by simp), obind s1, obind s2, if_pos (by simp), osome]
    simp
  · by_cases h1 : a.f_Bytes.length ≤ 1100 ∧ a.f_Marks.length ≤ 200
    · have h2 : ¬ (b.f_Bytes.length ≤ 1100 ∧ b.f_Marks.length ≤ 200) := fun h2 => hh ⟨h1, h2⟩
      rw [if_neg (by simp; omega), osome, if_pos (by
        by_cases c1 : b.f_Bytes.length ≤ 1100
        · have c2 : ¬ b.f_Marks.length ≤ 200 := fun c2 => h2 ⟨c1, c2⟩
          simp; omega
        · simp; omega)]
    · rw [if_pos (by
        by_cases c1 : a.f_Bytes.length ≤ 1100
        · have c2 : ¬ a.f_Marks.length ≤ 200 := fun c2 => h1 ⟨c1, c2⟩
          simp; omega
        · simp; omega), osome, if_pos rfl]
end Go.Proofs.YthjfnknhcmhmiaaDoor
