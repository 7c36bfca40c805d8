/-
  Chapter 36: the plain law of RawEvents.
-/
import Derived.Test.YthjfnknhcmhmiaaDoorP2
set_option linter.unusedVariables false
set_option linter.unusedSimpArgs false
set_option maxRecDepth 10000
namespace Go.Proofs.YthjfnknhcmhmiaaDoor
open Go Go.RowKit Sl

/-! right -/
def incB (lim : Int) : Int → List Int → Bool
  | _, [] => true
  | last, m :: r => decide (last < m) && decide (m < lim) && incB lim m r
theorem marked_l1x (e : raw_Event) (hm : e.f_Marks.length ≤ 1000000) : ∀ (r : List Int) (i : Nat) (last : Int), e.f_Marks.drop i = r → i ≤ e.f_Marks.length → (i = 0 → last = -1) → (0 < i → e.f_Marks[i - 1]? = some last ∧ 0 ≤ last) →
    raw_Event_marked_l1 e (i : Int) = some (if incB (e.f_Bytes.length : Int) last r then Sum.inl () else Sum.inr ())
  | [], i, last, h, hi, h0, h1 => by
    have := drop_len h hi
    rw [raw_Event_marked_l1, if_neg (by simp at this ⊢; omega)]; rfl
  | m :: r, i, last, h, hi, h0, h1 => by
    have hl := drop_lt h
    have hmi : e.f_Marks[i]? = some m := by rw [← List.head?_drop, h]; rfl
    rw [raw_Event_marked_l1, if_pos (by simpa using hl), obind (ix_drop h), oif]
    have e3 : (do
          let x36 ← (do
              if (decide ((i : Int) > 0)) = true then (do
                  let e39 ← ix e.f_Marks (w64 ((i : Int) - 1))
                  some (decide (m ≤ e39)))
              else (do
                  some false) : Option Bool)
          some x36) = some (decide (0 < i) && decide (m ≤ last)) := by
      by_cases ki : i = 0
      · subst ki; rfl
      · have hj : w64 ((i : Int) - 1) = ((i - 1 : Nat) : Int) := by rw [w64_id (by omega) (by omega)]; omega
        have hx : ix e.f_Marks ((i - 1 : Nat) : Int) = some last := by rw [ix_nat]; exact (h1 (by omega)).1
        rw [if_pos (by simp; omega), hj, obind hx, osome]
        have : 0 < i := by omega
        simp [this]
    by_cases k : m < 0 ∨ m ≥ (e.f_Bytes.length : Int)
    · rw [if_pos (by simpa using k), osome, if_pos rfl]
      have : incB (e.f_Bytes.length : Int) last (m :: r) = false := by
        unfold incB
        rcases k with k | k
        · have : ¬ last < m := by
            rcases Nat.eq_zero_or_pos i with hi0 | hi0
            · have := h0 hi0; omega
            · have := (h1 hi0).2; omega
          simp [this]
        · have : ¬ m < (e.f_Bytes.length : Int) := by omega
          simp [this]
      rw [this]; rfl
    · rw [if_neg (by simpa using k), obind e3]
      by_cases kk : 0 < i ∧ m ≤ last
      · rw [if_pos (by simpa using kk)]
        have : ¬ last < m := by omega
        simp [incB, this]
      · rw [if_neg (by simpa using kk), w64_succ (by omega), marked_l1x e hm r (i + 1) m (drop_next h) (by omega) (by omega) (fun _ => ⟨by simpa using hmi, by omega⟩)]
        have h2 : last < m := by
          rcases Nat.eq_zero_or_pos i with hi0 | hi0
          · have := h0 hi0; omega
          · omega
        have h3 : m < (e.f_Bytes.length : Int) := by omega
        simp [incB, h2, h3]
theorem rright_l1 (e : R_Event) (hm : e.f_Marks.length ≤ 1000000) : ∀ (r : List Int) (i : Nat) (last : Int), e.f_Marks.drop i = r → i ≤ e.f_Marks.length →
    R_Right_l1 e (i : Int) last = some (if incB (e.f_Bytes.length : Int) last r then Sum.inl () else Sum.inr ())
  | [], i, last, h, hi => by
    have := drop_len h hi
    rw [R_Right_l1, if_neg (by simp at this ⊢; omega)]; rfl
  | m :: r, i, last, h, hi => by
    have hl := drop_lt h
    rw [R_Right_l1, if_pos (by simpa using hl), obind (ix_drop h), oif]
    by_cases k : m ≤ last ∨ m ≥ (e.f_Bytes.length : Int)
    · rw [if_pos (by simpa using k)]
      have : incB (e.f_Bytes.length : Int) last (m :: r) = false := by
        unfold incB
        rcases k with k | k
        · have : ¬ last < m := by omega
          simp [this]
        · have : ¬ m < (e.f_Bytes.length : Int) := by omega
          simp [this]
      rw [this]; rfl
    · rw [if_neg (by simpa using k), w64_succ (by omega), rright_l1 e hm r (i + 1) m (drop_next h) (by omega)]
      have h2 : last < m := by omega
      have h3 : m < (e.f_Bytes.length : Int) := by omega
      simp [incB, h2, h3]
def rightB (k n : Int) (b : List UInt8) (ms : List Int) : Bool :=
  if k = 1 then decide (n = 0) && decide (b.length ≤ 1024) && incB (b.length : Int) (-1) ms
  else if k = 2 ∨ k = 3 then decide (0 ≤ n) && decide (n ≤ 9999) && decide (b = []) && decide (ms = [])
  else if k = 4 then decide (n = 0) && decide (b = []) && decide (ms = [])
  else false
theorem raw_right_eq (e : raw_Event) (hs : Small e) : raw_Right e = some (rightB e.f_Kind e.f_N e.f_Bytes e.f_Marks) := by
  obtain ⟨k, n, bs, ms⟩ := e
  have hmk : raw_Event_marked ⟨k, n, bs, ms⟩ = some (incB (bs.length : Int) (-1) ms) := by
    have h := marked_l1x ⟨k, n, bs, ms⟩ (by have := hs.2; dsimp only at this ⊢; omega) _ 0 (-1) rfl (by omega) (by omega) (by omega)
    have h' : raw_Event_marked_l1 ⟨k, n, bs, ms⟩ 0 = some (if incB (bs.length : Int) (-1) ms then Sum.inl () else Sum.inr ()) := h
    unfold raw_Event_marked
    rw [obind h']
    cases incB (bs.length : Int) (-1) ms <;> rfl
  have hz : (w64 (((bs.length : Int)) + ((ms.length : Int))) == 0) = (decide (bs = []) && decide (ms = [])) := by
    obtain ⟨h1, h2⟩ := hs
    dsimp only at h1 h2
    rw [w64_add (by omega)]
    cases bs with
    | nil => cases ms with
      | nil => rfl
      | cons a r => simp; omega
    | cons a r => simp; omega
  unfold raw_Right rightB
  dsimp only
  by_cases k1 : k = 1
  · subst k1
    rw [if_pos (by simp), oif, if_pos rfl]
    by_cases kn : n = 0
    · subst kn
      by_cases kb : bs.length ≤ 1024
      · rw [if_pos (by simp; omega), obind hmk]
        simp [kb]
      · rw [if_neg (by simp; omega)]
        simp [kb]
    · rw [if_neg (by simp [kn])]
      simp [kn]
  rw [if_neg (by simpa using k1), oif, if_neg k1]
  by_cases k2 : k = 2 ∨ k = 3
  · rw [if_pos (by rcases k2 with rfl | rfl <;> simp), oif, if_pos k2, hz]
    by_cases n1 : 0 ≤ n
    · by_cases n2 : n ≤ 9999
      · rw [if_pos (by rw [if_pos (by simpa using n1)]; simpa using n2)]
        simp [n1, n2]
      · rw [if_neg (by rw [if_pos (by simpa using n1)]; simpa using n2)]
        simp [n2]
    · rw [if_neg (by rw [if_neg (by simpa using n1)]; simp)]
      simp [n1]
  rw [if_neg (by
    intro g
    apply k2
    by_cases g2 : k = 2
    · exact .inl g2
    · rw [if_neg (by simpa using g2)] at g; exact .inr (by simpa using g)), if_neg k2]
  by_cases k4 : k = 4
  · subst k4
    rw [if_pos (by simp), oif, if_pos rfl, hz]
    by_cases n0 : n = 0 <;> simp [n0]
  · rw [if_neg (by simpa using k4), if_neg k4]
theorem rightB_iff (k n : Int) (b : List UInt8) (ms : List Int) : rightB k n b ms = true ↔ (k = 1 ∧ n = 0 ∧ b.length ≤ 1024 ∧ incB (b.length : Int) (-1) ms = true) ∨ ((k = 2 ∨ k = 3) ∧ 0 ≤ n ∧ n ≤ 9999 ∧ b = [] ∧ ms = []) ∨ (k = 4 ∧ n = 0 ∧ b = [] ∧ ms = []) := by
  unfold rightB
  by_cases k1 : k = 1
  · subst k1; simp [and_assoc]
  · rw [if_neg k1]
    by_cases k2 : k = 2 ∨ k = 3
    · rw [if_pos k2]
      have k4 : ¬ k = 4 := by omega
      simp [k1, k2, k4, and_assoc]
    · rw [if_neg k2]
      by_cases k4 : k = 4
      · subst k4; simp [and_assoc]
      · rw [if_neg k4]; simp [k1, k2, k4]
theorem r_right_eq (k n : Int) (bs : List UInt8) (ms : List Int) (hs : bs.length ≤ 1100 ∧ ms.length ≤ 1100) : R_Right ⟨k, n, bs, ms⟩ = some (rightB k n bs ms) := by
  obtain ⟨h1, h2⟩ := hs
  have hl := rright_l1 ⟨k, n, bs, ms⟩ (by dsimp only; omega) _ 0 (-1) rfl (by omega)
  have hl' : R_Right_l1 ⟨k, n, bs, ms⟩ 0 (-1) = some (if incB (bs.length : Int) (-1) ms then Sum.inl () else Sum.inr ()) := hl
  clear hl
  have hz : (decide (w64 (((bs.length : Int)) + ((ms.length : Int))) > 0)) = !(decide (bs = []) && decide (ms = [])) := by
    rw [w64_add (by omega)]
    cases bs with
    | nil => cases ms with
      | nil => rfl
      | cons a r => simp
    | cons a r => simp; omega
  unfold R_Right
  dsimp only
  rw [oif, oif, oif, oif, oif, hz]
  clear hz
  by_cases C : (((k < 1 ∨ k > 4) ∨ (bs.length : Int) > 1024) ∨ n < 0) ∨ n > 9999
  · rw [if_pos (by simpa using C)]
    have : ¬ rightB k n bs ms = true := by
      rw [rightB_iff]
      rintro (⟨a, b, c, d⟩ | ⟨a, b, c, d, e⟩ | ⟨a, b, c, d⟩)
      · omega
      · subst d; simp at C; omega
      · subst c; simp at C; omega
    rw [Bool.eq_false_iff.2 this]
  · rw [if_neg (by simpa using C)]
    by_cases k1 : k = 1
    · subst k1
      rw [if_neg (by simp), if_pos (by simp), osome, if_pos rfl, osome, osome]
      by_cases n0 : n = 0
      · subst n0
        have hB : rightB 1 0 bs ms = incB (bs.length : Int) (-1) ms := by
          unfold rightB
          rw [if_pos rfl]
          have : bs.length ≤ 1024 := by omega
          simp [this]
        rw [if_neg (by simp), obind hl', hB]
        cases incB (bs.length : Int) (-1) ms <;> rfl
      · rw [if_pos (by simp [n0])]
        have : ¬ rightB 1 n bs ms = true := by
          rw [rightB_iff]
          rintro (⟨a, b, c, d⟩ | ⟨a, b, c, d, e⟩ | ⟨a, b, c, d⟩) <;> omega
        rw [Bool.eq_false_iff.2 this]
    · rw [show (k != 1) = true from by simpa using k1, if_pos rfl]
      by_cases em : bs = [] ∧ ms = []
      · obtain ⟨rfl, rfl⟩ := em
        rw [if_neg (by simp)]
        have hi : incB ((([] : List UInt8).length : Nat) : Int) (-1) [] = true := rfl
        rw [hi] at hl'
        rw [show (k == 1) = false from by simpa using k1, if_neg (by simp), osome, oif, osome]
        by_cases k4 : k = 4 ∧ ¬ n = 0
        · obtain ⟨rfl, n0⟩ := k4
          rw [if_pos (by rw [if_pos (by simp)]; simpa using n0)]
          have : ¬ rightB 4 n [] [] = true := by
            rw [rightB_iff]
            rintro (⟨a, b, c, d⟩ | ⟨a, b, c, d, e⟩ | ⟨a, b, c, d⟩) <;> omega
          rw [Bool.eq_false_iff.2 this]
        · have hB : rightB k n [] [] = true := by
            rw [rightB_iff]
            by_cases q4 : k = 4
            · exact .inr (.inr ⟨q4, by omega, rfl, rfl⟩)
            · exact .inr (.inl ⟨by omega, by omega, by omega, rfl, rfl⟩)
          rw [if_neg (by
            intro g
            apply k4
            by_cases q4 : k = 4
            · subst q4; rw [if_pos (by simp)] at g; exact ⟨rfl, by simpa using g⟩
            · rw [if_neg (by simpa using q4)] at g; cases g), obind hl', hB]
          rfl
      · rw [if_pos (by
          by_cases a1 : bs = []
          · have : ¬ ms = [] := fun h => em ⟨a1, h⟩
            simp [this]
          · simp [a1]), osome, if_pos rfl]
        have : ¬ rightB k n bs ms = true := by
          rw [rightB_iff]
          rintro (⟨a, b, c, d⟩ | ⟨a, b, c, d, e⟩ | ⟨a, b, c, d⟩)
          · exact k1 a
          · exact em ⟨d, e⟩
          · exact em ⟨c, d⟩
        rw [Bool.eq_false_iff.2 this]
/-! figures -/
theorem cut_digit (d : Nat) (h : d < 10) : cutL ([48, 49, 50, 51, 52, 53, 54, 55, 56, 57] : List UInt8) (d : Int) (w64 ((d : Int) + 1)) = some [UInt8.ofNat (48 + d)] := by
  have : ∀ d : Fin 10, cutL ([48, 49, 50, 51, 52, 53, 54, 55, 56, 57] : List UInt8) (d.val : Int) (w64 ((d.val : Int) + 1)) = some [UInt8.ofNat (48 + d.val)] := by decide +kernel
  exact this ⟨d, h⟩
theorem figs_l1 (u : Nat) : ∀ acc : List UInt8, 1 ≤ u → u ≤ 9999 → acc.length + u ≤ 100000 → Num_Figures_l1 (u : Int) acc = some (Lib.decDigits u ++ acc) := by
  induction u using Nat.strongRecOn with
  | _ u ih =>
    intro acc h0 h9 ha
    have e1 : irem (u : Int) 10 = some ((u % 10 : Nat) : Int) := by
      unfold irem; rw [if_neg (by omega)]; congr 1
    have e2 : iquo (u : Int) 10 = some ((u / 10 : Nat) : Int) := by
      unfold iquo; rw [if_neg (by omega)]; congr 1
      show w64 ((u / 10 : Nat) : Int) = _
      exact w64_nat (by omega)
    rw [Num_Figures_l1, if_pos (by simp; omega), obind e1, oif, if_neg (by simp; omega), obind (cut_digit _ (by omega)), req_yes (by simp; omega), osome, obind e2]
    by_cases hu : u < 10
    · rw [show u / 10 = 0 from by omega, Num_Figures_l1, if_neg (by simp), Lib.decDigits_one hu, show u % 10 = u from by omega]
    · rw [ih (u / 10) (by omega) _ (by omega) (by omega) (by simp; omega), show Lib.decDigits u = Lib.decDigits (u / 10) ++ [UInt8.ofNat (48 + u % 10)] from by rw [Lib.decDigits, dif_neg hu]]
      simp
theorem figs_eq (u : Nat) (h : u ≤ 9999) : Num_Figures (u : Int) = some (Lib.decDigits u) := by
  unfold Num_Figures
  by_cases h0 : u = 0
  · subst h0; rw [if_pos (by simp), Lib.decDigits_one (by omega)]; rfl
  · have hd := dec_len4 h
    rw [if_neg (by simpa using h0), oif, if_neg (by simp), obind (figs_l1 u [] (by omega) h (by simp; omega)), req_yes (by simp; omega), osome]
    simp
/-! lines -/
theorem hex_cut (c : UInt8) : iquo (b8 c) 16 = some ((c.toNat / 16 : Nat) : Int) ∧ irem (b8 c) 16 = some ((c.toNat % 16 : Nat) : Int) ∧ cutL hexs ((c.toNat / 16 : Nat) : Int) (w64 (((c.toNat / 16 : Nat) : Int) + 1)) = some [hexA c] ∧ cutL hexs ((c.toNat % 16 : Nat) : Int) (w64 (((c.toNat % 16 : Nat) : Int) + 1)) = some [hexZ c] :=
  of_fin (p := fun c => iquo (b8 c) 16 = some ((c.toNat / 16 : Nat) : Int) ∧ irem (b8 c) 16 = some ((c.toNat % 16 : Nat) : Int) ∧ cutL hexs ((c.toNat / 16 : Nat) : Int) (w64 (((c.toNat / 16 : Nat) : Int) + 1)) = some [hexA c] ∧ cutL hexs ((c.toNat % 16 : Nat) : Int) (w64 (((c.toNat % 16 : Nat) : Int) + 1)) = some [hexZ c]) (by decide +kernel) c
theorem rline_l1 (e : R_Event) (hb : e.f_Bytes.length ≤ 1000000) : ∀ (r : List UInt8) (i : Nat) (acc : List UInt8), e.f_Bytes.drop i = r → i ≤ e.f_Bytes.length → acc.length + 2 * r.length ≤ 4000000 → R_Line_l1 e (i : Int) acc = some (acc ++ pairsB r)
  | [], i, acc, h, hi, ha => by
    have := drop_len h hi
    rw [R_Line_l1, if_neg (by simp at this ⊢; omega)]
    simp [pairsB]
  | c :: r, i, acc, h, hi, ha => by
    have hl := drop_lt h
    rw [List.length_cons] at ha
    obtain ⟨g1, g2, g3, g4⟩ := hex_cut c
    rw [R_Line_l1, if_pos (by simpa using hl), obind (ix_drop h), obind g1, obind (ix_drop h), obind g2, obind g3, obind g4, req_yes (by simp), osome, req_yes (by simp; omega), osome, w64_succ (by omega),
      rline_l1 e hb r (i + 1) _ (drop_next h) (by omega) (by simp; omega), pairs_cons]
    simp
theorem rline_l2 (e : R_Event) (us : List Nat) (he : e.f_Marks = ints us) (hk : us.length ≤ 100000) (hu : ∀ u ∈ us, u ≤ 9999) : ∀ (r : List Nat) (i : Nat) (acc : List UInt8), us.drop i = r → 0 < i → i ≤ us.length → acc.length + 5 * r.length ≤ 4000000 → R_Line_l2 e (i : Int) acc = some (acc ++ Lib.joinTail [44] (r.map Lib.decDigits))
  | [], i, acc, h, h0, hi, ha => by
    have := drop_len h hi
    rw [R_Line_l2, if_neg (by rw [he]; simp [ints] at this ⊢; omega)]
    simp [Lib.joinTail]
  | u :: r, i, acc, h, h0, hi, ha => by
    have hl := drop_lt h
    have hm : u ∈ us := by
      have : u ∈ us.drop i := by rw [h]; simp
      exact List.mem_of_mem_drop this
    have hx : e.f_Marks.drop i = (u : Int) :: ints r := by
      rw [he]; unfold ints; rw [← List.map_drop, h]; rfl
    have hd := dec_len4 (hu u hm)
    rw [List.length_cons] at ha
    rw [R_Line_l2, if_pos (by rw [he]; simpa [ints] using hl), obind (ix_drop hx), if_neg (by simp; omega), req_yes (by simp; omega), osome, osome, obind (figs_eq u (hu u hm)), req_yes (by simp; omega), osome, osome, w64_succ (by omega),
      rline_l2 e us he hk hu r (i + 1) _ (drop_next h) (by omega) (by omega) (by simp; omega)]
    simp [Lib.joinTail]
theorem rline_sh {k n : Int} {b : List UInt8} {ms : List Int} {ys : List (List UInt8)} (h : Sh ⟨k, n, b, ms⟩ ys) (hs : b.length ≤ 1100 ∧ ms.length ≤ 1100) (hm : Mk ⟨k, n, b, ms⟩) : R_Line ⟨k, n, b, ms⟩ = some (Lib.join ys [32]) := by
  have told : ∀ (e : R_Event), e.f_Bytes = b → ∃ o, R_Line_l1 e 0 [98, 121, 116, 101, 115, 32] = some o ∧ (do
      if (((e.f_Bytes.length : Int)) == 0) = true then (do
                      let _ ← req (o.length + ([45] : List UInt8).length ≤ 9223372036854775807)
                      some (o ++ ([45] : List UInt8)))
                  else (do
                      some o) : Option (List UInt8)) = some ([98, 121, 116, 101, 115, 32] ++ toldB b) := by
    intro e he
    have h1 := rline_l1 e (by rw [he]; omega) _ 0 [98, 121, 116, 101, 115, 32] rfl (by omega) (by rw [he]; simp; omega)
    refine ⟨_, h1, ?_⟩
    rw [he]
    unfold toldB
    by_cases hb : b = []
    · subst hb; rfl
    · rw [if_neg (by simpa using hb), if_neg hb]; rfl
  unfold R_Line
  cases h with
  | came =>
    obtain ⟨o, h1, h2⟩ := told ⟨1, 0, b, []⟩ rfl
    dsimp only at h2 ⊢
    rw [if_neg (by simp), if_neg (by simp), if_neg (by simp), obind h1, obind h2, R_Line_l2, if_neg (by simp), osome, join_two, Lib.join_one]
    rfl
  | marks _ us hu =>
    obtain ⟨o, h1, h2⟩ := told ⟨1, 0, b, ints us⟩ rfl
    have hu9 := marks_of (us := us) rfl hm
    have hk : us.length ≤ 1100 := by have := hs.2; simpa [ints] using this
    have ht := told_len b
    obtain ⟨u, r, rfl⟩ : ∃ u r, us = u :: r := by
      cases us with
      | nil => exact absurd rfl hu
      | cons u r => exact ⟨u, r, rfl⟩
    have hd := dec_len4 (hu9 u (by simp))
    have hx : ix (ints (u :: r)) 0 = some (u : Int) := rfl
    have h3 := rline_l2 ⟨1, 0, b, ints (u :: r)⟩ (u :: r) rfl (by omega) hu9 r 1 ([98, 121, 116, 101, 115, 32] ++ toldB b ++ [32, 109, 97, 114, 107, 115, 32] ++ Lib.decDigits u) rfl (by omega) (by simp) (by simp at hk ⊢; omega)
    dsimp only at h2 ⊢
    rw [if_neg (by simp), if_neg (by simp), if_neg (by simp), obind h1, obind h2, R_Line_l2, if_pos (by simp [ints]), obind hx, if_pos (by simp), req_yes (by simp; omega), osome, osome, obind (figs_eq u (hu9 u (by simp))), req_yes (by simp; omega), osome, osome]
    have e1 : w64 ((0 : Int) + 1) = ((1 : Nat) : Int) := by decide +kernel
    rw [e1, h3, osome, join_two, join_two, join_two, Lib.join_one]
    unfold comma
    rw [List.map_cons, Lib.join_cons]
    simp
  | grant u hu =>
    have := dec_len4 hu
    dsimp only
    rw [if_pos (by simp), obind (figs_eq u hu), req_yes (by simp; omega), osome, join_two, Lib.join_one]
    rfl
  | tick u hu =>
    have := dec_len4 hu
    dsimp only
    rw [if_neg (by simp), if_pos (by simp), obind (figs_eq u hu), req_yes (by simp; omega), osome, join_two, Lib.join_one]
    rfl
  | close => rfl
end Go.Proofs.YthjfnknhcmhmiaaDoor
