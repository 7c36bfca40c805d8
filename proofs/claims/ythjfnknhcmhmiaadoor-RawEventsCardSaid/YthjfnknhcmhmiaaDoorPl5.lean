/-
  Plain laws: a row split at a byte (strings.Split of one byte); numerals of at most four figures.
-/
import Derived.Test.YthjfnknhcmhmiaaDoorPl1
set_option linter.unusedVariables false
set_option linter.unusedSimpArgs false
set_option maxRecDepth 10000
namespace Go.Proofs.YthjfnknhcmhmiaaDoor
open Go Go.RowKit Sl

/-- The parts of a row between the bytes c. -/
def spl (c : UInt8) : List UInt8 → List (List UInt8)
  | [] => [[]]
  | x :: s => if x = c then [] :: spl c s else match spl c s with
    | [] => [[x]]
    | h :: t => (x :: h) :: t
theorem spl_ne (c : UInt8) : ∀ s : List UInt8, spl c s ≠ []
  | [] => by simp [spl]
  | x :: s => by
    unfold spl
    split
    · simp
    · split <;> simp
theorem spl_no {c : UInt8} : ∀ {s : List UInt8}, c ∉ s → spl c s = [s]
  | [], _ => rfl
  | x :: s, h => by
    have h1 : ¬ x = c := fun e => h (by simp [e])
    have h2 : spl c s = [s] := spl_no fun e => h (by simp [e])
    unfold spl
    rw [if_neg h1, h2]
theorem spl_at {c : UInt8} (q : List UInt8) : ∀ {p : List UInt8}, c ∉ p → spl c (p ++ c :: q) = p :: spl c q
  | [], _ => by show spl c (c :: q) = _; rw [spl, if_pos rfl]
  | x :: p, h => by
    have h1 : ¬ x = c := fun e => h (by simp [e])
    have h2 : spl c (p ++ c :: q) = p :: spl c q := spl_at q fun e => h (by simp [e])
    show spl c (x :: (p ++ c :: q)) = _
    rw [spl, if_neg h1, h2]
theorem spl_len (c : UInt8) : ∀ s : List UInt8, (spl c s).length = s.count c + 1
  | [] => rfl
  | x :: s => by
    have ih := spl_len c s
    unfold spl
    split
    · rename_i h; subst h; simp [ih]
    · rename_i h
      rw [List.count_cons_of_ne (by simpa using h)]
      cases hs : spl c s with
      | nil => exact absurd hs (spl_ne c s)
      | cons a t => rw [hs] at ih; simpa using ih
theorem spl_mem (c : UInt8) : ∀ (s : List UInt8), ∀ p ∈ spl c s, c ∉ p
  | [], p, hp => by simp [spl] at hp; simp [hp]
  | x :: s, p, hp => by
    have ih := spl_mem c s
    unfold spl at hp
    split at hp
    · rcases List.mem_cons.1 hp with hp | hp
      · simp [hp]
      · exact ih p hp
    · rename_i hx
      cases hs : spl c s with
      | nil => exact absurd hs (spl_ne c s)
      | cons a t =>
        rw [hs] at hp ih
        rcases List.mem_cons.1 hp with hp | hp
        · subst hp
          have := ih a (by simp)
          simp [this, Ne.symm hx]
        · exact ih p (by simp [hp])
theorem join_two (x y : List UInt8) (r : List (List UInt8)) (sep : List UInt8) : Lib.join (x :: y :: r) sep = x ++ sep ++ Lib.join (y :: r) sep := by
  rw [Lib.join_cons, Lib.join_cons]; simp [Lib.joinTail]
theorem spl_join (c : UInt8) : ∀ s : List UInt8, Lib.join (spl c s) [c] = s
  | [] => by rw [spl, Lib.join_one]
  | x :: s => by
    have ih := spl_join c s
    unfold spl
    cases hs : spl c s with
    | nil => exact absurd hs (spl_ne c s)
    | cons a t =>
      rw [hs] at ih
      split
      · rename_i h; rw [join_two, ih, h]; rfl
      · show Lib.join ((x :: a) :: t) [c] = x :: s
        rw [Lib.join_cons] at ih ⊢
        rw [← ih]; rfl
theorem spl_of_join (c : UInt8) : ∀ (xs : List (List UInt8)), xs ≠ [] → (∀ p ∈ xs, c ∉ p) → spl c (Lib.join xs [c]) = xs
  | [], h, _ => absurd rfl h
  | [x], _, h => by rw [Lib.join_one]; exact spl_no (h x (by simp))
  | x :: y :: r, _, h => by
    rw [join_two, List.append_assoc]
    show spl c (x ++ c :: Lib.join (y :: r) [c]) = _
    rw [spl_at _ (h x (by simp)), spl_of_join c (y :: r) (by simp) (fun p hp => h p (by simp [hp]))]
/-! strings.Split of one byte -/
theorem sindex_one (s : List UInt8) (c : UInt8) : strings_Index s [c] = some (idxB s c) := by
  unfold strings_Index internal_stringslite_Index internal_stringslite_IndexByte
  have h0 : ix [c] 0 = some c := rfl
  simp [h0]
  intro e
  rw [← e]; exact (idxB_at (p := []) (c := c) [] (by simp)).symm
theorem scount_one (s : List UInt8) (c : UInt8) : strings_Count s [c] = some (cntB s c) := by
  unfold strings_Count
  have h0 : ix [c] 0 = some c := rfl
  simp [h0]
theorem gs_m (s : List UInt8) (n : Nat) (hs : s.length ≤ 1000000) (hn : n ≤ s.length) : w64 ((if w64 ((s.length : Int) + 1) < ((n + 1 : Nat) : Int) then w64 ((s.length : Int) + 1) else ((n + 1 : Nat) : Int)) - 1) = (n : Int) := by
  rw [w64_id (n := (s.length : Int) + 1) (by omega) (by omega), w64_id (by split <;> omega) (by split <;> omega)]
  split <;> omega
theorem gensplit_l1 (s : List UInt8) (c : UInt8) (n : Nat) (hs : s.length ≤ 1000000) (hn : n ≤ s.length) : ∀ (j k : Nat) (r : List UInt8) (done : List (List UInt8)), n - k = j → k ≤ n → r.length ≤ s.length → r.count c = n - k → done.length = k →
    ∃ ini lst, spl c r = ini ++ [lst] ∧ ini.length = n - k ∧ strings_genSplit_l1 s ((n + 1 : Nat) : Int) [c] 0 (k : Int) r (done ++ List.replicate (n - k + 1) []) = some (lst, (n : Int), done ++ ini ++ [[]]) := by
  intro j
  induction j with
  | zero =>
    intro k r done hj hk hr hc hd
    have hkn : k = n := by omega
    subst hkn
    have hc0 : c ∉ r := List.count_eq_zero.1 (by omega)
    refine ⟨[], r, by rw [spl_no hc0]; rfl, by simp, ?_⟩
    rw [strings_genSplit_l1, gs_m s _ hs hn, if_neg (by simp)]
    simp
  | succ j ih =>
    intro k r done hj hk hr hc hd
    have hlt : k < n := by omega
    obtain ⟨p, q, rfl, hp⟩ := split_at_mem (s := r) (c := c) (List.count_pos_iff.1 (by omega))
    have hcp : p.count c = 0 := List.count_eq_zero.2 hp
    have hcq : q.count c = n - (k + 1) := by
      have : (p ++ c :: q).count c = q.count c + 1 := by rw [List.count_append, hcp, List.count_cons]; simp
      omega
    have hlr : (p ++ c :: q).length = p.length + 1 + q.length := by simp; omega
    rw [hlr] at hr
    obtain ⟨ini, lst, h1, h2, h3⟩ := ih (k + 1) q (done ++ [p]) (by omega) (by omega) (by omega) hcq (by simp [hd])
    refine ⟨p :: ini, lst, by rw [spl_at _ hp, h1]; rfl, by simp [h2]; omega, ?_⟩
    rw [strings_genSplit_l1, gs_m s _ hs hn, if_pos (by simpa using hlt), obind (sindex_one _ _), idxB_at q hp, if_neg (by simp)]
    have c1 : cutL (p ++ c :: q) 0 ((p.length : Nat) : Int) = some p := by
      have := cutL_nat (p ++ c :: q) 0 p.length (by omega) (by omega)
      simpa using this
    rw [show w64 ((p.length : Int) + 0) = ((p.length : Nat) : Int) from w64_id (by omega) (by omega), obind c1]
    have hrep : List.replicate (n - k + 1) ([] : List UInt8) = [] :: List.replicate (n - (k + 1) + 1) [] := by
      rw [show n - k + 1 = (n - (k + 1) + 1) + 1 from by omega]; rfl
    have c2 : ix (done ++ List.replicate (n - k + 1) ([] : List UInt8)) (k : Int) = some [] := by
      rw [ix_nat, hrep, List.getElem?_append_right (by omega), hd]; simp
    rw [obind c2]
    have c3 : cutL (p ++ c :: q) ((p.length + 1 : Nat) : Int) ((p ++ c :: q).length : Int) = some q := by
      have := cutL_end (p ++ [c]) q
      simpa using this
    rw [show w64 ((p.length : Int) + (([c] : List UInt8).length : Int)) = ((p.length + 1 : Nat) : Int) from by
      rw [w64_id (by simp; omega) (by simp; omega)]; simp, obind c3, w64_succ (by omega)]
    have hset : (done ++ List.replicate (n - k + 1) ([] : List UInt8)).set ((k : Int)).toNat p = (done ++ [p]) ++ List.replicate (n - (k + 1) + 1) [] := by
      rw [hrep, Int.toNat_natCast, List.set_append_right _ _ (by omega), hd]; simp
    rw [hset, h3]
    simp
theorem split_one (s : List UInt8) (c : UInt8) (hs : s.length ≤ 1000000) : strings_Split s [c] = some (spl c s) := by
  have hcl : s.count c ≤ s.length := List.count_le_length
  unfold strings_Split strings_genSplit
  rw [if_neg (by decide), if_neg (by simp), if_pos (by decide), obind (scount_one s c)]
  have e1 : w64 (cntB s c + 1) = ((s.count c + 1 : Nat) : Int) := by
    unfold cntB; exact w64_succ (by omega)
  rw [e1]
  have e2 : (if w64 ((s.length : Int) + 1) < ((s.count c + 1 : Nat) : Int) then w64 ((s.length : Int) + 1) else ((s.count c + 1 : Nat) : Int)) = ((s.count c + 1 : Nat) : Int) := by
    rw [w64_id (n := (s.length : Int) + 1) (by omega) (by omega)]
    split <;> omega
  obtain ⟨ini, lst, h1, h2, h3⟩ := gensplit_l1 s c (s.count c) hs hcl _ 0 s [] rfl (by omega) (by omega) (by omega) rfl
  have h3' : strings_genSplit_l1 s ((s.count c + 1 : Nat) : Int) [c] 0 0 s (List.replicate (s.count c + 1) []) = some (lst, ((s.count c : Nat) : Int), ini ++ [[]]) := by
    have := h3
    simpa using this
  rw [osome]
  rw [e2, req_yes (by omega), osome, Int.toNat_natCast, obind h3', osome]
  dsimp only
  have hl : (ini ++ [([] : List UInt8)]).length = s.count c + 1 := by simp [h2]
  have c1 : ix (ini ++ [([] : List UInt8)]) ((s.count c : Nat) : Int) = some [] := by
    rw [ix_nat, List.getElem?_append_right (by omega)]; simp [h2]
  rw [obind c1, Int.toNat_natCast]
  have hset : (ini ++ [([] : List UInt8)]).set (s.count c) lst = ini ++ [lst] := by
    rw [List.set_append_right _ _ (by omega)]; simp [h2]
  rw [hset, w64_succ (by omega)]
  have c2 : cutL (ini ++ [lst]) 0 ((s.count c + 1 : Nat) : Int) = some (ini ++ [lst]) := by
    have := cutL_nat (ini ++ [lst]) 0 (s.count c + 1) (by omega) (by simp [h2])
    rw [Int.ofNat_zero] at this
    rw [this, List.take_of_length_le (by simp [h2])]; rfl
  rw [obind c2, Int.toNat_natCast, List.take_of_length_le (by simp [h2]), osome, h1]
/-! numerals -/
def digB (c : UInt8) : Prop := 48 ≤ c.toNat ∧ c.toNat ≤ 57
theorem decD_app (u d : Nat) (hu : 1 ≤ u) (hd : d < 10) : Lib.decDigits (u * 10 + d) = Lib.decDigits u ++ [UInt8.ofNat (48 + d)] := by
  rw [Lib.decDigits, dif_neg (by omega), show (u * 10 + d) / 10 = u from by omega, show (u * 10 + d) % 10 = d from by omega]
theorem dig_of {c : UInt8} (h : digB c) : UInt8.ofNat (48 + (c.toNat - 48)) = c := by
  obtain ⟨h1, h2⟩ := h
  rw [show 48 + (c.toNat - 48) = c.toNat from by omega]; exact UInt8.ofNat_toNat
/-- What is read on a digit run that began with a figure not 0 is the number whose numeral it is. -/
theorem puM_back : ∀ (l : List UInt8) (acc u : Nat), 1 ≤ acc → Lib.parseUintM 65535 acc l = .ok u → Lib.decDigits u = Lib.decDigits acc ++ l
  | [], acc, u, ha, h => by
    simp [Lib.parseUintM] at h
    subst h; simp
  | c :: l, acc, u, ha, h => by
    unfold Lib.parseUintM at h
    split at h
    · rename_i hc
      split at h
      · cases h
      · split at h
        · cases h
        · have hd := dig_of hc
          have := puM_back l _ u (by omega) h
          rw [this, decD_app acc (c.toNat - 48) ha (by omega), hd]; simp
    · cases h
theorem puM_lt : ∀ (l : List UInt8) (acc u : Nat), Lib.parseUintM 65535 acc l = .ok u → u + 1 ≤ (acc + 1) * 10 ^ l.length
  | [], acc, u, h => by
    simp [Lib.parseUintM] at h
    subst h; simp
  | c :: l, acc, u, h => by
    unfold Lib.parseUintM at h
    split at h
    · rename_i hc
      split at h
      · cases h
      · split at h
        · cases h
        · have := puM_lt l _ u h
          refine Nat.le_trans this ?_
          rw [List.length_cons, Nat.pow_succ, Nat.mul_comm (10 ^ l.length) 10, ← Nat.mul_assoc]
          exact Nat.mul_le_mul_right _ (by omega)
    · cases h
theorem puB_back {c : UInt8} {l : List UInt8} {u : Nat} (h : Lib.parseUintB 16 (c :: l) = .ok u) (hz : l = [] ∨ c ≠ 48) : Lib.decDigits u = c :: l := by
  have h' : Lib.parseUintM 65535 0 (c :: l) = .ok u := by
    unfold Lib.parseUintB at h
    rw [if_neg (by simp)] at h
    exact h
  unfold Lib.parseUintM at h'
  split at h'
  · rename_i hc
    rw [if_neg (by omega), if_neg (by omega)] at h'
    have hd := dig_of hc
    rw [Nat.zero_mul, Nat.zero_add] at h'
    rcases hz with rfl | hz
    · simp [Lib.parseUintM] at h'
      subst h'
      rw [Lib.decDigits_one (by omega), hd]
    · have h48 : c.toNat ≠ 48 := fun e => hz (by rw [← dig_of hc, e]; rfl)
      rw [puM_back l _ u (by omega) h', Lib.decDigits_one (by omega), hd]; rfl
  · cases h'
theorem puM_dec_app : ∀ (l : List UInt8) (acc : Nat) (d : UInt8), digB d → ∀ v, Lib.parseUintM 65535 acc l = .ok v → v * 10 + (d.toNat - 48) ≤ 65535 → Lib.parseUintM 65535 acc (l ++ [d]) = .ok (v * 10 + (d.toNat - 48))
  | [], acc, d, hd, v, h, hv => by
    simp [Lib.parseUintM] at h
    subst h
    show Lib.parseUintM 65535 acc [d] = _
    unfold Lib.parseUintM
    rw [if_pos (show 48 ≤ d.toNat ∧ d.toNat ≤ 57 from hd), if_neg (by omega), if_neg (by omega)]; rfl
  | c :: l, acc, d, hd, v, h, hv => by
    unfold Lib.parseUintM at h
    show Lib.parseUintM 65535 acc (c :: (l ++ [d])) = _
    unfold Lib.parseUintM
    split at h
    · rename_i hc
      rw [if_pos hc]
      split at h
      · cases h
      · rename_i h1
        rw [if_neg h1]
        split at h
        · cases h
        · rename_i h2
          rw [if_neg h2]
          exact puM_dec_app l _ d hd v h hv
    · cases h
theorem dig_val {d : Nat} (h : d < 10) : digB (UInt8.ofNat (48 + d)) ∧ (UInt8.ofNat (48 + d)).toNat - 48 = d := by
  have : (UInt8.ofNat (48 + d)).toNat = 48 + d := by simp [UInt8.toNat_ofNat']; omega
  unfold digB
  rw [this]; omega
theorem puM_dec (u : Nat) (h : u ≤ 65535) : Lib.parseUintM 65535 0 (Lib.decDigits u) = .ok u := by
  induction u using Nat.strongRecOn with
  | _ u ih =>
    by_cases hu : u < 10
    · rw [Lib.decDigits_one hu]
      obtain ⟨h1, h2⟩ := dig_val hu
      unfold Lib.parseUintM
      unfold digB at h1
      rw [if_pos h1, h2, if_neg (by omega), if_neg (by omega)]
      simp [Lib.parseUintM]
    · rw [Lib.decDigits, dif_neg hu]
      obtain ⟨h1, h2⟩ := dig_val (d := u % 10) (by omega)
      have := puM_dec_app (Lib.decDigits (u / 10)) 0 _ h1 _ (ih (u / 10) (by omega) (by omega)) (by rw [h2]; omega)
      rw [this, h2]; congr 1; omega
theorem dec_ne (u : Nat) : Lib.decDigits u ≠ [] := by
  intro e
  have := Lib.decDigits_length u
  rw [e] at this
  have := Lib.nDigits_pos u
  simp at *
  omega
theorem puB_dec (u : Nat) (h : u ≤ 65535) : Lib.parseUintB 16 (Lib.decDigits u) = .ok u := by
  unfold Lib.parseUintB
  rw [if_neg (dec_ne u)]
  exact puM_dec u h
theorem dec_head (u : Nat) (h : 1 ≤ u) : ∃ c r, Lib.decDigits u = c :: r ∧ c ≠ 48 := by
  induction u using Nat.strongRecOn with
  | _ u ih =>
    by_cases hu : u < 10
    · refine ⟨_, _, Lib.decDigits_one hu, ?_⟩
      intro e
      obtain ⟨h1, h2⟩ := dig_val hu
      rw [e] at h2
      simp at h2; omega
    · obtain ⟨c, r, h1, h2⟩ := ih (u / 10) (by omega) (by omega)
      refine ⟨c, r ++ [UInt8.ofNat (48 + u % 10)], ?_, h2⟩
      rw [Lib.decDigits, dif_neg hu, h1]; rfl
theorem dec_digs (u : Nat) : ∀ c ∈ Lib.decDigits u, digB c := by
  induction u using Nat.strongRecOn with
  | _ u ih =>
    by_cases hu : u < 10
    · rw [Lib.decDigits_one hu]
      intro c hc
      rw [List.mem_singleton.1 hc]; exact (dig_val hu).1
    · rw [Lib.decDigits, dif_neg hu]
      intro c hc
      rcases List.mem_append.1 hc with hc | hc
      · exact ih (u / 10) (by omega) c hc
      · rw [List.mem_singleton.1 hc]; exact (dig_val (by omega)).1
theorem dec_len4 {u : Nat} (h : u ≤ 9999) : (Lib.decDigits u).length ≤ 4 := by
  rw [Lib.decDigits_length]
  rcases Nat.lt_or_ge u 10 with h1 | h1
  · rw [Lib.nDigits_small h1]; omega
  · rw [Lib.nDigits_big (by omega)]
    rcases Nat.lt_or_ge (u / 10) 10 with h2 | h2
    · rw [Lib.nDigits_small h2]; omega
    · rw [Lib.nDigits_big (by omega)]
      rcases Nat.lt_or_ge (u / 10 / 10) 10 with h3 | h3
      · rw [Lib.nDigits_small h3]; omega
      · rw [Lib.nDigits_big (by omega), Lib.nDigits_small (by omega)]; omega
theorem itoa_nat (u : Nat) : Lib.itoa (u : Int) = Lib.decDigits u := by
  unfold Lib.itoa; rw [if_neg (by omega)]; simp
end Go.Proofs.YthjfnknhcmhmiaaDoor
