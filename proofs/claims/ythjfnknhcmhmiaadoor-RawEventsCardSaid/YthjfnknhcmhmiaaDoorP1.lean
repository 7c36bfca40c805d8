/-
  Chapter 36: the plain law of RawBack.
-/
import Derived.Test.YthjfnknhcmhmiaaDoorPl5
set_option linter.unusedVariables false
set_option linter.unusedSimpArgs false
set_option maxRecDepth 10000
namespace Go.Proofs.YthjfnknhcmhmiaaDoor
open Go Go.RowKit Sl

/-! bytes as pairs of figures -/
abbrev hexs : List UInt8 := [48, 49, 50, 51, 52, 53, 54, 55, 56, 57, 97, 98, 99, 100, 101, 102]
def hexA (c : UInt8) : UInt8 := hexs.getD (c.toNat / 16) 0
def hexZ (c : UInt8) : UInt8 := hexs.getD (c.toNat % 16) 0
theorem of_fin {p : UInt8 → Prop} (h : ∀ n : Fin 256, p (UInt8.ofNat n.val)) (c : UInt8) : p c := by
  have := h ⟨c.toNat, c.toNat_lt⟩
  rwa [UInt8.ofNat_toNat] at this
theorem hex_hi (c : UInt8) : ix hexs (b8 (shr8 c 4)) = some (hexA c) := of_fin (p := fun c => ix hexs (b8 (shr8 c 4)) = some (hexA c)) (by decide +kernel) c
theorem hex_lo (c : UInt8) : ix hexs (b8 (c &&& 15)) = some (hexZ c) := of_fin (p := fun c => ix hexs (b8 (c &&& 15)) = some (hexZ c)) (by decide +kernel) c
theorem hex_in (c : UInt8) : 0 ≤ idxB hexs (hexA c) ∧ 0 ≤ idxB hexs (hexZ c) ∧ toB (or64 (w64 (idxB hexs (hexA c) * 2 ^ 4)) (idxB hexs (hexZ c))) = c :=
  of_fin (p := fun c => 0 ≤ idxB hexs (hexA c) ∧ 0 ≤ idxB hexs (hexZ c) ∧ toB (or64 (w64 (idxB hexs (hexA c) * 2 ^ 4)) (idxB hexs (hexZ c))) = c) (by decide +kernel) c
theorem hex_at (c : UInt8) (h : 0 ≤ idxB hexs c) : ∃ i : Fin 16, idxB hexs c = (i.val : Int) ∧ hexs.getD i.val 0 = c :=
  of_fin (p := fun c => 0 ≤ idxB hexs c → ∃ i : Fin 16, idxB hexs c = (i.val : Int) ∧ hexs.getD i.val 0 = c) (by decide +kernel) c h
theorem hex_two : ∀ i j : Fin 16, hexA (toB (or64 (w64 ((i.val : Int) * 2 ^ 4)) (j.val : Int))) = hexs.getD i.val 0 ∧ hexZ (toB (or64 (w64 ((i.val : Int) * 2 ^ 4)) (j.val : Int))) = hexs.getD j.val 0 := by decide +kernel
theorem hex_sp (c : UInt8) : hexA c ≠ 32 ∧ hexZ c ≠ 32 ∧ hexA c ≠ 45 := of_fin (p := fun c => hexA c ≠ 32 ∧ hexZ c ≠ 32 ∧ hexA c ≠ 45) (by decide +kernel) c
def pairsB (b : List UInt8) : List UInt8 := b.flatMap fun c => [hexA c, hexZ c]
theorem pairs_cons (c : UInt8) (b : List UInt8) : pairsB (c :: b) = hexA c :: hexZ c :: pairsB b := by simp [pairsB]
theorem pairs_len (b : List UInt8) : (pairsB b).length = 2 * b.length := by
  induction b with
  | nil => rfl
  | cons c b ih => rw [pairs_cons]; simp [ih]; omega
theorem pairs_append (a b : List UInt8) : pairsB (a ++ b) = pairsB a ++ pairsB b := by simp [pairsB]
def toldB (b : List UInt8) : List UInt8 := if b = [] then [45] else pairsB b
theorem sib_eq (s : List UInt8) (c : UInt8) : strings_IndexByte s c = some (idxB s c) := by
  unfold strings_IndexByte internal_stringslite_IndexByte; rfl
theorem told_l1 (b : List UInt8) (hb : b.length ≤ 1000000) : ∀ (r : List UInt8) (i : Nat) (acc : List UInt8), b.drop i = r → i ≤ b.length → acc.length + 2 * r.length ≤ 4000000 → raw_told_l1 b (i : Int) acc = some (acc ++ pairsB r)
  | [], i, acc, h, hi, ha => by
    have := drop_len h hi
    rw [raw_told_l1, if_neg (by simp at this ⊢; omega)]
    simp [pairsB]
  | c :: r, i, acc, h, hi, ha => by
    have hl := drop_lt h
    rw [List.length_cons] at ha
    have e1 : strings_Builder_WriteByte acc (hexA c) = some (none, acc ++ [hexA c]) := by
      unfold strings_Builder_WriteByte strings_Builder_copyCheck
      rw [osome, req_yes (by simp; omega)]; rfl
    have e2 : strings_Builder_WriteByte (acc ++ [hexA c]) (hexZ c) = some (none, acc ++ [hexA c] ++ [hexZ c]) := by
      unfold strings_Builder_WriteByte strings_Builder_copyCheck
      rw [osome, req_yes (by simp; omega)]; rfl
    rw [raw_told_l1, if_pos (by simpa using hl), obind (ix_drop h), obind (hex_hi c), obind e1, obind (hex_lo c), obind e2, w64_succ (by omega),
      told_l1 b hb r (i + 1) _ (drop_next h) (by omega) (by simp; omega), pairs_cons]
    simp
theorem told_eq (b : List UInt8) (hb : b.length ≤ 1000000) : raw_told b = some (toldB b) := by
  unfold raw_told toldB
  cases b with
  | nil => rfl
  | cons c r =>
    have e : raw_told_l1 (c :: r) 0 [] = some ([] ++ pairsB (c :: r)) := told_l1 (c :: r) hb _ 0 [] rfl (by omega) (by simp at hb ⊢; omega)
    rw [if_neg (by simp; omega), obind e, if_neg (by simp)]; rfl
theorem read_l1_ok (s : List UInt8) (hs : s.length ≤ 1000000) : ∀ (d : List UInt8) (i : Nat) (acc : List UInt8), s.drop i = pairsB d → i ≤ s.length → acc.length ≤ i → raw_read_l1 s (i : Int) acc = some (Sum.inl (acc ++ d))
  | [], i, acc, h, hi, ha => by
    have := drop_len h hi
    rw [raw_read_l1, if_neg (by simp [pairsB] at this ⊢; omega)]
    simp
  | c :: d, i, acc, h, hi, ha => by
    rw [pairs_cons] at h
    have hl := drop_lt h
    have h1 := drop_next h
    have hl1 := drop_lt h1
    have h2 := drop_next h1
    obtain ⟨i1, i2, i3⟩ := hex_in c
    rw [raw_read_l1, if_pos (by simpa using hl), obind (ix_drop h), w64_succ (by omega), obind (ix_drop h1), obind (sib_eq _ _), obind (sib_eq _ _)]
    show (if decide (idxB hexs (hexA c) < 0) = true then some true else some (decide (idxB hexs (hexZ c) < 0))) >>= _ = _
    rw [oif, if_neg (by simpa using And.intro i1 i2)]
    show (req ((acc.length + [toB (or64 (w64 (idxB hexs (hexA c) * 2 ^ 4)) (idxB hexs (hexZ c)))].length) * 1 ≤ 140737488355328 ∧ _) >>= fun _ => raw_read_l1 s (w64 ((i : Int) + 2)) (acc ++ [toB (or64 (w64 (idxB hexs (hexA c) * 2 ^ 4)) (idxB hexs (hexZ c)))])) = _
    rw [i3, req_yes (by simp; omega), osome, show w64 ((i : Int) + 2) = ((i + 1 + 1 : Nat) : Int) from by rw [w64_id (by omega) (by omega)]; omega,
      read_l1_ok s hs d (i + 1 + 1) _ h2 (by omega) (by simp; omega)]
    simp
theorem read_l1_tot (s : List UInt8) (hs : s.length ≤ 1000000) : ∀ (n i : Nat) (acc : List UInt8) (r : List UInt8), s.drop i = r → r.length = 2 * n → i ≤ s.length → acc.length ≤ i →
    (∃ d, r = pairsB d ∧ raw_read_l1 s (i : Int) acc = some (Sum.inl (acc ++ d))) ∨ (∃ z, raw_read_l1 s (i : Int) acc = some (Sum.inr z))
  | 0, i, acc, r, h, hn, hi, ha => by
    have hr : r = [] := List.eq_nil_of_length_eq_zero (by omega)
    subst hr
    exact .inl ⟨[], rfl, read_l1_ok s hs [] i acc h hi ha⟩
  | n + 1, i, acc, r, h, hn, hi, ha => by
    obtain ⟨c1, c2, r, rfl⟩ : ∃ c1 c2 r', r = c1 :: c2 :: r' := by
      match r, hn with
      | [], hn => simp at hn
      | [_], hn => simp at hn; omega
      | a :: b :: r, _ => exact ⟨a, b, r, rfl⟩
    have hl := drop_lt h
    have h1 := drop_next h
    have hl1 := drop_lt h1
    have h2 := drop_next h1
    rw [raw_read_l1, if_pos (by simpa using hl), obind (ix_drop h), w64_succ (by omega), obind (ix_drop h1), obind (sib_eq _ _), obind (sib_eq _ _)]
    show (∃ d, c1 :: c2 :: r = pairsB d ∧ ((if decide (idxB hexs c1 < 0) = true then some true else some (decide (idxB hexs c2 < 0))) >>= _) = _) ∨ (∃ z, ((if decide (idxB hexs c1 < 0) = true then some true else some (decide (idxB hexs c2 < 0))) >>= _) = _)
    rw [oif]
    by_cases k1 : idxB hexs c1 < 0
    · right
      exact ⟨acc, by rw [if_pos (by simpa using Or.inl k1)]⟩
    by_cases k2 : idxB hexs c2 < 0
    · right
      refine ⟨acc, ?_⟩
      rw [if_pos (by simpa using Or.inr k2)]
    obtain ⟨i1, e1, f1⟩ := hex_at c1 (by omega)
    obtain ⟨i2, e2, f2⟩ := hex_at c2 (by omega)
    obtain ⟨g1, g2⟩ := hex_two i1 i2
    have hd2 : ∀ d, pairsB (toB (or64 (w64 ((i1.val : Int) * 2 ^ 4)) (i2.val : Int)) :: d) = c1 :: c2 :: pairsB d := by
      intro d; rw [pairs_cons, g1, g2, f1, f2]
    rw [if_neg (by have : ¬ (idxB hexs c1 < 0 ∨ idxB hexs c2 < 0) := by omega
                   simpa using this)]
    show (∃ d, c1 :: c2 :: r = pairsB d ∧ (req ((acc.length + [toB (or64 (w64 (idxB hexs c1 * 2 ^ 4)) (idxB hexs c2))].length) * 1 ≤ 140737488355328 ∧ _) >>= fun _ => raw_read_l1 s (w64 ((i : Int) + 2)) (acc ++ [toB (or64 (w64 (idxB hexs c1 * 2 ^ 4)) (idxB hexs c2))])) = _) ∨ (∃ z, (req ((acc.length + [toB (or64 (w64 (idxB hexs c1 * 2 ^ 4)) (idxB hexs c2))].length) * 1 ≤ 140737488355328 ∧ _) >>= fun _ => raw_read_l1 s (w64 ((i : Int) + 2)) (acc ++ [toB (or64 (w64 (idxB hexs c1 * 2 ^ 4)) (idxB hexs c2))])) = _)
    rw [req_yes (by simp; omega), osome, e1, e2, show w64 ((i : Int) + 2) = ((i + 1 + 1 : Nat) : Int) from by rw [w64_id (by omega) (by omega)]; omega]
    rcases read_l1_tot s hs n (i + 1 + 1) (acc ++ [toB (or64 (w64 ((i1.val : Int) * 2 ^ 4)) (i2.val : Int))]) r h2 (by simp at hn; omega) (by omega) (by simp; omega) with ⟨d, rfl, hd⟩ | ⟨z, hz⟩
    · left
      exact ⟨_ :: d, (hd2 d).symm, by rw [hd]; simp⟩
    · right
      exact ⟨z, hz⟩
theorem read_told (b : List UInt8) (hb : b.length ≤ 100000) : raw_read (toldB b) = some (b, true) := by
  cases b with
  | nil => rfl
  | cons c r =>
    have hp := pairs_len (c :: r)
    rw [List.length_cons] at hp hb
    have ht : toldB (c :: r) = pairsB (c :: r) := if_neg (by simp)
    have hn : ¬ (pairsB (c :: r) == [45]) = true := by
      intro e
      have h1 := congrArg List.length (eq_of_beq e)
      rw [hp] at h1; simp at h1; omega
    have hn2 : ¬ (pairsB (c :: r) == []) = true := by rw [pairs_cons]; simp
    have e : irem (((pairsB (c :: r)).length : Int)) 2 = some 0 := by
      have : ((pairsB (c :: r)).length : Int).tmod 2 = 0 := by rw [hp, Int.tmod_eq_emod_of_nonneg (by omega)]; omega
      unfold irem; rw [if_neg (by omega), this]
    have e2 : raw_read_l1 (pairsB (c :: r)) 0 [] = some (Sum.inl ([] ++ (c :: r))) := read_l1_ok (pairsB (c :: r)) (by omega) (c :: r) 0 [] rfl (by omega) (by simp)
    unfold raw_read
    rw [ht, if_neg hn, if_neg hn2, obind e, osome, if_neg (by simp), obind e2]
    rfl
theorem read_tot (s : List UInt8) (hs : s.length ≤ 1000000) : ∃ b ok, raw_read s = some (b, ok) ∧ (ok = true → toldB b = s) := by
  unfold raw_read
  by_cases h1 : s = [45]
  · subst h1
    exact ⟨[], true, rfl, fun _ => rfl⟩
  rw [if_neg (by simpa using h1)]
  by_cases h2 : s = []
  · subst h2
    exact ⟨[], false, rfl, by simp⟩
  rw [if_neg (by simpa using h2)]
  have e : irem ((s.length : Int)) 2 = some ((s.length % 2 : Nat) : Int) := by
    unfold irem; rw [if_neg (by omega)]; congr 1
  rw [obind e, osome]
  by_cases h3 : s.length % 2 = 0
  · rw [h3, if_neg (by simp)]
    rcases read_l1_tot s hs (s.length / 2) 0 [] s rfl (by omega) (by omega) (by simp) with ⟨d, hd, hr⟩ | ⟨z, hz⟩
    · have hr' : raw_read_l1 s 0 [] = some (Sum.inl ([] ++ d)) := hr
      rw [obind hr']
      refine ⟨d, true, rfl, fun _ => ?_⟩
      unfold toldB
      rw [if_neg (fun e => h2 (by rw [hd, e]; rfl)), hd]
    · have hz' : raw_read_l1 s 0 [] = some (Sum.inr z) := hz
      rw [obind hz']
      exact ⟨[], false, rfl, by simp⟩
  · rw [if_pos (by simp; omega)]
    exact ⟨[], false, rfl, by simp⟩
/-! numbers -/
theorem number_dec (u : Nat) (h : u ≤ 9999) : raw_number (Lib.decDigits u) = some ((u : Int), true) := by
  have hl := dec_len4 h
  have e : strconv_ParseUint (Lib.decDigits u) 10 16 = some ((u : Int), true) := by
    unfold strconv_ParseUint
    rw [if_pos ⟨rfl, rfl, by omega⟩, puB_dec u (by omega)]
  have hw : IntKind.i64.wrap (u : Int) = (u : Int) := by rw [wrap_i64]; exact w64_nat (by omega)
  unfold raw_number
  rw [obind e]
  dsimp only
  rw [if_pos rfl, if_pos (by simpa using (by omega)), hw]
  by_cases h1 : (Lib.decDigits u).length = 1
  · rw [if_pos (by simp [h1])]; rfl
  · rw [if_neg (by simpa using (by omega))]
    have hu : 1 ≤ u := by
      rcases Nat.lt_or_ge u 1 with h0 | h0
      · exfalso; apply h1; rw [Lib.decDigits_one (by omega)]; rfl
      · exact h0
    obtain ⟨c, r, hc, hz⟩ := dec_head u hu
    rw [hc]
    have e0 : ix (c :: r) 0 = some c := rfl
    rw [obind e0, osome]
    simp [hz]
theorem number_tot (s : List UInt8) (hs : s.length ≤ 1000000) : ∃ v ok, raw_number s = some (v, ok) ∧ (ok = true → ∃ u : Nat, u ≤ 9999 ∧ v = (u : Int) ∧ s = Lib.decDigits u) := by
  have e : ∃ v ok, strconv_ParseUint s 10 16 = some (v, ok) ∧ (ok = true → ∃ u : Nat, v = (u : Int) ∧ Lib.parseUintB 16 s = .ok u) := by
    unfold strconv_ParseUint
    rw [if_pos ⟨rfl, rfl, by omega⟩]
    cases h : Lib.parseUintB 16 s with
    | ok u => exact ⟨_, _, rfl, fun _ => ⟨u, rfl, rfl⟩⟩
    | range => exact ⟨_, _, rfl, by simp⟩
    | _ => exact ⟨_, _, rfl, by simp⟩
  obtain ⟨v, ok, hv, hok⟩ := e
  unfold raw_number
  rw [obind hv]
  dsimp only
  cases ok with
  | false => exact ⟨_, _, rfl, by simp⟩
  | true =>
    obtain ⟨u, rfl, hu⟩ := hok rfl
    rw [if_pos rfl]
    by_cases h4 : s.length ≤ 4
    · rw [if_pos (by simpa using (by omega))]
      cases s with
      | nil => simp [Lib.parseUintB] at hu
      | cons c l =>
        have hb : u ≤ 9999 := by
          have h' : Lib.parseUintM 65535 0 (c :: l) = .ok u := by
            unfold Lib.parseUintB at hu
            rw [if_neg (by simp)] at hu
            exact hu
          have := puM_lt _ _ _ h'
          have h10 : 10 ^ (c :: l).length ≤ 10 ^ 4 := Nat.pow_le_pow_right (by omega) h4
          omega
        have hw : IntKind.i64.wrap (u : Int) = (u : Int) := by rw [wrap_i64]; exact w64_nat (by omega)
        rw [hw]
        by_cases h1 : l = []
        · subst h1
          rw [if_pos (by simp)]
          exact ⟨_, _, rfl, fun _ => ⟨u, hb, rfl, (puB_back hu (.inl rfl)).symm⟩⟩
        · have h1' : 1 ≤ l.length := by cases l with | nil => exact absurd rfl h1 | cons a b => simp
          have e0 : ix (c :: l) 0 = some c := rfl
          rw [if_neg (by simp; omega), obind e0, osome]
          refine ⟨_, _, rfl, fun hz => ⟨u, hb, rfl, (puB_back hu (.inr ?_)).symm⟩⟩
          simpa using hz
    · rw [if_neg (by simpa using (by omega))]
      exact ⟨_, _, rfl, by simp⟩
/-! rows of places -/
def comma (us : List Nat) : List UInt8 := Lib.join (us.map Lib.decDigits) [44]
def ints (us : List Nat) : List Int := us.map fun (u : Nat) => (u : Int)
theorem marks_l1_ok (ys : List (List UInt8)) (hy : ys.length ≤ 1000000) : ∀ (us : List Nat) (i : Nat) (acc : List Int), ys.drop i = us.map Lib.decDigits → (∀ u ∈ us, u ≤ 9999) → i ≤ ys.length → acc.length ≤ i → raw_marks_l1 ys (i : Int) acc = some (Sum.inl (acc ++ ints us))
  | [], i, acc, h, hu, hi, ha => by
    have := drop_len h hi
    rw [raw_marks_l1, if_neg (by simp at this ⊢; omega)]
    simp [ints]
  | u :: us, i, acc, h, hu, hi, ha => by
    rw [List.map_cons] at h
    have hl := drop_lt h
    rw [raw_marks_l1, if_pos (by simpa using hl), obind (ix_drop h), obind (number_dec u (hu u (by simp)))]
    dsimp only
    rw [if_neg (by simp), req_yes (by simp; omega), osome, w64_succ (by omega), marks_l1_ok ys hy us (i + 1) _ (drop_next h) (fun v hv => hu v (by simp [hv])) (by omega) (by simp; omega)]
    simp [ints]
theorem marks_l1_tot (ys : List (List UInt8)) (hy : ys.length ≤ 1000000) (hys : ∀ y ∈ ys, y.length ≤ 1000000) : ∀ (r : List (List UInt8)) (i : Nat) (acc : List Int), ys.drop i = r → i ≤ ys.length → acc.length ≤ i →
    (∃ us : List Nat, (∀ u ∈ us, u ≤ 9999) ∧ r = us.map Lib.decDigits ∧ raw_marks_l1 ys (i : Int) acc = some (Sum.inl (acc ++ ints us))) ∨ (∃ z, raw_marks_l1 ys (i : Int) acc = some (Sum.inr z))
  | [], i, acc, h, hi, ha => .inl ⟨[], by simp, rfl, marks_l1_ok ys hy [] i acc h (by simp) hi ha⟩
  | y :: r, i, acc, h, hi, ha => by
    have hl := drop_lt h
    have hm : y ∈ ys := by
      have : y ∈ ys.drop i := by rw [h]; simp
      exact List.mem_of_mem_drop this
    obtain ⟨v, ok, hv, hok⟩ := number_tot y (hys y hm)
    rw [raw_marks_l1, if_pos (by simpa using hl), obind (ix_drop h), obind hv]
    dsimp only
    cases ok with
    | false => right; exact ⟨acc, rfl⟩
    | true =>
      obtain ⟨u, hu, rfl, rfl⟩ := hok rfl
      rw [if_neg (by simp), req_yes (by simp; omega), osome, w64_succ (by omega)]
      rcases marks_l1_tot ys hy hys r (i + 1) (acc ++ [(u : Int)]) (drop_next h) (by omega) (by simp; omega) with ⟨us, h1, rfl, h3⟩ | ⟨z, hz⟩
      · left
        refine ⟨u :: us, ?_, rfl, ?_⟩
        · intro w hw
          rcases List.mem_cons.1 hw with rfl | hw
          · exact hu
          · exact h1 w hw
        · rw [h3]; simp [ints]
      · right; exact ⟨z, hz⟩
theorem no_comma (u : Nat) : (44 : UInt8) ∉ Lib.decDigits u := fun h => by
  have := dec_digs u _ h
  unfold digB at this
  simp at this
theorem marks_dec (us : List Nat) (h0 : us ≠ []) (hu : ∀ u ∈ us, u ≤ 9999) (hl : (comma us).length ≤ 1000000) (hk : us.length ≤ 1000000) : raw_marks (comma us) = some (ints us, true) := by
  unfold raw_marks
  have e : spl 44 (comma us) = us.map Lib.decDigits := spl_of_join 44 _ (by simpa using h0) (by
    intro p hp
    obtain ⟨u, _, rfl⟩ := List.mem_map.1 hp
    exact no_comma u)
  have e2 : raw_marks_l1 (us.map Lib.decDigits) 0 [] = some (Sum.inl ([] ++ ints us)) := marks_l1_ok (us.map Lib.decDigits) (by simpa using hk) us 0 [] rfl hu (by omega) (by simp)
  rw [obind (split_one _ _ hl), e, obind e2]
  rfl
theorem part_len (xs : List (List UInt8)) (sep : List UInt8) : ∀ x ∈ xs, x.length ≤ (Lib.join xs sep).length := by
  induction xs with
  | nil => simp
  | cons a r ih =>
    intro x hx
    cases r with
    | nil => simp at hx; rw [hx, Lib.join_one]; omega
    | cons b r =>
      rw [join_two, List.length_append, List.length_append]
      rcases List.mem_cons.1 hx with rfl | hx
      · omega
      · have := ih x hx; omega
theorem spl_short (c : UInt8) (s : List UInt8) : ∀ p ∈ spl c s, p.length ≤ s.length := by
  intro p hp
  have := part_len (spl c s) [c] p hp
  rwa [spl_join] at this
theorem marks_tot (s : List UInt8) (hs : s.length ≤ 10000) : ∃ ms ok, raw_marks s = some (ms, ok) ∧ (ok = true → ∃ us : List Nat, us ≠ [] ∧ ms = ints us ∧ s = comma us) := by
  unfold raw_marks
  have hc : s.count 44 ≤ s.length := List.count_le_length
  have hl := spl_len 44 s
  rw [obind (split_one _ _ (by omega))]
  rcases marks_l1_tot (spl 44 s) (by omega) (fun y hy => by have := spl_short 44 s y hy; omega) _ 0 [] rfl (by omega) (by simp) with ⟨us, h1, h2, h3⟩ | ⟨z, hz⟩
  · have h3' : raw_marks_l1 (spl 44 s) 0 [] = some (Sum.inl ([] ++ ints us)) := h3
    rw [obind h3']
    refine ⟨_, true, rfl, fun _ => ⟨us, ?_, rfl, ?_⟩⟩
    · intro e
      subst e
      exact spl_ne 44 s h2
    · have := spl_join 44 s
      rw [show spl 44 s = us.map Lib.decDigits from h2] at this
      exact this.symm
  · have hz' : raw_marks_l1 (spl 44 s) 0 [] = some (Sum.inr z) := hz
    rw [obind hz']
    exact ⟨_, false, rfl, by simp⟩
theorem itoa_eq (u : Nat) (h : u ≤ 9999) : strconv_Itoa (u : Int) = some (Lib.decDigits u) := by
  unfold strconv_Itoa
  rw [if_pos (by omega), itoa_nat]
theorem places_l1 (us : List Nat) (hk : us.length ≤ 1000000) (hu : ∀ u ∈ us, u ≤ 9999) : ∀ (r : List Nat) (i : Nat) (acc : List (List UInt8)), us.drop i = r → i ≤ us.length → acc.length ≤ i → raw_places_l1 (ints us) (i : Int) acc = some (acc ++ r.map Lib.decDigits)
  | [], i, acc, h, hi, ha => by
    have := drop_len h hi
    rw [raw_places_l1, if_neg (by simp [ints] at this ⊢; omega)]
    simp
  | u :: r, i, acc, h, hi, ha => by
    have hl := drop_lt h
    have hm : u ∈ us := by
      have : u ∈ us.drop i := by rw [h]; simp
      exact List.mem_of_mem_drop this
    have hx : (ints us).drop i = (u : Int) :: ints r := by
      unfold ints; rw [← List.map_drop, h]; rfl
    rw [raw_places_l1, if_pos (by simpa [ints] using hl), obind (ix_drop hx), obind (itoa_eq u (hu u hm)), req_yes (by simp; omega), osome, w64_succ (by omega),
      places_l1 us hk hu r (i + 1) _ (drop_next h) (by omega) (by simp; omega)]
    simp
theorem join_len (n m : Nat) (sep : List UInt8) (hsep : sep.length = 1) : ∀ xs : List (List UInt8), (∀ x ∈ xs, x.length ≤ n) → (Lib.join xs sep).length ≤ (n + 1) * xs.length
  | [], _ => by simp [Lib.join_nil]
  | [x], h => by
    rw [Lib.join_one]
    have := h x (by simp)
    simp; omega
  | x :: y :: r, h => by
    rw [join_two, List.length_append, List.length_append]
    have h1 := h x (by simp)
    have h2 := join_len n m sep hsep (y :: r) (fun z hz => h z (by simp [hz]))
    rw [List.length_cons (a := x), Nat.mul_succ]
    omega
theorem comma_len (us : List Nat) (hu : ∀ u ∈ us, u ≤ 9999) : (comma us).length ≤ 5 * us.length := by
  have := join_len 4 0 [44] rfl (us.map Lib.decDigits) (by
    intro x hx
    obtain ⟨u, h, rfl⟩ := List.mem_map.1 hx
    exact dec_len4 (hu u h))
  simpa [comma] using this
theorem places_eq (us : List Nat) (hk : us.length ≤ 100000) (hu : ∀ u ∈ us, u ≤ 9999) : raw_places (ints us) = some (comma us) := by
  have hc := comma_len us hu
  unfold raw_places
  have e := places_l1 us (by omega) hu us 0 [] rfl (by omega) (by simp)
  have e' : raw_places_l1 (ints us) 0 [] = some (us.map Lib.decDigits) := e
  rw [obind e']
  unfold strings_Join
  rw [if_pos ⟨by simp; omega, by unfold comma at hc; omega⟩]; rfl
end Go.Proofs.YthjfnknhcmhmiaaDoor
