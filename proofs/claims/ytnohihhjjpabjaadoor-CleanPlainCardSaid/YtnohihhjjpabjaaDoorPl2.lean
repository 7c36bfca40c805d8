/-
  Plain laws of what is sent: bytes replaced, data, verbs, subnegotiations.
-/
import Derived.Test.YtnohihhjjpabjaaDoorPl1
set_option linter.unusedVariables false
set_option linter.unusedSimpArgs false
set_option maxRecDepth 10000
namespace Go.Proofs.YtnohihhjjpabjaaDoor
open Go Go.RowKit Sl

theorem index_one (s : List UInt8) (c : UInt8) : bytes_Index s [c] = some (idxB s c) := by
  unfold bytes_Index bytes_IndexByte
  have h0 : ix [c] 0 = some c := rfl
  simp [h0]
theorem count_one (s : List UInt8) (c : UInt8) : bytes_Count s [c] = some (cntB s c) := by
  unfold bytes_Count
  have h0 : ix [c] 0 = some c := rfl
  simp [h0]
theorem replace_l1 (b : List UInt8) (m : Nat) (hb : b.length ≤ 1000000) (hm : m ≤ 1000000) : ∀ (j k : Nat) (a r t z : List UInt8), m - k = j → k ≤ m → b = a ++ r → r.count 255 = m - k → t = esc a ++ z → z.length = r.length + r.count 255 →
    ∃ a' r' z', b = a' ++ r' ∧ (255 : UInt8) ∉ r' ∧ z'.length = r'.length ∧ bytes_Replace_l1 (m : Int) b [255] [255, 255] (k : Int) (a.length : Int) ((esc a).length : Int) t = some (((esc a').length : Int), (a'.length : Int), esc a' ++ z') := by
  intro j
  induction j with
  | zero =>
    intro k a r t z hj hk hbr hc ht hz
    have hmk : k = m := by omega
    subst hmk
    have hc0 : r.count 255 = 0 := by omega
    refine ⟨a, r, z, hbr, List.count_eq_zero.1 hc0, by omega, ?_⟩
    rw [bytes_Replace_l1, if_neg (by simp), ht]
  | succ j ih =>
    intro k a r t z hj hk hbr hc ht hz
    subst ht
    have hlt : k < m := by omega
    have hmem : (255 : UInt8) ∈ r := by
      apply List.count_pos_iff.1; omega
    obtain ⟨p, q, rfl, hp⟩ := split_at_mem hmem
    have hcp : p.count 255 = 0 := List.count_eq_zero.2 hp
    have hcq : (p ++ 255 :: q).count 255 = q.count 255 + 1 := by rw [List.count_append, hcp, List.count_cons]; simp
    have hlen : b.length = a.length + (p.length + 1 + q.length) := by rw [hbr]; simp; omega
    have hea := esc_length a
    have hca : a.count 255 ≤ a.length := List.count_le_length
    have hcq' : q.count 255 ≤ q.length := List.count_le_length
    rw [hcq] at hc hz
    rw [List.length_append, List.length_cons] at hz
    have hzl : z.length = p.length + (q.length + q.count 255 + 2) := by omega
    rw [bytes_Replace_l1, if_pos (by simpa using hlt)]
    have c1 : cutL b (a.length : Int) (b.length : Int) = some (p ++ 255 :: q) := by rw [hbr]; exact cutL_end _ _
    rw [obind c1, obind (index_one _ _), idxB_at q hp]
    have c2 : cutL (esc a ++ z) ((esc a).length : Int) ((esc a ++ z).length : Int) = some z := cutL_end _ _
    rw [obind c2]
    rw [show w64 ((a.length : Int) + (p.length : Int)) = ((a.length + p.length : Nat) : Int) from w64_add (by omega)]
    have c3 : cutL b (a.length : Int) ((a.length + p.length : Nat) : Int) = some p := by
      have : b = a ++ p ++ (255 :: q) := by rw [hbr]; simp
      rw [this]; exact cutL_mid _ _ _
    rw [obind c3]
    simp only [Int.toNat_natCast]
    have htl : (esc a ++ z).length = (esc a).length + z.length := List.length_append
    have o1 : ovw (esc a ++ z) (esc a).length ((esc a ++ z).length - (esc a).length) p = esc a ++ p ++ z.drop p.length := ovw_at (esc a) z p (by omega)
    have m1 : min p.length ((esc a ++ z).length - (esc a).length) = p.length := Nat.min_eq_left (by omega)
    rw [o1, m1, show w64 (((esc a).length : Int) + ((p.length : Nat) : Int)) = (((esc a).length + p.length : Nat) : Int) from w64_add (by omega)]
    have hl2 : (esc a ++ p ++ z.drop p.length).length = (esc a).length + z.length := by simp only [List.length_append, List.length_drop]; omega
    have c4 : cutL (esc a ++ p ++ z.drop p.length) (((esc a).length + p.length : Nat) : Int) ((esc a ++ p ++ z.drop p.length).length : Int) = some (z.drop p.length) := by
      have := cutL_end (esc a ++ p) (z.drop p.length)
      rw [List.length_append] at this
      exact this
    rw [obind c4]
    simp only [Int.toNat_natCast]
    have hab : (esc a ++ p).length = (esc a).length + p.length := List.length_append
    have o2 : ovw (esc a ++ p ++ z.drop p.length) ((esc a).length + p.length) ((esc a ++ p ++ z.drop p.length).length - ((esc a).length + p.length)) [255, 255] = esc a ++ p ++ [255, 255] ++ (z.drop p.length).drop 2 := by
      have := ovw_at (esc a ++ p) (z.drop p.length) [255, 255] (n := (esc a ++ p ++ z.drop p.length).length - ((esc a).length + p.length)) (by rw [hl2]; simp only [List.length_cons, List.length_nil]; omega)
      rw [hab] at this
      exact this
    have m2 : min ([255, 255] : List UInt8).length ((esc a ++ p ++ z.drop p.length).length - ((esc a).length + p.length)) = 2 := by
      rw [hl2]; simp only [List.length_cons, List.length_nil]; omega
    rw [o2, m2]
    have hesc : esc (a ++ p ++ [255]) = esc a ++ p ++ [255, 255] := by rw [esc_append, esc_append, esc_plain hp]; rfl
    rw [show w64 ((((esc a).length + p.length : Nat) : Int) + ((2 : Nat) : Int)) = ((esc (a ++ p ++ [255])).length : Int) from by
        rw [w64_add (by omega), hesc]; simp; omega,
      show w64 (((a.length + p.length : Nat) : Int) + (([255] : List UInt8).length : Int)) = ((a ++ p ++ [255]).length : Int) from by
        rw [w64_add (by simp; omega)]; simp; omega,
      show w64 ((k : Int) + 1) = ((k + 1 : Nat) : Int) from w64_succ (by omega)]
    have hr := ih (k + 1) (a ++ p ++ [255]) q (esc a ++ p ++ [255, 255] ++ (z.drop p.length).drop 2) ((z.drop p.length).drop 2) (by omega) (by omega) (by rw [hbr]; simp) (by omega) (by rw [hesc]) (by simp; omega)
    exact hr
theorem data_eq (b : List UInt8) (hb : b.length ≤ 1000000) : emit_Data b = some (esc b) := by
  have key : bytes_Replace b [255] [255, 255] (-1) = some (esc b) := by
    unfold bytes_Replace
    have hcl : b.count 255 ≤ b.length := List.count_le_length
    rw [if_pos (by decide), obind (count_one b 255), osome]
    by_cases h0 : b.count 255 = 0
    · have e0 : (cntB b 255 == 0) = true := by simp [cntB, h0]
      rw [e0, if_pos rfl, obind (req_yes (by simp; omega)), esc_plain (List.count_eq_zero.1 h0)]; rfl
    · have e0 : (cntB b 255 == 0) = false := by simp [cntB]; omega
      rw [e0, if_neg Bool.false_ne_true]
      have e1 : decide ((-1 : Int) < 0) = true := by decide
      rw [e1, if_pos rfl, osome, if_pos rfl, osome]
      rw [show w64 ((([255, 255] : List UInt8).length : Int) - (([255] : List UInt8).length : Int)) = 1 from by decide +kernel,
        show w64 (cntB b 255 * 1) = ((b.count 255 : Nat) : Int) from by rw [Int.mul_one]; exact w64_nat (by omega),
        show w64 ((b.length : Int) + ((b.count 255 : Nat) : Int)) = ((b.length + b.count 255 : Nat) : Int) from w64_add (by omega), obind (req_yes ⟨by omega, by omega, by omega, by omega⟩)]
      have e5 : decide ((([255] : List UInt8).length : Int) > 0) = true := by decide
      rw [e5, if_pos rfl]
      obtain ⟨a', r', z', hbr, hr', hz', hl⟩ := replace_l1 b (b.count 255) hb (by omega) (b.count 255) 0 [] b (List.replicate (b.length + b.count 255) 0) (List.replicate (b.length + b.count 255) 0) (by omega) (by omega) rfl (by omega) (by simp [esc]) (by simp)
      have hl' : bytes_Replace_l1 (cntB b 255) b [255] [255, 255] 0 0 0 (List.replicate (((b.length + b.count 255 : Nat) : Int)).toNat 0) = some (((esc a').length : Int), (a'.length : Int), esc a' ++ z') := hl
      rw [obind hl', osome]
      dsimp only
      have hlen : b.length = a'.length + r'.length := by rw [hbr]; simp
      have hea := esc_length a'
      have hca : a'.count 255 ≤ a'.length := List.count_le_length
      rw [obind (cutL_end _ _)]
      have c2 : cutL b (a'.length : Int) (b.length : Int) = some r' := by
        have := cutL_end a' r'
        rwa [← hbr] at this
      rw [obind c2]
      simp only [Int.toNat_natCast]
      have haz : (esc a' ++ z').length = (esc a').length + z'.length := List.length_append
      have o1 : ovw (esc a' ++ z') (esc a').length ((esc a' ++ z').length - (esc a').length) r' = esc a' ++ r' ++ z'.drop r'.length := ovw_at (esc a') z' r' (by omega)
      have m1 : min r'.length ((esc a' ++ z').length - (esc a').length) = r'.length := Nat.min_eq_left (by omega)
      rw [o1, m1, show w64 (((esc a').length : Int) + ((r'.length : Nat) : Int)) = (((esc a').length + r'.length : Nat) : Int) from w64_add (by omega)]
      have hz0 : z'.drop r'.length = [] := List.drop_eq_nil_of_le (by omega)
      rw [hz0, List.append_nil]
      have c3 : cutL (esc a' ++ r') 0 (((esc a').length + r'.length : Nat) : Int) = some (esc a' ++ r') := by
        have := cutL_nat (esc a' ++ r') 0 ((esc a').length + r'.length) (by omega) (by simp)
        rw [List.take_of_length_le (by simp)] at this
        exact this
      rw [obind c3]
      have hfin : esc b = esc a' ++ r' := by rw [hbr, esc_append, esc_plain hr']
      rw [hfin, List.take_of_length_le (by simp; omega)]
  unfold emit_Data bytes_ReplaceAll
  rw [obind (obind key)]
end Go.Proofs.YtnohihhjjpabjaaDoor
