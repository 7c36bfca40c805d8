/-
  The plain law of chapter 30, fourth part: the reference's quoting.
-/
import Derived.Test.YtekcconmnhjhiaaDoorP3
set_option linter.unusedVariables false
set_option linter.unusedSimpArgs false
set_option maxRecDepth 10000
namespace Go.Proofs.YtekcconmnhjhiaaDoor
open Go Go.RowKit Sl

/-- what one letter adds -/
def rtold (s : List UInt8) (j : Int) (c : UInt8) (held : Bool) (acc : List UInt8) : Option (List UInt8) := do
  if (c == 10) = true then (do
      let _ ← req (acc.length + ([92, 110] : List UInt8).length ≤ 9223372036854775807)
      some (acc ++ ([92, 110] : List UInt8)))
  else (do
      if (c == 13) = true then (do
          let _ ← req (acc.length + ([92, 114] : List UInt8).length ≤ 9223372036854775807)
          some (acc ++ ([92, 114] : List UInt8)))
      else (do
          if (c == 9) = true then (do
              let _ ← req (acc.length + ([92, 116] : List UInt8).length ≤ 9223372036854775807)
              some (acc ++ ([92, 116] : List UInt8)))
          else (do
              let x94 ← (do
                  if (c == 34) = true then (do
                      some true)
                  else (do
                      some (c == 36)) : Option Bool)
              let x97 ← (do
                  if (x94) = true then (do
                      some true)
                  else (do
                      some (c == 92)) : Option Bool)
              if (x97) = true then (do
                  let s101 ← cutL s j ((w64 (j + 1)))
                  let _ ← req (([92] : List UInt8).length + s101.length ≤ 9223372036854775807)
                  let _ ← req (acc.length + (([92] : List UInt8) ++ s101).length ≤ 9223372036854775807)
                  some (acc ++ (([92] : List UInt8) ++ s101)))
              else (do
                  let x105 ← (do
                      if (decide (32 ≤ c)) = true then (do
                          some (decide (c < 127)))
                      else (do
                          some false) : Option Bool)
                  let x108 ← (do
                      if (x105) = true then (do
                          some (!held))
                      else (do
                          some false) : Option Bool)
                  if (x108) = true then (do
                      let s112 ← cutL s j ((w64 (j + 1)))
                      let _ ← req (acc.length + s112.length ≤ 9223372036854775807)
                      some (acc ++ s112))
                  else (do
                      let q115 ← bquo c 16
                      let q117 ← bquo c 16
                      let s119 ← cutL ([48, 49, 50, 51, 52, 53, 54, 55, 56, 57, 97, 98, 99, 100, 101, 102] : List UInt8) ((b8 q115)) ((b8 (q117 + 1)))
                      let _ ← req (([92, 120] : List UInt8).length + s119.length ≤ 9223372036854775807)
                      let q122 ← brem c 16
                      let q124 ← brem c 16
                      let s126 ← cutL ([48, 49, 50, 51, 52, 53, 54, 55, 56, 57, 97, 98, 99, 100, 101, 102] : List UInt8) ((b8 q122)) ((b8 (q124 + 1)))
                      let _ ← req ((([92, 120] : List UInt8) ++ s119).length + s126.length ≤ 9223372036854775807)
                      let _ ← req (acc.length + ((([92, 120] : List UInt8) ++ s119) ++ s126).length ≤ 9223372036854775807)
                      some (acc ++ ((([92, 120] : List UInt8) ++ s119) ++ s126)))))))
/-- is it held back -/
def rheld (l : List R_Piece) (i j : Int) (c : UInt8) : Option Bool := do
  let x49 ← (do
      if (j == 0) = true then (do
          some (decide (i > 0)))
      else (do
          some false) : Option Bool)
  let x53 ← (do
      if (x49) = true then (do
          let e56 ← ix l (w64 (i - 1))
          let c66 ← ix e56.f_Var 0
          let y68 ← R_Letter c66
          some y68)
      else (do
          some false) : Option Bool)
  let x73 ← (do
      if (x53) = true then (do
          let y76 ← R_Letter c
          let x81 ← (do
              if (y76) = true then (do
                  some true)
              else (do
                  let y84 ← R_Figure c
                  some y84) : Option Bool)
          some x81)
      else (do
          some false) : Option Bool)
  some x73
theorem rl2_eq (x : R_Piece) (i : Int) (l : List R_Piece) (j : Int) (acc : List UInt8) : R_Quote_l2 x i l j acc = if decide (j < (x.f_Lit.length : Int)) = true then (do
    let c ← ix x.f_Lit j
    let held ← rheld l i j c
    let a ← rtold x.f_Lit j c held acc
    R_Quote_l2 x i l (w64 (j + 1)) a) else some acc := by
  rw [R_Quote_l2]
  unfold rheld rtold
  simp only [Option.bind_eq_bind, Option.bind_assoc, Option.bind_some]
theorem cut_one {s : List UInt8} {j : Nat} {c : UInt8} (h : s[j]? = some c) : cutL s (j : Int) (((j + 1 : Nat)) : Int) = some [c] := by
  have hlt := (List.getElem?_eq_some_iff.1 h).1
  unfold cutL
  rw [if_pos ⟨by omega, by omega, by omega⟩]
  congr 1
  rw [Int.toNat_natCast, Int.toNat_natCast, List.drop_take, show j + 1 - j = 1 by omega, List.drop_eq_getElem_cons hlt]
  have : s[j] = c := (List.getElem?_eq_some_iff.1 h).2
  simp [this]
theorem rtold_eq (s : List UInt8) (j : Nat) (c : UInt8) (held : Bool) (acc : List UInt8) (hj : s[j]? = some c) (hl : s.length ≤ 500) (hb : acc.length ≤ 100000000) : rtold s (j : Int) c held acc = some (acc ++ toldB c (!held)) := by
  have hlt := (List.getElem?_eq_some_iff.1 hj).1
  have hc := c.toNat_lt
  have hb2 : acc.length + 2 ≤ 9223372036854775807 := by omega
  have e1 : w64 ((j : Int) + 1) = ((j + 1 : Nat) : Int) := by rw [w64_id (by omega) (by omega)]; rfl
  unfold rtold toldB
  rw [e1, cut_one hj]
  by_cases a1 : c = 10
  · simp [a1, req, hb2]
  by_cases a2 : c = 13
  · simp [a2, req, hb2]
  by_cases a3 : c = 9
  · simp [a3, req, hb2]
  by_cases a4 : c = 34
  · simp [a4, req, hb2]
  by_cases a5 : c = 36
  · simp [a5, req, hb2]
  by_cases a6 : c = 92
  · simp [a6, req, hb2]
  have hq : bquo c 16 = some (c / 16) := by simp [bquo]
  have hr : brem c 16 = some (c % 16) := by simp [brem]
  have hx : ∀ n : Nat, n < 16 → ∀ q : UInt8, q.toNat = n → cutL ([48, 49, 50, 51, 52, 53, 54, 55, 56, 57, 97, 98, 99, 100, 101, 102] : List UInt8) (b8 q) (b8 (q + 1)) = some [hexs.getD n 0] := by
    intro n hn q hqn
    have h1 : (b8 (q + 1)) = ((n + 1 : Nat) : Int) := by
      simp only [b8, UInt8.toNat_add, hqn]
      have : (1 : UInt8).toNat = 1 := rfl
      omega
    have h2 : b8 q = (n : Int) := by simp only [b8, hqn]
    rw [h1, h2]
    refine cut_one (s := hexs) ?_
    rw [List.getElem?_eq_getElem (by simpa [hexs] using hn), List.getD_eq_getElem?_getD, List.getElem?_eq_getElem (by simpa [hexs] using hn)]
    rfl
  have hx1 := hx (c.toNat / 16) (by omega) (c / 16) (by rw [UInt8.toNat_div]; rfl)
  have hx2 := hx (c.toNat % 16) (by omega) (c % 16) (by rw [UInt8.toNat_mod]; rfl)
  have hle : (c ≤ 126) = (c < 127) := by
    rw [UInt8.le_iff_toNat_le, UInt8.lt_iff_toNat_lt, eq_iff_iff]
    have h1 : (126 : UInt8).toNat = 126 := rfl
    have h2 : (127 : UInt8).toNat = 127 := rfl
    omega
  simp only [hq, hr, hx1, hx2, a1, a2, a3, a4, a5, a6, beq_iff_eq, if_false, Option.bind_eq_bind, Option.bind_some, or_self, hle]
  rw [req_yes (by simp; omega), req_yes (by simp), req_yes (by simp), req_yes (by simp; omega)]
  cases held <;> by_cases a7 : 32 ≤ c <;> by_cases a8 : c < 127 <;> simp [a7, a8, a4, a5, a6]
end Go.Proofs.YtekcconmnhjhiaaDoor
