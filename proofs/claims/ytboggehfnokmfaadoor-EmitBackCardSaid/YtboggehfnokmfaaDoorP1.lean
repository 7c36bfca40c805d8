/-
  The plain law of chapter 6: what is told as bytes is read as the same tokens.
-/
import Derived.Test.YtboggehfnokmfaaDoorPl3
set_option linter.unusedVariables false
set_option linter.unusedSimpArgs false
set_option maxRecDepth 10000
namespace Go.Proofs.YtboggehfnokmfaaDoor
open Go Go.RowKit Sl

/-- all tokens' bytes; none: one may not be told -/
def tokBs : List iac_Token → Option (List UInt8)
  | [] => some []
  | t :: l => match tokB t, tokBs l with
    | some e, some r => some (e ++ r)
    | _, _ => none
theorem tokB_len {t : iac_Token} {e : List UInt8} (h : tokB t = some e) : e.length ≤ 1000 := by
  unfold tokB at h
  have hb : t.f_Body.length ≤ 256 → (esc t.f_Body).length ≤ 512 := fun hl => by
    have := esc_length t.f_Body
    have := List.count_le_length (a := (255 : UInt8)) (l := t.f_Body)
    omega
  have h1 := esc_length [toB t.f_Code]
  have h2 := List.count_le_length (a := (255 : UInt8)) (l := [toB t.f_Code])
  simp only [List.length_singleton] at h1 h2
  (repeat' split at h) <;> first | (cases h; done) | (obtain rfl := Option.some.inj h; first | omega | (simp; done) | (rename_i hr; have := hb hr.2.1; simp; omega))
theorem emit_l1 (l : List iac_Token) (hl : l.length ≤ 1000) : ∀ (r : List iac_Token) (i : Nat) (acc : List UInt8), l.drop i = r → i ≤ l.length → acc.length + 1000 * r.length ≤ 2000000 →
    (∀ e, tokBs r = some e → emit_All_l1 l (i : Int) acc = some (.inl (acc ++ e))) ∧ (tokBs r = none → ∃ n acc', emit_All_l1 l (i : Int) acc = some (.inr (some n, acc'))) := by
  intro r
  induction r with
  | nil =>
    intro i acc hr hi ha
    have := drop_len hr hi
    rw [emit_All_l1, if_neg (by simp at this ⊢; omega)]
    exact ⟨fun e he => by obtain rfl := Option.some.inj he; simp, fun h => by cases h⟩
  | cons t r ih =>
    intro i acc hr hi ha
    have hlt := drop_lt hr
    rw [List.length_cons] at ha
    obtain ⟨er, ht, hn⟩ := token_eq t
    rw [emit_All_l1, if_pos (by simpa using hlt), obind (ix_drop hr), obind ht]
    dsimp only
    cases hb : tokB t with
    | none =>
      have : er ≠ none := fun h => by have := hn.1 h; rw [hb] at this; cases this
      cases er with
      | none => exact absurd rfl this
      | some n =>
        rw [if_pos (by rfl)]
        exact ⟨fun e he => by simp [tokBs, hb] at he, fun _ => ⟨n, acc, rfl⟩⟩
    | some e =>
      have he : er = none := hn.2 (by rw [hb]; rfl)
      subst he
      have hel := tokB_len hb
      rw [if_neg (by simp), obind (req_yes (by simp; omega)), show w64 ((i : Int) + 1) = ((i + 1 : Nat) : Int) from w64_succ (by omega)]
      have ih' := ih (i + 1) (acc ++ e) (drop_next hr) (by omega) (by simp; omega)
      simp only [Option.getD_some]
      refine ⟨fun e' he' => ?_, fun hn' => ?_⟩
      · simp only [tokBs, hb] at he'
        cases hr' : tokBs r with
        | none => simp [hr'] at he'
        | some q =>
          simp only [hr', Option.some.injEq] at he'
          rw [ih'.1 q hr', ← he', List.append_assoc]
      · simp only [tokBs, hb] at hn'
        cases hr' : tokBs r with
        | none => exact ih'.2 hr'
        | some q => simp [hr'] at hn'
theorem toks_back {l : List iac_Token} : ∀ {e : List UInt8}, tokBs l = some e → runB tks0 e = (l.map normB, tks0) := by
  induction l with
  | nil => intro e h; obtain rfl := Option.some.inj h; rfl
  | cons t l ih =>
    intro e h
    simp only [tokBs] at h
    cases hb : tokB t with
    | none => simp [hb] at h
    | some x =>
      cases hr : tokBs l with
      | none => simp [hb, hr] at h
      | some q =>
        simp only [hb, hr, Option.some.injEq] at h
        subst h
        rw [runB_append, tok_back hb]
        dsimp only
        rw [ih hr]
        simp
theorem tokBs_len {l : List iac_Token} : ∀ {e : List UInt8}, tokBs l = some e → e.length ≤ 1000 * l.length := by
  induction l with
  | nil => intro e h; obtain rfl := Option.some.inj h; simp
  | cons t l ih =>
    intro e h
    simp only [tokBs] at h
    cases hb : tokB t with
    | none => simp [hb] at h
    | some x =>
      cases hr : tokBs l with
      | none => simp [hb, hr] at h
      | some q =>
        simp only [hb, hr, Option.some.injEq] at h
        subst h
        have := ih hr
        have := tokB_len hb
        simp; omega
theorem tokB_kind {t : iac_Token} {e : List UInt8} (h : tokB t = some e) : t.f_Kind = 1 ∨ t.f_Kind = 2 ∨ t.f_Kind = 3 ∨ t.f_Kind = 4 := by
  unfold tokB at h
  by_cases k1 : t.f_Kind = 1
  · exact .inl k1
  by_cases k2 : t.f_Kind = 2
  · exact .inr (.inl k2)
  by_cases k3 : t.f_Kind = 3
  · exact .inr (.inr (.inl k3))
  by_cases k4 : t.f_Kind = 4
  · exact .inr (.inr (.inr k4))
  · simp [k1, k2, k3, k4] at h
theorem tokBs_kind {l : List iac_Token} : ∀ {e : List UInt8}, tokBs l = some e → ∀ t ∈ l, ∃ x, tokB t = some x := by
  induction l with
  | nil => intro e h t ht; simp at ht
  | cons a l ih =>
    intro e h t ht
    simp only [tokBs] at h
    cases hb : tokB a with
    | none => simp [hb] at h
    | some x =>
      cases hr : tokBs l with
      | none => simp [hb, hr] at h
      | some q =>
        rcases List.mem_cons.1 ht with rfl | ht
        · exact ⟨x, hb⟩
        · exact ih hr t ht
theorem same_self (t : iac_Token) : iac_Same t t = some true := by
  unfold iac_Same bytes_Equal
  simp
theorem back_l1 (l : List iac_Token) (hl : l.length ≤ 1000) {e : List UInt8} (he : tokBs l = some e) (b : Bool) : ∀ (r : List iac_Token) (i : Nat), l.drop i = r → i ≤ l.length → Law_back_l1 l (l.map normB, b) (i : Int) = some (.inl ()) := by
  intro r
  induction r with
  | nil =>
    intro i hr hi
    have := drop_len hr hi
    rw [Law_back_l1, if_neg (by simp at this ⊢; omega)]
  | cons t r ih =>
    intro i hr hi
    have hlt := drop_lt hr
    rw [Law_back_l1, if_pos (by simpa using hlt)]
    have hx := ix_drop hr
    have hm : ix (l.map normB) (i : Int) = some (normB t) := by
      rw [ix_nat, List.getElem?_map, ← ix_nat, hx]; rfl
    have htm : t ∈ l := by
      have : t ∈ l.drop i := by rw [hr]; simp
      exact List.mem_of_mem_drop this
    obtain ⟨x, hxb⟩ := tokBs_kind he t htm
    have hk := tokB_kind hxb
    extract_lets k
    rw [obind hx]
    simp only [hm, oif, osome]
    have hw : (⟨t.f_Kind, if (t.f_Kind != 4) = true then t.f_Code else 0, if (if (t.f_Kind == 3) = true then true else t.f_Kind == 4) = true then t.f_Option else 0, if (t.f_Kind == 4) = true then t.f_Body else [], false⟩ : iac_Token) = normB t := by
      unfold normB
      rcases hk with hk | hk | hk | hk <;> simp [hk]
    rw [hw, obind (same_self _), if_neg (by simp)]
    show Law_back_l1 l (l.map normB, b) (w64 ((i : Int) + 1)) = _
    rw [show w64 ((i : Int) + 1) = ((i + 1 : Nat) : Int) from w64_succ (by omega)]
    exact ih (i + 1) (drop_next hr) (by omega)
theorem back_true (l : List iac_Token) (hl : l.length ≤ 1000) : Law_back l = some true := by
  unfold Law_back
  have h1 := emit_l1 l hl l 0 [] rfl (by omega) (by simp; omega)
  cases hb : tokBs l with
  | none =>
    obtain ⟨n, acc, h2⟩ := h1.2 hb
    have h3 : emit_All l = some ([], some n) := by
      unfold emit_All
      have h2' : emit_All_l1 l 0 [] = _ := h2
      rw [obind h2']
    rw [obind h3, if_pos (by rfl)]
    rfl
  | some e =>
    have h2 := h1.1 e hb
    have h3 : emit_All l = some (e, none) := by
      unfold emit_All
      have h2' : emit_All_l1 l 0 [] = _ := h2
      rw [obind h2', List.nil_append]
    have hel := tokBs_len hb
    rw [obind h3, if_neg (by simp), obind (all_eq e (by omega)), toks_back hb]
    dsimp only
    rw [if_neg (by simp), osome, if_neg (by simp)]
    have h4 : Law_back_l1 l (l.map normB, (0 : Int) == 0) 0 = _ := back_l1 l hl hb ((0 : Int) == 0) l 0 rfl (by omega)
    rw [obind h4]
theorem long_l1 (l : List iac_Token) (hl : l.length ≤ 1000) : ∀ (r : List iac_Token) (i : Nat), l.drop i = r → i ≤ l.length → Law_EmitBack_l1 l (i : Int) = some (.inl ()) ∨ Law_EmitBack_l1 l (i : Int) = some (.inr ()) := by
  intro r
  induction r with
  | nil =>
    intro i hr hi
    have := drop_len hr hi
    rw [Law_EmitBack_l1, if_neg (by simp at this ⊢; omega)]
    exact .inl rfl
  | cons t r ih =>
    intro i hr hi
    have hlt := drop_lt hr
    rw [Law_EmitBack_l1, if_pos (by simpa using hlt), obind (ix_drop hr)]
    split
    · exact .inr rfl
    · rw [show w64 ((i : Int) + 1) = ((i + 1 : Nat) : Int) from w64_succ (by omega)]
      exact ih (i + 1) (drop_next hr) (by omega)
theorem alive_true : Law_alive = some true := Law_alive_ns (n := 40) (by kernel_rfl)
/-- THE LAW, PLAIN. -/
theorem emitBack_true (l : List iac_Token) (raw : List UInt8) : Law_EmitBack l raw = some true := by
  unfold Law_EmitBack
  rw [obind alive_true, if_neg (by simp), oif]
  generalize hc : (if decide ((l.length : Int) > 30) = true then true else decide ((raw.length : Int) > 600)) = c
  cases c with
  | true => rfl
  | false =>
  have hh : l.length ≤ 30 ∧ raw.length ≤ 600 := by
    by_cases h1 : (l.length : Int) > 30
    · simp [h1] at hc
    · simp [h1] at hc; omega
  rw [if_neg Bool.false_ne_true]
  have hr := runB_len tks0 raw
  have e0 : ((0 : Nat) : Int) = 0 := rfl
  rcases long_l1 l (by omega) l 0 rfl (by omega) with h | h <;> rw [e0] at h <;> rw [obind h]
  dsimp only
  rw [obind (all_eq raw (by omega)), obind (back_true l (by omega)), if_pos rfl, obind (back_true (runB tks0 raw).1 (by omega))]
  rfl
end Go.Proofs.YtboggehfnokmfaaDoor
