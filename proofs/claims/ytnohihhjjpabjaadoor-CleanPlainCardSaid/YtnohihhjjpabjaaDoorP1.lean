/-
  The plain law of chapter 9: without marks, raw, the tokens are layer 5's; what is sent comes in as it was.
-/
import Derived.Test.YtnohihhjjpabjaaDoorPl3
set_option linter.unusedVariables false
set_option linter.unusedSimpArgs false
set_option maxRecDepth 10000
namespace Go.Proofs.YtnohihhjjpabjaaDoor
open Go Go.RowKit Sl

/-! ### the cleaner -/
/-- does a token stay, and what is known then: was the last byte a carriage return, is it deaf -/
def stayB (t : iac_Token) (raw : Bool) (bh deaf : Bool) : Bool × Bool × Bool :=
  if t.f_Kind = 2 ∧ t.f_Code = 242 then (true, bh, false)
  else if t.f_Kind ≠ 1 then (true, bh, deaf)
  else if deaf then (false, bh, deaf)
  else (raw || (toB t.f_Code != 0) || !bh, !raw && toB t.f_Code == 13, deaf)
def stepC (raw : Bool) (k : clean_Cleaner) (c : UInt8) : Option iac_Token × clean_Cleaner :=
  match (stepB k.f_tokens c).1 with
  | none => (none, ⟨(stepB k.f_tokens c).2, k.f_in, k.f_deaf⟩)
  | some t => (if (stayB t raw k.f_in.f_behind k.f_deaf).1 then some t else none, ⟨(stepB k.f_tokens c).2, ⟨(stayB t raw k.f_in.f_behind k.f_deaf).2.1⟩, (stayB t raw k.f_in.f_behind k.f_deaf).2.2⟩)
theorem next_eq (i : nvt_In) (c : UInt8) (raw : Bool) : nvt_In_Next i c raw = some (raw || (c != 0) || !i.f_behind, ⟨!raw && c == 13⟩) := by
  unfold nvt_In_Next
  cases raw <;> cases c != 0 <;> simp
theorem stays_eq (k : clean_Cleaner) (t : iac_Token) (raw : Bool) : clean_Cleaner_stays k t raw = some ((stayB t raw k.f_in.f_behind k.f_deaf).1, ⟨k.f_tokens, ⟨(stayB t raw k.f_in.f_behind k.f_deaf).2.1⟩, (stayB t raw k.f_in.f_behind k.f_deaf).2.2⟩) := by
  unfold clean_Cleaner_stays stayB
  simp only [next_eq, Option.bind_eq_bind, Option.bind_some]
  by_cases h1 : t.f_Kind = 2
  · by_cases h2 : t.f_Code = 242
    · simp [h1, h2]
    · simp [h1, h2]
  · by_cases h3 : t.f_Kind = 1
    · cases hd : k.f_deaf <;> simp [h1, h3]
    · simp [h1, h3]
theorem cfeed_eq (k : clean_Cleaner) (c : UInt8) (raw : Bool) : clean_Cleaner_Feed k c false raw = some ((stepC raw k c).1.getD tk0, (stepC raw k c).1.isSome, (stepC raw k c).2) := by
  obtain ⟨s, i, d⟩ := k
  unfold clean_Cleaner_Feed stepC
  dsimp only
  have hd : (if d = true then some true else some false : Option Bool) = some d := by cases d <;> rfl
  rw [hd, osome, obind (feed_eq s c)]
  dsimp only
  cases ht : (stepB s c).1 with
  | none => rfl
  | some t =>
    simp only [Option.isSome_some, Bool.not_true, Bool.false_eq_true, if_false, Option.getD_some]
    have hs := stays_eq ⟨(stepB s c).2, i, d⟩ t raw
    rw [obind hs, osome]
    dsimp only
    cases (stayB t raw i.f_behind d).1 <;> rfl
def runC (raw : Bool) : clean_Cleaner → List UInt8 → List iac_Token × clean_Cleaner
  | k, [] => ([], k)
  | k, c :: r => ((stepC raw k c).1.toList ++ (runC raw (stepC raw k c).2 r).1, (runC raw (stepC raw k c).2 r).2)
theorem runC_append (raw : Bool) (k : clean_Cleaner) (a b : List UInt8) : runC raw k (a ++ b) = ((runC raw k a).1 ++ (runC raw (runC raw k a).2 b).1, (runC raw (runC raw k a).2 b).2) := by
  induction a generalizing k with
  | nil => rfl
  | cons c a ih => simp only [List.cons_append, runC, ih, List.append_assoc]
abbrev ck0 : clean_Cleaner := ⟨tks0, ⟨false⟩, false⟩
theorem contains_nil (n : Int) : slices_Contains_int_int [] n = some false := by
  unfold slices_Contains_int_int slices_Index_int_int
  have : slices_Index_int_int_l1 [] n 0 = some (.inl ()) := by rw [slices_Index_int_int_l1]; rfl
  have h2 : slices_Index_int_int [] n = some (-1) := by unfold slices_Index_int_int; rw [obind this]
  unfold slices_Index_int_int at h2
  rw [obind h2]; rfl
theorem call_l1 (b : List UInt8) (raw : Bool) (hb : b.length ≤ 1000000) : ∀ (r : List UInt8) (i : Nat) (k : clean_Cleaner) (out : List iac_Token), b.drop i = r → i ≤ b.length → out.length + r.length ≤ 1000000 →
    clean_All_l1 b [] raw ((i : Int), out, k.f_tokens.f_state, k.f_tokens.f_token.f_Kind, k.f_tokens.f_token.f_Code, k.f_tokens.f_token.f_Option, k.f_tokens.f_token.f_Cut, k.f_in.f_behind, k.f_deaf, k.f_tokens.f_token.f_Body) = some (out ++ (runC raw k r).1, (runC raw k r).2.f_tokens.f_state, (runC raw k r).2.f_tokens.f_token.f_Kind, (runC raw k r).2.f_tokens.f_token.f_Code, (runC raw k r).2.f_tokens.f_token.f_Option, (runC raw k r).2.f_tokens.f_token.f_Cut, (runC raw k r).2.f_in.f_behind, (runC raw k r).2.f_deaf, (runC raw k r).2.f_tokens.f_token.f_Body) := by
  intro r
  induction r with
  | nil =>
    intro i k out hr hi ho
    have := drop_len hr hi
    rw [clean_All_l1, if_neg (by simp at this ⊢; omega)]
    simp [runC]
  | cons c r ih =>
    intro i k out hr hi ho
    have hlt := drop_lt hr
    rw [List.length_cons] at ho
    rw [clean_All_l1, if_pos (by simpa using hlt), obind (ix_drop hr), obind (contains_nil _)]
    have hf := cfeed_eq k c raw
    rw [obind hf]
    dsimp only
    have ih' := ih (i + 1) (stepC raw k c).2
    rw [show w64 ((i : Int) + 1) = ((i + 1 : Nat) : Int) from w64_succ (by omega)]
    cases ht : (stepC raw k c).1 with
    | none =>
      rw [if_neg (by simp), osome]
      rw [ih' out (drop_next hr) (by omega) (by omega)]
      simp [runC, ht]
    | some t =>
      rw [if_pos (by simp)]
      simp only [Option.getD_some]
      rw [obind (req_yes (by simp; omega)), osome]
      rw [ih' (out ++ [t]) (drop_next hr) (by omega) (by simp; omega)]
      simp [runC, ht]
theorem call_eq (b : List UInt8) (raw : Bool) (hb : b.length ≤ 1000000) : clean_All b [] raw = some (runC raw ck0 b).1 := by
  unfold clean_All
  have h := call_l1 b raw hb b 0 ck0 [] rfl (by omega) (by simpa using hb)
  have h' : clean_All_l1 b [] raw (0, [], 0, 0, 0, 0, false, false, false, []) = _ := h
  rw [obind h']
  simp
/-- raw, all tokens stay -/
theorem runC_raw : ∀ (b : List UInt8) (k : clean_Cleaner), k.f_deaf = false → (runC true k b).1 = (runB k.f_tokens b).1 := by
  intro b
  induction b with
  | nil => intro k _; rfl
  | cons c b ih =>
    intro k hd
    simp only [runC, runB]
    have hstep : (stepC true k c).1 = (stepB k.f_tokens c).1 ∧ (stepC true k c).2.f_tokens = (stepB k.f_tokens c).2 ∧ (stepC true k c).2.f_deaf = false := by
      unfold stepC
      cases ht : (stepB k.f_tokens c).1 with
      | none => exact ⟨rfl, rfl, hd⟩
      | some t =>
        have : (stayB t true k.f_in.f_behind k.f_deaf).1 = true ∧ (stayB t true k.f_in.f_behind k.f_deaf).2.2 = false := by
          unfold stayB
          rw [hd]
          (repeat' split) <;> simp_all
        dsimp only
        rw [this.1, this.2]
        exact ⟨rfl, rfl, rfl⟩
    rw [hstep.1, ih _ hstep.2.2, hstep.2.1]
/-! ### data -/
def datB (l : List iac_Token) : List UInt8 := l.filterMap fun t => if t.f_Kind = 1 then some (toB t.f_Code) else none
theorem datB_append (a b : List iac_Token) : datB (a ++ b) = datB a ++ datB b := by simp [datB]
theorem data_l1 (l : List iac_Token) (hl : l.length ≤ 1000000) : ∀ (r : List iac_Token) (i : Nat) (acc : List UInt8), l.drop i = r → i ≤ l.length → acc.length + r.length ≤ 1000000 → clean_Data_l1 l (i : Int) acc = some (acc ++ datB r) := by
  intro r
  induction r with
  | nil =>
    intro i acc hr hi ha
    have := drop_len hr hi
    rw [clean_Data_l1, if_neg (by simp at this ⊢; omega)]
    simp [datB]
  | cons t r ih =>
    intro i acc hr hi ha
    have hlt := drop_lt hr
    rw [List.length_cons] at ha
    rw [clean_Data_l1, if_pos (by simpa using hlt), obind (ix_drop hr), show w64 ((i : Int) + 1) = ((i + 1 : Nat) : Int) from w64_succ (by omega)]
    by_cases h1 : t.f_Kind = 1
    · rw [if_pos (by simp [h1]), obind (req_yes (by simp; omega)), osome, ih (i + 1) _ (drop_next hr) (by omega) (by simp; omega)]
      simp [datB, h1]
    · rw [if_neg (by simp [h1]), osome, ih (i + 1) _ (drop_next hr) (by omega) (by omega)]
      simp [datB, h1]
theorem runC_len (raw : Bool) (k : clean_Cleaner) (b : List UInt8) : (runC raw k b).1.length ≤ b.length := by
  induction b generalizing k with
  | nil => simp [runC]
  | cons c b ih =>
    have := ih (stepC raw k c).2
    have h1 : (stepC raw k c).1.toList.length ≤ 1 := by cases (stepC raw k c).1 <;> simp
    simp only [runC, List.length_append, List.length_cons]; omega
theorem cdata_eq (b : List UInt8) (raw : Bool) (hb : b.length ≤ 1000000) : clean_Data b [] raw = some (datB (runC raw ck0 b).1) := by
  unfold clean_Data
  have hl := runC_len raw ck0 b
  have h : clean_Data_l1 (runC raw ck0 b).1 0 [] = some ([] ++ datB (runC raw ck0 b).1) := data_l1 _ (by omega) _ 0 [] rfl (by omega) (by simp; omega)
  rw [obind (call_eq b raw hb), obind h]
  rfl
/-! ### what goes out, what comes in -/
def encB (raw : Bool) : List UInt8 → List UInt8
  | [] => []
  | c :: r => if raw = false ∧ c = 13 ∧ r.head? ≠ some 10 then c :: 0 :: encB raw r else c :: encB raw r
theorem encB_len (raw : Bool) (p : List UInt8) : (encB raw p).length ≤ 2 * p.length := by
  induction p with
  | nil => simp [encB]
  | cons c p ih =>
    simp only [encB]
    split <;> simp <;> omega
theorem enc_l1 (p : List UInt8) (raw : Bool) (hp : p.length ≤ 100000) : ∀ (r : List UInt8) (i : Nat) (acc : List UInt8), p.drop i = r → i ≤ p.length → acc.length + 2 * r.length ≤ 1000000 → nvt_Encode_l1 p raw (i : Int) acc = some (acc ++ encB raw r) := by
  intro r
  induction r with
  | nil =>
    intro i acc hr hi ha
    have := drop_len hr hi
    rw [nvt_Encode_l1, if_neg (by simp at this ⊢; omega)]
    simp [encB]
  | cons c r ih =>
    intro i acc hr hi ha
    have hlt := drop_lt hr
    have hlen := drop_len hr hi
    rw [List.length_cons] at ha hlen
    have hcond : ∀ {β : Type} (f : Bool → Option β), ((if (if (!raw) = true then (c == 13) else false) = true then (do
        let x45 ← (if ((i : Int) == w64 ((p.length : Int) - 1)) = true then some true else do
          let e48 ← ix p (w64 ((i : Int) + 1))
          some (e48 != 10))
        some x45) else some false) >>= f) = f (decide (raw = false ∧ c = 13 ∧ r.head? ≠ some 10)) := by
      intro β f
      cases hraw : raw
      case true => rfl
      case false =>
        by_cases hc : c = 13
        · subst hc
          rw [if_pos (by rfl)]
          cases hr2 : r with
          | nil =>
            have e1 : ((i : Int) == w64 ((p.length : Int) - 1)) = true := by
              rw [w64_id (by omega) (by omega)]
              rw [hr2] at hlen
              simp at hlen ⊢; omega
            rw [e1, if_pos rfl]
            rfl
          | cons d r2 =>
            have e1 : ((i : Int) == w64 ((p.length : Int) - 1)) = false := by
              rw [w64_id (by omega) (by omega)]
              rw [hr2] at hlen
              simp at hlen ⊢; omega
            have hx : ix p (w64 ((i : Int) + 1)) = some d := by
              rw [show w64 ((i : Int) + 1) = ((i + 1 : Nat) : Int) from w64_succ (by omega)]
              have := drop_next hr
              rw [hr2] at this
              exact ix_drop this
            rw [e1, if_neg Bool.false_ne_true, obind hx]
            show f (d != 10) = _
            congr 1
            by_cases hd : d = 10 <;> simp [hd]
        · have : (c == 13) = false := by simpa using hc
          rw [this]
          show f false = _
          congr 1
          simp [hc]
    rw [nvt_Encode_l1, if_pos (by simpa using hlt), obind (ix_drop hr), obind (req_yes (by simp; omega)), oif, hcond, show w64 ((i : Int) + 1) = ((i + 1 : Nat) : Int) from w64_succ (by omega)]
    by_cases hh : raw = false ∧ c = 13 ∧ r.head? ≠ some 10
    · rw [decide_eq_true hh, if_pos rfl, obind (req_yes (by simp; omega)), osome, ih (i + 1) _ (drop_next hr) (by omega) (by simp; omega)]
      simp only [encB, if_pos hh]
      simp
    · rw [decide_eq_false hh, if_neg Bool.false_ne_true, osome, ih (i + 1) _ (drop_next hr) (by omega) (by simp; omega)]
      simp only [encB, if_neg hh]
      simp
theorem enc_eq (p : List UInt8) (raw : Bool) (hp : p.length ≤ 100000) : nvt_Encode p raw = some (encB raw p) := by
  unfold nvt_Encode
  have h : nvt_Encode_l1 p raw 0 [] = some ([] ++ encB raw p) := enc_l1 p raw hp p 0 [] rfl (by omega) (by simp; omega)
  rw [obind h]; rfl
/-- a data byte, escaped -/
theorem run_datum (raw bh : Bool) (c : UInt8) : runC raw ⟨tks0, ⟨bh⟩, false⟩ (esc [c]) = (if (raw || (c != 0) || !bh) = true then [⟨1, b8 c, 0, [], false⟩] else [], ⟨tks0, ⟨!raw && c == 13⟩, false⟩) := by
  have hst : stayB ⟨1, b8 c, 0, [], false⟩ raw bh false = (raw || (c != 0) || !bh, !raw && c == 13, false) := by
    unfold stayB
    simp [toB_b8]
  by_cases h : c = 255
  · subst h
    have hst' : stayB ⟨1, 255, 0, [], false⟩ raw bh false = (raw || ((255 : UInt8) != 0) || !bh, !raw && (255 : UInt8) == 13, false) := hst
    have h1 : stepC raw ⟨tks0, ⟨bh⟩, false⟩ 255 = (none, ⟨⟨1, tk0⟩, ⟨bh⟩, false⟩) := by simp [stepC, stepB]
    have h2 : stepC raw ⟨⟨1, tk0⟩, ⟨bh⟩, false⟩ 255 = (some ⟨1, 255, 0, [], false⟩, ⟨tks0, ⟨false⟩, false⟩) := by
      simp [stepC, stepB, hst']
    show runC raw ⟨tks0, ⟨bh⟩, false⟩ [255, 255] = _
    simp only [runC, h1, h2]
    cases raw <;> simp [b8]
  · have h1 : stepC raw ⟨tks0, ⟨bh⟩, false⟩ c = (if (raw || (c != 0) || !bh) = true then some ⟨1, b8 c, 0, [], false⟩ else none, ⟨tks0, ⟨!raw && c == 13⟩, false⟩) := by
      simp [stepC, stepB, h, hst]
    have he : esc [c] = [c] := by simp [esc, h]
    rw [he]
    simp only [runC, h1]
    cases raw || (c != 0) || !bh <;> simp
theorem run_part (raw : Bool) : ∀ (p : List UInt8) (bh : Bool), (bh = true → raw = false ∧ p.head? = some 10) → (p = [] → bh = false) →
    ∃ l, runC raw ⟨tks0, ⟨bh⟩, false⟩ (esc (encB raw p)) = (l, ⟨tks0, ⟨false⟩, false⟩) ∧ datB l = p := by
  intro p
  induction p with
  | nil => intro bh _ h; rw [h rfl]; exact ⟨[], rfl, rfl⟩
  | cons c p ih =>
    intro bh hbh _
    have hkeep : (raw || (c != 0) || !bh) = true := by
      cases hb : bh
      · simp
      · have := (hbh hb).2
        simp at this
        subst this
        simp
    have h1 := run_datum raw bh c
    rw [hkeep, if_pos rfl] at h1
    have hd1 : datB [(⟨1, b8 c, 0, [], false⟩ : iac_Token)] = [c] := by simp [datB, toB_b8]
    simp only [encB]
    by_cases hh : raw = false ∧ c = 13 ∧ p.head? ≠ some 10
    · rw [if_pos hh]
      have e : esc (c :: 0 :: encB raw p) = esc [c] ++ (esc [0] ++ esc (encB raw p)) := by rw [← esc_append, ← esc_append]; rfl
      have h2 := run_datum raw (!raw && c == 13) 0
      obtain ⟨l, hl, hd⟩ := ih false (fun h => by cases h) (fun _ => rfl)
      rw [e, runC_append, h1]
      dsimp only
      rw [runC_append, h2]
      dsimp only
      have h13 : (!raw && (0 : UInt8) == 13) = false := by cases raw <;> rfl
      rw [h13, hl]
      refine ⟨_, rfl, ?_⟩
      rw [datB_append, datB_append, hd1, hd, hh.1, hh.2.1]
      simp [datB]
    · rw [if_neg hh]
      have e : esc (c :: encB raw p) = esc [c] ++ esc (encB raw p) := by rw [← esc_append]; rfl
      have hb2 : (!raw && c == 13) = true → raw = false ∧ p.head? = some 10 := by
        intro h
        simp only [Bool.and_eq_true, Bool.not_eq_true', beq_iff_eq] at h
        refine ⟨h.1, ?_⟩
        by_cases h10 : p.head? = some 10
        · exact h10
        · exact absurd ⟨h.1, h.2, h10⟩ hh
      have hb3 : p = [] → (!raw && c == 13) = false := by
        intro hp
        cases hq : (!raw && c == 13)
        · rfl
        · have := (hb2 hq).2
          rw [hp] at this; cases this
      obtain ⟨l, hl, hd⟩ := ih (!raw && c == 13) hb2 hb3
      rw [e, runC_append, h1]
      dsimp only
      rw [hl]
      exact ⟨_, rfl, by rw [datB_append, hd1, hd]; rfl⟩
theorem run_verb (raw : Bool) (code opt : Int) (h1 : 251 ≤ code ∧ code ≤ 254) (h2 : 0 ≤ opt ∧ opt ≤ 255) : ∃ l, runC raw ⟨tks0, ⟨false⟩, false⟩ [255, toB code, toB opt] = (l, ⟨tks0, ⟨false⟩, false⟩) ∧ datB l = [] := by
  have hb := b8_toB (n := code) (by omega) (by omega)
  have hn1 : ¬ toB code = 255 := fun e => by
    rw [e] at hb
    have : code = 255 := by rw [← hb]; rfl
    omega
  have hn2 : ¬ toB code = 250 := fun e => by
    rw [e] at hb
    have : code = 250 := by rw [← hb]; rfl
    omega
  have s1 : stepC raw ⟨tks0, ⟨false⟩, false⟩ 255 = (none, ⟨⟨1, tk0⟩, ⟨false⟩, false⟩) := by simp [stepC, stepB]
  have s2 : stepC raw ⟨⟨1, tk0⟩, ⟨false⟩, false⟩ (toB code) = (none, ⟨⟨2, ⟨0, code, 0, [], false⟩⟩, ⟨false⟩, false⟩) := by
    simp [stepC, stepB, hn1, hn2, hb, h1]
  have s3 : stepC raw ⟨⟨2, ⟨0, code, 0, [], false⟩⟩, ⟨false⟩, false⟩ (toB opt) = (some ⟨3, code, b8 (toB opt), [], false⟩, ⟨tks0, ⟨false⟩, false⟩) := by
    simp [stepC, stepB, stayB]
  refine ⟨[⟨3, code, b8 (toB opt), [], false⟩], ?_, by simp [datB]⟩
  simp [runC, s1, s2, s3]
/-! ### the law -/
theorem same_self (t : iac_Token) : iac_Same t t = some true := by
  unfold iac_Same bytes_Equal
  simp
theorem same_l1 (l : List iac_Token) (b : Bool) (hl : l.length ≤ 1000000) : ∀ (r : List iac_Token) (i : Nat), l.drop i = r → i ≤ l.length → Law_CleanPlain_l1 (l, b) l (i : Int) = some (.inl ()) := by
  intro r
  induction r with
  | nil =>
    intro i hr hi
    have := drop_len hr hi
    rw [Law_CleanPlain_l1, if_neg (by simp at this ⊢; omega)]
  | cons t r ih =>
    intro i hr hi
    have hlt := drop_lt hr
    have hx := ix_drop hr
    rw [Law_CleanPlain_l1, if_pos (by simpa using hlt), obind hx, obind hx, obind (same_self t), if_neg (by simp), show w64 ((i : Int) + 1) = ((i + 1 : Nat) : Int) from w64_succ (by omega)]
    exact ih (i + 1) (drop_next hr) (by omega)
theorem verb_eq (code opt : Int) (h1 : 251 ≤ code ∧ code ≤ 254) (h2 : 0 ≤ opt ∧ opt ≤ 255) : emit_Verb code opt = some ([255, toB code, toB opt], none) := by
  unfold emit_Verb
  rw [obind (cverb_eq _), if_neg (by simp [h1]), obind (byteable_eq _), if_neg (by simp [h2])]
theorem sent_l2 (ps : List (List UInt8)) (raw : Bool) (hl : ps.length ≤ 20) : ∀ (r : List (List UInt8)) (i : Nat) (all sent : List UInt8), ps.drop i = r → i ≤ ps.length → all.length + 50 * r.length ≤ 100000 → sent.length + 1000 * r.length ≤ 100000 →
    (∃ l, runC raw ck0 sent = (l, ck0) ∧ datB l = all) →
    (∃ all' sent', Law_CleanPlain_l2 ps raw (i : Int) all sent = some (.inl (all', sent')) ∧ sent'.length ≤ 100000 ∧ ∃ l, runC raw ck0 sent' = (l, ck0) ∧ datB l = all') ∨ ∃ s, Law_CleanPlain_l2 ps raw (i : Int) all sent = some (.inr (true, s)) := by
  intro r
  induction r with
  | nil =>
    intro i all sent hr hi h1 h2 hs
    have := drop_len hr hi
    left
    refine ⟨all, sent, ?_, by simp at h2; omega, hs⟩
    rw [Law_CleanPlain_l2, if_neg (by simp at this ⊢; omega)]
  | cons p r ih =>
    intro i all sent hr hi h1 h2 hs
    have hlt := drop_lt hr
    rw [List.length_cons] at h1 h2
    rw [Law_CleanPlain_l2, if_pos (by simpa using hlt), obind (ix_drop hr)]
    by_cases h50 : p.length > 50
    · right
      rw [if_pos (by simp; omega)]
      exact ⟨_, rfl⟩
    · have hen := encB_len raw p
      have hes := esc_length (encB raw p)
      have hcn : (encB raw p).count 255 ≤ (encB raw p).length := List.count_le_length
      rw [if_neg (by simp; omega), obind (req_yes (by omega)), obind (enc_eq p raw (by omega)), obind (data_eq _ (by omega)), obind (req_yes (by omega))]
      have hq : irem (i : Int) 4 = some ((i % 4 : Nat) : Int) := rfl
      have hm : i % 4 < 4 := Nat.mod_lt _ (by omega)
      have hi20 : i < 20 := by omega
      rw [obind hq, show w64 (251 + ((i % 4 : Nat) : Int)) = 251 + ((i % 4 : Nat) : Int) from w64_id (by omega) (by omega), obind (verb_eq _ _ (by omega) (by omega)), if_neg (by simp), obind (req_yes (by simp; omega)), show w64 ((i : Int) + 1) = ((i + 1 : Nat) : Int) from w64_succ (by omega)]
      obtain ⟨l, hl1, hl2⟩ := hs
      obtain ⟨l2, hp1, hp2⟩ := run_part raw p false (fun h => by cases h) (fun _ => rfl)
      obtain ⟨l3, hv1, hv2⟩ := run_verb raw (251 + ((i % 4 : Nat) : Int)) (i : Int) (by omega) (by omega)
      refine ih (i + 1) (all ++ p) _ (drop_next hr) (by omega) (by simp; omega) (by simp; omega) ⟨l ++ l2 ++ l3, ?_, by rw [datB_append, datB_append, hl2, hp2, hv2, List.append_nil]⟩
      rw [runC_append, runC_append, hl1]
      dsimp only
      rw [hp1]
      dsimp only
      rw [hv1]
theorem alive_true : Law_alive = some true := Law_alive_ns (n := 40) (by kernel_rfl)
/-- THE LAW, PLAIN. -/
theorem cleanPlain_true (b : List UInt8) (ps : List (List UInt8)) (raw : Bool) : Law_CleanPlain b ps raw = some true := by
  unfold Law_CleanPlain
  rw [obind alive_true, if_neg (by simp), oif]
  generalize hc : (if decide ((b.length : Int) > 300) = true then true else decide ((ps.length : Int) > 20)) = c
  cases c with
  | true => rfl
  | false =>
  have hh : b.length ≤ 300 ∧ ps.length ≤ 20 := by
    by_cases h1 : (b.length : Int) > 300
    · simp [h1] at hc
    · simp [h1] at hc; omega
  have hr := runB_len tks0 b
  rw [if_neg Bool.false_ne_true, obind (all_eq b (by omega)), obind (call_eq b true (by omega)), runC_raw b ck0 rfl]
  dsimp only
  rw [if_neg (by simp)]
  have h1 : Law_CleanPlain_l1 ((runB tks0 b).1, (runB tks0 b).2.f_state == 0) (runB tks0 b).1 0 = some (.inl ()) := same_l1 _ _ (by omega) _ 0 rfl (by omega)
  rw [obind h1]
  dsimp only
  have h2 := sent_l2 ps raw hh.2 ps 0 [] [] rfl (by omega) (by simp; omega) (by simp; omega) ⟨[], rfl, rfl⟩
  have e0 : ((0 : Nat) : Int) = 0 := rfl
  rw [e0] at h2
  rcases h2 with ⟨all, sent, h2, h3, l, h4, h5⟩ | ⟨s, h2⟩
  · rw [obind h2]
    dsimp only
    rw [obind (cdata_eq sent raw (by omega)), h4, h5]
    simp
  · rw [obind h2]
end Go.Proofs.YtnohihhjjpabjaaDoor
