/-
  The plain law of chapter 30, ninth part: gaps; the law that right pieces, quoted, are one token wherever they stand.
-/
import Derived.Test.YtekcconmnhjhiaaDoorP8
set_option linter.unusedVariables false
set_option linter.unusedSimpArgs false
set_option maxRecDepth 10000
namespace Go.Proofs.YtekcconmnhjhiaaDoor
open Go Go.RowKit Sl

/-! gaps -/
def blankB (c : UInt8) : Bool := c == 32 || (c == 9 || c == 13)
theorem skip1_eq (c : UInt8) : W_reader_skip_1 c = some (blankB c) := by
  unfold W_reader_skip_1 blankB
  cases c == 32 <;> cases c == 9 <;> simp
theorem obind {α β : Type} {x : Option α} {a : α} {f : α → Option β} (h : x = some a) : (x >>= f) = f a := by rw [h]; rfl
theorem osome {α β : Type} {a : α} {f : α → Option β} : (some a >>= f) = f a := rfl
theorem skip_to {s : List UInt8} {a : Nat} {bs : List UInt8} {c : UInt8} {r : List UInt8} (hb : bs.all blankB = true) (hc : blankB c = false) (h35 : c ≠ 35) (h : At s a (bs ++ c :: r)) : W_reader_skip ⟨s, (a : Int)⟩ = some ⟨s, ((a + bs.length : Nat) : Int)⟩ := by
  have hw := while_eq skip1_eq h
  have ht : (bs ++ c :: r).takeWhile blankB = bs := by
    rw [List.takeWhile_append_of_pos (fun x hx => List.all_eq_true.1 hb x hx)]
    simp [hc]
  rw [ht] at hw
  have h35' : (c == 35) = false := by simpa using h35
  have hl : W_reader_skip_l1 s (a : Int) = some (s, ((a + bs.length : Nat) : Int)) := by
    rw [W_reader_skip_l1]
    rw [obind hw]
    dsimp only
    rw [obind h.app.peek]
    dsimp only
    rw [h35', if_neg Bool.false_ne_true]
  unfold W_reader_skip
  simp only [hl, Option.bind_eq_bind, Option.bind_some]
theorem skip_end {s : List UInt8} {a : Nat} {r : List UInt8} (hr : r.all (fun c => c != 10) = true) (h : At s a (32 :: 35 :: r)) : W_reader_skip ⟨s, (a : Int)⟩ = some ⟨s, (s.length : Int)⟩ := by
  have hw := while_eq skip1_eq h
  have ht : (32 :: 35 :: r).takeWhile blankB = [32] := by simp [show blankB 32 = true by decide, show blankB 35 = false by decide]
  rw [ht] at hw
  have h1 := h.next
  have hw2 := while_eq (p := W_reader_skip_2) (q := fun c => c != 10) (fun c => rfl) h1
  have ht2 : (35 :: r).takeWhile (fun c => c != 10) = 35 :: r := by
    rw [List.takeWhile_cons, if_pos (by decide)]
    congr 1
    have := List.takeWhile_append_of_pos (l₂ := []) (fun x hx => List.all_eq_true.1 hr x hx)
    simpa using this
  rw [ht2] at hw2
  have hlen := h.len
  have e : a + 1 + (35 :: r).length = s.length := by simp at hlen ⊢; omega
  rw [e] at hw2
  have h3 : At s s.length [] := ⟨by simp, by omega, h.small⟩
  have hw3 := while_eq skip1_eq h3
  simp only [List.length_singleton] at hw
  simp only [List.takeWhile_nil, List.length_nil, Nat.add_zero] at hw3
  have hl2 : W_reader_skip_l1 s (s.length : Int) = some (s, (s.length : Int)) := by
    rw [W_reader_skip_l1]
    have h0 : ((0 : UInt8) == 35) = false := by decide
    rw [obind hw3]
    dsimp only
    rw [obind h3.peek0]
    dsimp only
    rw [h0, if_neg Bool.false_ne_true]
  have hl : W_reader_skip_l1 s (a : Int) = some (s, (s.length : Int)) := by
    rw [W_reader_skip_l1]
    have h0 : ((35 : UInt8) == 35) = true := by decide
    rw [obind hw]
    dsimp only
    rw [obind h1.peek]
    dsimp only
    rw [h0, if_pos rfl, obind hw2]
    exact hl2
  unfold W_reader_skip
  simp only [hl, Option.bind_eq_bind, Option.bind_some]
theorem token_eq {s : List UInt8} {a : Nat} {l : List W_Piece} {t : List UInt8} (hw : WB false l = true) (hF : Fit l) (h : At s a (quoteB l ++ t)) : W_reader_token ⟨s, (a : Int)⟩ = some (⟨3, [], 0, l, 0⟩, none, ⟨s, ((a + (quoteB l).length : Nat) : Int)⟩) := by
  have e : quoteB l ++ t = 34 :: (bodyQ false l ++ 34 :: t) := by simp [quoteB]
  rw [e] at h
  have ht := text_all l false false [] (a + 1) t hw hF (fun _ => .inl rfl) h.next
  have e2 : a + 1 + (bodyQ false l).length + 1 = a + (quoteB l).length := by simp [quoteB]; omega
  rw [e2] at ht
  have hx : W_reader_text ⟨s, (a : Int)⟩ = some (⟨3, [], 0, l, 0⟩, none, ⟨s, ((a + (quoteB l).length : Nat) : Int)⟩) := by
    unfold W_reader_text
    dsimp only
    rw [h.w1, obind ht]
    rfl
  unfold W_reader_token
  dsimp only
  rw [obind h.ix]
  have n1 : ((34 : UInt8) == 10) = false := by decide
  have n2 : ((34 : UInt8) == 59) = false := by decide
  have n3 : letterB 34 = false := by decide
  have n4 : figB 34 = false := by decide
  have n5 : ((34 : UInt8) == 45) = false := by decide
  have n6 : ((34 : UInt8) == 34) = true := by decide
  rw [n1, if_neg Bool.false_ne_true, n2, osome, if_neg Bool.false_ne_true, obind (begins_eq 34), n3, if_neg Bool.false_ne_true, obind (wfig_eq 34), n4, if_neg Bool.false_ne_true, n5, osome, if_neg Bool.false_ne_true, n6, if_pos rfl, obind hx]
theorem split_eq {s : List UInt8} {bs : List UInt8} {l : List W_Piece} {r : List UInt8} (hs : s = bs ++ (quoteB l ++ 32 :: 35 :: r)) (h4 : s.length ≤ 4000) (hb : bs.all blankB = true) (hr : r.all (fun c => c != 10) = true) (hw : WB false l = true) (hF : Fit l) : W_Split s = some ([⟨3, [], 0, l, (bs.length : Int)⟩], 0, none) := by
  have hA : At s 0 (bs ++ (quoteB l ++ 32 :: 35 :: r)) := ⟨by rw [hs]; rfl, by omega, h4⟩
  have hA1 : At s 0 (bs ++ 34 :: (bodyQ false l ++ [34] ++ 32 :: 35 :: r)) := by
    have e : bs ++ (quoteB l ++ 32 :: 35 :: r) = bs ++ 34 :: (bodyQ false l ++ [34] ++ 32 :: 35 :: r) := by simp [quoteB]
    rwa [e] at hA
  have k1 := skip_to hb (by decide) (by decide) hA1
  rw [Nat.zero_add] at k1
  have hB : At s bs.length (quoteB l ++ 32 :: 35 :: r) := by
    have := hA.app
    rwa [Nat.zero_add] at this
  have hB1 : At s bs.length (34 :: (bodyQ false l ++ [34] ++ 32 :: 35 :: r)) := by
    have := hA1.app
    rwa [Nat.zero_add] at this
  have hC := hB.app
  have k2 := token_eq hw hF hB
  have k3 := skip_end hr hC
  have hD : At s s.length [] := ⟨by simp, by omega, h4⟩
  have hr0 : req ((([] : List W_Token).length + [(⟨3, [], 0, l, (bs.length : Int)⟩ : W_Token)].length) * 64 ≤ 140737488355328 ∧ ([] : List W_Token).length + [(⟨3, [], 0, l, (bs.length : Int)⟩ : W_Token)].length ≤ 9223372036854775807) = some () := req_yes (by simp)
  have l2 : W_Split_l1 s (s.length : Int) [⟨3, [], 0, l, (bs.length : Int)⟩] = some (.inl (s, (s.length : Int), [⟨3, [], 0, l, (bs.length : Int)⟩])) := by
    rw [W_Split_l1, obind hD.done]
    rfl
  have l1 : W_Split_l1 s (bs.length : Int) [] = some (.inl (s, (s.length : Int), [⟨3, [], 0, l, (bs.length : Int)⟩])) := by
    rw [W_Split_l1, obind hB1.more]
    dsimp only
    rw [if_pos (by rfl), obind k2]
    dsimp only
    rw [if_neg (by simp), obind hr0, obind k3]
    exact l2
  unfold W_Split
  have n4 : decide ((s.length : Int) > 4000) = false := by simp; omega
  rw [n4, if_neg Bool.false_ne_true]
  have e0 : ((0 : Nat) : Int) = 0 := rfl
  rw [e0] at k1
  rw [obind k1]
  dsimp only
  rw [obind l1]
theorem blanks_l1 (q : Int) (n : Nat) (hn : n ≤ 9) (hq : IntKind.i64.wrap q = (n : Int)) : ∀ (k i : Nat) (acc : List UInt8), n - i = k → i ≤ n → acc.length + k ≤ 1000000 → ∃ bs : List UInt8, Law_WordsBack_l1 q (i : Int) acc = some (bs ++ acc) ∧ bs.all blankB = true ∧ bs.length = n - i := by
  intro k
  induction k with
  | zero =>
    intro i acc hk hi ha
    have : i = n := by omega
    subst this
    refine ⟨[], ?_, rfl, by simp⟩
    rw [Law_WordsBack_l1, hq]
    simp
  | succ k ih =>
    intro i acc hk hi ha
    have hlt : i < n := by omega
    have hd : ∃ d : UInt8, blankB d = true ∧ cutL ([32, 9, 13] : List UInt8) ((i : Int).tmod 3) (w64 ((i : Int).tmod 3 + 1)) = some [d] := by
      have h3 : (i : Int).tmod 3 = 0 ∨ (i : Int).tmod 3 = 1 ∨ (i : Int).tmod 3 = 2 := by
        have : (i : Int).tmod 3 = ((i % 3 : Nat) : Int) := rfl
        rw [this]; omega
      rcases h3 with h3 | h3 | h3
      · exact ⟨32, by decide, by rw [h3]; decide +kernel⟩
      · exact ⟨9, by decide, by rw [h3]; decide +kernel⟩
      · exact ⟨13, by decide, by rw [h3]; decide +kernel⟩
    obtain ⟨d, hb, hcut⟩ := hd
    have e1 : w64 ((i : Int) + 1) = ((i + 1 : Nat) : Int) := by rw [w64_id (by omega) (by omega)]; rfl
    obtain ⟨bs, h1, h2, h3⟩ := ih (i + 1) ([d] ++ acc) (by omega) (by omega) (by simp; omega)
    refine ⟨bs ++ [d], ?_, by simp [h2, hb], by simp; omega⟩
    rw [Law_WordsBack_l1, hq]
    have hi' : irem (i : Int) 3 = some ((i : Int).tmod 3) := rfl
    rw [if_pos (by simpa using hlt), obind hi', obind hi', obind hcut]
    have hr : req (([d] : List UInt8).length + acc.length ≤ 9223372036854775807) = some () := req_yes (by simp; omega)
    rw [obind hr, e1, h1]
    simp
theorem eqFrom_self (l : List W_Piece) : ∀ i : Nat, eqFrom l l i = true := by
  intro i
  unfold eqFrom
  rw [List.all_eq_true]
  intro x hx
  have : x.1 = x.2 := by
    have h : ∀ (m : List W_Piece), ∀ y ∈ m.zip m, y.1 = y.2 := by
      intro m
      induction m with
      | nil => intro y hy; simp at hy
      | cons a m ih =>
        intro y hy
        rw [List.zip_cons_cons, List.mem_cons] at hy
        rcases hy with rfl | hy
        · rfl
        · exact ih y hy
    exact h _ x hx
  rw [this]
  simp [eqP]
/-- THE LAW, PLAIN. -/
theorem wordsBack_true (l : List W_Piece) (k : Int) : Law_WordsBack l k = some true := by
  unfold Law_WordsBack
  rw [obind alive_true, if_neg (by simp)]
  obtain ⟨b1, h1, s1⟩ := long_eq l
  rw [obind h1]
  cases b1 with
  | true => rfl
  | false =>
  have hs := s1 rfl
  have hr := wright_eq l hs
  rw [if_neg Bool.false_ne_true]
  generalize hb : (WB false l && (decide (l.length ≤ 40) && !l.any fun x => decide (x.f_Lit.length > 400))) = b at hr
  rw [obind hr]
  cases b with
  | false => rfl
  | true =>
  simp only [Bool.and_eq_true, decide_eq_true_eq, Bool.not_eq_true'] at hb
  obtain ⟨hw, h40, h400⟩ := hb
  have hF : Fit l := ⟨h40, fun x hx => by
    rw [List.any_eq_false] at h400
    have := h400 x hx
    simp at this; omega⟩
  have hq := wquote_eq l hs hr
  rw [if_pos rfl] at hq
  obtain ⟨n, hn, hrem, hwr⟩ : ∃ n : Nat, n ≤ 9 ∧ irem (IntKind.u64.wrap k) 9 = some (n : Int) ∧ IntKind.i64.wrap (n : Int) = (n : Int) := by
    have h0 : 0 ≤ IntKind.u64.wrap k := by
      show 0 ≤ k % 2 ^ 64
      omega
    refine ⟨((IntKind.u64.wrap k).tmod 9).toNat, ?_, ?_, ?_⟩
    all_goals rw [Int.tmod_eq_emod_of_nonneg h0]
    · omega
    · unfold irem
      rw [if_neg (by decide), Int.tmod_eq_emod_of_nonneg h0]
      congr 1; omega
    · have : (((IntKind.u64.wrap k) % 9).toNat : Int) = (IntKind.u64.wrap k) % 9 := by omega
      rw [this]
      generalize (IntKind.u64.wrap k) = z
      have h1 := Int.emod_nonneg z (show (9 : Int) ≠ 0 by decide)
      have h2 := Int.emod_lt_of_pos z (show (0 : Int) < 9 by decide)
      generalize z % 9 = y at h1 h2
      have : y = 0 ∨ y = 1 ∨ y = 2 ∨ y = 3 ∨ y = 4 ∨ y = 5 ∨ y = 6 ∨ y = 7 ∨ y = 8 := by omega
      rcases this with rfl | rfl | rfl | rfl | rfl | rfl | rfl | rfl | rfl <;> decide +kernel
  have hql : (quoteB l).length ≤ 200000 := by
    have := bodyQ_len l hs.2 false
    have := hs.1
    simp [quoteB]; omega
  obtain ⟨bs, hl1, hbb, hbl⟩ := blanks_l1 (n : Int) n hn hwr n 0 (quoteB l) (by omega) (by omega) (by omega)
  have e0 : ((0 : Nat) : Int) = 0 := rfl
  rw [e0] at hl1
  rw [osome, if_neg (by simp), obind hq, obind hrem, obind hl1]
  by_cases h39 : (bs ++ quoteB l).length > 3900
  · rw [if_pos (by simp at h39 ⊢; omega)]
  · rw [if_neg (by simp at h39 ⊢; omega)]
    rw [obind (req_yes (by simp at h39 ⊢; omega))]
    have hsp := split_eq (s := bs ++ quoteB l ++ [32, 35, 32, 98, 101, 104, 105, 110, 100]) (bs := bs) (l := l) (r := [32, 98, 101, 104, 105, 110, 100]) (by simp) (by simp at h39 ⊢; omega) hbb (by decide) hw hF
    rw [obind hsp]
    have hsame := wsame_eq ⟨3, [], 0, l, (bs.length : Int)⟩ ⟨3, [], 0, l, 0⟩ hs.1
    have hsB : sameB ⟨3, [], 0, l, (bs.length : Int)⟩ ⟨3, [], 0, l, 0⟩ = true := by simp [sameB, eqFrom_self]
    rw [hsB] at hsame
    have hn' : bs.length = n := by omega
    subst hn'
    have hx : ix [(⟨3, [], 0, l, (bs.length : Int)⟩ : W_Token)] 0 = some ⟨3, [], 0, l, (bs.length : Int)⟩ := rfl
    dsimp only
    rw [if_pos (by rfl), osome, if_pos (by rfl), obind hx, hwr, osome, if_pos (by simp), obind hx, obind hsame]
    rfl
end Go.Proofs.YtekcconmnhjhiaaDoor
