/-
  Chapter 36: the plain law of RawBack, second part: events, lines, the law.
-/
import Derived.Test.YthjfnknhcmhmiaaDoorP1
set_option linter.unusedVariables false
set_option linter.unusedSimpArgs false
set_option maxRecDepth 10000
namespace Go.Proofs.YthjfnknhcmhmiaaDoor
open Go Go.RowKit Sl

/-- An event and the words of its line. -/
inductive Sh : raw_Event → List (List UInt8) → Prop
  | came (b : List UInt8) : Sh ⟨1, 0, b, []⟩ [[98, 121, 116, 101, 115], toldB b]
  | marks (b : List UInt8) (us : List Nat) (h : us ≠ []) : Sh ⟨1, 0, b, ints us⟩ [[98, 121, 116, 101, 115], toldB b, [109, 97, 114, 107, 115], comma us]
  | grant (u : Nat) (h : u ≤ 9999) : Sh ⟨2, (u : Int), [], []⟩ [[103, 114, 97, 110, 116], Lib.decDigits u]
  | tick (u : Nat) (h : u ≤ 9999) : Sh ⟨3, (u : Int), [], []⟩ [[116, 105, 99, 107], Lib.decDigits u]
  | close : Sh ⟨4, 0, [], []⟩ [[99, 108, 111, 115, 101]]
theorem came_tot (ys : List (List UInt8)) (h0 : ys[0]? = some [98, 121, 116, 101, 115]) (hy : ∀ y ∈ ys, y.length ≤ 10000) : ∃ e ok, raw_came ys = some (e, ok) ∧ (ok = true → Sh e ys) := by
  unfold raw_came
  match ys, h0 with
  | [_], h0 => exact ⟨_, false, rfl, by simp⟩
  | [w, x], h0 =>
    obtain rfl : w = _ := Option.some.inj h0
    obtain ⟨b, ok, h1, h2⟩ := read_tot x (by have := hy x (by simp); omega)
    have e1 : ix [[98, 121, 116, 101, 115], x] 1 = some x := rfl
    rw [if_pos (by simp), osome, if_neg (by simp), obind e1, obind h1]
    cases ok with
    | false => exact ⟨_, _, rfl, by simp⟩
    | true =>
      refine ⟨⟨1, 0, b, []⟩, true, rfl, fun _ => ?_⟩
      rw [← h2 rfl]; exact .came b
  | [_, _, _], h0 => exact ⟨_, false, rfl, by simp⟩
  | [w, x, y, z], h0 =>
    obtain rfl : w = _ := Option.some.inj h0
    obtain ⟨b, ok, h1, h2⟩ := read_tot x (by have := hy x (by simp); omega)
    obtain ⟨ms, ok2, h3, h4⟩ := marks_tot z (hy z (by simp))
    have e1 : ix [[98, 121, 116, 101, 115], x, y, z] 1 = some x := rfl
    have e2 : ix [[98, 121, 116, 101, 115], x, y, z] 2 = some y := rfl
    have e3 : ix [[98, 121, 116, 101, 115], x, y, z] 3 = some z := rfl
    rw [if_neg (by simp), if_pos (by simp), obind e2, osome, osome]
    by_cases hm : y = [109, 97, 114, 107, 115]
    · subst hm
      rw [if_neg (by simp), obind e1, obind h1]
      cases ok with
      | false => exact ⟨_, _, rfl, by simp⟩
      | true =>
        rw [if_pos rfl, osome, if_pos (by simp), obind e3, obind h3, osome]
        refine ⟨_, _, rfl, fun k => ?_⟩
        obtain ⟨us, g1, g2, g3⟩ := h4 k
        dsimp only
        rw [← h2 rfl, g2, g3]
        exact .marks b us g1
    · rw [if_pos (by simpa using hm)]
      exact ⟨_, _, rfl, by simp⟩
  | (_ :: _ :: _ :: _ :: _ :: r), h0 =>
    rw [if_neg (by simp; omega), if_neg (by simp; omega)]
    exact ⟨_, false, rfl, by simp⟩
theorem event_tot (ys : List (List UInt8)) (h0 : ys ≠ []) (hy : ∀ y ∈ ys, y.length ≤ 10000) : ∃ e ok, raw_event ys = some (e, ok) ∧ (ok = true → Sh e ys) := by
  unfold raw_event
  cases ys with
  | nil => exact absurd rfl h0
  | cons w r =>
    have e0 : ix (w :: r) 0 = some w := rfl
    rw [obind e0]
    have cnt : ∀ k : Int, (∀ u : Nat, u ≤ 9999 → ∀ x, r = [x] → x = Lib.decDigits u → Sh ⟨k, (u : Int), [], []⟩ (w :: r)) → ∃ e ok, raw_counted k (w :: r) = some (e, ok) ∧ (ok = true → Sh e (w :: r)) := by
      intro k hk
      unfold raw_counted
      match r, hk, hy with
      | [], hk, hy => exact ⟨_, false, rfl, by simp⟩
      | [x], hk, hy =>
        obtain ⟨v, ok, h1, h2⟩ := number_tot x (by have := hy x (by simp); omega)
        have e1 : ix [w, x] 1 = some x := rfl
        rw [if_neg (by simp), obind e1, obind h1]
        refine ⟨_, _, rfl, fun g => ?_⟩
        obtain ⟨u, g1, g2, g3⟩ := h2 g
        dsimp only
        rw [g2]
        exact hk u g1 x rfl g3
      | a :: b :: r, hk, hy =>
        rw [if_pos (by simp; omega)]
        exact ⟨_, _, rfl, by simp⟩
    by_cases k1 : w = [98, 121, 116, 101, 115]
    · subst k1
      obtain ⟨e, ok, h1, h2⟩ := came_tot _ rfl hy
      rw [if_pos (by simp), obind h1]
      exact ⟨_, _, rfl, h2⟩
    rw [if_neg (by simpa using k1)]
    by_cases k2 : w = [103, 114, 97, 110, 116]
    · subst k2
      obtain ⟨e, ok, h1, h2⟩ := cnt 2 (by rintro u hu x rfl rfl; exact .grant u hu)
      rw [if_pos (by simp), obind h1]
      exact ⟨_, _, rfl, h2⟩
    rw [if_neg (by simpa using k2)]
    by_cases k3 : w = [116, 105, 99, 107]
    · subst k3
      obtain ⟨e, ok, h1, h2⟩ := cnt 3 (by rintro u hu x rfl rfl; exact .tick u hu)
      rw [if_pos (by simp), obind h1]
      exact ⟨_, _, rfl, h2⟩
    rw [if_neg (by simpa using k3)]
    by_cases k4 : w = [99, 108, 111, 115, 101]
    · subst k4
      rw [if_pos (by simp)]
      refine ⟨_, _, rfl, fun g => ?_⟩
      have : r = [] := List.eq_nil_of_length_eq_zero (by simp at g; omega)
      subst this
      exact .close
    rw [if_neg (by simpa using k4)]
    exact ⟨_, _, rfl, by simp⟩
def Small (e : raw_Event) : Prop := e.f_Bytes.length ≤ 1100 ∧ e.f_Marks.length ≤ 1100
def Mk (e : raw_Event) : Prop := ∀ m ∈ e.f_Marks, 0 ≤ m ∧ m ≤ 9999
theorem ints_of {ms : List Int} (h : ∀ m ∈ ms, 0 ≤ m ∧ m ≤ 9999) : ∃ us : List Nat, (∀ u ∈ us, u ≤ 9999) ∧ ms = ints us := by
  induction ms with
  | nil => exact ⟨[], by simp, rfl⟩
  | cons m ms ih =>
    obtain ⟨us, h1, h2⟩ := ih fun x hx => h x (by simp [hx])
    have := h m (by simp)
    refine ⟨m.toNat :: us, ?_, ?_⟩
    · intro u hu
      rcases List.mem_cons.1 hu with rfl | hu
      · omega
      · exact h1 u hu
    · rw [h2]
      show m :: ints us = ((m.toNat : Nat) : Int) :: ints us
      rw [Int.toNat_of_nonneg this.1]
theorem marks_of {us : List Nat} {e : raw_Event} (he : e.f_Marks = ints us) (h : Mk e) : ∀ u ∈ us, u ≤ 9999 := by
  intro u hu
  have := h (u : Int) (by rw [he]; exact List.mem_map.2 ⟨u, hu, rfl⟩)
  omega
theorem event_sh {e : raw_Event} {ys : List (List UInt8)} (h : Sh e ys) (hs : Small e) (hm : Mk e) : raw_event ys = some (e, true) := by
  cases h with
  | came b =>
    have h1 := read_told b (by have := hs.1; simp at this; omega)
    have e1 : ix [[98, 121, 116, 101, 115], toldB b] 1 = some (toldB b) := rfl
    have c : raw_came [[98, 121, 116, 101, 115], toldB b] = some (⟨1, 0, b, []⟩, true) := by
      unfold raw_came
      rw [if_pos (by simp), osome, if_neg (by simp), obind e1, obind h1]; rfl
    have e0 : ix [[98, 121, 116, 101, 115], toldB b] 0 = some [98, 121, 116, 101, 115] := rfl
    unfold raw_event
    rw [obind e0, if_pos (by simp), obind c]
  | marks b us hu =>
    have h1 := read_told b (by have := hs.1; simp at this; omega)
    have hk : us.length ≤ 1100 := by have := hs.2; simpa [ints] using this
    have hu9 := marks_of (us := us) rfl hm
    have hcl := comma_len us hu9
    have h3 := marks_dec us hu hu9 (by omega) (by omega)
    have e1 : ix [[98, 121, 116, 101, 115], toldB b, [109, 97, 114, 107, 115], comma us] 1 = some (toldB b) := rfl
    have e2 : ix [[98, 121, 116, 101, 115], toldB b, [109, 97, 114, 107, 115], comma us] 2 = some [109, 97, 114, 107, 115] := rfl
    have e3 : ix [[98, 121, 116, 101, 115], toldB b, [109, 97, 114, 107, 115], comma us] 3 = some (comma us) := rfl
    have c : raw_came [[98, 121, 116, 101, 115], toldB b, [109, 97, 114, 107, 115], comma us] = some (⟨1, 0, b, ints us⟩, true) := by
      unfold raw_came
      rw [if_neg (by simp), if_pos (by simp), obind e2, osome, osome, if_neg (by simp), obind e1, obind h1, if_pos rfl, osome, if_pos (by simp), obind e3, obind h3]; rfl
    have e0 : ix [[98, 121, 116, 101, 115], toldB b, [109, 97, 114, 107, 115], comma us] 0 = some [98, 121, 116, 101, 115] := rfl
    unfold raw_event
    rw [obind e0, if_pos (by simp), obind c]
  | grant u hu =>
    have e0 : ix [[103, 114, 97, 110, 116], Lib.decDigits u] 0 = some [103, 114, 97, 110, 116] := rfl
    have e1 : ix [[103, 114, 97, 110, 116], Lib.decDigits u] 1 = some (Lib.decDigits u) := rfl
    have c : raw_counted 2 [[103, 114, 97, 110, 116], Lib.decDigits u] = some (⟨2, (u : Int), [], []⟩, true) := by
      unfold raw_counted
      rw [if_neg (by simp), obind e1, obind (number_dec u hu)]
    unfold raw_event
    rw [obind e0, if_neg (by simp), if_pos (by simp), obind c]
  | tick u hu =>
    have e0 : ix [[116, 105, 99, 107], Lib.decDigits u] 0 = some [116, 105, 99, 107] := rfl
    have e1 : ix [[116, 105, 99, 107], Lib.decDigits u] 1 = some (Lib.decDigits u) := rfl
    have c : raw_counted 3 [[116, 105, 99, 107], Lib.decDigits u] = some (⟨3, (u : Int), [], []⟩, true) := by
      unfold raw_counted
      rw [if_neg (by simp), obind e1, obind (number_dec u hu)]
    unfold raw_event
    rw [obind e0, if_neg (by simp), if_neg (by simp), if_pos (by simp), obind c]
  | close => rfl
theorem marked_l1 (e : raw_Event) (hm : e.f_Marks.length ≤ 1000000) : ∀ (r : List Int) (i : Nat), e.f_Marks.drop i = r → i ≤ e.f_Marks.length →
    ∃ z, raw_Event_marked_l1 e (i : Int) = some z ∧ (z = Sum.inl () → ∀ m ∈ r, 0 ≤ m ∧ m < (e.f_Bytes.length : Int))
  | [], i, h, hi => by
    have := drop_len h hi
    rw [raw_Event_marked_l1, if_neg (by simp at this ⊢; omega)]
    exact ⟨_, rfl, by simp⟩
  | m :: r, i, h, hi => by
    have hl := drop_lt h
    rw [raw_Event_marked_l1, if_pos (by simpa using hl), obind (ix_drop h), oif]
    by_cases k : m < 0 ∨ m ≥ (e.f_Bytes.length : Int)
    · rw [if_pos (by simpa using k), osome, if_pos rfl]
      exact ⟨_, rfl, by simp⟩
    · have e3 : ∃ b, (do
          let x36 ← (do
              if (decide ((i : Int) > 0)) = true then (do
                  let e39 ← ix e.f_Marks (w64 ((i : Int) - 1))
                  some (decide (m ≤ e39)))
              else (do
                  some false) : Option Bool)
          some x36) = some b := by
        by_cases ki : i = 0
        · subst ki
          exact ⟨false, rfl⟩
        · have hj : w64 ((i : Int) - 1) = ((i - 1 : Nat) : Int) := by rw [w64_id (by omega) (by omega)]; omega
          rw [if_pos (by simp; omega), hj, obind (ix_lt (l := e.f_Marks) (i := i - 1) (by omega)), osome]
          exact ⟨_, rfl⟩
      obtain ⟨b, hb⟩ := e3
      rw [if_neg (by simpa using k), obind hb]
      cases b with
      | true => exact ⟨_, rfl, by simp⟩
      | false =>
        rw [if_neg (by simp), w64_succ (by omega)]
        obtain ⟨z, h1, h2⟩ := marked_l1 e hm r (i + 1) (drop_next h) (by omega)
        refine ⟨z, h1, fun hz x hx => ?_⟩
        rcases List.mem_cons.1 hx with rfl | hx
        · omega
        · exact h2 hz x hx
theorem marked_tot (e : raw_Event) (hm : e.f_Marks.length ≤ 1000000) : ∃ b, raw_Event_marked e = some b ∧ (b = true → ∀ m ∈ e.f_Marks, 0 ≤ m ∧ m < (e.f_Bytes.length : Int)) := by
  obtain ⟨z, h1, h2⟩ := marked_l1 e hm _ 0 rfl (by omega)
  have h1' : raw_Event_marked_l1 e 0 = some z := h1
  unfold raw_Event_marked
  rw [obind h1']
  cases z with
  | inl x => exact ⟨true, rfl, fun _ => h2 rfl⟩
  | inr x => exact ⟨false, rfl, by simp⟩
theorem zero_len {e : raw_Event} (hs : Small e) (h : (w64 (((e.f_Bytes.length : Int)) + ((e.f_Marks.length : Int))) == 0) = true) : e.f_Bytes = [] ∧ e.f_Marks = [] := by
  obtain ⟨h1, h2⟩ := hs
  rw [w64_add (by omega)] at h
  have h := eq_of_beq h
  exact ⟨List.eq_nil_of_length_eq_zero (by omega), List.eq_nil_of_length_eq_zero (by omega)⟩
theorem right_tot (e : raw_Event) (hs : Small e) : ∃ b, raw_Right e = some b ∧ (b = true → Mk e ∧ ∃ ys, Sh e ys) := by
  obtain ⟨k, n, bs, ms⟩ := e
  unfold raw_Right
  dsimp only
  by_cases k1 : k = 1
  · subst k1
    rw [if_pos (by simp), oif]
    by_cases kn : n = 0 ∧ bs.length ≤ 1024
    · obtain ⟨rfl, hb⟩ := kn
      obtain ⟨b, h1, h2⟩ := marked_tot ⟨1, 0, bs, ms⟩ (by have := hs.2; simp at this ⊢; omega)
      rw [if_pos (by simp; omega), obind h1]
      refine ⟨b, rfl, fun g => ?_⟩
      have hM : Mk ⟨1, 0, bs, ms⟩ := fun m hm => by
        have := h2 g m hm
        simp at this; omega
      refine ⟨hM, ?_⟩
      obtain ⟨us, _, rfl⟩ := ints_of hM
      cases us with
      | nil => exact ⟨_, .came bs⟩
      | cons u us => exact ⟨_, .marks bs (u :: us) (by simp)⟩
    · rw [if_neg (by
        intro g
        apply kn
        by_cases g0 : n = 0
        · subst g0; simp at g; exact ⟨rfl, by omega⟩
        · simp [g0] at g), osome]
      exact ⟨_, rfl, by simp⟩
  rw [if_neg (by simpa using k1), oif]
  by_cases k2 : k = 2 ∨ k = 3
  · rw [if_pos (by rcases k2 with rfl | rfl <;> simp), oif]
    by_cases kn : 0 ≤ n ∧ n ≤ 9999
    · rw [if_pos (by
        have : decide (n ≥ 0) = true := by simpa using kn.1
        rw [if_pos this]; simpa using kn.2), osome]
      refine ⟨_, rfl, fun g => ?_⟩
      obtain ⟨h1, h2⟩ := zero_len hs g
      dsimp only at h1 h2
      subst h1; subst h2
      obtain ⟨u, rfl⟩ : ∃ u : Nat, n = (u : Int) := ⟨n.toNat, by omega⟩
      refine ⟨by intro m hm; simp at hm, ?_⟩
      rcases k2 with rfl | rfl
      · exact ⟨_, .grant u (by omega)⟩
      · exact ⟨_, .tick u (by omega)⟩
    · rw [if_neg (by
        intro g
        apply kn
        by_cases g0 : 0 ≤ n
        · rw [if_pos (by simpa using g0)] at g; exact ⟨g0, by simpa using g⟩
        · rw [if_neg (by simpa using g0)] at g; simp at g), osome]
      exact ⟨_, rfl, by simp⟩
  rw [if_neg (by
    intro g
    apply k2
    by_cases g2 : k = 2
    · exact .inl g2
    · rw [if_neg (by simpa using g2)] at g; exact .inr (by simpa using g))]
  by_cases k4 : k = 4
  · subst k4
    rw [if_pos (by simp), oif]
    refine ⟨_, rfl, fun g => ?_⟩
    by_cases g0 : n = 0
    · subst g0
      obtain ⟨h1, h2⟩ := zero_len hs (by simpa using g)
      dsimp only at h1 h2
      subst h1; subst h2
      exact ⟨by intro m hm; simp at hm, _, .close⟩
    · simp [g0] at g
  · rw [if_neg (by simpa using k4)]
    exact ⟨_, rfl, by simp⟩
theorem told_len (b : List UInt8) : (toldB b).length ≤ 2 * b.length + 1 ∧ 2 * b.length ≤ (toldB b).length := by
  unfold toldB
  split
  · rename_i h; subst h; simp
  · rw [pairs_len]; omega
theorem line_sh {e : raw_Event} {ys : List (List UInt8)} (h : Sh e ys) (hs : Small e) (hm : Mk e) (hr : raw_Right e = some true) : raw_Line e = some (Lib.join ys [32]) := by
  unfold raw_Line
  rw [obind hr, if_neg (by simp)]
  cases h with
  | came b =>
    have hb := hs.1
    have ht := told_len b
    dsimp only at hb ⊢
    rw [if_neg (by simp), if_neg (by simp), if_neg (by simp), if_pos (by simp), obind (told_eq b (by omega)), req_yes (by simp; omega), osome, join_two, Lib.join_one]
    rfl
  | marks b us hu =>
    have hb := hs.1
    have ht := told_len b
    have hu9 := marks_of (us := us) rfl hm
    have hk : us.length ≤ 1100 := by have := hs.2; simpa [ints] using this
    have hc := comma_len us hu9
    dsimp only at hb ⊢
    rw [if_neg (by simp), if_neg (by simp), if_neg (by simp), if_neg (by simpa [ints] using hu), obind (told_eq b (by omega)), req_yes (by simp; omega), osome, req_yes (by simp; omega), osome,
      obind (places_eq us (by omega) hu9), req_yes (by simp; omega), osome, join_two, join_two, join_two, Lib.join_one]
    simp
  | grant u hu =>
    have := dec_len4 hu
    dsimp only
    rw [if_pos (by simp), obind (itoa_eq u hu), req_yes (by simp; omega), osome, join_two, Lib.join_one]
    rfl
  | tick u hu =>
    have := dec_len4 hu
    dsimp only
    rw [if_neg (by simp), if_pos (by simp), obind (itoa_eq u hu), req_yes (by simp; omega), osome, join_two, Lib.join_one]
    rfl
  | close => rfl
theorem no_space_dec (u : Nat) : (32 : UInt8) ∉ Lib.decDigits u := fun h => by
  have := dec_digs u _ h
  unfold digB at this
  simp at this
theorem no_space_told (b : List UInt8) : (32 : UInt8) ∉ toldB b := by
  unfold toldB
  split
  · simp
  · unfold pairsB
    intro h
    obtain ⟨c, _, hc⟩ := List.mem_flatMap.1 h
    have := hex_sp c
    simp at hc
    rcases hc with hc | hc
    · exact this.1 hc.symm
    · exact this.2.1 hc.symm
theorem mem_join (c : UInt8) (sep : List UInt8) : ∀ xs : List (List UInt8), c ∈ Lib.join xs sep → c ∈ sep ∨ ∃ x ∈ xs, c ∈ x
  | [], h => by simp [Lib.join_nil] at h
  | [x], h => by rw [Lib.join_one] at h; exact .inr ⟨x, by simp, h⟩
  | x :: y :: r, h => by
    rw [join_two] at h
    rcases List.mem_append.1 h with h | h
    · rcases List.mem_append.1 h with h | h
      · exact .inr ⟨x, by simp, h⟩
      · exact .inl h
    · rcases mem_join c sep (y :: r) h with h | ⟨z, hz, h⟩
      · exact .inl h
      · exact .inr ⟨z, by simp [hz], h⟩
theorem no_space_comma (us : List Nat) : (32 : UInt8) ∉ comma us := by
  intro h
  rcases mem_join 32 [44] _ h with h | ⟨x, hx, h⟩
  · simp at h
  · obtain ⟨u, _, rfl⟩ := List.mem_map.1 hx
    exact no_space_dec u h
theorem sh_spl {e : raw_Event} {ys : List (List UInt8)} (h : Sh e ys) : spl 32 (Lib.join ys [32]) = ys := by
  apply spl_of_join
  · cases h <;> simp
  · cases h with
    | came b => intro p hp; simp at hp; rcases hp with rfl | rfl; simp; exact no_space_told b
    | marks b us hu => intro p hp; simp at hp; rcases hp with rfl | rfl | rfl | rfl; simp; exact no_space_told b; simp; exact no_space_comma us
    | grant u hu => intro p hp; simp at hp; rcases hp with rfl | rfl; simp; exact no_space_dec u
    | tick u hu => intro p hp; simp at hp; rcases hp with rfl | rfl; simp; exact no_space_dec u
    | close => intro p hp; simp at hp; subst hp; simp
theorem sh_len {e : raw_Event} {ys : List (List UInt8)} (h : Sh e ys) (hs : Small e) (hm : Mk e) : (Lib.join ys [32]).length ≤ 10000 := by
  cases h with
  | came b =>
    have hb := hs.1
    have ht := told_len b
    dsimp only at hb
    rw [join_two, Lib.join_one]; simp; omega
  | marks b us hu =>
    have hb := hs.1
    have ht := told_len b
    have hu9 := marks_of (us := us) rfl hm
    have hk : us.length ≤ 1100 := by have := hs.2; simpa [ints] using this
    have hc := comma_len us hu9
    dsimp only at hb
    rw [join_two, join_two, join_two, Lib.join_one]; simp; omega
  | grant u hu => have := dec_len4 hu; rw [join_two, Lib.join_one]; simp; omega
  | tick u hu => have := dec_len4 hu; rw [join_two, Lib.join_one]; simp; omega
  | close => rw [Lib.join_one]; simp
theorem sh_small {e : raw_Event} {ys : List (List UInt8)} (h : Sh e ys) (hy : ∀ y ∈ ys, y.length ≤ 400) : Small e := by
  cases h with
  | came b =>
    have h1 := hy (toldB b) (by simp)
    have h2 := told_len b
    refine ⟨?_, by simp⟩
    show b.length ≤ 1100
    omega
  | marks b us hu =>
    have h1 := hy (toldB b) (by simp)
    have h2 := told_len b
    have h3 := hy (comma us) (by simp)
    have e : spl 44 (comma us) = us.map Lib.decDigits := spl_of_join 44 _ (by simpa using hu) (by
      intro p hp
      obtain ⟨u, _, rfl⟩ := List.mem_map.1 hp
      exact no_comma u)
    have h4 := spl_len 44 (comma us)
    rw [e, List.length_map] at h4
    have h5 : (comma us).count 44 ≤ (comma us).length := List.count_le_length
    refine ⟨?_, ?_⟩
    · show b.length ≤ 1100
      omega
    · show (ints us).length ≤ 1100
      unfold ints; rw [List.length_map]; omega
  | grant u hu => exact ⟨by simp, by simp⟩
  | tick u hu => exact ⟨by simp, by simp⟩
  | close => exact ⟨by simp, by simp⟩
theorem parse_tot (s : List UInt8) (hs : s.length ≤ 400) : ∃ e r, raw_Parse s = some (e, r) ∧ (r.isNone = true → raw_Right e = some true ∧ raw_Line e = some s) := by
  unfold raw_Parse
  have hc : s.count 32 ≤ s.length := List.count_le_length
  obtain ⟨e, ok, h1, h2⟩ := event_tot (spl 32 s) (spl_ne 32 s) (fun y hy => by have := spl_short 32 s y hy; omega)
  rw [obind (split_one s 32 (by omega)), obind h1]
  cases ok with
  | false =>
    exact ⟨_, _, rfl, by simp⟩
  | true =>
    have hsh := h2 rfl
    have hsm := sh_small hsh (fun y hy => by have := spl_short 32 s y hy; omega)
    obtain ⟨b, h3, h4⟩ := right_tot e hsm
    rw [if_neg (by simp), obind h3, osome]
    cases b with
    | false => exact ⟨_, _, rfl, by simp⟩
    | true =>
      refine ⟨e, none, rfl, fun _ => ⟨h3, ?_⟩⟩
      rw [line_sh hsh hsm (h4 rfl).1 h3, spl_join]
theorem parse_line {e : raw_Event} {ys : List (List UInt8)} (h : Sh e ys) (hs : Small e) (hm : Mk e) (hr : raw_Right e = some true) : raw_Parse (Lib.join ys [32]) = some (e, none) := by
  have hl := sh_len h hs hm
  unfold raw_Parse
  rw [obind (split_one _ 32 (by omega)), sh_spl h, obind (event_sh h hs hm), if_neg (by simp), obind hr, osome]
  rfl
theorem same_ints_l1 (a : List Int) (ha : a.length ≤ 1000000) : ∀ (r : List Int) (i : Nat), a.drop i = r → i ≤ a.length → slices_Equal_int_int_l1 a a (i : Int) = some (Sum.inl ())
  | [], i, h, hi => by
    have := drop_len h hi
    rw [slices_Equal_int_int_l1, if_neg (by simp at this ⊢; omega)]
  | m :: r, i, h, hi => by
    have hl := drop_lt h
    rw [slices_Equal_int_int_l1, if_pos (by simpa using hl), obind (ix_drop h), obind (ix_drop h), if_neg (by simp), w64_succ (by omega), same_ints_l1 a ha r (i + 1) (drop_next h) (by omega)]
theorem same_self (e : raw_Event) (hs : Small e) : raw_Same e e = some true := by
  unfold raw_Same bytes_Equal slices_Equal_int_int
  have h := same_ints_l1 e.f_Marks (by have := hs.2; omega) _ 0 rfl (by omega)
  have h' : slices_Equal_int_int_l1 e.f_Marks e.f_Marks 0 = some (Sum.inl ()) := h
  rw [if_pos (by simp), osome, if_pos (by simp)]
  rw [osome, osome, if_pos (by simp), if_neg (by simp), obind h']
  rfl
end Go.Proofs.YthjfnknhcmhmiaaDoor
