/-
  The memory logic, second part: kinds of values (what cells say), slices that are known, rows that are owned; what the heap's operations leave.
-/
import Derived.Test.YthjfnknhcmhmiaaDoorSl1
set_option linter.unusedVariables false
set_option linter.unusedSimpArgs false
namespace Go.Proofs.YthjfnknhcmhmiaaDoor.Sl
open Go Go.RowKit

/-! ### 1. Cells -/
def cellH (h : Hp) (a : Addr) : Option Value :=
  match h a.block with
  | some (.cells c _ _) => if a.spot.isSome then none else c[a.off]?
  | _ => none
theorem cellH_hp (w : World) (a : Addr) : cellH (hp w) a = w.cell? a := rfl
theorem cellH_mono {K K' : Hp} (h : Hp.le K K') {a : Addr} {v : Value} (hc : cellH K a = some v) : cellH K' a = some v := by
  unfold cellH at *
  cases hk : K a.block with
  | none => rw [hk] at hc; cases hc
  | some o => rw [h _ _ hk]; rw [hk] at hc; exact hc
theorem cell_of_known {w : World} {K : Hp} (h : Hp.le K (hp w)) {a : Addr} {v : Value} (hc : cellH K a = some v) : w.cell? a = some v := cellH_mono h hc
theorem cellH_single {g i : Nat} {c : Array Value} {e : TypeId} {fr : Nat × Nat} : cellH (Hp.single g (.cells c e fr)) ⟨g, i, none⟩ = c[i]? := by simp [cellH, Hp.single_self]
theorem add_add (a : Addr) (i j : Nat) : (a.add i).add j = a.add (i + j) := by
  unfold Addr.add
  by_cases hi : i = 0 <;> by_cases hj : j = 0 <;> simp [hi, hj, Nat.add_assoc]
theorem add_zero (a : Addr) : a.add 0 = a := by simp [Addr.add]

/-! ### 2. Kinds -/
structure Kd (α : Type) where
  sz : Nat
  rep : Hp → α → List Value → Prop
  len : ∀ {K x cs}, rep K x cs → cs.length = sz
  one : ∀ {K x cs}, rep K x cs → ∀ u ∈ cs, u.oneCell' = true
  mono : ∀ {K K' x cs}, Hp.le K K' → rep K x cs → rep K' x cs

/-- cells lie at an address, if there are any -/
def At (K : Hp) (A : Option Addr) (cs : List Value) : Prop := cs = [] ∨ ∃ ad, A = some ad ∧ ∀ j u, cs[j]? = some u → cellH K (ad.add j) = some u
theorem At.mono {K K' : Hp} (h : Hp.le K K') {A : Option Addr} {cs : List Value} (a : At K A cs) : At K' A cs := a.imp id fun ⟨ad, e, c⟩ => ⟨ad, e, fun j u hu => cellH_mono h (c j u hu)⟩

namespace Kd
variable {α β : Type}
def reps (d : Kd α) (K : Hp) : List α → List Value → Prop
  | [], cs => cs = []
  | x :: xs, cs => ∃ c cs', cs = c ++ cs' ∧ d.rep K x c ∧ d.reps K xs cs'
theorem reps_nil (d : Kd α) (K : Hp) : d.reps K [] [] := rfl
theorem reps_len {d : Kd α} {K : Hp} : ∀ {xs : List α} {cs : List Value}, d.reps K xs cs → cs.length = xs.length * d.sz
  | [], cs, h => by simp [show cs = [] from h]
  | x :: xs, cs, ⟨c, cs', e, hc, h⟩ => by
    have hl := reps_len h
    have hl' := d.len hc
    rw [e, List.length_append, hl, hl', List.length_cons, Nat.add_mul, Nat.one_mul, Nat.add_comm]
theorem reps_one {d : Kd α} {K : Hp} : ∀ {xs : List α} {cs : List Value}, d.reps K xs cs → ∀ u ∈ cs, u.oneCell' = true
  | [], cs, h, u, hu => by rw [show cs = [] from h] at hu; cases hu
  | x :: xs, cs, ⟨c, cs', e, hc, h⟩, u, hu => by
    rw [e] at hu
    rcases List.mem_append.1 hu with hu | hu
    · exact d.one hc u hu
    · exact reps_one h u hu
theorem reps_mono {d : Kd α} {K K' : Hp} (k : Hp.le K K') : ∀ {xs : List α} {cs : List Value}, d.reps K xs cs → d.reps K' xs cs
  | [], _, h => h
  | _ :: _, _, ⟨c, cs', e, hc, h⟩ => ⟨c, cs', e, d.mono k hc, reps_mono k h⟩
theorem reps_append {d : Kd α} {K : Hp} : ∀ {xs ys : List α} {cs cs' : List Value}, d.reps K xs cs → d.reps K ys cs' → d.reps K (xs ++ ys) (cs ++ cs')
  | [], ys, cs, cs', h, h' => by rw [show cs = [] from h]; exact h'
  | x :: xs, ys, cs, cs', ⟨c, cs1, e, hc, h⟩, h' => ⟨c, cs1 ++ cs', by rw [e, List.append_assoc], hc, reps_append h h'⟩
theorem reps_single {d : Kd α} {K : Hp} {x : α} {c : List Value} (h : d.rep K x c) : d.reps K [x] c := ⟨c, [], by simp, h, rfl⟩
theorem reps_snoc {d : Kd α} {K : Hp} {xs : List α} {x : α} {cs c : List Value} (h : d.reps K xs cs) (h' : d.rep K x c) : d.reps K (xs ++ [x]) (cs ++ c) := reps_append h (reps_single h')
theorem reps_get {d : Kd α} {K : Hp} : ∀ {xs : List α} {cs : List Value}, d.reps K xs cs → ∀ (i : Nat) (x : α), xs[i]? = some x → ∃ c, d.rep K x c ∧ ∀ j u, c[j]? = some u → cs[i * d.sz + j]? = some u
  | [], _, _, i, x, hx => by simp at hx
  | y :: xs, cs, ⟨c, cs', e, hc, h⟩, 0, x, hx => by
    have : y = x := by simpa using hx
    subst this
    refine ⟨c, hc, fun j u hj => ?_⟩
    have hj' := (List.getElem?_eq_some_iff.1 hj).1
    rw [e, Nat.zero_mul, Nat.zero_add, List.getElem?_append_left hj']
    exact hj
  | y :: xs, cs, ⟨c, cs', e, hc, h⟩, i + 1, x, hx => by
    obtain ⟨c', hc', hj⟩ := reps_get h i x (by simpa using hx)
    refine ⟨c', hc', fun j u hu => ?_⟩
    have hl := d.len hc
    rw [e, List.getElem?_append_right (by rw [hl, Nat.add_mul, Nat.one_mul]; omega), hl]
    rw [show (i + 1) * d.sz + j - d.sz = i * d.sz + j by rw [Nat.add_mul, Nat.one_mul]; omega]
    exact hj j u hu
theorem reps_take {d : Kd α} {K : Hp} : ∀ {xs : List α} {cs : List Value} (n : Nat), d.reps K xs cs → d.reps K (xs.take n) (cs.take (n * d.sz))
  | xs, cs, 0, h => by simp; exact rfl
  | [], cs, n + 1, h => by rw [show cs = [] from h]; simp; exact rfl
  | x :: xs, cs, n + 1, ⟨c, cs', e, hc, h⟩ => by
    refine ⟨c, cs'.take (n * d.sz), ?_, hc, reps_take n h⟩
    have hl := d.len hc
    have e1 : (n + 1) * d.sz = d.sz + n * d.sz := by rw [Nat.add_mul, Nat.one_mul, Nat.add_comm]
    rw [e, e1, List.take_append, hl, List.take_of_length_le (by omega), show d.sz + n * d.sz - d.sz = n * d.sz by omega]
theorem reps_drop {d : Kd α} {K : Hp} : ∀ {xs : List α} {cs : List Value} (n : Nat), d.reps K xs cs → d.reps K (xs.drop n) (cs.drop (n * d.sz))
  | xs, cs, 0, h => by simpa using h
  | [], cs, n + 1, h => by rw [show cs = [] from h]; simp; exact rfl
  | x :: xs, cs, n + 1, ⟨c, cs', e, hc, h⟩ => by
    have hl := d.len hc
    have e1 : (n + 1) * d.sz = d.sz + n * d.sz := by rw [Nat.add_mul, Nat.one_mul, Nat.add_comm]
    have e2 : List.drop ((n + 1) * d.sz) cs = List.drop (n * d.sz) cs' := by
      rw [e, e1, List.drop_append, hl, List.drop_eq_nil_of_le (by omega), show d.sz + n * d.sz - d.sz = n * d.sz by omega, List.nil_append]
    rw [e2]
    exact reps_drop n h
/-- element i's cells become others -/
theorem reps_set {d : Kd α} {K : Hp} : ∀ {xs : List α} {cs : List Value} (i : Nat) (x : α) (c : List Value), d.reps K xs cs → i < xs.length → d.rep K x c → d.reps K (xs.set i x) (cs.take (i * d.sz) ++ c ++ cs.drop (i * d.sz + d.sz))
  | [], _, i, _, _, _, hi, _ => by simp at hi
  | y :: xs, cs, 0, x, c, ⟨c0, cs', e, hc0, h⟩, _, hc => by
    have hl := d.len hc0
    refine ⟨c, cs', ?_, hc, h⟩
    rw [e, Nat.zero_mul, List.take_zero, List.nil_append, Nat.zero_add, ← hl, List.drop_left]
  | y :: xs, cs, i + 1, x, c, ⟨c0, cs', e, hc0, h⟩, hi, hc => by
    have hl := d.len hc0
    refine ⟨c0, cs'.take (i * d.sz) ++ c ++ cs'.drop (i * d.sz + d.sz), ?_, hc0, reps_set i x c h (by simpa using hi) hc⟩
    have e1 : (i + 1) * d.sz = d.sz + i * d.sz := by rw [Nat.add_mul, Nat.one_mul, Nat.add_comm]
    have e2 : List.drop ((i + 1) * d.sz + d.sz) cs = List.drop (i * d.sz + d.sz) cs' := by
      rw [e, e1, List.drop_append, hl, List.drop_eq_nil_of_le (by omega), show d.sz + i * d.sz + d.sz - d.sz = i * d.sz + d.sz by omega, List.nil_append]
    have e3 : List.take ((i + 1) * d.sz) cs = c0 ++ List.take (i * d.sz) cs' := by
      rw [e, e1, List.take_append, hl, List.take_of_length_le (by omega), show d.sz + i * d.sz - d.sz = i * d.sz by omega]
    rw [e2, e3]
    simp only [List.append_assoc]

/-- A slice that is known. -/
def sl (d : Kd α) (K : Hp) (v : Value) (xs : List α) : Prop := ∃ A c cs, v = .slice A xs.length c ∧ xs.length ≤ c ∧ c ≤ maxLen ∧ d.reps K xs cs ∧ At K A cs
theorem sl_mono {d : Kd α} {K K' : Hp} (k : Hp.le K K') {v : Value} {xs : List α} (h : d.sl K v xs) : d.sl K' v xs := by
  obtain ⟨A, c, cs, e, h1, h2, h3, h4⟩ := h
  exact ⟨A, c, cs, e, h1, h2, reps_mono k h3, h4.mono k⟩
theorem sl_nil (d : Kd α) (K : Hp) : d.sl K (.slice none 0 0) [] := ⟨none, 0, [], rfl, Nat.le_refl _, by simp [maxLen], rfl, .inl rfl⟩
/-- its value, its length, and each element's cells -/
theorem sl_open {d : Kd α} {K : Hp} {v : Value} {xs : List α} (h : d.sl K v xs) : ∃ A c, v = .slice A xs.length c ∧ xs.length ≤ c ∧ c ≤ 9223372036854775807 ∧
    ∀ (i : Nat) (x : α), xs[i]? = some x → 0 < d.sz → ∃ ad cs, A = some ad ∧ d.rep K x cs ∧ ∀ j u, cs[j]? = some u → cellH K (ad.add (i * d.sz + j)) = some u := by
  obtain ⟨A, c, cs, e, h1, h2, h3, h4⟩ := h
  refine ⟨A, c, e, h1, by simp only [maxLen] at h2; omega, fun i x hx hs => ?_⟩
  obtain ⟨c', hc', hj⟩ := reps_get h3 i x hx
  rcases h4 with rfl | ⟨ad, rfl, hat⟩
  · have hl := d.len hc'
    cases c' with
    | nil => simp at hl; omega
    | cons u c' => have := hj 0 u rfl; simp at this
  · exact ⟨ad, c', rfl, hc', fun j u hu => hat _ _ (hj j u hu)⟩

/-! the kinds -/
def scalar (enc : α → Value) (h1 : ∀ x, (enc x).oneCell' = true) : Kd α where
  sz := 1
  rep := fun _ x cs => cs = [enc x]
  len := fun h => by rw [h]; rfl
  one := fun h u hu => by rw [h] at hu; rw [List.mem_singleton.1 hu]; exact h1 _
  mono := fun _ h => h
end Kd
def b8 (c : UInt8) : Int := (c.toNat : Int)
def strV (l : List UInt8) : Value := .string ⟨l.toArray⟩
namespace Kd
variable {α β : Type}
def int (k : IntKind) : Kd Int := scalar (Value.int k) (fun _ => rfl)
def u8 : Kd UInt8 := scalar (fun c => .int .u8 (b8 c)) (fun _ => rfl)
def bool : Kd Bool := scalar Value.bool (fun _ => rfl)
def str : Kd (List UInt8) := scalar strV (fun _ => rfl)
def val : Kd Value := { sz := 1, rep := fun _ x cs => cs = [x] ∧ x.oneCell' = true, len := fun h => by rw [h.1]; rfl, one := fun h u hu => by rw [h.1] at hu; rw [List.mem_singleton.1 hu]; exact h.2, mono := fun _ h => h }
def slice (d : Kd α) : Kd (List α) where
  sz := 1
  rep := fun K xs cs => ∃ v, cs = [v] ∧ d.sl K v xs
  len := by rintro K x cs ⟨v, rfl, _⟩; rfl
  one := by
    rintro K x cs ⟨v, rfl, A, c, _, rfl, _⟩ u hu
    rw [List.mem_singleton.1 hu]; rfl
  mono := by rintro K K' x cs k ⟨v, rfl, h⟩; exact ⟨v, rfl, sl_mono k h⟩
def pair (a : Kd α) (b : Kd β) : Kd (α × β) where
  sz := a.sz + b.sz
  rep := fun K x cs => ∃ c0 c1, cs = c0 ++ c1 ∧ a.rep K x.1 c0 ∧ b.rep K x.2 c1
  len := by rintro K x cs ⟨c0, c1, rfl, h0, h1⟩; rw [List.length_append, a.len h0, b.len h1]
  one := by
    rintro K x cs ⟨c0, c1, rfl, h0, h1⟩ u hu
    rcases List.mem_append.1 hu with hu | hu
    · exact a.one h0 u hu
    · exact b.one h1 u hu
  mono := by rintro K K' x cs k ⟨c0, c1, rfl, h0, h1⟩; exact ⟨c0, c1, rfl, a.mono k h0, b.mono k h1⟩
def iso (d : Kd α) (f : β → α) : Kd β where
  sz := d.sz
  rep := fun K x cs => d.rep K (f x) cs
  len := d.len
  one := d.one
  mono := d.mono
end Kd

/-! ### 3. Rows that are owned -/
/-- v is nil, or begins in a block of its own (of elements of type e), which may have room behind. -/
def SP.row {α : Type} (d : Kd α) (e : TypeId) (v : Value) (xs : List α) : SP :=
  ⟨fun K h => (v = .slice none 0 0 ∧ xs = [] ∧ ∀ g, h g = none) ∨
    ∃ g off cap cur cs, v = .slice (some ⟨g, off, none⟩) xs.length cap ∧ h = Hp.single g (.cells cur e (0, 0)) ∧ xs.length ≤ cap ∧ cap ≤ maxLen ∧ off + cap * d.sz ≤ cur.size ∧ d.reps K xs cs ∧ (∀ j u, cs[j]? = some u → cur[off + j]? = some u) ∧ off = 0,
   fun k => by
    rintro (h | ⟨g, off, cap, cur, cs, h1, h2, h3, h4, h5, h6, h7, h8⟩)
    · exact .inl h
    · exact .inr ⟨g, off, cap, cur, cs, h1, h2, h3, h4, h5, Kd.reps_mono k h6, h7, h8⟩⟩
/-- a variable in memory: block g holds one value -/
def SP.var {α : Type} (d : Kd α) (t : TypeId) (g : Nat) (x : α) : SP := ⟨fun K h => ∃ cs, d.rep K x cs ∧ h = Hp.single g (.cells cs.toArray t (0, 0)), fun k ⟨cs, a, b⟩ => ⟨cs, d.mono k a, b⟩⟩

theorem hp_drew (w : World) : hp w.drew = hp w := rfl
theorem hp_alloc_new (w : World) (o : Obj) : hp (w.alloc o) w.heap.size = some o := heap_alloc_new w o
theorem hp_fresh (w : World) : hp w w.heap.size = none := by simp [hp]
theorem hp_alloc_le (w : World) (o : Obj) : Hp.le (hp w) (hp (w.alloc o)) := by
  intro g p hg
  have hlt : g < w.heap.size := by
    rcases Nat.lt_or_ge g w.heap.size with h | h
    · exact h
    · simp [hp, Array.getElem?_eq_none h] at hg
  exact (Below.heap_alloc w o g hlt).trans hg

namespace Sat
variable {w0 w w' : World} {K K' : Hp} {L L' : List SP} {A B : SP} {α : Type} {d : Kd α} {e t : TypeId} {g : Nat} {v : Value} {xs ys : List α} {cs : List Value}

theorem drew (h : Sat w0 w K L) : Sat w0 w.drew K L := h.grow rfl rfl rfl (Hp.le.refl _)
theorem cell (h : Sat w0 w K L) {a : Addr} {v : Value} (hc : cellH K a = some v) : w.cell? a = some v := cell_of_known h.know hc
theorem alloc (h : Sat w0 w K L) (cs : List Value) (t : TypeId) : Sat w0 (w.alloc (.cells cs.toArray t)) K (SP.blk w.heap.size t cs :: L) :=
  h.add rfl rfl rfl (hp_alloc_le w _) (Hp.single w.heap.size (.cells cs.toArray t (0, 0))) rfl (Hp.single_le.2 (hp_alloc_new w _)) (fun g hg => by
    simp only [Hp.single] at hg
    split at hg
    · subst_vars; exact hp_fresh w
    · exact absurd rfl hg)
theorem blk_heap (h : Sat w0 w K (SP.blk g t cs :: L)) : w.heap[g]? = some (.cells cs.toArray t (0, 0)) := by
  obtain ⟨a, ha, hal, _⟩ := h.split1
  exact Hp.single_le.1 (show Hp.le (Hp.single g _) (hp w) by rw [← show a = _ from ha]; exact hal)
theorem blk_cell (h : Sat w0 w K (SP.blk g t cs :: L)) (i : Nat) : w.cell? ⟨g, i, none⟩ = cs[i]? := by
  rw [cell_of_row w g i _ t (0, 0) h.blk_heap]; simp
theorem blk_frozen (h : Sat w0 w K (SP.blk g t cs :: L)) (i : Nat) : w.frozen? ⟨g, i, none⟩ = false := frozen_of_row w g i _ t h.blk_heap
/-- a block's cells, all at once -/
theorem blk_setRow (h : Sat w0 w K (SP.blk g t cs :: L)) (cs' : List Value) : Sat w0 (w.setRow g cs'.toArray) K (SP.blk g t cs' :: L) := by
  have hg := h.blk_heap
  refine h.update rfl rfl rfl (fun a ha hal => ⟨Hp.single g (.cells cs'.toArray t (0, 0)), rfl, Hp.single_le.2 (setRow_heap w g _ _ t _ hg), fun k hk => .inl ?_, fun k hk o ho => ?_⟩)
  · rw [show a = _ from ha]
    simp only [Hp.single] at hk ⊢
    split at hk
    · rw [if_pos (by assumption)]; simp
    · exact absurd rfl hk
  · have hne : k ≠ g := by
      rintro rfl
      rw [show a = _ from ha, Hp.single_self] at hk
      cases hk
    exact (setRow_other w g k _ hne).trans ho
theorem blk_set (h : Sat w0 w K (SP.blk g t cs :: L)) (i : Nat) (u : Value) : Sat w0 (w.setCell ⟨g, i, none⟩ u) K (SP.blk g t (cs.set i u) :: L) := by
  have := h.blk_setRow (cs.set i u)
  rw [setCell_eq_setRow w g i _ t (0, 0) u h.blk_heap]
  simpa using this
/-- a variable's cells laid open, and shut -/
theorem var_open {x : α} (h : Sat w0 w K (SP.var d t g x :: L)) : ∃ cs, d.rep K x cs ∧ Sat w0 w K (SP.blk g t cs :: L) := by
  obtain ⟨a, ⟨cs, hr, ha⟩, hal, had, f, h1, h2, h3, h4, h5⟩ := h.split1
  exact ⟨cs, hr, Sat.of_split h.os h.tape h.output h.know h.base (A := SP.blk g t cs) ha hal had h1 h2 h3 h4 h5⟩
theorem var_shut {x : α} (h : Sat w0 w K (SP.blk g t cs :: L)) (hr : d.rep K x cs) : Sat w0 w K (SP.var d t g x :: L) := by
  obtain ⟨a, ha, hal, had, f, h1, h2, h3, h4, h5⟩ := h.split1
  exact Sat.of_split h.os h.tape h.output h.know h.base (A := SP.var d t g x) ⟨cs, hr, ha⟩ hal had h1 h2 h3 h4 h5

/-! rows -/
theorem row_nil (h : Sat w0 w K L) (d : Kd α) (e : TypeId) : Sat w0 w K (SP.row d e (.slice none 0 0) [] :: L) :=
  h.add rfl rfl rfl (Hp.le.refl _) Hp.zero (.inl ⟨rfl, rfl, fun _ => rfl⟩) (Hp.zero_le _) (fun g hg => absurd rfl hg)
theorem row_slice (h : Sat w0 w K (SP.row d e v xs :: L)) : ∃ A c, v = .slice A xs.length c ∧ xs.length ≤ c ∧ c ≤ 9223372036854775807 := by
  obtain ⟨a, ha | ⟨g, off, cap, cur, cs, h1, h2, h3, h4, _⟩, _⟩ := h.split1
  · obtain ⟨rfl, rfl, _⟩ := ha; exact ⟨none, 0, rfl, Nat.le_refl _, by omega⟩
  · exact ⟨_, cap, h1, h3, by simp only [maxLen] at h4; omega⟩
/-- each element's cells, in the world -/
theorem row_get (h : Sat w0 w K (SP.row d e v xs :: L)) (hs : 0 < d.sz) (i : Nat) (x : α) (hx : xs[i]? = some x) : ∃ ad c cs, v = .slice (some ad) xs.length c ∧ ad.spot = none ∧ d.rep K x cs ∧ (∀ j u, cs[j]? = some u → w.cell? (ad.add (i * d.sz + j)) = some u) ∧ (∀ j, j < d.sz → w.frozen? (ad.add (i * d.sz + j)) = false) := by
  obtain ⟨a, ha | ⟨g, off, cap, cur, cs, h1, h2, h3, h4, h5, h6, h7, h8⟩, hal, _⟩ := h.split1
  · obtain ⟨rfl, rfl, _⟩ := ha; simp at hx
  · obtain ⟨c', hc', hj⟩ := Kd.reps_get h6 i x hx
    have hg : w.heap[g]? = some (.cells cur e (0, 0)) := Hp.single_le.1 (show Hp.le (Hp.single g _) (hp w) by rw [← h2]; exact hal)
    refine ⟨⟨g, off, none⟩, cap, c', h1, rfl, hc', fun j u hu => ?_, fun j hjs => ?_⟩
    · rw [Addr.add_lit, cell_of_row w g _ _ e (0, 0) hg]
      exact h7 _ _ (hj j u hu)
    · rw [Addr.add_lit]; exact frozen_of_row w g _ _ e hg
/-- An owned row becomes known. -/
theorem row_keep (h : Sat w0 w K (SP.row d e v xs :: L)) : ∃ K', Hp.le K K' ∧ Sat w0 w K' L ∧ d.sl K' v xs := by
  obtain ⟨a, ha, hal, had, hk, hk', hs⟩ := h.keep
  refine ⟨_, hk, hs, ?_⟩
  rcases ha with ⟨rfl, rfl, _⟩ | ⟨g, off, cap, cur, cs, h1, h2, h3, h4, h5, h6, h7, h8⟩
  · exact Kd.sl_nil d _
  · refine ⟨_, cap, cs, h1, h3, h4, Kd.reps_mono hk h6, .inr ⟨_, rfl, fun j u hu => ?_⟩⟩
    rw [Addr.add_lit]
    refine cellH_mono hk' ?_
    rw [h2, cellH_single]
    exact h7 j u hu
/-- A block that was laid for a literal is a row. -/
theorem blk_row {n : Nat} (h : Sat w0 w K (SP.blk g e cs :: L)) (hr : d.reps K xs cs) (hn : xs.length ≤ maxLen) : Sat w0 w K (SP.row d e (.slice (some ⟨g, 0, none⟩) xs.length xs.length) xs :: L) := by
  have hl := Kd.reps_len hr
  refine h.swap (fun a ha => .inr ⟨g, 0, xs.length, cs.toArray, cs, rfl, ha, Nat.le_refl _, hn, ?_, hr, fun j u hu => ?_, rfl⟩)
  · simp [hl]
  · simpa using hu
/-- A block that was laid becomes known. -/
theorem blk_keep (h : Sat w0 w K (SP.blk g t cs :: L)) : ∃ K', Hp.le K K' ∧ Sat w0 w K' L ∧ K' g = some (.cells cs.toArray t (0, 0)) := by
  obtain ⟨a, ha, hal, had, hk, hk', hs⟩ := h.keep
  exact ⟨_, hk, hs, hk' _ _ (by rw [show a = _ from ha]; exact Hp.single_self _ _)⟩

/-- APPEND, AT THE HEAP: the elements' cells lie at b; v' is the row with them behind. -/
theorem run_append {P : Program} (h : Sat w0 w K (SP.row d e v xs :: L)) (tt ty : TypeId) (i : TypeInfo) (z : Value) (ht : P.underlying tt = some (.slice e)) (hi : P.info? e = some i) (hz : i.zero = some z) (hsz : i.size = d.sz) (hzs : z.cells.size = d.sz) (hs0 : 0 < d.sz)
    (b : Addr) (m c : Nat) (news : List Value) (hm : ys.length = m) (hr : d.reps K ys news) (hat : ∀ j u, news[j]? = some u → w.cell? (b.add j) = some u) (hb : (xs.length + m) * i.bytes ≤ 140737488355328) (hmax : xs.length + m ≤ maxLen) :
    ∃ v' w', (Builtin.append_ #[tt, tt] ty #[v, .slice (some b) m c]).run P w = .ok v' w' ∧ Sat w0 w' K (SP.row d e v' (xs ++ ys) :: L) := by
  subst hm
  have hnl := Kd.reps_len hr
  have hl' : news.length = ys.length * i.size := by rw [hsz]; exact hnl
  have h63 : xs.length + ys.length ≤ 9223372036854775807 := by simp only [maxLen] at hmax; omega
  obtain ⟨a, ha, hal, had, f, f1, f2, f3, f4, f5⟩ := h.split1
  -- the new block, where it grows
  have grown : ∀ (old : Nat) (cs : List Value), old < xs.length + ys.length → d.reps K xs cs → Sat w0 (w.drew.alloc (.cells (cs.toArray ++ news.toArray ++ Builtin.zeroCells z.cells (grownCap w (xs.length + ys.length) old e - (xs.length + ys.length))) e)) K
      (SP.row d e (.slice (some ⟨w.heap.size, 0, none⟩) (xs.length + ys.length) (grownCap w (xs.length + ys.length) old e)) (xs ++ ys) :: L) := by
    intro old cs ho hcs
    have hge := grownCap_ge w (xs.length + ys.length) old e
    have hcm := grownCap_le_maxLen w (xs.length + ys.length) old e hmax
    have hb0 := (h.tail.drew).alloc (cs ++ news ++ (Builtin.zeroCells z.cells (grownCap w (xs.length + ys.length) old e - (xs.length + ys.length))).toList) e
    have hlc := Kd.reps_len hcs
    have hrr := Kd.reps_append hcs hr
    have key : ∀ x, (SP.blk w.heap.size e (cs ++ news ++ (Builtin.zeroCells z.cells (grownCap w (xs.length + ys.length) old e - (xs.length + ys.length))).toList)).p K x → (SP.row d e (.slice (some ⟨w.heap.size, 0, none⟩) (xs.length + ys.length) (grownCap w (xs.length + ys.length) old e)) (xs ++ ys)).p K x := by
      intro x hx
      refine .inr ⟨w.heap.size, 0, grownCap w (xs.length + ys.length) old e, _, cs ++ news, by rw [List.length_append], hx, by rw [List.length_append]; exact hge, hcm, ?_, hrr, fun j u hu => ?_, rfl⟩
      · simp only [List.size_toArray, List.length_append, Array.length_toList, size_zeroCells, hzs, hlc, hnl]
        rw [← Nat.add_mul, ← Nat.add_mul, Nat.zero_add]
        exact Nat.mul_le_mul_right _ (by omega)
      · have hj := (List.getElem?_eq_some_iff.1 hu).1
        rw [Nat.zero_add, List.getElem?_toArray, List.getElem?_append_left hj]
        exact hu
    have := hb0.swap key
    have he : (cs ++ news ++ (Builtin.zeroCells z.cells (grownCap w (xs.length + ys.length) old e - (xs.length + ys.length))).toList).toArray = cs.toArray ++ news.toArray ++ Builtin.zeroCells z.cells (grownCap w (xs.length + ys.length) old e - (xs.length + ys.length)) := by simp
    rw [he] at this
    exact this
  rcases ha with ⟨rfl, rfl, hz0⟩ | ⟨g, off, cap, cur, cs, rfl, h2, h3, h4, h5, h6, h7, h8⟩
  · by_cases hy : ys = []
    · subst hy
      refine ⟨.slice none 0 0, w, ?_, by simpa using h⟩
      have hn0 : news = [] := hr
      simp [Builtin.append_, run_underlying ht, sizeOf, typeInfo, hi, Builtin.lenOf, Builtin.firstCells, loadCells, loadCellsFrom]
    · have hpos : 0 < ys.length := List.length_pos_iff.2 hy
      have hg := grown 0 [] (by simp; omega) rfl
      have hrun := run_append_nil (P := P) w tt ty e i z ht hi hz b ys.length c news hl' hat hpos (by simp at h63; omega) (by simp at hb; omega)
      refine ⟨_, _, hrun, ?_⟩
      simpa using hg
  · have hgw : w.heap[g]? = some (.cells cur e (0, 0)) := Hp.single_le.1 (show Hp.le (Hp.single g _) (hp w) by rw [← h2]; exact hal)
    have hlc := Kd.reps_len h6
    by_cases hroom : xs.length + ys.length ≤ cap
    · have hfit : off + xs.length * d.sz + news.length ≤ cur.size := by
        have : (xs.length + ys.length) * d.sz ≤ cap * d.sz := Nat.mul_le_mul_right _ hroom
        rw [Nat.add_mul] at this
        omega
      have hf := run_firstCells_some (P := P) w i.size ys.length b ys.length c news hl' hat
      have hst := run_storeCells_at P g (off + xs.length * d.sz) e news 0 cur w hgw (by simpa using hfit) (Kd.reps_one hr)
      simp only [Nat.add_zero] at hst
      refine ⟨.slice (some ⟨g, off, none⟩) (xs.length + ys.length) cap, w.setRow g (cur.toList.take (off + xs.length * d.sz) ++ news ++ cur.toList.drop (off + xs.length * d.sz + news.length)).toArray, ?_, ?_⟩
      · rw [hsz] at hf
        simp [Builtin.append_, run_underlying ht, sizeOf, typeInfo, hi, Builtin.lenOf, hroom, hf, Addr.add_lit, hsz, hst]
      · refine h.update rfl rfl rfl (fun a' ha' hal' => ?_)
        have hdom : ∀ k, a' k ≠ none ↔ k = g := by
          intro k
          rcases ha' with ⟨e', _⟩ | ⟨g', off', cap', cur', cs', e', hh', _⟩
          · simp at e'
          · have : g' = g := by
              simp only [Value.slice.injEq, Option.some.injEq, Addr.mk.injEq] at e'
              exact e'.1.1.symm
            subst this
            rw [hh']
            simp [Hp.single]
        refine ⟨Hp.single g (.cells (cur.toList.take (off + xs.length * d.sz) ++ news ++ cur.toList.drop (off + xs.length * d.sz + news.length)).toArray e (0, 0)), ?_, Hp.single_le.2 (setRow_heap w g cur _ e _ hgw), fun k hk => .inl ?_, fun k hk o ho => ?_⟩
        · refine .inr ⟨g, off, cap, _, cs ++ news, by rw [List.length_append], rfl, by rw [List.length_append]; exact hroom, h4, ?_, Kd.reps_append h6 hr, fun j u hu => ?_, h8⟩
          · simp only [List.size_toArray, List.length_append, List.length_take, List.length_drop, Array.length_toList]
            omega
          · have hj := (List.getElem?_eq_some_iff.1 hu).1
            rw [List.length_append] at hj
            have hcl : cur.toList.length = cur.size := Array.length_toList
            have ht' : (List.take (off + xs.length * d.sz) cur.toList).length = off + xs.length * d.sz := by rw [List.length_take, hcl]; omega
            rw [List.getElem?_toArray, List.append_assoc]
            rcases Nat.lt_or_ge j cs.length with hjl | hjl
            · rw [List.getElem?_append_left hjl] at hu
              rw [List.getElem?_append_left (by omega), List.getElem?_take, if_pos (by omega), Array.getElem?_toList]
              exact h7 j u hu
            · rw [List.getElem?_append_right hjl] at hu
              rw [List.getElem?_append_right (by omega), ht', List.getElem?_append_left (by omega)]
              rw [show off + j - (off + xs.length * d.sz) = j - cs.length by omega]
              exact hu
        · rw [hdom]
          simp only [Hp.single] at hk
          split at hk
          · assumption
          · exact absurd rfl hk
        · have hne : k ≠ g := fun e' => absurd hk ((hdom k).2 e')
          exact (setRow_other w g k _ hne).trans ho
    · have hg := grown cap cs (by omega) h6
      have holds : ∀ j u, cs[j]? = some u → w.cell? ((⟨g, off, none⟩ : Addr).add j) = some u := fun j u hu => by
        rw [Addr.add_lit, cell_of_row w g _ _ e (0, 0) hgw]
        exact h7 j u hu
      have hrun := run_append_grow (P := P) w tt ty e i z ht hi hz ⟨g, off, none⟩ xs.length cap cs (by rw [hsz]; exact hlc) holds b ys.length c news hl' hat (by omega) (by omega) (growslice_fits (by omega) hb)
      exact ⟨_, _, hrun, hg⟩
end Sat
end Go.Proofs.YthjfnknhcmhmiaaDoor.Sl
