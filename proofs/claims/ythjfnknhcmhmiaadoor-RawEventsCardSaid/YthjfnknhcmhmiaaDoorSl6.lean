/-
  The memory logic, sixth part: pieces of code; regions that draw their order; how a function begins and ends.
-/
import Derived.Test.YthjfnknhcmhmiaaDoorSl5
import Derived.Deep.RegionHeld3
set_option linter.unusedVariables false
set_option linter.unusedSimpArgs false
namespace Go.Proofs.YthjfnknhcmhmiaaDoor.Sl
open Go Go.RowKit

/-! ### 1. Sequential regions: a step, the frame behind a letter -/
section
variable {P : Program} {n : Nat} {D : List Deferred} {a : Act} {w w' : World} {σ : Sg} {o : Oper} {ops : Array Oper} {rest : List Oper} {Q : Exit → Act → World → Prop} {d : Nat} {v : Value}
theorem st_val (hS : Slots n D a σ) (hg : o.guard = none) (hd : o.dst = some d) (hn : d < n) (hr : (execOp a.eval o).run P w = .ok (.value v) w) (k : ∀ a', Slots n D a' ((d, v) :: σ) → wpList P ops Q rest a' w) : wpList P ops Q (o :: rest) a w :=
  wl_cons hg (op_val hr (by rw [hd]; exact k _ (hS.put d v hn)))
theorem st_none (hS : Slots n D a σ) (hg : o.guard = none) (hd : o.dst = none) (hr : (execOp a.eval o).run P w = .ok (.value v) w) (k : ∀ a', Slots n D a' σ → wpList P ops Q rest a' w) : wpList P ops Q (o :: rest) a w :=
  wl_cons hg (op_val hr (by rw [hd]; exact k _ (hS.put_none v)))
theorem st_want (hS : Slots n D a σ) {i : Nat} {b : Bool} {g : Oper} {gd : Nat} (hg : o.guard = some (i, b)) (ho : ops[i]? = some g) (hgd : g.dst = some gd) (hv : look σ gd = some (.bool b)) (hd : o.dst = some d) (hn : d < n) (hr : (execOp a.eval o).run P w = .ok (.value v) w) (k : ∀ a', Slots n D a' ((d, v) :: σ) → wpList P ops Q rest a' w) : wpList P ops Q (o :: rest) a w :=
  wl_want hg ho hgd (hS.get gd _ hv) (op_val hr (by rw [hd]; exact k _ (hS.put d v hn)))
theorem st_off (hS : Slots n D a σ) {i : Nat} {b c : Bool} {g : Oper} {gd : Nat} (hg : o.guard = some (i, b)) (ho : ops[i]? = some g) (hgd : g.dst = some gd) (hv : look σ gd = some (.bool c)) (hne : (c == b) = false) (hd : o.dst = some d) (hn : d < n) (k : ∀ a', Slots n D a' ((d, undef) :: σ) → wpList P ops Q rest a' w) : wpList P ops Q (o :: rest) a w :=
  wl_off hg ho hgd (hS.get gd _ hv) hne (by rw [hd]; exact k _ (hS.put d undef hn))
theorem st_off_undef (hS : Slots n D a σ) {i : Nat} {b : Bool} {g : Oper} {gd : Nat} (hg : o.guard = some (i, b)) (ho : ops[i]? = some g) (hgd : g.dst = some gd) (hv : look σ gd = some undef) (hd : o.dst = some d) (hn : d < n) (k : ∀ a', Slots n D a' ((d, undef) :: σ) → wpList P ops Q rest a' w) : wpList P ops Q (o :: rest) a w :=
  wl_off_undef hg ho hgd (hS.get gd _ hv) (by rw [hd]; exact k _ (hS.put d undef hn))
theorem _root_.Go.Proofs.YthjfnknhcmhmiaaDoor.Sl.Slots.known {k : Nat} {c b : Bool} (hS : Slots n D a σ) (hl : look σ k = some (.bool c)) (hc : c = b) : Slots n D a ((k, .bool b) :: σ) := by
  subst hc
  refine ⟨hS.size, hS.defers, fun i u hi => ?_⟩
  simp only [look] at hi
  cases hb : Nat.beq i k with
  | true => rw [hb] at hi; rw [Nat.eq_of_beq_eq_true hb, ← hi]; exact hS.get k _ hl
  | false => rw [hb] at hi; exact hS.get i u hi
theorem st_done (h : Q .normal a w) : wpList P ops Q [] a w := h
end

/-! ### 2. Regions that draw their order -/
section
variable {P : Program} {ops : Array Oper} {Q : Exit → Act → World → Prop}

/-- number d waits for number i -/
def waits (ops : Array Oper) (i : Nat) : Nat → Nat → Bool
  | 0, _ => false
  | fuel + 1, d => match ops[d]? with
    | some o => o.after.any fun e => Region.binds .any e && (e.on == i || waits ops i fuel e.on)
    | none => false
def Shuts (ops : Array Oper) (l : Array Bool) : Prop :=
  ∀ (j : Nat) oj, ops[j]? = some oj → l.getD j false = true → ∀ e ∈ oj.after, Region.binds .any e = true → l.getD e.on false = true
def shutB (ops : Array Oper) (l : Array Bool) : Bool :=
  (List.range ops.size).all fun j => !l.getD j false || match ops[j]? with
    | some o => o.after.all fun e => !Region.binds .any e || l.getD e.on false
    | none => true
theorem shutB_spec {l : Array Bool} (h : shutB ops l = true) : Shuts ops l := by
  intro j oj hj hl e he hb
  have hlt : j < ops.size := (Array.getElem?_eq_some_iff.1 hj).1
  have h1 := List.all_eq_true.1 h j (List.mem_range.2 hlt)
  simp only [hl, hj, Bool.not_true, Bool.false_or] at h1
  have h2 := Array.all_eq_true_iff_forall_mem.1 h1 e he
  simpa [hb] using h2
theorem Shuts.set {l : Array Bool} {i : Nat} (h : Shuts ops l) (hi : i ∈ Region.ready .any ops l) : Shuts ops (l.setIfInBounds i true) := by
  obtain ⟨_, oi, hoi, hall⟩ := mem_ready.1 hi
  intro j oj hj hl e he hb
  by_cases hij : i = j
  · subst hij
    have : oj = oi := Option.some.inj (hj.symm.trans hoi)
    subst this
    exact getD_set_true (hall e he hb)
  · rw [getD_set_ne false hij] at hl
    exact getD_set_true (h j oj hj hl e he hb)
theorem waits_listed {l : Array Bool} {i : Nat} (hc : Shuts ops l) : ∀ (fuel d : Nat), waits ops i fuel d = true → l.getD d false = true → l.getD i false = true
  | 0, _, h, _ => by simp [waits] at h
  | fuel + 1, d, h, hl => by
    unfold waits at h
    cases ho : ops[d]? with
    | none => rw [ho] at h; simp at h
    | some o =>
      rw [ho] at h
      obtain ⟨e, he, h1⟩ := Array.any_eq_true'.1 h
      simp only [Bool.and_eq_true, Bool.or_eq_true, beq_iff_eq] at h1
      have hle := hc d o ho hl e he h1.1
      rcases h1.2 with h2 | h2
      · rw [← h2]; exact hle
      · exact waits_listed hc fuel e.on h2 hle
theorem waits_not {l : Array Bool} {i d fuel : Nat} (hc : Shuts ops l) (hd : d ∈ Region.ready .any ops l) (hun : l.getD i true = false) : waits ops i fuel d = false := by
  cases hr : waits ops i fuel d with
  | false => rfl
  | true =>
    exfalso
    obtain ⟨_, o, ho, hall⟩ := mem_ready.1 hd
    have hi : l.getD i false = true := by
      cases fuel with
      | zero => simp [waits] at hr
      | succ n =>
        unfold waits at hr
        rw [ho] at hr
        obtain ⟨e, he, h1⟩ := Array.any_eq_true'.1 hr
        simp only [Bool.and_eq_true, Bool.or_eq_true, beq_iff_eq] at h1
        have hle := hall e he h1.1
        rcases h1.2 with h2 | h2
        · rw [← h2]; exact hle
        · exact waits_listed hc n e.on h2 hle
    rcases Nat.lt_or_ge i l.size with h' | h'
    · simp [h'] at hun hi
      rw [hun] at hi
      cases hi
    · simp [Array.getElem?_eq_none h'] at hun

/-- Each taken first is still good behind number j. -/
def Dem (ops : Array Oper) (T : List (Nat × (World → Prop))) (j : Nat) (w w' : World) : Prop := ∀ p ∈ T, waits ops p.1 ops.size j = false → p.2 w → p.2 w'
theorem Dem.nil {j : Nat} {w w' : World} : Dem ops [] j w w' := fun _ h => by cases h
theorem Dem.wait {j i : Nat} {S : World → Prop} {T : List (Nat × (World → Prop))} {w w' : World} (h : waits ops i ops.size j = true) (r : Dem ops T j w w') : Dem ops ((i, S) :: T) j w w' := fun p hp hw => by
  rcases List.mem_cons.1 hp with rfl | hp
  · rw [h] at hw; cases hw
  · exact r p hp hw
theorem Dem.keep {j i : Nat} {S : World → Prop} {T : List (Nat × (World → Prop))} {w w' : World} (h : S w → S w') (r : Dem ops T j w w') : Dem ops ((i, S) :: T) j w w' := fun p hp hw => by
  rcases List.mem_cons.1 hp with rfl | hp
  · exact h
  · exact r p hp hw
theorem Dem.same {j : Nat} {T : List (Nat × (World → Prop))} {w : World} : Dem ops T j w w := fun _ _ _ h => h

/-- Whatever order is picked from here on; T: what has been taken first, and in which worlds it yields. -/
def wpT (P : Program) (ops : Array Oper) (Q : Exit → Act → World → Prop) : Nat → List (Nat × (World → Prop)) → Array Bool → Act → World → Prop
  | 0, _, l, a, w => Region.ready .any ops l = [] ∧ Q .normal a w
  | fuel + 1, T, l, a, w =>
    (Region.ready .any ops l = [] → Q .normal a w) ∧
    ∀ i ∈ Region.ready .any ops l, wpOp P ops Q i (fun a' w' => Dem ops T i w w' ∧ wpT P ops Q fuel T (l.setIfInBounds i true) a' w') a w
theorem wpAny_of_wpT : ∀ (fuel : Nat) (T) (l : Array Bool) (a : Act) (w : World), wpT P ops Q fuel T l a w → wpAny P .any ops Q fuel l a w
  | 0, _, _, _, _, h => h
  | fuel + 1, T, _, _, _, h => ⟨h.1, fun i hi => wpOp_mono (fun a' w' h' => wpAny_of_wpT fuel T _ a' w' h'.2) (h.2 i hi)⟩
theorem wpT_fewer : ∀ (fuel : Nat) (T T') (l : Array Bool) (a : Act) (w : World), (∀ p ∈ T', p ∈ T) → wpT P ops Q fuel T l a w → wpT P ops Q fuel T' l a w
  | 0, _, _, _, _, _, _, h => h
  | fuel + 1, T, T', _, _, _, hT, h => ⟨h.1, fun i hi => wpOp_mono (fun a' w' h' => ⟨fun p hp => h'.1 p (hT p hp), wpT_fewer fuel T T' _ a' w' hT h'.2⟩) (h.2 i hi)⟩

theorem wpT_first {i : Nat} {oi : Oper} {v : Value} {S : World → Prop} (hi : ops[i]? = some oi) (hsel : ∀ (j : Nat) (o : Oper) cs b, ops[j]? = some o → o.op ≠ .select cs b)
    (hQ : ∀ c a w, Q (.panic c) (a.put oi.dst v) w → Q (.panic c) a w) :
    ∀ (fuel : Nat) (T) (l : Array Bool) (a : Act) (w : World),
      (∀ j oj, ops[j]? = some oj → j ≠ i → l.getD j true = false → (∀ e ∈ oj.after, Region.binds .any e = true → e.on ≠ i) → oi.apart ops oj = true) →
      Shuts ops l → i ∈ Region.ready .any ops l → YieldsIf P ops S oi v a → S w →
      wpT P ops Q fuel ((i, S) :: T) (l.setIfInBounds i true) (a.put oi.dst v) w → wpT P ops Q (fuel + 1) T l a w := by
  intro fuel
  induction fuel with
  | zero =>
    intro T l a w _ _ hr hy hS H
    refine ⟨fun h => (by rw [h] at hr; cases hr), fun j hj => ?_⟩
    by_cases hji : j = i
    · subst hji; exact hy.wpOp hi hS ⟨Dem.same, H⟩
    · have := ready_mono hj hji
      rw [H.1] at this
      cases this
  | succ fuel ih =>
    intro T l a w hfree hc hr hy hS H
    refine ⟨fun h => (by rw [h] at hr; cases hr), fun j hj => ?_⟩
    by_cases hji : j = i
    · subst hji; exact hy.wpOp hi hS ⟨Dem.same, wpT_fewer _ _ _ _ _ _ (fun p hp => List.mem_cons_of_mem _ hp) H⟩
    · have h1 := H.2 j (ready_mono hj hji)
      obtain ⟨hjun, oj, hoj, hall⟩ := mem_ready.1 hj
      have hiun := (mem_ready.1 hr).1
      have hnot : ∀ e ∈ oj.after, Region.binds .any e = true → e.on ≠ i := fun e he hb heq => by
        have h1 := hall e he hb
        rw [heq] at h1
        rcases Nat.lt_or_ge i l.size with h' | h'
        · simp [h'] at hiun h1; rw [hiun] at h1; cases h1
        · simp [Array.getElem?_eq_none h'] at h1
      have hjw := waits_not (fuel := ops.size) hc hj hiun
      have h2 := wpOp_putIf hoj (hfree j oj hoj hji hjun hnot) (fun cs b => hsel i oi cs b hi) (fun cs b => hsel j oj cs b hoj) hQ hy h1
      have hfree' : ∀ k ok, ops[k]? = some ok → k ≠ i → (l.setIfInBounds j true).getD k true = false →
          (∀ e ∈ ok.after, Region.binds .any e = true → e.on ≠ i) → oi.apart ops ok = true := fun k ok hk hki hun hno => by
        refine hfree k ok hk hki ?_ hno
        by_cases hjk : j = k
        · subst hjk; exact hjun
        · rw [getD_set_ne true hjk] at hun; exact hun
      refine wpOp_mono (fun a' w' h3 => ⟨fun p hp => h3.2.1 p (List.mem_cons_of_mem _ hp), ih T (l.setIfInBounds j true) a' w' hfree' (hc.set hj) (ready_mono hr (Ne.symm hji)) h3.1 (h3.2.1 (i, S) List.mem_cons_self hjw hS) ?_⟩) h2
      rw [Array.setIfInBounds_comm _ _ hji]
      exact h3.2.2

/-- Number i may be taken first. -/
def takeB (ops : Array Oper) (l l' : Array Bool) (i : Nat) : Bool :=
  Region.noSelect ops && Region.free .any ops l i && (Region.ready .any ops l).contains i && shutB ops l && (l.setIfInBounds i true == l')
theorem wpT_take {i : Nat} {oi : Oper} {v : Value} {S : World → Prop} {fuel : Nat} {T} {l : Array Bool} {a : Act} {w : World} (l' : Array Bool) (hi : ops[i]? = some oi) (hc : takeB ops l l' i = true)
    (hy : YieldsIf P ops S oi v a) (hS : S w) (h : wpT P ops (NoPanic Q) fuel ((i, S) :: T) l' (a.put oi.dst v) w) : wpT P ops (NoPanic Q) (fuel + 1) T l a w := by
  simp only [takeB, Bool.and_eq_true, beq_iff_eq] at hc
  obtain ⟨⟨⟨⟨h1, h2⟩, h3⟩, h4⟩, h6⟩ := hc
  subst h6
  exact wpT_first hi (Region.noSelect_spec h1) (fun _ _ _ h => h) fuel T l a w (Region.free_spec hi h2) (shutB_spec h4) (by simpa using h3) hy hS h
variable {n : Nat} {D : List Deferred} {σ : Sg} {d : Nat}
/-- a value that no write of the region touches is taken first; w0, K, L: what it looks at -/
theorem tk_val {i : Nat} {oi : Oper} {v : Value} {S : World → Prop} {fuel : Nat} {T} {l : Array Bool} {a : Act} {w : World} (l' : Array Bool) (hS : Slots n D a σ) (hi : ops[i]? = some oi) (hc : takeB ops l l' i = true) (hg : oi.guard = none) (hd : oi.dst = some d) (hn : d < n)
    (hSw : S w) (hr : ∀ w, S w → (execOp a.eval oi).run P w = .ok (.value v) w) (k : ∀ a', Slots n D a' ((d, v) :: σ) → wpT P ops (NoPanic Q) fuel ((i, S) :: T) l' a' w) : wpT P ops (NoPanic Q) (fuel + 1) T l a w :=
  wpT_take l' hi hc (.inl ⟨by simp [Region.wanted, hg], hr⟩) hSw (by rw [hd]; exact k _ (hS.put d v hn))
/-- the same, whatever the world -/
theorem tk_any {i : Nat} {oi : Oper} {v : Value} {fuel : Nat} {T} {l : Array Bool} {a : Act} {w : World} (l' : Array Bool) (hS : Slots n D a σ) (hi : ops[i]? = some oi) (hc : takeB ops l l' i = true) (hg : oi.guard = none) (hd : oi.dst = some d) (hn : d < n)
    (hr : ∀ w, (execOp a.eval oi).run P w = .ok (.value v) w) (k : ∀ a', Slots n D a' ((d, v) :: σ) → wpT P ops (NoPanic Q) fuel T l' a' w) : wpT P ops (NoPanic Q) (fuel + 1) T l a w := by
  have key := wpT_take (P := P) (Q := Q) (fuel := fuel) (T := T) (w := w) (v := v) (S := fun _ => True) l' hi hc (.inl ⟨by simp [Region.wanted, hg], fun w _ => hr w⟩) trivial
  refine key ?_
  have : ∀ (fuel : Nat) (T) (l : Array Bool) (a : Act) (w : World), wpT P ops (NoPanic Q) fuel T l a w → wpT P ops (NoPanic Q) fuel ((i, fun _ => True) :: T) l a w := by
    intro fuel
    induction fuel with
    | zero => exact fun _ _ _ _ h => h
    | succ fuel ih => exact fun T l a w h => ⟨h.1, fun j hj => wpOp_mono (fun a' w' h' => ⟨Dem.keep (fun h => h) h'.1, ih _ _ _ _ h'.2⟩) (h.2 j hj)⟩
  exact this _ _ _ _ _ (by rw [hd]; exact k _ (hS.put d v hn))
/-- an operation whose guard is off -/
theorem tk_off {i : Nat} {oi : Oper} {fuel : Nat} {T} {l : Array Bool} {a : Act} {w : World} (l' : Array Bool) (hS : Slots n D a σ) (hi : ops[i]? = some oi) (hc : takeB ops l l' i = true) {j : Nat} {b : Bool} {g : Oper} {gd : Nat} {u : Value} (hg : oi.guard = some (j, b)) (ho : ops[j]? = some g) (hgd : g.dst = some gd) (hv : look σ gd = some u) (hne : u = .bool (!b) ∨ u = undef) (hd : oi.dst = some d) (hn : d < n)
    (k : ∀ a', Slots n D a' ((d, undef) :: σ) → wpT P ops (NoPanic Q) fuel ((i, fun _ => True) :: T) l' a' w) : wpT P ops (NoPanic Q) (fuel + 1) T l a w :=
  wpT_take (S := fun _ => True) l' hi hc (.inr ⟨by
    have := hS.get gd _ hv
    rcases hne with rfl | rfl
    · have : (a.tmps[gd]?) = some (Value.bool (!b)) := this
      simp only [Region.wanted, hg, yielded, ho, hgd, Option.bind_some, this]; cases b <;> simp
    · have : a.tmps[gd]? = some undef := this
      simp only [Region.wanted, hg, yielded, ho, hgd, Option.bind_some, this]; simp [undef], rfl⟩) trivial (by rw [hd]; exact k _ (hS.put d undef hn))
/-- a guarded one that is wanted -/
theorem tk_want {i : Nat} {oi : Oper} {v : Value} {S : World → Prop} {fuel : Nat} {T} {l : Array Bool} {a : Act} {w : World} (l' : Array Bool) (hS : Slots n D a σ) (hi : ops[i]? = some oi) (hc : takeB ops l l' i = true) {j : Nat} {b : Bool} {g : Oper} {gd : Nat} (hg : oi.guard = some (j, b)) (ho : ops[j]? = some g) (hgd : g.dst = some gd) (hv : look σ gd = some (.bool b)) (hd : oi.dst = some d) (hn : d < n)
    (hSw : S w) (hr : ∀ w, S w → (execOp a.eval oi).run P w = .ok (.value v) w) (k : ∀ a', Slots n D a' ((d, v) :: σ) → wpT P ops (NoPanic Q) fuel ((i, S) :: T) l' a' w) : wpT P ops (NoPanic Q) (fuel + 1) T l a w :=
  wpT_take l' hi hc (.inl ⟨by
    have := hS.get gd _ hv
    simp [Region.wanted, hg, yielded, ho, hgd, Array.getD_eq_getD_getElem?, this], hr⟩) hSw (by rw [hd]; exact k _ (hS.put d v hn))
/-- the one that must come up now -/
def oneB (ops : Array Oper) (l l' : Array Bool) (i : Nat) : Bool := (Region.ready .any ops l == [i]) && (l.setIfInBounds i true == l')
theorem ef_one {i : Nat} {oi : Oper} {fuel : Nat} {T} {l : Array Bool} {a : Act} {w : World} (l' : Array Bool) (hi : ops[i]? = some oi) (hc : oneB ops l l' i = true) (hg : oi.guard = none)
    (h : oi.wp P a w (fun a' w' => Dem ops T i w w' ∧ wpT P ops (NoPanic Q) fuel T l' a' w') (NoPanic Q)) : wpT P ops (NoPanic Q) (fuel + 1) T l a w := by
  simp only [oneB, Bool.and_eq_true, beq_iff_eq] at hc
  obtain ⟨hr, rfl⟩ := hc
  refine ⟨fun h0 => (by rw [hr] at h0; cases h0), fun j hj => ?_⟩
  rw [hr, List.mem_singleton] at hj
  subst hj
  unfold wpOp
  simp only [hi]
  rw [if_pos (by simp [Region.wanted, hg])]
  exact .inl h
theorem ef_want {i : Nat} {oi : Oper} {fuel : Nat} {T} {l : Array Bool} {a : Act} {w : World} (l' : Array Bool) (hS : Slots n D a σ) (hi : ops[i]? = some oi) (hc : oneB ops l l' i = true) {j : Nat} {b : Bool} {g : Oper} {gd : Nat} (hg : oi.guard = some (j, b)) (ho : ops[j]? = some g) (hgd : g.dst = some gd) (hv : look σ gd = some (.bool b))
    (h : oi.wp P a w (fun a' w' => Dem ops T i w w' ∧ wpT P ops (NoPanic Q) fuel T l' a' w') (NoPanic Q)) : wpT P ops (NoPanic Q) (fuel + 1) T l a w := by
  simp only [oneB, Bool.and_eq_true, beq_iff_eq] at hc
  obtain ⟨hr, rfl⟩ := hc
  refine ⟨fun h0 => (by rw [hr] at h0; cases h0), fun j hj => ?_⟩
  rw [hr, List.mem_singleton] at hj
  subst hj
  have := hS.get gd _ hv
  unfold wpOp
  simp only [hi]
  rw [if_pos (by simp [Region.wanted, hg, yielded, ho, hgd, Array.getD_eq_getD_getElem?, this])]
  exact .inl h
/-- two that may come up now -/
def twoB (ops : Array Oper) (l l1 l2 : Array Bool) (i j : Nat) : Bool := (Region.ready .any ops l == [i, j]) && (l.setIfInBounds i true == l1) && (l.setIfInBounds j true == l2)
theorem ef_two {i j : Nat} {oi oj : Oper} {fuel : Nat} {T} {l : Array Bool} {a : Act} {w : World} (l1 l2 : Array Bool) (hi : ops[i]? = some oi) (hj : ops[j]? = some oj) (hc : twoB ops l l1 l2 i j = true) (hgi : oi.guard = none) (hgj : oj.guard = none)
    (h : oi.wp P a w (fun a' w' => Dem ops T i w w' ∧ wpT P ops (NoPanic Q) fuel T l1 a' w') (NoPanic Q)) (h' : oj.wp P a w (fun a' w' => Dem ops T j w w' ∧ wpT P ops (NoPanic Q) fuel T l2 a' w') (NoPanic Q)) : wpT P ops (NoPanic Q) (fuel + 1) T l a w := by
  simp only [twoB, Bool.and_eq_true, beq_iff_eq] at hc
  obtain ⟨⟨hr, rfl⟩, rfl⟩ := hc
  refine ⟨fun h0 => (by rw [hr] at h0; cases h0), fun k hk => ?_⟩
  rw [hr, List.mem_cons, List.mem_singleton] at hk
  unfold wpOp
  rcases hk with rfl | rfl
  · simp only [hi]
    rw [if_pos (by simp [Region.wanted, hgi])]
    exact .inl h
  · simp only [hj]
    rw [if_pos (by simp [Region.wanted, hgj])]
    exact .inl h'
theorem tk_done {l : Array Bool} {T} {fuel : Nat} {a : Act} {w : World} (hr : (Region.ready .any ops l == []) = true) (h : Q .normal a w) : wpT P ops (NoPanic Q) fuel T l a w := by
  have hr := eq_of_beq hr
  cases fuel with
  | zero => exact ⟨hr, h⟩
  | succ n => exact ⟨fun _ => h, by rw [hr]; simp⟩
theorem tk_start {id k : Nat} {a : Act} {w : World} {ol : List Oper} (l : Array Bool) (hm : P.follows .mixedOrders = true) (hn : ol.toArray.size = k) (hl : Array.replicate k false = l) (h : wpT P ol.toArray (NoPanic Q) k [] l a w.drew) : (Code.region id ol.toArray true).wp P Q a w := by
  subst hl
  subst hn
  exact wp_region_noPanic (wp_region_any hm (wpAny_of_wpT _ _ _ _ _ h))
end

/-! ### 3. Pieces of code -/
section
variable {P : Program} {a : Act} {w : World} {Q : Exit → Act → World → Prop} {c x y : Code}
theorem c_cond_true {o : Operand} {b : Bool} (hc : a.eval o = .bool b) (hb : b = true) (h : x.wp P Q a w) : (Code.cond o x y).wp P Q a w := by subst hb; exact wp_cond_true hc h
theorem c_cond_false {o : Operand} {b : Bool} (hc : a.eval o = .bool b) (hb : b = false) (h : y.wp P Q a w) : (Code.cond o x y).wp P Q a w := by subst hb; exact wp_cond_false hc h
/-- what is known between two pieces -/
theorem c_cut (J : Act → World → Prop) (hx : x.wp P (Exit.then J Q) a w) (hy : ∀ a w, J a w → y.wp P Q a w) : (Code.seq x y).wp P Q a w :=
  wp_seq (wp_mono hx fun e a w h => by cases e <;> first | exact hy a w h | exact h)
/-- a round of the loop begins -/
def Rnd (P : Program) (c : Code) (Q : Exit → Act → World → Prop) (a : Act) (w : World) : Prop :=
  ∀ (b : Frame) (k : List Item) (cs : List Frame), ∃ e a' w', Q e a' w' ∧ Arrives P (lone (b.at a (.code c :: .inLoop c :: k)) cs w) b k cs e a' w'
theorem c_loop (h : Rnd P c Q a w) : (Code.loop c).wp P Q a w := fun b k cs => by
  obtain ⟨e, a', w', hq, harr⟩ := h b k cs
  exact ⟨e, a', w', hq, .of_steps (.one step_loop) harr⟩
theorem c_round (h : c.wp P (Exit.then (Rnd P c Q) Q) a w) : Rnd P c Q a w := by
  intro b k cs
  obtain ⟨e, a₁, w₁, hq, harr⟩ := h b (.inLoop c :: k) cs
  cases e with
  | normal =>
    obtain ⟨e₂, a₂, w₂, hq₂, harr₂⟩ := hq b k cs
    exact ⟨e₂, a₂, w₂, hq₂, .of_steps (Steps.trans harr (.one step_inLoop)) harr₂⟩
  | exit id => exact ⟨_, a₁, w₁, hq, .pass (x := .inLoop c) rfl (fun _ _ => .inl (by simp)) harr⟩
  | goto l => exact ⟨_, a₁, w₁, hq, .pass (x := .inLoop c) rfl (fun _ _ => .inl (by simp)) harr⟩
  | ret => exact ⟨_, a₁, w₁, hq, .pass (x := .inLoop c) rfl (fun _ _ => .inl (by simp)) harr⟩
  | panic ch => exact ⟨_, a₁, w₁, hq, .pass (x := .inLoop c) rfl (fun _ _ => .inl (by simp)) harr⟩
  | outgrown => exact ⟨_, a₁, w₁, hq, .pass (x := .inLoop c) rfl (fun _ _ => .inl (by simp)) harr⟩
/-- what stands to be shown at a loop, its code and what follows behind letters: for a proof by the loop's own function -/
theorem c_loop_letters (h : ∀ (c' : Code) (Q' : Exit → Act → World → Prop), c' = c → Q' = Q → Rnd P c' Q' a w) : (Code.loop c).wp P Q a w := c_loop (h c Q rfl rfl)
/-- x runs inside the scope c -/
def Scp (P : Program) (c x : Code) (Q : Exit → Act → World → Prop) (a : Act) (w : World) : Prop :=
  ∀ (b : Frame) (k : List Item) (cs : List Frame), ∃ e a' w', Q e a' w' ∧ Arrives P (lone (b.at a (.code x :: .inScope c :: k)) cs w) b k cs e a' w'
/-- as Q; by a goto: on at the label -/
def Exit.scp (P : Program) (c : Code) (Q : Exit → Act → World → Prop) : Exit → Act → World → Prop
  | .goto l, a, w => ∃ rest, findLabel c l = some rest ∧ Scp P c rest Q a w
  | e, a, w => Q e a w
theorem c_scope (h : Scp P c c Q a w) : (Code.scope c).wp P Q a w := fun b k cs => by
  obtain ⟨e, a', w', hq, harr⟩ := h b k cs
  exact ⟨e, a', w', hq, .of_steps (.one step_scope) harr⟩
theorem c_scp (h : x.wp P (Exit.scp P c Q) a w) : Scp P c x Q a w := by
  intro b k cs
  obtain ⟨e, a₁, w₁, hq, harr⟩ := h b (.inScope c :: k) cs
  cases e with
  | normal => exact ⟨.normal, a₁, w₁, hq, Steps.trans harr (.one step_inScope)⟩
  | exit id => exact ⟨.exit id, a₁, w₁, hq, fun k' hk => harr k' (by simp [exitTo, hk])⟩
  | goto l =>
    obtain ⟨rest, hf, hs⟩ := hq
    obtain ⟨e₂, a₂, w₂, hq₂, harr₂⟩ := hs b k cs
    exact ⟨e₂, a₂, w₂, hq₂, .of_steps (harr _ (by simp [gotoIn, hf])) harr₂⟩
  | ret => exact ⟨_, a₁, w₁, hq, harr⟩
  | panic ch => exact ⟨_, a₁, w₁, hq, harr⟩
  | outgrown => exact ⟨_, a₁, w₁, hq, harr⟩

/-! ### 4. A function begins and ends -/
def undefs (n : Nat) : List Value := List.replicate n undef
def slotsOf : Nat → List Value → Sg
  | _, [] => []
  | i, v :: l => (i, v) :: slotsOf (i + 1) l
theorem look_slotsOf (l : List Value) : ∀ (k i : Nat) v, look (slotsOf k l) i = some v → k ≤ i ∧ l[i - k]? = some v := by
  induction l with
  | nil => intro k i v h; cases h
  | cons x l ih =>
    intro k i v h
    simp only [slotsOf, look] at h
    cases hb : Nat.beq i k with
    | true =>
      rw [hb] at h
      have : i = k := Nat.eq_of_beq_eq_true hb
      subst this
      simpa using h
    | false =>
      rw [hb] at h
      obtain ⟨h1, h2⟩ := ih (k + 1) i v h
      refine ⟨by omega, ?_⟩
      rw [show i - k = (i - (k + 1)) + 1 by omega]
      simpa using h2
theorem enter_ {f : FuncId} {fn : Func} {args : List Value} {n : Nat} {R : Ending → World → Prop} (hf : P.funcs[f]? = some fn) (hb : fn.body = some c) (hn : fn.ntmps = n) (hl : args.length ≤ n)
    (h : ∀ a, Slots n [] a (slotsOf 0 args) → c.wp P (bodyPost P fn R) a w) : Calls P f args.toArray w R := by
  subst hn
  refine calls_of_wp hf hb (h _ ⟨?_, rfl, fun i v hi => ?_⟩)
  · simp; omega
  · obtain ⟨_, h2⟩ := look_slotsOf args 0 i v hi
    have hlt := (List.getElem?_eq_some_iff.1 h2).1
    simp only [Nat.sub_zero] at h2 hlt
    simp only [Array.getElem?_append, List.size_toArray]
    rw [if_pos hlt]
    simpa using h2
variable {n : Nat} {σ : Sg} {fn : Func} {R : Ending → World → Prop}
theorem ret_post {e : Exit} (he : e = .normal ∨ e = .ret) (hS : Slots n [] a σ) {v : Value} (hr : (results fn a.tmps).run P w = .ok v w) (h : R (.returned v) w) : bodyPost P fn R e a w := by
  rcases he with rfl | rfl
  · exact bodyPost_end hr hS.defers h
  · exact bodyPost_ret hr hS.defers h
theorem slot_getD (hS : Slots n [] a σ) {t : Nat} {v : Value} (h : look σ t = some v) : a.tmps.getD t undef = v := by
  have := hS.get t v h
  simp [Array.getD_eq_getD_getElem?, this]
theorem ret0 {e : Exit} (he : e = .normal ∨ e = .ret) (hS : Slots n [] a σ) (hfn : fn.results = #[]) (h : R (.returned (.tuple #[])) w) : bodyPost P fn R e a w :=
  ret_post he hS (results_none hfn _ P w) h
theorem ret1 {e : Exit} {t : Tmp} {v : Value} (he : e = .normal ∨ e = .ret) (hS : Slots n [] a σ) (hfn : fn.results = #[.tmp t]) (hv : look σ t = some v) (h : R (.returned v) w) : bodyPost P fn R e a w :=
  ret_post he hS (by rw [results_tmp hfn, slot_getD hS hv]) h
theorem ret2 {e : Exit} {t1 t2 : Tmp} {v1 v2 : Value} (he : e = .normal ∨ e = .ret) (hS : Slots n [] a σ) (hfn : fn.results = #[.tmp t1, .tmp t2]) (h1 : look σ t1 = some v1) (h2 : look σ t2 = some v2) (h : R (.returned (.tuple #[v1, v2])) w) : bodyPost P fn R e a w :=
  ret_post he hS (by rw [results_tmp2 hfn, slot_getD hS h1, slot_getD hS h2]) h
theorem ret3 {e : Exit} {t1 t2 t3 : Tmp} {v1 v2 v3 : Value} (he : e = .normal ∨ e = .ret) (hS : Slots n [] a σ) (hfn : fn.results = #[.tmp t1, .tmp t2, .tmp t3]) (h1 : look σ t1 = some v1) (h2 : look σ t2 = some v2) (h3 : look σ t3 = some v3) (h : R (.returned (.tuple #[v1, v2, v3])) w) : bodyPost P fn R e a w :=
  ret_post he hS (by simp [results, hfn, hS.get _ _ h1, hS.get _ _ h2, hS.get _ _ h3]) h
theorem ret4 {e : Exit} {t1 t2 t3 t4 : Tmp} {v1 v2 v3 v4 : Value} (he : e = .normal ∨ e = .ret) (hS : Slots n [] a σ) (hfn : fn.results = #[.tmp t1, .tmp t2, .tmp t3, .tmp t4]) (h1 : look σ t1 = some v1) (h2 : look σ t2 = some v2) (h3 : look σ t3 = some v3) (h4 : look σ t4 = some v4) (h : R (.returned (.tuple #[v1, v2, v3, v4])) w) : bodyPost P fn R e a w :=
  ret_post he hS (by simp [results, hfn, hS.get _ _ h1, hS.get _ _ h2, hS.get _ _ h3, hS.get _ _ h4]) h
/-- one result, in a variable in memory -/
theorem retc1 {e : Exit} {t : Tmp} {ty : TypeId} {ad : Addr} {v : Value} (he : e = .normal ∨ e = .ret) (hS : Slots n [] a σ) (hfn : fn.results = #[.cell t ty]) (hv : look σ t = some (.pointer (some ad))) (hl : (loadVar ty ad).run P w = .ok v w) (h : R (.returned v) w) : bodyPost P fn R e a w :=
  ret_post he hS (by simp [results, hfn, hS.get _ _ hv, asAddr, hl]) h
end
end Go.Proofs.YthjfnknhcmhmiaaDoor.Sl
