/-
  The memory logic, eighth part: the steps as a program writes them.
-/
import Derived.Test.YthjfnknhcmhmiaaDoorSl7
set_option linter.unusedVariables false
set_option linter.unusedSimpArgs false
namespace Go.Proofs.YthjfnknhcmhmiaaDoor.Sl
open Go Go.RowKit

section
variable {P : Program} {n : Nat} {D : List Deferred} {a : Act} {w w' wb : World} {σ : Sg} {o : Oper} {ops : Array Oper} {rest : List Oper} {Q : Exit → Act → World → Prop} {d : Nat} {v : Value} {dst : Option Tmp}
theorem pl (hS : Slots n D a σ) (hd : dst = some d) (hn : d < n) (k : ∀ a', Slots n D a' ((d, v) :: σ) → wpList P ops Q rest a' w) : wpList P ops Q rest (a.put dst v) w := by subst hd; exact k _ (hS.put d v hn)
theorem pl0 (hS : Slots n D a σ) (hd : dst = none) (k : ∀ a', Slots n D a' σ → wpList P ops Q rest a' w) : wpList P ops Q rest (a.put dst v) w := by subst hd; exact k _ (hS.put_none v)
theorem pT {T : List (Nat × (World → Prop))} {i fuel : Nat} {l : Array Bool} (hS : Slots n D a σ) (hd : dst = some d) (hn : d < n) (hD : Dem ops T i wb w) (k : ∀ a', Slots n D a' ((d, v) :: σ) → wpT P ops Q fuel T l a' w) : Dem ops T i wb w ∧ wpT P ops Q fuel T l (a.put dst v) w := by subst hd; exact ⟨hD, k _ (hS.put d v hn)⟩
theorem pT0 {T : List (Nat × (World → Prop))} {i fuel : Nat} {l : Array Bool} (hS : Slots n D a σ) (hd : dst = none) (hD : Dem ops T i wb w) (k : ∀ a', Slots n D a' σ → wpT P ops Q fuel T l a' w) : Dem ops T i wb w ∧ wpT P ops Q fuel T l (a.put dst v) w := by subst hd; exact ⟨hD, k _ (hS.put_none v)⟩
theorem g_want (hS : Slots n D a σ) {i : Nat} {b : Bool} {g : Oper} {gd : Nat} (hg : o.guard = some (i, b)) (ho : ops[i]? = some g) (hgd : g.dst = some gd) (hv : look σ gd = some (.bool b)) (h : o.wp P a w (wpList P ops Q rest) Q) : wpList P ops Q (o :: rest) a w :=
  wl_want hg ho hgd (hS.get gd _ hv) h
/-- A cut inside a region: k operations, then the rest. -/
theorem wl_split (l1 l2 : List Oper) (J : Act → World → Prop) (h : wpList P ops (Exit.then J Q) l1 a w) (hQ : ∀ c a w, Q (.panic c) a w → Q (.panic c) a w) (hk : ∀ a w, J a w → wpList P ops Q l2 a w) : wpList P ops Q (l1 ++ l2) a w := by
  induction l1 generalizing a w with
  | nil => exact hk a w h
  | cons o l1 ih =>
    unfold wpList at h
    show wpList P ops Q (o :: (l1 ++ l2)) a w
    unfold wpList
    split
    · rename_i hw
      rw [if_pos hw] at h
      rcases h with h | ⟨h1, h2⟩
      · left
        have h3 : o.wp P a w (wpList P ops (Exit.then J Q) l1) Q := by
          unfold Oper.wp at *
          generalize (execOp a.eval o).run P w = r at *
          cases r with
          | ok nx w' => cases nx <;> simp only [Oper.upon] at h ⊢ <;> exact h
          | halt x w' => cases x <;> simp only [Oper.upon] at h ⊢ <;> exact h
        exact Oper.wp_mono (fun a' w' h' => ih h') h3
      · right
        refine ⟨h1, ?_⟩
        have : LetsOut Q := by
          unfold LetsOut at *
          exact h2
        exact this
    · rename_i hw
      rw [if_neg hw] at h
      exact ih h
theorem wl_cut {l : List Oper} (k : Nat) (J : Act → World → Prop) (h : wpList P ops (Exit.then J Q) (l.take k) a w) (hk : ∀ a w, J a w → wpList P ops Q (l.drop k) a w) : wpList P ops Q l a w := by
  rw [← List.take_append_drop k l]
  exact wl_split _ _ J h (fun _ _ _ h => h) hk
theorem args0 : ((#[] : Array Operand).map a.eval).toList = [] := by simp
theorem args1 {x : Operand} {u : Value} (h : a.eval x = u) : (#[x].map a.eval).toList = [u] := by simp [h]
theorem args2 {x y : Operand} {u1 u2 : Value} (h1 : a.eval x = u1) (h2 : a.eval y = u2) : (#[x, y].map a.eval).toList = [u1, u2] := by simp [h1, h2]
theorem args3 {x y z : Operand} {u1 u2 u3 : Value} (h1 : a.eval x = u1) (h2 : a.eval y = u2) (h3 : a.eval z = u3) : (#[x, y, z].map a.eval).toList = [u1, u2, u3] := by simp [h1, h2, h3]
theorem args4 {x y z t : Operand} {u1 u2 u3 u4 : Value} (h1 : a.eval x = u1) (h2 : a.eval y = u2) (h3 : a.eval z = u3) (h4 : a.eval t = u4) : (#[x, y, z, t].map a.eval).toList = [u1, u2, u3, u4] := by simp [h1, h2, h3, h4]
theorem args5 {x y z t s : Operand} {u1 u2 u3 u4 u5 : Value} (h1 : a.eval x = u1) (h2 : a.eval y = u2) (h3 : a.eval z = u3) (h4 : a.eval t = u4) (h5 : a.eval s = u5) : (#[x, y, z, t, s].map a.eval).toList = [u1, u2, u3, u4, u5] := by simp [h1, h2, h3, h4, h5]
/-- the parts of a literal -/
def partsEv (σ : Sg) : List (Nat × Operand) → Option (List (Nat × Value))
  | [] => some []
  | (i, x) :: l => match ev σ x, partsEv σ l with
    | some v, some r => some ((i, v) :: r)
    | _, _ => none
theorem parts_ev (hS : Slots n D a σ) : ∀ {ps : List (Nat × Operand)} {vs : List (Nat × Value)}, partsEv σ ps = some vs → (ps.toArray.map fun (i, x) => (i, a.eval x)).toList = vs := by
  intro ps
  induction ps with
  | nil => intro vs h; simpa [partsEv] using h
  | cons p ps ih =>
    intro vs h
    obtain ⟨i, x⟩ := p
    simp only [partsEv] at h
    cases hx : ev σ x with
    | none => simp [hx] at h
    | some v =>
      cases hr : partsEv σ ps with
      | none => simp [hx, hr] at h
      | some r =>
        simp only [hx, hr, Option.some.injEq] at h
        have := ih hr
        subst h
        simp only [List.map_toArray] at this
        simp [hS.ev_ hx, this]

/-! drawn regions over a list -/
variable {ol : List Oper} {T : List (Nat × (World → Prop))} {fuel : Nat} {l : Array Bool}
theorem dk_val {i : Nat} {oi : Oper} {v : Value} {S : World → Prop} (l' : Array Bool) (hS : Slots n D a σ) (hi : ol[i]? = some oi) (hc : takeB ol.toArray l l' i = true) (hg : oi.guard = none) (hd : oi.dst = some d) (hn : d < n)
    (hSw : S w) (hr : ∀ w, S w → (execOp a.eval oi).run P w = .ok (.value v) w) (k : ∀ a', Slots n D a' ((d, v) :: σ) → wpT P ol.toArray (NoPanic Q) fuel ((i, S) :: T) l' a' w) : wpT P ol.toArray (NoPanic Q) (fuel + 1) T l a w :=
  tk_val l' hS (by simpa using hi) hc hg hd hn hSw hr k
theorem dk_any {i : Nat} {oi : Oper} {v : Value} (l' : Array Bool) (hS : Slots n D a σ) (hi : ol[i]? = some oi) (hc : takeB ol.toArray l l' i = true) (hg : oi.guard = none) (hd : oi.dst = some d) (hn : d < n)
    (hr : ∀ w, (execOp a.eval oi).run P w = .ok (.value v) w) (k : ∀ a', Slots n D a' ((d, v) :: σ) → wpT P ol.toArray (NoPanic Q) fuel T l' a' w) : wpT P ol.toArray (NoPanic Q) (fuel + 1) T l a w :=
  tk_any l' hS (by simpa using hi) hc hg hd hn hr k
theorem dk_off {i : Nat} {oi : Oper} (S : World → Prop) (l' : Array Bool) (hS : Slots n D a σ) (hi : ol[i]? = some oi) (hc : takeB ol.toArray l l' i = true) {j : Nat} {b : Bool} {g : Oper} {gd : Nat} {u : Value} (hg : oi.guard = some (j, b)) (ho : ol[j]? = some g) (hgd : g.dst = some gd) (hv : look σ gd = some u) (hne : u = .bool (!b) ∨ u = undef) (hd : oi.dst = some d) (hn : d < n) (hSw : S w)
    (k : ∀ a', Slots n D a' ((d, undef) :: σ) → wpT P ol.toArray (NoPanic Q) fuel ((i, S) :: T) l' a' w) : wpT P ol.toArray (NoPanic Q) (fuel + 1) T l a w :=
  wpT_take (S := S) l' (by simpa using hi) hc (.inr ⟨by
    have := hS.get gd _ hv
    have ho' : ol.toArray[j]? = some g := by simpa using ho
    rcases hne with rfl | rfl
    · simp only [Region.wanted, hg, yielded, ho', hgd, Option.bind_some, this]; cases b <;> simp
    · simp only [Region.wanted, hg, yielded, ho', hgd, Option.bind_some, this]; simp [undef], rfl⟩) hSw (by rw [hd]; exact k _ (hS.put d undef hn))
theorem dk_want {i : Nat} {oi : Oper} {v : Value} {S : World → Prop} (l' : Array Bool) (hS : Slots n D a σ) (hi : ol[i]? = some oi) (hc : takeB ol.toArray l l' i = true) {j : Nat} {b : Bool} {g : Oper} {gd : Nat} (hg : oi.guard = some (j, b)) (ho : ol[j]? = some g) (hgd : g.dst = some gd) (hv : look σ gd = some (.bool b)) (hd : oi.dst = some d) (hn : d < n)
    (hSw : S w) (hr : ∀ w, S w → (execOp a.eval oi).run P w = .ok (.value v) w) (k : ∀ a', Slots n D a' ((d, v) :: σ) → wpT P ol.toArray (NoPanic Q) fuel ((i, S) :: T) l' a' w) : wpT P ol.toArray (NoPanic Q) (fuel + 1) T l a w :=
  tk_want l' hS (by simpa using hi) hc hg (by simpa using ho) hgd hv hd hn hSw hr k
theorem dk_one {i : Nat} {oi : Oper} (l' : Array Bool) (hi : ol[i]? = some oi) (hc : oneB ol.toArray l l' i = true) (hg : oi.guard = none)
    (h : oi.wp P a w (fun a' w' => Dem ol.toArray T i w w' ∧ wpT P ol.toArray (NoPanic Q) fuel T l' a' w') (NoPanic Q)) : wpT P ol.toArray (NoPanic Q) (fuel + 1) T l a w :=
  ef_one l' (by simpa using hi) hc hg h
theorem dk_onew {i : Nat} {oi : Oper} (l' : Array Bool) (hS : Slots n D a σ) (hi : ol[i]? = some oi) (hc : oneB ol.toArray l l' i = true) {j : Nat} {b : Bool} {g : Oper} {gd : Nat} (hg : oi.guard = some (j, b)) (ho : ol[j]? = some g) (hgd : g.dst = some gd) (hv : look σ gd = some (.bool b))
    (h : oi.wp P a w (fun a' w' => Dem ol.toArray T i w w' ∧ wpT P ol.toArray (NoPanic Q) fuel T l' a' w') (NoPanic Q)) : wpT P ol.toArray (NoPanic Q) (fuel + 1) T l a w :=
  ef_want l' hS (by simpa using hi) hc hg (by simpa using ho) hgd hv h
theorem dk_two {i j : Nat} {oi oj : Oper} (l1 l2 : Array Bool) (hi : ol[i]? = some oi) (hj : ol[j]? = some oj) (hc : twoB ol.toArray l l1 l2 i j = true) (hgi : oi.guard = none) (hgj : oj.guard = none)
    (h : oi.wp P a w (fun a' w' => Dem ol.toArray T i w w' ∧ wpT P ol.toArray (NoPanic Q) fuel T l1 a' w') (NoPanic Q)) (h' : oj.wp P a w (fun a' w' => Dem ol.toArray T j w w' ∧ wpT P ol.toArray (NoPanic Q) fuel T l2 a' w') (NoPanic Q)) : wpT P ol.toArray (NoPanic Q) (fuel + 1) T l a w :=
  ef_two l1 l2 (by simpa using hi) (by simpa using hj) hc hgi hgj h h'
/-- A cut inside a drawn region, at one list of those that have come up. -/
theorem dk_cut {k : Nat} {T' : List (Nat × (World → Prop))} {l' : Array Bool} (J : Act → World → Prop) (h2 : ∀ a w, J a w → wpT P ops (NoPanic Q) k T' l' a w) (h1 : (∀ a w, J a w → wpT P ops (NoPanic Q) k T' l' a w) → wpT P ops (NoPanic Q) fuel T l a w) : wpT P ops (NoPanic Q) fuel T l a w := h1 h2
end

section
variable {P : Program} {o : Oper} {a : Act} {w w' w0 : World} {Kn : Hp} {L : List SP}
def aggT (P : Program) (t : TypeId) : Option Bool := (P.underlying t).map isAggD
theorem r_ld1 {t : TypeId} {x : Operand} {ad : Addr} {v : Value} (ho : o.op = .load t x) (ht : aggT P t = some false) (hx : a.eval x = .pointer (some ad)) (hc : w.cell? ad = some v) : (execOp a.eval o).run P w = .ok (.value v) w := by
  unfold aggT at ht
  cases hu : P.underlying t with
  | none => simp [hu] at ht
  | some td => exact r_load1 ho hu (by simpa [hu] using ht) hx hc
theorem r_ldN {t : TypeId} {x : Operand} {ad : Addr} {cs : List Value} {z : Value} {bytes : Nat} (ho : o.op = .load t x) (ht : aggT P t = some true) (hi : tinfo P t = some (z, cs.length, bytes)) (hx : a.eval x = .pointer (some ad)) (hc : ∀ j u, cs[j]? = some u → w.cell? (ad.add j) = some u) : (execOp a.eval o).run P w = .ok (.value (.agg cs.toArray)) w := by
  unfold aggT at ht
  cases hu : P.underlying t with
  | none => simp [hu] at ht
  | some td => exact r_loadN ho hu (by simpa [hu] using ht) hi hx hc
/-- a load from what is known: cell m of an element at n -/
theorem r_ld1_k {t : TypeId} {x : Operand} {ad : Addr} {n m : Nat} {v : Value} {cs : List Value} (ho : o.op = .load t x) (ht : aggT P t = some false) (hx : a.eval x = .pointer (some (ad.add (n + m)))) (hc : ∀ j u, cs[j]? = some u → cellH Kn (ad.add (n + j)) = some u) (hm : cs[m]? = some v) (hR : Rd w0 Kn L w) : (execOp a.eval o).run P w = .ok (.value v) w :=
  r_ld1 ho ht hx (hR.cell (hc m v hm))
/-- .. several cells, from m on -/
theorem r_ldN_k {t : TypeId} {x : Operand} {ad : Addr} {n m : Nat} {cs : List Value} {cs' : List Value} {z : Value} {bytes : Nat} (ho : o.op = .load t x) (ht : aggT P t = some true) (hi : tinfo P t = some (z, cs'.length, bytes)) (hx : a.eval x = .pointer (some (ad.add (n + m)))) (hc : ∀ j u, cs[j]? = some u → cellH Kn (ad.add (n + j)) = some u) (hm : (cs.drop m).take cs'.length = cs') (hR : Rd w0 Kn L w) : (execOp a.eval o).run P w = .ok (.value (.agg cs'.toArray)) w := by
  refine r_ldN ho ht hi hx (fun j u hu => ?_)
  rw [add_add, Nat.add_assoc]
  refine hR.cell (hc (m + j) u ?_)
  rw [← hm, List.getElem?_take, List.getElem?_drop] at hu
  split at hu
  · exact hu
  · cases hu
/-- a load from a block of one's own -/
theorem r_ld1_b {t e : TypeId} {x : Operand} {g m : Nat} {v : Value} {cs : List Value} (ho : o.op = .load t x) (ht : aggT P t = some false) (hx : a.eval x = .pointer (some ⟨g, m, none⟩)) (hm : cs[m]? = some v) (hR : Rd w0 Kn (SP.blk g e cs :: L) w) : (execOp a.eval o).run P w = .ok (.value v) w :=
  r_ld1 ho ht hx (by rw [hR.blk]; exact hm)
theorem r_ldN_b {t e : TypeId} {x : Operand} {g m : Nat} {cs cs' : List Value} {z : Value} {bytes : Nat} (ho : o.op = .load t x) (ht : aggT P t = some true) (hi : tinfo P t = some (z, cs'.length, bytes)) (hx : a.eval x = .pointer (some ⟨g, m, none⟩)) (hm : (cs.drop m).take cs'.length = cs') (hR : Rd w0 Kn (SP.blk g e cs :: L) w) : (execOp a.eval o).run P w = .ok (.value (.agg cs'.toArray)) w := by
  refine r_ldN ho ht hi hx (fun j u hu => ?_)
  rw [Addr.add_lit, hR.blk]
  rw [← hm, List.getElem?_take, List.getElem?_drop] at hu
  split at hu
  · exact hu
  · cases hu
end

section
variable {P : Program} {Q : Exit → Act → World → Prop} {a : Act} {w : World} {c b : Code} {l : Nat}
theorem scp_skip (h : Scp P c b Q a w) : Scp P c (.seq .skip b) Q a w := fun fr k cs => by
  obtain ⟨e, a', w', hq, harr⟩ := h fr k cs
  exact ⟨e, a', w', hq, .of_steps (.head step_seq (.one step_skip)) harr⟩
theorem scp_label (h : Scp P c b Q a w) : Scp P c (.seq (.label l) b) Q a w := fun fr k cs => by
  obtain ⟨e, a', w', hq, harr⟩ := h fr k cs
  exact ⟨e, a', w', hq, .of_steps (.head step_seq (.one step_label)) harr⟩
/-- a scope that begins with its one label: a loop by goto -/
theorem c_scope_ways (J : Exit → Act → World → Prop) (h : ∀ (s' b' : Code) (Q' : Exit → Act → World → Prop), s' = .seq (.label l) b → b' = b → (∀ e a w, J e a w → Q' e a w) → Scp P s' b' Q' a w) (hJ : ∀ e a w, J e a w → Q e a w) : (Code.scope (.seq (.label l) b)).wp P Q a w :=
  c_scope (scp_label (h _ b Q rfl rfl hJ))
/-- a scope, piece by piece -/
theorem c_scp_seq {s x y : Code} (h : x.wp P (Exit.then (fun a w => Scp P s y Q a w) (Exit.scp P s Q)) a w) : Scp P s (.seq x y) Q a w := by
  intro b k cs
  obtain ⟨e, a₁, w₁, hq, harr⟩ := h b (.code y :: .inScope s :: k) cs
  cases e with
  | normal =>
    obtain ⟨e₂, a₂, w₂, hq₂, harr₂⟩ := hq b k cs
    exact ⟨e₂, a₂, w₂, hq₂, .of_steps (.head step_seq harr) harr₂⟩
  | exit id => exact ⟨_, a₁, w₁, hq, fun k' hk => .head step_seq (harr k' (by simp [exitTo, hk]))⟩
  | goto l =>
    obtain ⟨rest, hf, hs⟩ := hq
    obtain ⟨e₂, a₂, w₂, hq₂, harr₂⟩ := hs b k cs
    exact ⟨e₂, a₂, w₂, hq₂, .of_steps (.head step_seq (harr _ (by simp [gotoIn, hf]))) harr₂⟩
  | ret => exact ⟨_, a₁, w₁, hq, .of_steps (.one step_seq) harr⟩
  | panic ch => exact ⟨_, a₁, w₁, hq, .of_steps (.one step_seq) harr⟩
  | outgrown => exact ⟨_, a₁, w₁, hq, .of_steps (.one step_seq) harr⟩
theorem c_scp_ways {s : Code} (J : Exit → Act → World → Prop) (h : ∀ (s' b' : Code) (Q' : Exit → Act → World → Prop), s' = s → b' = b → (∀ e a w, J e a w → Q' e a w) → Scp P s' b' Q' a w) (hJ : ∀ e a w, J e a w → Q e a w) : Scp P s (.seq (.label l) b) Q a w :=
  scp_label (h _ b Q rfl rfl hJ)
theorem x_scope_goto' {s : Code} (hf : findLabel s l = some (.seq .skip b)) (h : Scp P s b Q a w) : Exit.scp P s Q (.goto l) a w := ⟨_, hf, scp_skip h⟩
theorem x_scope_back (h : Scp P (.seq (.label l) b) b Q a w) : Exit.scp P (.seq (.label l) b) Q (.goto l) a w :=
  ⟨.seq .skip b, by simp [findLabel], scp_skip h⟩
end
end Go.Proofs.YthjfnknhcmhmiaaDoor.Sl
