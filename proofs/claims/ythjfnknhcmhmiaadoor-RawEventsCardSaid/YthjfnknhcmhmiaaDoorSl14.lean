/-
  The memory logic, fourteenth part: from what a row gives to what the walks ask, and back.
-/
import Derived.Test.YthjfnknhcmhmiaaDoorSl13
import Derived.Deep.Slices
import Derived.ChangeArms
import Derived.Carry
import Derived.ProofKit
import Derived.OpenShut
set_option linter.unusedVariables false
set_option linter.unusedSimpArgs false
namespace Go.Proofs.YthjfnknhcmhmiaaDoor.Sl
open Go Go.RowKit Go.ChangeShapes Go.WideShapes

/-! ### 1. What an argument reads as gives what it stands for -/
structure Rdr {α : Type} (P : Program) (t : TypeId) (d : Kd α) (wf : α → Prop) : Prop where
  cells : P.cellsOf t = d.sz
  read : ∀ {H : Type} {enc : TypeId × Value → H} {W : World} {fuel : Nat} {cs : List Value} {x : DataW H × List MemPlace}, DataW.trod enc P W 0 (fun _ => true) true fuel t cs = some x → ∃ y, d.rep (hp W) y cs ∧ wf y
section
variable {P : Program} {t e : TypeId} {α β : Type} {d : Kd α}
def inK (k : IntKind) (n : Int) : Prop := (Lit.int k n).wf = true
theorem rdr_int {k : IntKind} (ht : P.underlying t = some (.int k)) (hc : P.cellsOf t = 1) : Rdr P t (Kd.int k) (inK k) := ⟨hc, fun h => by
  obtain ⟨n, rfl, _, hw⟩ := DataW.trod_int ht h
  exact ⟨n, rfl, hw⟩⟩
theorem rdr_u8 (ht : P.underlying t = some (.int .u8)) (hc : P.cellsOf t = 1) : Rdr P t Kd.u8 (fun _ => True) := ⟨hc, fun h => by
  obtain ⟨n, rfl, _, hw⟩ := DataW.trod_int ht h
  refine ⟨toB n, ?_, trivial⟩
  have h2 : 0 ≤ n ∧ n < 256 := by
    simp only [Lit.wf, Bool.and_eq_true, decide_eq_true_eq] at hw
    simp [IntKind.min, IntKind.max, IntKind.signed, IntKind.bits] at hw
    omega
  show [Value.int .u8 n] = [Value.int .u8 (b8 (toB n))]
  rw [← wrap_toB, wrap_u8]
  congr 2; omega⟩
theorem rdr_bool (ht : P.underlying t = some .bool) (hc : P.cellsOf t = 1) : Rdr P t Kd.bool (fun _ => True) := ⟨hc, fun h => by
  obtain ⟨b, rfl, _⟩ := DataW.trod_bool ht h
  exact ⟨b, rfl, trivial⟩⟩
theorem rdr_str (ht : P.underlying t = some .string) (hc : P.cellsOf t = 1) : Rdr P t Kd.str (fun s => s.length ≤ maxLen) := ⟨hc, fun h => by
  obtain ⟨s, rfl, _, hl⟩ := DataW.trod_string ht h
  refine ⟨s.data.toList, ?_, ?_⟩
  · show [Value.string s] = [strV s.data.toList]
    simp [strV]
  · show s.data.toList.length ≤ maxLen
    rw [Array.length_toList]; exact hl⟩
theorem rdr_slice {wf : α → Prop} (ht : P.underlying t = some (.slice e)) (hc : P.cellsOf t = 1) (h0 : 0 < d.sz) (h : Rdr P e d wf) : Rdr P t (Kd.slice d) (fun xs => (∀ x ∈ xs, wf x) ∧ xs.length ≤ maxLen) := ⟨hc, fun {H enc W fuel cs x} hr => by
  rcases Go.Deep.open_slice ht hr with ⟨rfl, rfl⟩ | ⟨a, len, cap, m, n, D, Pl, rfl, hb, hl, hm, hmm, rfl, hx⟩
  · exact ⟨[], ⟨_, rfl, Kd.sl_nil d _⟩, by simp, by simp [maxLen]⟩
  · simp only [if_true] at hmm
    -- each element
    have key : ∀ k, k ≤ len → ∃ ys : List α, ys.length = k ∧ (∀ y ∈ ys, wf y) ∧ ∃ cs, d.reps (hp W) ys cs ∧ ∀ j u, cs[j]? = some u → cellH (hp W) (a.add j) = some u := by
      intro k
      induction k with
      | zero => exact fun _ => ⟨[], rfl, by simp, [], rfl, by simp⟩
      | succ k ih =>
        intro hk
        obtain ⟨ys, h1, h2, cs, h3, h4⟩ := ih (by omega)
        obtain ⟨cs', g1, g2⟩ := hx k (by omega)
        obtain ⟨y, hy, hw⟩ := h.read g2
        obtain ⟨_, hlen, hcell⟩ := World.cells?_some g1
        refine ⟨ys ++ [y], by simp [h1], by simpa [or_imp, forall_and] using ⟨h2, hw⟩, cs ++ cs', Kd.reps_snoc h3 hy, fun j u hu => ?_⟩
        have hcl := Kd.reps_len h3
        rcases Nat.lt_or_ge j cs.length with hj | hj
        · rw [List.getElem?_append_left hj] at hu
          exact h4 j u hu
        · rw [List.getElem?_append_right hj] at hu
          have hj2 := (List.getElem?_eq_some_iff.1 hu).1
          have := hcell (j - cs.length) (by omega)
          rw [hu, add_add] at this
          rw [cellH_hp]
          rw [h.cells] at this
          rw [show k * d.sz + (j - cs.length) = j by rw [hcl, h1] at hj ⊢; omega] at this
          exact this
    obtain ⟨ys, h1, h2, cs, h3, h4⟩ := key len (Nat.le_refl _)
    subst h1
    exact ⟨ys, ⟨_, rfl, some a, cap, cs, rfl, hl, hm, h3, .inr ⟨a, rfl, h4⟩⟩, h2, Nat.le_trans hl hm⟩⟩
/-- fields, one behind the other, from a place on -/
structure RdrF {α : Type} (P : Program) (fs : List Field) (off : Nat) (d : Kd α) (wf : α → Prop) : Prop where
  read : ∀ {H : Type} {enc : TypeId × Value → H} {W : World} {fuel : Nat} {cs : List Value}, cs.length = off + d.sz → (∀ f ∈ fs, ∃ x : DataW H × List MemPlace, DataW.trod enc P W 0 (fun _ => true) true fuel f.type ((cs.drop f.offset).take (P.cellsOf f.type)) = some x) → ∃ y, d.rep (hp W) y (cs.drop off) ∧ wf y
theorem rdrF_last {f : Field} {off : Nat} {wf : α → Prop} (ho : f.offset = off) (h : Rdr P f.type d wf) : RdrF P [f] off d wf := ⟨fun {H enc W fuel cs} hl hm => by
  obtain ⟨x, hx⟩ := hm f (by simp)
  obtain ⟨y, hy, hw⟩ := h.read hx
  rw [ho, h.cells, List.take_of_length_le (by rw [List.length_drop]; omega)] at hy
  exact ⟨y, hy, hw⟩⟩
theorem rdrF_cons {d2 : Kd β} {f : Field} {fs : List Field} {off : Nat} {wf : α → Prop} {wf2 : β → Prop} (ho : f.offset = off) (h : Rdr P f.type d wf) (h2 : RdrF P fs (off + d.sz) d2 wf2) : RdrF P (f :: fs) off (Kd.pair d d2) (fun x => wf x.1 ∧ wf2 x.2) := ⟨fun {H enc W fuel cs} hl hm => by
  obtain ⟨x, hx⟩ := hm f (by simp)
  obtain ⟨y, hy, hw⟩ := h.read hx
  have hsz : (Kd.pair d d2).sz = d.sz + d2.sz := rfl
  obtain ⟨z, hz, hw2⟩ := h2.read (by rw [hl, hsz]; omega) (fun f' hf' => hm f' (List.mem_cons_of_mem _ hf'))
  rw [ho, h.cells] at hy
  refine ⟨(y, z), ⟨_, _, ?_, hy, hz⟩, hw, hw2⟩
  rw [← List.drop_drop, List.take_append_drop]⟩
theorem rdr_struct {fs : Array Field} {f : β → α} {g : α → β} {wf : α → Prop} (ht : P.underlying t = some (.struct fs)) (hc : P.cellsOf t = d.sz) (hfg : ∀ y, f (g y) = y) (h : RdrF P fs.toList 0 d wf) : Rdr P t (Kd.iso d f) (fun x => wf (f x)) := ⟨hc, fun {H enc W fuel cs x} hr => by
  obtain ⟨xs, n, rfl, rfl, hl, hxs, hf⟩ := DataW.trod_struct ht hr
  obtain ⟨y, hy, hw⟩ := h.read (H := H) (enc := enc) (W := W) (fuel := n) (cs := cs) (by rw [hl, hc, Nat.zero_add]) (fun f' hf' => by
    obtain ⟨i, hi, e⟩ := List.mem_iff_getElem.1 hf'
    have h1 : fs[i]? = some f' := by rw [← e]; simp
    have h2 := hf i f' h1
    have hlt : i < xs.length := by simp at hi; omega
    exact ⟨xs[i], by rw [h2]; simp [hlt]⟩)
  exact ⟨g y, by show d.rep _ (f (g y)) cs; rw [hfg]; simpa using hy, by rw [hfg]; exact hw⟩⟩
/-- a slice as an argument -/
theorem arg_slice {H : Type} {enc : TypeId × Value → H} {W : World} {wf : α → Prop} {v : Value} {dd : DataW H} {ps : List MemPlace} (h : Rdr P t (Kd.slice d) (fun xs => (∀ x ∈ xs, wf x) ∧ xs.length ≤ maxLen)) (hv : v.cells = #[v]) (hr : DataW.Trod enc P W 0 (fun _ => true) true t v dd ps) : ∃ xs : List α, d.sl (hp W) v xs ∧ (∀ x ∈ xs, wf x) ∧ xs.length ≤ maxLen := by
  obtain ⟨fuel, hr⟩ := hr
  rw [hv] at hr
  obtain ⟨xs, ⟨u, e, hs⟩, hw, hl⟩ := h.read hr
  have : v = u := by simpa using e
  subst this
  exact ⟨xs, hs, hw, hl⟩
/-- any other -/
theorem arg_one {H : Type} {enc : TypeId × Value → H} {W : World} {wf : α → Prop} {v : Value} {dd : DataW H} {ps : List MemPlace} (h : Rdr P t d wf) (hr : DataW.Trod enc P W 0 (fun _ => true) true t v dd ps) : ∃ x, d.rep (hp W) x v.cells.toList ∧ wf x := by
  obtain ⟨fuel, hr⟩ := hr
  exact h.read hr
end

/-! ### 2. The call's beginning and end -/
theorem sat_start (W : World) : Sat W W (hp W) [] := ⟨rfl, rfl, rfl, Hp.le.refl _, Hp.le.refl _, fun _ => Hp.zero, fun i A h => by simp at h, fun _ _ _ => Hp.zero_disj _, fun _ => (Hp.zero_disj _).symm, fun _ => Hp.zero_le _⟩
theorem below_of_sat {W W' : World} {K' : Hp} {L : List SP} (h : Sat W W' K' L) : Below W.heap.size W W' := by
  have hle : Hp.le (hp W) (hp W') := h.base.trans h.know
  have hblk : ∀ k, k < W.heap.size → W'.heap[k]? = W.heap[k]? := fun k hk => by
    have : hp W k = some W.heap[k] := by simp [hp, hk]
    have h2 := hle k _ this
    show hp W' k = hp W k
    rw [h2, this]
  refine ⟨h.os, h.tape, h.output, ?_, hblk⟩
  rcases Nat.eq_zero_or_pos W.heap.size with h0 | h0
  · omega
  · have := hblk (W.heap.size - 1) (by omega)
    have h2 : W.heap[W.heap.size - 1]? = some W.heap[W.heap.size - 1] := by simp [h0]
    rw [h2] at this
    have := (Array.getElem?_eq_some_iff.1 this).1
    omega
section
variable {H : Type} {enc : TypeId × Value → H} {P : Program}
theorem trodAll_stays {W W' : World} (hl : laidOutB P = true) (hb : Below W.heap.size W W') : ∀ {ts : List TypeId} {vs : List Value} {ds : List (DataW H)} {ps : List MemPlace} {sp : Nat → Bool}, (∀ t ∈ ts, P.readableRec t = true ∧ t < P.types.size) → DataW.TrodAll enc P W 0 (fun _ => true) true ts vs ds ps → (∀ p ∈ ps, p.block < W.heap.size) → (∀ p ∈ ps, sp p.block = true) → DataW.TrodAll enc P W' 0 sp true ts vs ds ps
  | [], vs, ds, ps, sp, _, h, _, _ => by
    obtain ⟨rfl, rfl, rfl⟩ := trodAll_nil h
    exact h
  | t :: ts, vs, ds, ps, sp, ht, h, hlt, hsp => by
    obtain ⟨v, vs1, d, ds1, a, b, rfl, rfl, rfl, h1, h2⟩ := trodAll_cons h
    exact ⟨a, b, WideElems.Trod_stays hl (ht t List.mem_cons_self).1 (ht t List.mem_cons_self).2 h1 (fun x hx => hb.same (hlt x (by simp [hx]))) (fun x hx => hsp x (by simp [hx])), trodAll_stays hl hb (fun t' h' => ht t' (List.mem_cons_of_mem _ h')) h2 (fun x hx => hlt x (by simp [hx])) (fun x hx => hsp x (by simp [hx])), rfl⟩
/-- THE POST OF A LAW: it answered true; nothing that was there has turned. -/
theorem post_true {f : Func} {s : ChangeSpec} {apart fresh handsOn : Bool} {W W' : World} {args : Array Value} {ds : List (DataW H)} {before : List MemPlace} {tb : TypeId} (hvars : s.vars = []) (hW : DataW.Whole enc P f.params.toList s.vars apart W args.toList ds [] before)
    (hs : s.fn H ds = { results := [.lit (.bool true)], args := ds }) (hrt : f.resultTypes = #[tb]) (htb : P.underlying tb = some .bool) (hl : laidOutB P = true) (hread : ∀ t ∈ f.params.toList, P.readableRec t = true ∧ t < P.types.size) (hb : Below W.heap.size W W') :
    s.post enc P f apart fresh handsOn false W args (.bool true) W' := by
  have hlt := hW.lt
  obtain ⟨p, q, hA, hV, rfl, hfz, hnd⟩ := hW
  rw [hvars] at hV
  have hq : q = [] := hV
  subst hq
  simp only [List.append_nil] at hlt hfz hnd
  refine ⟨ds, [], p ++ [], [], p, [], ⟨p, [], hA, by rw [hvars]; exact hV, rfl, by simpa using hfz, by simpa using hnd⟩, ?_, ?_, ?_, ?_, fun h => by cases h⟩
  · rw [List.append_nil, hs, hrt]
    exact ⟨[], [], shut_bool htb _, rfl, rfl⟩
  · rw [List.append_nil, hs]
    exact trodAll_stays hl hb hread hA hlt (fun x hx => by simpa using hlt x hx)
  · rw [List.append_nil, hs, hvars]
    rfl
  · refine ⟨hb.os, hb.output, fun i hi => ?_⟩
    have := hb.block i hi
    rw [this]
    cases hh : W.heap[i]? with
    | none => rfl
    | some o => cases o <;> simp
end
end Go.Proofs.YthjfnknhcmhmiaaDoor.Sl
