/-
  What the code computes: plain functions, and the walks.: what the library's functions come to, by the kit's contracts.
-/
import Derived.Test.YthjfnknhcmhmiaaDoorBD
import Derived.Test.YthjfnknhcmhmiaaDoorLf1
import Derived.Test.YthjfnknhcmhmiaaDoorShelf
set_option linter.unusedVariables false
set_option linter.unusedSimpArgs false
set_option maxRecDepth 10000
set_option maxHeartbeats 1000000
set_option synthInstance.maxHeartbeats 400000
set_option synthInstance.maxSize 2000
namespace Go.Proofs.YthjfnknhcmhmiaaDoor
open Go Go.RowKit Sl

theorem strconv_Itoa_c {w0 w : World} {K : Hp} {L : List SP} {p1 : Int} {r : List UInt8} (hG : Glob w0) (h : strconv_Itoa p1 = some r) (hM : Sat w0 w K (L)) :
    Calls Tryd.prog 25 #[Value.int .i64 (p1)] w (fun e w' => ∃ (K' : Hp), Hp.le K K' ∧ Sat w0 w' K' (L) ∧ e = .returned (strV (r))) := by
  unfold strconv_Itoa at h
  split at h
  · rename_i hr
    obtain rfl := Option.some.inj h
    refine (Tryd.strconv_Itoa p1 hr.1 hr.2 w (hM.var hG.2.1)).mono fun e w' ⟨he, k, os, hw⟩ => ⟨K, Hp.le.refl K, ?_, he⟩
    subst hw
    exact hM.below (Lib.below_grow _ _ (Nat.le_refl _) _ _)
  · cases h
theorem strconv_ParseUint_c {w0 w : World} {K : Hp} {L : List SP} {p1 : List UInt8} {p2 p3 : Int} {r : Int × Bool} (hG : Glob w0) (h : strconv_ParseUint p1 p2 p3 = some r) (hM : Sat w0 w K (L)) :
    Calls Tryd.prog 54 #[strV (p1), Value.int .i64 (p2), Value.int .i64 (p3)] w (fun e w' => ∃ (K' : Hp) (v'1 : Value), Hp.le K K' ∧ Sat w0 w' K' (L) ∧ e = .returned (Value.tuple #[Value.int .u64 (r.1), v'1]) ∧ ErrB v'1 r.2) := by
  unfold strconv_ParseUint at h
  split at h
  case isFalse => cases h
  rename_i hr
  obtain ⟨rfl, rfl, hl⟩ := hr
  have hsz : (⟨p1.toArray⟩ : ByteArray).size ≤ 281474976710656 := by rw [strV_size]; exact hl
  have hd : (⟨p1.toArray⟩ : ByteArray).data.toList = p1 := rfl
  have herr : ∀ g, IsErr w0 g → ∃ ev, w.cell? ⟨g, 0, none⟩ = some ev ∧ (ev = .nilIface ∨ ∃ te pe, ev = .iface te pe) := fun g ⟨T, ad, hg⟩ => ⟨_, hM.cell (cellH_mono hM.base hg), .inr ⟨_, _, rfl⟩⟩
  cases hp : Lib.parseUintB 16 p1 with
  | ok u =>
    rw [hp] at h
    obtain rfl := Option.some.inj h
    refine (Tryd.strconv_ParseUint_10_at16_ok ⟨p1.toArray⟩ (by omega) u hp w).mono fun e w' ⟨he, hw⟩ => ⟨K, _, Hp.le.refl K, ?_, he, .inl ⟨rfl, rfl⟩⟩
    rcases hw with rfl | rfl
    · exact hM
    · refine hM.below ⟨?_, ?_, ?_, ?_, fun k hk => Go.Lib.bytesWorld_at_old w _ _ k hk⟩
      · simp [Go.Lib.bytesWorld, World.freeze, World.alloc, World.drew, -World.alloc_eq, -World.drew_eq]
      · simp [Go.Lib.bytesWorld, World.freeze, World.alloc, World.drew, -World.alloc_eq, -World.drew_eq]
      · simp [Go.Lib.bytesWorld, World.freeze, World.alloc, World.drew, -World.alloc_eq, -World.drew_eq]
      · simp [Go.Lib.bytesWorld, World.freeze, World.alloc, World.drew, -World.alloc_eq, -World.drew_eq]
  | range =>
    rw [hp] at h
    obtain rfl := Option.some.inj h
    obtain ⟨ev, hv, hev⟩ := herr _ (hG.1 21 (by decide))
    exact (Tryd.strconv_ParseUint_10_at16_range ⟨p1.toArray⟩ hsz hp ev w hv hev).mono fun e w' ⟨N, he, _, _, hb⟩ => ⟨K, _, Hp.le.refl K, hM.below hb, he, .inr ⟨rfl, _, _, rfl⟩⟩
  | _ =>
    rw [hp] at h
    obtain rfl := Option.some.inj h
    obtain ⟨ev, hv, hev⟩ := herr _ (hG.1 20 (by decide))
    exact (Any.strconv_ParseUint_10_at16_syntax Tryd.laysPu14 ⟨p1.toArray⟩ hsz hp ev w hv hev).mono fun e w' ⟨N, he, _, _, hb⟩ => ⟨K, _, Hp.le.refl K, hM.below hb, he, .inr ⟨rfl, _, _, rfl⟩⟩
theorem strings_Join_c {w0 w : World} {K : Hp} {L : List SP} {p1 : List (List UInt8)} {p2 : List UInt8} {v1 : Value} {r : List UInt8} (hG : Glob w0) (h : strings_Join p1 p2 = some r) (f1 : Kd.str.sl K v1 p1) (hM : Sat w0 w K (L)) :
    Calls Tryd.prog 40 #[v1, strV (p2)] w (fun e w' => ∃ (K' : Hp), Hp.le K K' ∧ Sat w0 w' K' (L) ∧ e = .returned (strV (r))) := by
  unfold strings_Join at h
  split at h
  case isFalse => cases h
  rename_i hr
  obtain rfl := Option.some.inj h
  rcases str_cells hM f1 with ⟨A, c, rfl, rfl⟩ | ⟨b, o, c, rfl, hlc, hcm, hlt, hcell⟩
  · refine (Tryd.strings_Join_none A c ⟨p2.toArray⟩ w).mono fun e w' ⟨he, hw⟩ => ⟨K, Hp.le.refl K, by rw [hw]; exact hM, he⟩
  · have hm : (p1.map fun s => (⟨s.toArray⟩ : ByteArray)).map (·.data.toList) = p1 := by
      rw [List.map_map]
      conv => rhs; rw [← List.map_id p1]
      rfl
    have key := Tryd.strings_Join b o c (p1.map fun s => (⟨s.toArray⟩ : ByteArray)) ⟨p2.toArray⟩ w hcell hlt (by rw [List.length_map]; exact hr.1) (by rw [List.length_map]; exact hlc) (by rw [hm]; exact hr.2)
    rw [hm, List.length_map] at key
    exact key.mono fun e w' ⟨he, hb⟩ => ⟨K, Hp.le.refl K, hM.below hb, he⟩
end Go.Proofs.YthjfnknhcmhmiaaDoor
