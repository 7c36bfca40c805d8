/-
  What the code computes: plain functions, and the walks.: the walks, part 2.
-/
import Derived.Test.YthjfnknhcmhmiaaDoorBW1
set_option linter.unusedVariables false
set_option linter.unusedSimpArgs false
set_option maxRecDepth 10000
set_option maxHeartbeats 1000000
set_option synthInstance.maxHeartbeats 400000
set_option synthInstance.maxSize 2000
namespace Go.Proofs.YthjfnknhcmhmiaaDoor
open Go Go.RowKit Sl

theorem strings_Builder_WriteByte_c {w0 w : World} {K : Hp} {L : List SP} {p1 : List UInt8} {p7 : UInt8} {g2 : Nat} {v3 : Value} {v5 : Value} {r : (Option Nat) × (List UInt8)} (hG : Glob w0) (h : strings_Builder_WriteByte p1 p7 = some r) (f4 : (v3 = Value.pointer none ∨ v3 = Value.pointer (some ⟨g2, 0, none⟩))) (hM : Sat w0 w K (SP.blk g2 70 [v3, v5] :: SP.row Kd.u8 5 v5 p1 :: L)) :
    Calls Tryd.prog 38 #[Value.pointer (some ⟨g2, 0, none⟩), Value.int .u8 (b8 (p7))] w (fun e w' => ∃ (K' : Hp) (v'1 v'2 : Value), Hp.le K K' ∧ Sat w0 w' K' (SP.blk g2 70 [v'1, v'2] :: SP.row Kd.u8 5 v'2 r.2 :: L) ∧ e = .returned (eV w0 r.1) ∧ (v'1 = Value.pointer none ∨ v'1 = Value.pointer (some ⟨g2, 0, none⟩))) := by
  refine enter_ (n := 17) (args := [Value.pointer (some ⟨g2, 0, none⟩), Value.int .u8 (b8 (p7))]) Tryd.func38 rfl rfl (Nat.le_of_ble_eq_true rfl) fun a hS => ?_
  replace hS : Slots 17 [] a [(0, Value.pointer (some ⟨g2, 0, none⟩)), (1, Value.int .u8 (b8 (p7)))] := hS
  unfold strings_Builder_WriteByte at h
  refine wp_seq ?_
  refine wp_region_lit ?_
  refine st_val hS rfl rfl (by decide) (r_assign rfl (hS.ev_ rfl)) fun a hS => ?_
  refine st_done ?_
  replace hS : Slots 17 [] a [(4, eV w0 ((none : Option Nat))), (0, Value.pointer (some ⟨g2, 0, none⟩)), (1, Value.int .u8 (b8 (p7)))] := (hS.part (.cons rfl (.cons rfl (.cons rfl (.nil _)))))
  refine x_then ?_
  refine wp_seq ?_
  refine wp_region_lit ?_
  refine st_val hS rfl rfl (by decide) (r_move rfl (hS.ev_ rfl)) fun a hS => ?_
  obtain ⟨y8, h9, h⟩ := bindO h
  replace hM := hM.pull 1 rfl rfl
  replace hM := hM.pull 1 rfl rfl
  have hc11 := strings_Builder_copyCheck_c hG h9 f4 hM
  refine wl_cons rfl (e_call rfl Tryd.func50 rfl rfl (args1 (hS.ev_ rfl)) hc11 ?_)
  rintro _ w ⟨K10, v12, v14, hlK10, hM, rfl, f13⟩
  refine ⟨_, rfl, ?_⟩
  refine pl hS rfl (by decide) fun a hS => ?_
  refine st_done ?_
  replace hS : Slots 17 [] a [(4, eV w0 ((none : Option Nat))), (0, Value.pointer (some ⟨g2, 0, none⟩)), (1, Value.int .u8 (b8 (p7)))] := (hS.part (.cons rfl (.cons rfl (.cons rfl (.nil _)))))
  refine x_then ?_
  refine wp_seq ?_
  refine wp_region_lit ?_
  refine st_val hS rfl rfl (by decide) (r_move rfl (hS.ev_ rfl)) fun a hS => ?_
  refine st_val hS rfl rfl (by decide) (r_move rfl (hS.ev_ rfl)) fun a hS => ?_
  refine st_val hS rfl rfl (by decide) (r_nilCheck rfl (hS.ev_ rfl)) fun a hS => ?_
  refine st_val hS rfl rfl (by decide) (r_fld_b rfl fo_70_1 (hS.ev_ rfl)) fun a hS => ?_
  refine st_val hS rfl rfl (by decide) (r_ld1_b rfl ag_22 (hS.ev_ rfl) rfl (Rd.of hM)) fun a hS => ?_
  refine st_val hS rfl rfl (by decide) (r_move rfl (hS.ev_ rfl)) fun a hS => ?_
  refine wl_cons rfl (e_litK (d := Kd.u8) (e := 5) (cs := [Value.int .u8 (b8 (p7))]) (xs := ([p7] : List UInt8)) hM rfl (parts_ev hS rfl) (by kernel_rfl) ⟨[Value.int .u8 (b8 (p7))], [], rfl, rfl, rfl⟩ rfl (by decide) fun v16 K17 w hlK17 hM f18 => ?_)
  refine pl hS rfl (by decide) fun a hS => ?_
  replace hM := hM.pull 1 rfl rfl
  obtain ⟨h19, h⟩ := bindU h
  refine wl_cons rfl (e_apd_sl hM rfl un_22 un_22 ti_5 rfl rfl (by decide) (hS.ev_ rfl) (hS.ev_ rfl) f18 (req_some h19) fun v20 w hM => ?_)
  refine pl hS rfl (by decide) fun a hS => ?_
  refine st_val hS rfl rfl (by decide) (r_nilCheck rfl (hS.ev_ rfl)) fun a hS => ?_
  refine st_val hS rfl rfl (by decide) (r_fld_b rfl fo_70_1 (hS.ev_ rfl)) fun a hS => ?_
  replace hM := hM.pull 1 rfl rfl
  replace hM := hM.pull 1 rfl rfl
  have ho21 := row_one hM
  replace hM := hM.pull 1 rfl rfl
  refine wl_cons rfl (e_store1 hM rfl ti_22 (hS.ev_ rfl) (hS.ev_ rfl) ho21 (Nat.lt_of_lt_of_le (Nat.le_of_ble_eq_true rfl) (Nat.le_refl _)) fun w hM => ?_)
  have hM : Sat w0 w K17 (SP.blk g2 70 [v12, v20] :: SP.row Kd.u8 5 v20 (y8 ++ ([p7] : List UInt8)) :: L) := hM
  refine pl0 hS rfl fun a hS => ?_
  refine st_done ?_
  replace hS : Slots 17 [] a [(4, eV w0 ((none : Option Nat)))] := (hS.part (.cons rfl (.nil _)))
  refine x_then ?_
  refine wp_seq ?_
  refine wp_region_lit ?_
  refine st_val hS rfl rfl (by decide) (r_assign rfl (hS.ev_ rfl)) fun a hS => ?_
  refine st_done ?_
  replace hS : Slots 17 [] a [(4, eV w0 ((none : Option Nat)))] := (hS.part (.cons rfl (.nil _)))
  refine x_then ?_
  refine wp_ret ?_
  have hr' := Option.some.inj h
  subst hr'
  refine ret1 (.inr rfl) hS rfl rfl ?_
  exact ⟨K17, (v12), (v20), (hlK10.trans hlK17), ((hM.pull 1 rfl rfl).pull 1 rfl rfl), rfl, f13⟩

theorem strings_Builder_String_c {w0 w : World} {K : Hp} {L : List SP} {p1 : List UInt8} {g2 : Nat} {v3 : Value} {v5 : Value} {r : List UInt8} (hG : Glob w0) (h : strings_Builder_String p1 = some r) (f4 : (v3 = Value.pointer none ∨ v3 = Value.pointer (some ⟨g2, 0, none⟩))) (hM : Sat w0 w K (SP.blk g2 70 [v3, v5] :: SP.row Kd.u8 5 v5 p1 :: L)) :
    Calls Tryd.prog 39 #[Value.pointer (some ⟨g2, 0, none⟩)] w (fun e w' => ∃ (K' : Hp), Hp.le K K' ∧ Sat w0 w' K' (L) ∧ e = .returned (strV (r))) := by
  refine enter_ (n := 14) (args := [Value.pointer (some ⟨g2, 0, none⟩)]) Tryd.func39 rfl rfl (Nat.le_of_ble_eq_true rfl) fun a hS => ?_
  replace hS : Slots 14 [] a [(0, Value.pointer (some ⟨g2, 0, none⟩))] := hS
  unfold strings_Builder_String at h
  refine wp_seq ?_
  refine wp_region_lit ?_
  refine st_val hS rfl rfl (by decide) (r_assign rfl (hS.ev_ (v := strV (([] : List UInt8))) rfl)) fun a hS => ?_
  refine st_done ?_
  replace hS : Slots 14 [] a [(2, strV (([] : List UInt8))), (0, Value.pointer (some ⟨g2, 0, none⟩))] := (hS.part (.cons rfl (.cons rfl (.nil _))))
  refine x_then ?_
  refine wp_seq ?_
  refine tk_start #[false, false, false, false, false, false, false, false, false, false, false, false] mixed_ rfl rfl ?_
  replace hM := hM.drew
  generalize w.drew = w at hM ⊢
  refine dk_any (i := 0) #[true, false, false, false, false, false, false, false, false, false, false, false] hS rfl (by kernel_rfl) rfl rfl (by decide) (fun w => r_move rfl (hS.ev_ rfl)) fun a hS => ?_
  refine dk_any (i := 1) #[true, true, false, false, false, false, false, false, false, false, false, false] hS rfl (by kernel_rfl) rfl rfl (by decide) (fun w => r_nilCheck rfl (hS.ev_ rfl)) fun a hS => ?_
  refine dk_any (i := 2) #[true, true, true, false, false, false, false, false, false, false, false, false] hS rfl (by kernel_rfl) rfl rfl (by decide) (fun w => r_fld_b rfl fo_70_1 (hS.ev_ rfl)) fun a hS => ?_
  refine dk_val (i := 3) (S := Rd w0 K [SP.blk g2 70 [v3, v5]]) #[true, true, true, true, false, false, false, false, false, false, false, false] hS rfl (by kernel_rfl) rfl rfl (by decide) (Rd.of hM.only) (fun w hR => r_ld1_b rfl ag_22 (hS.ev_ rfl) rfl hR) fun a hS => ?_
  refine dk_any (i := 5) #[true, true, true, true, false, true, false, false, false, false, false, false] hS rfl (by kernel_rfl) rfl rfl (by decide) (fun w => r_move rfl (hS.ev_ rfl)) fun a hS => ?_
  refine dk_any (i := 6) #[true, true, true, true, false, true, true, false, false, false, false, false] hS rfl (by kernel_rfl) rfl rfl (by decide) (fun w => r_nilCheck rfl (hS.ev_ rfl)) fun a hS => ?_
  refine dk_any (i := 7) #[true, true, true, true, false, true, true, true, false, false, false, false] hS rfl (by kernel_rfl) rfl rfl (by decide) (fun w => r_fld_b rfl fo_70_1 (hS.ev_ rfl)) fun a hS => ?_
  refine dk_val (i := 8) (S := Rd w0 K [SP.blk g2 70 [v3, v5]]) #[true, true, true, true, false, true, true, true, true, false, false, false] hS rfl (by kernel_rfl) rfl rfl (by decide) (Rd.of hM.only) (fun w hR => r_ld1_b rfl ag_22 (hS.ev_ rfl) rfl hR) fun a hS => ?_
  replace hM := hM.pull 1 rfl rfl
  refine dk_val (i := 9) (S := Rd w0 K [SP.row Kd.u8 5 v5 p1]) #[true, true, true, true, false, true, true, true, true, true, false, false] hS rfl (by kernel_rfl) rfl rfl (by decide) (Rd.of hM.only) (fun w hR => r_len_rowR rfl un_22 (hS.ev_ rfl) hR) fun a hS => ?_
  refine dk_one (i := 4) #[true, true, true, true, true, true, true, true, true, true, false, false] rfl (by kernel_rfl) rfl (e_usd hM rfl un_88 (hS.ev_ rfl) fun pt7 w hM hv8 => ?_)
  refine pT hS rfl (by decide) (Dem.keep (fun _ => Rd.up (Hp.le.refl _) hM.only) (Dem.keep (fun _ => Rd.up (Hp.le.refl _) (hM.pull 1 rfl rfl).only) (Dem.wait (by kernel_rfl) Dem.nil))) fun a hS => ?_
  refine dk_one (i := 10) #[true, true, true, true, true, true, true, true, true, true, true, false] rfl (by kernel_rfl) rfl (e_ustr hM rfl un_88 ce_5 (hS.ev_ rfl) (hS.ev_ rfl) hv8 fun w hM => ?_)
  refine pT hS rfl (by decide) (Dem.wait (by kernel_rfl) (Dem.wait (by kernel_rfl) (Dem.wait (by kernel_rfl) Dem.nil))) fun a hS => ?_
  refine dk_any (i := 11) #[true, true, true, true, true, true, true, true, true, true, true, true] hS rfl (by kernel_rfl) rfl rfl (by decide) (fun w => r_assign rfl (hS.ev_ rfl)) fun a hS => ?_
  refine tk_done (by kernel_rfl) ?_
  replace hS : Slots 14 [] a [(2, strV (p1))] := (hS.part (.cons rfl (.nil _)))
  refine x_then ?_
  refine wp_ret ?_
  have hr' := Option.some.inj h
  subst hr'
  refine ret1 (.inr rfl) hS rfl rfl ?_
  exact ⟨K, (Hp.le.refl _), (hM).tail, rfl⟩

theorem raw_told_c {w0 w : World} {K : Hp} {L : List SP} {p1 : List UInt8} {v2 : Value} {r : List UInt8} (hG : Glob w0) (h : raw_told p1 = some r) (f3 : Kd.u8.sl K v2 p1) (hM : Sat w0 w K (L)) :
    Calls Tryd.prog 26 #[v2] w (fun e w' => ∃ (K' : Hp), Hp.le K K' ∧ Sat w0 w' K' (L) ∧ e = .returned (strV (r))) := by
  refine enter_ (n := 25) (args := [v2]) Tryd.func26 rfl rfl (Nat.le_of_ble_eq_true rfl) fun a hS => ?_
  replace hS : Slots 25 [] a [(0, v2)] := hS
  unfold raw_told at h
  refine wp_seq ?_
  refine wp_region_lit ?_
  refine st_val hS rfl rfl (by decide) (r_assign rfl (hS.ev_ (v := strV (([] : List UInt8))) rfl)) fun a hS => ?_
  refine st_done ?_
  replace hS : Slots 25 [] a [(2, strV (([] : List UInt8))), (0, v2)] := (hS.part (.cons rfl (.cons rfl (.nil _))))
  refine x_then ?_
  refine wp_seq ?_
  refine wp_seq ?_
  refine wp_region_lit ?_
  refine st_val hS rfl rfl (by decide) (r_move rfl (hS.ev_ rfl)) fun a hS => ?_
  refine st_val hS rfl rfl (by decide) (r_len_sl rfl un_22 (hS.ev_ rfl) f3) fun a hS => ?_
  refine st_val hS rfl rfl (by decide) (r_cmp rfl (hS.ev_ rfl) (hS.ev_ rfl) rfl) fun a hS => ?_
  refine st_done ?_
  replace hS : Slots 25 [] a [(8, Value.bool (((p1.length : Int)) == 0)), (2, strV (([] : List UInt8))), (0, v2)] := (hS.part (.cons rfl (.cons rfl (.cons rfl (.nil _)))))
  refine x_then ?_
  rcases ifB h with ⟨hc4, h⟩ | ⟨hc4, h⟩
  · refine c_cond_true (hS.ev_ rfl) hc4 ?_
    refine wp_seq ?_
    refine wp_region_lit ?_
    refine st_val hS rfl rfl (by decide) (r_assign rfl (hS.ev_ (v := strV (([45] : List UInt8))) rfl)) fun a hS => ?_
    refine st_done ?_
    replace hS : Slots 25 [] a [(2, strV (([45] : List UInt8))), (0, v2)] := (hS.part (.cons rfl (.cons rfl (.nil _))))
    refine x_then ?_
    refine wp_ret ?_
    refine x_then_ret ?_
    have hr' := Option.some.inj h
    subst hr'
    refine ret1 (.inr rfl) hS rfl rfl ?_
    exact ⟨K, (Hp.le.refl _), hM, rfl⟩
  · refine c_cond_false (hS.ev_ rfl) hc4 ?_
    refine wp_skip ?_
    refine x_then ?_
    refine wp_seq ?_
    refine wp_region_lit ?_
    replace hM := hM.row_nil Kd.u8 5
    refine wl_cons rfl (e_alloc (cs := [Value.pointer none, Value.slice none 0 0]) hM rfl ti_70 rfl fun g5 w hM => ?_)
    refine pl hS rfl (by decide) fun a hS => ?_
    refine st_done ?_
    replace hS : Slots 25 [] a [(3, Value.pointer (some ⟨g5, 0, none⟩)), (2, strV (([] : List UInt8))), (0, v2)] := (hS.part (.cons rfl (.cons rfl (.cons rfl (.nil _)))))
    refine x_then ?_
    refine wp_seq ?_
    refine wp_seq ?_
    refine wp_region_lit ?_
    refine st_val hS rfl rfl (by decide) (r_move rfl (hS.ev_ rfl)) fun a hS => ?_
    refine st_val hS rfl rfl (by decide) (r_len_sl rfl un_22 (hS.ev_ rfl) f3) fun a hS => ?_
    refine st_val hS rfl rfl (by decide) (r_move rfl (hS.ev_ rfl)) fun a hS => ?_
    refine st_done ?_
    replace hS : Slots 25 [] a [(11, Value.int .i64 (0)), (10, Value.int .i64 ((p1.length : Int))), (9, v2), (3, Value.pointer (some ⟨g5, 0, none⟩)), (2, strV (([] : List UInt8)))] := (hS.part (.cons rfl (.cons rfl (.cons rfl (.cons rfl (.cons rfl (.nil _)))))))
    refine x_then ?_
    refine wp_block ?_
    obtain ⟨o21, h22, h⟩ := bindO h
    refine c_loop_ways (fun e a w => (e = .exit 0 ∧ ∃ (K23 : Hp) (v24 v26 : Value), Hp.le K K23 ∧ Slots 25 [] a [(2, strV (([] : List UInt8))), (3, Value.pointer (some ⟨g5, 0, none⟩))] ∧ Sat w0 w K23 (SP.blk g5 70 [v24, v26] :: SP.row Kd.u8 5 v26 o21 :: L) ∧ (v24 = Value.pointer none ∨ v24 = Value.pointer (some ⟨g5, 0, none⟩)))) ?_ ?_
    · intro c Q hc hQ
      have key : ∀ (x16 : Int) (x19 : List UInt8) (r' : List UInt8), raw_told_l1 p1 x16 x19 = some r' → r' = o21 → ∀ (K15 : Hp) (v17 v20 : Value) (a : Act) (w : World), Hp.le K K15 → Slots 25 [] a [(11, Value.int .i64 (x16)), (10, Value.int .i64 ((p1.length : Int))), (9, v2), (3, Value.pointer (some ⟨g5, 0, none⟩)), (2, strV (([] : List UInt8)))] → Sat w0 w K15 (SP.blk g5 70 [v17, v20] :: SP.row Kd.u8 5 v20 x19 :: L) → (v17 = Value.pointer none ∨ v17 = Value.pointer (some ⟨g5, 0, none⟩)) → Rnd Tryd.prog c Q a w := by
        refine raw_told_l1.partial_correctness p1 _ ?_
        intro raw_told_l1_rec ih x16 x19 r' h hr K15 v17 v20 a w hlK15 hS hM f18
        subst hc
        refine c_round ?_
        refine wp_seq ?_
        refine wp_region_lit ?_
        refine st_val hS rfl rfl (by decide) (r_cmp rfl (hS.ev_ rfl) (hS.ev_ rfl) rfl) fun a hS => ?_
        refine st_done ?_
        replace hS : Slots 25 [] a [(12, Value.bool (decide (x16 < ((p1.length : Int))))), (11, Value.int .i64 (x16)), (10, Value.int .i64 ((p1.length : Int))), (9, v2), (3, Value.pointer (some ⟨g5, 0, none⟩)), (2, strV (([] : List UInt8)))] := (hS.part (.cons rfl (.cons rfl (.cons rfl (.cons rfl (.cons rfl (.cons rfl (.nil _))))))))
        refine x_then ?_
        refine wp_seq ?_
        rcases ifB h with ⟨hc27, h⟩ | ⟨hc27, h⟩
        · refine c_cond_true (hS.ev_ rfl) hc27 ?_
          refine wp_skip ?_
          refine x_then ?_
          refine wp_seq ?_
          refine wp_block ?_
          refine wp_seq ?_
          refine wp_region_lit ?_
          obtain ⟨e28, h29, h⟩ := bindO h
          obtain ⟨ad30, cp31, cs32, hv33, hr34, h0_35, h1_36, hq37⟩ := sl_at f3 h29 (by decide)
          obtain rfl := hr34
          refine st_val hS rfl rfl (by decide) (r_idx_sl rfl un_22 ti_5 (hS.ev_ rfl) hv33 (hS.ev_ rfl) h0_35 h1_36) fun a hS => ?_
          refine st_val hS rfl rfl (by decide) (r_ld1_k rfl ag_5 (hS.ev_ rfl) hq37 rfl (Rd.up hlK15 hM.nil_)) fun a hS => ?_
          refine st_val hS rfl rfl (by decide) (r_assign rfl (hS.ev_ rfl)) fun a hS => ?_
          refine st_done ?_
          replace hS : Slots 25 [] a [(5, Value.int .u8 (b8 (e28))), (11, Value.int .i64 (x16)), (10, Value.int .i64 ((p1.length : Int))), (9, v2), (3, Value.pointer (some ⟨g5, 0, none⟩)), (2, strV (([] : List UInt8)))] := (hS.part (.cons rfl (.cons rfl (.cons rfl (.cons rfl (.cons rfl (.cons rfl (.nil _))))))))
          refine x_then ?_
          refine wp_seq ?_
          refine wp_region_lit ?_
          refine st_val hS rfl rfl (by decide) (r_move rfl (hS.ev_ rfl)) fun a hS => ?_
          refine st_val hS rfl rfl (by decide) (r_shr8 (n := 4) rfl (hS.ev_ rfl) (hS.ev_ (v := Value.int .u64 ((4 : Nat) : Int)) rfl) (by decide)) fun a hS => ?_
          obtain ⟨c38, h39, h⟩ := bindO h
          refine st_val hS rfl rfl (by decide) (r_index_s rfl un_9 (hS.ev_ (v := strV (([48, 49, 50, 51, 52, 53, 54, 55, 56, 57, 97, 98, 99, 100, 101, 102] : List UInt8))) rfl) (hS.ev_ rfl) h39) fun a hS => ?_
          obtain ⟨y40, h41, h⟩ := bindO h
          replace hM := hM.pull 1 rfl rfl
          replace hM := hM.pull 1 rfl rfl
          have hc43 := strings_Builder_WriteByte_c hG h41 f18 hM
          refine wl_cons rfl (e_call rfl Tryd.func38 rfl rfl (args2 (hS.ev_ rfl) (hS.ev_ rfl)) hc43 ?_)
          rintro _ w ⟨K42, v44, v46, hlK42, hM, rfl, f45⟩
          refine ⟨_, rfl, ?_⟩
          refine pl hS rfl (by decide) fun a hS => ?_
          refine st_done ?_
          replace hS : Slots 25 [] a [(5, Value.int .u8 (b8 (e28))), (11, Value.int .i64 (x16)), (10, Value.int .i64 ((p1.length : Int))), (9, v2), (3, Value.pointer (some ⟨g5, 0, none⟩)), (2, strV (([] : List UInt8)))] := (hS.part (.cons rfl (.cons rfl (.cons rfl (.cons rfl (.cons rfl (.cons rfl (.nil _))))))))
          refine x_then ?_
          refine wp_region_lit ?_
          refine st_val hS rfl rfl (by decide) (r_move rfl (hS.ev_ rfl)) fun a hS => ?_
          refine st_val hS rfl rfl (by decide) (r_and8 rfl (hS.ev_ rfl) (hS.ev_ (v := Value.int .u8 (b8 (15))) rfl)) fun a hS => ?_
          obtain ⟨c48, h49, h⟩ := bindO h
          refine st_val hS rfl rfl (by decide) (r_index_s rfl un_9 (hS.ev_ (v := strV (([48, 49, 50, 51, 52, 53, 54, 55, 56, 57, 97, 98, 99, 100, 101, 102] : List UInt8))) rfl) (hS.ev_ rfl) h49) fun a hS => ?_
          obtain ⟨y50, h51, h⟩ := bindO h
          replace hM := hM.pull 1 rfl rfl
          replace hM := hM.pull 1 rfl rfl
          have hc53 := strings_Builder_WriteByte_c hG h51 f45 hM
          refine wl_cons rfl (e_call rfl Tryd.func38 rfl rfl (args2 (hS.ev_ rfl) (hS.ev_ rfl)) hc53 ?_)
          rintro _ w ⟨K52, v54, v56, hlK52, hM, rfl, f55⟩
          refine ⟨_, rfl, ?_⟩
          refine pl hS rfl (by decide) fun a hS => ?_
          refine st_done ?_
          replace hS : Slots 25 [] a [(11, Value.int .i64 (x16)), (10, Value.int .i64 ((p1.length : Int))), (9, v2), (3, Value.pointer (some ⟨g5, 0, none⟩)), (2, strV (([] : List UInt8)))] := (hS.part (.cons rfl (.cons rfl (.cons rfl (.cons rfl (.cons rfl (.nil _)))))))
          refine x_block ?_
          refine x_then ?_
          refine wp_region_lit ?_
          refine st_val hS rfl rfl (by decide) (r_add rfl (hS.ev_ rfl) (hS.ev_ rfl)) fun a hS => ?_
          refine st_val hS rfl rfl (by decide) (r_move rfl (hS.ev_ rfl)) fun a hS => ?_
          refine st_done ?_
          replace hS : Slots 25 [] a [(11, Value.int .i64 (w64 (x16 + 1))), (10, Value.int .i64 ((p1.length : Int))), (9, v2), (3, Value.pointer (some ⟨g5, 0, none⟩)), (2, strV (([] : List UInt8)))] := (hS.part (.cons rfl (.cons rfl (.cons rfl (.cons rfl (.cons rfl (.nil _)))))))
          refine x_then ?_
          exact ih (w64 (x16 + 1)) y50.2 _ h hr K52 (v54) (v56) _ _ ((hlK15.trans hlK42).trans hlK52) (hS.part (.cons rfl (.cons rfl (.cons rfl (.cons rfl (.cons rfl (.nil _))))))) (((hM.pull 1 rfl rfl).pull 1 rfl rfl)) f55
        · refine c_cond_false (hS.ev_ rfl) hc27 ?_
          refine wp_exit ?_
          refine x_then_exit ?_
          refine x_then_exit ?_
          have ho' := (Option.some.inj h).trans hr
          refine hQ _ _ _ ?_
          subst ho'
          exact ⟨rfl, K15, (v17), (v20), hlK15, (hS.part (.cons rfl (.cons rfl (.nil _)))), ((hM.pull 1 rfl rfl).pull 1 rfl rfl), f18⟩
      exact key 0 ([] : List UInt8) _ h22 rfl K ((Value.pointer none)) ((Value.slice none 0 0)) _ _ (Hp.le.refl _) (hS.part (.cons rfl (.cons rfl (.cons rfl (.cons rfl (.cons rfl (.nil _))))))) (((hM.pull 1 rfl rfl).pull 1 rfl rfl)) (.inl rfl)
    · rintro e a w ⟨rfl, K23, v24, v26, hlK23, hS, hM, f25⟩
      refine x_block_here ?_
      refine x_then ?_
      refine wp_seq ?_
      refine wp_region_lit ?_
      obtain ⟨y58, h59, h⟩ := bindO h
      replace hM := hM.pull 1 rfl rfl
      replace hM := hM.pull 1 rfl rfl
      have hc61 := strings_Builder_String_c hG h59 f25 hM
      refine wl_cons rfl (e_call rfl Tryd.func39 rfl rfl (args1 (hS.ev_ rfl)) hc61 ?_)
      rintro _ w ⟨K60, hlK60, hM, rfl⟩
      refine ⟨_, rfl, ?_⟩
      refine pl hS rfl (by decide) fun a hS => ?_
      refine st_val hS rfl rfl (by decide) (r_assign rfl (hS.ev_ rfl)) fun a hS => ?_
      refine st_done ?_
      replace hS : Slots 25 [] a [(2, strV (y58))] := (hS.part (.cons rfl (.nil _)))
      refine x_then ?_
      refine wp_ret ?_
      have hr' := Option.some.inj h
      subst hr'
      refine ret1 (.inr rfl) hS rfl rfl ?_
      exact ⟨K60, (hlK23.trans hlK60), hM, rfl⟩

theorem raw_places_c {w0 w : World} {K : Hp} {L : List SP} {p1 : List Int} {v2 : Value} {r : List UInt8} (hG : Glob w0) (h : raw_places p1 = some r) (f3 : (Kd.int .i64).sl K v2 p1) (hM : Sat w0 w K (L)) :
    Calls Tryd.prog 27 #[v2] w (fun e w' => ∃ (K' : Hp), Hp.le K K' ∧ Sat w0 w' K' (L) ∧ e = .returned (strV (r))) := by
  refine enter_ (n := 20) (args := [v2]) Tryd.func27 rfl rfl (Nat.le_of_ble_eq_true rfl) fun a hS => ?_
  replace hS : Slots 20 [] a [(0, v2)] := hS
  unfold raw_places at h
  refine wp_seq ?_
  refine wp_region_lit ?_
  refine st_val hS rfl rfl (by decide) (r_assign rfl (hS.ev_ (v := strV (([] : List UInt8))) rfl)) fun a hS => ?_
  refine st_done ?_
  replace hS : Slots 20 [] a [(2, strV (([] : List UInt8))), (0, v2)] := (hS.part (.cons rfl (.cons rfl (.nil _))))
  refine x_then ?_
  refine wp_seq ?_
  refine wp_region_lit ?_
  refine st_val hS rfl rfl (by decide) (r_assign rfl (hS.ev_ rfl)) fun a hS => ?_
  replace hM := hM.row_nil Kd.str 9
  refine st_done ?_
  replace hS : Slots 20 [] a [(3, (Value.slice none 0 0)), (2, strV (([] : List UInt8))), (0, v2)] := (hS.part (.cons rfl (.cons rfl (.cons rfl (.nil _)))))
  refine x_then ?_
  refine wp_seq ?_
  refine wp_seq ?_
  refine wp_region_lit ?_
  refine st_val hS rfl rfl (by decide) (r_move rfl (hS.ev_ rfl)) fun a hS => ?_
  refine st_val hS rfl rfl (by decide) (r_len_sl rfl un_23 (hS.ev_ rfl) f3) fun a hS => ?_
  refine st_val hS rfl rfl (by decide) (r_move rfl (hS.ev_ rfl)) fun a hS => ?_
  refine st_done ?_
  replace hS : Slots 20 [] a [(8, Value.int .i64 (0)), (7, Value.int .i64 ((p1.length : Int))), (6, v2), (3, (Value.slice none 0 0)), (2, strV (([] : List UInt8)))] := (hS.part (.cons rfl (.cons rfl (.cons rfl (.cons rfl (.cons rfl (.nil _)))))))
  refine x_then ?_
  refine wp_block ?_
  obtain ⟨o14, h15, h⟩ := bindO h
  refine c_loop_ways (fun e a w => (e = .exit 0 ∧ ∃ (K16 : Hp) (v17 : Value), Hp.le K K16 ∧ Slots 20 [] a [(2, strV (([] : List UInt8))), (3, v17)] ∧ Sat w0 w K16 (SP.row Kd.str 9 v17 o14 :: L))) ?_ ?_
  · intro c Q hc hQ
    have key : ∀ (x11 : Int) (x12 : List (List UInt8)) (r' : List (List UInt8)), raw_places_l1 p1 x11 x12 = some r' → r' = o14 → ∀ (K10 : Hp) (v13 : Value) (a : Act) (w : World), Hp.le K K10 → Slots 20 [] a [(8, Value.int .i64 (x11)), (7, Value.int .i64 ((p1.length : Int))), (6, v2), (2, strV (([] : List UInt8))), (3, v13)] → Sat w0 w K10 (SP.row Kd.str 9 v13 x12 :: L) → Rnd Tryd.prog c Q a w := by
      refine raw_places_l1.partial_correctness p1 _ ?_
      intro raw_places_l1_rec ih x11 x12 r' h hr K10 v13 a w hlK10 hS hM 
      subst hc
      refine c_round ?_
      refine wp_seq ?_
      refine wp_region_lit ?_
      refine st_val hS rfl rfl (by decide) (r_cmp rfl (hS.ev_ rfl) (hS.ev_ rfl) rfl) fun a hS => ?_
      refine st_done ?_
      replace hS : Slots 20 [] a [(9, Value.bool (decide (x11 < ((p1.length : Int))))), (8, Value.int .i64 (x11)), (7, Value.int .i64 ((p1.length : Int))), (6, v2), (2, strV (([] : List UInt8))), (3, v13)] := (hS.part (.cons rfl (.cons rfl (.cons rfl (.cons rfl (.cons rfl (.cons rfl (.nil _))))))))
      refine x_then ?_
      refine wp_seq ?_
      rcases ifB h with ⟨hc18, h⟩ | ⟨hc18, h⟩
      · refine c_cond_true (hS.ev_ rfl) hc18 ?_
        refine wp_skip ?_
        refine x_then ?_
        refine wp_seq ?_
        refine wp_block ?_
        refine wp_seq ?_
        refine wp_region_lit ?_
        obtain ⟨e19, h20, h⟩ := bindO h
        obtain ⟨ad21, cp22, cs23, hv24, hr25, h0_26, h1_27, hq28⟩ := sl_at f3 h20 (by decide)
        obtain rfl := hr25
        refine st_val hS rfl rfl (by decide) (r_idx_sl rfl un_23 ti_3 (hS.ev_ rfl) hv24 (hS.ev_ rfl) h0_26 h1_27) fun a hS => ?_
        refine st_val hS rfl rfl (by decide) (r_ld1_k rfl ag_3 (hS.ev_ rfl) hq28 rfl (Rd.up hlK10 hM.nil_)) fun a hS => ?_
        refine st_val hS rfl rfl (by decide) (r_assign rfl (hS.ev_ rfl)) fun a hS => ?_
        refine st_done ?_
        replace hS : Slots 20 [] a [(5, Value.int .i64 (e19)), (8, Value.int .i64 (x11)), (7, Value.int .i64 ((p1.length : Int))), (6, v2), (2, strV (([] : List UInt8))), (3, v13)] := (hS.part (.cons rfl (.cons rfl (.cons rfl (.cons rfl (.cons rfl (.cons rfl (.nil _))))))))
        refine x_then ?_
        refine wp_region_lit ?_
        refine st_val hS rfl rfl (by decide) (r_move rfl (hS.ev_ rfl)) fun a hS => ?_
        refine st_val hS rfl rfl (by decide) (r_move rfl (hS.ev_ rfl)) fun a hS => ?_
        obtain ⟨y29, h30, h⟩ := bindO h
        have hc32 := strconv_Itoa_c hG h30 hM
        refine wl_cons rfl (e_call rfl Tryd.func25 rfl rfl (args1 (hS.ev_ rfl)) hc32 ?_)
        rintro _ w ⟨K31, hlK31, hM, rfl⟩
        refine ⟨_, rfl, ?_⟩
        refine pl hS rfl (by decide) fun a hS => ?_
        refine wl_cons rfl (e_litK (d := Kd.str) (e := 9) (cs := [strV (y29)]) (xs := [y29]) hM rfl (parts_ev hS rfl) (by kernel_rfl) ⟨[strV (y29)], [], rfl, rfl, rfl⟩ rfl (by decide) fun v33 K34 w hlK34 hM f35 => ?_)
        refine pl hS rfl (by decide) fun a hS => ?_
        obtain ⟨h36, h⟩ := bindU h
        refine wl_cons rfl (e_apd_sl hM rfl un_46 un_46 ti_9 rfl rfl (by decide) (hS.ev_ rfl) (hS.ev_ rfl) f35 (req_some h36) fun v37 w hM => ?_)
        refine pl hS rfl (by decide) fun a hS => ?_
        refine st_val hS rfl rfl (by decide) (r_assign rfl (hS.ev_ rfl)) fun a hS => ?_
        refine st_done ?_
        replace hS : Slots 20 [] a [(3, v37), (8, Value.int .i64 (x11)), (7, Value.int .i64 ((p1.length : Int))), (6, v2), (2, strV (([] : List UInt8)))] := (hS.part (.cons rfl (.cons rfl (.cons rfl (.cons rfl (.cons rfl (.nil _)))))))
        refine x_block ?_
        refine x_then ?_
        refine wp_region_lit ?_
        refine st_val hS rfl rfl (by decide) (r_add rfl (hS.ev_ rfl) (hS.ev_ rfl)) fun a hS => ?_
        refine st_val hS rfl rfl (by decide) (r_move rfl (hS.ev_ rfl)) fun a hS => ?_
        refine st_done ?_
        replace hS : Slots 20 [] a [(8, Value.int .i64 (w64 (x11 + 1))), (3, v37), (7, Value.int .i64 ((p1.length : Int))), (6, v2), (2, strV (([] : List UInt8)))] := (hS.part (.cons rfl (.cons rfl (.cons rfl (.cons rfl (.cons rfl (.nil _)))))))
        refine x_then ?_
        exact ih (w64 (x11 + 1)) (x12 ++ [y29]) _ h hr K34 (v37) _ _ ((hlK10.trans hlK31).trans hlK34) (hS.part (.cons rfl (.cons rfl (.cons rfl (.cons rfl (.cons rfl (.nil _))))))) (hM)
      · refine c_cond_false (hS.ev_ rfl) hc18 ?_
        refine wp_exit ?_
        refine x_then_exit ?_
        refine x_then_exit ?_
        have ho' := (Option.some.inj h).trans hr
        refine hQ _ _ _ ?_
        subst ho'
        exact ⟨rfl, K10, (v13), hlK10, (hS.part (.cons rfl (.cons rfl (.nil _)))), hM⟩
    exact key 0 (([] : List (List UInt8))) _ h15 rfl K ((Value.slice none 0 0)) _ _ (Hp.le.refl _) (hS.part (.cons rfl (.cons rfl (.cons rfl (.cons rfl (.cons rfl (.nil _))))))) (hM)
  · rintro e a w ⟨rfl, K16, v17, hlK16, hS, hM⟩
    refine x_block_here ?_
    refine x_then ?_
    refine wp_seq ?_
    refine wp_region_lit ?_
    refine st_val hS rfl rfl (by decide) (r_move rfl (hS.ev_ rfl)) fun a hS => ?_
    obtain ⟨K38, L39, xa40, hlK38, ha41, hb42, hMb, back44⟩ := hM.borrow
    have f43 := row_sl ha41 hlK38 hb42
    obtain ⟨y45, h46, h⟩ := bindO h
    have hc48 := strings_Join_c hG h46 f43 hMb
    refine wl_cons rfl (e_call rfl Tryd.func40 rfl rfl (args2 (hS.ev_ rfl) (hS.ev_ (v := strV (([44] : List UInt8))) rfl)) hc48 ?_)
    rintro _ w ⟨K47, hlK47, hMb, rfl⟩
    replace hM := back44 _ _ hlK47 hMb
    refine ⟨_, rfl, ?_⟩
    refine pl hS rfl (by decide) fun a hS => ?_
    refine st_val hS rfl rfl (by decide) (r_assign rfl (hS.ev_ rfl)) fun a hS => ?_
    refine st_done ?_
    replace hS : Slots 20 [] a [(2, strV (y45))] := (hS.part (.cons rfl (.nil _)))
    refine x_then ?_
    refine wp_ret ?_
    have hr' := Option.some.inj h
    subst hr'
    refine ret1 (.inr rfl) hS rfl rfl ?_
    exact ⟨K16, hlK16, (hM).tail, rfl⟩

theorem raw_Line_c {w0 w : World} {K : Hp} {L : List SP} {p1 : raw_Event} {v2 : Value} {v4 : Value} {r : List UInt8} (hG : Glob w0) (h : raw_Line p1 = some r) (f3 : Kd.u8.sl K v2 p1.f_Bytes) (f5 : (Kd.int .i64).sl K v4 p1.f_Marks) (hM : Sat w0 w K (L)) :
    Calls Tryd.prog 11 #[Value.agg #[Value.int .i64 (p1.f_Kind), Value.int .i64 (p1.f_N), v2, v4]] w (fun e w' => ∃ (K' : Hp), Hp.le K K' ∧ Sat w0 w' K' (L) ∧ e = .returned (strV (r))) := by
  refine enter_ (n := 45) (args := [Value.agg #[Value.int .i64 (p1.f_Kind), Value.int .i64 (p1.f_N), v2, v4]]) Tryd.func11 rfl rfl (Nat.le_of_ble_eq_true rfl) fun a hS => ?_
  replace hS : Slots 45 [] a [(0, Value.agg #[Value.int .i64 (p1.f_Kind), Value.int .i64 (p1.f_N), v2, v4])] := hS
  unfold raw_Line at h
  refine wp_seq ?_
  refine wp_region_lit ?_
  refine wl_cons rfl (e_box (cs := [Value.int .i64 (p1.f_Kind), Value.int .i64 (p1.f_N), v2, v4]) hM rfl (hS.ev_ rfl) rfl fun g6 w hM => ?_)
  refine pl hS rfl (by decide) fun a hS => ?_
  refine st_val hS rfl rfl (by decide) (r_assign rfl (hS.ev_ (v := strV (([] : List UInt8))) rfl)) fun a hS => ?_
  refine st_done ?_
  replace hS : Slots 45 [] a [(2, strV (([] : List UInt8))), (1, Value.pointer (some ⟨g6, 0, none⟩))] := (hS.part (.cons rfl (.cons rfl (.nil _))))
  refine x_then ?_
  refine wp_seq ?_
  refine wp_block ?_
  refine wp_seq ?_
  refine wp_region_lit ?_
  refine st_val hS rfl rfl (by decide) (r_ldN_b (cs' := [Value.int .i64 (p1.f_Kind), Value.int .i64 (p1.f_N), v2, v4]) rfl ag_25 ti_25 (hS.ev_ rfl) rfl (Rd.of hM)) fun a hS => ?_
  obtain ⟨y8, h9, h⟩ := bindO h
  have hc11 := raw_Right_c hG h9 f3 f5 hM
  refine wl_cons rfl (e_call rfl Tryd.func10 rfl rfl (args1 (hS.ev_ rfl)) hc11 ?_)
  rintro _ w ⟨K10, hlK10, hM, rfl⟩
  refine ⟨_, rfl, ?_⟩
  refine pl hS rfl (by decide) fun a hS => ?_
  refine st_val hS rfl rfl (by decide) (r_not rfl (hS.ev_ rfl)) fun a hS => ?_
  refine st_val hS rfl rfl (by decide) (r_assign rfl (hS.ev_ rfl)) fun a hS => ?_
  refine st_done ?_
  replace hS : Slots 45 [] a [(3, Value.bool (!y8)), (2, strV (([] : List UInt8))), (1, Value.pointer (some ⟨g6, 0, none⟩))] := (hS.part (.cons rfl (.cons rfl (.cons rfl (.nil _)))))
  refine x_then ?_
  rcases ifB h with ⟨hc12, h⟩ | ⟨hc12, h⟩
  · refine c_cond_true (hS.ev_ rfl) hc12 ?_
    refine wp_seq ?_
    refine wp_region_lit ?_
    refine st_val hS rfl rfl (by decide) (r_assign rfl (hS.ev_ (v := strV (([] : List UInt8))) rfl)) fun a hS => ?_
    refine st_done ?_
    replace hS : Slots 45 [] a [(2, strV (([] : List UInt8))), (1, Value.pointer (some ⟨g6, 0, none⟩))] := (hS.part (.cons rfl (.cons rfl (.nil _))))
    refine x_then ?_
    refine wp_ret ?_
    refine x_block_ret ?_
    refine x_then_ret ?_
    have hr' := Option.some.inj h
    subst hr'
    refine ret1 (.inr rfl) hS rfl rfl ?_
    exact ⟨K10, hlK10, (hM).tail, rfl⟩
  · refine c_cond_false (hS.ev_ rfl) hc12 ?_
    refine wp_seq ?_
    refine wp_region_lit ?_
    refine st_val hS rfl rfl (by decide) (r_fld_b rfl fo_25_0 (hS.ev_ rfl)) fun a hS => ?_
    refine st_val hS rfl rfl (by decide) (r_ld1_b rfl ag_3 (hS.ev_ rfl) rfl (Rd.of hM)) fun a hS => ?_
    refine st_val hS rfl rfl (by decide) (r_cmp rfl (hS.ev_ rfl) (hS.ev_ rfl) rfl) fun a hS => ?_
    refine st_val hS rfl rfl (by decide) (r_assign rfl (hS.ev_ rfl)) fun a hS => ?_
    refine st_done ?_
    replace hS : Slots 45 [] a [(7, Value.bool (p1.f_Kind == 2)), (2, strV (([] : List UInt8))), (1, Value.pointer (some ⟨g6, 0, none⟩))] := (hS.part (.cons rfl (.cons rfl (.cons rfl (.nil _)))))
    refine x_then ?_
    rcases ifB h with ⟨hc13, h⟩ | ⟨hc13, h⟩
    · refine c_cond_true (hS.ev_ rfl) hc13 ?_
      refine wp_seq ?_
      refine wp_region_lit ?_
      refine st_val hS rfl rfl (by decide) (r_fld_b rfl fo_25_1 (hS.ev_ rfl)) fun a hS => ?_
      refine st_val hS rfl rfl (by decide) (r_ld1_b rfl ag_3 (hS.ev_ rfl) rfl (Rd.of hM)) fun a hS => ?_
      obtain ⟨y14, h15, h⟩ := bindO h
      have hc17 := strconv_Itoa_c hG h15 hM
      refine wl_cons rfl (e_call rfl Tryd.func25 rfl rfl (args1 (hS.ev_ rfl)) hc17 ?_)
      rintro _ w ⟨K16, hlK16, hM, rfl⟩
      refine ⟨_, rfl, ?_⟩
      refine pl hS rfl (by decide) fun a hS => ?_
      obtain ⟨h18, h⟩ := bindU h
      refine st_val hS rfl rfl (by decide) (r_sadd rfl (hS.ev_ (v := strV (([103, 114, 97, 110, 116, 32] : List UInt8))) rfl) (hS.ev_ rfl) (req_some h18)) fun a hS => ?_
      refine st_val hS rfl rfl (by decide) (r_assign rfl (hS.ev_ rfl)) fun a hS => ?_
      refine st_done ?_
      replace hS : Slots 45 [] a [(2, strV (([103, 114, 97, 110, 116, 32] : List UInt8) ++ y14)), (1, Value.pointer (some ⟨g6, 0, none⟩))] := (hS.part (.cons rfl (.cons rfl (.nil _))))
      refine x_then ?_
      refine wp_ret ?_
      refine x_block_ret ?_
      refine x_then_ret ?_
      have hr' := Option.some.inj h
      subst hr'
      refine ret1 (.inr rfl) hS rfl rfl ?_
      exact ⟨K16, (hlK10.trans hlK16), (hM).tail, rfl⟩
    · refine c_cond_false (hS.ev_ rfl) hc13 ?_
      refine wp_seq ?_
      refine wp_region_lit ?_
      refine st_val hS rfl rfl (by decide) (r_fld_b rfl fo_25_0 (hS.ev_ rfl)) fun a hS => ?_
      refine st_val hS rfl rfl (by decide) (r_ld1_b rfl ag_3 (hS.ev_ rfl) rfl (Rd.of hM)) fun a hS => ?_
      refine st_val hS rfl rfl (by decide) (r_cmp rfl (hS.ev_ rfl) (hS.ev_ rfl) rfl) fun a hS => ?_
      refine st_val hS rfl rfl (by decide) (r_assign rfl (hS.ev_ rfl)) fun a hS => ?_
      refine st_done ?_
      replace hS : Slots 45 [] a [(15, Value.bool (p1.f_Kind == 3)), (2, strV (([] : List UInt8))), (1, Value.pointer (some ⟨g6, 0, none⟩))] := (hS.part (.cons rfl (.cons rfl (.cons rfl (.nil _)))))
      refine x_then ?_
      rcases ifB h with ⟨hc19, h⟩ | ⟨hc19, h⟩
      · refine c_cond_true (hS.ev_ rfl) hc19 ?_
        refine wp_seq ?_
        refine wp_region_lit ?_
        refine st_val hS rfl rfl (by decide) (r_fld_b rfl fo_25_1 (hS.ev_ rfl)) fun a hS => ?_
        refine st_val hS rfl rfl (by decide) (r_ld1_b rfl ag_3 (hS.ev_ rfl) rfl (Rd.of hM)) fun a hS => ?_
        obtain ⟨y20, h21, h⟩ := bindO h
        have hc23 := strconv_Itoa_c hG h21 hM
        refine wl_cons rfl (e_call rfl Tryd.func25 rfl rfl (args1 (hS.ev_ rfl)) hc23 ?_)
        rintro _ w ⟨K22, hlK22, hM, rfl⟩
        refine ⟨_, rfl, ?_⟩
        refine pl hS rfl (by decide) fun a hS => ?_
        obtain ⟨h24, h⟩ := bindU h
        refine st_val hS rfl rfl (by decide) (r_sadd rfl (hS.ev_ (v := strV (([116, 105, 99, 107, 32] : List UInt8))) rfl) (hS.ev_ rfl) (req_some h24)) fun a hS => ?_
        refine st_val hS rfl rfl (by decide) (r_assign rfl (hS.ev_ rfl)) fun a hS => ?_
        refine st_done ?_
        replace hS : Slots 45 [] a [(2, strV (([116, 105, 99, 107, 32] : List UInt8) ++ y20)), (1, Value.pointer (some ⟨g6, 0, none⟩))] := (hS.part (.cons rfl (.cons rfl (.nil _))))
        refine x_then ?_
        refine wp_ret ?_
        refine x_block_ret ?_
        refine x_then_ret ?_
        have hr' := Option.some.inj h
        subst hr'
        refine ret1 (.inr rfl) hS rfl rfl ?_
        exact ⟨K22, (hlK10.trans hlK22), (hM).tail, rfl⟩
      · refine c_cond_false (hS.ev_ rfl) hc19 ?_
        refine wp_seq ?_
        refine wp_region_lit ?_
        refine st_val hS rfl rfl (by decide) (r_fld_b rfl fo_25_0 (hS.ev_ rfl)) fun a hS => ?_
        refine st_val hS rfl rfl (by decide) (r_ld1_b rfl ag_3 (hS.ev_ rfl) rfl (Rd.of hM)) fun a hS => ?_
        refine st_val hS rfl rfl (by decide) (r_cmp rfl (hS.ev_ rfl) (hS.ev_ rfl) rfl) fun a hS => ?_
        refine st_val hS rfl rfl (by decide) (r_assign rfl (hS.ev_ rfl)) fun a hS => ?_
        refine st_done ?_
        replace hS : Slots 45 [] a [(23, Value.bool (p1.f_Kind == 4)), (2, strV (([] : List UInt8))), (1, Value.pointer (some ⟨g6, 0, none⟩))] := (hS.part (.cons rfl (.cons rfl (.cons rfl (.nil _)))))
        refine x_then ?_
        rcases ifB h with ⟨hc25, h⟩ | ⟨hc25, h⟩
        · refine c_cond_true (hS.ev_ rfl) hc25 ?_
          refine wp_seq ?_
          refine wp_region_lit ?_
          refine st_val hS rfl rfl (by decide) (r_assign rfl (hS.ev_ (v := strV (([99, 108, 111, 115, 101] : List UInt8))) rfl)) fun a hS => ?_
          refine st_done ?_
          replace hS : Slots 45 [] a [(2, strV (([99, 108, 111, 115, 101] : List UInt8))), (1, Value.pointer (some ⟨g6, 0, none⟩))] := (hS.part (.cons rfl (.cons rfl (.nil _))))
          refine x_then ?_
          refine wp_ret ?_
          refine x_block_ret ?_
          refine x_then_ret ?_
          have hr' := Option.some.inj h
          subst hr'
          refine ret1 (.inr rfl) hS rfl rfl ?_
          exact ⟨K10, hlK10, (hM).tail, rfl⟩
        · refine c_cond_false (hS.ev_ rfl) hc25 ?_
          refine wp_seq ?_
          refine wp_region_lit ?_
          refine st_val hS rfl rfl (by decide) (r_fld_b rfl fo_25_3 (hS.ev_ rfl)) fun a hS => ?_
          refine st_val hS rfl rfl (by decide) (r_ld1_b rfl ag_23 (hS.ev_ rfl) rfl (Rd.of hM)) fun a hS => ?_
          refine st_val hS rfl rfl (by decide) (r_len_sl rfl un_23 (hS.ev_ rfl) f5) fun a hS => ?_
          refine st_val hS rfl rfl (by decide) (r_cmp rfl (hS.ev_ rfl) (hS.ev_ rfl) rfl) fun a hS => ?_
          refine st_val hS rfl rfl (by decide) (r_assign rfl (hS.ev_ rfl)) fun a hS => ?_
          refine st_done ?_
          replace hS : Slots 45 [] a [(27, Value.bool (((p1.f_Marks.length : Int)) == 0)), (2, strV (([] : List UInt8))), (1, Value.pointer (some ⟨g6, 0, none⟩))] := (hS.part (.cons rfl (.cons rfl (.cons rfl (.nil _)))))
          refine x_then ?_
          rcases ifB h with ⟨hc26, h⟩ | ⟨hc26, h⟩
          · refine c_cond_true (hS.ev_ rfl) hc26 ?_
            refine wp_seq ?_
            refine wp_region_lit ?_
            refine st_val hS rfl rfl (by decide) (r_fld_b rfl fo_25_2 (hS.ev_ rfl)) fun a hS => ?_
            refine st_val hS rfl rfl (by decide) (r_ld1_b rfl ag_22 (hS.ev_ rfl) rfl (Rd.of hM)) fun a hS => ?_
            obtain ⟨y27, h28, h⟩ := bindO h
            have hc30 := raw_told_c hG h28 (Kd.sl_mono hlK10 f3) hM
            refine wl_cons rfl (e_call rfl Tryd.func26 rfl rfl (args1 (hS.ev_ rfl)) hc30 ?_)
            rintro _ w ⟨K29, hlK29, hM, rfl⟩
            refine ⟨_, rfl, ?_⟩
            refine pl hS rfl (by decide) fun a hS => ?_
            obtain ⟨h31, h⟩ := bindU h
            refine st_val hS rfl rfl (by decide) (r_sadd rfl (hS.ev_ (v := strV (([98, 121, 116, 101, 115, 32] : List UInt8))) rfl) (hS.ev_ rfl) (req_some h31)) fun a hS => ?_
            refine st_val hS rfl rfl (by decide) (r_assign rfl (hS.ev_ rfl)) fun a hS => ?_
            refine st_done ?_
            replace hS : Slots 45 [] a [(2, strV (([98, 121, 116, 101, 115, 32] : List UInt8) ++ y27)), (1, Value.pointer (some ⟨g6, 0, none⟩))] := (hS.part (.cons rfl (.cons rfl (.nil _))))
            refine x_then ?_
            refine wp_ret ?_
            refine x_block_ret ?_
            refine x_then_ret ?_
            have hr' := Option.some.inj h
            subst hr'
            refine ret1 (.inr rfl) hS rfl rfl ?_
            exact ⟨K29, (hlK10.trans hlK29), (hM).tail, rfl⟩
          · refine c_cond_false (hS.ev_ rfl) hc26 ?_
            refine wp_skip ?_
            refine x_block ?_
            refine x_then ?_
            refine wp_seq ?_
            refine tk_start #[false, false, false, false, false, false, false, false, false, false] mixed_ rfl rfl ?_
            replace hM := hM.drew
            generalize w.drew = w at hM ⊢
            refine dk_any (i := 0) #[true, false, false, false, false, false, false, false, false, false] hS rfl (by kernel_rfl) rfl rfl (by decide) (fun w => r_fld_b rfl fo_25_2 (hS.ev_ rfl)) fun a hS => ?_
            refine dk_val (i := 1) (S := Rd w0 K10 [SP.blk g6 25 [Value.int .i64 (p1.f_Kind), Value.int .i64 (p1.f_N), v2, v4]]) #[true, true, false, false, false, false, false, false, false, false] hS rfl (by kernel_rfl) rfl rfl (by decide) (Rd.of hM.only) (fun w hR => r_ld1_b rfl ag_22 (hS.ev_ rfl) rfl hR) fun a hS => ?_
            refine dk_any (i := 5) #[true, true, false, false, false, true, false, false, false, false] hS rfl (by kernel_rfl) rfl rfl (by decide) (fun w => r_fld_b rfl fo_25_3 (hS.ev_ rfl)) fun a hS => ?_
            refine dk_val (i := 6) (S := Rd w0 K10 [SP.blk g6 25 [Value.int .i64 (p1.f_Kind), Value.int .i64 (p1.f_N), v2, v4]]) #[true, true, false, false, false, true, true, false, false, false] hS rfl (by kernel_rfl) rfl rfl (by decide) (Rd.of hM.only) (fun w hR => r_ld1_b rfl ag_23 (hS.ev_ rfl) rfl hR) fun a hS => ?_
            obtain ⟨y32, h33, h⟩ := bindO h
            have hc35 := raw_told_c hG h33 (Kd.sl_mono hlK10 f3) hM
            refine dk_one (i := 2) #[true, true, true, false, false, true, true, false, false, false] rfl (by kernel_rfl) rfl (e_call rfl Tryd.func26 rfl rfl (args1 (hS.ev_ rfl)) hc35 ?_)
            rintro _ w ⟨K34, hlK34, hM, rfl⟩
            refine ⟨_, rfl, ?_⟩
            refine pT hS rfl (by decide) (Dem.keep (fun _ => Rd.up hlK34 hM.only) (Dem.wait (by kernel_rfl) Dem.nil)) fun a hS => ?_
            obtain ⟨h36, h⟩ := bindU h
            refine dk_any (i := 3) #[true, true, true, true, false, true, true, false, false, false] hS rfl (by kernel_rfl) rfl rfl (by decide) (fun w => r_sadd rfl (hS.ev_ (v := strV (([98, 121, 116, 101, 115, 32] : List UInt8))) rfl) (hS.ev_ rfl) (req_some h36)) fun a hS => ?_
            obtain ⟨h37, h⟩ := bindU h
            refine dk_any (i := 4) #[true, true, true, true, true, true, true, false, false, false] hS rfl (by kernel_rfl) rfl rfl (by decide) (fun w => r_sadd rfl (hS.ev_ rfl) (hS.ev_ (v := strV (([32, 109, 97, 114, 107, 115, 32] : List UInt8))) rfl) (req_some h37)) fun a hS => ?_
            obtain ⟨y38, h39, h⟩ := bindO h
            have hc41 := raw_places_c hG h39 (Kd.sl_mono (hlK10.trans hlK34) f5) hM
            refine dk_one (i := 7) #[true, true, true, true, true, true, true, true, false, false] rfl (by kernel_rfl) rfl (e_call rfl Tryd.func27 rfl rfl (args1 (hS.ev_ rfl)) hc41 ?_)
            rintro _ w ⟨K40, hlK40, hM, rfl⟩
            refine ⟨_, rfl, ?_⟩
            refine pT hS rfl (by decide) (Dem.wait (by kernel_rfl) (Dem.wait (by kernel_rfl) Dem.nil)) fun a hS => ?_
            obtain ⟨h42, h⟩ := bindU h
            refine dk_any (i := 8) #[true, true, true, true, true, true, true, true, true, false] hS rfl (by kernel_rfl) rfl rfl (by decide) (fun w => r_sadd rfl (hS.ev_ rfl) (hS.ev_ rfl) (req_some h42)) fun a hS => ?_
            refine dk_any (i := 9) #[true, true, true, true, true, true, true, true, true, true] hS rfl (by kernel_rfl) rfl rfl (by decide) (fun w => r_assign rfl (hS.ev_ rfl)) fun a hS => ?_
            refine tk_done (by kernel_rfl) ?_
            replace hS : Slots 45 [] a [(2, strV (((([98, 121, 116, 101, 115, 32] : List UInt8) ++ y32) ++ ([32, 109, 97, 114, 107, 115, 32] : List UInt8)) ++ y38))] := (hS.part (.cons rfl (.nil _)))
            refine x_then ?_
            refine wp_ret ?_
            have hr' := Option.some.inj h
            subst hr'
            refine ret1 (.inr rfl) hS rfl rfl ?_
            exact ⟨K40, ((hlK10.trans hlK34).trans hlK40), (hM).tail, rfl⟩

theorem Law_alive_c {w0 w : World} {K : Hp} {L : List SP} {r : Bool} (hG : Glob w0) (h : Law_alive = some r) (hM : Sat w0 w K (L)) :
    Calls Tryd.prog 7 #[] w (fun e w' => ∃ (K' : Hp), Hp.le K K' ∧ Sat w0 w' K' (L) ∧ e = .returned (Value.bool (r))) := by
  refine enter_ (n := 31) (args := []) Tryd.func7 rfl rfl (Nat.le_of_ble_eq_true rfl) fun a hS => ?_
  replace hS : Slots 31 [] a [] := hS
  unfold Law_alive at h
  refine wp_seq ?_
  refine wp_region_lit ?_
  refine st_val hS rfl rfl (by decide) (r_assign rfl (hS.ev_ rfl)) fun a hS => ?_
  refine st_done ?_
  replace hS : Slots 31 [] a [(0, Value.bool (false))] := (hS.part (.cons rfl (.nil _)))
  refine x_then ?_
  refine wp_seq ?_
  refine wp_region_lit ?_
  obtain ⟨y1, h2, h⟩ := bindO h
  have hc4 := raw_Parse_c hG h2 hM
  refine wl_cons rfl (e_call rfl Tryd.func9 rfl rfl (args1 (hS.ev_ (v := strV (([98, 121, 116, 101, 115, 32, 54, 49, 54, 50, 32, 109, 97, 114, 107, 115, 32, 49] : List UInt8))) rfl)) hc4 ?_)
  rintro _ w ⟨K3, v5, v7, hlK3, hM, rfl, f6, f8⟩
  refine ⟨_, rfl, ?_⟩
  refine pl hS rfl (by decide) fun a hS => ?_
  refine st_val hS rfl rfl (by decide) (r_move rfl (hS.ev_ rfl)) fun a hS => ?_
  refine st_val hS rfl rfl (by decide) (r_extract rfl (hS.ev_ rfl) rfl) fun a hS => ?_
  refine st_val hS rfl rfl (by decide) (r_extract rfl (hS.ev_ rfl) rfl) fun a hS => ?_
  refine wl_cons rfl (e_alloc (cs := [Value.int .i64 (0), Value.int .i64 (0), Value.slice none 0 0, Value.slice none 0 0]) hM rfl ti_25 rfl fun g9 w hM => ?_)
  refine pl hS rfl (by decide) fun a hS => ?_
  refine wl_cons rfl (e_storeN (vs := [Value.int .i64 (y1.1.f_Kind), Value.int .i64 (y1.1.f_N), v5, v7]) hM rfl ti_25 (hS.ev_ rfl) (hS.ev_ rfl) (ones_cons rfl (ones_cons rfl (ones_cons (sl_one f6) (ones_cons (sl_one f8) ones_nil)))) (Nat.le_of_ble_eq_true rfl) fun w hM => ?_)
  have hM : Sat w0 w K3 (SP.blk g9 25 [Value.int .i64 (y1.1.f_Kind), Value.int .i64 (y1.1.f_N), v5, v7] :: L) := hM
  refine pl0 hS rfl fun a hS => ?_
  refine st_val hS rfl rfl (by decide) (r_assign rfl (hS.ev_ rfl)) fun a hS => ?_
  refine st_done ?_
  replace hS : Slots 31 [] a [(2, eV w0 y1.2), (1, Value.pointer (some ⟨g9, 0, none⟩)), (0, Value.bool (false))] := (hS.part (.cons rfl (.cons rfl (.cons rfl (.nil _)))))
  refine x_then ?_
  refine wp_seq ?_
  refine wp_region_lit ?_
  refine st_val hS rfl rfl (by decide) (r_move rfl (hS.ev_ rfl)) fun a hS => ?_
  refine st_val hS rfl rfl (by decide) (r_errnil rfl if_29 (hS.ev_ (v := eV w0 y1.2) rfl)) fun a hS => ?_
  refine st_val hS rfl rfl (by decide) (r_move rfl (hS.ev_ rfl)) fun a hS => ?_
  obtain ⟨x11, h12, h⟩ := bindO h
  refine wl_cut 4 (fun a w => Slots 31 [] a [(0, Value.bool (false)), (1, Value.pointer (some ⟨g9, 0, none⟩)), (13, Value.bool (x11))] ∧ Sat w0 w K3 (SP.blk g9 25 [Value.int .i64 (y1.1.f_Kind), Value.int .i64 (y1.1.f_N), v5, v7] :: L)) ?_ ?_
  ·
    skip
    rcases ifB h12 with ⟨hc13, h12⟩ | ⟨hc13, h12⟩
    ·
      replace hS := hS.known (k := 9) rfl hc13
      refine st_want hS rfl rfl rfl rfl rfl (by decide) (r_fld_b rfl fo_25_0 (hS.ev_ rfl)) fun a hS => ?_
      refine st_want hS rfl rfl rfl rfl rfl (by decide) (r_ld1_b rfl ag_3 (hS.ev_ rfl) rfl (Rd.of hM)) fun a hS => ?_
      refine st_want hS rfl rfl rfl rfl rfl (by decide) (r_cmp rfl (hS.ev_ rfl) (hS.ev_ rfl) rfl) fun a hS => ?_
      refine st_val hS rfl rfl (by decide) (r_pick_true rfl (hS.ev_ rfl) rfl (hS.ev_ rfl)) fun a hS => ?_
      refine st_done ?_
      replace hS : Slots 31 [] a [(13, Value.bool (y1.1.f_Kind == 1)), (1, Value.pointer (some ⟨g9, 0, none⟩)), (0, Value.bool (false))] := (hS.part (.cons rfl (.cons rfl (.cons rfl (.nil _)))))
      refine x_then ?_
      obtain rfl := Option.some.inj h12
      exact ⟨(hS.part (.cons rfl (.cons rfl (.cons rfl (.nil _))))), hM⟩
    ·
      replace hS := hS.known (k := 9) rfl hc13
      refine st_off hS rfl rfl rfl rfl rfl rfl (by decide) fun a hS => ?_
      refine st_off hS rfl rfl rfl rfl rfl rfl (by decide) fun a hS => ?_
      refine st_off hS rfl rfl rfl rfl rfl rfl (by decide) fun a hS => ?_
      refine st_val hS rfl rfl (by decide) (r_pick_false rfl (hS.ev_ rfl) rfl (hS.ev_ rfl)) fun a hS => ?_
      refine st_done ?_
      replace hS : Slots 31 [] a [(13, Value.bool (false)), (1, Value.pointer (some ⟨g9, 0, none⟩)), (0, Value.bool (false))] := (hS.part (.cons rfl (.cons rfl (.cons rfl (.nil _)))))
      refine x_then ?_
      obtain rfl := Option.some.inj h12
      exact ⟨(hS.part (.cons rfl (.cons rfl (.cons rfl (.nil _))))), hM⟩
  · rintro a w ⟨hS, hM⟩
    refine st_val hS rfl rfl (by decide) (r_move rfl (hS.ev_ rfl)) fun a hS => ?_
    obtain ⟨x14, h15, h⟩ := bindO h
    refine wl_cut 5 (fun a w => Slots 31 [] a [(0, Value.bool (false)), (1, Value.pointer (some ⟨g9, 0, none⟩)), (19, Value.bool (x14))] ∧ Sat w0 w K3 (SP.blk g9 25 [Value.int .i64 (y1.1.f_Kind), Value.int .i64 (y1.1.f_N), v5, v7] :: L)) ?_ ?_
    ·
      skip
      rcases ifB h15 with ⟨hc16, h15⟩ | ⟨hc16, h15⟩
      ·
        replace hS := hS.known (k := 14) rfl hc16
        refine st_want hS rfl rfl rfl rfl rfl (by decide) (r_fld_b rfl fo_25_2 (hS.ev_ rfl)) fun a hS => ?_
        refine st_want hS rfl rfl rfl rfl rfl (by decide) (r_ld1_b rfl ag_22 (hS.ev_ rfl) rfl (Rd.of hM)) fun a hS => ?_
        refine st_want hS rfl rfl rfl rfl rfl (by decide) (r_stringR rfl un_22 un_5 un_9 (hS.ev_ rfl) (Rd.of hM.nil_) f6) fun a hS => ?_
        refine st_want hS rfl rfl rfl rfl rfl (by decide) (r_seq rfl (hS.ev_ rfl) (hS.ev_ (v := strV (([97, 98] : List UInt8))) rfl)) fun a hS => ?_
        refine st_val hS rfl rfl (by decide) (r_pick_true rfl (hS.ev_ rfl) rfl (hS.ev_ rfl)) fun a hS => ?_
        refine st_done ?_
        replace hS : Slots 31 [] a [(19, Value.bool (y1.1.f_Bytes == ([97, 98] : List UInt8))), (0, Value.bool (false)), (1, Value.pointer (some ⟨g9, 0, none⟩))] := (hS.part (.cons rfl (.cons rfl (.cons rfl (.nil _)))))
        refine x_then ?_
        obtain rfl := Option.some.inj h15
        exact ⟨(hS.part (.cons rfl (.cons rfl (.cons rfl (.nil _))))), hM⟩
      ·
        replace hS := hS.known (k := 14) rfl hc16
        refine st_off hS rfl rfl rfl rfl rfl rfl (by decide) fun a hS => ?_
        refine st_off hS rfl rfl rfl rfl rfl rfl (by decide) fun a hS => ?_
        refine st_off hS rfl rfl rfl rfl rfl rfl (by decide) fun a hS => ?_
        refine st_off hS rfl rfl rfl rfl rfl rfl (by decide) fun a hS => ?_
        refine st_val hS rfl rfl (by decide) (r_pick_false rfl (hS.ev_ rfl) rfl (hS.ev_ rfl)) fun a hS => ?_
        refine st_done ?_
        replace hS : Slots 31 [] a [(19, Value.bool (false)), (0, Value.bool (false)), (1, Value.pointer (some ⟨g9, 0, none⟩))] := (hS.part (.cons rfl (.cons rfl (.cons rfl (.nil _)))))
        refine x_then ?_
        obtain rfl := Option.some.inj h15
        exact ⟨(hS.part (.cons rfl (.cons rfl (.cons rfl (.nil _))))), hM⟩
    · rintro a w ⟨hS, hM⟩
      refine st_val hS rfl rfl (by decide) (r_move rfl (hS.ev_ rfl)) fun a hS => ?_
      obtain ⟨x18, h19, h⟩ := bindO h
      refine wl_cut 5 (fun a w => ∃ (K17 : Hp), Hp.le K3 K17 ∧ Slots 31 [] a [(0, Value.bool (false)), (1, Value.pointer (some ⟨g9, 0, none⟩)), (25, Value.bool (x18))] ∧ Sat w0 w K17 (SP.blk g9 25 [Value.int .i64 (y1.1.f_Kind), Value.int .i64 (y1.1.f_N), v5, v7] :: L)) ?_ ?_
      ·
        skip
        rcases ifB h19 with ⟨hc20, h19⟩ | ⟨hc20, h19⟩
        ·
          replace hS := hS.known (k := 20) rfl hc20
          refine st_want hS rfl rfl rfl rfl rfl (by decide) (r_fld_b rfl fo_25_3 (hS.ev_ rfl)) fun a hS => ?_
          refine st_want hS rfl rfl rfl rfl rfl (by decide) (r_ld1_b rfl ag_23 (hS.ev_ rfl) rfl (Rd.of hM)) fun a hS => ?_
          refine g_want hS rfl rfl rfl rfl (e_litK (d := (Kd.int .i64)) (e := 3) (cs := [Value.int .i64 (1)]) (xs := ([1] : List Int)) hM rfl (parts_ev hS rfl) (by kernel_rfl) ⟨[Value.int .i64 (1)], [], rfl, rfl, rfl⟩ rfl (by decide) fun v21 K22 w hlK22 hM f23 => ?_)
          refine pl hS rfl (by decide) fun a hS => ?_
          obtain ⟨y24, h25, h19⟩ := bindO h19
          have hc27 := Num_SameInts_c hG h25 (Kd.sl_mono hlK22 f8) f23 hM
          refine g_want hS rfl rfl rfl rfl (e_call rfl Tryd.func21 rfl rfl (args2 (hS.ev_ rfl) (hS.ev_ rfl)) hc27 ?_)
          rintro _ w ⟨K26, hlK26, hM, rfl⟩
          refine ⟨_, rfl, ?_⟩
          refine pl hS rfl (by decide) fun a hS => ?_
          refine st_val hS rfl rfl (by decide) (r_pick_true rfl (hS.ev_ rfl) rfl (hS.ev_ rfl)) fun a hS => ?_
          refine st_done ?_
          replace hS : Slots 31 [] a [(25, Value.bool (y24)), (0, Value.bool (false)), (1, Value.pointer (some ⟨g9, 0, none⟩))] := (hS.part (.cons rfl (.cons rfl (.cons rfl (.nil _)))))
          refine x_then ?_
          obtain rfl := Option.some.inj h19
          exact ⟨K26, (hlK22.trans hlK26), (hS.part (.cons rfl (.cons rfl (.cons rfl (.nil _))))), hM⟩
        ·
          replace hS := hS.known (k := 20) rfl hc20
          refine st_off hS rfl rfl rfl rfl rfl rfl (by decide) fun a hS => ?_
          refine st_off hS rfl rfl rfl rfl rfl rfl (by decide) fun a hS => ?_
          refine st_off hS rfl rfl rfl rfl rfl rfl (by decide) fun a hS => ?_
          refine st_off hS rfl rfl rfl rfl rfl rfl (by decide) fun a hS => ?_
          refine st_val hS rfl rfl (by decide) (r_pick_false rfl (hS.ev_ rfl) rfl (hS.ev_ rfl)) fun a hS => ?_
          refine st_done ?_
          replace hS : Slots 31 [] a [(25, Value.bool (false)), (0, Value.bool (false)), (1, Value.pointer (some ⟨g9, 0, none⟩))] := (hS.part (.cons rfl (.cons rfl (.cons rfl (.nil _)))))
          refine x_then ?_
          obtain rfl := Option.some.inj h19
          exact ⟨K3, (Hp.le.refl _), (hS.part (.cons rfl (.cons rfl (.cons rfl (.nil _))))), hM⟩
      · rintro a w ⟨K17, hlK17, hS, hM⟩
        refine st_val hS rfl rfl (by decide) (r_move rfl (hS.ev_ rfl)) fun a hS => ?_
        obtain ⟨x29, h30, h⟩ := bindO h
        refine wl_cut 4 (fun a w => ∃ (K28 : Hp), Hp.le K17 K28 ∧ Slots 31 [] a [(0, Value.bool (false)), (30, Value.bool (x29))] ∧ Sat w0 w K28 (SP.blk g9 25 [Value.int .i64 (y1.1.f_Kind), Value.int .i64 (y1.1.f_N), v5, v7] :: L)) ?_ ?_
        ·
          skip
          rcases ifB h30 with ⟨hc31, h30⟩ | ⟨hc31, h30⟩
          ·
            replace hS := hS.known (k := 26) rfl hc31
            refine st_want hS rfl rfl rfl rfl rfl (by decide) (r_ldN_b (cs' := [Value.int .i64 (y1.1.f_Kind), Value.int .i64 (y1.1.f_N), v5, v7]) rfl ag_25 ti_25 (hS.ev_ rfl) rfl (Rd.of hM)) fun a hS => ?_
            obtain ⟨y32, h33, h30⟩ := bindO h30
            have hc35 := raw_Line_c hG h33 (Kd.sl_mono hlK17 f6) (Kd.sl_mono hlK17 f8) hM
            refine g_want hS rfl rfl rfl rfl (e_call rfl Tryd.func11 rfl rfl (args1 (hS.ev_ rfl)) hc35 ?_)
            rintro _ w ⟨K34, hlK34, hM, rfl⟩
            refine ⟨_, rfl, ?_⟩
            refine pl hS rfl (by decide) fun a hS => ?_
            refine st_want hS rfl rfl rfl rfl rfl (by decide) (r_seq rfl (hS.ev_ rfl) (hS.ev_ (v := strV (([98, 121, 116, 101, 115, 32, 54, 49, 54, 50, 32, 109, 97, 114, 107, 115, 32, 49] : List UInt8))) rfl)) fun a hS => ?_
            refine st_val hS rfl rfl (by decide) (r_pick_true rfl (hS.ev_ rfl) rfl (hS.ev_ rfl)) fun a hS => ?_
            refine st_done ?_
            replace hS : Slots 31 [] a [(30, Value.bool (y32 == ([98, 121, 116, 101, 115, 32, 54, 49, 54, 50, 32, 109, 97, 114, 107, 115, 32, 49] : List UInt8))), (0, Value.bool (false))] := (hS.part (.cons rfl (.cons rfl (.nil _))))
            refine x_then ?_
            obtain rfl := Option.some.inj h30
            exact ⟨K34, hlK34, (hS.part (.cons rfl (.cons rfl (.nil _)))), hM⟩
          ·
            replace hS := hS.known (k := 26) rfl hc31
            refine st_off hS rfl rfl rfl rfl rfl rfl (by decide) fun a hS => ?_
            refine st_off hS rfl rfl rfl rfl rfl rfl (by decide) fun a hS => ?_
            refine st_off hS rfl rfl rfl rfl rfl rfl (by decide) fun a hS => ?_
            refine st_val hS rfl rfl (by decide) (r_pick_false rfl (hS.ev_ rfl) rfl (hS.ev_ rfl)) fun a hS => ?_
            refine st_done ?_
            replace hS : Slots 31 [] a [(30, Value.bool (false)), (0, Value.bool (false))] := (hS.part (.cons rfl (.cons rfl (.nil _))))
            refine x_then ?_
            obtain rfl := Option.some.inj h30
            exact ⟨K17, (Hp.le.refl _), (hS.part (.cons rfl (.cons rfl (.nil _)))), hM⟩
        · rintro a w ⟨K28, hlK28, hS, hM⟩
          refine st_val hS rfl rfl (by decide) (r_assign rfl (hS.ev_ rfl)) fun a hS => ?_
          refine st_done ?_
          replace hS : Slots 31 [] a [(0, Value.bool (x29))] := (hS.part (.cons rfl (.nil _)))
          refine x_then ?_
          refine wp_ret ?_
          have hr' := Option.some.inj h
          subst hr'
          refine ret1 (.inr rfl) hS rfl rfl ?_
          exact ⟨K28, ((hlK3.trans hlK17).trans hlK28), (hM).tail, rfl⟩

theorem Law_long_c {w0 w : World} {K : Hp} {L : List SP} {p1 : raw_Event} {v2 : Value} {v4 : Value} {r : Bool} (hG : Glob w0) (h : Law_long p1 = some r) (f3 : Kd.u8.sl K v2 p1.f_Bytes) (f5 : (Kd.int .i64).sl K v4 p1.f_Marks) (hM : Sat w0 w K (L)) :
    Calls Tryd.prog 8 #[Value.agg #[Value.int .i64 (p1.f_Kind), Value.int .i64 (p1.f_N), v2, v4]] w (fun e w' => ∃ (K' : Hp), Hp.le K K' ∧ Sat w0 w' K' (L) ∧ e = .returned (Value.bool (r))) := by
  refine enter_ (n := 13) (args := [Value.agg #[Value.int .i64 (p1.f_Kind), Value.int .i64 (p1.f_N), v2, v4]]) Tryd.func8 rfl rfl (Nat.le_of_ble_eq_true rfl) fun a hS => ?_
  replace hS : Slots 13 [] a [(0, Value.agg #[Value.int .i64 (p1.f_Kind), Value.int .i64 (p1.f_N), v2, v4])] := hS
  unfold Law_long at h
  refine wp_seq ?_
  refine wp_region_lit ?_
  refine wl_cons rfl (e_box (cs := [Value.int .i64 (p1.f_Kind), Value.int .i64 (p1.f_N), v2, v4]) hM rfl (hS.ev_ rfl) rfl fun g6 w hM => ?_)
  refine pl hS rfl (by decide) fun a hS => ?_
  refine st_val hS rfl rfl (by decide) (r_assign rfl (hS.ev_ rfl)) fun a hS => ?_
  refine st_done ?_
  replace hS : Slots 13 [] a [(2, Value.bool (false)), (1, Value.pointer (some ⟨g6, 0, none⟩))] := (hS.part (.cons rfl (.cons rfl (.nil _))))
  refine x_then ?_
  refine wp_seq ?_
  refine wp_region_lit ?_
  refine st_val hS rfl rfl (by decide) (r_fld_b rfl fo_25_2 (hS.ev_ rfl)) fun a hS => ?_
  refine st_val hS rfl rfl (by decide) (r_ld1_b rfl ag_22 (hS.ev_ rfl) rfl (Rd.of hM)) fun a hS => ?_
  refine st_val hS rfl rfl (by decide) (r_len_sl rfl un_22 (hS.ev_ rfl) f3) fun a hS => ?_
  refine st_val hS rfl rfl (by decide) (r_cmp rfl (hS.ev_ rfl) (hS.ev_ rfl) rfl) fun a hS => ?_
  refine st_val hS rfl rfl (by decide) (r_move rfl (hS.ev_ rfl)) fun a hS => ?_
  obtain ⟨x8, h9, h⟩ := bindO h
  refine wl_cut 5 (fun a w => Slots 13 [] a [(2, Value.bool (false)), (12, Value.bool (x8))] ∧ Sat w0 w K (SP.blk g6 25 [Value.int .i64 (p1.f_Kind), Value.int .i64 (p1.f_N), v2, v4] :: L)) ?_ ?_
  ·
    skip
    rcases ifB h9 with ⟨hc10, h9⟩ | ⟨hc10, h9⟩
    ·
      replace hS := hS.known (k := 7) rfl hc10
      refine st_off hS rfl rfl rfl rfl rfl rfl (by decide) fun a hS => ?_
      refine st_off hS rfl rfl rfl rfl rfl rfl (by decide) fun a hS => ?_
      refine st_off hS rfl rfl rfl rfl rfl rfl (by decide) fun a hS => ?_
      refine st_off hS rfl rfl rfl rfl rfl rfl (by decide) fun a hS => ?_
      refine st_val hS rfl rfl (by decide) (r_pick_true rfl (hS.ev_ rfl) rfl (hS.ev_ rfl)) fun a hS => ?_
      refine st_done ?_
      replace hS : Slots 13 [] a [(12, Value.bool (true)), (2, Value.bool (false))] := (hS.part (.cons rfl (.cons rfl (.nil _))))
      refine x_then ?_
      obtain rfl := Option.some.inj h9
      exact ⟨(hS.part (.cons rfl (.cons rfl (.nil _)))), hM⟩
    ·
      replace hS := hS.known (k := 7) rfl hc10
      refine st_want hS rfl rfl rfl rfl rfl (by decide) (r_fld_b rfl fo_25_3 (hS.ev_ rfl)) fun a hS => ?_
      refine st_want hS rfl rfl rfl rfl rfl (by decide) (r_ld1_b rfl ag_23 (hS.ev_ rfl) rfl (Rd.of hM)) fun a hS => ?_
      refine st_want hS rfl rfl rfl rfl rfl (by decide) (r_len_sl rfl un_23 (hS.ev_ rfl) f5) fun a hS => ?_
      refine st_want hS rfl rfl rfl rfl rfl (by decide) (r_cmp rfl (hS.ev_ rfl) (hS.ev_ rfl) rfl) fun a hS => ?_
      refine st_val hS rfl rfl (by decide) (r_pick_false rfl (hS.ev_ rfl) rfl (hS.ev_ rfl)) fun a hS => ?_
      refine st_done ?_
      replace hS : Slots 13 [] a [(12, Value.bool (decide (((p1.f_Marks.length : Int)) > 200))), (2, Value.bool (false))] := (hS.part (.cons rfl (.cons rfl (.nil _))))
      refine x_then ?_
      obtain rfl := Option.some.inj h9
      exact ⟨(hS.part (.cons rfl (.cons rfl (.nil _)))), hM⟩
  · rintro a w ⟨hS, hM⟩
    refine st_val hS rfl rfl (by decide) (r_assign rfl (hS.ev_ rfl)) fun a hS => ?_
    refine st_done ?_
    replace hS : Slots 13 [] a [(2, Value.bool (x8))] := (hS.part (.cons rfl (.nil _)))
    refine x_then ?_
    refine wp_ret ?_
    have hr' := Option.some.inj h
    subst hr'
    refine ret1 (.inr rfl) hS rfl rfl ?_
    exact ⟨K, (Hp.le.refl _), (hM).tail, rfl⟩

theorem Law_Of_c {w0 w : World} {K : Hp} {L : List SP} {p1 : raw_Event} {v2 : Value} {v4 : Value} {r : R_Event} (hG : Glob w0) (h : Law_Of p1 = some r) (f3 : Kd.u8.sl K v2 p1.f_Bytes) (f5 : (Kd.int .i64).sl K v4 p1.f_Marks) (hM : Sat w0 w K (L)) :
    Calls Tryd.prog 13 #[Value.agg #[Value.int .i64 (p1.f_Kind), Value.int .i64 (p1.f_N), v2, v4]] w (fun e w' => ∃ (K' : Hp) (v'1 : Value), Hp.le K K' ∧ Sat w0 w' K' (L) ∧ e = .returned (Value.agg #[Value.int .i64 (r.f_Kind), Value.int .i64 (r.f_N), strV (r.f_Bytes), v'1]) ∧ (Kd.int .i64).sl K' v'1 r.f_Marks) := by
  refine enter_ (n := 13) (args := [Value.agg #[Value.int .i64 (p1.f_Kind), Value.int .i64 (p1.f_N), v2, v4]]) Tryd.func13 rfl rfl (Nat.le_of_ble_eq_true rfl) fun a hS => ?_
  replace hS : Slots 13 [] a [(0, Value.agg #[Value.int .i64 (p1.f_Kind), Value.int .i64 (p1.f_N), v2, v4])] := hS
  unfold Law_Of at h
  refine wp_seq ?_
  refine wp_region_lit ?_
  refine wl_cons rfl (e_box (cs := [Value.int .i64 (p1.f_Kind), Value.int .i64 (p1.f_N), v2, v4]) hM rfl (hS.ev_ rfl) rfl fun g6 w hM => ?_)
  refine pl hS rfl (by decide) fun a hS => ?_
  refine wl_cons rfl (e_alloc (cs := [Value.int .i64 (0), Value.int .i64 (0), strV (([] : List UInt8)), Value.slice none 0 0]) hM rfl ti_36 rfl fun g8 w hM => ?_)
  refine pl hS rfl (by decide) fun a hS => ?_
  refine st_done ?_
  replace hS : Slots 13 [] a [(2, Value.pointer (some ⟨g8, 0, none⟩)), (1, Value.pointer (some ⟨g6, 0, none⟩))] := (hS.part (.cons rfl (.cons rfl (.nil _))))
  refine x_then ?_
  refine wp_seq ?_
  refine wp_region_lit ?_
  refine st_val hS rfl rfl (by decide) (r_fld_b rfl fo_25_0 (hS.ev_ rfl)) fun a hS => ?_
  replace hM := hM.pull 1 rfl rfl
  refine st_val hS rfl rfl (by decide) (r_ld1_b rfl ag_3 (hS.ev_ rfl) rfl (Rd.of hM)) fun a hS => ?_
  refine st_val hS rfl rfl (by decide) (r_fld_b rfl fo_25_1 (hS.ev_ rfl)) fun a hS => ?_
  refine st_val hS rfl rfl (by decide) (r_ld1_b rfl ag_3 (hS.ev_ rfl) rfl (Rd.of hM)) fun a hS => ?_
  refine st_val hS rfl rfl (by decide) (r_fld_b rfl fo_25_2 (hS.ev_ rfl)) fun a hS => ?_
  refine st_val hS rfl rfl (by decide) (r_ld1_b rfl ag_22 (hS.ev_ rfl) rfl (Rd.of hM)) fun a hS => ?_
  refine st_val hS rfl rfl (by decide) (r_stringR rfl un_22 un_5 un_9 (hS.ev_ rfl) (Rd.of hM.nil_) f3) fun a hS => ?_
  refine st_val hS rfl rfl (by decide) (r_fld_b rfl fo_25_3 (hS.ev_ rfl)) fun a hS => ?_
  refine st_val hS rfl rfl (by decide) (r_ld1_b rfl ag_23 (hS.ev_ rfl) rfl (Rd.of hM)) fun a hS => ?_
  refine st_val hS rfl rfl (by decide) (r_build (cs := [Value.int .i64 (p1.f_Kind), Value.int .i64 (p1.f_N), strV (p1.f_Bytes), v4]) rfl (parts_ev hS rfl) (by obtain ⟨_, _, hvv, _⟩ := sl_val f5; rw [hvv]; clear hvv; kernel_rfl)) fun a hS => ?_
  replace hM := hM.pull 1 rfl rfl
  refine wl_cons rfl (e_storeN (vs := [Value.int .i64 (p1.f_Kind), Value.int .i64 (p1.f_N), strV (p1.f_Bytes), v4]) hM rfl ti_36 (hS.ev_ rfl) (hS.ev_ rfl) (ones_cons rfl (ones_cons rfl (ones_cons rfl (ones_cons (sl_one f5) ones_nil)))) (Nat.le_of_ble_eq_true rfl) fun w hM => ?_)
  have hM : Sat w0 w K (SP.blk g8 36 [Value.int .i64 (p1.f_Kind), Value.int .i64 (p1.f_N), strV (p1.f_Bytes), v4] :: SP.blk g6 25 [Value.int .i64 (p1.f_Kind), Value.int .i64 (p1.f_N), v2, v4] :: L) := hM
  refine pl0 hS rfl fun a hS => ?_
  refine st_done ?_
  replace hS : Slots 13 [] a [(2, Value.pointer (some ⟨g8, 0, none⟩))] := (hS.part (.cons rfl (.nil _)))
  refine x_then ?_
  refine wp_ret ?_
  have hr' := Option.some.inj h
  subst hr'
  refine retR1 (.inr rfl) hS rfl ⟨_, rfl, lv_N (cs' := [Value.int .i64 (p1.f_Kind), Value.int .i64 (p1.f_N), strV (p1.f_Bytes), v4]) hM ag_36 ti_36 rfl⟩ ?_
  exact ⟨K, (v4), (Hp.le.refl _), ((hM).tail).tail, rfl, f5⟩

theorem R_Right_c {w0 w : World} {K : Hp} {L : List SP} {p1 : R_Event} {v2 : Value} {r : Bool} (hG : Glob w0) (h : R_Right p1 = some r) (f3 : (Kd.int .i64).sl K v2 p1.f_Marks) (hM : Sat w0 w K (L)) :
    Calls Tryd.prog 14 #[Value.agg #[Value.int .i64 (p1.f_Kind), Value.int .i64 (p1.f_N), strV (p1.f_Bytes), v2]] w (fun e w' => ∃ (K' : Hp), Hp.le K K' ∧ Sat w0 w' K' (L) ∧ e = .returned (Value.bool (r))) := by
  refine enter_ (n := 77) (args := [Value.agg #[Value.int .i64 (p1.f_Kind), Value.int .i64 (p1.f_N), strV (p1.f_Bytes), v2]]) Tryd.func14 rfl rfl (Nat.le_of_ble_eq_true rfl) fun a hS => ?_
  replace hS : Slots 77 [] a [(0, Value.agg #[Value.int .i64 (p1.f_Kind), Value.int .i64 (p1.f_N), strV (p1.f_Bytes), v2])] := hS
  unfold R_Right at h
  refine wp_seq ?_
  refine wp_region_lit ?_
  refine wl_cons rfl (e_box (cs := [Value.int .i64 (p1.f_Kind), Value.int .i64 (p1.f_N), strV (p1.f_Bytes), v2]) hM rfl (hS.ev_ rfl) rfl fun g4 w hM => ?_)
  refine pl hS rfl (by decide) fun a hS => ?_
  refine st_val hS rfl rfl (by decide) (r_assign rfl (hS.ev_ rfl)) fun a hS => ?_
  refine st_done ?_
  replace hS : Slots 77 [] a [(2, Value.bool (false)), (1, Value.pointer (some ⟨g4, 0, none⟩))] := (hS.part (.cons rfl (.cons rfl (.nil _))))
  refine x_then ?_
  refine wp_seq ?_
  refine wp_seq ?_
  refine wp_region_lit ?_
  refine st_val hS rfl rfl (by decide) (r_fld_b rfl fo_36_0 (hS.ev_ rfl)) fun a hS => ?_
  refine st_val hS rfl rfl (by decide) (r_ld1_b rfl ag_3 (hS.ev_ rfl) rfl (Rd.of hM)) fun a hS => ?_
  refine st_val hS rfl rfl (by decide) (r_cmp rfl (hS.ev_ rfl) (hS.ev_ rfl) rfl) fun a hS => ?_
  refine st_val hS rfl rfl (by decide) (r_move rfl (hS.ev_ rfl)) fun a hS => ?_
  obtain ⟨x6, h7, h⟩ := bindO h
  refine wl_cut 4 (fun a w => Slots 77 [] a [(1, Value.pointer (some ⟨g4, 0, none⟩)), (2, Value.bool (false)), (13, Value.bool (x6))] ∧ Sat w0 w K (SP.blk g4 36 [Value.int .i64 (p1.f_Kind), Value.int .i64 (p1.f_N), strV (p1.f_Bytes), v2] :: L)) ?_ ?_
  ·
    skip
    rcases ifB h7 with ⟨hc8, h7⟩ | ⟨hc8, h7⟩
    ·
      replace hS := hS.known (k := 9) rfl hc8
      refine st_off hS rfl rfl rfl rfl rfl rfl (by decide) fun a hS => ?_
      refine st_off hS rfl rfl rfl rfl rfl rfl (by decide) fun a hS => ?_
      refine st_off hS rfl rfl rfl rfl rfl rfl (by decide) fun a hS => ?_
      refine st_val hS rfl rfl (by decide) (r_pick_true rfl (hS.ev_ rfl) rfl (hS.ev_ rfl)) fun a hS => ?_
      refine st_done ?_
      replace hS : Slots 77 [] a [(13, Value.bool (true)), (2, Value.bool (false)), (1, Value.pointer (some ⟨g4, 0, none⟩))] := (hS.part (.cons rfl (.cons rfl (.cons rfl (.nil _)))))
      refine x_then ?_
      obtain rfl := Option.some.inj h7
      exact ⟨(hS.part (.cons rfl (.cons rfl (.cons rfl (.nil _))))), hM⟩
    ·
      replace hS := hS.known (k := 9) rfl hc8
      refine st_want hS rfl rfl rfl rfl rfl (by decide) (r_fld_b rfl fo_36_0 (hS.ev_ rfl)) fun a hS => ?_
      refine st_want hS rfl rfl rfl rfl rfl (by decide) (r_ld1_b rfl ag_3 (hS.ev_ rfl) rfl (Rd.of hM)) fun a hS => ?_
      refine st_want hS rfl rfl rfl rfl rfl (by decide) (r_cmp rfl (hS.ev_ rfl) (hS.ev_ rfl) rfl) fun a hS => ?_
      refine st_val hS rfl rfl (by decide) (r_pick_false rfl (hS.ev_ rfl) rfl (hS.ev_ rfl)) fun a hS => ?_
      refine st_done ?_
      replace hS : Slots 77 [] a [(13, Value.bool (decide (p1.f_Kind > 4))), (2, Value.bool (false)), (1, Value.pointer (some ⟨g4, 0, none⟩))] := (hS.part (.cons rfl (.cons rfl (.cons rfl (.nil _)))))
      refine x_then ?_
      obtain rfl := Option.some.inj h7
      exact ⟨(hS.part (.cons rfl (.cons rfl (.cons rfl (.nil _))))), hM⟩
  · rintro a w ⟨hS, hM⟩
    refine st_val hS rfl rfl (by decide) (r_move rfl (hS.ev_ rfl)) fun a hS => ?_
    obtain ⟨x9, h10, h⟩ := bindO h
    refine wl_cut 5 (fun a w => Slots 77 [] a [(1, Value.pointer (some ⟨g4, 0, none⟩)), (2, Value.bool (false)), (19, Value.bool (x9))] ∧ Sat w0 w K (SP.blk g4 36 [Value.int .i64 (p1.f_Kind), Value.int .i64 (p1.f_N), strV (p1.f_Bytes), v2] :: L)) ?_ ?_
    ·
      skip
      rcases ifB h10 with ⟨hc11, h10⟩ | ⟨hc11, h10⟩
      ·
        replace hS := hS.known (k := 14) rfl hc11
        refine st_off hS rfl rfl rfl rfl rfl rfl (by decide) fun a hS => ?_
        refine st_off hS rfl rfl rfl rfl rfl rfl (by decide) fun a hS => ?_
        refine st_off hS rfl rfl rfl rfl rfl rfl (by decide) fun a hS => ?_
        refine st_off hS rfl rfl rfl rfl rfl rfl (by decide) fun a hS => ?_
        refine st_val hS rfl rfl (by decide) (r_pick_true rfl (hS.ev_ rfl) rfl (hS.ev_ rfl)) fun a hS => ?_
        refine st_done ?_
        replace hS : Slots 77 [] a [(19, Value.bool (true)), (1, Value.pointer (some ⟨g4, 0, none⟩)), (2, Value.bool (false))] := (hS.part (.cons rfl (.cons rfl (.cons rfl (.nil _)))))
        refine x_then ?_
        obtain rfl := Option.some.inj h10
        exact ⟨(hS.part (.cons rfl (.cons rfl (.cons rfl (.nil _))))), hM⟩
      ·
        replace hS := hS.known (k := 14) rfl hc11
        refine st_want hS rfl rfl rfl rfl rfl (by decide) (r_fld_b rfl fo_36_2 (hS.ev_ rfl)) fun a hS => ?_
        refine st_want hS rfl rfl rfl rfl rfl (by decide) (r_ld1_b rfl ag_9 (hS.ev_ rfl) rfl (Rd.of hM)) fun a hS => ?_
        refine st_want hS rfl rfl rfl rfl rfl (by decide) (r_len_str rfl un_9 (hS.ev_ rfl)) fun a hS => ?_
        refine st_want hS rfl rfl rfl rfl rfl (by decide) (r_cmp rfl (hS.ev_ rfl) (hS.ev_ rfl) rfl) fun a hS => ?_
        refine st_val hS rfl rfl (by decide) (r_pick_false rfl (hS.ev_ rfl) rfl (hS.ev_ rfl)) fun a hS => ?_
        refine st_done ?_
        replace hS : Slots 77 [] a [(19, Value.bool (decide (((p1.f_Bytes.length : Int)) > 1024))), (1, Value.pointer (some ⟨g4, 0, none⟩)), (2, Value.bool (false))] := (hS.part (.cons rfl (.cons rfl (.cons rfl (.nil _)))))
        refine x_then ?_
        obtain rfl := Option.some.inj h10
        exact ⟨(hS.part (.cons rfl (.cons rfl (.cons rfl (.nil _))))), hM⟩
    · rintro a w ⟨hS, hM⟩
      refine st_val hS rfl rfl (by decide) (r_move rfl (hS.ev_ rfl)) fun a hS => ?_
      obtain ⟨x12, h13, h⟩ := bindO h
      refine wl_cut 4 (fun a w => Slots 77 [] a [(1, Value.pointer (some ⟨g4, 0, none⟩)), (2, Value.bool (false)), (24, Value.bool (x12))] ∧ Sat w0 w K (SP.blk g4 36 [Value.int .i64 (p1.f_Kind), Value.int .i64 (p1.f_N), strV (p1.f_Bytes), v2] :: L)) ?_ ?_
      ·
        skip
        rcases ifB h13 with ⟨hc14, h13⟩ | ⟨hc14, h13⟩
        ·
          replace hS := hS.known (k := 20) rfl hc14
          refine st_off hS rfl rfl rfl rfl rfl rfl (by decide) fun a hS => ?_
          refine st_off hS rfl rfl rfl rfl rfl rfl (by decide) fun a hS => ?_
          refine st_off hS rfl rfl rfl rfl rfl rfl (by decide) fun a hS => ?_
          refine st_val hS rfl rfl (by decide) (r_pick_true rfl (hS.ev_ rfl) rfl (hS.ev_ rfl)) fun a hS => ?_
          refine st_done ?_
          replace hS : Slots 77 [] a [(24, Value.bool (true)), (1, Value.pointer (some ⟨g4, 0, none⟩)), (2, Value.bool (false))] := (hS.part (.cons rfl (.cons rfl (.cons rfl (.nil _)))))
          refine x_then ?_
          obtain rfl := Option.some.inj h13
          exact ⟨(hS.part (.cons rfl (.cons rfl (.cons rfl (.nil _))))), hM⟩
        ·
          replace hS := hS.known (k := 20) rfl hc14
          refine st_want hS rfl rfl rfl rfl rfl (by decide) (r_fld_b rfl fo_36_1 (hS.ev_ rfl)) fun a hS => ?_
          refine st_want hS rfl rfl rfl rfl rfl (by decide) (r_ld1_b rfl ag_3 (hS.ev_ rfl) rfl (Rd.of hM)) fun a hS => ?_
          refine st_want hS rfl rfl rfl rfl rfl (by decide) (r_cmp rfl (hS.ev_ rfl) (hS.ev_ rfl) rfl) fun a hS => ?_
          refine st_val hS rfl rfl (by decide) (r_pick_false rfl (hS.ev_ rfl) rfl (hS.ev_ rfl)) fun a hS => ?_
          refine st_done ?_
          replace hS : Slots 77 [] a [(24, Value.bool (decide (p1.f_N < 0))), (1, Value.pointer (some ⟨g4, 0, none⟩)), (2, Value.bool (false))] := (hS.part (.cons rfl (.cons rfl (.cons rfl (.nil _)))))
          refine x_then ?_
          obtain rfl := Option.some.inj h13
          exact ⟨(hS.part (.cons rfl (.cons rfl (.cons rfl (.nil _))))), hM⟩
      · rintro a w ⟨hS, hM⟩
        refine st_val hS rfl rfl (by decide) (r_move rfl (hS.ev_ rfl)) fun a hS => ?_
        obtain ⟨x15, h16, h⟩ := bindO h
        refine wl_cut 4 (fun a w => Slots 77 [] a [(1, Value.pointer (some ⟨g4, 0, none⟩)), (2, Value.bool (false)), (29, Value.bool (x15))] ∧ Sat w0 w K (SP.blk g4 36 [Value.int .i64 (p1.f_Kind), Value.int .i64 (p1.f_N), strV (p1.f_Bytes), v2] :: L)) ?_ ?_
        ·
          skip
          rcases ifB h16 with ⟨hc17, h16⟩ | ⟨hc17, h16⟩
          ·
            replace hS := hS.known (k := 25) rfl hc17
            refine st_off hS rfl rfl rfl rfl rfl rfl (by decide) fun a hS => ?_
            refine st_off hS rfl rfl rfl rfl rfl rfl (by decide) fun a hS => ?_
            refine st_off hS rfl rfl rfl rfl rfl rfl (by decide) fun a hS => ?_
            refine st_val hS rfl rfl (by decide) (r_pick_true rfl (hS.ev_ rfl) rfl (hS.ev_ rfl)) fun a hS => ?_
            refine st_done ?_
            replace hS : Slots 77 [] a [(29, Value.bool (true)), (1, Value.pointer (some ⟨g4, 0, none⟩)), (2, Value.bool (false))] := (hS.part (.cons rfl (.cons rfl (.cons rfl (.nil _)))))
            refine x_then ?_
            obtain rfl := Option.some.inj h16
            exact ⟨(hS.part (.cons rfl (.cons rfl (.cons rfl (.nil _))))), hM⟩
          ·
            replace hS := hS.known (k := 25) rfl hc17
            refine st_want hS rfl rfl rfl rfl rfl (by decide) (r_fld_b rfl fo_36_1 (hS.ev_ rfl)) fun a hS => ?_
            refine st_want hS rfl rfl rfl rfl rfl (by decide) (r_ld1_b rfl ag_3 (hS.ev_ rfl) rfl (Rd.of hM)) fun a hS => ?_
            refine st_want hS rfl rfl rfl rfl rfl (by decide) (r_cmp rfl (hS.ev_ rfl) (hS.ev_ rfl) rfl) fun a hS => ?_
            refine st_val hS rfl rfl (by decide) (r_pick_false rfl (hS.ev_ rfl) rfl (hS.ev_ rfl)) fun a hS => ?_
            refine st_done ?_
            replace hS : Slots 77 [] a [(29, Value.bool (decide (p1.f_N > 9999))), (1, Value.pointer (some ⟨g4, 0, none⟩)), (2, Value.bool (false))] := (hS.part (.cons rfl (.cons rfl (.cons rfl (.nil _)))))
            refine x_then ?_
            obtain rfl := Option.some.inj h16
            exact ⟨(hS.part (.cons rfl (.cons rfl (.cons rfl (.nil _))))), hM⟩
        · rintro a w ⟨hS, hM⟩
          refine st_done ?_
          replace hS : Slots 77 [] a [(1, Value.pointer (some ⟨g4, 0, none⟩)), (2, Value.bool (false)), (29, Value.bool (x15))] := (hS.part (.cons rfl (.cons rfl (.cons rfl (.nil _)))))
          refine x_then ?_
          rcases ifB h with ⟨hc18, h⟩ | ⟨hc18, h⟩
          · refine c_cond_true (hS.ev_ rfl) hc18 ?_
            refine wp_seq ?_
            refine wp_region_lit ?_
            refine st_val hS rfl rfl (by decide) (r_assign rfl (hS.ev_ rfl)) fun a hS => ?_
            refine st_done ?_
            replace hS : Slots 77 [] a [(2, Value.bool (false)), (1, Value.pointer (some ⟨g4, 0, none⟩))] := (hS.part (.cons rfl (.cons rfl (.nil _))))
            refine x_then ?_
            refine wp_ret ?_
            refine x_then_ret ?_
            have hr' := Option.some.inj h
            subst hr'
            refine ret1 (.inr rfl) hS rfl rfl ?_
            exact ⟨K, (Hp.le.refl _), (hM).tail, rfl⟩
          · refine c_cond_false (hS.ev_ rfl) hc18 ?_
            refine wp_skip ?_
            refine x_then ?_
            refine wp_seq ?_
            refine wp_seq ?_
            refine wp_region_lit ?_
            refine st_val hS rfl rfl (by decide) (r_fld_b rfl fo_36_0 (hS.ev_ rfl)) fun a hS => ?_
            refine st_val hS rfl rfl (by decide) (r_ld1_b rfl ag_3 (hS.ev_ rfl) rfl (Rd.of hM)) fun a hS => ?_
            refine st_val hS rfl rfl (by decide) (r_cmp rfl (hS.ev_ rfl) (hS.ev_ rfl) rfl) fun a hS => ?_
            refine st_val hS rfl rfl (by decide) (r_move rfl (hS.ev_ rfl)) fun a hS => ?_
            obtain ⟨x19, h20, h⟩ := bindO h
            refine wl_cut 9 (fun a w => Slots 77 [] a [(1, Value.pointer (some ⟨g4, 0, none⟩)), (2, Value.bool (false)), (42, Value.bool (x19))] ∧ Sat w0 w K (SP.blk g4 36 [Value.int .i64 (p1.f_Kind), Value.int .i64 (p1.f_N), strV (p1.f_Bytes), v2] :: L)) ?_ ?_
            ·
              skip
              rcases ifB h20 with ⟨hc21, h20⟩ | ⟨hc21, h20⟩
              ·
                replace hS := hS.known (k := 33) rfl hc21
                refine st_want hS rfl rfl rfl rfl rfl (by decide) (r_fld_b rfl fo_36_2 (hS.ev_ rfl)) fun a hS => ?_
                refine st_want hS rfl rfl rfl rfl rfl (by decide) (r_ld1_b rfl ag_9 (hS.ev_ rfl) rfl (Rd.of hM)) fun a hS => ?_
                refine st_want hS rfl rfl rfl rfl rfl (by decide) (r_len_str rfl un_9 (hS.ev_ rfl)) fun a hS => ?_
                refine st_want hS rfl rfl rfl rfl rfl (by decide) (r_fld_b rfl fo_36_3 (hS.ev_ rfl)) fun a hS => ?_
                refine st_want hS rfl rfl rfl rfl rfl (by decide) (r_ld1_b rfl ag_23 (hS.ev_ rfl) rfl (Rd.of hM)) fun a hS => ?_
                refine st_want hS rfl rfl rfl rfl rfl (by decide) (r_len_sl rfl un_23 (hS.ev_ rfl) f3) fun a hS => ?_
                refine st_want hS rfl rfl rfl rfl rfl (by decide) (r_add rfl (hS.ev_ rfl) (hS.ev_ rfl)) fun a hS => ?_
                refine st_want hS rfl rfl rfl rfl rfl (by decide) (r_cmp rfl (hS.ev_ rfl) (hS.ev_ rfl) rfl) fun a hS => ?_
                refine st_val hS rfl rfl (by decide) (r_pick_true rfl (hS.ev_ rfl) rfl (hS.ev_ rfl)) fun a hS => ?_
                refine st_done ?_
                replace hS : Slots 77 [] a [(42, Value.bool (decide ((w64 (((p1.f_Bytes.length : Int)) + ((p1.f_Marks.length : Int)))) > 0))), (1, Value.pointer (some ⟨g4, 0, none⟩)), (2, Value.bool (false))] := (hS.part (.cons rfl (.cons rfl (.cons rfl (.nil _)))))
                refine x_then ?_
                obtain rfl := Option.some.inj h20
                exact ⟨(hS.part (.cons rfl (.cons rfl (.cons rfl (.nil _))))), hM⟩
              ·
                replace hS := hS.known (k := 33) rfl hc21
                refine st_off hS rfl rfl rfl rfl rfl rfl (by decide) fun a hS => ?_
                refine st_off hS rfl rfl rfl rfl rfl rfl (by decide) fun a hS => ?_
                refine st_off hS rfl rfl rfl rfl rfl rfl (by decide) fun a hS => ?_
                refine st_off hS rfl rfl rfl rfl rfl rfl (by decide) fun a hS => ?_
                refine st_off hS rfl rfl rfl rfl rfl rfl (by decide) fun a hS => ?_
                refine st_off hS rfl rfl rfl rfl rfl rfl (by decide) fun a hS => ?_
                refine st_off hS rfl rfl rfl rfl rfl rfl (by decide) fun a hS => ?_
                refine st_off hS rfl rfl rfl rfl rfl rfl (by decide) fun a hS => ?_
                refine st_val hS rfl rfl (by decide) (r_pick_false rfl (hS.ev_ rfl) rfl (hS.ev_ rfl)) fun a hS => ?_
                refine st_done ?_
                replace hS : Slots 77 [] a [(42, Value.bool (false)), (1, Value.pointer (some ⟨g4, 0, none⟩)), (2, Value.bool (false))] := (hS.part (.cons rfl (.cons rfl (.cons rfl (.nil _)))))
                refine x_then ?_
                obtain rfl := Option.some.inj h20
                exact ⟨(hS.part (.cons rfl (.cons rfl (.cons rfl (.nil _))))), hM⟩
            · rintro a w ⟨hS, hM⟩
              refine st_val hS rfl rfl (by decide) (r_move rfl (hS.ev_ rfl)) fun a hS => ?_
              obtain ⟨x22, h23, h⟩ := bindO h
              refine wl_cut 14 (fun a w => Slots 77 [] a [(1, Value.pointer (some ⟨g4, 0, none⟩)), (2, Value.bool (false)), (57, Value.bool (x22))] ∧ Sat w0 w K (SP.blk g4 36 [Value.int .i64 (p1.f_Kind), Value.int .i64 (p1.f_N), strV (p1.f_Bytes), v2] :: L)) ?_ ?_
              ·
                skip
                rcases ifB h23 with ⟨hc24, h23⟩ | ⟨hc24, h23⟩
                ·
                  replace hS := hS.known (k := 43) rfl hc24
                  refine st_off hS rfl rfl rfl rfl rfl rfl (by decide) fun a hS => ?_
                  refine st_off hS rfl rfl rfl rfl rfl rfl (by decide) fun a hS => ?_
                  refine st_off hS rfl rfl rfl rfl rfl rfl (by decide) fun a hS => ?_
                  refine st_off hS rfl rfl rfl rfl rfl rfl (by decide) fun a hS => ?_
                  refine st_off_undef hS rfl rfl rfl rfl rfl (by decide) fun a hS => ?_
                  refine st_off_undef hS rfl rfl rfl rfl rfl (by decide) fun a hS => ?_
                  refine st_off_undef hS rfl rfl rfl rfl rfl (by decide) fun a hS => ?_
                  refine st_off hS rfl rfl rfl rfl rfl rfl (by decide) fun a hS => ?_
                  refine st_off hS rfl rfl rfl rfl rfl rfl (by decide) fun a hS => ?_
                  refine st_off_undef hS rfl rfl rfl rfl rfl (by decide) fun a hS => ?_
                  refine st_off_undef hS rfl rfl rfl rfl rfl (by decide) fun a hS => ?_
                  refine st_off_undef hS rfl rfl rfl rfl rfl (by decide) fun a hS => ?_
                  refine st_off hS rfl rfl rfl rfl rfl rfl (by decide) fun a hS => ?_
                  refine st_val hS rfl rfl (by decide) (r_pick_true rfl (hS.ev_ rfl) rfl (hS.ev_ rfl)) fun a hS => ?_
                  refine st_done ?_
                  replace hS : Slots 77 [] a [(57, Value.bool (true)), (1, Value.pointer (some ⟨g4, 0, none⟩)), (2, Value.bool (false))] := (hS.part (.cons rfl (.cons rfl (.cons rfl (.nil _)))))
                  refine x_then ?_
                  obtain rfl := Option.some.inj h23
                  exact ⟨(hS.part (.cons rfl (.cons rfl (.cons rfl (.nil _))))), hM⟩
                ·
                  replace hS := hS.known (k := 43) rfl hc24
                  refine st_want hS rfl rfl rfl rfl rfl (by decide) (r_fld_b rfl fo_36_0 (hS.ev_ rfl)) fun a hS => ?_
                  refine st_want hS rfl rfl rfl rfl rfl (by decide) (r_ld1_b rfl ag_3 (hS.ev_ rfl) rfl (Rd.of hM)) fun a hS => ?_
                  refine st_want hS rfl rfl rfl rfl rfl (by decide) (r_cmp rfl (hS.ev_ rfl) (hS.ev_ rfl) rfl) fun a hS => ?_
                  refine st_want hS rfl rfl rfl rfl rfl (by decide) (r_move rfl (hS.ev_ rfl)) fun a hS => ?_
                  obtain ⟨x25, h26, h23⟩ := bindO h23
                  refine wl_cut 4 (fun a w => Slots 77 [] a [(1, Value.pointer (some ⟨g4, 0, none⟩)), (2, Value.bool (false)), (43, Value.bool (false)), (51, Value.bool (x25))] ∧ Sat w0 w K (SP.blk g4 36 [Value.int .i64 (p1.f_Kind), Value.int .i64 (p1.f_N), strV (p1.f_Bytes), v2] :: L)) ?_ ?_
                  ·
                    skip
                    rcases ifB h26 with ⟨hc27, h26⟩ | ⟨hc27, h26⟩
                    ·
                      replace hS := hS.known (k := 47) rfl hc27
                      refine st_off hS rfl rfl rfl rfl rfl rfl (by decide) fun a hS => ?_
                      refine st_off hS rfl rfl rfl rfl rfl rfl (by decide) fun a hS => ?_
                      refine st_off hS rfl rfl rfl rfl rfl rfl (by decide) fun a hS => ?_
                      refine st_want hS rfl rfl rfl rfl rfl (by decide) (r_pick_true rfl (hS.ev_ rfl) rfl (hS.ev_ rfl)) fun a hS => ?_
                      refine st_done ?_
                      replace hS : Slots 77 [] a [(51, Value.bool (true)), (43, Value.bool (false)), (1, Value.pointer (some ⟨g4, 0, none⟩)), (2, Value.bool (false))] := (hS.part (.cons rfl (.cons rfl (.cons rfl (.cons rfl (.nil _))))))
                      refine x_then ?_
                      obtain rfl := Option.some.inj h26
                      exact ⟨(hS.part (.cons rfl (.cons rfl (.cons rfl (.cons rfl (.nil _)))))), hM⟩
                    ·
                      replace hS := hS.known (k := 47) rfl hc27
                      refine st_want hS rfl rfl rfl rfl rfl (by decide) (r_fld_b rfl fo_36_0 (hS.ev_ rfl)) fun a hS => ?_
                      refine st_want hS rfl rfl rfl rfl rfl (by decide) (r_ld1_b rfl ag_3 (hS.ev_ rfl) rfl (Rd.of hM)) fun a hS => ?_
                      refine st_want hS rfl rfl rfl rfl rfl (by decide) (r_cmp rfl (hS.ev_ rfl) (hS.ev_ rfl) rfl) fun a hS => ?_
                      refine st_want hS rfl rfl rfl rfl rfl (by decide) (r_pick_false rfl (hS.ev_ rfl) rfl (hS.ev_ rfl)) fun a hS => ?_
                      refine st_done ?_
                      replace hS : Slots 77 [] a [(51, Value.bool (p1.f_Kind == 4)), (43, Value.bool (false)), (1, Value.pointer (some ⟨g4, 0, none⟩)), (2, Value.bool (false))] := (hS.part (.cons rfl (.cons rfl (.cons rfl (.cons rfl (.nil _))))))
                      refine x_then ?_
                      obtain rfl := Option.some.inj h26
                      exact ⟨(hS.part (.cons rfl (.cons rfl (.cons rfl (.cons rfl (.nil _)))))), hM⟩
                  · rintro a w ⟨hS, hM⟩
                    refine st_want hS rfl rfl rfl rfl rfl (by decide) (r_move rfl (hS.ev_ rfl)) fun a hS => ?_
                    obtain ⟨x28, h29, h23⟩ := bindO h23
                    refine wl_cut 4 (fun a w => Slots 77 [] a [(1, Value.pointer (some ⟨g4, 0, none⟩)), (2, Value.bool (false)), (43, Value.bool (false)), (56, Value.bool (x28))] ∧ Sat w0 w K (SP.blk g4 36 [Value.int .i64 (p1.f_Kind), Value.int .i64 (p1.f_N), strV (p1.f_Bytes), v2] :: L)) ?_ ?_
                    ·
                      skip
                      rcases ifB h29 with ⟨hc30, h29⟩ | ⟨hc30, h29⟩
                      ·
                        replace hS := hS.known (k := 52) rfl hc30
                        refine st_want hS rfl rfl rfl rfl rfl (by decide) (r_fld_b rfl fo_36_1 (hS.ev_ rfl)) fun a hS => ?_
                        refine st_want hS rfl rfl rfl rfl rfl (by decide) (r_ld1_b rfl ag_3 (hS.ev_ rfl) rfl (Rd.of hM)) fun a hS => ?_
                        refine st_want hS rfl rfl rfl rfl rfl (by decide) (r_cmp rfl (hS.ev_ rfl) (hS.ev_ rfl) rfl) fun a hS => ?_
                        refine st_want hS rfl rfl rfl rfl rfl (by decide) (r_pick_true rfl (hS.ev_ rfl) rfl (hS.ev_ rfl)) fun a hS => ?_
                        refine st_done ?_
                        replace hS : Slots 77 [] a [(56, Value.bool (p1.f_N != 0)), (1, Value.pointer (some ⟨g4, 0, none⟩)), (2, Value.bool (false)), (43, Value.bool (false))] := (hS.part (.cons rfl (.cons rfl (.cons rfl (.cons rfl (.nil _))))))
                        refine x_then ?_
                        obtain rfl := Option.some.inj h29
                        exact ⟨(hS.part (.cons rfl (.cons rfl (.cons rfl (.cons rfl (.nil _)))))), hM⟩
                      ·
                        replace hS := hS.known (k := 52) rfl hc30
                        refine st_off hS rfl rfl rfl rfl rfl rfl (by decide) fun a hS => ?_
                        refine st_off hS rfl rfl rfl rfl rfl rfl (by decide) fun a hS => ?_
                        refine st_off hS rfl rfl rfl rfl rfl rfl (by decide) fun a hS => ?_
                        refine st_want hS rfl rfl rfl rfl rfl (by decide) (r_pick_false rfl (hS.ev_ rfl) rfl (hS.ev_ rfl)) fun a hS => ?_
                        refine st_done ?_
                        replace hS : Slots 77 [] a [(56, Value.bool (false)), (1, Value.pointer (some ⟨g4, 0, none⟩)), (2, Value.bool (false)), (43, Value.bool (false))] := (hS.part (.cons rfl (.cons rfl (.cons rfl (.cons rfl (.nil _))))))
                        refine x_then ?_
                        obtain rfl := Option.some.inj h29
                        exact ⟨(hS.part (.cons rfl (.cons rfl (.cons rfl (.cons rfl (.nil _)))))), hM⟩
                    · rintro a w ⟨hS, hM⟩
                      refine st_val hS rfl rfl (by decide) (r_pick_false rfl (hS.ev_ rfl) rfl (hS.ev_ rfl)) fun a hS => ?_
                      refine st_done ?_
                      replace hS : Slots 77 [] a [(57, Value.bool (x28)), (1, Value.pointer (some ⟨g4, 0, none⟩)), (2, Value.bool (false))] := (hS.part (.cons rfl (.cons rfl (.cons rfl (.nil _)))))
                      refine x_then ?_
                      obtain rfl := Option.some.inj h23
                      exact ⟨(hS.part (.cons rfl (.cons rfl (.cons rfl (.nil _))))), hM⟩
              · rintro a w ⟨hS, hM⟩
                refine st_done ?_
                replace hS : Slots 77 [] a [(1, Value.pointer (some ⟨g4, 0, none⟩)), (2, Value.bool (false)), (57, Value.bool (x22))] := (hS.part (.cons rfl (.cons rfl (.cons rfl (.nil _)))))
                refine x_then ?_
                rcases ifB h with ⟨hc31, h⟩ | ⟨hc31, h⟩
                · refine c_cond_true (hS.ev_ rfl) hc31 ?_
                  refine wp_seq ?_
                  refine wp_region_lit ?_
                  refine st_val hS rfl rfl (by decide) (r_assign rfl (hS.ev_ rfl)) fun a hS => ?_
                  refine st_done ?_
                  replace hS : Slots 77 [] a [(2, Value.bool (false)), (1, Value.pointer (some ⟨g4, 0, none⟩))] := (hS.part (.cons rfl (.cons rfl (.nil _))))
                  refine x_then ?_
                  refine wp_ret ?_
                  refine x_then_ret ?_
                  have hr' := Option.some.inj h
                  subst hr'
                  refine ret1 (.inr rfl) hS rfl rfl ?_
                  exact ⟨K, (Hp.le.refl _), (hM).tail, rfl⟩
                · refine c_cond_false (hS.ev_ rfl) hc31 ?_
                  refine wp_skip ?_
                  refine x_then ?_
                  refine wp_seq ?_
                  refine wp_region_lit ?_
                  refine st_val hS rfl rfl (by decide) (r_assign rfl (hS.ev_ rfl)) fun a hS => ?_
                  refine st_done ?_
                  replace hS : Slots 77 [] a [(3, Value.int .i64 ((-1))), (1, Value.pointer (some ⟨g4, 0, none⟩)), (2, Value.bool (false))] := (hS.part (.cons rfl (.cons rfl (.cons rfl (.nil _)))))
                  refine x_then ?_
                  refine wp_seq ?_
                  refine wp_seq ?_
                  refine wp_region_lit ?_
                  refine st_val hS rfl rfl (by decide) (r_fld_b rfl fo_36_3 (hS.ev_ rfl)) fun a hS => ?_
                  refine st_val hS rfl rfl (by decide) (r_ld1_b rfl ag_23 (hS.ev_ rfl) rfl (Rd.of hM)) fun a hS => ?_
                  refine st_val hS rfl rfl (by decide) (r_len_sl rfl un_23 (hS.ev_ rfl) f3) fun a hS => ?_
                  refine st_val hS rfl rfl (by decide) (r_move rfl (hS.ev_ rfl)) fun a hS => ?_
                  refine st_done ?_
                  replace hS : Slots 77 [] a [(61, Value.int .i64 (0)), (60, Value.int .i64 ((p1.f_Marks.length : Int))), (59, v2), (3, Value.int .i64 ((-1))), (1, Value.pointer (some ⟨g4, 0, none⟩)), (2, Value.bool (false))] := (hS.part (.cons rfl (.cons rfl (.cons rfl (.cons rfl (.cons rfl (.cons rfl (.nil _))))))))
                  refine x_then ?_
                  refine wp_block ?_
                  obtain ⟨o39, h40, h⟩ := bindO h
                  refine c_loop_ways (fun e a w => (e = .exit 0 ∧ ∃ (K41 : Hp) (x42 : Unit), Hp.le K K41 ∧ o39 = Sum.inl x42 ∧ Slots 77 [] a [(2, Value.bool (false))] ∧ Sat w0 w K41 (SP.blk g4 36 [Value.int .i64 (p1.f_Kind), Value.int .i64 (p1.f_N), strV (p1.f_Bytes), v2] :: L)) ∨ (e = .ret ∧ ∃ (K43 : Hp) (x44 : Unit), Hp.le K K43 ∧ o39 = Sum.inr x44 ∧ Slots 77 [] a [(2, Value.bool (false))] ∧ Sat w0 w K43 (SP.blk g4 36 [Value.int .i64 (p1.f_Kind), Value.int .i64 (p1.f_N), strV (p1.f_Bytes), v2] :: L))) ?_ ?_
                  · intro c Q hc hQ
                    have key : ∀ (x37 : Int) (x38 : Int) (r' : Sum Unit Unit), R_Right_l1 p1 x37 x38 = some r' → r' = o39 → ∀ (K36 : Hp) (a : Act) (w : World), Hp.le K K36 → Slots 77 [] a [(61, Value.int .i64 (x37)), (60, Value.int .i64 ((p1.f_Marks.length : Int))), (59, v2), (3, Value.int .i64 (x38)), (1, Value.pointer (some ⟨g4, 0, none⟩)), (2, Value.bool (false))] → Sat w0 w K36 (SP.blk g4 36 [Value.int .i64 (p1.f_Kind), Value.int .i64 (p1.f_N), strV (p1.f_Bytes), v2] :: L) → Rnd Tryd.prog c Q a w := by
                      refine R_Right_l1.partial_correctness p1 _ ?_
                      intro R_Right_l1_rec ih x37 x38 r' h hr K36  a w hlK36 hS hM 
                      subst hc
                      refine c_round ?_
                      refine wp_seq ?_
                      refine wp_region_lit ?_
                      refine st_val hS rfl rfl (by decide) (r_cmp rfl (hS.ev_ rfl) (hS.ev_ rfl) rfl) fun a hS => ?_
                      refine st_done ?_
                      replace hS : Slots 77 [] a [(62, Value.bool (decide (x37 < ((p1.f_Marks.length : Int))))), (61, Value.int .i64 (x37)), (60, Value.int .i64 ((p1.f_Marks.length : Int))), (59, v2), (3, Value.int .i64 (x38)), (1, Value.pointer (some ⟨g4, 0, none⟩)), (2, Value.bool (false))] := (hS.part (.cons rfl (.cons rfl (.cons rfl (.cons rfl (.cons rfl (.cons rfl (.cons rfl (.nil _)))))))))
                      refine x_then ?_
                      refine wp_seq ?_
                      rcases ifB h with ⟨hc45, h⟩ | ⟨hc45, h⟩
                      · refine c_cond_true (hS.ev_ rfl) hc45 ?_
                        refine wp_skip ?_
                        refine x_then ?_
                        refine wp_seq ?_
                        refine wp_block ?_
                        refine wp_seq ?_
                        refine wp_region_lit ?_
                        obtain ⟨e46, h47, h⟩ := bindO h
                        obtain ⟨ad48, cp49, cs50, hv51, hr52, h0_53, h1_54, hq55⟩ := sl_at f3 h47 (by decide)
                        obtain rfl := hr52
                        refine st_val hS rfl rfl (by decide) (r_idx_sl rfl un_23 ti_3 (hS.ev_ rfl) hv51 (hS.ev_ rfl) h0_53 h1_54) fun a hS => ?_
                        refine st_val hS rfl rfl (by decide) (r_ld1_k rfl ag_3 (hS.ev_ rfl) hq55 rfl (Rd.up hlK36 hM.nil_)) fun a hS => ?_
                        refine st_val hS rfl rfl (by decide) (r_assign rfl (hS.ev_ rfl)) fun a hS => ?_
                        refine st_done ?_
                        replace hS : Slots 77 [] a [(5, Value.int .i64 (e46)), (61, Value.int .i64 (x37)), (60, Value.int .i64 ((p1.f_Marks.length : Int))), (59, v2), (3, Value.int .i64 (x38)), (1, Value.pointer (some ⟨g4, 0, none⟩)), (2, Value.bool (false))] := (hS.part (.cons rfl (.cons rfl (.cons rfl (.cons rfl (.cons rfl (.cons rfl (.cons rfl (.nil _)))))))))
                        refine x_then ?_
                        refine wp_seq ?_
                        refine wp_seq ?_
                        refine wp_region_lit ?_
                        refine st_val hS rfl rfl (by decide) (r_move rfl (hS.ev_ rfl)) fun a hS => ?_
                        refine st_val hS rfl rfl (by decide) (r_move rfl (hS.ev_ rfl)) fun a hS => ?_
                        refine st_val hS rfl rfl (by decide) (r_cmp rfl (hS.ev_ rfl) (hS.ev_ rfl) rfl) fun a hS => ?_
                        refine st_val hS rfl rfl (by decide) (r_move rfl (hS.ev_ rfl)) fun a hS => ?_
                        obtain ⟨x56, h57, h⟩ := bindO h
                        refine wl_cut 6 (fun a w => Slots 77 [] a [(1, Value.pointer (some ⟨g4, 0, none⟩)), (2, Value.bool (false)), (3, Value.int .i64 (x38)), (5, Value.int .i64 (e46)), (59, v2), (60, Value.int .i64 ((p1.f_Marks.length : Int))), (61, Value.int .i64 (x37)), (74, Value.bool (x56))] ∧ Sat w0 w K36 (SP.blk g4 36 [Value.int .i64 (p1.f_Kind), Value.int .i64 (p1.f_N), strV (p1.f_Bytes), v2] :: L)) ?_ ?_
                        ·
                          skip
                          rcases ifB h57 with ⟨hc58, h57⟩ | ⟨hc58, h57⟩
                          ·
                            replace hS := hS.known (k := 68) rfl hc58
                            refine st_off hS rfl rfl rfl rfl rfl rfl (by decide) fun a hS => ?_
                            refine st_off hS rfl rfl rfl rfl rfl rfl (by decide) fun a hS => ?_
                            refine st_off hS rfl rfl rfl rfl rfl rfl (by decide) fun a hS => ?_
                            refine st_off hS rfl rfl rfl rfl rfl rfl (by decide) fun a hS => ?_
                            refine st_off hS rfl rfl rfl rfl rfl rfl (by decide) fun a hS => ?_
                            refine st_val hS rfl rfl (by decide) (r_pick_true rfl (hS.ev_ rfl) rfl (hS.ev_ rfl)) fun a hS => ?_
                            refine st_done ?_
                            replace hS : Slots 77 [] a [(74, Value.bool (true)), (5, Value.int .i64 (e46)), (61, Value.int .i64 (x37)), (60, Value.int .i64 ((p1.f_Marks.length : Int))), (59, v2), (3, Value.int .i64 (x38)), (1, Value.pointer (some ⟨g4, 0, none⟩)), (2, Value.bool (false))] := (hS.part (.cons rfl (.cons rfl (.cons rfl (.cons rfl (.cons rfl (.cons rfl (.cons rfl (.cons rfl (.nil _))))))))))
                            refine x_then ?_
                            obtain rfl := Option.some.inj h57
                            exact ⟨(hS.part (.cons rfl (.cons rfl (.cons rfl (.cons rfl (.cons rfl (.cons rfl (.cons rfl (.cons rfl (.nil _)))))))))), hM⟩
                          ·
                            replace hS := hS.known (k := 68) rfl hc58
                            refine st_want hS rfl rfl rfl rfl rfl (by decide) (r_move rfl (hS.ev_ rfl)) fun a hS => ?_
                            refine st_want hS rfl rfl rfl rfl rfl (by decide) (r_fld_b rfl fo_36_2 (hS.ev_ rfl)) fun a hS => ?_
                            refine st_want hS rfl rfl rfl rfl rfl (by decide) (r_ld1_b rfl ag_9 (hS.ev_ rfl) rfl (Rd.of hM)) fun a hS => ?_
                            refine st_want hS rfl rfl rfl rfl rfl (by decide) (r_len_str rfl un_9 (hS.ev_ rfl)) fun a hS => ?_
                            refine st_want hS rfl rfl rfl rfl rfl (by decide) (r_cmp rfl (hS.ev_ rfl) (hS.ev_ rfl) rfl) fun a hS => ?_
                            refine st_val hS rfl rfl (by decide) (r_pick_false rfl (hS.ev_ rfl) rfl (hS.ev_ rfl)) fun a hS => ?_
                            refine st_done ?_
                            replace hS : Slots 77 [] a [(74, Value.bool (decide (e46 ≥ ((p1.f_Bytes.length : Int))))), (5, Value.int .i64 (e46)), (61, Value.int .i64 (x37)), (60, Value.int .i64 ((p1.f_Marks.length : Int))), (59, v2), (3, Value.int .i64 (x38)), (1, Value.pointer (some ⟨g4, 0, none⟩)), (2, Value.bool (false))] := (hS.part (.cons rfl (.cons rfl (.cons rfl (.cons rfl (.cons rfl (.cons rfl (.cons rfl (.cons rfl (.nil _))))))))))
                            refine x_then ?_
                            obtain rfl := Option.some.inj h57
                            exact ⟨(hS.part (.cons rfl (.cons rfl (.cons rfl (.cons rfl (.cons rfl (.cons rfl (.cons rfl (.cons rfl (.nil _)))))))))), hM⟩
                        · rintro a w ⟨hS, hM⟩
                          refine st_done ?_
                          replace hS : Slots 77 [] a [(1, Value.pointer (some ⟨g4, 0, none⟩)), (2, Value.bool (false)), (3, Value.int .i64 (x38)), (5, Value.int .i64 (e46)), (59, v2), (60, Value.int .i64 ((p1.f_Marks.length : Int))), (61, Value.int .i64 (x37)), (74, Value.bool (x56))] := (hS.part (.cons rfl (.cons rfl (.cons rfl (.cons rfl (.cons rfl (.cons rfl (.cons rfl (.cons rfl (.nil _))))))))))
                          refine x_then ?_
                          rcases ifB h with ⟨hc59, h⟩ | ⟨hc59, h⟩
                          · refine c_cond_true (hS.ev_ rfl) hc59 ?_
                            refine wp_seq ?_
                            refine wp_region_lit ?_
                            refine st_val hS rfl rfl (by decide) (r_assign rfl (hS.ev_ rfl)) fun a hS => ?_
                            refine st_done ?_
                            replace hS : Slots 77 [] a [(2, Value.bool (false)), (1, Value.pointer (some ⟨g4, 0, none⟩)), (3, Value.int .i64 (x38)), (5, Value.int .i64 (e46)), (59, v2), (60, Value.int .i64 ((p1.f_Marks.length : Int))), (61, Value.int .i64 (x37))] := (hS.part (.cons rfl (.cons rfl (.cons rfl (.cons rfl (.cons rfl (.cons rfl (.cons rfl (.nil _)))))))))
                            refine x_then ?_
                            refine wp_ret ?_
                            refine x_then_ret ?_
                            refine x_block_ret ?_
                            refine x_then_ret ?_
                            refine x_then_ret ?_
                            have ho' := (Option.some.inj h).trans hr
                            refine hQ _ _ _ ?_
                            exact .inr (⟨rfl, K36, (()), hlK36, ho'.symm, (hS.part (.cons rfl (.nil _))), hM⟩)
                          · refine c_cond_false (hS.ev_ rfl) hc59 ?_
                            refine wp_skip ?_
                            refine x_then ?_
                            refine wp_region_lit ?_
                            refine st_val hS rfl rfl (by decide) (r_move rfl (hS.ev_ rfl)) fun a hS => ?_
                            refine st_val hS rfl rfl (by decide) (r_assign rfl (hS.ev_ rfl)) fun a hS => ?_
                            refine st_done ?_
                            replace hS : Slots 77 [] a [(3, Value.int .i64 (e46)), (1, Value.pointer (some ⟨g4, 0, none⟩)), (2, Value.bool (false)), (59, v2), (60, Value.int .i64 ((p1.f_Marks.length : Int))), (61, Value.int .i64 (x37))] := (hS.part (.cons rfl (.cons rfl (.cons rfl (.cons rfl (.cons rfl (.cons rfl (.nil _))))))))
                            refine x_block ?_
                            refine x_then ?_
                            refine wp_region_lit ?_
                            refine st_val hS rfl rfl (by decide) (r_add rfl (hS.ev_ rfl) (hS.ev_ rfl)) fun a hS => ?_
                            refine st_val hS rfl rfl (by decide) (r_move rfl (hS.ev_ rfl)) fun a hS => ?_
                            refine st_done ?_
                            replace hS : Slots 77 [] a [(61, Value.int .i64 (w64 (x37 + 1))), (3, Value.int .i64 (e46)), (1, Value.pointer (some ⟨g4, 0, none⟩)), (2, Value.bool (false)), (59, v2), (60, Value.int .i64 ((p1.f_Marks.length : Int)))] := (hS.part (.cons rfl (.cons rfl (.cons rfl (.cons rfl (.cons rfl (.cons rfl (.nil _))))))))
                            refine x_then ?_
                            exact ih (w64 (x37 + 1)) e46 _ h hr K36 _ _ hlK36 (hS.part (.cons rfl (.cons rfl (.cons rfl (.cons rfl (.cons rfl (.cons rfl (.nil _)))))))) (hM)
                      · refine c_cond_false (hS.ev_ rfl) hc45 ?_
                        refine wp_exit ?_
                        refine x_then_exit ?_
                        refine x_then_exit ?_
                        have ho' := (Option.some.inj h).trans hr
                        refine hQ _ _ _ ?_
                        exact .inl ⟨rfl, K36, (()), hlK36, ho'.symm, (hS.part (.cons rfl (.nil _))), hM⟩
                    exact key 0 ((-1)) _ h40 rfl K _ _ (Hp.le.refl _) (hS.part (.cons rfl (.cons rfl (.cons rfl (.cons rfl (.cons rfl (.cons rfl (.nil _)))))))) (hM)
                  · rintro e a w (⟨rfl, K41, x42, hlK41, ho', hS, hM⟩ | ⟨rfl, K43, x44, hlK43, ho', hS, hM⟩)
                    · subst ho'
                      dsimp only at h
                      refine x_block_here ?_
                      refine x_then ?_
                      refine wp_seq ?_
                      refine wp_region_lit ?_
                      refine st_val hS rfl rfl (by decide) (r_assign rfl (hS.ev_ rfl)) fun a hS => ?_
                      refine st_done ?_
                      replace hS : Slots 77 [] a [(2, Value.bool (true))] := (hS.part (.cons rfl (.nil _)))
                      refine x_then ?_
                      refine wp_ret ?_
                      have hr' := Option.some.inj h
                      subst hr'
                      refine ret1 (.inr rfl) hS rfl rfl ?_
                      exact ⟨K41, hlK41, (hM).tail, rfl⟩
                    · subst ho'
                      dsimp only at h
                      refine x_block_ret ?_
                      refine x_then_ret ?_
                      have hr' := Option.some.inj h
                      subst hr'
                      refine ret1 (.inr rfl) hS rfl rfl ?_
                      exact ⟨K43, hlK43, (hM).tail, rfl⟩

theorem Num_Figures_c {w0 w : World} {K : Hp} {L : List SP} {p1 : Int} {r : List UInt8} (hG : Glob w0) (h : Num_Figures p1 = some r) (hM : Sat w0 w K (L)) :
    Calls Tryd.prog 30 #[Value.int .i64 (p1)] w (fun e w' => ∃ (K' : Hp), Hp.le K K' ∧ Sat w0 w' K' (L) ∧ e = .returned (strV (r))) := by
  refine enter_ (n := 29) (args := [Value.int .i64 (p1)]) Tryd.func30 rfl rfl (Nat.le_of_ble_eq_true rfl) fun a hS => ?_
  replace hS : Slots 29 [] a [(0, Value.int .i64 (p1))] := hS
  unfold Num_Figures at h
  refine wp_seq ?_
  refine wp_region_lit ?_
  refine st_val hS rfl rfl (by decide) (r_assign rfl (hS.ev_ (v := strV (([] : List UInt8))) rfl)) fun a hS => ?_
  refine st_done ?_
  replace hS : Slots 29 [] a [(2, strV (([] : List UInt8))), (0, Value.int .i64 (p1))] := (hS.part (.cons rfl (.cons rfl (.nil _))))
  refine x_then ?_
  refine wp_seq ?_
  refine wp_seq ?_
  refine wp_region_lit ?_
  refine st_val hS rfl rfl (by decide) (r_move rfl (hS.ev_ rfl)) fun a hS => ?_
  refine st_val hS rfl rfl (by decide) (r_cmp rfl (hS.ev_ rfl) (hS.ev_ rfl) rfl) fun a hS => ?_
  refine st_done ?_
  replace hS : Slots 29 [] a [(7, Value.bool (p1 == 0)), (2, strV (([] : List UInt8))), (0, Value.int .i64 (p1))] := (hS.part (.cons rfl (.cons rfl (.cons rfl (.nil _)))))
  refine x_then ?_
  rcases ifB h with ⟨hc2, h⟩ | ⟨hc2, h⟩
  · refine c_cond_true (hS.ev_ rfl) hc2 ?_
    refine wp_seq ?_
    refine wp_region_lit ?_
    refine st_val hS rfl rfl (by decide) (r_assign rfl (hS.ev_ (v := strV (([48] : List UInt8))) rfl)) fun a hS => ?_
    refine st_done ?_
    replace hS : Slots 29 [] a [(2, strV (([48] : List UInt8))), (0, Value.int .i64 (p1))] := (hS.part (.cons rfl (.cons rfl (.nil _))))
    refine x_then ?_
    refine wp_ret ?_
    refine x_then_ret ?_
    have hr' := Option.some.inj h
    subst hr'
    refine ret1 (.inr rfl) hS rfl rfl ?_
    exact ⟨K, (Hp.le.refl _), hM, rfl⟩
  · refine c_cond_false (hS.ev_ rfl) hc2 ?_
    refine wp_skip ?_
    refine x_then ?_
    refine wp_seq ?_
    refine wp_region_lit ?_
    refine st_val hS rfl rfl (by decide) (r_assign rfl (hS.ev_ (v := strV (([] : List UInt8))) rfl)) fun a hS => ?_
    refine st_val hS rfl rfl (by decide) (r_assign rfl (hS.ev_ (v := strV (([] : List UInt8))) rfl)) fun a hS => ?_
    refine st_done ?_
    replace hS : Slots 29 [] a [(4, strV (([] : List UInt8))), (3, strV (([] : List UInt8))), (2, strV (([] : List UInt8))), (0, Value.int .i64 (p1))] := (hS.part (.cons rfl (.cons rfl (.cons rfl (.cons rfl (.nil _))))))
    refine x_then ?_
    obtain ⟨x3, h4, h⟩ := bindO h
    refine c_cut (fun a w => Slots 29 [] a [(0, Value.int .i64 (p1)), (2, strV (([] : List UInt8))), (3, strV (([] : List UInt8))), (4, strV (x3))] ∧ Sat w0 w K (L)) ?_ ?_
    ·
      refine wp_seq ?_
      refine wp_region_lit ?_
      refine st_val hS rfl rfl (by decide) (r_move rfl (hS.ev_ rfl)) fun a hS => ?_
      refine st_val hS rfl rfl (by decide) (r_cmp rfl (hS.ev_ rfl) (hS.ev_ rfl) rfl) fun a hS => ?_
      refine st_done ?_
      replace hS : Slots 29 [] a [(9, Value.bool (decide (p1 < 0))), (4, strV (([] : List UInt8))), (3, strV (([] : List UInt8))), (2, strV (([] : List UInt8))), (0, Value.int .i64 (p1))] := (hS.part (.cons rfl (.cons rfl (.cons rfl (.cons rfl (.cons rfl (.nil _)))))))
      refine x_then ?_
      rcases ifB h4 with ⟨hc5, h4⟩ | ⟨hc5, h4⟩
      · refine c_cond_true (hS.ev_ rfl) hc5 ?_
        refine wp_region_lit ?_
        refine st_val hS rfl rfl (by decide) (r_assign rfl (hS.ev_ (v := strV (([45] : List UInt8))) rfl)) fun a hS => ?_
        refine st_done ?_
        replace hS : Slots 29 [] a [(4, strV (([45] : List UInt8))), (3, strV (([] : List UInt8))), (2, strV (([] : List UInt8))), (0, Value.int .i64 (p1))] := (hS.part (.cons rfl (.cons rfl (.cons rfl (.cons rfl (.nil _))))))
        refine x_then ?_
        obtain rfl := Option.some.inj h4
        exact ⟨(hS.part (.cons rfl (.cons rfl (.cons rfl (.cons rfl (.nil _)))))), hM⟩
      · refine c_cond_false (hS.ev_ rfl) hc5 ?_
        refine wp_skip ?_
        refine x_then ?_
        obtain rfl := Option.some.inj h4
        exact ⟨(hS.part (.cons rfl (.cons rfl (.cons rfl (.cons rfl (.nil _)))))), hM⟩
    · rintro a w ⟨hS, hM⟩
      refine wp_seq ?_
      refine wp_block ?_
      obtain ⟨o13, h14, h⟩ := bindO h
      refine c_loop_ways (fun e a w => (e = .exit 0 ∧ ∃ (K15 : Hp), Hp.le K K15 ∧ Slots 29 [] a [(2, strV (([] : List UInt8))), (4, strV (x3)), (3, strV (o13))] ∧ Sat w0 w K15 (L))) ?_ ?_
      · intro c Q hc hQ
        have key : ∀ (x11 : Int) (x12 : List UInt8) (r' : List UInt8), Num_Figures_l1 x11 x12 = some r' → r' = o13 → ∀ (K10 : Hp) (a : Act) (w : World), Hp.le K K10 → Slots 29 [] a [(0, Value.int .i64 (x11)), (2, strV (([] : List UInt8))), (3, strV (x12)), (4, strV (x3))] → Sat w0 w K10 (L) → Rnd Tryd.prog c Q a w := by
          refine Num_Figures_l1.partial_correctness _ ?_
          intro Num_Figures_l1_rec ih x11 x12 r' h hr K10  a w hlK10 hS hM 
          subst hc
          refine c_round ?_
          refine wp_seq ?_
          refine wp_seq ?_
          refine wp_region_lit ?_
          refine st_val hS rfl rfl (by decide) (r_move rfl (hS.ev_ rfl)) fun a hS => ?_
          refine st_val hS rfl rfl (by decide) (r_cmp rfl (hS.ev_ rfl) (hS.ev_ rfl) rfl) fun a hS => ?_
          refine st_done ?_
          replace hS : Slots 29 [] a [(11, Value.bool (x11 != 0)), (0, Value.int .i64 (x11)), (2, strV (([] : List UInt8))), (3, strV (x12)), (4, strV (x3))] := (hS.part (.cons rfl (.cons rfl (.cons rfl (.cons rfl (.cons rfl (.nil _)))))))
          refine x_then ?_
          rcases ifB h with ⟨hc16, h⟩ | ⟨hc16, h⟩
          · refine c_cond_true (hS.ev_ rfl) hc16 ?_
            refine wp_skip ?_
            refine x_then ?_
            refine wp_block ?_
            refine wp_seq ?_
            refine wp_region_lit ?_
            refine st_val hS rfl rfl (by decide) (r_move rfl (hS.ev_ rfl)) fun a hS => ?_
            obtain ⟨q17, h18, h⟩ := bindO h
            obtain ⟨h18n, h18e⟩ := irem_some h18
            refine st_val hS rfl rfl (by decide) (h18e ▸ r_rem rfl (hS.ev_ rfl) (hS.ev_ rfl) h18n) fun a hS => ?_
            refine st_val hS rfl rfl (by decide) (r_assign rfl (hS.ev_ rfl)) fun a hS => ?_
            refine st_done ?_
            replace hS : Slots 29 [] a [(5, Value.int .i64 (q17)), (0, Value.int .i64 (x11)), (2, strV (([] : List UInt8))), (3, strV (x12)), (4, strV (x3))] := (hS.part (.cons rfl (.cons rfl (.cons rfl (.cons rfl (.cons rfl (.nil _)))))))
            refine x_then ?_
            obtain ⟨x19, h20, h⟩ := bindO h
            refine c_cut (fun a w => Slots 29 [] a [(0, Value.int .i64 (x11)), (2, strV (([] : List UInt8))), (3, strV (x12)), (4, strV (x3)), (5, Value.int .i64 (x19))] ∧ Sat w0 w K10 (L)) ?_ ?_
            ·
              refine wp_seq ?_
              refine wp_region_lit ?_
              refine st_val hS rfl rfl (by decide) (r_move rfl (hS.ev_ rfl)) fun a hS => ?_
              refine st_val hS rfl rfl (by decide) (r_cmp rfl (hS.ev_ rfl) (hS.ev_ rfl) rfl) fun a hS => ?_
              refine st_done ?_
              replace hS : Slots 29 [] a [(15, Value.bool (decide (q17 < 0))), (5, Value.int .i64 (q17)), (0, Value.int .i64 (x11)), (2, strV (([] : List UInt8))), (3, strV (x12)), (4, strV (x3))] := (hS.part (.cons rfl (.cons rfl (.cons rfl (.cons rfl (.cons rfl (.cons rfl (.nil _))))))))
              refine x_then ?_
              rcases ifB h20 with ⟨hc21, h20⟩ | ⟨hc21, h20⟩
              · refine c_cond_true (hS.ev_ rfl) hc21 ?_
                refine wp_region_lit ?_
                refine st_val hS rfl rfl (by decide) (r_move rfl (hS.ev_ rfl)) fun a hS => ?_
                refine st_val hS rfl rfl (by decide) (r_neg rfl (hS.ev_ rfl)) fun a hS => ?_
                refine st_val hS rfl rfl (by decide) (r_assign rfl (hS.ev_ rfl)) fun a hS => ?_
                refine st_done ?_
                replace hS : Slots 29 [] a [(5, Value.int .i64 (w64 (0 - q17))), (0, Value.int .i64 (x11)), (2, strV (([] : List UInt8))), (3, strV (x12)), (4, strV (x3))] := (hS.part (.cons rfl (.cons rfl (.cons rfl (.cons rfl (.cons rfl (.nil _)))))))
                refine x_then ?_
                obtain rfl := Option.some.inj h20
                exact ⟨(hS.part (.cons rfl (.cons rfl (.cons rfl (.cons rfl (.cons rfl (.nil _))))))), hM⟩
              · refine c_cond_false (hS.ev_ rfl) hc21 ?_
                refine wp_skip ?_
                refine x_then ?_
                obtain rfl := Option.some.inj h20
                exact ⟨(hS.part (.cons rfl (.cons rfl (.cons rfl (.cons rfl (.cons rfl (.nil _))))))), hM⟩
            · rintro a w ⟨hS, hM⟩
              refine wp_seq ?_
              refine wp_region_lit ?_
              refine st_val hS rfl rfl (by decide) (r_move rfl (hS.ev_ rfl)) fun a hS => ?_
              refine st_val hS rfl rfl (by decide) (r_move rfl (hS.ev_ rfl)) fun a hS => ?_
              refine st_val hS rfl rfl (by decide) (r_add rfl (hS.ev_ rfl) (hS.ev_ rfl)) fun a hS => ?_
              obtain ⟨s22, h23, h⟩ := bindO h
              refine st_val hS rfl rfl (by decide) (r_cut_s rfl un_9 (hS.ev_ (v := strV (([48, 49, 50, 51, 52, 53, 54, 55, 56, 57] : List UInt8))) rfl) (.inl (congrArg some (hS.ev_ rfl))) (.inl (congrArg some (hS.ev_ rfl))) h23) fun a hS => ?_
              refine st_val hS rfl rfl (by decide) (r_move rfl (hS.ev_ rfl)) fun a hS => ?_
              obtain ⟨h24, h⟩ := bindU h
              refine st_val hS rfl rfl (by decide) (r_sadd rfl (hS.ev_ rfl) (hS.ev_ rfl) (req_some h24)) fun a hS => ?_
              refine st_val hS rfl rfl (by decide) (r_assign rfl (hS.ev_ rfl)) fun a hS => ?_
              refine st_done ?_
              replace hS : Slots 29 [] a [(3, strV (s22 ++ x12)), (0, Value.int .i64 (x11)), (2, strV (([] : List UInt8))), (4, strV (x3))] := (hS.part (.cons rfl (.cons rfl (.cons rfl (.cons rfl (.nil _))))))
              refine x_then ?_
              refine wp_region_lit ?_
              refine st_val hS rfl rfl (by decide) (r_move rfl (hS.ev_ rfl)) fun a hS => ?_
              obtain ⟨q25, h26, h⟩ := bindO h
              obtain ⟨h26n, h26e⟩ := iquo_some h26
              refine st_val hS rfl rfl (by decide) (h26e ▸ r_quo rfl (hS.ev_ rfl) (hS.ev_ rfl) h26n) fun a hS => ?_
              refine st_val hS rfl rfl (by decide) (r_assign rfl (hS.ev_ rfl)) fun a hS => ?_
              refine st_done ?_
              replace hS : Slots 29 [] a [(0, Value.int .i64 (q25)), (3, strV (s22 ++ x12)), (2, strV (([] : List UInt8))), (4, strV (x3))] := (hS.part (.cons rfl (.cons rfl (.cons rfl (.cons rfl (.nil _))))))
              refine x_block ?_
              refine x_then ?_
              exact ih q25 (s22 ++ x12) _ h hr K10 _ _ hlK10 (hS.part (.cons rfl (.cons rfl (.cons rfl (.cons rfl (.nil _)))))) (hM)
          · refine c_cond_false (hS.ev_ rfl) hc16 ?_
            refine wp_exit ?_
            refine x_then_exit ?_
            refine x_then_exit ?_
            have ho' := (Option.some.inj h).trans hr
            refine hQ _ _ _ ?_
            subst ho'
            exact ⟨rfl, K10, hlK10, (hS.part (.cons rfl (.cons rfl (.cons rfl (.nil _))))), hM⟩
        exact key p1 ([] : List UInt8) _ h14 rfl K _ _ (Hp.le.refl _) (hS.part (.cons rfl (.cons rfl (.cons rfl (.cons rfl (.nil _)))))) (hM)
      · rintro e a w ⟨rfl, K15, hlK15, hS, hM⟩
        refine x_block_here ?_
        refine x_then ?_
        refine wp_seq ?_
        refine wp_region_lit ?_
        refine st_val hS rfl rfl (by decide) (r_move rfl (hS.ev_ rfl)) fun a hS => ?_
        refine st_val hS rfl rfl (by decide) (r_move rfl (hS.ev_ rfl)) fun a hS => ?_
        obtain ⟨h27, h⟩ := bindU h
        refine st_val hS rfl rfl (by decide) (r_sadd rfl (hS.ev_ rfl) (hS.ev_ rfl) (req_some h27)) fun a hS => ?_
        refine st_val hS rfl rfl (by decide) (r_assign rfl (hS.ev_ rfl)) fun a hS => ?_
        refine st_done ?_
        replace hS : Slots 29 [] a [(2, strV (x3 ++ o13))] := (hS.part (.cons rfl (.nil _)))
        refine x_then ?_
        refine wp_ret ?_
        have hr' := Option.some.inj h
        subst hr'
        refine ret1 (.inr rfl) hS rfl rfl ?_
        exact ⟨K15, hlK15, hM, rfl⟩

theorem R_Line_c {w0 w : World} {K : Hp} {L : List SP} {p1 : R_Event} {v2 : Value} {r : List UInt8} (hG : Glob w0) (h : R_Line p1 = some r) (f3 : (Kd.int .i64).sl K v2 p1.f_Marks) (hM : Sat w0 w K (L)) :
    Calls Tryd.prog 15 #[Value.agg #[Value.int .i64 (p1.f_Kind), Value.int .i64 (p1.f_N), strV (p1.f_Bytes), v2]] w (fun e w' => ∃ (K' : Hp), Hp.le K K' ∧ Sat w0 w' K' (L) ∧ e = .returned (strV (r))) := by
  refine enter_ (n := 81) (args := [Value.agg #[Value.int .i64 (p1.f_Kind), Value.int .i64 (p1.f_N), strV (p1.f_Bytes), v2]]) Tryd.func15 rfl rfl (Nat.le_of_ble_eq_true rfl) fun a hS => ?_
  replace hS : Slots 81 [] a [(0, Value.agg #[Value.int .i64 (p1.f_Kind), Value.int .i64 (p1.f_N), strV (p1.f_Bytes), v2])] := hS
  unfold R_Line at h
  refine wp_seq ?_
  refine wp_region_lit ?_
  refine wl_cons rfl (e_box (cs := [Value.int .i64 (p1.f_Kind), Value.int .i64 (p1.f_N), strV (p1.f_Bytes), v2]) hM rfl (hS.ev_ rfl) rfl fun g4 w hM => ?_)
  refine pl hS rfl (by decide) fun a hS => ?_
  refine st_val hS rfl rfl (by decide) (r_assign rfl (hS.ev_ (v := strV (([] : List UInt8))) rfl)) fun a hS => ?_
  refine st_done ?_
  replace hS : Slots 81 [] a [(2, strV (([] : List UInt8))), (1, Value.pointer (some ⟨g4, 0, none⟩))] := (hS.part (.cons rfl (.cons rfl (.nil _))))
  refine x_then ?_
  refine wp_seq ?_
  refine wp_seq ?_
  refine wp_region_lit ?_
  refine st_val hS rfl rfl (by decide) (r_fld_b rfl fo_36_0 (hS.ev_ rfl)) fun a hS => ?_
  refine st_val hS rfl rfl (by decide) (r_ld1_b rfl ag_3 (hS.ev_ rfl) rfl (Rd.of hM)) fun a hS => ?_
  refine st_done ?_
  replace hS : Slots 81 [] a [(10, Value.int .i64 (p1.f_Kind)), (2, strV (([] : List UInt8))), (1, Value.pointer (some ⟨g4, 0, none⟩))] := (hS.part (.cons rfl (.cons rfl (.cons rfl (.nil _)))))
  refine x_then ?_
  refine wp_block ?_
  refine wp_seq ?_
  refine wp_region_lit ?_
  refine st_val hS rfl rfl (by decide) (r_cmp rfl (hS.ev_ rfl) (hS.ev_ rfl) rfl) fun a hS => ?_
  refine st_val hS rfl rfl (by decide) (r_assign rfl (hS.ev_ rfl)) fun a hS => ?_
  refine st_done ?_
  replace hS : Slots 81 [] a [(11, Value.bool (p1.f_Kind == 2)), (10, Value.int .i64 (p1.f_Kind)), (2, strV (([] : List UInt8))), (1, Value.pointer (some ⟨g4, 0, none⟩))] := (hS.part (.cons rfl (.cons rfl (.cons rfl (.cons rfl (.nil _))))))
  refine x_then ?_
  rcases ifB h with ⟨hc6, h⟩ | ⟨hc6, h⟩
  · refine c_cond_true (hS.ev_ rfl) hc6 ?_
    refine wp_seq ?_
    refine wp_region_lit ?_
    refine st_val hS rfl rfl (by decide) (r_fld_b rfl fo_36_1 (hS.ev_ rfl)) fun a hS => ?_
    refine st_val hS rfl rfl (by decide) (r_ld1_b rfl ag_3 (hS.ev_ rfl) rfl (Rd.of hM)) fun a hS => ?_
    obtain ⟨y7, h8, h⟩ := bindO h
    have hc10 := Num_Figures_c hG h8 hM
    refine wl_cons rfl (e_call rfl Tryd.func30 rfl rfl (args1 (hS.ev_ rfl)) hc10 ?_)
    rintro _ w ⟨K9, hlK9, hM, rfl⟩
    refine ⟨_, rfl, ?_⟩
    refine pl hS rfl (by decide) fun a hS => ?_
    obtain ⟨h11, h⟩ := bindU h
    refine st_val hS rfl rfl (by decide) (r_sadd rfl (hS.ev_ (v := strV (([103, 114, 97, 110, 116, 32] : List UInt8))) rfl) (hS.ev_ rfl) (req_some h11)) fun a hS => ?_
    refine st_val hS rfl rfl (by decide) (r_assign rfl (hS.ev_ rfl)) fun a hS => ?_
    refine st_done ?_
    replace hS : Slots 81 [] a [(2, strV (([103, 114, 97, 110, 116, 32] : List UInt8) ++ y7)), (1, Value.pointer (some ⟨g4, 0, none⟩))] := (hS.part (.cons rfl (.cons rfl (.nil _))))
    refine x_then ?_
    refine wp_ret ?_
    refine x_block_ret ?_
    refine x_then_ret ?_
    have hr' := Option.some.inj h
    subst hr'
    refine ret1 (.inr rfl) hS rfl rfl ?_
    exact ⟨K9, hlK9, (hM).tail, rfl⟩
  · refine c_cond_false (hS.ev_ rfl) hc6 ?_
    refine wp_seq ?_
    refine wp_region_lit ?_
    refine st_val hS rfl rfl (by decide) (r_cmp rfl (hS.ev_ rfl) (hS.ev_ rfl) rfl) fun a hS => ?_
    refine st_val hS rfl rfl (by decide) (r_assign rfl (hS.ev_ rfl)) fun a hS => ?_
    refine st_done ?_
    replace hS : Slots 81 [] a [(17, Value.bool (p1.f_Kind == 3)), (10, Value.int .i64 (p1.f_Kind)), (2, strV (([] : List UInt8))), (1, Value.pointer (some ⟨g4, 0, none⟩))] := (hS.part (.cons rfl (.cons rfl (.cons rfl (.cons rfl (.nil _))))))
    refine x_then ?_
    rcases ifB h with ⟨hc12, h⟩ | ⟨hc12, h⟩
    · refine c_cond_true (hS.ev_ rfl) hc12 ?_
      refine wp_seq ?_
      refine wp_region_lit ?_
      refine st_val hS rfl rfl (by decide) (r_fld_b rfl fo_36_1 (hS.ev_ rfl)) fun a hS => ?_
      refine st_val hS rfl rfl (by decide) (r_ld1_b rfl ag_3 (hS.ev_ rfl) rfl (Rd.of hM)) fun a hS => ?_
      obtain ⟨y13, h14, h⟩ := bindO h
      have hc16 := Num_Figures_c hG h14 hM
      refine wl_cons rfl (e_call rfl Tryd.func30 rfl rfl (args1 (hS.ev_ rfl)) hc16 ?_)
      rintro _ w ⟨K15, hlK15, hM, rfl⟩
      refine ⟨_, rfl, ?_⟩
      refine pl hS rfl (by decide) fun a hS => ?_
      obtain ⟨h17, h⟩ := bindU h
      refine st_val hS rfl rfl (by decide) (r_sadd rfl (hS.ev_ (v := strV (([116, 105, 99, 107, 32] : List UInt8))) rfl) (hS.ev_ rfl) (req_some h17)) fun a hS => ?_
      refine st_val hS rfl rfl (by decide) (r_assign rfl (hS.ev_ rfl)) fun a hS => ?_
      refine st_done ?_
      replace hS : Slots 81 [] a [(2, strV (([116, 105, 99, 107, 32] : List UInt8) ++ y13)), (1, Value.pointer (some ⟨g4, 0, none⟩))] := (hS.part (.cons rfl (.cons rfl (.nil _))))
      refine x_then ?_
      refine wp_ret ?_
      refine x_block_ret ?_
      refine x_then_ret ?_
      have hr' := Option.some.inj h
      subst hr'
      refine ret1 (.inr rfl) hS rfl rfl ?_
      exact ⟨K15, hlK15, (hM).tail, rfl⟩
    · refine c_cond_false (hS.ev_ rfl) hc12 ?_
      refine wp_seq ?_
      refine wp_region_lit ?_
      refine st_val hS rfl rfl (by decide) (r_cmp rfl (hS.ev_ rfl) (hS.ev_ rfl) rfl) fun a hS => ?_
      refine st_val hS rfl rfl (by decide) (r_assign rfl (hS.ev_ rfl)) fun a hS => ?_
      refine st_done ?_
      replace hS : Slots 81 [] a [(23, Value.bool (p1.f_Kind == 4)), (2, strV (([] : List UInt8))), (1, Value.pointer (some ⟨g4, 0, none⟩))] := (hS.part (.cons rfl (.cons rfl (.cons rfl (.nil _)))))
      refine x_then ?_
      rcases ifB h with ⟨hc18, h⟩ | ⟨hc18, h⟩
      · refine c_cond_true (hS.ev_ rfl) hc18 ?_
        refine wp_seq ?_
        refine wp_region_lit ?_
        refine st_val hS rfl rfl (by decide) (r_assign rfl (hS.ev_ (v := strV (([99, 108, 111, 115, 101] : List UInt8))) rfl)) fun a hS => ?_
        refine st_done ?_
        replace hS : Slots 81 [] a [(2, strV (([99, 108, 111, 115, 101] : List UInt8))), (1, Value.pointer (some ⟨g4, 0, none⟩))] := (hS.part (.cons rfl (.cons rfl (.nil _))))
        refine x_then ?_
        refine wp_ret ?_
        refine x_block_ret ?_
        refine x_then_ret ?_
        have hr' := Option.some.inj h
        subst hr'
        refine ret1 (.inr rfl) hS rfl rfl ?_
        exact ⟨K, (Hp.le.refl _), (hM).tail, rfl⟩
      · refine c_cond_false (hS.ev_ rfl) hc18 ?_
        refine wp_skip ?_
        refine x_block ?_
        refine x_then ?_
        refine wp_seq ?_
        refine wp_region_lit ?_
        refine st_val hS rfl rfl (by decide) (r_assign rfl (hS.ev_ (v := strV (([98, 121, 116, 101, 115, 32] : List UInt8))) rfl)) fun a hS => ?_
        refine st_done ?_
        replace hS : Slots 81 [] a [(3, strV (([98, 121, 116, 101, 115, 32] : List UInt8))), (2, strV (([] : List UInt8))), (1, Value.pointer (some ⟨g4, 0, none⟩))] := (hS.part (.cons rfl (.cons rfl (.cons rfl (.nil _)))))
        refine x_then ?_
        refine wp_seq ?_
        refine wp_seq ?_
        refine wp_region_lit ?_
        refine st_val hS rfl rfl (by decide) (r_assign rfl (hS.ev_ rfl)) fun a hS => ?_
        refine st_done ?_
        replace hS : Slots 81 [] a [(4, Value.int .i64 (0)), (3, strV (([98, 121, 116, 101, 115, 32] : List UInt8))), (2, strV (([] : List UInt8))), (1, Value.pointer (some ⟨g4, 0, none⟩))] := (hS.part (.cons rfl (.cons rfl (.cons rfl (.cons rfl (.nil _))))))
        refine x_then ?_
        refine wp_block ?_
        obtain ⟨o26, h27, h⟩ := bindO h
        refine c_loop_ways (fun e a w => (e = .exit 1 ∧ ∃ (K28 : Hp), Hp.le K K28 ∧ Slots 81 [] a [(1, Value.pointer (some ⟨g4, 0, none⟩)), (2, strV (([] : List UInt8))), (3, strV (o26))] ∧ Sat w0 w K28 (SP.blk g4 36 [Value.int .i64 (p1.f_Kind), Value.int .i64 (p1.f_N), strV (p1.f_Bytes), v2] :: L))) ?_ ?_
        · intro c Q hc hQ
          have key : ∀ (x24 : Int) (x25 : List UInt8) (r' : List UInt8), R_Line_l1 p1 x24 x25 = some r' → r' = o26 → ∀ (K23 : Hp) (a : Act) (w : World), Hp.le K K23 → Slots 81 [] a [(4, Value.int .i64 (x24)), (3, strV (x25)), (2, strV (([] : List UInt8))), (1, Value.pointer (some ⟨g4, 0, none⟩))] → Sat w0 w K23 (SP.blk g4 36 [Value.int .i64 (p1.f_Kind), Value.int .i64 (p1.f_N), strV (p1.f_Bytes), v2] :: L) → Rnd Tryd.prog c Q a w := by
            refine R_Line_l1.partial_correctness p1 _ ?_
            intro R_Line_l1_rec ih x24 x25 r' h hr K23  a w hlK23 hS hM 
            subst hc
            refine c_round ?_
            refine wp_seq ?_
            refine wp_seq ?_
            refine wp_region_lit ?_
            refine st_val hS rfl rfl (by decide) (r_move rfl (hS.ev_ rfl)) fun a hS => ?_
            refine st_val hS rfl rfl (by decide) (r_fld_b rfl fo_36_2 (hS.ev_ rfl)) fun a hS => ?_
            refine st_val hS rfl rfl (by decide) (r_ld1_b rfl ag_9 (hS.ev_ rfl) rfl (Rd.of hM)) fun a hS => ?_
            refine st_val hS rfl rfl (by decide) (r_len_str rfl un_9 (hS.ev_ rfl)) fun a hS => ?_
            refine st_val hS rfl rfl (by decide) (r_cmp rfl (hS.ev_ rfl) (hS.ev_ rfl) rfl) fun a hS => ?_
            refine st_done ?_
            replace hS : Slots 81 [] a [(29, Value.bool (decide (x24 < ((p1.f_Bytes.length : Int))))), (4, Value.int .i64 (x24)), (3, strV (x25)), (2, strV (([] : List UInt8))), (1, Value.pointer (some ⟨g4, 0, none⟩))] := (hS.part (.cons rfl (.cons rfl (.cons rfl (.cons rfl (.cons rfl (.nil _)))))))
            refine x_then ?_
            rcases ifB h with ⟨hc29, h⟩ | ⟨hc29, h⟩
            · refine c_cond_true (hS.ev_ rfl) hc29 ?_
              refine wp_skip ?_
              refine x_then ?_
              refine wp_seq ?_
              refine wp_block ?_
              refine wp_seq ?_
              refine tk_start #[false, false, false, false, false, false, false, false, false, false, false, false, false, false] mixed_ rfl rfl ?_
              replace hM := hM.drew
              generalize w.drew = w at hM ⊢
              refine dk_any (i := 0) #[true, false, false, false, false, false, false, false, false, false, false, false, false, false] hS rfl (by kernel_rfl) rfl rfl (by decide) (fun w => r_fld_b rfl fo_36_2 (hS.ev_ rfl)) fun a hS => ?_
              refine dk_val (i := 1) (S := Rd w0 K23 [SP.blk g4 36 [Value.int .i64 (p1.f_Kind), Value.int .i64 (p1.f_N), strV (p1.f_Bytes), v2]]) #[true, true, false, false, false, false, false, false, false, false, false, false, false, false] hS rfl (by kernel_rfl) rfl rfl (by decide) (Rd.of hM.only) (fun w hR => r_ld1_b rfl ag_9 (hS.ev_ rfl) rfl hR) fun a hS => ?_
              refine dk_any (i := 2) #[true, true, true, false, false, false, false, false, false, false, false, false, false, false] hS rfl (by kernel_rfl) rfl rfl (by decide) (fun w => r_move rfl (hS.ev_ rfl)) fun a hS => ?_
              obtain ⟨c30, h31, h⟩ := bindO h
              refine dk_any (i := 3) #[true, true, true, true, false, false, false, false, false, false, false, false, false, false] hS rfl (by kernel_rfl) rfl rfl (by decide) (fun w => r_index_s rfl un_9 (hS.ev_ rfl) (hS.ev_ rfl) h31) fun a hS => ?_
              refine dk_any (i := 4) #[true, true, true, true, true, false, false, false, false, false, false, false, false, false] hS rfl (by kernel_rfl) rfl rfl (by decide) (fun w => r_conv_8i rfl un_5 un_3 (hS.ev_ rfl)) fun a hS => ?_
              obtain ⟨q32, h33, h⟩ := bindO h
              obtain ⟨h33n, h33e⟩ := iquo_some h33
              refine dk_any (i := 5) #[true, true, true, true, true, true, false, false, false, false, false, false, false, false] hS rfl (by kernel_rfl) rfl rfl (by decide) (fun w => h33e ▸ r_quo rfl (hS.ev_ rfl) (hS.ev_ rfl) h33n) fun a hS => ?_
              refine dk_any (i := 6) #[true, true, true, true, true, true, true, false, false, false, false, false, false, false] hS rfl (by kernel_rfl) rfl rfl (by decide) (fun w => r_fld_b rfl fo_36_2 (hS.ev_ rfl)) fun a hS => ?_
              refine dk_val (i := 7) (S := Rd w0 K23 [SP.blk g4 36 [Value.int .i64 (p1.f_Kind), Value.int .i64 (p1.f_N), strV (p1.f_Bytes), v2]]) #[true, true, true, true, true, true, true, true, false, false, false, false, false, false] hS rfl (by kernel_rfl) rfl rfl (by decide) (Rd.of hM.only) (fun w hR => r_ld1_b rfl ag_9 (hS.ev_ rfl) rfl hR) fun a hS => ?_
              refine dk_any (i := 8) #[true, true, true, true, true, true, true, true, true, false, false, false, false, false] hS rfl (by kernel_rfl) rfl rfl (by decide) (fun w => r_move rfl (hS.ev_ rfl)) fun a hS => ?_
              obtain ⟨c34, h35, h⟩ := bindO h
              refine dk_any (i := 9) #[true, true, true, true, true, true, true, true, true, true, false, false, false, false] hS rfl (by kernel_rfl) rfl rfl (by decide) (fun w => r_index_s rfl un_9 (hS.ev_ rfl) (hS.ev_ rfl) h35) fun a hS => ?_
              refine dk_any (i := 10) #[true, true, true, true, true, true, true, true, true, true, true, false, false, false] hS rfl (by kernel_rfl) rfl rfl (by decide) (fun w => r_conv_8i rfl un_5 un_3 (hS.ev_ rfl)) fun a hS => ?_
              obtain ⟨q36, h37, h⟩ := bindO h
              obtain ⟨h37n, h37e⟩ := irem_some h37
              refine dk_any (i := 11) #[true, true, true, true, true, true, true, true, true, true, true, true, false, false] hS rfl (by kernel_rfl) rfl rfl (by decide) (fun w => h37e ▸ r_rem rfl (hS.ev_ rfl) (hS.ev_ rfl) h37n) fun a hS => ?_
              refine dk_any (i := 12) #[true, true, true, true, true, true, true, true, true, true, true, true, true, false] hS rfl (by kernel_rfl) rfl rfl (by decide) (fun w => r_assign rfl (hS.ev_ rfl)) fun a hS => ?_
              refine dk_any (i := 13) #[true, true, true, true, true, true, true, true, true, true, true, true, true, true] hS rfl (by kernel_rfl) rfl rfl (by decide) (fun w => r_assign rfl (hS.ev_ rfl)) fun a hS => ?_
              refine tk_done (by kernel_rfl) ?_
              replace hS : Slots 81 [] a [(6, Value.int .i64 (q36)), (5, Value.int .i64 (q32)), (4, Value.int .i64 (x24)), (3, strV (x25)), (2, strV (([] : List UInt8))), (1, Value.pointer (some ⟨g4, 0, none⟩))] := (hS.part (.cons rfl (.cons rfl (.cons rfl (.cons rfl (.cons rfl (.cons rfl (.nil _))))))))
              refine x_then ?_
              refine tk_start #[false, false, false, false, false, false, false, false, false, false, false, false] mixed_ rfl rfl ?_
              replace hM := hM.drew
              generalize w.drew = w at hM ⊢
              refine dk_any (i := 0) #[true, false, false, false, false, false, false, false, false, false, false, false] hS rfl (by kernel_rfl) rfl rfl (by decide) (fun w => r_move rfl (hS.ev_ rfl)) fun a hS => ?_
              refine dk_any (i := 1) #[true, true, false, false, false, false, false, false, false, false, false, false] hS rfl (by kernel_rfl) rfl rfl (by decide) (fun w => r_move rfl (hS.ev_ rfl)) fun a hS => ?_
              refine dk_any (i := 2) #[true, true, true, false, false, false, false, false, false, false, false, false] hS rfl (by kernel_rfl) rfl rfl (by decide) (fun w => r_move rfl (hS.ev_ rfl)) fun a hS => ?_
              refine dk_any (i := 3) #[true, true, true, true, false, false, false, false, false, false, false, false] hS rfl (by kernel_rfl) rfl rfl (by decide) (fun w => r_add rfl (hS.ev_ rfl) (hS.ev_ rfl)) fun a hS => ?_
              obtain ⟨s38, h39, h⟩ := bindO h
              refine dk_any (i := 4) #[true, true, true, true, true, false, false, false, false, false, false, false] hS rfl (by kernel_rfl) rfl rfl (by decide) (fun w => r_cut_s rfl un_9 (hS.ev_ (v := strV (([48, 49, 50, 51, 52, 53, 54, 55, 56, 57, 97, 98, 99, 100, 101, 102] : List UInt8))) rfl) (.inl (congrArg some (hS.ev_ rfl))) (.inl (congrArg some (hS.ev_ rfl))) h39) fun a hS => ?_
              refine dk_any (i := 5) #[true, true, true, true, true, true, false, false, false, false, false, false] hS rfl (by kernel_rfl) rfl rfl (by decide) (fun w => r_move rfl (hS.ev_ rfl)) fun a hS => ?_
              refine dk_any (i := 6) #[true, true, true, true, true, true, true, false, false, false, false, false] hS rfl (by kernel_rfl) rfl rfl (by decide) (fun w => r_move rfl (hS.ev_ rfl)) fun a hS => ?_
              refine dk_any (i := 7) #[true, true, true, true, true, true, true, true, false, false, false, false] hS rfl (by kernel_rfl) rfl rfl (by decide) (fun w => r_add rfl (hS.ev_ rfl) (hS.ev_ rfl)) fun a hS => ?_
              obtain ⟨s40, h41, h⟩ := bindO h
              refine dk_any (i := 8) #[true, true, true, true, true, true, true, true, true, false, false, false] hS rfl (by kernel_rfl) rfl rfl (by decide) (fun w => r_cut_s rfl un_9 (hS.ev_ (v := strV (([48, 49, 50, 51, 52, 53, 54, 55, 56, 57, 97, 98, 99, 100, 101, 102] : List UInt8))) rfl) (.inl (congrArg some (hS.ev_ rfl))) (.inl (congrArg some (hS.ev_ rfl))) h41) fun a hS => ?_
              obtain ⟨h42, h⟩ := bindU h
              refine dk_any (i := 9) #[true, true, true, true, true, true, true, true, true, true, false, false] hS rfl (by kernel_rfl) rfl rfl (by decide) (fun w => r_sadd rfl (hS.ev_ rfl) (hS.ev_ rfl) (req_some h42)) fun a hS => ?_
              obtain ⟨h43, h⟩ := bindU h
              refine dk_any (i := 10) #[true, true, true, true, true, true, true, true, true, true, true, false] hS rfl (by kernel_rfl) rfl rfl (by decide) (fun w => r_sadd rfl (hS.ev_ rfl) (hS.ev_ rfl) (req_some h43)) fun a hS => ?_
              refine dk_any (i := 11) #[true, true, true, true, true, true, true, true, true, true, true, true] hS rfl (by kernel_rfl) rfl rfl (by decide) (fun w => r_assign rfl (hS.ev_ rfl)) fun a hS => ?_
              refine tk_done (by kernel_rfl) ?_
              replace hS : Slots 81 [] a [(3, strV (x25 ++ (s38 ++ s40))), (4, Value.int .i64 (x24)), (2, strV (([] : List UInt8))), (1, Value.pointer (some ⟨g4, 0, none⟩))] := (hS.part (.cons rfl (.cons rfl (.cons rfl (.cons rfl (.nil _))))))
              refine x_block ?_
              refine x_then ?_
              refine wp_region_lit ?_
              refine st_val hS rfl rfl (by decide) (r_move rfl (hS.ev_ rfl)) fun a hS => ?_
              refine st_val hS rfl rfl (by decide) (r_add rfl (hS.ev_ rfl) (hS.ev_ rfl)) fun a hS => ?_
              refine st_val hS rfl rfl (by decide) (r_assign rfl (hS.ev_ rfl)) fun a hS => ?_
              refine st_done ?_
              replace hS : Slots 81 [] a [(4, Value.int .i64 (w64 (x24 + 1))), (3, strV (x25 ++ (s38 ++ s40))), (2, strV (([] : List UInt8))), (1, Value.pointer (some ⟨g4, 0, none⟩))] := (hS.part (.cons rfl (.cons rfl (.cons rfl (.cons rfl (.nil _))))))
              refine x_then ?_
              exact ih (w64 (x24 + 1)) (x25 ++ (s38 ++ s40)) _ h hr K23 _ _ hlK23 (hS.part (.cons rfl (.cons rfl (.cons rfl (.cons rfl (.nil _)))))) (hM)
            · refine c_cond_false (hS.ev_ rfl) hc29 ?_
              refine wp_exit ?_
              refine x_then_exit ?_
              refine x_then_exit ?_
              have ho' := (Option.some.inj h).trans hr
              refine hQ _ _ _ ?_
              subst ho'
              exact ⟨rfl, K23, hlK23, (hS.part (.cons rfl (.cons rfl (.cons rfl (.nil _))))), hM⟩
          exact key 0 ([98, 121, 116, 101, 115, 32] : List UInt8) _ h27 rfl K _ _ (Hp.le.refl _) (hS.part (.cons rfl (.cons rfl (.cons rfl (.cons rfl (.nil _)))))) (hM)
        · rintro e a w ⟨rfl, K28, hlK28, hS, hM⟩
          refine x_block_here ?_
          refine x_then ?_
          obtain ⟨x44, h45, h⟩ := bindO h
          refine c_cut (fun a w => Slots 81 [] a [(1, Value.pointer (some ⟨g4, 0, none⟩)), (2, strV (([] : List UInt8))), (3, strV (x44))] ∧ Sat w0 w K28 (SP.blk g4 36 [Value.int .i64 (p1.f_Kind), Value.int .i64 (p1.f_N), strV (p1.f_Bytes), v2] :: L)) ?_ ?_
          ·
            refine wp_seq ?_
            refine wp_region_lit ?_
            refine st_val hS rfl rfl (by decide) (r_fld_b rfl fo_36_2 (hS.ev_ rfl)) fun a hS => ?_
            refine st_val hS rfl rfl (by decide) (r_ld1_b rfl ag_9 (hS.ev_ rfl) rfl (Rd.of hM)) fun a hS => ?_
            refine st_val hS rfl rfl (by decide) (r_len_str rfl un_9 (hS.ev_ rfl)) fun a hS => ?_
            refine st_val hS rfl rfl (by decide) (r_cmp rfl (hS.ev_ rfl) (hS.ev_ rfl) rfl) fun a hS => ?_
            refine st_done ?_
            replace hS : Slots 81 [] a [(58, Value.bool (((p1.f_Bytes.length : Int)) == 0)), (1, Value.pointer (some ⟨g4, 0, none⟩)), (2, strV (([] : List UInt8))), (3, strV (o26))] := (hS.part (.cons rfl (.cons rfl (.cons rfl (.cons rfl (.nil _))))))
            refine x_then ?_
            rcases ifB h45 with ⟨hc46, h45⟩ | ⟨hc46, h45⟩
            · refine c_cond_true (hS.ev_ rfl) hc46 ?_
              refine wp_region_lit ?_
              refine st_val hS rfl rfl (by decide) (r_move rfl (hS.ev_ rfl)) fun a hS => ?_
              obtain ⟨h47, h45⟩ := bindU h45
              refine st_val hS rfl rfl (by decide) (r_sadd rfl (hS.ev_ rfl) (hS.ev_ (v := strV (([45] : List UInt8))) rfl) (req_some h47)) fun a hS => ?_
              refine st_val hS rfl rfl (by decide) (r_assign rfl (hS.ev_ rfl)) fun a hS => ?_
              refine st_done ?_
              replace hS : Slots 81 [] a [(3, strV (o26 ++ ([45] : List UInt8))), (1, Value.pointer (some ⟨g4, 0, none⟩)), (2, strV (([] : List UInt8)))] := (hS.part (.cons rfl (.cons rfl (.cons rfl (.nil _)))))
              refine x_then ?_
              obtain rfl := Option.some.inj h45
              exact ⟨(hS.part (.cons rfl (.cons rfl (.cons rfl (.nil _))))), hM⟩
            · refine c_cond_false (hS.ev_ rfl) hc46 ?_
              refine wp_skip ?_
              refine x_then ?_
              obtain rfl := Option.some.inj h45
              exact ⟨(hS.part (.cons rfl (.cons rfl (.cons rfl (.nil _))))), hM⟩
          · rintro a w ⟨hS, hM⟩
            refine wp_seq ?_
            refine wp_seq ?_
            refine wp_region_lit ?_
            refine st_val hS rfl rfl (by decide) (r_fld_b rfl fo_36_3 (hS.ev_ rfl)) fun a hS => ?_
            refine st_val hS rfl rfl (by decide) (r_ld1_b rfl ag_23 (hS.ev_ rfl) rfl (Rd.of hM)) fun a hS => ?_
            refine st_val hS rfl rfl (by decide) (r_len_sl rfl un_23 (hS.ev_ rfl) f3) fun a hS => ?_
            refine st_val hS rfl rfl (by decide) (r_move rfl (hS.ev_ rfl)) fun a hS => ?_
            refine st_done ?_
            replace hS : Slots 81 [] a [(64, Value.int .i64 (0)), (63, Value.int .i64 ((p1.f_Marks.length : Int))), (62, v2), (2, strV (([] : List UInt8))), (3, strV (x44))] := (hS.part (.cons rfl (.cons rfl (.cons rfl (.cons rfl (.cons rfl (.nil _)))))))
            refine x_then ?_
            refine wp_block ?_
            obtain ⟨o55, h56, h⟩ := bindO h
            refine c_loop_ways (fun e a w => (e = .exit 3 ∧ ∃ (K57 : Hp), Hp.le K28 K57 ∧ Slots 81 [] a [(2, strV (([] : List UInt8))), (3, strV (o55))] ∧ Sat w0 w K57 (SP.blk g4 36 [Value.int .i64 (p1.f_Kind), Value.int .i64 (p1.f_N), strV (p1.f_Bytes), v2] :: L))) ?_ ?_
            · intro c Q hc hQ
              have key : ∀ (x53 : Int) (x54 : List UInt8) (r' : List UInt8), R_Line_l2 p1 x53 x54 = some r' → r' = o55 → ∀ (K52 : Hp) (a : Act) (w : World), Hp.le K28 K52 → Slots 81 [] a [(64, Value.int .i64 (x53)), (63, Value.int .i64 ((p1.f_Marks.length : Int))), (62, v2), (2, strV (([] : List UInt8))), (3, strV (x54))] → Sat w0 w K52 (SP.blk g4 36 [Value.int .i64 (p1.f_Kind), Value.int .i64 (p1.f_N), strV (p1.f_Bytes), v2] :: L) → Rnd Tryd.prog c Q a w := by
                refine R_Line_l2.partial_correctness p1 _ ?_
                intro R_Line_l2_rec ih x53 x54 r' h hr K52  a w hlK52 hS hM 
                subst hc
                refine c_round ?_
                refine wp_seq ?_
                refine wp_region_lit ?_
                refine st_val hS rfl rfl (by decide) (r_cmp rfl (hS.ev_ rfl) (hS.ev_ rfl) rfl) fun a hS => ?_
                refine st_done ?_
                replace hS : Slots 81 [] a [(65, Value.bool (decide (x53 < ((p1.f_Marks.length : Int))))), (64, Value.int .i64 (x53)), (63, Value.int .i64 ((p1.f_Marks.length : Int))), (62, v2), (2, strV (([] : List UInt8))), (3, strV (x54))] := (hS.part (.cons rfl (.cons rfl (.cons rfl (.cons rfl (.cons rfl (.cons rfl (.nil _))))))))
                refine x_then ?_
                refine wp_seq ?_
                rcases ifB h with ⟨hc58, h⟩ | ⟨hc58, h⟩
                · refine c_cond_true (hS.ev_ rfl) hc58 ?_
                  refine wp_skip ?_
                  refine x_then ?_
                  obtain ⟨x60, h61, h⟩ := bindO h
                  refine c_cut (fun a w => ∃ (K59 : Hp), Hp.le K52 K59 ∧ Slots 81 [] a [(2, strV (([] : List UInt8))), (62, v2), (63, Value.int .i64 ((p1.f_Marks.length : Int))), (64, Value.int .i64 (x53)), (3, strV (x60))] ∧ Sat w0 w K59 (SP.blk g4 36 [Value.int .i64 (p1.f_Kind), Value.int .i64 (p1.f_N), strV (p1.f_Bytes), v2] :: L)) ?_ ?_
                  ·
                    refine wp_block ?_
                    refine wp_seq ?_
                    refine wp_region_lit ?_
                    refine st_val hS rfl rfl (by decide) (r_move rfl (hS.ev_ rfl)) fun a hS => ?_
                    obtain ⟨e62, h63, h61⟩ := bindO h61
                    obtain ⟨ad64, cp65, cs66, hv67, hr68, h0_69, h1_70, hq71⟩ := sl_at f3 h63 (by decide)
                    obtain rfl := hr68
                    refine st_val hS rfl rfl (by decide) (r_idx_sl rfl un_23 ti_3 (hS.ev_ rfl) hv67 (hS.ev_ rfl) h0_69 h1_70) fun a hS => ?_
                    refine st_val hS rfl rfl (by decide) (r_ld1_k rfl ag_3 (hS.ev_ rfl) hq71 rfl (Rd.up (hlK28.trans hlK52) hM.nil_)) fun a hS => ?_
                    refine st_val hS rfl rfl (by decide) (r_assign rfl (hS.ev_ rfl)) fun a hS => ?_
                    refine st_val hS rfl rfl (by decide) (r_assign rfl (hS.ev_ rfl)) fun a hS => ?_
                    refine st_done ?_
                    replace hS : Slots 81 [] a [(8, Value.int .i64 (e62)), (7, Value.int .i64 (x53)), (64, Value.int .i64 (x53)), (63, Value.int .i64 ((p1.f_Marks.length : Int))), (62, v2), (2, strV (([] : List UInt8))), (3, strV (x54))] := (hS.part (.cons rfl (.cons rfl (.cons rfl (.cons rfl (.cons rfl (.cons rfl (.cons rfl (.nil _)))))))))
                    refine x_then ?_
                    obtain ⟨x72, h73, h61⟩ := bindO h61
                    refine c_cut (fun a w => Slots 81 [] a [(2, strV (([] : List UInt8))), (8, Value.int .i64 (e62)), (62, v2), (63, Value.int .i64 ((p1.f_Marks.length : Int))), (64, Value.int .i64 (x53)), (3, strV (x72))] ∧ Sat w0 w K52 (SP.blk g4 36 [Value.int .i64 (p1.f_Kind), Value.int .i64 (p1.f_N), strV (p1.f_Bytes), v2] :: L)) ?_ ?_
                    ·
                      refine wp_seq ?_
                      refine wp_region_lit ?_
                      refine st_val hS rfl rfl (by decide) (r_move rfl (hS.ev_ rfl)) fun a hS => ?_
                      refine st_val hS rfl rfl (by decide) (r_cmp rfl (hS.ev_ rfl) (hS.ev_ rfl) rfl) fun a hS => ?_
                      refine st_done ?_
                      replace hS : Slots 81 [] a [(70, Value.bool (x53 == 0)), (8, Value.int .i64 (e62)), (64, Value.int .i64 (x53)), (63, Value.int .i64 ((p1.f_Marks.length : Int))), (62, v2), (2, strV (([] : List UInt8))), (3, strV (x54))] := (hS.part (.cons rfl (.cons rfl (.cons rfl (.cons rfl (.cons rfl (.cons rfl (.cons rfl (.nil _)))))))))
                      refine x_then ?_
                      rcases ifB h73 with ⟨hc74, h73⟩ | ⟨hc74, h73⟩
                      · refine c_cond_true (hS.ev_ rfl) hc74 ?_
                        refine wp_region_lit ?_
                        refine st_val hS rfl rfl (by decide) (r_move rfl (hS.ev_ rfl)) fun a hS => ?_
                        obtain ⟨h75, h73⟩ := bindU h73
                        refine st_val hS rfl rfl (by decide) (r_sadd rfl (hS.ev_ rfl) (hS.ev_ (v := strV (([32, 109, 97, 114, 107, 115, 32] : List UInt8))) rfl) (req_some h75)) fun a hS => ?_
                        refine st_val hS rfl rfl (by decide) (r_assign rfl (hS.ev_ rfl)) fun a hS => ?_
                        refine st_done ?_
                        replace hS : Slots 81 [] a [(3, strV (x54 ++ ([32, 109, 97, 114, 107, 115, 32] : List UInt8))), (8, Value.int .i64 (e62)), (64, Value.int .i64 (x53)), (63, Value.int .i64 ((p1.f_Marks.length : Int))), (62, v2), (2, strV (([] : List UInt8)))] := (hS.part (.cons rfl (.cons rfl (.cons rfl (.cons rfl (.cons rfl (.cons rfl (.nil _))))))))
                        refine x_then ?_
                        obtain rfl := Option.some.inj h73
                        exact ⟨(hS.part (.cons rfl (.cons rfl (.cons rfl (.cons rfl (.cons rfl (.cons rfl (.nil _)))))))), hM⟩
                      · refine c_cond_false (hS.ev_ rfl) hc74 ?_
                        refine wp_region_lit ?_
                        refine st_val hS rfl rfl (by decide) (r_move rfl (hS.ev_ rfl)) fun a hS => ?_
                        obtain ⟨h76, h73⟩ := bindU h73
                        refine st_val hS rfl rfl (by decide) (r_sadd rfl (hS.ev_ rfl) (hS.ev_ (v := strV (([44] : List UInt8))) rfl) (req_some h76)) fun a hS => ?_
                        refine st_val hS rfl rfl (by decide) (r_assign rfl (hS.ev_ rfl)) fun a hS => ?_
                        refine st_done ?_
                        replace hS : Slots 81 [] a [(3, strV (x54 ++ ([44] : List UInt8))), (8, Value.int .i64 (e62)), (64, Value.int .i64 (x53)), (63, Value.int .i64 ((p1.f_Marks.length : Int))), (62, v2), (2, strV (([] : List UInt8)))] := (hS.part (.cons rfl (.cons rfl (.cons rfl (.cons rfl (.cons rfl (.cons rfl (.nil _))))))))
                        refine x_then ?_
                        obtain rfl := Option.some.inj h73
                        exact ⟨(hS.part (.cons rfl (.cons rfl (.cons rfl (.cons rfl (.cons rfl (.cons rfl (.nil _)))))))), hM⟩
                    · rintro a w ⟨hS, hM⟩
                      refine wp_region_lit ?_
                      refine st_val hS rfl rfl (by decide) (r_move rfl (hS.ev_ rfl)) fun a hS => ?_
                      refine st_val hS rfl rfl (by decide) (r_move rfl (hS.ev_ rfl)) fun a hS => ?_
                      obtain ⟨y77, h78, h61⟩ := bindO h61
                      have hc80 := Num_Figures_c hG h78 hM
                      refine wl_cons rfl (e_call rfl Tryd.func30 rfl rfl (args1 (hS.ev_ rfl)) hc80 ?_)
                      rintro _ w ⟨K79, hlK79, hM, rfl⟩
                      refine ⟨_, rfl, ?_⟩
                      refine pl hS rfl (by decide) fun a hS => ?_
                      obtain ⟨h81, h61⟩ := bindU h61
                      refine st_val hS rfl rfl (by decide) (r_sadd rfl (hS.ev_ rfl) (hS.ev_ rfl) (req_some h81)) fun a hS => ?_
                      refine st_val hS rfl rfl (by decide) (r_assign rfl (hS.ev_ rfl)) fun a hS => ?_
                      refine st_done ?_
                      replace hS : Slots 81 [] a [(3, strV (x72 ++ y77)), (2, strV (([] : List UInt8))), (62, v2), (63, Value.int .i64 ((p1.f_Marks.length : Int))), (64, Value.int .i64 (x53))] := (hS.part (.cons rfl (.cons rfl (.cons rfl (.cons rfl (.cons rfl (.nil _)))))))
                      refine x_block ?_
                      refine x_then ?_
                      obtain rfl := Option.some.inj h61
                      exact ⟨K79, hlK79, (hS.part (.cons rfl (.cons rfl (.cons rfl (.cons rfl (.cons rfl (.nil _))))))), hM⟩
                  · rintro a w ⟨K59, hlK59, hS, hM⟩
                    refine wp_region_lit ?_
                    refine st_val hS rfl rfl (by decide) (r_add rfl (hS.ev_ rfl) (hS.ev_ rfl)) fun a hS => ?_
                    refine st_val hS rfl rfl (by decide) (r_move rfl (hS.ev_ rfl)) fun a hS => ?_
                    refine st_done ?_
                    replace hS : Slots 81 [] a [(64, Value.int .i64 (w64 (x53 + 1))), (2, strV (([] : List UInt8))), (62, v2), (63, Value.int .i64 ((p1.f_Marks.length : Int))), (3, strV (x60))] := (hS.part (.cons rfl (.cons rfl (.cons rfl (.cons rfl (.cons rfl (.nil _)))))))
                    refine x_then ?_
                    exact ih (w64 (x53 + 1)) x60 _ h hr K59 _ _ (hlK52.trans hlK59) (hS.part (.cons rfl (.cons rfl (.cons rfl (.cons rfl (.cons rfl (.nil _))))))) (hM)
                · refine c_cond_false (hS.ev_ rfl) hc58 ?_
                  refine wp_exit ?_
                  refine x_then_exit ?_
                  refine x_then_exit ?_
                  have ho' := (Option.some.inj h).trans hr
                  refine hQ _ _ _ ?_
                  subst ho'
                  exact ⟨rfl, K52, hlK52, (hS.part (.cons rfl (.cons rfl (.nil _)))), hM⟩
              exact key 0 x44 _ h56 rfl K28 _ _ (Hp.le.refl _) (hS.part (.cons rfl (.cons rfl (.cons rfl (.cons rfl (.cons rfl (.nil _))))))) (hM)
            · rintro e a w ⟨rfl, K57, hlK57, hS, hM⟩
              refine x_block_here ?_
              refine x_then ?_
              refine wp_seq ?_
              refine wp_region_lit ?_
              refine st_val hS rfl rfl (by decide) (r_move rfl (hS.ev_ rfl)) fun a hS => ?_
              refine st_val hS rfl rfl (by decide) (r_assign rfl (hS.ev_ rfl)) fun a hS => ?_
              refine st_done ?_
              replace hS : Slots 81 [] a [(2, strV (o55))] := (hS.part (.cons rfl (.nil _)))
              refine x_then ?_
              refine wp_ret ?_
              have hr' := Option.some.inj h
              subst hr'
              refine ret1 (.inr rfl) hS rfl rfl ?_
              exact ⟨K57, (hlK28.trans hlK57), (hM).tail, rfl⟩

theorem raw_Sum_c {w0 w : World} {K : Hp} {L : List SP} {p1 : List raw_Event} {v2 : Value} {r : Int × Int × Int} (hG : Glob w0) (h : raw_Sum p1 = some r) (f3 : kraw_Event.sl K v2 p1) (hM : Sat w0 w K (L)) :
    Calls Tryd.prog 16 #[v2] w (fun e w' => ∃ (K' : Hp), Hp.le K K' ∧ Sat w0 w' K' (L) ∧ e = .returned (Value.tuple #[Value.int .i64 (r.1), Value.int .i64 (r.2.1), Value.int .i64 (r.2.2)])) := by
  refine enter_ (n := 39) (args := [v2]) Tryd.func16 rfl rfl (Nat.le_of_ble_eq_true rfl) fun a hS => ?_
  replace hS : Slots 39 [] a [(0, v2)] := hS
  unfold raw_Sum at h
  refine wp_seq ?_
  refine wp_region_lit ?_
  refine st_val hS rfl rfl (by decide) (r_assign rfl (hS.ev_ rfl)) fun a hS => ?_
  refine st_val hS rfl rfl (by decide) (r_assign rfl (hS.ev_ rfl)) fun a hS => ?_
  refine st_val hS rfl rfl (by decide) (r_assign rfl (hS.ev_ rfl)) fun a hS => ?_
  refine st_done ?_
  replace hS : Slots 39 [] a [(4, Value.int .i64 (0)), (3, Value.int .i64 (0)), (2, Value.int .i64 (0)), (0, v2)] := (hS.part (.cons rfl (.cons rfl (.cons rfl (.cons rfl (.nil _))))))
  refine x_then ?_
  refine wp_seq ?_
  refine wp_seq ?_
  refine wp_region_lit ?_
  refine st_val hS rfl rfl (by decide) (r_move rfl (hS.ev_ rfl)) fun a hS => ?_
  refine st_val hS rfl rfl (by decide) (r_len_sl rfl un_44 (hS.ev_ rfl) f3) fun a hS => ?_
  refine st_val hS rfl rfl (by decide) (r_move rfl (hS.ev_ rfl)) fun a hS => ?_
  refine st_done ?_
  replace hS : Slots 39 [] a [(9, Value.int .i64 (0)), (8, Value.int .i64 ((p1.length : Int))), (7, v2), (4, Value.int .i64 (0)), (3, Value.int .i64 (0)), (2, Value.int .i64 (0))] := (hS.part (.cons rfl (.cons rfl (.cons rfl (.cons rfl (.cons rfl (.cons rfl (.nil _))))))))
  refine x_then ?_
  refine wp_block ?_
  obtain ⟨o15, h16, h⟩ := bindO h
  refine c_loop_ways (fun e a w => (e = .exit 0 ∧ ∃ (K17 : Hp), Hp.le K K17 ∧ Slots 39 [] a [(2, Value.int .i64 (o15.1)), (3, Value.int .i64 (o15.2.1)), (4, Value.int .i64 (o15.2.2))] ∧ Sat w0 w K17 (L))) ?_ ?_
  · intro c Q hc hQ
    have key : ∀ (x11 : Int) (x12 : Int) (x13 : Int) (x14 : Int) (r' : Int × Int × Int), raw_Sum_l1 p1 x11 x12 x13 x14 = some r' → r' = o15 → ∀ (K10 : Hp) (a : Act) (w : World), Hp.le K K10 → Slots 39 [] a [(9, Value.int .i64 (x11)), (8, Value.int .i64 ((p1.length : Int))), (7, v2), (4, Value.int .i64 (x12)), (3, Value.int .i64 (x13)), (2, Value.int .i64 (x14))] → Sat w0 w K10 (L) → Rnd Tryd.prog c Q a w := by
      refine raw_Sum_l1.partial_correctness p1 _ ?_
      intro raw_Sum_l1_rec ih x11 x12 x13 x14 r' h hr K10  a w hlK10 hS hM 
      subst hc
      refine c_round ?_
      refine wp_seq ?_
      refine wp_region_lit ?_
      refine st_val hS rfl rfl (by decide) (r_cmp rfl (hS.ev_ rfl) (hS.ev_ rfl) rfl) fun a hS => ?_
      refine st_done ?_
      replace hS : Slots 39 [] a [(10, Value.bool (decide (x11 < ((p1.length : Int))))), (9, Value.int .i64 (x11)), (8, Value.int .i64 ((p1.length : Int))), (7, v2), (4, Value.int .i64 (x12)), (3, Value.int .i64 (x13)), (2, Value.int .i64 (x14))] := (hS.part (.cons rfl (.cons rfl (.cons rfl (.cons rfl (.cons rfl (.cons rfl (.cons rfl (.nil _)))))))))
      refine x_then ?_
      refine wp_seq ?_
      rcases ifB h with ⟨hc18, h⟩ | ⟨hc18, h⟩
      · refine c_cond_true (hS.ev_ rfl) hc18 ?_
        refine wp_skip ?_
        refine x_then ?_
        obtain ⟨x20, h21, h⟩ := bindO h
        refine c_cut (fun a w => ∃ (K19 : Hp), Hp.le K10 K19 ∧ Slots 39 [] a [(7, v2), (8, Value.int .i64 ((p1.length : Int))), (9, Value.int .i64 (x11)), (2, Value.int .i64 (x20.1)), (3, Value.int .i64 (x20.2.1)), (4, Value.int .i64 (x20.2.2))] ∧ Sat w0 w K19 (L)) ?_ ?_
        ·
          refine wp_block ?_
          refine wp_seq ?_
          refine wp_region_lit ?_
          obtain ⟨e22, h23, h21⟩ := bindO h21
          obtain ⟨ad24, cp25, cs26, hv27, hr28, h0_29, h1_30, hq31⟩ := sl_at f3 h23 (by decide)
          obtain ⟨v32, v34, rfl, f33, f35⟩ := kraw_Event_open hr28
          refine st_val hS rfl rfl (by decide) (r_idx_sl rfl un_44 ti_25 (hS.ev_ rfl) hv27 (hS.ev_ rfl) h0_29 h1_30) fun a hS => ?_
          refine st_val hS rfl rfl (by decide) (r_ldN_k (cs' := [Value.int .i64 (e22.f_Kind), Value.int .i64 (e22.f_N), v32, v34]) rfl ag_25 ti_25 (hS.ev_ rfl) hq31 rfl (Rd.up hlK10 hM.nil_)) fun a hS => ?_
          refine wl_cons rfl (e_alloc (cs := [Value.int .i64 (0), Value.int .i64 (0), Value.slice none 0 0, Value.slice none 0 0]) hM rfl ti_25 rfl fun g36 w hM => ?_)
          refine pl hS rfl (by decide) fun a hS => ?_
          refine wl_cons rfl (e_storeN (vs := [Value.int .i64 (e22.f_Kind), Value.int .i64 (e22.f_N), v32, v34]) hM rfl ti_25 (hS.ev_ rfl) (hS.ev_ rfl) (ones_cons rfl (ones_cons rfl (ones_cons (sl_one f33) (ones_cons (sl_one f35) ones_nil)))) (Nat.le_of_ble_eq_true rfl) fun w hM => ?_)
          have hM : Sat w0 w K10 (SP.blk g36 25 [Value.int .i64 (e22.f_Kind), Value.int .i64 (e22.f_N), v32, v34] :: L) := hM
          refine pl0 hS rfl fun a hS => ?_
          refine st_done ?_
          replace hS : Slots 39 [] a [(6, Value.pointer (some ⟨g36, 0, none⟩)), (9, Value.int .i64 (x11)), (8, Value.int .i64 ((p1.length : Int))), (7, v2), (4, Value.int .i64 (x12)), (3, Value.int .i64 (x13)), (2, Value.int .i64 (x14))] := (hS.part (.cons rfl (.cons rfl (.cons rfl (.cons rfl (.cons rfl (.cons rfl (.cons rfl (.nil _)))))))))
          refine x_then ?_
          refine wp_seq ?_
          refine wp_seq ?_
          refine wp_region_lit ?_
          refine st_val hS rfl rfl (by decide) (r_ldN_b (cs' := [Value.int .i64 (e22.f_Kind), Value.int .i64 (e22.f_N), v32, v34]) rfl ag_25 ti_25 (hS.ev_ rfl) rfl (Rd.of hM)) fun a hS => ?_
          obtain ⟨y38, h39, h21⟩ := bindO h21
          have hc41 := raw_Right_c hG h39 (Kd.sl_mono hlK10 f33) (Kd.sl_mono hlK10 f35) hM
          refine wl_cons rfl (e_call rfl Tryd.func10 rfl rfl (args1 (hS.ev_ rfl)) hc41 ?_)
          rintro _ w ⟨K40, hlK40, hM, rfl⟩
          refine ⟨_, rfl, ?_⟩
          refine pl hS rfl (by decide) fun a hS => ?_
          refine st_val hS rfl rfl (by decide) (r_not rfl (hS.ev_ rfl)) fun a hS => ?_
          refine st_done ?_
          replace hS : Slots 39 [] a [(15, Value.bool (!y38)), (6, Value.pointer (some ⟨g36, 0, none⟩)), (9, Value.int .i64 (x11)), (8, Value.int .i64 ((p1.length : Int))), (7, v2), (4, Value.int .i64 (x12)), (3, Value.int .i64 (x13)), (2, Value.int .i64 (x14))] := (hS.part (.cons rfl (.cons rfl (.cons rfl (.cons rfl (.cons rfl (.cons rfl (.cons rfl (.cons rfl (.nil _))))))))))
          refine x_then ?_
          rcases ifB h21 with ⟨hc42, h21⟩ | ⟨hc42, h21⟩
          · refine c_cond_true (hS.ev_ rfl) hc42 ?_
            refine wp_exit ?_
            refine x_then_exit ?_
            refine x_block_here ?_
            refine x_then ?_
            obtain rfl := Option.some.inj h21
            exact ⟨K40, hlK40, (hS.part (.cons rfl (.cons rfl (.cons rfl (.cons rfl (.cons rfl (.cons rfl (.nil _)))))))), (hM).tail⟩
          · refine c_cond_false (hS.ev_ rfl) hc42 ?_
            refine wp_skip ?_
            refine x_then ?_
            refine wp_seq ?_
            refine wp_region_lit ?_
            refine st_val hS rfl rfl (by decide) (r_move rfl (hS.ev_ rfl)) fun a hS => ?_
            refine st_val hS rfl rfl (by decide) (r_fld_b rfl fo_25_2 (hS.ev_ rfl)) fun a hS => ?_
            refine st_val hS rfl rfl (by decide) (r_ld1_b rfl ag_22 (hS.ev_ rfl) rfl (Rd.of hM)) fun a hS => ?_
            refine st_val hS rfl rfl (by decide) (r_len_sl rfl un_22 (hS.ev_ rfl) f33) fun a hS => ?_
            refine st_val hS rfl rfl (by decide) (r_add rfl (hS.ev_ rfl) (hS.ev_ rfl)) fun a hS => ?_
            refine st_val hS rfl rfl (by decide) (r_assign rfl (hS.ev_ rfl)) fun a hS => ?_
            refine st_done ?_
            replace hS : Slots 39 [] a [(2, Value.int .i64 (w64 (x14 + ((e22.f_Bytes.length : Int))))), (6, Value.pointer (some ⟨g36, 0, none⟩)), (9, Value.int .i64 (x11)), (8, Value.int .i64 ((p1.length : Int))), (7, v2), (4, Value.int .i64 (x12)), (3, Value.int .i64 (x13))] := (hS.part (.cons rfl (.cons rfl (.cons rfl (.cons rfl (.cons rfl (.cons rfl (.cons rfl (.nil _)))))))))
            refine x_then ?_
            refine wp_seq ?_
            refine wp_region_lit ?_
            refine st_val hS rfl rfl (by decide) (r_fld_b rfl fo_25_0 (hS.ev_ rfl)) fun a hS => ?_
            refine st_val hS rfl rfl (by decide) (r_ld1_b rfl ag_3 (hS.ev_ rfl) rfl (Rd.of hM)) fun a hS => ?_
            refine st_done ?_
            replace hS : Slots 39 [] a [(22, Value.int .i64 (e22.f_Kind)), (2, Value.int .i64 (w64 (x14 + ((e22.f_Bytes.length : Int))))), (6, Value.pointer (some ⟨g36, 0, none⟩)), (9, Value.int .i64 (x11)), (8, Value.int .i64 ((p1.length : Int))), (7, v2), (4, Value.int .i64 (x12)), (3, Value.int .i64 (x13))] := (hS.part (.cons rfl (.cons rfl (.cons rfl (.cons rfl (.cons rfl (.cons rfl (.cons rfl (.cons rfl (.nil _))))))))))
            refine x_then ?_
            refine wp_block ?_
            refine wp_seq ?_
            refine wp_region_lit ?_
            refine st_val hS rfl rfl (by decide) (r_cmp rfl (hS.ev_ rfl) (hS.ev_ rfl) rfl) fun a hS => ?_
            refine st_val hS rfl rfl (by decide) (r_assign rfl (hS.ev_ rfl)) fun a hS => ?_
            refine st_done ?_
            replace hS : Slots 39 [] a [(23, Value.bool (e22.f_Kind == 2)), (22, Value.int .i64 (e22.f_Kind)), (2, Value.int .i64 (w64 (x14 + ((e22.f_Bytes.length : Int))))), (6, Value.pointer (some ⟨g36, 0, none⟩)), (9, Value.int .i64 (x11)), (8, Value.int .i64 ((p1.length : Int))), (7, v2), (4, Value.int .i64 (x12)), (3, Value.int .i64 (x13))] := (hS.part (.cons rfl (.cons rfl (.cons rfl (.cons rfl (.cons rfl (.cons rfl (.cons rfl (.cons rfl (.cons rfl (.nil _)))))))))))
            refine x_then ?_
            rcases ifB h21 with ⟨hc43, h21⟩ | ⟨hc43, h21⟩
            · refine c_cond_true (hS.ev_ rfl) hc43 ?_
              refine wp_region_lit ?_
              refine st_val hS rfl rfl (by decide) (r_move rfl (hS.ev_ rfl)) fun a hS => ?_
              refine st_val hS rfl rfl (by decide) (r_fld_b rfl fo_25_1 (hS.ev_ rfl)) fun a hS => ?_
              refine st_val hS rfl rfl (by decide) (r_ld1_b rfl ag_3 (hS.ev_ rfl) rfl (Rd.of hM)) fun a hS => ?_
              refine st_val hS rfl rfl (by decide) (r_add rfl (hS.ev_ rfl) (hS.ev_ rfl)) fun a hS => ?_
              refine st_val hS rfl rfl (by decide) (r_assign rfl (hS.ev_ rfl)) fun a hS => ?_
              refine st_done ?_
              replace hS : Slots 39 [] a [(3, Value.int .i64 (w64 (x13 + e22.f_N))), (2, Value.int .i64 (w64 (x14 + ((e22.f_Bytes.length : Int))))), (9, Value.int .i64 (x11)), (8, Value.int .i64 ((p1.length : Int))), (7, v2), (4, Value.int .i64 (x12))] := (hS.part (.cons rfl (.cons rfl (.cons rfl (.cons rfl (.cons rfl (.cons rfl (.nil _))))))))
              refine x_block ?_
              refine x_block ?_
              refine x_then ?_
              obtain rfl := Option.some.inj h21
              exact ⟨K40, hlK40, (hS.part (.cons rfl (.cons rfl (.cons rfl (.cons rfl (.cons rfl (.cons rfl (.nil _)))))))), (hM).tail⟩
            · refine c_cond_false (hS.ev_ rfl) hc43 ?_
              refine wp_seq ?_
              refine wp_region_lit ?_
              refine st_val hS rfl rfl (by decide) (r_cmp rfl (hS.ev_ rfl) (hS.ev_ rfl) rfl) fun a hS => ?_
              refine st_val hS rfl rfl (by decide) (r_assign rfl (hS.ev_ rfl)) fun a hS => ?_
              refine st_done ?_
              replace hS : Slots 39 [] a [(29, Value.bool (e22.f_Kind == 3)), (2, Value.int .i64 (w64 (x14 + ((e22.f_Bytes.length : Int))))), (6, Value.pointer (some ⟨g36, 0, none⟩)), (9, Value.int .i64 (x11)), (8, Value.int .i64 ((p1.length : Int))), (7, v2), (4, Value.int .i64 (x12)), (3, Value.int .i64 (x13))] := (hS.part (.cons rfl (.cons rfl (.cons rfl (.cons rfl (.cons rfl (.cons rfl (.cons rfl (.cons rfl (.nil _))))))))))
              refine x_then ?_
              rcases ifB h21 with ⟨hc44, h21⟩ | ⟨hc44, h21⟩
              · refine c_cond_true (hS.ev_ rfl) hc44 ?_
                refine wp_region_lit ?_
                refine st_val hS rfl rfl (by decide) (r_move rfl (hS.ev_ rfl)) fun a hS => ?_
                refine st_val hS rfl rfl (by decide) (r_fld_b rfl fo_25_1 (hS.ev_ rfl)) fun a hS => ?_
                refine st_val hS rfl rfl (by decide) (r_ld1_b rfl ag_3 (hS.ev_ rfl) rfl (Rd.of hM)) fun a hS => ?_
                refine st_val hS rfl rfl (by decide) (r_add rfl (hS.ev_ rfl) (hS.ev_ rfl)) fun a hS => ?_
                refine st_val hS rfl rfl (by decide) (r_assign rfl (hS.ev_ rfl)) fun a hS => ?_
                refine st_done ?_
                replace hS : Slots 39 [] a [(4, Value.int .i64 (w64 (x12 + e22.f_N))), (2, Value.int .i64 (w64 (x14 + ((e22.f_Bytes.length : Int))))), (9, Value.int .i64 (x11)), (8, Value.int .i64 ((p1.length : Int))), (7, v2), (3, Value.int .i64 (x13))] := (hS.part (.cons rfl (.cons rfl (.cons rfl (.cons rfl (.cons rfl (.cons rfl (.nil _))))))))
                refine x_block ?_
                refine x_block ?_
                refine x_then ?_
                obtain rfl := Option.some.inj h21
                exact ⟨K40, hlK40, (hS.part (.cons rfl (.cons rfl (.cons rfl (.cons rfl (.cons rfl (.cons rfl (.nil _)))))))), (hM).tail⟩
              · refine c_cond_false (hS.ev_ rfl) hc44 ?_
                refine wp_skip ?_
                refine x_block ?_
                refine x_block ?_
                refine x_then ?_
                obtain rfl := Option.some.inj h21
                exact ⟨K40, hlK40, (hS.part (.cons rfl (.cons rfl (.cons rfl (.cons rfl (.cons rfl (.cons rfl (.nil _)))))))), (hM).tail⟩
        · rintro a w ⟨K19, hlK19, hS, hM⟩
          refine wp_region_lit ?_
          refine st_val hS rfl rfl (by decide) (r_add rfl (hS.ev_ rfl) (hS.ev_ rfl)) fun a hS => ?_
          refine st_val hS rfl rfl (by decide) (r_move rfl (hS.ev_ rfl)) fun a hS => ?_
          refine st_done ?_
          replace hS : Slots 39 [] a [(9, Value.int .i64 (w64 (x11 + 1))), (7, v2), (8, Value.int .i64 ((p1.length : Int))), (2, Value.int .i64 (x20.1)), (3, Value.int .i64 (x20.2.1)), (4, Value.int .i64 (x20.2.2))] := (hS.part (.cons rfl (.cons rfl (.cons rfl (.cons rfl (.cons rfl (.cons rfl (.nil _))))))))
          refine x_then ?_
          exact ih (w64 (x11 + 1)) x20.2.2 x20.2.1 x20.1 _ h hr K19 _ _ (hlK10.trans hlK19) (hS.part (.cons rfl (.cons rfl (.cons rfl (.cons rfl (.cons rfl (.cons rfl (.nil _)))))))) (hM)
      · refine c_cond_false (hS.ev_ rfl) hc18 ?_
        refine wp_exit ?_
        refine x_then_exit ?_
        refine x_then_exit ?_
        have ho' := (Option.some.inj h).trans hr
        refine hQ _ _ _ ?_
        subst ho'
        exact ⟨rfl, K10, hlK10, (hS.part (.cons rfl (.cons rfl (.cons rfl (.nil _))))), hM⟩
    exact key 0 0 0 0 _ h16 rfl K _ _ (Hp.le.refl _) (hS.part (.cons rfl (.cons rfl (.cons rfl (.cons rfl (.cons rfl (.cons rfl (.nil _)))))))) (hM)
  · rintro e a w ⟨rfl, K17, hlK17, hS, hM⟩
    refine x_block_here ?_
    refine x_then ?_
    refine wp_seq ?_
    refine wp_region_lit ?_
    refine st_val hS rfl rfl (by decide) (r_move rfl (hS.ev_ rfl)) fun a hS => ?_
    refine st_val hS rfl rfl (by decide) (r_move rfl (hS.ev_ rfl)) fun a hS => ?_
    refine st_val hS rfl rfl (by decide) (r_move rfl (hS.ev_ rfl)) fun a hS => ?_
    refine st_val hS rfl rfl (by decide) (r_assign rfl (hS.ev_ rfl)) fun a hS => ?_
    refine st_val hS rfl rfl (by decide) (r_assign rfl (hS.ev_ rfl)) fun a hS => ?_
    refine st_val hS rfl rfl (by decide) (r_assign rfl (hS.ev_ rfl)) fun a hS => ?_
    refine st_done ?_
    replace hS : Slots 39 [] a [(4, Value.int .i64 (o15.2.2)), (3, Value.int .i64 (o15.2.1)), (2, Value.int .i64 (o15.1))] := (hS.part (.cons rfl (.cons rfl (.cons rfl (.nil _)))))
    refine x_then ?_
    refine wp_ret ?_
    have hr' := Option.some.inj h
    subst hr'
    refine ret3 (.inr rfl) hS rfl rfl rfl rfl ?_
    exact ⟨K17, hlK17, hM, rfl⟩

theorem bytes_Equal_c {w0 w : World} {K : Hp} {L : List SP} {p1 : List UInt8} {p4 : List UInt8} {v2 : Value} {v5 : Value} {r : Bool} (hG : Glob w0) (h : bytes_Equal p1 p4 = some r) (f3 : Kd.u8.sl K v2 p1) (f6 : Kd.u8.sl K v5 p4) (hM : Sat w0 w K (L)) :
    Calls Tryd.prog 28 #[v2, v5] w (fun e w' => ∃ (K' : Hp), Hp.le K K' ∧ Sat w0 w' K' (L) ∧ e = .returned (Value.bool (r))) := by
  refine enter_ (n := 10) (args := [v2, v5]) Tryd.func28 rfl rfl (Nat.le_of_ble_eq_true rfl) fun a hS => ?_
  replace hS : Slots 10 [] a [(0, v2), (1, v5)] := hS
  unfold bytes_Equal at h
  refine wp_seq ?_
  refine wp_region_lit ?_
  refine st_val hS rfl rfl (by decide) (r_assign rfl (hS.ev_ rfl)) fun a hS => ?_
  refine st_done ?_
  replace hS : Slots 10 [] a [(4, Value.bool (false)), (0, v2), (1, v5)] := (hS.part (.cons rfl (.cons rfl (.cons rfl (.nil _)))))
  refine x_then ?_
  refine wp_seq ?_
  refine wp_region_lit ?_
  refine st_val hS rfl rfl (by decide) (r_move rfl (hS.ev_ rfl)) fun a hS => ?_
  refine st_val hS rfl rfl (by decide) (r_stringR rfl un_22 un_5 un_9 (hS.ev_ rfl) (Rd.of hM.nil_) f3) fun a hS => ?_
  refine st_val hS rfl rfl (by decide) (r_move rfl (hS.ev_ rfl)) fun a hS => ?_
  refine st_val hS rfl rfl (by decide) (r_stringR rfl un_22 un_5 un_9 (hS.ev_ rfl) (Rd.of hM.nil_) f6) fun a hS => ?_
  refine st_val hS rfl rfl (by decide) (r_seq rfl (hS.ev_ rfl) (hS.ev_ rfl)) fun a hS => ?_
  refine st_val hS rfl rfl (by decide) (r_assign rfl (hS.ev_ rfl)) fun a hS => ?_
  refine st_done ?_
  replace hS : Slots 10 [] a [(4, Value.bool (p1 == p4))] := (hS.part (.cons rfl (.nil _)))
  refine x_then ?_
  refine wp_ret ?_
  have hr' := Option.some.inj h
  subst hr'
  refine ret1 (.inr rfl) hS rfl rfl ?_
  exact ⟨K, (Hp.le.refl _), hM, rfl⟩

theorem slices_Equal_int_int_c {w0 w : World} {K : Hp} {L : List SP} {p1 : List Int} {p4 : List Int} {v2 : Value} {v5 : Value} {r : Bool} (hG : Glob w0) (h : slices_Equal_int_int p1 p4 = some r) (f3 : (Kd.int .i64).sl K v2 p1) (f6 : (Kd.int .i64).sl K v5 p4) (hM : Sat w0 w K (L)) :
    Calls Tryd.prog 29 #[v2, v5] w (fun e w' => ∃ (K' : Hp), Hp.le K K' ∧ Sat w0 w' K' (L) ∧ e = .returned (Value.bool (r))) := by
  refine enter_ (n := 26) (args := [v2, v5]) Tryd.func29 rfl rfl (Nat.le_of_ble_eq_true rfl) fun a hS => ?_
  replace hS : Slots 26 [] a [(0, v2), (1, v5)] := hS
  unfold slices_Equal_int_int at h
  refine wp_seq ?_
  refine wp_region_lit ?_
  refine st_val hS rfl rfl (by decide) (r_assign rfl (hS.ev_ rfl)) fun a hS => ?_
  refine st_done ?_
  replace hS : Slots 26 [] a [(4, Value.bool (false)), (0, v2), (1, v5)] := (hS.part (.cons rfl (.cons rfl (.cons rfl (.nil _)))))
  refine x_then ?_
  refine wp_seq ?_
  refine wp_seq ?_
  refine wp_region_lit ?_
  refine st_val hS rfl rfl (by decide) (r_move rfl (hS.ev_ rfl)) fun a hS => ?_
  refine st_val hS rfl rfl (by decide) (r_len_sl rfl un_23 (hS.ev_ rfl) f3) fun a hS => ?_
  refine st_val hS rfl rfl (by decide) (r_move rfl (hS.ev_ rfl)) fun a hS => ?_
  refine st_val hS rfl rfl (by decide) (r_len_sl rfl un_23 (hS.ev_ rfl) f6) fun a hS => ?_
  refine st_val hS rfl rfl (by decide) (r_cmp rfl (hS.ev_ rfl) (hS.ev_ rfl) rfl) fun a hS => ?_
  refine st_done ?_
  replace hS : Slots 26 [] a [(10, Value.bool (((p1.length : Int)) != ((p4.length : Int)))), (4, Value.bool (false)), (0, v2), (1, v5)] := (hS.part (.cons rfl (.cons rfl (.cons rfl (.cons rfl (.nil _))))))
  refine x_then ?_
  rcases ifB h with ⟨hc7, h⟩ | ⟨hc7, h⟩
  · refine c_cond_true (hS.ev_ rfl) hc7 ?_
    refine wp_seq ?_
    refine wp_region_lit ?_
    refine st_val hS rfl rfl (by decide) (r_assign rfl (hS.ev_ rfl)) fun a hS => ?_
    refine st_done ?_
    replace hS : Slots 26 [] a [(4, Value.bool (false)), (0, v2), (1, v5)] := (hS.part (.cons rfl (.cons rfl (.cons rfl (.nil _)))))
    refine x_then ?_
    refine wp_ret ?_
    refine x_then_ret ?_
    have hr' := Option.some.inj h
    subst hr'
    refine ret1 (.inr rfl) hS rfl rfl ?_
    exact ⟨K, (Hp.le.refl _), hM, rfl⟩
  · refine c_cond_false (hS.ev_ rfl) hc7 ?_
    refine wp_skip ?_
    refine x_then ?_
    refine wp_seq ?_
    refine wp_seq ?_
    refine wp_region_lit ?_
    refine st_val hS rfl rfl (by decide) (r_move rfl (hS.ev_ rfl)) fun a hS => ?_
    refine st_val hS rfl rfl (by decide) (r_len_sl rfl un_23 (hS.ev_ rfl) f3) fun a hS => ?_
    refine st_val hS rfl rfl (by decide) (r_move rfl (hS.ev_ rfl)) fun a hS => ?_
    refine st_done ?_
    replace hS : Slots 26 [] a [(13, Value.int .i64 (0)), (12, Value.int .i64 ((p1.length : Int))), (4, Value.bool (false)), (0, v2), (1, v5)] := (hS.part (.cons rfl (.cons rfl (.cons rfl (.cons rfl (.cons rfl (.nil _)))))))
    refine x_then ?_
    refine wp_block ?_
    obtain ⟨o13, h14, h⟩ := bindO h
    refine c_loop_ways (fun e a w => (e = .exit 0 ∧ ∃ (K15 : Hp) (x16 : Unit), Hp.le K K15 ∧ o13 = Sum.inl x16 ∧ Slots 26 [] a [(4, Value.bool (false))] ∧ Sat w0 w K15 (L)) ∨ (e = .ret ∧ ∃ (K17 : Hp) (x18 : Unit), Hp.le K K17 ∧ o13 = Sum.inr x18 ∧ Slots 26 [] a [(4, Value.bool (false))] ∧ Sat w0 w K17 (L))) ?_ ?_
    · intro c Q hc hQ
      have key : ∀ (x12 : Int) (r' : Sum Unit Unit), slices_Equal_int_int_l1 p1 p4 x12 = some r' → r' = o13 → ∀ (K11 : Hp) (a : Act) (w : World), Hp.le K K11 → Slots 26 [] a [(13, Value.int .i64 (x12)), (12, Value.int .i64 ((p1.length : Int))), (4, Value.bool (false)), (0, v2), (1, v5)] → Sat w0 w K11 (L) → Rnd Tryd.prog c Q a w := by
        refine slices_Equal_int_int_l1.partial_correctness p1 p4 _ ?_
        intro slices_Equal_int_int_l1_rec ih x12 r' h hr K11  a w hlK11 hS hM 
        subst hc
        refine c_round ?_
        refine wp_seq ?_
        refine wp_region_lit ?_
        refine st_val hS rfl rfl (by decide) (r_cmp rfl (hS.ev_ rfl) (hS.ev_ rfl) rfl) fun a hS => ?_
        refine st_done ?_
        replace hS : Slots 26 [] a [(14, Value.bool (decide (x12 < ((p1.length : Int))))), (13, Value.int .i64 (x12)), (12, Value.int .i64 ((p1.length : Int))), (4, Value.bool (false)), (0, v2), (1, v5)] := (hS.part (.cons rfl (.cons rfl (.cons rfl (.cons rfl (.cons rfl (.cons rfl (.nil _))))))))
        refine x_then ?_
        refine wp_seq ?_
        rcases ifB h with ⟨hc19, h⟩ | ⟨hc19, h⟩
        · refine c_cond_true (hS.ev_ rfl) hc19 ?_
          refine wp_skip ?_
          refine x_then ?_
          refine wp_seq ?_
          refine wp_block ?_
          refine wp_seq ?_
          refine wp_region_lit ?_
          refine st_val hS rfl rfl (by decide) (r_move rfl (hS.ev_ rfl)) fun a hS => ?_
          refine st_val hS rfl rfl (by decide) (r_assign rfl (hS.ev_ rfl)) fun a hS => ?_
          refine st_done ?_
          replace hS : Slots 26 [] a [(5, Value.int .i64 (x12)), (13, Value.int .i64 (x12)), (12, Value.int .i64 ((p1.length : Int))), (4, Value.bool (false)), (0, v2), (1, v5)] := (hS.part (.cons rfl (.cons rfl (.cons rfl (.cons rfl (.cons rfl (.cons rfl (.nil _))))))))
          refine x_then ?_
          refine wp_seq ?_
          refine tk_start #[false, false, false, false, false, false, false, false, false] mixed_ rfl rfl ?_
          replace hM := hM.drew
          generalize w.drew = w at hM ⊢
          refine dk_any (i := 0) #[true, false, false, false, false, false, false, false, false] hS rfl (by kernel_rfl) rfl rfl (by decide) (fun w => r_move rfl (hS.ev_ rfl)) fun a hS => ?_
          refine dk_any (i := 1) #[true, true, false, false, false, false, false, false, false] hS rfl (by kernel_rfl) rfl rfl (by decide) (fun w => r_move rfl (hS.ev_ rfl)) fun a hS => ?_
          obtain ⟨e20, h21, h⟩ := bindO h
          obtain ⟨ad22, cp23, cs24, hv25, hr26, h0_27, h1_28, hq29⟩ := sl_at f3 h21 (by decide)
          obtain rfl := hr26
          refine dk_any (i := 2) #[true, true, true, false, false, false, false, false, false] hS rfl (by kernel_rfl) rfl rfl (by decide) (fun w => r_idx_sl rfl un_23 ti_3 (hS.ev_ rfl) hv25 (hS.ev_ rfl) h0_27 h1_28) fun a hS => ?_
          refine dk_val (i := 3) (S := Rd w0 K []) #[true, true, true, true, false, false, false, false, false] hS rfl (by kernel_rfl) rfl rfl (by decide) (Rd.up hlK11 hM.nil_) (fun w hR => r_ld1_k rfl ag_3 (hS.ev_ rfl) hq29 rfl hR) fun a hS => ?_
          refine dk_any (i := 4) #[true, true, true, true, true, false, false, false, false] hS rfl (by kernel_rfl) rfl rfl (by decide) (fun w => r_move rfl (hS.ev_ rfl)) fun a hS => ?_
          refine dk_any (i := 5) #[true, true, true, true, true, true, false, false, false] hS rfl (by kernel_rfl) rfl rfl (by decide) (fun w => r_move rfl (hS.ev_ rfl)) fun a hS => ?_
          obtain ⟨e30, h31, h⟩ := bindO h
          obtain ⟨ad32, cp33, cs34, hv35, hr36, h0_37, h1_38, hq39⟩ := sl_at f6 h31 (by decide)
          obtain rfl := hr36
          refine dk_any (i := 6) #[true, true, true, true, true, true, true, false, false] hS rfl (by kernel_rfl) rfl rfl (by decide) (fun w => r_idx_sl rfl un_23 ti_3 (hS.ev_ rfl) hv35 (hS.ev_ rfl) h0_37 h1_38) fun a hS => ?_
          refine dk_val (i := 7) (S := Rd w0 K []) #[true, true, true, true, true, true, true, true, false] hS rfl (by kernel_rfl) rfl rfl (by decide) (Rd.up hlK11 hM.nil_) (fun w hR => r_ld1_k rfl ag_3 (hS.ev_ rfl) hq39 rfl hR) fun a hS => ?_
          refine dk_any (i := 8) #[true, true, true, true, true, true, true, true, true] hS rfl (by kernel_rfl) rfl rfl (by decide) (fun w => r_cmp rfl (hS.ev_ rfl) (hS.ev_ rfl) rfl) fun a hS => ?_
          refine tk_done (by kernel_rfl) ?_
          replace hS : Slots 26 [] a [(24, Value.bool (e20 != e30)), (13, Value.int .i64 (x12)), (12, Value.int .i64 ((p1.length : Int))), (4, Value.bool (false)), (0, v2), (1, v5)] := (hS.part (.cons rfl (.cons rfl (.cons rfl (.cons rfl (.cons rfl (.cons rfl (.nil _))))))))
          refine x_then ?_
          rcases ifB h with ⟨hc40, h⟩ | ⟨hc40, h⟩
          · refine c_cond_true (hS.ev_ rfl) hc40 ?_
            refine wp_seq ?_
            refine wp_region_lit ?_
            refine st_val hS rfl rfl (by decide) (r_assign rfl (hS.ev_ rfl)) fun a hS => ?_
            refine st_done ?_
            replace hS : Slots 26 [] a [(4, Value.bool (false)), (13, Value.int .i64 (x12)), (12, Value.int .i64 ((p1.length : Int))), (0, v2), (1, v5)] := (hS.part (.cons rfl (.cons rfl (.cons rfl (.cons rfl (.cons rfl (.nil _)))))))
            refine x_then ?_
            refine wp_ret ?_
            refine x_block_ret ?_
            refine x_then_ret ?_
            refine x_then_ret ?_
            have ho' := (Option.some.inj h).trans hr
            refine hQ _ _ _ ?_
            exact .inr (⟨rfl, K11, (()), hlK11, ho'.symm, (hS.part (.cons rfl (.nil _))), hM⟩)
          · refine c_cond_false (hS.ev_ rfl) hc40 ?_
            refine wp_skip ?_
            refine x_block ?_
            refine x_then ?_
            refine wp_region_lit ?_
            refine st_val hS rfl rfl (by decide) (r_add rfl (hS.ev_ rfl) (hS.ev_ rfl)) fun a hS => ?_
            refine st_val hS rfl rfl (by decide) (r_move rfl (hS.ev_ rfl)) fun a hS => ?_
            refine st_done ?_
            replace hS : Slots 26 [] a [(13, Value.int .i64 (w64 (x12 + 1))), (12, Value.int .i64 ((p1.length : Int))), (4, Value.bool (false)), (0, v2), (1, v5)] := (hS.part (.cons rfl (.cons rfl (.cons rfl (.cons rfl (.cons rfl (.nil _)))))))
            refine x_then ?_
            exact ih (w64 (x12 + 1)) _ h hr K11 _ _ hlK11 (hS.part (.cons rfl (.cons rfl (.cons rfl (.cons rfl (.cons rfl (.nil _))))))) (hM)
        · refine c_cond_false (hS.ev_ rfl) hc19 ?_
          refine wp_exit ?_
          refine x_then_exit ?_
          refine x_then_exit ?_
          have ho' := (Option.some.inj h).trans hr
          refine hQ _ _ _ ?_
          exact .inl ⟨rfl, K11, (()), hlK11, ho'.symm, (hS.part (.cons rfl (.nil _))), hM⟩
      exact key 0 _ h14 rfl K _ _ (Hp.le.refl _) (hS.part (.cons rfl (.cons rfl (.cons rfl (.cons rfl (.cons rfl (.nil _))))))) (hM)
    · rintro e a w (⟨rfl, K15, x16, hlK15, ho', hS, hM⟩ | ⟨rfl, K17, x18, hlK17, ho', hS, hM⟩)
      · subst ho'
        dsimp only at h
        refine x_block_here ?_
        refine x_then ?_
        refine wp_seq ?_
        refine wp_region_lit ?_
        refine st_val hS rfl rfl (by decide) (r_assign rfl (hS.ev_ rfl)) fun a hS => ?_
        refine st_done ?_
        replace hS : Slots 26 [] a [(4, Value.bool (true))] := (hS.part (.cons rfl (.nil _)))
        refine x_then ?_
        refine wp_ret ?_
        have hr' := Option.some.inj h
        subst hr'
        refine ret1 (.inr rfl) hS rfl rfl ?_
        exact ⟨K15, hlK15, hM, rfl⟩
      · subst ho'
        dsimp only at h
        refine x_block_ret ?_
        refine x_then_ret ?_
        have hr' := Option.some.inj h
        subst hr'
        refine ret1 (.inr rfl) hS rfl rfl ?_
        exact ⟨K17, hlK17, hM, rfl⟩

theorem raw_Same_c {w0 w : World} {K : Hp} {L : List SP} {p1 : raw_Event} {p6 : raw_Event} {v2 : Value} {v4 : Value} {v7 : Value} {v9 : Value} {r : Bool} (hG : Glob w0) (h : raw_Same p1 p6 = some r) (f3 : Kd.u8.sl K v2 p1.f_Bytes) (f5 : (Kd.int .i64).sl K v4 p1.f_Marks) (f8 : Kd.u8.sl K v7 p6.f_Bytes) (f10 : (Kd.int .i64).sl K v9 p6.f_Marks) (hM : Sat w0 w K (L)) :
    Calls Tryd.prog 12 #[Value.agg #[Value.int .i64 (p1.f_Kind), Value.int .i64 (p1.f_N), v2, v4], Value.agg #[Value.int .i64 (p6.f_Kind), Value.int .i64 (p6.f_N), v7, v9]] w (fun e w' => ∃ (K' : Hp), Hp.le K K' ∧ Sat w0 w' K' (L) ∧ e = .returned (Value.bool (r))) := by
  refine enter_ (n := 31) (args := [Value.agg #[Value.int .i64 (p1.f_Kind), Value.int .i64 (p1.f_N), v2, v4], Value.agg #[Value.int .i64 (p6.f_Kind), Value.int .i64 (p6.f_N), v7, v9]]) Tryd.func12 rfl rfl (Nat.le_of_ble_eq_true rfl) fun a hS => ?_
  replace hS : Slots 31 [] a [(0, Value.agg #[Value.int .i64 (p1.f_Kind), Value.int .i64 (p1.f_N), v2, v4]), (1, Value.agg #[Value.int .i64 (p6.f_Kind), Value.int .i64 (p6.f_N), v7, v9])] := hS
  unfold raw_Same at h
  refine wp_seq ?_
  refine wp_region_lit ?_
  refine wl_cons rfl (e_box (cs := [Value.int .i64 (p1.f_Kind), Value.int .i64 (p1.f_N), v2, v4]) hM rfl (hS.ev_ rfl) rfl fun g11 w hM => ?_)
  refine pl hS rfl (by decide) fun a hS => ?_
  refine wl_cons rfl (e_box (cs := [Value.int .i64 (p6.f_Kind), Value.int .i64 (p6.f_N), v7, v9]) hM rfl (hS.ev_ rfl) rfl fun g13 w hM => ?_)
  refine pl hS rfl (by decide) fun a hS => ?_
  refine st_val hS rfl rfl (by decide) (r_assign rfl (hS.ev_ rfl)) fun a hS => ?_
  refine st_done ?_
  replace hS : Slots 31 [] a [(4, Value.bool (false)), (3, Value.pointer (some ⟨g13, 0, none⟩)), (2, Value.pointer (some ⟨g11, 0, none⟩))] := (hS.part (.cons rfl (.cons rfl (.cons rfl (.nil _)))))
  refine x_then ?_
  refine wp_seq ?_
  refine wp_region_lit ?_
  refine st_val hS rfl rfl (by decide) (r_fld_b rfl fo_25_0 (hS.ev_ rfl)) fun a hS => ?_
  replace hM := hM.pull 1 rfl rfl
  refine st_val hS rfl rfl (by decide) (r_ld1_b rfl ag_3 (hS.ev_ rfl) rfl (Rd.of hM)) fun a hS => ?_
  refine st_val hS rfl rfl (by decide) (r_fld_b rfl fo_25_0 (hS.ev_ rfl)) fun a hS => ?_
  replace hM := hM.pull 1 rfl rfl
  refine st_val hS rfl rfl (by decide) (r_ld1_b rfl ag_3 (hS.ev_ rfl) rfl (Rd.of hM)) fun a hS => ?_
  refine st_val hS rfl rfl (by decide) (r_cmp rfl (hS.ev_ rfl) (hS.ev_ rfl) rfl) fun a hS => ?_
  refine st_val hS rfl rfl (by decide) (r_move rfl (hS.ev_ rfl)) fun a hS => ?_
  obtain ⟨x15, h16, h⟩ := bindO h
  refine wl_cut 6 (fun a w => Slots 31 [] a [(2, Value.pointer (some ⟨g11, 0, none⟩)), (3, Value.pointer (some ⟨g13, 0, none⟩)), (4, Value.bool (false)), (16, Value.bool (x15))] ∧ Sat w0 w K (SP.blk g13 25 [Value.int .i64 (p6.f_Kind), Value.int .i64 (p6.f_N), v7, v9] :: SP.blk g11 25 [Value.int .i64 (p1.f_Kind), Value.int .i64 (p1.f_N), v2, v4] :: L)) ?_ ?_
  ·
    skip
    rcases ifB h16 with ⟨hc17, h16⟩ | ⟨hc17, h16⟩
    ·
      replace hS := hS.known (k := 10) rfl hc17
      refine st_want hS rfl rfl rfl rfl rfl (by decide) (r_fld_b rfl fo_25_1 (hS.ev_ rfl)) fun a hS => ?_
      replace hM := hM.pull 1 rfl rfl
      refine st_want hS rfl rfl rfl rfl rfl (by decide) (r_ld1_b rfl ag_3 (hS.ev_ rfl) rfl (Rd.of hM)) fun a hS => ?_
      refine st_want hS rfl rfl rfl rfl rfl (by decide) (r_fld_b rfl fo_25_1 (hS.ev_ rfl)) fun a hS => ?_
      replace hM := hM.pull 1 rfl rfl
      refine st_want hS rfl rfl rfl rfl rfl (by decide) (r_ld1_b rfl ag_3 (hS.ev_ rfl) rfl (Rd.of hM)) fun a hS => ?_
      refine st_want hS rfl rfl rfl rfl rfl (by decide) (r_cmp rfl (hS.ev_ rfl) (hS.ev_ rfl) rfl) fun a hS => ?_
      refine st_val hS rfl rfl (by decide) (r_pick_true rfl (hS.ev_ rfl) rfl (hS.ev_ rfl)) fun a hS => ?_
      refine st_done ?_
      replace hS : Slots 31 [] a [(16, Value.bool (p1.f_N == p6.f_N)), (4, Value.bool (false)), (3, Value.pointer (some ⟨g13, 0, none⟩)), (2, Value.pointer (some ⟨g11, 0, none⟩))] := (hS.part (.cons rfl (.cons rfl (.cons rfl (.cons rfl (.nil _))))))
      refine x_then ?_
      obtain rfl := Option.some.inj h16
      exact ⟨(hS.part (.cons rfl (.cons rfl (.cons rfl (.cons rfl (.nil _)))))), ((hM.pull 1 rfl rfl).pull 1 rfl rfl)⟩
    ·
      replace hS := hS.known (k := 10) rfl hc17
      refine st_off hS rfl rfl rfl rfl rfl rfl (by decide) fun a hS => ?_
      refine st_off hS rfl rfl rfl rfl rfl rfl (by decide) fun a hS => ?_
      refine st_off hS rfl rfl rfl rfl rfl rfl (by decide) fun a hS => ?_
      refine st_off hS rfl rfl rfl rfl rfl rfl (by decide) fun a hS => ?_
      refine st_off hS rfl rfl rfl rfl rfl rfl (by decide) fun a hS => ?_
      refine st_val hS rfl rfl (by decide) (r_pick_false rfl (hS.ev_ rfl) rfl (hS.ev_ rfl)) fun a hS => ?_
      refine st_done ?_
      replace hS : Slots 31 [] a [(16, Value.bool (false)), (4, Value.bool (false)), (3, Value.pointer (some ⟨g13, 0, none⟩)), (2, Value.pointer (some ⟨g11, 0, none⟩))] := (hS.part (.cons rfl (.cons rfl (.cons rfl (.cons rfl (.nil _))))))
      refine x_then ?_
      obtain rfl := Option.some.inj h16
      exact ⟨(hS.part (.cons rfl (.cons rfl (.cons rfl (.cons rfl (.nil _)))))), ((hM.pull 1 rfl rfl).pull 1 rfl rfl)⟩
  · rintro a w ⟨hS, hM⟩
    refine st_val hS rfl rfl (by decide) (r_move rfl (hS.ev_ rfl)) fun a hS => ?_
    obtain ⟨x19, h20, h⟩ := bindO h
    refine wl_cut 6 (fun a w => ∃ (K18 : Hp), Hp.le K K18 ∧ Slots 31 [] a [(2, Value.pointer (some ⟨g11, 0, none⟩)), (3, Value.pointer (some ⟨g13, 0, none⟩)), (4, Value.bool (false)), (23, Value.bool (x19))] ∧ Sat w0 w K18 (SP.blk g13 25 [Value.int .i64 (p6.f_Kind), Value.int .i64 (p6.f_N), v7, v9] :: SP.blk g11 25 [Value.int .i64 (p1.f_Kind), Value.int .i64 (p1.f_N), v2, v4] :: L)) ?_ ?_
    ·
      skip
      rcases ifB h20 with ⟨hc21, h20⟩ | ⟨hc21, h20⟩
      ·
        replace hS := hS.known (k := 17) rfl hc21
        refine st_want hS rfl rfl rfl rfl rfl (by decide) (r_fld_b rfl fo_25_2 (hS.ev_ rfl)) fun a hS => ?_
        replace hM := hM.pull 1 rfl rfl
        refine st_want hS rfl rfl rfl rfl rfl (by decide) (r_ld1_b rfl ag_22 (hS.ev_ rfl) rfl (Rd.of hM)) fun a hS => ?_
        refine st_want hS rfl rfl rfl rfl rfl (by decide) (r_fld_b rfl fo_25_2 (hS.ev_ rfl)) fun a hS => ?_
        replace hM := hM.pull 1 rfl rfl
        refine st_want hS rfl rfl rfl rfl rfl (by decide) (r_ld1_b rfl ag_22 (hS.ev_ rfl) rfl (Rd.of hM)) fun a hS => ?_
        obtain ⟨y22, h23, h20⟩ := bindO h20
        have hc25 := bytes_Equal_c hG h23 f3 f8 hM
        refine g_want hS rfl rfl rfl rfl (e_call rfl Tryd.func28 rfl rfl (args2 (hS.ev_ rfl) (hS.ev_ rfl)) hc25 ?_)
        rintro _ w ⟨K24, hlK24, hM, rfl⟩
        refine ⟨_, rfl, ?_⟩
        refine pl hS rfl (by decide) fun a hS => ?_
        refine st_val hS rfl rfl (by decide) (r_pick_true rfl (hS.ev_ rfl) rfl (hS.ev_ rfl)) fun a hS => ?_
        refine st_done ?_
        replace hS : Slots 31 [] a [(23, Value.bool (y22)), (2, Value.pointer (some ⟨g11, 0, none⟩)), (3, Value.pointer (some ⟨g13, 0, none⟩)), (4, Value.bool (false))] := (hS.part (.cons rfl (.cons rfl (.cons rfl (.cons rfl (.nil _))))))
        refine x_then ?_
        obtain rfl := Option.some.inj h20
        exact ⟨K24, hlK24, (hS.part (.cons rfl (.cons rfl (.cons rfl (.cons rfl (.nil _)))))), ((hM.pull 1 rfl rfl).pull 1 rfl rfl)⟩
      ·
        replace hS := hS.known (k := 17) rfl hc21
        refine st_off hS rfl rfl rfl rfl rfl rfl (by decide) fun a hS => ?_
        refine st_off hS rfl rfl rfl rfl rfl rfl (by decide) fun a hS => ?_
        refine st_off hS rfl rfl rfl rfl rfl rfl (by decide) fun a hS => ?_
        refine st_off hS rfl rfl rfl rfl rfl rfl (by decide) fun a hS => ?_
        refine st_off hS rfl rfl rfl rfl rfl rfl (by decide) fun a hS => ?_
        refine st_val hS rfl rfl (by decide) (r_pick_false rfl (hS.ev_ rfl) rfl (hS.ev_ rfl)) fun a hS => ?_
        refine st_done ?_
        replace hS : Slots 31 [] a [(23, Value.bool (false)), (2, Value.pointer (some ⟨g11, 0, none⟩)), (3, Value.pointer (some ⟨g13, 0, none⟩)), (4, Value.bool (false))] := (hS.part (.cons rfl (.cons rfl (.cons rfl (.cons rfl (.nil _))))))
        refine x_then ?_
        obtain rfl := Option.some.inj h20
        exact ⟨K, (Hp.le.refl _), (hS.part (.cons rfl (.cons rfl (.cons rfl (.cons rfl (.nil _)))))), ((hM.pull 1 rfl rfl).pull 1 rfl rfl)⟩
    · rintro a w ⟨K18, hlK18, hS, hM⟩
      refine st_val hS rfl rfl (by decide) (r_move rfl (hS.ev_ rfl)) fun a hS => ?_
      obtain ⟨x27, h28, h⟩ := bindO h
      refine wl_cut 6 (fun a w => ∃ (K26 : Hp), Hp.le K18 K26 ∧ Slots 31 [] a [(4, Value.bool (false)), (30, Value.bool (x27))] ∧ Sat w0 w K26 (SP.blk g13 25 [Value.int .i64 (p6.f_Kind), Value.int .i64 (p6.f_N), v7, v9] :: SP.blk g11 25 [Value.int .i64 (p1.f_Kind), Value.int .i64 (p1.f_N), v2, v4] :: L)) ?_ ?_
      ·
        skip
        rcases ifB h28 with ⟨hc29, h28⟩ | ⟨hc29, h28⟩
        ·
          replace hS := hS.known (k := 24) rfl hc29
          refine st_want hS rfl rfl rfl rfl rfl (by decide) (r_fld_b rfl fo_25_3 (hS.ev_ rfl)) fun a hS => ?_
          replace hM := hM.pull 1 rfl rfl
          refine st_want hS rfl rfl rfl rfl rfl (by decide) (r_ld1_b rfl ag_23 (hS.ev_ rfl) rfl (Rd.of hM)) fun a hS => ?_
          refine st_want hS rfl rfl rfl rfl rfl (by decide) (r_fld_b rfl fo_25_3 (hS.ev_ rfl)) fun a hS => ?_
          replace hM := hM.pull 1 rfl rfl
          refine st_want hS rfl rfl rfl rfl rfl (by decide) (r_ld1_b rfl ag_23 (hS.ev_ rfl) rfl (Rd.of hM)) fun a hS => ?_
          obtain ⟨y30, h31, h28⟩ := bindO h28
          have hc33 := slices_Equal_int_int_c hG h31 (Kd.sl_mono hlK18 f5) (Kd.sl_mono hlK18 f10) hM
          refine g_want hS rfl rfl rfl rfl (e_call rfl Tryd.func29 rfl rfl (args2 (hS.ev_ rfl) (hS.ev_ rfl)) hc33 ?_)
          rintro _ w ⟨K32, hlK32, hM, rfl⟩
          refine ⟨_, rfl, ?_⟩
          refine pl hS rfl (by decide) fun a hS => ?_
          refine st_val hS rfl rfl (by decide) (r_pick_true rfl (hS.ev_ rfl) rfl (hS.ev_ rfl)) fun a hS => ?_
          refine st_done ?_
          replace hS : Slots 31 [] a [(30, Value.bool (y30)), (4, Value.bool (false))] := (hS.part (.cons rfl (.cons rfl (.nil _))))
          refine x_then ?_
          obtain rfl := Option.some.inj h28
          exact ⟨K32, hlK32, (hS.part (.cons rfl (.cons rfl (.nil _)))), ((hM.pull 1 rfl rfl).pull 1 rfl rfl)⟩
        ·
          replace hS := hS.known (k := 24) rfl hc29
          refine st_off hS rfl rfl rfl rfl rfl rfl (by decide) fun a hS => ?_
          refine st_off hS rfl rfl rfl rfl rfl rfl (by decide) fun a hS => ?_
          refine st_off hS rfl rfl rfl rfl rfl rfl (by decide) fun a hS => ?_
          refine st_off hS rfl rfl rfl rfl rfl rfl (by decide) fun a hS => ?_
          refine st_off hS rfl rfl rfl rfl rfl rfl (by decide) fun a hS => ?_
          refine st_val hS rfl rfl (by decide) (r_pick_false rfl (hS.ev_ rfl) rfl (hS.ev_ rfl)) fun a hS => ?_
          refine st_done ?_
          replace hS : Slots 31 [] a [(30, Value.bool (false)), (4, Value.bool (false))] := (hS.part (.cons rfl (.cons rfl (.nil _))))
          refine x_then ?_
          obtain rfl := Option.some.inj h28
          exact ⟨K18, (Hp.le.refl _), (hS.part (.cons rfl (.cons rfl (.nil _)))), ((hM.pull 1 rfl rfl).pull 1 rfl rfl)⟩
      · rintro a w ⟨K26, hlK26, hS, hM⟩
        refine st_val hS rfl rfl (by decide) (r_assign rfl (hS.ev_ rfl)) fun a hS => ?_
        refine st_done ?_
        replace hS : Slots 31 [] a [(4, Value.bool (x27))] := (hS.part (.cons rfl (.nil _)))
        refine x_then ?_
        refine wp_ret ?_
        have hr' := Option.some.inj h
        subst hr'
        refine ret1 (.inr rfl) hS rfl rfl ?_
        exact ⟨K26, (hlK18.trans hlK26), ((hM).tail).tail, rfl⟩

theorem R_Same_c {w0 w : World} {K : Hp} {L : List SP} {p1 : R_Event} {p4 : R_Event} {v2 : Value} {v5 : Value} {r : Bool} (hG : Glob w0) (h : R_Same p1 p4 = some r) (f3 : (Kd.int .i64).sl K v2 p1.f_Marks) (f6 : (Kd.int .i64).sl K v5 p4.f_Marks) (hM : Sat w0 w K (L)) :
    Calls Tryd.prog 17 #[Value.agg #[Value.int .i64 (p1.f_Kind), Value.int .i64 (p1.f_N), strV (p1.f_Bytes), v2], Value.agg #[Value.int .i64 (p4.f_Kind), Value.int .i64 (p4.f_N), strV (p4.f_Bytes), v5]] w (fun e w' => ∃ (K' : Hp), Hp.le K K' ∧ Sat w0 w' K' (L) ∧ e = .returned (Value.bool (r))) := by
  refine enter_ (n := 31) (args := [Value.agg #[Value.int .i64 (p1.f_Kind), Value.int .i64 (p1.f_N), strV (p1.f_Bytes), v2], Value.agg #[Value.int .i64 (p4.f_Kind), Value.int .i64 (p4.f_N), strV (p4.f_Bytes), v5]]) Tryd.func17 rfl rfl (Nat.le_of_ble_eq_true rfl) fun a hS => ?_
  replace hS : Slots 31 [] a [(0, Value.agg #[Value.int .i64 (p1.f_Kind), Value.int .i64 (p1.f_N), strV (p1.f_Bytes), v2]), (1, Value.agg #[Value.int .i64 (p4.f_Kind), Value.int .i64 (p4.f_N), strV (p4.f_Bytes), v5])] := hS
  unfold R_Same at h
  refine wp_seq ?_
  refine wp_region_lit ?_
  refine wl_cons rfl (e_box (cs := [Value.int .i64 (p1.f_Kind), Value.int .i64 (p1.f_N), strV (p1.f_Bytes), v2]) hM rfl (hS.ev_ rfl) rfl fun g7 w hM => ?_)
  refine pl hS rfl (by decide) fun a hS => ?_
  refine wl_cons rfl (e_box (cs := [Value.int .i64 (p4.f_Kind), Value.int .i64 (p4.f_N), strV (p4.f_Bytes), v5]) hM rfl (hS.ev_ rfl) rfl fun g9 w hM => ?_)
  refine pl hS rfl (by decide) fun a hS => ?_
  refine st_val hS rfl rfl (by decide) (r_assign rfl (hS.ev_ rfl)) fun a hS => ?_
  refine st_done ?_
  replace hS : Slots 31 [] a [(4, Value.bool (false)), (3, Value.pointer (some ⟨g9, 0, none⟩)), (2, Value.pointer (some ⟨g7, 0, none⟩))] := (hS.part (.cons rfl (.cons rfl (.cons rfl (.nil _)))))
  refine x_then ?_
  refine wp_seq ?_
  refine wp_region_lit ?_
  refine st_val hS rfl rfl (by decide) (r_fld_b rfl fo_36_0 (hS.ev_ rfl)) fun a hS => ?_
  replace hM := hM.pull 1 rfl rfl
  refine st_val hS rfl rfl (by decide) (r_ld1_b rfl ag_3 (hS.ev_ rfl) rfl (Rd.of hM)) fun a hS => ?_
  refine st_val hS rfl rfl (by decide) (r_fld_b rfl fo_36_0 (hS.ev_ rfl)) fun a hS => ?_
  replace hM := hM.pull 1 rfl rfl
  refine st_val hS rfl rfl (by decide) (r_ld1_b rfl ag_3 (hS.ev_ rfl) rfl (Rd.of hM)) fun a hS => ?_
  refine st_val hS rfl rfl (by decide) (r_cmp rfl (hS.ev_ rfl) (hS.ev_ rfl) rfl) fun a hS => ?_
  refine st_val hS rfl rfl (by decide) (r_move rfl (hS.ev_ rfl)) fun a hS => ?_
  obtain ⟨x11, h12, h⟩ := bindO h
  refine wl_cut 6 (fun a w => Slots 31 [] a [(2, Value.pointer (some ⟨g7, 0, none⟩)), (3, Value.pointer (some ⟨g9, 0, none⟩)), (4, Value.bool (false)), (16, Value.bool (x11))] ∧ Sat w0 w K (SP.blk g9 36 [Value.int .i64 (p4.f_Kind), Value.int .i64 (p4.f_N), strV (p4.f_Bytes), v5] :: SP.blk g7 36 [Value.int .i64 (p1.f_Kind), Value.int .i64 (p1.f_N), strV (p1.f_Bytes), v2] :: L)) ?_ ?_
  ·
    skip
    rcases ifB h12 with ⟨hc13, h12⟩ | ⟨hc13, h12⟩
    ·
      replace hS := hS.known (k := 10) rfl hc13
      refine st_want hS rfl rfl rfl rfl rfl (by decide) (r_fld_b rfl fo_36_1 (hS.ev_ rfl)) fun a hS => ?_
      replace hM := hM.pull 1 rfl rfl
      refine st_want hS rfl rfl rfl rfl rfl (by decide) (r_ld1_b rfl ag_3 (hS.ev_ rfl) rfl (Rd.of hM)) fun a hS => ?_
      refine st_want hS rfl rfl rfl rfl rfl (by decide) (r_fld_b rfl fo_36_1 (hS.ev_ rfl)) fun a hS => ?_
      replace hM := hM.pull 1 rfl rfl
      refine st_want hS rfl rfl rfl rfl rfl (by decide) (r_ld1_b rfl ag_3 (hS.ev_ rfl) rfl (Rd.of hM)) fun a hS => ?_
      refine st_want hS rfl rfl rfl rfl rfl (by decide) (r_cmp rfl (hS.ev_ rfl) (hS.ev_ rfl) rfl) fun a hS => ?_
      refine st_val hS rfl rfl (by decide) (r_pick_true rfl (hS.ev_ rfl) rfl (hS.ev_ rfl)) fun a hS => ?_
      refine st_done ?_
      replace hS : Slots 31 [] a [(16, Value.bool (p1.f_N == p4.f_N)), (4, Value.bool (false)), (3, Value.pointer (some ⟨g9, 0, none⟩)), (2, Value.pointer (some ⟨g7, 0, none⟩))] := (hS.part (.cons rfl (.cons rfl (.cons rfl (.cons rfl (.nil _))))))
      refine x_then ?_
      obtain rfl := Option.some.inj h12
      exact ⟨(hS.part (.cons rfl (.cons rfl (.cons rfl (.cons rfl (.nil _)))))), ((hM.pull 1 rfl rfl).pull 1 rfl rfl)⟩
    ·
      replace hS := hS.known (k := 10) rfl hc13
      refine st_off hS rfl rfl rfl rfl rfl rfl (by decide) fun a hS => ?_
      refine st_off hS rfl rfl rfl rfl rfl rfl (by decide) fun a hS => ?_
      refine st_off hS rfl rfl rfl rfl rfl rfl (by decide) fun a hS => ?_
      refine st_off hS rfl rfl rfl rfl rfl rfl (by decide) fun a hS => ?_
      refine st_off hS rfl rfl rfl rfl rfl rfl (by decide) fun a hS => ?_
      refine st_val hS rfl rfl (by decide) (r_pick_false rfl (hS.ev_ rfl) rfl (hS.ev_ rfl)) fun a hS => ?_
      refine st_done ?_
      replace hS : Slots 31 [] a [(16, Value.bool (false)), (4, Value.bool (false)), (3, Value.pointer (some ⟨g9, 0, none⟩)), (2, Value.pointer (some ⟨g7, 0, none⟩))] := (hS.part (.cons rfl (.cons rfl (.cons rfl (.cons rfl (.nil _))))))
      refine x_then ?_
      obtain rfl := Option.some.inj h12
      exact ⟨(hS.part (.cons rfl (.cons rfl (.cons rfl (.cons rfl (.nil _)))))), ((hM.pull 1 rfl rfl).pull 1 rfl rfl)⟩
  · rintro a w ⟨hS, hM⟩
    refine st_val hS rfl rfl (by decide) (r_move rfl (hS.ev_ rfl)) fun a hS => ?_
    obtain ⟨x14, h15, h⟩ := bindO h
    refine wl_cut 6 (fun a w => Slots 31 [] a [(2, Value.pointer (some ⟨g7, 0, none⟩)), (3, Value.pointer (some ⟨g9, 0, none⟩)), (4, Value.bool (false)), (23, Value.bool (x14))] ∧ Sat w0 w K (SP.blk g9 36 [Value.int .i64 (p4.f_Kind), Value.int .i64 (p4.f_N), strV (p4.f_Bytes), v5] :: SP.blk g7 36 [Value.int .i64 (p1.f_Kind), Value.int .i64 (p1.f_N), strV (p1.f_Bytes), v2] :: L)) ?_ ?_
    ·
      skip
      rcases ifB h15 with ⟨hc16, h15⟩ | ⟨hc16, h15⟩
      ·
        replace hS := hS.known (k := 17) rfl hc16
        refine st_want hS rfl rfl rfl rfl rfl (by decide) (r_fld_b rfl fo_36_2 (hS.ev_ rfl)) fun a hS => ?_
        replace hM := hM.pull 1 rfl rfl
        refine st_want hS rfl rfl rfl rfl rfl (by decide) (r_ld1_b rfl ag_9 (hS.ev_ rfl) rfl (Rd.of hM)) fun a hS => ?_
        refine st_want hS rfl rfl rfl rfl rfl (by decide) (r_fld_b rfl fo_36_2 (hS.ev_ rfl)) fun a hS => ?_
        replace hM := hM.pull 1 rfl rfl
        refine st_want hS rfl rfl rfl rfl rfl (by decide) (r_ld1_b rfl ag_9 (hS.ev_ rfl) rfl (Rd.of hM)) fun a hS => ?_
        refine st_want hS rfl rfl rfl rfl rfl (by decide) (r_seq rfl (hS.ev_ rfl) (hS.ev_ rfl)) fun a hS => ?_
        refine st_val hS rfl rfl (by decide) (r_pick_true rfl (hS.ev_ rfl) rfl (hS.ev_ rfl)) fun a hS => ?_
        refine st_done ?_
        replace hS : Slots 31 [] a [(23, Value.bool (p1.f_Bytes == p4.f_Bytes)), (2, Value.pointer (some ⟨g7, 0, none⟩)), (3, Value.pointer (some ⟨g9, 0, none⟩)), (4, Value.bool (false))] := (hS.part (.cons rfl (.cons rfl (.cons rfl (.cons rfl (.nil _))))))
        refine x_then ?_
        obtain rfl := Option.some.inj h15
        exact ⟨(hS.part (.cons rfl (.cons rfl (.cons rfl (.cons rfl (.nil _)))))), ((hM.pull 1 rfl rfl).pull 1 rfl rfl)⟩
      ·
        replace hS := hS.known (k := 17) rfl hc16
        refine st_off hS rfl rfl rfl rfl rfl rfl (by decide) fun a hS => ?_
        refine st_off hS rfl rfl rfl rfl rfl rfl (by decide) fun a hS => ?_
        refine st_off hS rfl rfl rfl rfl rfl rfl (by decide) fun a hS => ?_
        refine st_off hS rfl rfl rfl rfl rfl rfl (by decide) fun a hS => ?_
        refine st_off hS rfl rfl rfl rfl rfl rfl (by decide) fun a hS => ?_
        refine st_val hS rfl rfl (by decide) (r_pick_false rfl (hS.ev_ rfl) rfl (hS.ev_ rfl)) fun a hS => ?_
        refine st_done ?_
        replace hS : Slots 31 [] a [(23, Value.bool (false)), (2, Value.pointer (some ⟨g7, 0, none⟩)), (3, Value.pointer (some ⟨g9, 0, none⟩)), (4, Value.bool (false))] := (hS.part (.cons rfl (.cons rfl (.cons rfl (.cons rfl (.nil _))))))
        refine x_then ?_
        obtain rfl := Option.some.inj h15
        exact ⟨(hS.part (.cons rfl (.cons rfl (.cons rfl (.cons rfl (.nil _)))))), ((hM.pull 1 rfl rfl).pull 1 rfl rfl)⟩
    · rintro a w ⟨hS, hM⟩
      refine st_val hS rfl rfl (by decide) (r_move rfl (hS.ev_ rfl)) fun a hS => ?_
      obtain ⟨x18, h19, h⟩ := bindO h
      refine wl_cut 6 (fun a w => ∃ (K17 : Hp), Hp.le K K17 ∧ Slots 31 [] a [(4, Value.bool (false)), (30, Value.bool (x18))] ∧ Sat w0 w K17 (SP.blk g9 36 [Value.int .i64 (p4.f_Kind), Value.int .i64 (p4.f_N), strV (p4.f_Bytes), v5] :: SP.blk g7 36 [Value.int .i64 (p1.f_Kind), Value.int .i64 (p1.f_N), strV (p1.f_Bytes), v2] :: L)) ?_ ?_
      ·
        skip
        rcases ifB h19 with ⟨hc20, h19⟩ | ⟨hc20, h19⟩
        ·
          replace hS := hS.known (k := 24) rfl hc20
          refine st_want hS rfl rfl rfl rfl rfl (by decide) (r_fld_b rfl fo_36_3 (hS.ev_ rfl)) fun a hS => ?_
          replace hM := hM.pull 1 rfl rfl
          refine st_want hS rfl rfl rfl rfl rfl (by decide) (r_ld1_b rfl ag_23 (hS.ev_ rfl) rfl (Rd.of hM)) fun a hS => ?_
          refine st_want hS rfl rfl rfl rfl rfl (by decide) (r_fld_b rfl fo_36_3 (hS.ev_ rfl)) fun a hS => ?_
          replace hM := hM.pull 1 rfl rfl
          refine st_want hS rfl rfl rfl rfl rfl (by decide) (r_ld1_b rfl ag_23 (hS.ev_ rfl) rfl (Rd.of hM)) fun a hS => ?_
          obtain ⟨y21, h22, h19⟩ := bindO h19
          have hc24 := Num_SameInts_c hG h22 f3 f6 hM
          refine g_want hS rfl rfl rfl rfl (e_call rfl Tryd.func21 rfl rfl (args2 (hS.ev_ rfl) (hS.ev_ rfl)) hc24 ?_)
          rintro _ w ⟨K23, hlK23, hM, rfl⟩
          refine ⟨_, rfl, ?_⟩
          refine pl hS rfl (by decide) fun a hS => ?_
          refine st_val hS rfl rfl (by decide) (r_pick_true rfl (hS.ev_ rfl) rfl (hS.ev_ rfl)) fun a hS => ?_
          refine st_done ?_
          replace hS : Slots 31 [] a [(30, Value.bool (y21)), (4, Value.bool (false))] := (hS.part (.cons rfl (.cons rfl (.nil _))))
          refine x_then ?_
          obtain rfl := Option.some.inj h19
          exact ⟨K23, hlK23, (hS.part (.cons rfl (.cons rfl (.nil _)))), ((hM.pull 1 rfl rfl).pull 1 rfl rfl)⟩
        ·
          replace hS := hS.known (k := 24) rfl hc20
          refine st_off hS rfl rfl rfl rfl rfl rfl (by decide) fun a hS => ?_
          refine st_off hS rfl rfl rfl rfl rfl rfl (by decide) fun a hS => ?_
          refine st_off hS rfl rfl rfl rfl rfl rfl (by decide) fun a hS => ?_
          refine st_off hS rfl rfl rfl rfl rfl rfl (by decide) fun a hS => ?_
          refine st_off hS rfl rfl rfl rfl rfl rfl (by decide) fun a hS => ?_
          refine st_val hS rfl rfl (by decide) (r_pick_false rfl (hS.ev_ rfl) rfl (hS.ev_ rfl)) fun a hS => ?_
          refine st_done ?_
          replace hS : Slots 31 [] a [(30, Value.bool (false)), (4, Value.bool (false))] := (hS.part (.cons rfl (.cons rfl (.nil _))))
          refine x_then ?_
          obtain rfl := Option.some.inj h19
          exact ⟨K, (Hp.le.refl _), (hS.part (.cons rfl (.cons rfl (.nil _)))), ((hM.pull 1 rfl rfl).pull 1 rfl rfl)⟩
      · rintro a w ⟨K17, hlK17, hS, hM⟩
        refine st_val hS rfl rfl (by decide) (r_assign rfl (hS.ev_ rfl)) fun a hS => ?_
        refine st_done ?_
        replace hS : Slots 31 [] a [(4, Value.bool (x18))] := (hS.part (.cons rfl (.nil _)))
        refine x_then ?_
        refine wp_ret ?_
        have hr' := Option.some.inj h
        subst hr'
        refine ret1 (.inr rfl) hS rfl rfl ?_
        exact ⟨K17, hlK17, ((hM).tail).tail, rfl⟩

end Go.Proofs.YthjfnknhcmhmiaaDoor
