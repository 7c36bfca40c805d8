/-
  What the code computes: plain functions, and the walks.: the walks, part 2.
-/
import Derived.Test.YthjfnknhcmhmiaaDoorAW1
set_option linter.unusedVariables false
set_option linter.unusedSimpArgs false
set_option maxRecDepth 10000
set_option maxHeartbeats 1000000
set_option synthInstance.maxHeartbeats 400000
set_option synthInstance.maxSize 2000
namespace Go.Proofs.YthjfnknhcmhmiaaDoor
open Go Go.RowKit Sl

theorem strings_Builder_WriteByte_c {w0 w : World} {K : Hp} {L : List SP} {p1 : List UInt8} {p7 : UInt8} {g2 : Nat} {v3 : Value} {v5 : Value} {r : (Option Nat) × (List UInt8)} (hG : Glob w0) (h : strings_Builder_WriteByte p1 p7 = some r) (f4 : (v3 = Value.pointer none ∨ v3 = Value.pointer (some ⟨g2, 0, none⟩))) (hM : Sat w0 w K (SP.blk g2 70 [v3, v5] :: SP.row Kd.u8 5 v5 p1 :: L)) :
    Calls Tryd.prog 38 #[Value.pointer (some ⟨g2, 0, none⟩), Value.int .u8 (b8 (p7))] w (fun e w' => ∃ (K' : Hp) (v'1 v'2 : Value), Hp.le K K' ∧ Sat w0 w' K' (SP.blk g2 70 [v'1, v'2] :: SP.row Kd.u8 5 v'2 r.2 :: L) ∧ e = .returned (eV w0 r.1) ∧ (v'1 = Value.pointer none ∨ v'1 = Value.pointer (some ⟨g2, 0, none⟩))) := by
  refine enter_ (n := 17) (args := [Value.pointer (some ⟨g2, 0, none⟩), Value.int .u8 (b8 (p7))]) Tryd.func38 rfl rfl (Nat.le_of_ble_eq_true rfl) fun a hS => ?_
  replace hS : Slots 17 [] a [(0, Value.pointer (some ⟨g2, 0, none⟩)), (1, Value.int .u8 (b8 (p7)))] := hS
  unfold strings_Builder_WriteByte at h
  refine wp_seq ?_
  refine wp_region_lit ?_
  refine st_val hS rfl rfl (by decide) (r_assign rfl (hS.ev_ rfl)) fun a hS => ?_
  refine st_done ?_
  replace hS : Slots 17 [] a [(4, eV w0 ((none : Option Nat))), (0, Value.pointer (some ⟨g2, 0, none⟩)), (1, Value.int .u8 (b8 (p7)))] := (hS.part (.cons rfl (.cons rfl (.cons rfl (.nil _)))))
  refine x_then ?_
  refine wp_seq ?_
  refine wp_region_lit ?_
  refine st_val hS rfl rfl (by decide) (r_move rfl (hS.ev_ rfl)) fun a hS => ?_
  obtain ⟨y8, h9, h⟩ := bindO h
  replace hM := hM.pull 1 rfl rfl
  replace hM := hM.pull 1 rfl rfl
  have hc11 := strings_Builder_copyCheck_c hG h9 f4 hM
  refine wl_cons rfl (e_call rfl Tryd.func50 rfl rfl (args1 (hS.ev_ rfl)) hc11 ?_)
  rintro _ w ⟨K10, v12, v14, hlK10, hM, rfl, f13⟩
  refine ⟨_, rfl, ?_⟩
  refine pl hS rfl (by decide) fun a hS => ?_
  refine st_done ?_
  replace hS : Slots 17 [] a [(4, eV w0 ((none : Option Nat))), (0, Value.pointer (some ⟨g2, 0, none⟩)), (1, Value.int .u8 (b8 (p7)))] := (hS.part (.cons rfl (.cons rfl (.cons rfl (.nil _)))))
  refine x_then ?_
  refine wp_seq ?_
  refine wp_region_lit ?_
  refine st_val hS rfl rfl (by decide) (r_move rfl (hS.ev_ rfl)) fun a hS => ?_
  refine st_val hS rfl rfl (by decide) (r_move rfl (hS.ev_ rfl)) fun a hS => ?_
  refine st_val hS rfl rfl (by decide) (r_nilCheck rfl (hS.ev_ rfl)) fun a hS => ?_
  refine st_val hS rfl rfl (by decide) (r_fld_b rfl fo_70_1 (hS.ev_ rfl)) fun a hS => ?_
  refine st_val hS rfl rfl (by decide) (r_ld1_b rfl ag_22 (hS.ev_ rfl) rfl (Rd.of hM)) fun a hS => ?_
  refine st_val hS rfl rfl (by decide) (r_move rfl (hS.ev_ rfl)) fun a hS => ?_
  refine wl_cons rfl (e_litK (d := Kd.u8) (e := 5) (cs := [Value.int .u8 (b8 (p7))]) (xs := ([p7] : List UInt8)) hM rfl (parts_ev hS rfl) (by kernel_rfl) ⟨[Value.int .u8 (b8 (p7))], [], rfl, rfl, rfl⟩ rfl (by decide) fun v16 K17 w hlK17 hM f18 => ?_)
  refine pl hS rfl (by decide) fun a hS => ?_
  replace hM := hM.pull 1 rfl rfl
  obtain ⟨h19, h⟩ := bindU h
  refine wl_cons rfl (e_apd_sl hM rfl un_22 un_22 ti_5 rfl rfl (by decide) (hS.ev_ rfl) (hS.ev_ rfl) f18 (req_some h19) fun v20 w hM => ?_)
  refine pl hS rfl (by decide) fun a hS => ?_
  refine st_val hS rfl rfl (by decide) (r_nilCheck rfl (hS.ev_ rfl)) fun a hS => ?_
  refine st_val hS rfl rfl (by decide) (r_fld_b rfl fo_70_1 (hS.ev_ rfl)) fun a hS => ?_
  replace hM := hM.pull 1 rfl rfl
  replace hM := hM.pull 1 rfl rfl
  have ho21 := row_one hM
  replace hM := hM.pull 1 rfl rfl
  refine wl_cons rfl (e_store1 hM rfl ti_22 (hS.ev_ rfl) (hS.ev_ rfl) ho21 (Nat.lt_of_lt_of_le (Nat.le_of_ble_eq_true rfl) (Nat.le_refl _)) fun w hM => ?_)
  have hM : Sat w0 w K17 (SP.blk g2 70 [v12, v20] :: SP.row Kd.u8 5 v20 (y8 ++ ([p7] : List UInt8)) :: L) := hM
  refine pl0 hS rfl fun a hS => ?_
  refine st_done ?_
  replace hS : Slots 17 [] a [(4, eV w0 ((none : Option Nat)))] := (hS.part (.cons rfl (.nil _)))
  refine x_then ?_
  refine wp_seq ?_
  refine wp_region_lit ?_
  refine st_val hS rfl rfl (by decide) (r_assign rfl (hS.ev_ rfl)) fun a hS => ?_
  refine st_done ?_
  replace hS : Slots 17 [] a [(4, eV w0 ((none : Option Nat)))] := (hS.part (.cons rfl (.nil _)))
  refine x_then ?_
  refine wp_ret ?_
  have hr' := Option.some.inj h
  subst hr'
  refine ret1 (.inr rfl) hS rfl rfl ?_
  exact ⟨K17, (v12), (v20), (hlK10.trans hlK17), ((hM.pull 1 rfl rfl).pull 1 rfl rfl), rfl, f13⟩

theorem strings_Builder_String_c {w0 w : World} {K : Hp} {L : List SP} {p1 : List UInt8} {g2 : Nat} {v3 : Value} {v5 : Value} {r : List UInt8} (hG : Glob w0) (h : strings_Builder_String p1 = some r) (f4 : (v3 = Value.pointer none ∨ v3 = Value.pointer (some ⟨g2, 0, none⟩))) (hM : Sat w0 w K (SP.blk g2 70 [v3, v5] :: SP.row Kd.u8 5 v5 p1 :: L)) :
    Calls Tryd.prog 39 #[Value.pointer (some ⟨g2, 0, none⟩)] w (fun e w' => ∃ (K' : Hp), Hp.le K K' ∧ Sat w0 w' K' (L) ∧ e = .returned (strV (r))) := by
  refine enter_ (n := 14) (args := [Value.pointer (some ⟨g2, 0, none⟩)]) Tryd.func39 rfl rfl (Nat.le_of_ble_eq_true rfl) fun a hS => ?_
  replace hS : Slots 14 [] a [(0, Value.pointer (some ⟨g2, 0, none⟩))] := hS
  unfold strings_Builder_String at h
  refine wp_seq ?_
  refine wp_region_lit ?_
  refine st_val hS rfl rfl (by decide) (r_assign rfl (hS.ev_ (v := strV (([] : List UInt8))) rfl)) fun a hS => ?_
  refine st_done ?_
  replace hS : Slots 14 [] a [(2, strV (([] : List UInt8))), (0, Value.pointer (some ⟨g2, 0, none⟩))] := (hS.part (.cons rfl (.cons rfl (.nil _))))
  refine x_then ?_
  refine wp_seq ?_
  refine tk_start #[false, false, false, false, false, false, false, false, false, false, false, false] mixed_ rfl rfl ?_
  replace hM := hM.drew
  generalize w.drew = w at hM ⊢
  refine dk_any (i := 0) #[true, false, false, false, false, false, false, false, false, false, false, false] hS rfl (by kernel_rfl) rfl rfl (by decide) (fun w => r_move rfl (hS.ev_ rfl)) fun a hS => ?_
  refine dk_any (i := 1) #[true, true, false, false, false, false, false, false, false, false, false, false] hS rfl (by kernel_rfl) rfl rfl (by decide) (fun w => r_nilCheck rfl (hS.ev_ rfl)) fun a hS => ?_
  refine dk_any (i := 2) #[true, true, true, false, false, false, false, false, false, false, false, false] hS rfl (by kernel_rfl) rfl rfl (by decide) (fun w => r_fld_b rfl fo_70_1 (hS.ev_ rfl)) fun a hS => ?_
  refine dk_val (i := 3) (S := Rd w0 K [SP.blk g2 70 [v3, v5]]) #[true, true, true, true, false, false, false, false, false, false, false, false] hS rfl (by kernel_rfl) rfl rfl (by decide) (Rd.of hM.only) (fun w hR => r_ld1_b rfl ag_22 (hS.ev_ rfl) rfl hR) fun a hS => ?_
  refine dk_any (i := 5) #[true, true, true, true, false, true, false, false, false, false, false, false] hS rfl (by kernel_rfl) rfl rfl (by decide) (fun w => r_move rfl (hS.ev_ rfl)) fun a hS => ?_
  refine dk_any (i := 6) #[true, true, true, true, false, true, true, false, false, false, false, false] hS rfl (by kernel_rfl) rfl rfl (by decide) (fun w => r_nilCheck rfl (hS.ev_ rfl)) fun a hS => ?_
  refine dk_any (i := 7) #[true, true, true, true, false, true, true, true, false, false, false, false] hS rfl (by kernel_rfl) rfl rfl (by decide) (fun w => r_fld_b rfl fo_70_1 (hS.ev_ rfl)) fun a hS => ?_
  refine dk_val (i := 8) (S := Rd w0 K [SP.blk g2 70 [v3, v5]]) #[true, true, true, true, false, true, true, true, true, false, false, false] hS rfl (by kernel_rfl) rfl rfl (by decide) (Rd.of hM.only) (fun w hR => r_ld1_b rfl ag_22 (hS.ev_ rfl) rfl hR) fun a hS => ?_
  replace hM := hM.pull 1 rfl rfl
  refine dk_val (i := 9) (S := Rd w0 K [SP.row Kd.u8 5 v5 p1]) #[true, true, true, true, false, true, true, true, true, true, false, false] hS rfl (by kernel_rfl) rfl rfl (by decide) (Rd.of hM.only) (fun w hR => r_len_rowR rfl un_22 (hS.ev_ rfl) hR) fun a hS => ?_
  refine dk_one (i := 4) #[true, true, true, true, true, true, true, true, true, true, false, false] rfl (by kernel_rfl) rfl (e_usd hM rfl un_88 (hS.ev_ rfl) fun pt7 w hM hv8 => ?_)
  refine pT hS rfl (by decide) (Dem.keep (fun _ => Rd.up (Hp.le.refl _) hM.only) (Dem.keep (fun _ => Rd.up (Hp.le.refl _) (hM.pull 1 rfl rfl).only) (Dem.wait (by kernel_rfl) Dem.nil))) fun a hS => ?_
  refine dk_one (i := 10) #[true, true, true, true, true, true, true, true, true, true, true, false] rfl (by kernel_rfl) rfl (e_ustr hM rfl un_88 ce_5 (hS.ev_ rfl) (hS.ev_ rfl) hv8 fun w hM => ?_)
  refine pT hS rfl (by decide) (Dem.wait (by kernel_rfl) (Dem.wait (by kernel_rfl) (Dem.wait (by kernel_rfl) Dem.nil))) fun a hS => ?_
  refine dk_any (i := 11) #[true, true, true, true, true, true, true, true, true, true, true, true] hS rfl (by kernel_rfl) rfl rfl (by decide) (fun w => r_assign rfl (hS.ev_ rfl)) fun a hS => ?_
  refine tk_done (by kernel_rfl) ?_
  replace hS : Slots 14 [] a [(2, strV (p1))] := (hS.part (.cons rfl (.nil _)))
  refine x_then ?_
  refine wp_ret ?_
  have hr' := Option.some.inj h
  subst hr'
  refine ret1 (.inr rfl) hS rfl rfl ?_
  exact ⟨K, (Hp.le.refl _), (hM).tail, rfl⟩

theorem raw_told_c {w0 w : World} {K : Hp} {L : List SP} {p1 : List UInt8} {v2 : Value} {r : List UInt8} (hG : Glob w0) (h : raw_told p1 = some r) (f3 : Kd.u8.sl K v2 p1) (hM : Sat w0 w K (L)) :
    Calls Tryd.prog 26 #[v2] w (fun e w' => ∃ (K' : Hp), Hp.le K K' ∧ Sat w0 w' K' (L) ∧ e = .returned (strV (r))) := by
  refine enter_ (n := 25) (args := [v2]) Tryd.func26 rfl rfl (Nat.le_of_ble_eq_true rfl) fun a hS => ?_
  replace hS : Slots 25 [] a [(0, v2)] := hS
  unfold raw_told at h
  refine wp_seq ?_
  refine wp_region_lit ?_
  refine st_val hS rfl rfl (by decide) (r_assign rfl (hS.ev_ (v := strV (([] : List UInt8))) rfl)) fun a hS => ?_
  refine st_done ?_
  replace hS : Slots 25 [] a [(2, strV (([] : List UInt8))), (0, v2)] := (hS.part (.cons rfl (.cons rfl (.nil _))))
  refine x_then ?_
  refine wp_seq ?_
  refine wp_seq ?_
  refine wp_region_lit ?_
  refine st_val hS rfl rfl (by decide) (r_move rfl (hS.ev_ rfl)) fun a hS => ?_
  refine st_val hS rfl rfl (by decide) (r_len_sl rfl un_22 (hS.ev_ rfl) f3) fun a hS => ?_
  refine st_val hS rfl rfl (by decide) (r_cmp rfl (hS.ev_ rfl) (hS.ev_ rfl) rfl) fun a hS => ?_
  refine st_done ?_
  replace hS : Slots 25 [] a [(8, Value.bool (((p1.length : Int)) == 0)), (2, strV (([] : List UInt8))), (0, v2)] := (hS.part (.cons rfl (.cons rfl (.cons rfl (.nil _)))))
  refine x_then ?_
  rcases ifB h with ⟨hc4, h⟩ | ⟨hc4, h⟩
  · refine c_cond_true (hS.ev_ rfl) hc4 ?_
    refine wp_seq ?_
    refine wp_region_lit ?_
    refine st_val hS rfl rfl (by decide) (r_assign rfl (hS.ev_ (v := strV (([45] : List UInt8))) rfl)) fun a hS => ?_
    refine st_done ?_
    replace hS : Slots 25 [] a [(2, strV (([45] : List UInt8))), (0, v2)] := (hS.part (.cons rfl (.cons rfl (.nil _))))
    refine x_then ?_
    refine wp_ret ?_
    refine x_then_ret ?_
    have hr' := Option.some.inj h
    subst hr'
    refine ret1 (.inr rfl) hS rfl rfl ?_
    exact ⟨K, (Hp.le.refl _), hM, rfl⟩
  · refine c_cond_false (hS.ev_ rfl) hc4 ?_
    refine wp_skip ?_
    refine x_then ?_
    refine wp_seq ?_
    refine wp_region_lit ?_
    replace hM := hM.row_nil Kd.u8 5
    refine wl_cons rfl (e_alloc (cs := [Value.pointer none, Value.slice none 0 0]) hM rfl ti_70 rfl fun g5 w hM => ?_)
    refine pl hS rfl (by decide) fun a hS => ?_
    refine st_done ?_
    replace hS : Slots 25 [] a [(3, Value.pointer (some ⟨g5, 0, none⟩)), (2, strV (([] : List UInt8))), (0, v2)] := (hS.part (.cons rfl (.cons rfl (.cons rfl (.nil _)))))
    refine x_then ?_
    refine wp_seq ?_
    refine wp_seq ?_
    refine wp_region_lit ?_
    refine st_val hS rfl rfl (by decide) (r_move rfl (hS.ev_ rfl)) fun a hS => ?_
    refine st_val hS rfl rfl (by decide) (r_len_sl rfl un_22 (hS.ev_ rfl) f3) fun a hS => ?_
    refine st_val hS rfl rfl (by decide) (r_move rfl (hS.ev_ rfl)) fun a hS => ?_
    refine st_done ?_
    replace hS : Slots 25 [] a [(11, Value.int .i64 (0)), (10, Value.int .i64 ((p1.length : Int))), (9, v2), (3, Value.pointer (some ⟨g5, 0, none⟩)), (2, strV (([] : List UInt8)))] := (hS.part (.cons rfl (.cons rfl (.cons rfl (.cons rfl (.cons rfl (.nil _)))))))
    refine x_then ?_
    refine wp_block ?_
    obtain ⟨o21, h22, h⟩ := bindO h
    refine c_loop_ways (fun e a w => (e = .exit 0 ∧ ∃ (K23 : Hp) (v24 v26 : Value), Hp.le K K23 ∧ Slots 25 [] a [(2, strV (([] : List UInt8))), (3, Value.pointer (some ⟨g5, 0, none⟩))] ∧ Sat w0 w K23 (SP.blk g5 70 [v24, v26] :: SP.row Kd.u8 5 v26 o21 :: L) ∧ (v24 = Value.pointer none ∨ v24 = Value.pointer (some ⟨g5, 0, none⟩)))) ?_ ?_
    · intro c Q hc hQ
      have key : ∀ (x16 : Int) (x19 : List UInt8) (r' : List UInt8), raw_told_l1 p1 x16 x19 = some r' → r' = o21 → ∀ (K15 : Hp) (v17 v20 : Value) (a : Act) (w : World), Hp.le K K15 → Slots 25 [] a [(11, Value.int .i64 (x16)), (10, Value.int .i64 ((p1.length : Int))), (9, v2), (3, Value.pointer (some ⟨g5, 0, none⟩)), (2, strV (([] : List UInt8)))] → Sat w0 w K15 (SP.blk g5 70 [v17, v20] :: SP.row Kd.u8 5 v20 x19 :: L) → (v17 = Value.pointer none ∨ v17 = Value.pointer (some ⟨g5, 0, none⟩)) → Rnd Tryd.prog c Q a w := by
        refine raw_told_l1.partial_correctness p1 _ ?_
        intro raw_told_l1_rec ih x16 x19 r' h hr K15 v17 v20 a w hlK15 hS hM f18
        subst hc
        refine c_round ?_
        refine wp_seq ?_
        refine wp_region_lit ?_
        refine st_val hS rfl rfl (by decide) (r_cmp rfl (hS.ev_ rfl) (hS.ev_ rfl) rfl) fun a hS => ?_
        refine st_done ?_
        replace hS : Slots 25 [] a [(12, Value.bool (decide (x16 < ((p1.length : Int))))), (11, Value.int .i64 (x16)), (10, Value.int .i64 ((p1.length : Int))), (9, v2), (3, Value.pointer (some ⟨g5, 0, none⟩)), (2, strV (([] : List UInt8)))] := (hS.part (.cons rfl (.cons rfl (.cons rfl (.cons rfl (.cons rfl (.cons rfl (.nil _))))))))
        refine x_then ?_
        refine wp_seq ?_
        rcases ifB h with ⟨hc27, h⟩ | ⟨hc27, h⟩
        · refine c_cond_true (hS.ev_ rfl) hc27 ?_
          refine wp_skip ?_
          refine x_then ?_
          refine wp_seq ?_
          refine wp_block ?_
          refine wp_seq ?_
          refine wp_region_lit ?_
          obtain ⟨e28, h29, h⟩ := bindO h
          obtain ⟨ad30, cp31, cs32, hv33, hr34, h0_35, h1_36, hq37⟩ := sl_at f3 h29 (by decide)
          obtain rfl := hr34
          refine st_val hS rfl rfl (by decide) (r_idx_sl rfl un_22 ti_5 (hS.ev_ rfl) hv33 (hS.ev_ rfl) h0_35 h1_36) fun a hS => ?_
          refine st_val hS rfl rfl (by decide) (r_ld1_k rfl ag_5 (hS.ev_ rfl) hq37 rfl (Rd.up hlK15 hM.nil_)) fun a hS => ?_
          refine st_val hS rfl rfl (by decide) (r_assign rfl (hS.ev_ rfl)) fun a hS => ?_
          refine st_done ?_
          replace hS : Slots 25 [] a [(5, Value.int .u8 (b8 (e28))), (11, Value.int .i64 (x16)), (10, Value.int .i64 ((p1.length : Int))), (9, v2), (3, Value.pointer (some ⟨g5, 0, none⟩)), (2, strV (([] : List UInt8)))] := (hS.part (.cons rfl (.cons rfl (.cons rfl (.cons rfl (.cons rfl (.cons rfl (.nil _))))))))
          refine x_then ?_
          refine wp_seq ?_
          refine wp_region_lit ?_
          refine st_val hS rfl rfl (by decide) (r_move rfl (hS.ev_ rfl)) fun a hS => ?_
          refine st_val hS rfl rfl (by decide) (r_shr8 (n := 4) rfl (hS.ev_ rfl) (hS.ev_ (v := Value.int .u64 ((4 : Nat) : Int)) rfl) (by decide)) fun a hS => ?_
          obtain ⟨c38, h39, h⟩ := bindO h
          refine st_val hS rfl rfl (by decide) (r_index_s rfl un_9 (hS.ev_ (v := strV (([48, 49, 50, 51, 52, 53, 54, 55, 56, 57, 97, 98, 99, 100, 101, 102] : List UInt8))) rfl) (hS.ev_ rfl) h39) fun a hS => ?_
          obtain ⟨y40, h41, h⟩ := bindO h
          replace hM := hM.pull 1 rfl rfl
          replace hM := hM.pull 1 rfl rfl
          have hc43 := strings_Builder_WriteByte_c hG h41 f18 hM
          refine wl_cons rfl (e_call rfl Tryd.func38 rfl rfl (args2 (hS.ev_ rfl) (hS.ev_ rfl)) hc43 ?_)
          rintro _ w ⟨K42, v44, v46, hlK42, hM, rfl, f45⟩
          refine ⟨_, rfl, ?_⟩
          refine pl hS rfl (by decide) fun a hS => ?_
          refine st_done ?_
          replace hS : Slots 25 [] a [(5, Value.int .u8 (b8 (e28))), (11, Value.int .i64 (x16)), (10, Value.int .i64 ((p1.length : Int))), (9, v2), (3, Value.pointer (some ⟨g5, 0, none⟩)), (2, strV (([] : List UInt8)))] := (hS.part (.cons rfl (.cons rfl (.cons rfl (.cons rfl (.cons rfl (.cons rfl (.nil _))))))))
          refine x_then ?_
          refine wp_region_lit ?_
          refine st_val hS rfl rfl (by decide) (r_move rfl (hS.ev_ rfl)) fun a hS => ?_
          refine st_val hS rfl rfl (by decide) (r_and8 rfl (hS.ev_ rfl) (hS.ev_ (v := Value.int .u8 (b8 (15))) rfl)) fun a hS => ?_
          obtain ⟨c48, h49, h⟩ := bindO h
          refine st_val hS rfl rfl (by decide) (r_index_s rfl un_9 (hS.ev_ (v := strV (([48, 49, 50, 51, 52, 53, 54, 55, 56, 57, 97, 98, 99, 100, 101, 102] : List UInt8))) rfl) (hS.ev_ rfl) h49) fun a hS => ?_
          obtain ⟨y50, h51, h⟩ := bindO h
          replace hM := hM.pull 1 rfl rfl
          replace hM := hM.pull 1 rfl rfl
          have hc53 := strings_Builder_WriteByte_c hG h51 f45 hM
          refine wl_cons rfl (e_call rfl Tryd.func38 rfl rfl (args2 (hS.ev_ rfl) (hS.ev_ rfl)) hc53 ?_)
          rintro _ w ⟨K52, v54, v56, hlK52, hM, rfl, f55⟩
          refine ⟨_, rfl, ?_⟩
          refine pl hS rfl (by decide) fun a hS => ?_
          refine st_done ?_
          replace hS : Slots 25 [] a [(11, Value.int .i64 (x16)), (10, Value.int .i64 ((p1.length : Int))), (9, v2), (3, Value.pointer (some ⟨g5, 0, none⟩)), (2, strV (([] : List UInt8)))] := (hS.part (.cons rfl (.cons rfl (.cons rfl (.cons rfl (.cons rfl (.nil _)))))))
          refine x_block ?_
          refine x_then ?_
          refine wp_region_lit ?_
          refine st_val hS rfl rfl (by decide) (r_add rfl (hS.ev_ rfl) (hS.ev_ rfl)) fun a hS => ?_
          refine st_val hS rfl rfl (by decide) (r_move rfl (hS.ev_ rfl)) fun a hS => ?_
          refine st_done ?_
          replace hS : Slots 25 [] a [(11, Value.int .i64 (w64 (x16 + 1))), (10, Value.int .i64 ((p1.length : Int))), (9, v2), (3, Value.pointer (some ⟨g5, 0, none⟩)), (2, strV (([] : List UInt8)))] := (hS.part (.cons rfl (.cons rfl (.cons rfl (.cons rfl (.cons rfl (.nil _)))))))
          refine x_then ?_
          exact ih (w64 (x16 + 1)) y50.2 _ h hr K52 (v54) (v56) _ _ ((hlK15.trans hlK42).trans hlK52) (hS.part (.cons rfl (.cons rfl (.cons rfl (.cons rfl (.cons rfl (.nil _))))))) (((hM.pull 1 rfl rfl).pull 1 rfl rfl)) f55
        · refine c_cond_false (hS.ev_ rfl) hc27 ?_
          refine wp_exit ?_
          refine x_then_exit ?_
          refine x_then_exit ?_
          have ho' := (Option.some.inj h).trans hr
          refine hQ _ _ _ ?_
          subst ho'
          exact ⟨rfl, K15, (v17), (v20), hlK15, (hS.part (.cons rfl (.cons rfl (.nil _)))), ((hM.pull 1 rfl rfl).pull 1 rfl rfl), f18⟩
      exact key 0 ([] : List UInt8) _ h22 rfl K ((Value.pointer none)) ((Value.slice none 0 0)) _ _ (Hp.le.refl _) (hS.part (.cons rfl (.cons rfl (.cons rfl (.cons rfl (.cons rfl (.nil _))))))) (((hM.pull 1 rfl rfl).pull 1 rfl rfl)) (.inl rfl)
    · rintro e a w ⟨rfl, K23, v24, v26, hlK23, hS, hM, f25⟩
      refine x_block_here ?_
      refine x_then ?_
      refine wp_seq ?_
      refine wp_region_lit ?_
      obtain ⟨y58, h59, h⟩ := bindO h
      replace hM := hM.pull 1 rfl rfl
      replace hM := hM.pull 1 rfl rfl
      have hc61 := strings_Builder_String_c hG h59 f25 hM
      refine wl_cons rfl (e_call rfl Tryd.func39 rfl rfl (args1 (hS.ev_ rfl)) hc61 ?_)
      rintro _ w ⟨K60, hlK60, hM, rfl⟩
      refine ⟨_, rfl, ?_⟩
      refine pl hS rfl (by decide) fun a hS => ?_
      refine st_val hS rfl rfl (by decide) (r_assign rfl (hS.ev_ rfl)) fun a hS => ?_
      refine st_done ?_
      replace hS : Slots 25 [] a [(2, strV (y58))] := (hS.part (.cons rfl (.nil _)))
      refine x_then ?_
      refine wp_ret ?_
      have hr' := Option.some.inj h
      subst hr'
      refine ret1 (.inr rfl) hS rfl rfl ?_
      exact ⟨K60, (hlK23.trans hlK60), hM, rfl⟩

theorem raw_places_c {w0 w : World} {K : Hp} {L : List SP} {p1 : List Int} {v2 : Value} {r : List UInt8} (hG : Glob w0) (h : raw_places p1 = some r) (f3 : (Kd.int .i64).sl K v2 p1) (hM : Sat w0 w K (L)) :
    Calls Tryd.prog 27 #[v2] w (fun e w' => ∃ (K' : Hp), Hp.le K K' ∧ Sat w0 w' K' (L) ∧ e = .returned (strV (r))) := by
  refine enter_ (n := 20) (args := [v2]) Tryd.func27 rfl rfl (Nat.le_of_ble_eq_true rfl) fun a hS => ?_
  replace hS : Slots 20 [] a [(0, v2)] := hS
  unfold raw_places at h
  refine wp_seq ?_
  refine wp_region_lit ?_
  refine st_val hS rfl rfl (by decide) (r_assign rfl (hS.ev_ (v := strV (([] : List UInt8))) rfl)) fun a hS => ?_
  refine st_done ?_
  replace hS : Slots 20 [] a [(2, strV (([] : List UInt8))), (0, v2)] := (hS.part (.cons rfl (.cons rfl (.nil _))))
  refine x_then ?_
  refine wp_seq ?_
  refine wp_region_lit ?_
  refine st_val hS rfl rfl (by decide) (r_assign rfl (hS.ev_ rfl)) fun a hS => ?_
  replace hM := hM.row_nil Kd.str 9
  refine st_done ?_
  replace hS : Slots 20 [] a [(3, (Value.slice none 0 0)), (2, strV (([] : List UInt8))), (0, v2)] := (hS.part (.cons rfl (.cons rfl (.cons rfl (.nil _)))))
  refine x_then ?_
  refine wp_seq ?_
  refine wp_seq ?_
  refine wp_region_lit ?_
  refine st_val hS rfl rfl (by decide) (r_move rfl (hS.ev_ rfl)) fun a hS => ?_
  refine st_val hS rfl rfl (by decide) (r_len_sl rfl un_23 (hS.ev_ rfl) f3) fun a hS => ?_
  refine st_val hS rfl rfl (by decide) (r_move rfl (hS.ev_ rfl)) fun a hS => ?_
  refine st_done ?_
  replace hS : Slots 20 [] a [(8, Value.int .i64 (0)), (7, Value.int .i64 ((p1.length : Int))), (6, v2), (3, (Value.slice none 0 0)), (2, strV (([] : List UInt8)))] := (hS.part (.cons rfl (.cons rfl (.cons rfl (.cons rfl (.cons rfl (.nil _)))))))
  refine x_then ?_
  refine wp_block ?_
  obtain ⟨o14, h15, h⟩ := bindO h
  refine c_loop_ways (fun e a w => (e = .exit 0 ∧ ∃ (K16 : Hp) (v17 : Value), Hp.le K K16 ∧ Slots 20 [] a [(2, strV (([] : List UInt8))), (3, v17)] ∧ Sat w0 w K16 (SP.row Kd.str 9 v17 o14 :: L))) ?_ ?_
  · intro c Q hc hQ
    have key : ∀ (x11 : Int) (x12 : List (List UInt8)) (r' : List (List UInt8)), raw_places_l1 p1 x11 x12 = some r' → r' = o14 → ∀ (K10 : Hp) (v13 : Value) (a : Act) (w : World), Hp.le K K10 → Slots 20 [] a [(8, Value.int .i64 (x11)), (7, Value.int .i64 ((p1.length : Int))), (6, v2), (2, strV (([] : List UInt8))), (3, v13)] → Sat w0 w K10 (SP.row Kd.str 9 v13 x12 :: L) → Rnd Tryd.prog c Q a w := by
      refine raw_places_l1.partial_correctness p1 _ ?_
      intro raw_places_l1_rec ih x11 x12 r' h hr K10 v13 a w hlK10 hS hM 
      subst hc
      refine c_round ?_
      refine wp_seq ?_
      refine wp_region_lit ?_
      refine st_val hS rfl rfl (by decide) (r_cmp rfl (hS.ev_ rfl) (hS.ev_ rfl) rfl) fun a hS => ?_
      refine st_done ?_
      replace hS : Slots 20 [] a [(9, Value.bool (decide (x11 < ((p1.length : Int))))), (8, Value.int .i64 (x11)), (7, Value.int .i64 ((p1.length : Int))), (6, v2), (2, strV (([] : List UInt8))), (3, v13)] := (hS.part (.cons rfl (.cons rfl (.cons rfl (.cons rfl (.cons rfl (.cons rfl (.nil _))))))))
      refine x_then ?_
      refine wp_seq ?_
      rcases ifB h with ⟨hc18, h⟩ | ⟨hc18, h⟩
      · refine c_cond_true (hS.ev_ rfl) hc18 ?_
        refine wp_skip ?_
        refine x_then ?_
        refine wp_seq ?_
        refine wp_block ?_
        refine wp_seq ?_
        refine wp_region_lit ?_
        obtain ⟨e19, h20, h⟩ := bindO h
        obtain ⟨ad21, cp22, cs23, hv24, hr25, h0_26, h1_27, hq28⟩ := sl_at f3 h20 (by decide)
        obtain rfl := hr25
        refine st_val hS rfl rfl (by decide) (r_idx_sl rfl un_23 ti_3 (hS.ev_ rfl) hv24 (hS.ev_ rfl) h0_26 h1_27) fun a hS => ?_
        refine st_val hS rfl rfl (by decide) (r_ld1_k rfl ag_3 (hS.ev_ rfl) hq28 rfl (Rd.up hlK10 hM.nil_)) fun a hS => ?_
        refine st_val hS rfl rfl (by decide) (r_assign rfl (hS.ev_ rfl)) fun a hS => ?_
        refine st_done ?_
        replace hS : Slots 20 [] a [(5, Value.int .i64 (e19)), (8, Value.int .i64 (x11)), (7, Value.int .i64 ((p1.length : Int))), (6, v2), (2, strV (([] : List UInt8))), (3, v13)] := (hS.part (.cons rfl (.cons rfl (.cons rfl (.cons rfl (.cons rfl (.cons rfl (.nil _))))))))
        refine x_then ?_
        refine wp_region_lit ?_
        refine st_val hS rfl rfl (by decide) (r_move rfl (hS.ev_ rfl)) fun a hS => ?_
        refine st_val hS rfl rfl (by decide) (r_move rfl (hS.ev_ rfl)) fun a hS => ?_
        obtain ⟨y29, h30, h⟩ := bindO h
        have hc32 := strconv_Itoa_c hG h30 hM
        refine wl_cons rfl (e_call rfl Tryd.func25 rfl rfl (args1 (hS.ev_ rfl)) hc32 ?_)
        rintro _ w ⟨K31, hlK31, hM, rfl⟩
        refine ⟨_, rfl, ?_⟩
        refine pl hS rfl (by decide) fun a hS => ?_
        refine wl_cons rfl (e_litK (d := Kd.str) (e := 9) (cs := [strV (y29)]) (xs := [y29]) hM rfl (parts_ev hS rfl) (by kernel_rfl) ⟨[strV (y29)], [], rfl, rfl, rfl⟩ rfl (by decide) fun v33 K34 w hlK34 hM f35 => ?_)
        refine pl hS rfl (by decide) fun a hS => ?_
        obtain ⟨h36, h⟩ := bindU h
        refine wl_cons rfl (e_apd_sl hM rfl un_46 un_46 ti_9 rfl rfl (by decide) (hS.ev_ rfl) (hS.ev_ rfl) f35 (req_some h36) fun v37 w hM => ?_)
        refine pl hS rfl (by decide) fun a hS => ?_
        refine st_val hS rfl rfl (by decide) (r_assign rfl (hS.ev_ rfl)) fun a hS => ?_
        refine st_done ?_
        replace hS : Slots 20 [] a [(3, v37), (8, Value.int .i64 (x11)), (7, Value.int .i64 ((p1.length : Int))), (6, v2), (2, strV (([] : List UInt8)))] := (hS.part (.cons rfl (.cons rfl (.cons rfl (.cons rfl (.cons rfl (.nil _)))))))
        refine x_block ?_
        refine x_then ?_
        refine wp_region_lit ?_
        refine st_val hS rfl rfl (by decide) (r_add rfl (hS.ev_ rfl) (hS.ev_ rfl)) fun a hS => ?_
        refine st_val hS rfl rfl (by decide) (r_move rfl (hS.ev_ rfl)) fun a hS => ?_
        refine st_done ?_
        replace hS : Slots 20 [] a [(8, Value.int .i64 (w64 (x11 + 1))), (3, v37), (7, Value.int .i64 ((p1.length : Int))), (6, v2), (2, strV (([] : List UInt8)))] := (hS.part (.cons rfl (.cons rfl (.cons rfl (.cons rfl (.cons rfl (.nil _)))))))
        refine x_then ?_
        exact ih (w64 (x11 + 1)) (x12 ++ [y29]) _ h hr K34 (v37) _ _ ((hlK10.trans hlK31).trans hlK34) (hS.part (.cons rfl (.cons rfl (.cons rfl (.cons rfl (.cons rfl (.nil _))))))) (hM)
      · refine c_cond_false (hS.ev_ rfl) hc18 ?_
        refine wp_exit ?_
        refine x_then_exit ?_
        refine x_then_exit ?_
        have ho' := (Option.some.inj h).trans hr
        refine hQ _ _ _ ?_
        subst ho'
        exact ⟨rfl, K10, (v13), hlK10, (hS.part (.cons rfl (.cons rfl (.nil _)))), hM⟩
    exact key 0 (([] : List (List UInt8))) _ h15 rfl K ((Value.slice none 0 0)) _ _ (Hp.le.refl _) (hS.part (.cons rfl (.cons rfl (.cons rfl (.cons rfl (.cons rfl (.nil _))))))) (hM)
  · rintro e a w ⟨rfl, K16, v17, hlK16, hS, hM⟩
    refine x_block_here ?_
    refine x_then ?_
    refine wp_seq ?_
    refine wp_region_lit ?_
    refine st_val hS rfl rfl (by decide) (r_move rfl (hS.ev_ rfl)) fun a hS => ?_
    obtain ⟨K38, L39, xa40, hlK38, ha41, hb42, hMb, back44⟩ := hM.borrow
    have f43 := row_sl ha41 hlK38 hb42
    obtain ⟨y45, h46, h⟩ := bindO h
    have hc48 := strings_Join_c hG h46 f43 hMb
    refine wl_cons rfl (e_call rfl Tryd.func40 rfl rfl (args2 (hS.ev_ rfl) (hS.ev_ (v := strV (([44] : List UInt8))) rfl)) hc48 ?_)
    rintro _ w ⟨K47, hlK47, hMb, rfl⟩
    replace hM := back44 _ _ hlK47 hMb
    refine ⟨_, rfl, ?_⟩
    refine pl hS rfl (by decide) fun a hS => ?_
    refine st_val hS rfl rfl (by decide) (r_assign rfl (hS.ev_ rfl)) fun a hS => ?_
    refine st_done ?_
    replace hS : Slots 20 [] a [(2, strV (y45))] := (hS.part (.cons rfl (.nil _)))
    refine x_then ?_
    refine wp_ret ?_
    have hr' := Option.some.inj h
    subst hr'
    refine ret1 (.inr rfl) hS rfl rfl ?_
    exact ⟨K16, hlK16, (hM).tail, rfl⟩

theorem raw_Line_c {w0 w : World} {K : Hp} {L : List SP} {p1 : raw_Event} {v2 : Value} {v4 : Value} {r : List UInt8} (hG : Glob w0) (h : raw_Line p1 = some r) (f3 : Kd.u8.sl K v2 p1.f_Bytes) (f5 : (Kd.int .i64).sl K v4 p1.f_Marks) (hM : Sat w0 w K (L)) :
    Calls Tryd.prog 11 #[Value.agg #[Value.int .i64 (p1.f_Kind), Value.int .i64 (p1.f_N), v2, v4]] w (fun e w' => ∃ (K' : Hp), Hp.le K K' ∧ Sat w0 w' K' (L) ∧ e = .returned (strV (r))) := by
  refine enter_ (n := 45) (args := [Value.agg #[Value.int .i64 (p1.f_Kind), Value.int .i64 (p1.f_N), v2, v4]]) Tryd.func11 rfl rfl (Nat.le_of_ble_eq_true rfl) fun a hS => ?_
  replace hS : Slots 45 [] a [(0, Value.agg #[Value.int .i64 (p1.f_Kind), Value.int .i64 (p1.f_N), v2, v4])] := hS
  unfold raw_Line at h
  refine wp_seq ?_
  refine wp_region_lit ?_
  refine wl_cons rfl (e_box (cs := [Value.int .i64 (p1.f_Kind), Value.int .i64 (p1.f_N), v2, v4]) hM rfl (hS.ev_ rfl) rfl fun g6 w hM => ?_)
  refine pl hS rfl (by decide) fun a hS => ?_
  refine st_val hS rfl rfl (by decide) (r_assign rfl (hS.ev_ (v := strV (([] : List UInt8))) rfl)) fun a hS => ?_
  refine st_done ?_
  replace hS : Slots 45 [] a [(2, strV (([] : List UInt8))), (1, Value.pointer (some ⟨g6, 0, none⟩))] := (hS.part (.cons rfl (.cons rfl (.nil _))))
  refine x_then ?_
  refine wp_seq ?_
  refine wp_block ?_
  refine wp_seq ?_
  refine wp_region_lit ?_
  refine st_val hS rfl rfl (by decide) (r_ldN_b (cs' := [Value.int .i64 (p1.f_Kind), Value.int .i64 (p1.f_N), v2, v4]) rfl ag_25 ti_25 (hS.ev_ rfl) rfl (Rd.of hM)) fun a hS => ?_
  obtain ⟨y8, h9, h⟩ := bindO h
  have hc11 := raw_Right_c hG h9 f3 f5 hM
  refine wl_cons rfl (e_call rfl Tryd.func10 rfl rfl (args1 (hS.ev_ rfl)) hc11 ?_)
  rintro _ w ⟨K10, hlK10, hM, rfl⟩
  refine ⟨_, rfl, ?_⟩
  refine pl hS rfl (by decide) fun a hS => ?_
  refine st_val hS rfl rfl (by decide) (r_not rfl (hS.ev_ rfl)) fun a hS => ?_
  refine st_val hS rfl rfl (by decide) (r_assign rfl (hS.ev_ rfl)) fun a hS => ?_
  refine st_done ?_
  replace hS : Slots 45 [] a [(3, Value.bool (!y8)), (2, strV (([] : List UInt8))), (1, Value.pointer (some ⟨g6, 0, none⟩))] := (hS.part (.cons rfl (.cons rfl (.cons rfl (.nil _)))))
  refine x_then ?_
  rcases ifB h with ⟨hc12, h⟩ | ⟨hc12, h⟩
  · refine c_cond_true (hS.ev_ rfl) hc12 ?_
    refine wp_seq ?_
    refine wp_region_lit ?_
    refine st_val hS rfl rfl (by decide) (r_assign rfl (hS.ev_ (v := strV (([] : List UInt8))) rfl)) fun a hS => ?_
    refine st_done ?_
    replace hS : Slots 45 [] a [(2, strV (([] : List UInt8))), (1, Value.pointer (some ⟨g6, 0, none⟩))] := (hS.part (.cons rfl (.cons rfl (.nil _))))
    refine x_then ?_
    refine wp_ret ?_
    refine x_block_ret ?_
    refine x_then_ret ?_
    have hr' := Option.some.inj h
    subst hr'
    refine ret1 (.inr rfl) hS rfl rfl ?_
    exact ⟨K10, hlK10, (hM).tail, rfl⟩
  · refine c_cond_false (hS.ev_ rfl) hc12 ?_
    refine wp_seq ?_
    refine wp_region_lit ?_
    refine st_val hS rfl rfl (by decide) (r_fld_b rfl fo_25_0 (hS.ev_ rfl)) fun a hS => ?_
    refine st_val hS rfl rfl (by decide) (r_ld1_b rfl ag_3 (hS.ev_ rfl) rfl (Rd.of hM)) fun a hS => ?_
    refine st_val hS rfl rfl (by decide) (r_cmp rfl (hS.ev_ rfl) (hS.ev_ rfl) rfl) fun a hS => ?_
    refine st_val hS rfl rfl (by decide) (r_assign rfl (hS.ev_ rfl)) fun a hS => ?_
    refine st_done ?_
    replace hS : Slots 45 [] a [(7, Value.bool (p1.f_Kind == 2)), (2, strV (([] : List UInt8))), (1, Value.pointer (some ⟨g6, 0, none⟩))] := (hS.part (.cons rfl (.cons rfl (.cons rfl (.nil _)))))
    refine x_then ?_
    rcases ifB h with ⟨hc13, h⟩ | ⟨hc13, h⟩
    · refine c_cond_true (hS.ev_ rfl) hc13 ?_
      refine wp_seq ?_
      refine wp_region_lit ?_
      refine st_val hS rfl rfl (by decide) (r_fld_b rfl fo_25_1 (hS.ev_ rfl)) fun a hS => ?_
      refine st_val hS rfl rfl (by decide) (r_ld1_b rfl ag_3 (hS.ev_ rfl) rfl (Rd.of hM)) fun a hS => ?_
      obtain ⟨y14, h15, h⟩ := bindO h
      have hc17 := strconv_Itoa_c hG h15 hM
      refine wl_cons rfl (e_call rfl Tryd.func25 rfl rfl (args1 (hS.ev_ rfl)) hc17 ?_)
      rintro _ w ⟨K16, hlK16, hM, rfl⟩
      refine ⟨_, rfl, ?_⟩
      refine pl hS rfl (by decide) fun a hS => ?_
      obtain ⟨h18, h⟩ := bindU h
      refine st_val hS rfl rfl (by decide) (r_sadd rfl (hS.ev_ (v := strV (([103, 114, 97, 110, 116, 32] : List UInt8))) rfl) (hS.ev_ rfl) (req_some h18)) fun a hS => ?_
      refine st_val hS rfl rfl (by decide) (r_assign rfl (hS.ev_ rfl)) fun a hS => ?_
      refine st_done ?_
      replace hS : Slots 45 [] a [(2, strV (([103, 114, 97, 110, 116, 32] : List UInt8) ++ y14)), (1, Value.pointer (some ⟨g6, 0, none⟩))] := (hS.part (.cons rfl (.cons rfl (.nil _))))
      refine x_then ?_
      refine wp_ret ?_
      refine x_block_ret ?_
      refine x_then_ret ?_
      have hr' := Option.some.inj h
      subst hr'
      refine ret1 (.inr rfl) hS rfl rfl ?_
      exact ⟨K16, (hlK10.trans hlK16), (hM).tail, rfl⟩
    · refine c_cond_false (hS.ev_ rfl) hc13 ?_
      refine wp_seq ?_
      refine wp_region_lit ?_
      refine st_val hS rfl rfl (by decide) (r_fld_b rfl fo_25_0 (hS.ev_ rfl)) fun a hS => ?_
      refine st_val hS rfl rfl (by decide) (r_ld1_b rfl ag_3 (hS.ev_ rfl) rfl (Rd.of hM)) fun a hS => ?_
      refine st_val hS rfl rfl (by decide) (r_cmp rfl (hS.ev_ rfl) (hS.ev_ rfl) rfl) fun a hS => ?_
      refine st_val hS rfl rfl (by decide) (r_assign rfl (hS.ev_ rfl)) fun a hS => ?_
      refine st_done ?_
      replace hS : Slots 45 [] a [(15, Value.bool (p1.f_Kind == 3)), (2, strV (([] : List UInt8))), (1, Value.pointer (some ⟨g6, 0, none⟩))] := (hS.part (.cons rfl (.cons rfl (.cons rfl (.nil _)))))
      refine x_then ?_
      rcases ifB h with ⟨hc19, h⟩ | ⟨hc19, h⟩
      · refine c_cond_true (hS.ev_ rfl) hc19 ?_
        refine wp_seq ?_
        refine wp_region_lit ?_
        refine st_val hS rfl rfl (by decide) (r_fld_b rfl fo_25_1 (hS.ev_ rfl)) fun a hS => ?_
        refine st_val hS rfl rfl (by decide) (r_ld1_b rfl ag_3 (hS.ev_ rfl) rfl (Rd.of hM)) fun a hS => ?_
        obtain ⟨y20, h21, h⟩ := bindO h
        have hc23 := strconv_Itoa_c hG h21 hM
        refine wl_cons rfl (e_call rfl Tryd.func25 rfl rfl (args1 (hS.ev_ rfl)) hc23 ?_)
        rintro _ w ⟨K22, hlK22, hM, rfl⟩
        refine ⟨_, rfl, ?_⟩
        refine pl hS rfl (by decide) fun a hS => ?_
        obtain ⟨h24, h⟩ := bindU h
        refine st_val hS rfl rfl (by decide) (r_sadd rfl (hS.ev_ (v := strV (([116, 105, 99, 107, 32] : List UInt8))) rfl) (hS.ev_ rfl) (req_some h24)) fun a hS => ?_
        refine st_val hS rfl rfl (by decide) (r_assign rfl (hS.ev_ rfl)) fun a hS => ?_
        refine st_done ?_
        replace hS : Slots 45 [] a [(2, strV (([116, 105, 99, 107, 32] : List UInt8) ++ y20)), (1, Value.pointer (some ⟨g6, 0, none⟩))] := (hS.part (.cons rfl (.cons rfl (.nil _))))
        refine x_then ?_
        refine wp_ret ?_
        refine x_block_ret ?_
        refine x_then_ret ?_
        have hr' := Option.some.inj h
        subst hr'
        refine ret1 (.inr rfl) hS rfl rfl ?_
        exact ⟨K22, (hlK10.trans hlK22), (hM).tail, rfl⟩
      · refine c_cond_false (hS.ev_ rfl) hc19 ?_
        refine wp_seq ?_
        refine wp_region_lit ?_
        refine st_val hS rfl rfl (by decide) (r_fld_b rfl fo_25_0 (hS.ev_ rfl)) fun a hS => ?_
        refine st_val hS rfl rfl (by decide) (r_ld1_b rfl ag_3 (hS.ev_ rfl) rfl (Rd.of hM)) fun a hS => ?_
        refine st_val hS rfl rfl (by decide) (r_cmp rfl (hS.ev_ rfl) (hS.ev_ rfl) rfl) fun a hS => ?_
        refine st_val hS rfl rfl (by decide) (r_assign rfl (hS.ev_ rfl)) fun a hS => ?_
        refine st_done ?_
        replace hS : Slots 45 [] a [(23, Value.bool (p1.f_Kind == 4)), (2, strV (([] : List UInt8))), (1, Value.pointer (some ⟨g6, 0, none⟩))] := (hS.part (.cons rfl (.cons rfl (.cons rfl (.nil _)))))
        refine x_then ?_
        rcases ifB h with ⟨hc25, h⟩ | ⟨hc25, h⟩
        · refine c_cond_true (hS.ev_ rfl) hc25 ?_
          refine wp_seq ?_
          refine wp_region_lit ?_
          refine st_val hS rfl rfl (by decide) (r_assign rfl (hS.ev_ (v := strV (([99, 108, 111, 115, 101] : List UInt8))) rfl)) fun a hS => ?_
          refine st_done ?_
          replace hS : Slots 45 [] a [(2, strV (([99, 108, 111, 115, 101] : List UInt8))), (1, Value.pointer (some ⟨g6, 0, none⟩))] := (hS.part (.cons rfl (.cons rfl (.nil _))))
          refine x_then ?_
          refine wp_ret ?_
          refine x_block_ret ?_
          refine x_then_ret ?_
          have hr' := Option.some.inj h
          subst hr'
          refine ret1 (.inr rfl) hS rfl rfl ?_
          exact ⟨K10, hlK10, (hM).tail, rfl⟩
        · refine c_cond_false (hS.ev_ rfl) hc25 ?_
          refine wp_seq ?_
          refine wp_region_lit ?_
          refine st_val hS rfl rfl (by decide) (r_fld_b rfl fo_25_3 (hS.ev_ rfl)) fun a hS => ?_
          refine st_val hS rfl rfl (by decide) (r_ld1_b rfl ag_23 (hS.ev_ rfl) rfl (Rd.of hM)) fun a hS => ?_
          refine st_val hS rfl rfl (by decide) (r_len_sl rfl un_23 (hS.ev_ rfl) f5) fun a hS => ?_
          refine st_val hS rfl rfl (by decide) (r_cmp rfl (hS.ev_ rfl) (hS.ev_ rfl) rfl) fun a hS => ?_
          refine st_val hS rfl rfl (by decide) (r_assign rfl (hS.ev_ rfl)) fun a hS => ?_
          refine st_done ?_
          replace hS : Slots 45 [] a [(27, Value.bool (((p1.f_Marks.length : Int)) == 0)), (2, strV (([] : List UInt8))), (1, Value.pointer (some ⟨g6, 0, none⟩))] := (hS.part (.cons rfl (.cons rfl (.cons rfl (.nil _)))))
          refine x_then ?_
          rcases ifB h with ⟨hc26, h⟩ | ⟨hc26, h⟩
          · refine c_cond_true (hS.ev_ rfl) hc26 ?_
            refine wp_seq ?_
            refine wp_region_lit ?_
            refine st_val hS rfl rfl (by decide) (r_fld_b rfl fo_25_2 (hS.ev_ rfl)) fun a hS => ?_
            refine st_val hS rfl rfl (by decide) (r_ld1_b rfl ag_22 (hS.ev_ rfl) rfl (Rd.of hM)) fun a hS => ?_
            obtain ⟨y27, h28, h⟩ := bindO h
            have hc30 := raw_told_c hG h28 (Kd.sl_mono hlK10 f3) hM
            refine wl_cons rfl (e_call rfl Tryd.func26 rfl rfl (args1 (hS.ev_ rfl)) hc30 ?_)
            rintro _ w ⟨K29, hlK29, hM, rfl⟩
            refine ⟨_, rfl, ?_⟩
            refine pl hS rfl (by decide) fun a hS => ?_
            obtain ⟨h31, h⟩ := bindU h
            refine st_val hS rfl rfl (by decide) (r_sadd rfl (hS.ev_ (v := strV (([98, 121, 116, 101, 115, 32] : List UInt8))) rfl) (hS.ev_ rfl) (req_some h31)) fun a hS => ?_
            refine st_val hS rfl rfl (by decide) (r_assign rfl (hS.ev_ rfl)) fun a hS => ?_
            refine st_done ?_
            replace hS : Slots 45 [] a [(2, strV (([98, 121, 116, 101, 115, 32] : List UInt8) ++ y27)), (1, Value.pointer (some ⟨g6, 0, none⟩))] := (hS.part (.cons rfl (.cons rfl (.nil _))))
            refine x_then ?_
            refine wp_ret ?_
            refine x_block_ret ?_
            refine x_then_ret ?_
            have hr' := Option.some.inj h
            subst hr'
            refine ret1 (.inr rfl) hS rfl rfl ?_
            exact ⟨K29, (hlK10.trans hlK29), (hM).tail, rfl⟩
          · refine c_cond_false (hS.ev_ rfl) hc26 ?_
            refine wp_skip ?_
            refine x_block ?_
            refine x_then ?_
            refine wp_seq ?_
            refine tk_start #[false, false, false, false, false, false, false, false, false, false] mixed_ rfl rfl ?_
            replace hM := hM.drew
            generalize w.drew = w at hM ⊢
            refine dk_any (i := 0) #[true, false, false, false, false, false, false, false, false, false] hS rfl (by kernel_rfl) rfl rfl (by decide) (fun w => r_fld_b rfl fo_25_2 (hS.ev_ rfl)) fun a hS => ?_
            refine dk_val (i := 1) (S := Rd w0 K10 [SP.blk g6 25 [Value.int .i64 (p1.f_Kind), Value.int .i64 (p1.f_N), v2, v4]]) #[true, true, false, false, false, false, false, false, false, false] hS rfl (by kernel_rfl) rfl rfl (by decide) (Rd.of hM.only) (fun w hR => r_ld1_b rfl ag_22 (hS.ev_ rfl) rfl hR) fun a hS => ?_
            refine dk_any (i := 5) #[true, true, false, false, false, true, false, false, false, false] hS rfl (by kernel_rfl) rfl rfl (by decide) (fun w => r_fld_b rfl fo_25_3 (hS.ev_ rfl)) fun a hS => ?_
            refine dk_val (i := 6) (S := Rd w0 K10 [SP.blk g6 25 [Value.int .i64 (p1.f_Kind), Value.int .i64 (p1.f_N), v2, v4]]) #[true, true, false, false, false, true, true, false, false, false] hS rfl (by kernel_rfl) rfl rfl (by decide) (Rd.of hM.only) (fun w hR => r_ld1_b rfl ag_23 (hS.ev_ rfl) rfl hR) fun a hS => ?_
            obtain ⟨y32, h33, h⟩ := bindO h
            have hc35 := raw_told_c hG h33 (Kd.sl_mono hlK10 f3) hM
            refine dk_one (i := 2) #[true, true, true, false, false, true, true, false, false, false] rfl (by kernel_rfl) rfl (e_call rfl Tryd.func26 rfl rfl (args1 (hS.ev_ rfl)) hc35 ?_)
            rintro _ w ⟨K34, hlK34, hM, rfl⟩
            refine ⟨_, rfl, ?_⟩
            refine pT hS rfl (by decide) (Dem.keep (fun _ => Rd.up hlK34 hM.only) (Dem.wait (by kernel_rfl) Dem.nil)) fun a hS => ?_
            obtain ⟨h36, h⟩ := bindU h
            refine dk_any (i := 3) #[true, true, true, true, false, true, true, false, false, false] hS rfl (by kernel_rfl) rfl rfl (by decide) (fun w => r_sadd rfl (hS.ev_ (v := strV (([98, 121, 116, 101, 115, 32] : List UInt8))) rfl) (hS.ev_ rfl) (req_some h36)) fun a hS => ?_
            obtain ⟨h37, h⟩ := bindU h
            refine dk_any (i := 4) #[true, true, true, true, true, true, true, false, false, false] hS rfl (by kernel_rfl) rfl rfl (by decide) (fun w => r_sadd rfl (hS.ev_ rfl) (hS.ev_ (v := strV (([32, 109, 97, 114, 107, 115, 32] : List UInt8))) rfl) (req_some h37)) fun a hS => ?_
            obtain ⟨y38, h39, h⟩ := bindO h
            have hc41 := raw_places_c hG h39 (Kd.sl_mono (hlK10.trans hlK34) f5) hM
            refine dk_one (i := 7) #[true, true, true, true, true, true, true, true, false, false] rfl (by kernel_rfl) rfl (e_call rfl Tryd.func27 rfl rfl (args1 (hS.ev_ rfl)) hc41 ?_)
            rintro _ w ⟨K40, hlK40, hM, rfl⟩
            refine ⟨_, rfl, ?_⟩
            refine pT hS rfl (by decide) (Dem.wait (by kernel_rfl) (Dem.wait (by kernel_rfl) Dem.nil)) fun a hS => ?_
            obtain ⟨h42, h⟩ := bindU h
            refine dk_any (i := 8) #[true, true, true, true, true, true, true, true, true, false] hS rfl (by kernel_rfl) rfl rfl (by decide) (fun w => r_sadd rfl (hS.ev_ rfl) (hS.ev_ rfl) (req_some h42)) fun a hS => ?_
            refine dk_any (i := 9) #[true, true, true, true, true, true, true, true, true, true] hS rfl (by kernel_rfl) rfl rfl (by decide) (fun w => r_assign rfl (hS.ev_ rfl)) fun a hS => ?_
            refine tk_done (by kernel_rfl) ?_
            replace hS : Slots 45 [] a [(2, strV (((([98, 121, 116, 101, 115, 32] : List UInt8) ++ y32) ++ ([32, 109, 97, 114, 107, 115, 32] : List UInt8)) ++ y38))] := (hS.part (.cons rfl (.nil _)))
            refine x_then ?_
            refine wp_ret ?_
            have hr' := Option.some.inj h
            subst hr'
            refine ret1 (.inr rfl) hS rfl rfl ?_
            exact ⟨K40, ((hlK10.trans hlK34).trans hlK40), (hM).tail, rfl⟩

theorem Law_alive_c {w0 w : World} {K : Hp} {L : List SP} {r : Bool} (hG : Glob w0) (h : Law_alive = some r) (hM : Sat w0 w K (L)) :
    Calls Tryd.prog 7 #[] w (fun e w' => ∃ (K' : Hp), Hp.le K K' ∧ Sat w0 w' K' (L) ∧ e = .returned (Value.bool (r))) := by
  refine enter_ (n := 31) (args := []) Tryd.func7 rfl rfl (Nat.le_of_ble_eq_true rfl) fun a hS => ?_
  replace hS : Slots 31 [] a [] := hS
  unfold Law_alive at h
  refine wp_seq ?_
  refine wp_region_lit ?_
  refine st_val hS rfl rfl (by decide) (r_assign rfl (hS.ev_ rfl)) fun a hS => ?_
  refine st_done ?_
  replace hS : Slots 31 [] a [(0, Value.bool (false))] := (hS.part (.cons rfl (.nil _)))
  refine x_then ?_
  refine wp_seq ?_
  refine wp_region_lit ?_
  obtain ⟨y1, h2, h⟩ := bindO h
  have hc4 := raw_Parse_c hG h2 hM
  refine wl_cons rfl (e_call rfl Tryd.func9 rfl rfl (args1 (hS.ev_ (v := strV (([98, 121, 116, 101, 115, 32, 54, 49, 54, 50, 32, 109, 97, 114, 107, 115, 32, 49] : List UInt8))) rfl)) hc4 ?_)
  rintro _ w ⟨K3, v5, v7, hlK3, hM, rfl, f6, f8⟩
  refine ⟨_, rfl, ?_⟩
  refine pl hS rfl (by decide) fun a hS => ?_
  refine st_val hS rfl rfl (by decide) (r_move rfl (hS.ev_ rfl)) fun a hS => ?_
  refine st_val hS rfl rfl (by decide) (r_extract rfl (hS.ev_ rfl) rfl) fun a hS => ?_
  refine st_val hS rfl rfl (by decide) (r_extract rfl (hS.ev_ rfl) rfl) fun a hS => ?_
  refine wl_cons rfl (e_alloc (cs := [Value.int .i64 (0), Value.int .i64 (0), Value.slice none 0 0, Value.slice none 0 0]) hM rfl ti_25 rfl fun g9 w hM => ?_)
  refine pl hS rfl (by decide) fun a hS => ?_
  refine wl_cons rfl (e_storeN (vs := [Value.int .i64 (y1.1.f_Kind), Value.int .i64 (y1.1.f_N), v5, v7]) hM rfl ti_25 (hS.ev_ rfl) (hS.ev_ rfl) (ones_cons rfl (ones_cons rfl (ones_cons (sl_one f6) (ones_cons (sl_one f8) ones_nil)))) (Nat.le_of_ble_eq_true rfl) fun w hM => ?_)
  have hM : Sat w0 w K3 (SP.blk g9 25 [Value.int .i64 (y1.1.f_Kind), Value.int .i64 (y1.1.f_N), v5, v7] :: L) := hM
  refine pl0 hS rfl fun a hS => ?_
  refine st_val hS rfl rfl (by decide) (r_assign rfl (hS.ev_ rfl)) fun a hS => ?_
  refine st_done ?_
  replace hS : Slots 31 [] a [(2, eV w0 y1.2), (1, Value.pointer (some ⟨g9, 0, none⟩)), (0, Value.bool (false))] := (hS.part (.cons rfl (.cons rfl (.cons rfl (.nil _)))))
  refine x_then ?_
  refine wp_seq ?_
  refine wp_region_lit ?_
  refine st_val hS rfl rfl (by decide) (r_move rfl (hS.ev_ rfl)) fun a hS => ?_
  refine st_val hS rfl rfl (by decide) (r_errnil rfl if_29 (hS.ev_ (v := eV w0 y1.2) rfl)) fun a hS => ?_
  refine st_val hS rfl rfl (by decide) (r_move rfl (hS.ev_ rfl)) fun a hS => ?_
  obtain ⟨x11, h12, h⟩ := bindO h
  refine wl_cut 4 (fun a w => Slots 31 [] a [(0, Value.bool (false)), (1, Value.pointer (some ⟨g9, 0, none⟩)), (13, Value.bool (x11))] ∧ Sat w0 w K3 (SP.blk g9 25 [Value.int .i64 (y1.1.f_Kind), Value.int .i64 (y1.1.f_N), v5, v7] :: L)) ?_ ?_
  ·
    skip
    rcases ifB h12 with ⟨hc13, h12⟩ | ⟨hc13, h12⟩
    ·
      replace hS := hS.known (k := 9) rfl hc13
      refine st_want hS rfl rfl rfl rfl rfl (by decide) (r_fld_b rfl fo_25_0 (hS.ev_ rfl)) fun a hS => ?_
      refine st_want hS rfl rfl rfl rfl rfl (by decide) (r_ld1_b rfl ag_3 (hS.ev_ rfl) rfl (Rd.of hM)) fun a hS => ?_
      refine st_want hS rfl rfl rfl rfl rfl (by decide) (r_cmp rfl (hS.ev_ rfl) (hS.ev_ rfl) rfl) fun a hS => ?_
      refine st_val hS rfl rfl (by decide) (r_pick_true rfl (hS.ev_ rfl) rfl (hS.ev_ rfl)) fun a hS => ?_
      refine st_done ?_
      replace hS : Slots 31 [] a [(13, Value.bool (y1.1.f_Kind == 1)), (1, Value.pointer (some ⟨g9, 0, none⟩)), (0, Value.bool (false))] := (hS.part (.cons rfl (.cons rfl (.cons rfl (.nil _)))))
      refine x_then ?_
      obtain rfl := Option.some.inj h12
      exact ⟨(hS.part (.cons rfl (.cons rfl (.cons rfl (.nil _))))), hM⟩
    ·
      replace hS := hS.known (k := 9) rfl hc13
      refine st_off hS rfl rfl rfl rfl rfl rfl (by decide) fun a hS => ?_
      refine st_off hS rfl rfl rfl rfl rfl rfl (by decide) fun a hS => ?_
      refine st_off hS rfl rfl rfl rfl rfl rfl (by decide) fun a hS => ?_
      refine st_val hS rfl rfl (by decide) (r_pick_false rfl (hS.ev_ rfl) rfl (hS.ev_ rfl)) fun a hS => ?_
      refine st_done ?_
      replace hS : Slots 31 [] a [(13, Value.bool (false)), (1, Value.pointer (some ⟨g9, 0, none⟩)), (0, Value.bool (false))] := (hS.part (.cons rfl (.cons rfl (.cons rfl (.nil _)))))
      refine x_then ?_
      obtain rfl := Option.some.inj h12
      exact ⟨(hS.part (.cons rfl (.cons rfl (.cons rfl (.nil _))))), hM⟩
  · rintro a w ⟨hS, hM⟩
    refine st_val hS rfl rfl (by decide) (r_move rfl (hS.ev_ rfl)) fun a hS => ?_
    obtain ⟨x14, h15, h⟩ := bindO h
    refine wl_cut 5 (fun a w => Slots 31 [] a [(0, Value.bool (false)), (1, Value.pointer (some ⟨g9, 0, none⟩)), (19, Value.bool (x14))] ∧ Sat w0 w K3 (SP.blk g9 25 [Value.int .i64 (y1.1.f_Kind), Value.int .i64 (y1.1.f_N), v5, v7] :: L)) ?_ ?_
    ·
      skip
      rcases ifB h15 with ⟨hc16, h15⟩ | ⟨hc16, h15⟩
      ·
        replace hS := hS.known (k := 14) rfl hc16
        refine st_want hS rfl rfl rfl rfl rfl (by decide) (r_fld_b rfl fo_25_2 (hS.ev_ rfl)) fun a hS => ?_
        refine st_want hS rfl rfl rfl rfl rfl (by decide) (r_ld1_b rfl ag_22 (hS.ev_ rfl) rfl (Rd.of hM)) fun a hS => ?_
        refine st_want hS rfl rfl rfl rfl rfl (by decide) (r_stringR rfl un_22 un_5 un_9 (hS.ev_ rfl) (Rd.of hM.nil_) f6) fun a hS => ?_
        refine st_want hS rfl rfl rfl rfl rfl (by decide) (r_seq rfl (hS.ev_ rfl) (hS.ev_ (v := strV (([97, 98] : List UInt8))) rfl)) fun a hS => ?_
        refine st_val hS rfl rfl (by decide) (r_pick_true rfl (hS.ev_ rfl) rfl (hS.ev_ rfl)) fun a hS => ?_
        refine st_done ?_
        replace hS : Slots 31 [] a [(19, Value.bool (y1.1.f_Bytes == ([97, 98] : List UInt8))), (0, Value.bool (false)), (1, Value.pointer (some ⟨g9, 0, none⟩))] := (hS.part (.cons rfl (.cons rfl (.cons rfl (.nil _)))))
        refine x_then ?_
        obtain rfl := Option.some.inj h15
        exact ⟨(hS.part (.cons rfl (.cons rfl (.cons rfl (.nil _))))), hM⟩
      ·
        replace hS := hS.known (k := 14) rfl hc16
        refine st_off hS rfl rfl rfl rfl rfl rfl (by decide) fun a hS => ?_
        refine st_off hS rfl rfl rfl rfl rfl rfl (by decide) fun a hS => ?_
        refine st_off hS rfl rfl rfl rfl rfl rfl (by decide) fun a hS => ?_
        refine st_off hS rfl rfl rfl rfl rfl rfl (by decide) fun a hS => ?_
        refine st_val hS rfl rfl (by decide) (r_pick_false rfl (hS.ev_ rfl) rfl (hS.ev_ rfl)) fun a hS => ?_
        refine st_done ?_
        replace hS : Slots 31 [] a [(19, Value.bool (false)), (0, Value.bool (false)), (1, Value.pointer (some ⟨g9, 0, none⟩))] := (hS.part (.cons rfl (.cons rfl (.cons rfl (.nil _)))))
        refine x_then ?_
        obtain rfl := Option.some.inj h15
        exact ⟨(hS.part (.cons rfl (.cons rfl (.cons rfl (.nil _))))), hM⟩
    · rintro a w ⟨hS, hM⟩
      refine st_val hS rfl rfl (by decide) (r_move rfl (hS.ev_ rfl)) fun a hS => ?_
      obtain ⟨x18, h19, h⟩ := bindO h
      refine wl_cut 5 (fun a w => ∃ (K17 : Hp), Hp.le K3 K17 ∧ Slots 31 [] a [(0, Value.bool (false)), (1, Value.pointer (some ⟨g9, 0, none⟩)), (25, Value.bool (x18))] ∧ Sat w0 w K17 (SP.blk g9 25 [Value.int .i64 (y1.1.f_Kind), Value.int .i64 (y1.1.f_N), v5, v7] :: L)) ?_ ?_
      ·
        skip
        rcases ifB h19 with ⟨hc20, h19⟩ | ⟨hc20, h19⟩
        ·
          replace hS := hS.known (k := 20) rfl hc20
          refine st_want hS rfl rfl rfl rfl rfl (by decide) (r_fld_b rfl fo_25_3 (hS.ev_ rfl)) fun a hS => ?_
          refine st_want hS rfl rfl rfl rfl rfl (by decide) (r_ld1_b rfl ag_23 (hS.ev_ rfl) rfl (Rd.of hM)) fun a hS => ?_
          refine g_want hS rfl rfl rfl rfl (e_litK (d := (Kd.int .i64)) (e := 3) (cs := [Value.int .i64 (1)]) (xs := ([1] : List Int)) hM rfl (parts_ev hS rfl) (by kernel_rfl) ⟨[Value.int .i64 (1)], [], rfl, rfl, rfl⟩ rfl (by decide) fun v21 K22 w hlK22 hM f23 => ?_)
          refine pl hS rfl (by decide) fun a hS => ?_
          obtain ⟨y24, h25, h19⟩ := bindO h19
          have hc27 := Num_SameInts_c hG h25 (Kd.sl_mono hlK22 f8) f23 hM
          refine g_want hS rfl rfl rfl rfl (e_call rfl Tryd.func21 rfl rfl (args2 (hS.ev_ rfl) (hS.ev_ rfl)) hc27 ?_)
          rintro _ w ⟨K26, hlK26, hM, rfl⟩
          refine ⟨_, rfl, ?_⟩
          refine pl hS rfl (by decide) fun a hS => ?_
          refine st_val hS rfl rfl (by decide) (r_pick_true rfl (hS.ev_ rfl) rfl (hS.ev_ rfl)) fun a hS => ?_
          refine st_done ?_
          replace hS : Slots 31 [] a [(25, Value.bool (y24)), (0, Value.bool (false)), (1, Value.pointer (some ⟨g9, 0, none⟩))] := (hS.part (.cons rfl (.cons rfl (.cons rfl (.nil _)))))
          refine x_then ?_
          obtain rfl := Option.some.inj h19
          exact ⟨K26, (hlK22.trans hlK26), (hS.part (.cons rfl (.cons rfl (.cons rfl (.nil _))))), hM⟩
        ·
          replace hS := hS.known (k := 20) rfl hc20
          refine st_off hS rfl rfl rfl rfl rfl rfl (by decide) fun a hS => ?_
          refine st_off hS rfl rfl rfl rfl rfl rfl (by decide) fun a hS => ?_
          refine st_off hS rfl rfl rfl rfl rfl rfl (by decide) fun a hS => ?_
          refine st_off hS rfl rfl rfl rfl rfl rfl (by decide) fun a hS => ?_
          refine st_val hS rfl rfl (by decide) (r_pick_false rfl (hS.ev_ rfl) rfl (hS.ev_ rfl)) fun a hS => ?_
          refine st_done ?_
          replace hS : Slots 31 [] a [(25, Value.bool (false)), (0, Value.bool (false)), (1, Value.pointer (some ⟨g9, 0, none⟩))] := (hS.part (.cons rfl (.cons rfl (.cons rfl (.nil _)))))
          refine x_then ?_
          obtain rfl := Option.some.inj h19
          exact ⟨K3, (Hp.le.refl _), (hS.part (.cons rfl (.cons rfl (.cons rfl (.nil _))))), hM⟩
      · rintro a w ⟨K17, hlK17, hS, hM⟩
        refine st_val hS rfl rfl (by decide) (r_move rfl (hS.ev_ rfl)) fun a hS => ?_
        obtain ⟨x29, h30, h⟩ := bindO h
        refine wl_cut 4 (fun a w => ∃ (K28 : Hp), Hp.le K17 K28 ∧ Slots 31 [] a [(0, Value.bool (false)), (30, Value.bool (x29))] ∧ Sat w0 w K28 (SP.blk g9 25 [Value.int .i64 (y1.1.f_Kind), Value.int .i64 (y1.1.f_N), v5, v7] :: L)) ?_ ?_
        ·
          skip
          rcases ifB h30 with ⟨hc31, h30⟩ | ⟨hc31, h30⟩
          ·
            replace hS := hS.known (k := 26) rfl hc31
            refine st_want hS rfl rfl rfl rfl rfl (by decide) (r_ldN_b (cs' := [Value.int .i64 (y1.1.f_Kind), Value.int .i64 (y1.1.f_N), v5, v7]) rfl ag_25 ti_25 (hS.ev_ rfl) rfl (Rd.of hM)) fun a hS => ?_
            obtain ⟨y32, h33, h30⟩ := bindO h30
            have hc35 := raw_Line_c hG h33 (Kd.sl_mono hlK17 f6) (Kd.sl_mono hlK17 f8) hM
            refine g_want hS rfl rfl rfl rfl (e_call rfl Tryd.func11 rfl rfl (args1 (hS.ev_ rfl)) hc35 ?_)
            rintro _ w ⟨K34, hlK34, hM, rfl⟩
            refine ⟨_, rfl, ?_⟩
            refine pl hS rfl (by decide) fun a hS => ?_
            refine st_want hS rfl rfl rfl rfl rfl (by decide) (r_seq rfl (hS.ev_ rfl) (hS.ev_ (v := strV (([98, 121, 116, 101, 115, 32, 54, 49, 54, 50, 32, 109, 97, 114, 107, 115, 32, 49] : List UInt8))) rfl)) fun a hS => ?_
            refine st_val hS rfl rfl (by decide) (r_pick_true rfl (hS.ev_ rfl) rfl (hS.ev_ rfl)) fun a hS => ?_
            refine st_done ?_
            replace hS : Slots 31 [] a [(30, Value.bool (y32 == ([98, 121, 116, 101, 115, 32, 54, 49, 54, 50, 32, 109, 97, 114, 107, 115, 32, 49] : List UInt8))), (0, Value.bool (false))] := (hS.part (.cons rfl (.cons rfl (.nil _))))
            refine x_then ?_
            obtain rfl := Option.some.inj h30
            exact ⟨K34, hlK34, (hS.part (.cons rfl (.cons rfl (.nil _)))), hM⟩
          ·
            replace hS := hS.known (k := 26) rfl hc31
            refine st_off hS rfl rfl rfl rfl rfl rfl (by decide) fun a hS => ?_
            refine st_off hS rfl rfl rfl rfl rfl rfl (by decide) fun a hS => ?_
            refine st_off hS rfl rfl rfl rfl rfl rfl (by decide) fun a hS => ?_
            refine st_val hS rfl rfl (by decide) (r_pick_false rfl (hS.ev_ rfl) rfl (hS.ev_ rfl)) fun a hS => ?_
            refine st_done ?_
            replace hS : Slots 31 [] a [(30, Value.bool (false)), (0, Value.bool (false))] := (hS.part (.cons rfl (.cons rfl (.nil _))))
            refine x_then ?_
            obtain rfl := Option.some.inj h30
            exact ⟨K17, (Hp.le.refl _), (hS.part (.cons rfl (.cons rfl (.nil _)))), hM⟩
        · rintro a w ⟨K28, hlK28, hS, hM⟩
          refine st_val hS rfl rfl (by decide) (r_assign rfl (hS.ev_ rfl)) fun a hS => ?_
          refine st_done ?_
          replace hS : Slots 31 [] a [(0, Value.bool (x29))] := (hS.part (.cons rfl (.nil _)))
          refine x_then ?_
          refine wp_ret ?_
          have hr' := Option.some.inj h
          subst hr'
          refine ret1 (.inr rfl) hS rfl rfl ?_
          exact ⟨K28, ((hlK3.trans hlK17).trans hlK28), (hM).tail, rfl⟩

theorem Law_long_c {w0 w : World} {K : Hp} {L : List SP} {p1 : raw_Event} {v2 : Value} {v4 : Value} {r : Bool} (hG : Glob w0) (h : Law_long p1 = some r) (f3 : Kd.u8.sl K v2 p1.f_Bytes) (f5 : (Kd.int .i64).sl K v4 p1.f_Marks) (hM : Sat w0 w K (L)) :
    Calls Tryd.prog 8 #[Value.agg #[Value.int .i64 (p1.f_Kind), Value.int .i64 (p1.f_N), v2, v4]] w (fun e w' => ∃ (K' : Hp), Hp.le K K' ∧ Sat w0 w' K' (L) ∧ e = .returned (Value.bool (r))) := by
  refine enter_ (n := 13) (args := [Value.agg #[Value.int .i64 (p1.f_Kind), Value.int .i64 (p1.f_N), v2, v4]]) Tryd.func8 rfl rfl (Nat.le_of_ble_eq_true rfl) fun a hS => ?_
  replace hS : Slots 13 [] a [(0, Value.agg #[Value.int .i64 (p1.f_Kind), Value.int .i64 (p1.f_N), v2, v4])] := hS
  unfold Law_long at h
  refine wp_seq ?_
  refine wp_region_lit ?_
  refine wl_cons rfl (e_box (cs := [Value.int .i64 (p1.f_Kind), Value.int .i64 (p1.f_N), v2, v4]) hM rfl (hS.ev_ rfl) rfl fun g6 w hM => ?_)
  refine pl hS rfl (by decide) fun a hS => ?_
  refine st_val hS rfl rfl (by decide) (r_assign rfl (hS.ev_ rfl)) fun a hS => ?_
  refine st_done ?_
  replace hS : Slots 13 [] a [(2, Value.bool (false)), (1, Value.pointer (some ⟨g6, 0, none⟩))] := (hS.part (.cons rfl (.cons rfl (.nil _))))
  refine x_then ?_
  refine wp_seq ?_
  refine wp_region_lit ?_
  refine st_val hS rfl rfl (by decide) (r_fld_b rfl fo_25_2 (hS.ev_ rfl)) fun a hS => ?_
  refine st_val hS rfl rfl (by decide) (r_ld1_b rfl ag_22 (hS.ev_ rfl) rfl (Rd.of hM)) fun a hS => ?_
  refine st_val hS rfl rfl (by decide) (r_len_sl rfl un_22 (hS.ev_ rfl) f3) fun a hS => ?_
  refine st_val hS rfl rfl (by decide) (r_cmp rfl (hS.ev_ rfl) (hS.ev_ rfl) rfl) fun a hS => ?_
  refine st_val hS rfl rfl (by decide) (r_move rfl (hS.ev_ rfl)) fun a hS => ?_
  obtain ⟨x8, h9, h⟩ := bindO h
  refine wl_cut 5 (fun a w => Slots 13 [] a [(2, Value.bool (false)), (12, Value.bool (x8))] ∧ Sat w0 w K (SP.blk g6 25 [Value.int .i64 (p1.f_Kind), Value.int .i64 (p1.f_N), v2, v4] :: L)) ?_ ?_
  ·
    skip
    rcases ifB h9 with ⟨hc10, h9⟩ | ⟨hc10, h9⟩
    ·
      replace hS := hS.known (k := 7) rfl hc10
      refine st_off hS rfl rfl rfl rfl rfl rfl (by decide) fun a hS => ?_
      refine st_off hS rfl rfl rfl rfl rfl rfl (by decide) fun a hS => ?_
      refine st_off hS rfl rfl rfl rfl rfl rfl (by decide) fun a hS => ?_
      refine st_off hS rfl rfl rfl rfl rfl rfl (by decide) fun a hS => ?_
      refine st_val hS rfl rfl (by decide) (r_pick_true rfl (hS.ev_ rfl) rfl (hS.ev_ rfl)) fun a hS => ?_
      refine st_done ?_
      replace hS : Slots 13 [] a [(12, Value.bool (true)), (2, Value.bool (false))] := (hS.part (.cons rfl (.cons rfl (.nil _))))
      refine x_then ?_
      obtain rfl := Option.some.inj h9
      exact ⟨(hS.part (.cons rfl (.cons rfl (.nil _)))), hM⟩
    ·
      replace hS := hS.known (k := 7) rfl hc10
      refine st_want hS rfl rfl rfl rfl rfl (by decide) (r_fld_b rfl fo_25_3 (hS.ev_ rfl)) fun a hS => ?_
      refine st_want hS rfl rfl rfl rfl rfl (by decide) (r_ld1_b rfl ag_23 (hS.ev_ rfl) rfl (Rd.of hM)) fun a hS => ?_
      refine st_want hS rfl rfl rfl rfl rfl (by decide) (r_len_sl rfl un_23 (hS.ev_ rfl) f5) fun a hS => ?_
      refine st_want hS rfl rfl rfl rfl rfl (by decide) (r_cmp rfl (hS.ev_ rfl) (hS.ev_ rfl) rfl) fun a hS => ?_
      refine st_val hS rfl rfl (by decide) (r_pick_false rfl (hS.ev_ rfl) rfl (hS.ev_ rfl)) fun a hS => ?_
      refine st_done ?_
      replace hS : Slots 13 [] a [(12, Value.bool (decide (((p1.f_Marks.length : Int)) > 200))), (2, Value.bool (false))] := (hS.part (.cons rfl (.cons rfl (.nil _))))
      refine x_then ?_
      obtain rfl := Option.some.inj h9
      exact ⟨(hS.part (.cons rfl (.cons rfl (.nil _)))), hM⟩
  · rintro a w ⟨hS, hM⟩
    refine st_val hS rfl rfl (by decide) (r_assign rfl (hS.ev_ rfl)) fun a hS => ?_
    refine st_done ?_
    replace hS : Slots 13 [] a [(2, Value.bool (x8))] := (hS.part (.cons rfl (.nil _)))
    refine x_then ?_
    refine wp_ret ?_
    have hr' := Option.some.inj h
    subst hr'
    refine ret1 (.inr rfl) hS rfl rfl ?_
    exact ⟨K, (Hp.le.refl _), (hM).tail, rfl⟩

theorem bytes_Equal_c {w0 w : World} {K : Hp} {L : List SP} {p1 : List UInt8} {p4 : List UInt8} {v2 : Value} {v5 : Value} {r : Bool} (hG : Glob w0) (h : bytes_Equal p1 p4 = some r) (f3 : Kd.u8.sl K v2 p1) (f6 : Kd.u8.sl K v5 p4) (hM : Sat w0 w K (L)) :
    Calls Tryd.prog 28 #[v2, v5] w (fun e w' => ∃ (K' : Hp), Hp.le K K' ∧ Sat w0 w' K' (L) ∧ e = .returned (Value.bool (r))) := by
  refine enter_ (n := 10) (args := [v2, v5]) Tryd.func28 rfl rfl (Nat.le_of_ble_eq_true rfl) fun a hS => ?_
  replace hS : Slots 10 [] a [(0, v2), (1, v5)] := hS
  unfold bytes_Equal at h
  refine wp_seq ?_
  refine wp_region_lit ?_
  refine st_val hS rfl rfl (by decide) (r_assign rfl (hS.ev_ rfl)) fun a hS => ?_
  refine st_done ?_
  replace hS : Slots 10 [] a [(4, Value.bool (false)), (0, v2), (1, v5)] := (hS.part (.cons rfl (.cons rfl (.cons rfl (.nil _)))))
  refine x_then ?_
  refine wp_seq ?_
  refine wp_region_lit ?_
  refine st_val hS rfl rfl (by decide) (r_move rfl (hS.ev_ rfl)) fun a hS => ?_
  refine st_val hS rfl rfl (by decide) (r_stringR rfl un_22 un_5 un_9 (hS.ev_ rfl) (Rd.of hM.nil_) f3) fun a hS => ?_
  refine st_val hS rfl rfl (by decide) (r_move rfl (hS.ev_ rfl)) fun a hS => ?_
  refine st_val hS rfl rfl (by decide) (r_stringR rfl un_22 un_5 un_9 (hS.ev_ rfl) (Rd.of hM.nil_) f6) fun a hS => ?_
  refine st_val hS rfl rfl (by decide) (r_seq rfl (hS.ev_ rfl) (hS.ev_ rfl)) fun a hS => ?_
  refine st_val hS rfl rfl (by decide) (r_assign rfl (hS.ev_ rfl)) fun a hS => ?_
  refine st_done ?_
  replace hS : Slots 10 [] a [(4, Value.bool (p1 == p4))] := (hS.part (.cons rfl (.nil _)))
  refine x_then ?_
  refine wp_ret ?_
  have hr' := Option.some.inj h
  subst hr'
  refine ret1 (.inr rfl) hS rfl rfl ?_
  exact ⟨K, (Hp.le.refl _), hM, rfl⟩

theorem slices_Equal_int_int_c {w0 w : World} {K : Hp} {L : List SP} {p1 : List Int} {p4 : List Int} {v2 : Value} {v5 : Value} {r : Bool} (hG : Glob w0) (h : slices_Equal_int_int p1 p4 = some r) (f3 : (Kd.int .i64).sl K v2 p1) (f6 : (Kd.int .i64).sl K v5 p4) (hM : Sat w0 w K (L)) :
    Calls Tryd.prog 29 #[v2, v5] w (fun e w' => ∃ (K' : Hp), Hp.le K K' ∧ Sat w0 w' K' (L) ∧ e = .returned (Value.bool (r))) := by
  refine enter_ (n := 26) (args := [v2, v5]) Tryd.func29 rfl rfl (Nat.le_of_ble_eq_true rfl) fun a hS => ?_
  replace hS : Slots 26 [] a [(0, v2), (1, v5)] := hS
  unfold slices_Equal_int_int at h
  refine wp_seq ?_
  refine wp_region_lit ?_
  refine st_val hS rfl rfl (by decide) (r_assign rfl (hS.ev_ rfl)) fun a hS => ?_
  refine st_done ?_
  replace hS : Slots 26 [] a [(4, Value.bool (false)), (0, v2), (1, v5)] := (hS.part (.cons rfl (.cons rfl (.cons rfl (.nil _)))))
  refine x_then ?_
  refine wp_seq ?_
  refine wp_seq ?_
  refine wp_region_lit ?_
  refine st_val hS rfl rfl (by decide) (r_move rfl (hS.ev_ rfl)) fun a hS => ?_
  refine st_val hS rfl rfl (by decide) (r_len_sl rfl un_23 (hS.ev_ rfl) f3) fun a hS => ?_
  refine st_val hS rfl rfl (by decide) (r_move rfl (hS.ev_ rfl)) fun a hS => ?_
  refine st_val hS rfl rfl (by decide) (r_len_sl rfl un_23 (hS.ev_ rfl) f6) fun a hS => ?_
  refine st_val hS rfl rfl (by decide) (r_cmp rfl (hS.ev_ rfl) (hS.ev_ rfl) rfl) fun a hS => ?_
  refine st_done ?_
  replace hS : Slots 26 [] a [(10, Value.bool (((p1.length : Int)) != ((p4.length : Int)))), (4, Value.bool (false)), (0, v2), (1, v5)] := (hS.part (.cons rfl (.cons rfl (.cons rfl (.cons rfl (.nil _))))))
  refine x_then ?_
  rcases ifB h with ⟨hc7, h⟩ | ⟨hc7, h⟩
  · refine c_cond_true (hS.ev_ rfl) hc7 ?_
    refine wp_seq ?_
    refine wp_region_lit ?_
    refine st_val hS rfl rfl (by decide) (r_assign rfl (hS.ev_ rfl)) fun a hS => ?_
    refine st_done ?_
    replace hS : Slots 26 [] a [(4, Value.bool (false)), (0, v2), (1, v5)] := (hS.part (.cons rfl (.cons rfl (.cons rfl (.nil _)))))
    refine x_then ?_
    refine wp_ret ?_
    refine x_then_ret ?_
    have hr' := Option.some.inj h
    subst hr'
    refine ret1 (.inr rfl) hS rfl rfl ?_
    exact ⟨K, (Hp.le.refl _), hM, rfl⟩
  · refine c_cond_false (hS.ev_ rfl) hc7 ?_
    refine wp_skip ?_
    refine x_then ?_
    refine wp_seq ?_
    refine wp_seq ?_
    refine wp_region_lit ?_
    refine st_val hS rfl rfl (by decide) (r_move rfl (hS.ev_ rfl)) fun a hS => ?_
    refine st_val hS rfl rfl (by decide) (r_len_sl rfl un_23 (hS.ev_ rfl) f3) fun a hS => ?_
    refine st_val hS rfl rfl (by decide) (r_move rfl (hS.ev_ rfl)) fun a hS => ?_
    refine st_done ?_
    replace hS : Slots 26 [] a [(13, Value.int .i64 (0)), (12, Value.int .i64 ((p1.length : Int))), (4, Value.bool (false)), (0, v2), (1, v5)] := (hS.part (.cons rfl (.cons rfl (.cons rfl (.cons rfl (.cons rfl (.nil _)))))))
    refine x_then ?_
    refine wp_block ?_
    obtain ⟨o13, h14, h⟩ := bindO h
    refine c_loop_ways (fun e a w => (e = .exit 0 ∧ ∃ (K15 : Hp) (x16 : Unit), Hp.le K K15 ∧ o13 = Sum.inl x16 ∧ Slots 26 [] a [(4, Value.bool (false))] ∧ Sat w0 w K15 (L)) ∨ (e = .ret ∧ ∃ (K17 : Hp) (x18 : Unit), Hp.le K K17 ∧ o13 = Sum.inr x18 ∧ Slots 26 [] a [(4, Value.bool (false))] ∧ Sat w0 w K17 (L))) ?_ ?_
    · intro c Q hc hQ
      have key : ∀ (x12 : Int) (r' : Sum Unit Unit), slices_Equal_int_int_l1 p1 p4 x12 = some r' → r' = o13 → ∀ (K11 : Hp) (a : Act) (w : World), Hp.le K K11 → Slots 26 [] a [(13, Value.int .i64 (x12)), (12, Value.int .i64 ((p1.length : Int))), (4, Value.bool (false)), (0, v2), (1, v5)] → Sat w0 w K11 (L) → Rnd Tryd.prog c Q a w := by
        refine slices_Equal_int_int_l1.partial_correctness p1 p4 _ ?_
        intro slices_Equal_int_int_l1_rec ih x12 r' h hr K11  a w hlK11 hS hM 
        subst hc
        refine c_round ?_
        refine wp_seq ?_
        refine wp_region_lit ?_
        refine st_val hS rfl rfl (by decide) (r_cmp rfl (hS.ev_ rfl) (hS.ev_ rfl) rfl) fun a hS => ?_
        refine st_done ?_
        replace hS : Slots 26 [] a [(14, Value.bool (decide (x12 < ((p1.length : Int))))), (13, Value.int .i64 (x12)), (12, Value.int .i64 ((p1.length : Int))), (4, Value.bool (false)), (0, v2), (1, v5)] := (hS.part (.cons rfl (.cons rfl (.cons rfl (.cons rfl (.cons rfl (.cons rfl (.nil _))))))))
        refine x_then ?_
        refine wp_seq ?_
        rcases ifB h with ⟨hc19, h⟩ | ⟨hc19, h⟩
        · refine c_cond_true (hS.ev_ rfl) hc19 ?_
          refine wp_skip ?_
          refine x_then ?_
          refine wp_seq ?_
          refine wp_block ?_
          refine wp_seq ?_
          refine wp_region_lit ?_
          refine st_val hS rfl rfl (by decide) (r_move rfl (hS.ev_ rfl)) fun a hS => ?_
          refine st_val hS rfl rfl (by decide) (r_assign rfl (hS.ev_ rfl)) fun a hS => ?_
          refine st_done ?_
          replace hS : Slots 26 [] a [(5, Value.int .i64 (x12)), (13, Value.int .i64 (x12)), (12, Value.int .i64 ((p1.length : Int))), (4, Value.bool (false)), (0, v2), (1, v5)] := (hS.part (.cons rfl (.cons rfl (.cons rfl (.cons rfl (.cons rfl (.cons rfl (.nil _))))))))
          refine x_then ?_
          refine wp_seq ?_
          refine tk_start #[false, false, false, false, false, false, false, false, false] mixed_ rfl rfl ?_
          replace hM := hM.drew
          generalize w.drew = w at hM ⊢
          refine dk_any (i := 0) #[true, false, false, false, false, false, false, false, false] hS rfl (by kernel_rfl) rfl rfl (by decide) (fun w => r_move rfl (hS.ev_ rfl)) fun a hS => ?_
          refine dk_any (i := 1) #[true, true, false, false, false, false, false, false, false] hS rfl (by kernel_rfl) rfl rfl (by decide) (fun w => r_move rfl (hS.ev_ rfl)) fun a hS => ?_
          obtain ⟨e20, h21, h⟩ := bindO h
          obtain ⟨ad22, cp23, cs24, hv25, hr26, h0_27, h1_28, hq29⟩ := sl_at f3 h21 (by decide)
          obtain rfl := hr26
          refine dk_any (i := 2) #[true, true, true, false, false, false, false, false, false] hS rfl (by kernel_rfl) rfl rfl (by decide) (fun w => r_idx_sl rfl un_23 ti_3 (hS.ev_ rfl) hv25 (hS.ev_ rfl) h0_27 h1_28) fun a hS => ?_
          refine dk_val (i := 3) (S := Rd w0 K []) #[true, true, true, true, false, false, false, false, false] hS rfl (by kernel_rfl) rfl rfl (by decide) (Rd.up hlK11 hM.nil_) (fun w hR => r_ld1_k rfl ag_3 (hS.ev_ rfl) hq29 rfl hR) fun a hS => ?_
          refine dk_any (i := 4) #[true, true, true, true, true, false, false, false, false] hS rfl (by kernel_rfl) rfl rfl (by decide) (fun w => r_move rfl (hS.ev_ rfl)) fun a hS => ?_
          refine dk_any (i := 5) #[true, true, true, true, true, true, false, false, false] hS rfl (by kernel_rfl) rfl rfl (by decide) (fun w => r_move rfl (hS.ev_ rfl)) fun a hS => ?_
          obtain ⟨e30, h31, h⟩ := bindO h
          obtain ⟨ad32, cp33, cs34, hv35, hr36, h0_37, h1_38, hq39⟩ := sl_at f6 h31 (by decide)
          obtain rfl := hr36
          refine dk_any (i := 6) #[true, true, true, true, true, true, true, false, false] hS rfl (by kernel_rfl) rfl rfl (by decide) (fun w => r_idx_sl rfl un_23 ti_3 (hS.ev_ rfl) hv35 (hS.ev_ rfl) h0_37 h1_38) fun a hS => ?_
          refine dk_val (i := 7) (S := Rd w0 K []) #[true, true, true, true, true, true, true, true, false] hS rfl (by kernel_rfl) rfl rfl (by decide) (Rd.up hlK11 hM.nil_) (fun w hR => r_ld1_k rfl ag_3 (hS.ev_ rfl) hq39 rfl hR) fun a hS => ?_
          refine dk_any (i := 8) #[true, true, true, true, true, true, true, true, true] hS rfl (by kernel_rfl) rfl rfl (by decide) (fun w => r_cmp rfl (hS.ev_ rfl) (hS.ev_ rfl) rfl) fun a hS => ?_
          refine tk_done (by kernel_rfl) ?_
          replace hS : Slots 26 [] a [(24, Value.bool (e20 != e30)), (13, Value.int .i64 (x12)), (12, Value.int .i64 ((p1.length : Int))), (4, Value.bool (false)), (0, v2), (1, v5)] := (hS.part (.cons rfl (.cons rfl (.cons rfl (.cons rfl (.cons rfl (.cons rfl (.nil _))))))))
          refine x_then ?_
          rcases ifB h with ⟨hc40, h⟩ | ⟨hc40, h⟩
          · refine c_cond_true (hS.ev_ rfl) hc40 ?_
            refine wp_seq ?_
            refine wp_region_lit ?_
            refine st_val hS rfl rfl (by decide) (r_assign rfl (hS.ev_ rfl)) fun a hS => ?_
            refine st_done ?_
            replace hS : Slots 26 [] a [(4, Value.bool (false)), (13, Value.int .i64 (x12)), (12, Value.int .i64 ((p1.length : Int))), (0, v2), (1, v5)] := (hS.part (.cons rfl (.cons rfl (.cons rfl (.cons rfl (.cons rfl (.nil _)))))))
            refine x_then ?_
            refine wp_ret ?_
            refine x_block_ret ?_
            refine x_then_ret ?_
            refine x_then_ret ?_
            have ho' := (Option.some.inj h).trans hr
            refine hQ _ _ _ ?_
            exact .inr (⟨rfl, K11, (()), hlK11, ho'.symm, (hS.part (.cons rfl (.nil _))), hM⟩)
          · refine c_cond_false (hS.ev_ rfl) hc40 ?_
            refine wp_skip ?_
            refine x_block ?_
            refine x_then ?_
            refine wp_region_lit ?_
            refine st_val hS rfl rfl (by decide) (r_add rfl (hS.ev_ rfl) (hS.ev_ rfl)) fun a hS => ?_
            refine st_val hS rfl rfl (by decide) (r_move rfl (hS.ev_ rfl)) fun a hS => ?_
            refine st_done ?_
            replace hS : Slots 26 [] a [(13, Value.int .i64 (w64 (x12 + 1))), (12, Value.int .i64 ((p1.length : Int))), (4, Value.bool (false)), (0, v2), (1, v5)] := (hS.part (.cons rfl (.cons rfl (.cons rfl (.cons rfl (.cons rfl (.nil _)))))))
            refine x_then ?_
            exact ih (w64 (x12 + 1)) _ h hr K11 _ _ hlK11 (hS.part (.cons rfl (.cons rfl (.cons rfl (.cons rfl (.cons rfl (.nil _))))))) (hM)
        · refine c_cond_false (hS.ev_ rfl) hc19 ?_
          refine wp_exit ?_
          refine x_then_exit ?_
          refine x_then_exit ?_
          have ho' := (Option.some.inj h).trans hr
          refine hQ _ _ _ ?_
          exact .inl ⟨rfl, K11, (()), hlK11, ho'.symm, (hS.part (.cons rfl (.nil _))), hM⟩
      exact key 0 _ h14 rfl K _ _ (Hp.le.refl _) (hS.part (.cons rfl (.cons rfl (.cons rfl (.cons rfl (.cons rfl (.nil _))))))) (hM)
    · rintro e a w (⟨rfl, K15, x16, hlK15, ho', hS, hM⟩ | ⟨rfl, K17, x18, hlK17, ho', hS, hM⟩)
      · subst ho'
        dsimp only at h
        refine x_block_here ?_
        refine x_then ?_
        refine wp_seq ?_
        refine wp_region_lit ?_
        refine st_val hS rfl rfl (by decide) (r_assign rfl (hS.ev_ rfl)) fun a hS => ?_
        refine st_done ?_
        replace hS : Slots 26 [] a [(4, Value.bool (true))] := (hS.part (.cons rfl (.nil _)))
        refine x_then ?_
        refine wp_ret ?_
        have hr' := Option.some.inj h
        subst hr'
        refine ret1 (.inr rfl) hS rfl rfl ?_
        exact ⟨K15, hlK15, hM, rfl⟩
      · subst ho'
        dsimp only at h
        refine x_block_ret ?_
        refine x_then_ret ?_
        have hr' := Option.some.inj h
        subst hr'
        refine ret1 (.inr rfl) hS rfl rfl ?_
        exact ⟨K17, hlK17, hM, rfl⟩

theorem raw_Same_c {w0 w : World} {K : Hp} {L : List SP} {p1 : raw_Event} {p6 : raw_Event} {v2 : Value} {v4 : Value} {v7 : Value} {v9 : Value} {r : Bool} (hG : Glob w0) (h : raw_Same p1 p6 = some r) (f3 : Kd.u8.sl K v2 p1.f_Bytes) (f5 : (Kd.int .i64).sl K v4 p1.f_Marks) (f8 : Kd.u8.sl K v7 p6.f_Bytes) (f10 : (Kd.int .i64).sl K v9 p6.f_Marks) (hM : Sat w0 w K (L)) :
    Calls Tryd.prog 12 #[Value.agg #[Value.int .i64 (p1.f_Kind), Value.int .i64 (p1.f_N), v2, v4], Value.agg #[Value.int .i64 (p6.f_Kind), Value.int .i64 (p6.f_N), v7, v9]] w (fun e w' => ∃ (K' : Hp), Hp.le K K' ∧ Sat w0 w' K' (L) ∧ e = .returned (Value.bool (r))) := by
  refine enter_ (n := 31) (args := [Value.agg #[Value.int .i64 (p1.f_Kind), Value.int .i64 (p1.f_N), v2, v4], Value.agg #[Value.int .i64 (p6.f_Kind), Value.int .i64 (p6.f_N), v7, v9]]) Tryd.func12 rfl rfl (Nat.le_of_ble_eq_true rfl) fun a hS => ?_
  replace hS : Slots 31 [] a [(0, Value.agg #[Value.int .i64 (p1.f_Kind), Value.int .i64 (p1.f_N), v2, v4]), (1, Value.agg #[Value.int .i64 (p6.f_Kind), Value.int .i64 (p6.f_N), v7, v9])] := hS
  unfold raw_Same at h
  refine wp_seq ?_
  refine wp_region_lit ?_
  refine wl_cons rfl (e_box (cs := [Value.int .i64 (p1.f_Kind), Value.int .i64 (p1.f_N), v2, v4]) hM rfl (hS.ev_ rfl) rfl fun g11 w hM => ?_)
  refine pl hS rfl (by decide) fun a hS => ?_
  refine wl_cons rfl (e_box (cs := [Value.int .i64 (p6.f_Kind), Value.int .i64 (p6.f_N), v7, v9]) hM rfl (hS.ev_ rfl) rfl fun g13 w hM => ?_)
  refine pl hS rfl (by decide) fun a hS => ?_
  refine st_val hS rfl rfl (by decide) (r_assign rfl (hS.ev_ rfl)) fun a hS => ?_
  refine st_done ?_
  replace hS : Slots 31 [] a [(4, Value.bool (false)), (3, Value.pointer (some ⟨g13, 0, none⟩)), (2, Value.pointer (some ⟨g11, 0, none⟩))] := (hS.part (.cons rfl (.cons rfl (.cons rfl (.nil _)))))
  refine x_then ?_
  refine wp_seq ?_
  refine wp_region_lit ?_
  refine st_val hS rfl rfl (by decide) (r_fld_b rfl fo_25_0 (hS.ev_ rfl)) fun a hS => ?_
  replace hM := hM.pull 1 rfl rfl
  refine st_val hS rfl rfl (by decide) (r_ld1_b rfl ag_3 (hS.ev_ rfl) rfl (Rd.of hM)) fun a hS => ?_
  refine st_val hS rfl rfl (by decide) (r_fld_b rfl fo_25_0 (hS.ev_ rfl)) fun a hS => ?_
  replace hM := hM.pull 1 rfl rfl
  refine st_val hS rfl rfl (by decide) (r_ld1_b rfl ag_3 (hS.ev_ rfl) rfl (Rd.of hM)) fun a hS => ?_
  refine st_val hS rfl rfl (by decide) (r_cmp rfl (hS.ev_ rfl) (hS.ev_ rfl) rfl) fun a hS => ?_
  refine st_val hS rfl rfl (by decide) (r_move rfl (hS.ev_ rfl)) fun a hS => ?_
  obtain ⟨x15, h16, h⟩ := bindO h
  refine wl_cut 6 (fun a w => Slots 31 [] a [(2, Value.pointer (some ⟨g11, 0, none⟩)), (3, Value.pointer (some ⟨g13, 0, none⟩)), (4, Value.bool (false)), (16, Value.bool (x15))] ∧ Sat w0 w K (SP.blk g13 25 [Value.int .i64 (p6.f_Kind), Value.int .i64 (p6.f_N), v7, v9] :: SP.blk g11 25 [Value.int .i64 (p1.f_Kind), Value.int .i64 (p1.f_N), v2, v4] :: L)) ?_ ?_
  ·
    skip
    rcases ifB h16 with ⟨hc17, h16⟩ | ⟨hc17, h16⟩
    ·
      replace hS := hS.known (k := 10) rfl hc17
      refine st_want hS rfl rfl rfl rfl rfl (by decide) (r_fld_b rfl fo_25_1 (hS.ev_ rfl)) fun a hS => ?_
      replace hM := hM.pull 1 rfl rfl
      refine st_want hS rfl rfl rfl rfl rfl (by decide) (r_ld1_b rfl ag_3 (hS.ev_ rfl) rfl (Rd.of hM)) fun a hS => ?_
      refine st_want hS rfl rfl rfl rfl rfl (by decide) (r_fld_b rfl fo_25_1 (hS.ev_ rfl)) fun a hS => ?_
      replace hM := hM.pull 1 rfl rfl
      refine st_want hS rfl rfl rfl rfl rfl (by decide) (r_ld1_b rfl ag_3 (hS.ev_ rfl) rfl (Rd.of hM)) fun a hS => ?_
      refine st_want hS rfl rfl rfl rfl rfl (by decide) (r_cmp rfl (hS.ev_ rfl) (hS.ev_ rfl) rfl) fun a hS => ?_
      refine st_val hS rfl rfl (by decide) (r_pick_true rfl (hS.ev_ rfl) rfl (hS.ev_ rfl)) fun a hS => ?_
      refine st_done ?_
      replace hS : Slots 31 [] a [(16, Value.bool (p1.f_N == p6.f_N)), (4, Value.bool (false)), (3, Value.pointer (some ⟨g13, 0, none⟩)), (2, Value.pointer (some ⟨g11, 0, none⟩))] := (hS.part (.cons rfl (.cons rfl (.cons rfl (.cons rfl (.nil _))))))
      refine x_then ?_
      obtain rfl := Option.some.inj h16
      exact ⟨(hS.part (.cons rfl (.cons rfl (.cons rfl (.cons rfl (.nil _)))))), ((hM.pull 1 rfl rfl).pull 1 rfl rfl)⟩
    ·
      replace hS := hS.known (k := 10) rfl hc17
      refine st_off hS rfl rfl rfl rfl rfl rfl (by decide) fun a hS => ?_
      refine st_off hS rfl rfl rfl rfl rfl rfl (by decide) fun a hS => ?_
      refine st_off hS rfl rfl rfl rfl rfl rfl (by decide) fun a hS => ?_
      refine st_off hS rfl rfl rfl rfl rfl rfl (by decide) fun a hS => ?_
      refine st_off hS rfl rfl rfl rfl rfl rfl (by decide) fun a hS => ?_
      refine st_val hS rfl rfl (by decide) (r_pick_false rfl (hS.ev_ rfl) rfl (hS.ev_ rfl)) fun a hS => ?_
      refine st_done ?_
      replace hS : Slots 31 [] a [(16, Value.bool (false)), (4, Value.bool (false)), (3, Value.pointer (some ⟨g13, 0, none⟩)), (2, Value.pointer (some ⟨g11, 0, none⟩))] := (hS.part (.cons rfl (.cons rfl (.cons rfl (.cons rfl (.nil _))))))
      refine x_then ?_
      obtain rfl := Option.some.inj h16
      exact ⟨(hS.part (.cons rfl (.cons rfl (.cons rfl (.cons rfl (.nil _)))))), ((hM.pull 1 rfl rfl).pull 1 rfl rfl)⟩
  · rintro a w ⟨hS, hM⟩
    refine st_val hS rfl rfl (by decide) (r_move rfl (hS.ev_ rfl)) fun a hS => ?_
    obtain ⟨x19, h20, h⟩ := bindO h
    refine wl_cut 6 (fun a w => ∃ (K18 : Hp), Hp.le K K18 ∧ Slots 31 [] a [(2, Value.pointer (some ⟨g11, 0, none⟩)), (3, Value.pointer (some ⟨g13, 0, none⟩)), (4, Value.bool (false)), (23, Value.bool (x19))] ∧ Sat w0 w K18 (SP.blk g13 25 [Value.int .i64 (p6.f_Kind), Value.int .i64 (p6.f_N), v7, v9] :: SP.blk g11 25 [Value.int .i64 (p1.f_Kind), Value.int .i64 (p1.f_N), v2, v4] :: L)) ?_ ?_
    ·
      skip
      rcases ifB h20 with ⟨hc21, h20⟩ | ⟨hc21, h20⟩
      ·
        replace hS := hS.known (k := 17) rfl hc21
        refine st_want hS rfl rfl rfl rfl rfl (by decide) (r_fld_b rfl fo_25_2 (hS.ev_ rfl)) fun a hS => ?_
        replace hM := hM.pull 1 rfl rfl
        refine st_want hS rfl rfl rfl rfl rfl (by decide) (r_ld1_b rfl ag_22 (hS.ev_ rfl) rfl (Rd.of hM)) fun a hS => ?_
        refine st_want hS rfl rfl rfl rfl rfl (by decide) (r_fld_b rfl fo_25_2 (hS.ev_ rfl)) fun a hS => ?_
        replace hM := hM.pull 1 rfl rfl
        refine st_want hS rfl rfl rfl rfl rfl (by decide) (r_ld1_b rfl ag_22 (hS.ev_ rfl) rfl (Rd.of hM)) fun a hS => ?_
        obtain ⟨y22, h23, h20⟩ := bindO h20
        have hc25 := bytes_Equal_c hG h23 f3 f8 hM
        refine g_want hS rfl rfl rfl rfl (e_call rfl Tryd.func28 rfl rfl (args2 (hS.ev_ rfl) (hS.ev_ rfl)) hc25 ?_)
        rintro _ w ⟨K24, hlK24, hM, rfl⟩
        refine ⟨_, rfl, ?_⟩
        refine pl hS rfl (by decide) fun a hS => ?_
        refine st_val hS rfl rfl (by decide) (r_pick_true rfl (hS.ev_ rfl) rfl (hS.ev_ rfl)) fun a hS => ?_
        refine st_done ?_
        replace hS : Slots 31 [] a [(23, Value.bool (y22)), (2, Value.pointer (some ⟨g11, 0, none⟩)), (3, Value.pointer (some ⟨g13, 0, none⟩)), (4, Value.bool (false))] := (hS.part (.cons rfl (.cons rfl (.cons rfl (.cons rfl (.nil _))))))
        refine x_then ?_
        obtain rfl := Option.some.inj h20
        exact ⟨K24, hlK24, (hS.part (.cons rfl (.cons rfl (.cons rfl (.cons rfl (.nil _)))))), ((hM.pull 1 rfl rfl).pull 1 rfl rfl)⟩
      ·
        replace hS := hS.known (k := 17) rfl hc21
        refine st_off hS rfl rfl rfl rfl rfl rfl (by decide) fun a hS => ?_
        refine st_off hS rfl rfl rfl rfl rfl rfl (by decide) fun a hS => ?_
        refine st_off hS rfl rfl rfl rfl rfl rfl (by decide) fun a hS => ?_
        refine st_off hS rfl rfl rfl rfl rfl rfl (by decide) fun a hS => ?_
        refine st_off hS rfl rfl rfl rfl rfl rfl (by decide) fun a hS => ?_
        refine st_val hS rfl rfl (by decide) (r_pick_false rfl (hS.ev_ rfl) rfl (hS.ev_ rfl)) fun a hS => ?_
        refine st_done ?_
        replace hS : Slots 31 [] a [(23, Value.bool (false)), (2, Value.pointer (some ⟨g11, 0, none⟩)), (3, Value.pointer (some ⟨g13, 0, none⟩)), (4, Value.bool (false))] := (hS.part (.cons rfl (.cons rfl (.cons rfl (.cons rfl (.nil _))))))
        refine x_then ?_
        obtain rfl := Option.some.inj h20
        exact ⟨K, (Hp.le.refl _), (hS.part (.cons rfl (.cons rfl (.cons rfl (.cons rfl (.nil _)))))), ((hM.pull 1 rfl rfl).pull 1 rfl rfl)⟩
    · rintro a w ⟨K18, hlK18, hS, hM⟩
      refine st_val hS rfl rfl (by decide) (r_move rfl (hS.ev_ rfl)) fun a hS => ?_
      obtain ⟨x27, h28, h⟩ := bindO h
      refine wl_cut 6 (fun a w => ∃ (K26 : Hp), Hp.le K18 K26 ∧ Slots 31 [] a [(4, Value.bool (false)), (30, Value.bool (x27))] ∧ Sat w0 w K26 (SP.blk g13 25 [Value.int .i64 (p6.f_Kind), Value.int .i64 (p6.f_N), v7, v9] :: SP.blk g11 25 [Value.int .i64 (p1.f_Kind), Value.int .i64 (p1.f_N), v2, v4] :: L)) ?_ ?_
      ·
        skip
        rcases ifB h28 with ⟨hc29, h28⟩ | ⟨hc29, h28⟩
        ·
          replace hS := hS.known (k := 24) rfl hc29
          refine st_want hS rfl rfl rfl rfl rfl (by decide) (r_fld_b rfl fo_25_3 (hS.ev_ rfl)) fun a hS => ?_
          replace hM := hM.pull 1 rfl rfl
          refine st_want hS rfl rfl rfl rfl rfl (by decide) (r_ld1_b rfl ag_23 (hS.ev_ rfl) rfl (Rd.of hM)) fun a hS => ?_
          refine st_want hS rfl rfl rfl rfl rfl (by decide) (r_fld_b rfl fo_25_3 (hS.ev_ rfl)) fun a hS => ?_
          replace hM := hM.pull 1 rfl rfl
          refine st_want hS rfl rfl rfl rfl rfl (by decide) (r_ld1_b rfl ag_23 (hS.ev_ rfl) rfl (Rd.of hM)) fun a hS => ?_
          obtain ⟨y30, h31, h28⟩ := bindO h28
          have hc33 := slices_Equal_int_int_c hG h31 (Kd.sl_mono hlK18 f5) (Kd.sl_mono hlK18 f10) hM
          refine g_want hS rfl rfl rfl rfl (e_call rfl Tryd.func29 rfl rfl (args2 (hS.ev_ rfl) (hS.ev_ rfl)) hc33 ?_)
          rintro _ w ⟨K32, hlK32, hM, rfl⟩
          refine ⟨_, rfl, ?_⟩
          refine pl hS rfl (by decide) fun a hS => ?_
          refine st_val hS rfl rfl (by decide) (r_pick_true rfl (hS.ev_ rfl) rfl (hS.ev_ rfl)) fun a hS => ?_
          refine st_done ?_
          replace hS : Slots 31 [] a [(30, Value.bool (y30)), (4, Value.bool (false))] := (hS.part (.cons rfl (.cons rfl (.nil _))))
          refine x_then ?_
          obtain rfl := Option.some.inj h28
          exact ⟨K32, hlK32, (hS.part (.cons rfl (.cons rfl (.nil _)))), ((hM.pull 1 rfl rfl).pull 1 rfl rfl)⟩
        ·
          replace hS := hS.known (k := 24) rfl hc29
          refine st_off hS rfl rfl rfl rfl rfl rfl (by decide) fun a hS => ?_
          refine st_off hS rfl rfl rfl rfl rfl rfl (by decide) fun a hS => ?_
          refine st_off hS rfl rfl rfl rfl rfl rfl (by decide) fun a hS => ?_
          refine st_off hS rfl rfl rfl rfl rfl rfl (by decide) fun a hS => ?_
          refine st_off hS rfl rfl rfl rfl rfl rfl (by decide) fun a hS => ?_
          refine st_val hS rfl rfl (by decide) (r_pick_false rfl (hS.ev_ rfl) rfl (hS.ev_ rfl)) fun a hS => ?_
          refine st_done ?_
          replace hS : Slots 31 [] a [(30, Value.bool (false)), (4, Value.bool (false))] := (hS.part (.cons rfl (.cons rfl (.nil _))))
          refine x_then ?_
          obtain rfl := Option.some.inj h28
          exact ⟨K18, (Hp.le.refl _), (hS.part (.cons rfl (.cons rfl (.nil _)))), ((hM.pull 1 rfl rfl).pull 1 rfl rfl)⟩
      · rintro a w ⟨K26, hlK26, hS, hM⟩
        refine st_val hS rfl rfl (by decide) (r_assign rfl (hS.ev_ rfl)) fun a hS => ?_
        refine st_done ?_
        replace hS : Slots 31 [] a [(4, Value.bool (x27))] := (hS.part (.cons rfl (.nil _)))
        refine x_then ?_
        refine wp_ret ?_
        have hr' := Option.some.inj h
        subst hr'
        refine ret1 (.inr rfl) hS rfl rfl ?_
        exact ⟨K26, (hlK18.trans hlK26), ((hM).tail).tail, rfl⟩

theorem Law_RawBack_c {w0 w : World} {K : Hp} {L : List SP} {p1 : raw_Event} {p6 : List UInt8} {v2 : Value} {v4 : Value} {r : Bool} (hG : Glob w0) (h : Law_RawBack p1 p6 = some r) (f3 : Kd.u8.sl K v2 p1.f_Bytes) (f5 : (Kd.int .i64).sl K v4 p1.f_Marks) (hM : Sat w0 w K (L)) :
    Calls Tryd.prog 3 #[Value.agg #[Value.int .i64 (p1.f_Kind), Value.int .i64 (p1.f_N), v2, v4], strV (p6)] w (fun e w' => ∃ (K' : Hp), Hp.le K K' ∧ Sat w0 w' K' (L) ∧ e = .returned (Value.bool (r))) := by
  refine enter_ (n := 55) (args := [Value.agg #[Value.int .i64 (p1.f_Kind), Value.int .i64 (p1.f_N), v2, v4], strV (p6)]) Tryd.func3 rfl rfl (Nat.le_of_ble_eq_true rfl) fun a hS => ?_
  replace hS : Slots 55 [] a [(0, Value.agg #[Value.int .i64 (p1.f_Kind), Value.int .i64 (p1.f_N), v2, v4]), (1, strV (p6))] := hS
  unfold Law_RawBack at h
  refine wp_seq ?_
  refine wp_region_lit ?_
  refine wl_cons rfl (e_box (cs := [Value.int .i64 (p1.f_Kind), Value.int .i64 (p1.f_N), v2, v4]) hM rfl (hS.ev_ rfl) rfl fun g7 w hM => ?_)
  refine pl hS rfl (by decide) fun a hS => ?_
  refine st_val hS rfl rfl (by decide) (r_assign rfl (hS.ev_ rfl)) fun a hS => ?_
  refine st_done ?_
  replace hS : Slots 55 [] a [(4, Value.bool (false)), (2, Value.pointer (some ⟨g7, 0, none⟩)), (1, strV (p6))] := (hS.part (.cons rfl (.cons rfl (.cons rfl (.nil _)))))
  refine x_then ?_
  refine wp_seq ?_
  refine wp_seq ?_
  refine wp_region_lit ?_
  obtain ⟨y9, h10, h⟩ := bindO h
  have hc12 := Law_alive_c hG h10 hM
  refine wl_cons rfl (e_call rfl Tryd.func7 rfl rfl (args0 ) hc12 ?_)
  rintro _ w ⟨K11, hlK11, hM, rfl⟩
  refine ⟨_, rfl, ?_⟩
  refine pl hS rfl (by decide) fun a hS => ?_
  refine st_val hS rfl rfl (by decide) (r_not rfl (hS.ev_ rfl)) fun a hS => ?_
  refine st_done ?_
  replace hS : Slots 55 [] a [(10, Value.bool (!y9)), (4, Value.bool (false)), (2, Value.pointer (some ⟨g7, 0, none⟩)), (1, strV (p6))] := (hS.part (.cons rfl (.cons rfl (.cons rfl (.cons rfl (.nil _))))))
  refine x_then ?_
  rcases ifB h with ⟨hc13, h⟩ | ⟨hc13, h⟩
  · refine c_cond_true (hS.ev_ rfl) hc13 ?_
    refine wp_seq ?_
    refine wp_region_lit ?_
    refine st_val hS rfl rfl (by decide) (r_assign rfl (hS.ev_ rfl)) fun a hS => ?_
    refine st_done ?_
    replace hS : Slots 55 [] a [(4, Value.bool (false)), (2, Value.pointer (some ⟨g7, 0, none⟩)), (1, strV (p6))] := (hS.part (.cons rfl (.cons rfl (.cons rfl (.nil _)))))
    refine x_then ?_
    refine wp_ret ?_
    refine x_then_ret ?_
    have hr' := Option.some.inj h
    subst hr'
    refine ret1 (.inr rfl) hS rfl rfl ?_
    exact ⟨K11, hlK11, (hM).tail, rfl⟩
  · refine c_cond_false (hS.ev_ rfl) hc13 ?_
    refine wp_skip ?_
    refine x_then ?_
    refine wp_seq ?_
    refine wp_seq ?_
    refine wp_region_lit ?_
    refine st_val hS rfl rfl (by decide) (r_ldN_b (cs' := [Value.int .i64 (p1.f_Kind), Value.int .i64 (p1.f_N), v2, v4]) rfl ag_25 ti_25 (hS.ev_ rfl) rfl (Rd.of hM)) fun a hS => ?_
    obtain ⟨y14, h15, h⟩ := bindO h
    have hc17 := Law_long_c hG h15 (Kd.sl_mono hlK11 f3) (Kd.sl_mono hlK11 f5) hM
    refine wl_cons rfl (e_call rfl Tryd.func8 rfl rfl (args1 (hS.ev_ rfl)) hc17 ?_)
    rintro _ w ⟨K16, hlK16, hM, rfl⟩
    refine ⟨_, rfl, ?_⟩
    refine pl hS rfl (by decide) fun a hS => ?_
    refine st_val hS rfl rfl (by decide) (r_move rfl (hS.ev_ rfl)) fun a hS => ?_
    obtain ⟨x18, h19, h⟩ := bindO h
    refine wl_cut 4 (fun a w => Slots 55 [] a [(1, strV (p6)), (2, Value.pointer (some ⟨g7, 0, none⟩)), (4, Value.bool (false)), (17, Value.bool (x18))] ∧ Sat w0 w K16 (SP.blk g7 25 [Value.int .i64 (p1.f_Kind), Value.int .i64 (p1.f_N), v2, v4] :: L)) ?_ ?_
    ·
      skip
      rcases ifB h19 with ⟨hc20, h19⟩ | ⟨hc20, h19⟩
      ·
        replace hS := hS.known (k := 13) rfl hc20
        refine st_off hS rfl rfl rfl rfl rfl rfl (by decide) fun a hS => ?_
        refine st_off hS rfl rfl rfl rfl rfl rfl (by decide) fun a hS => ?_
        refine st_off hS rfl rfl rfl rfl rfl rfl (by decide) fun a hS => ?_
        refine st_val hS rfl rfl (by decide) (r_pick_true rfl (hS.ev_ rfl) rfl (hS.ev_ rfl)) fun a hS => ?_
        refine st_done ?_
        replace hS : Slots 55 [] a [(17, Value.bool (true)), (4, Value.bool (false)), (2, Value.pointer (some ⟨g7, 0, none⟩)), (1, strV (p6))] := (hS.part (.cons rfl (.cons rfl (.cons rfl (.cons rfl (.nil _))))))
        refine x_then ?_
        obtain rfl := Option.some.inj h19
        exact ⟨(hS.part (.cons rfl (.cons rfl (.cons rfl (.cons rfl (.nil _)))))), hM⟩
      ·
        replace hS := hS.known (k := 13) rfl hc20
        refine st_want hS rfl rfl rfl rfl rfl (by decide) (r_move rfl (hS.ev_ rfl)) fun a hS => ?_
        refine st_want hS rfl rfl rfl rfl rfl (by decide) (r_len_str rfl un_9 (hS.ev_ rfl)) fun a hS => ?_
        refine st_want hS rfl rfl rfl rfl rfl (by decide) (r_cmp rfl (hS.ev_ rfl) (hS.ev_ rfl) rfl) fun a hS => ?_
        refine st_val hS rfl rfl (by decide) (r_pick_false rfl (hS.ev_ rfl) rfl (hS.ev_ rfl)) fun a hS => ?_
        refine st_done ?_
        replace hS : Slots 55 [] a [(17, Value.bool (decide (((p6.length : Int)) > 400))), (4, Value.bool (false)), (2, Value.pointer (some ⟨g7, 0, none⟩)), (1, strV (p6))] := (hS.part (.cons rfl (.cons rfl (.cons rfl (.cons rfl (.nil _))))))
        refine x_then ?_
        obtain rfl := Option.some.inj h19
        exact ⟨(hS.part (.cons rfl (.cons rfl (.cons rfl (.cons rfl (.nil _)))))), hM⟩
    · rintro a w ⟨hS, hM⟩
      refine st_done ?_
      replace hS : Slots 55 [] a [(1, strV (p6)), (2, Value.pointer (some ⟨g7, 0, none⟩)), (4, Value.bool (false)), (17, Value.bool (x18))] := (hS.part (.cons rfl (.cons rfl (.cons rfl (.cons rfl (.nil _))))))
      refine x_then ?_
      rcases ifB h with ⟨hc21, h⟩ | ⟨hc21, h⟩
      · refine c_cond_true (hS.ev_ rfl) hc21 ?_
        refine wp_seq ?_
        refine wp_region_lit ?_
        refine st_val hS rfl rfl (by decide) (r_assign rfl (hS.ev_ rfl)) fun a hS => ?_
        refine st_done ?_
        replace hS : Slots 55 [] a [(4, Value.bool (true)), (1, strV (p6)), (2, Value.pointer (some ⟨g7, 0, none⟩))] := (hS.part (.cons rfl (.cons rfl (.cons rfl (.nil _)))))
        refine x_then ?_
        refine wp_ret ?_
        refine x_then_ret ?_
        have hr' := Option.some.inj h
        subst hr'
        refine ret1 (.inr rfl) hS rfl rfl ?_
        exact ⟨K16, (hlK11.trans hlK16), (hM).tail, rfl⟩
      · refine c_cond_false (hS.ev_ rfl) hc21 ?_
        refine wp_skip ?_
        refine x_then ?_
        refine wp_seq ?_
        refine wp_seq ?_
        refine wp_region_lit ?_
        refine st_val hS rfl rfl (by decide) (r_move rfl (hS.ev_ rfl)) fun a hS => ?_
        obtain ⟨y22, h23, h⟩ := bindO h
        have hc25 := raw_Parse_c hG h23 hM
        refine wl_cons rfl (e_call rfl Tryd.func9 rfl rfl (args1 (hS.ev_ rfl)) hc25 ?_)
        rintro _ w ⟨K24, v26, v28, hlK24, hM, rfl, f27, f29⟩
        refine ⟨_, rfl, ?_⟩
        refine pl hS rfl (by decide) fun a hS => ?_
        refine st_val hS rfl rfl (by decide) (r_move rfl (hS.ev_ rfl)) fun a hS => ?_
        refine st_val hS rfl rfl (by decide) (r_extract rfl (hS.ev_ rfl) rfl) fun a hS => ?_
        refine st_val hS rfl rfl (by decide) (r_extract rfl (hS.ev_ rfl) rfl) fun a hS => ?_
        refine wl_cons rfl (e_alloc (cs := [Value.int .i64 (0), Value.int .i64 (0), Value.slice none 0 0, Value.slice none 0 0]) hM rfl ti_25 rfl fun g30 w hM => ?_)
        refine pl hS rfl (by decide) fun a hS => ?_
        refine wl_cons rfl (e_storeN (vs := [Value.int .i64 (y22.1.f_Kind), Value.int .i64 (y22.1.f_N), v26, v28]) hM rfl ti_25 (hS.ev_ rfl) (hS.ev_ rfl) (ones_cons rfl (ones_cons rfl (ones_cons (sl_one f27) (ones_cons (sl_one f29) ones_nil)))) (Nat.le_of_ble_eq_true rfl) fun w hM => ?_)
        have hM : Sat w0 w K24 (SP.blk g30 25 [Value.int .i64 (y22.1.f_Kind), Value.int .i64 (y22.1.f_N), v26, v28] :: SP.blk g7 25 [Value.int .i64 (p1.f_Kind), Value.int .i64 (p1.f_N), v2, v4] :: L) := hM
        refine pl0 hS rfl fun a hS => ?_
        refine st_val hS rfl rfl (by decide) (r_assign rfl (hS.ev_ rfl)) fun a hS => ?_
        refine st_done ?_
        replace hS : Slots 55 [] a [(6, eV w0 y22.2), (5, Value.pointer (some ⟨g30, 0, none⟩)), (1, strV (p6)), (2, Value.pointer (some ⟨g7, 0, none⟩)), (4, Value.bool (false))] := (hS.part (.cons rfl (.cons rfl (.cons rfl (.cons rfl (.cons rfl (.nil _)))))))
        refine x_then ?_
        refine wp_seq ?_
        refine wp_region_lit ?_
        refine st_val hS rfl rfl (by decide) (r_move rfl (hS.ev_ rfl)) fun a hS => ?_
        refine st_val hS rfl rfl (by decide) (r_errnil rfl if_29 (hS.ev_ (v := eV w0 y22.2) rfl)) fun a hS => ?_
        refine st_val hS rfl rfl (by decide) (r_move rfl (hS.ev_ rfl)) fun a hS => ?_
        obtain ⟨x33, h34, h⟩ := bindO h
        refine wl_cut 10 (fun a w => ∃ (K32 : Hp), Hp.le K24 K32 ∧ Slots 55 [] a [(2, Value.pointer (some ⟨g7, 0, none⟩)), (4, Value.bool (false)), (35, Value.bool (x33))] ∧ Sat w0 w K32 (SP.blk g30 25 [Value.int .i64 (y22.1.f_Kind), Value.int .i64 (y22.1.f_N), v26, v28] :: SP.blk g7 25 [Value.int .i64 (p1.f_Kind), Value.int .i64 (p1.f_N), v2, v4] :: L)) ?_ ?_
        ·
          skip
          rcases ifB h34 with ⟨hc35, h34⟩ | ⟨hc35, h34⟩
          ·
            replace hS := hS.known (k := 25) rfl hc35
            refine st_want hS rfl rfl rfl rfl rfl (by decide) (r_ldN_b (cs' := [Value.int .i64 (y22.1.f_Kind), Value.int .i64 (y22.1.f_N), v26, v28]) rfl ag_25 ti_25 (hS.ev_ rfl) rfl (Rd.of hM)) fun a hS => ?_
            obtain ⟨y36, h37, h34⟩ := bindO h34
            have hc39 := raw_Right_c hG h37 f27 f29 hM
            refine g_want hS rfl rfl rfl rfl (e_call rfl Tryd.func10 rfl rfl (args1 (hS.ev_ rfl)) hc39 ?_)
            rintro _ w ⟨K38, hlK38, hM, rfl⟩
            refine ⟨_, rfl, ?_⟩
            refine pl hS rfl (by decide) fun a hS => ?_
            refine st_want hS rfl rfl rfl rfl rfl (by decide) (r_not rfl (hS.ev_ rfl)) fun a hS => ?_
            refine st_want hS rfl rfl rfl rfl rfl (by decide) (r_move rfl (hS.ev_ rfl)) fun a hS => ?_
            obtain ⟨x41, h42, h34⟩ := bindO h34
            refine wl_cut 5 (fun a w => ∃ (K40 : Hp), Hp.le K38 K40 ∧ Slots 55 [] a [(2, Value.pointer (some ⟨g7, 0, none⟩)), (4, Value.bool (false)), (25, Value.bool (true)), (34, Value.bool (x41))] ∧ Sat w0 w K40 (SP.blk g30 25 [Value.int .i64 (y22.1.f_Kind), Value.int .i64 (y22.1.f_N), v26, v28] :: SP.blk g7 25 [Value.int .i64 (p1.f_Kind), Value.int .i64 (p1.f_N), v2, v4] :: L)) ?_ ?_
            ·
              skip
              rcases ifB h42 with ⟨hc43, h42⟩ | ⟨hc43, h42⟩
              ·
                replace hS := hS.known (k := 29) rfl hc43
                refine st_off hS rfl rfl rfl rfl rfl rfl (by decide) fun a hS => ?_
                refine st_off hS rfl rfl rfl rfl rfl rfl (by decide) fun a hS => ?_
                refine st_off hS rfl rfl rfl rfl rfl rfl (by decide) fun a hS => ?_
                refine st_off hS rfl rfl rfl rfl rfl rfl (by decide) fun a hS => ?_
                refine st_want hS rfl rfl rfl rfl rfl (by decide) (r_pick_true rfl (hS.ev_ rfl) rfl (hS.ev_ rfl)) fun a hS => ?_
                refine st_done ?_
                replace hS : Slots 55 [] a [(34, Value.bool (true)), (25, Value.bool (true)), (2, Value.pointer (some ⟨g7, 0, none⟩)), (4, Value.bool (false))] := (hS.part (.cons rfl (.cons rfl (.cons rfl (.cons rfl (.nil _))))))
                refine x_then ?_
                obtain rfl := Option.some.inj h42
                exact ⟨K38, (Hp.le.refl _), (hS.part (.cons rfl (.cons rfl (.cons rfl (.cons rfl (.nil _)))))), ((hM.pull 1 rfl rfl).pull 1 rfl rfl)⟩
              ·
                replace hS := hS.known (k := 29) rfl hc43
                refine st_want hS rfl rfl rfl rfl rfl (by decide) (r_ldN_b (cs' := [Value.int .i64 (y22.1.f_Kind), Value.int .i64 (y22.1.f_N), v26, v28]) rfl ag_25 ti_25 (hS.ev_ rfl) rfl (Rd.of hM)) fun a hS => ?_
                obtain ⟨y44, h45, h42⟩ := bindO h42
                have hc47 := raw_Line_c hG h45 (Kd.sl_mono hlK38 f27) (Kd.sl_mono hlK38 f29) hM
                refine g_want hS rfl rfl rfl rfl (e_call rfl Tryd.func11 rfl rfl (args1 (hS.ev_ rfl)) hc47 ?_)
                rintro _ w ⟨K46, hlK46, hM, rfl⟩
                refine ⟨_, rfl, ?_⟩
                refine pl hS rfl (by decide) fun a hS => ?_
                refine st_want hS rfl rfl rfl rfl rfl (by decide) (r_move rfl (hS.ev_ rfl)) fun a hS => ?_
                refine st_want hS rfl rfl rfl rfl rfl (by decide) (r_sne rfl (hS.ev_ rfl) (hS.ev_ rfl)) fun a hS => ?_
                refine st_want hS rfl rfl rfl rfl rfl (by decide) (r_pick_false rfl (hS.ev_ rfl) rfl (hS.ev_ rfl)) fun a hS => ?_
                refine st_done ?_
                replace hS : Slots 55 [] a [(34, Value.bool (y44 != p6)), (25, Value.bool (true)), (2, Value.pointer (some ⟨g7, 0, none⟩)), (4, Value.bool (false))] := (hS.part (.cons rfl (.cons rfl (.cons rfl (.cons rfl (.nil _))))))
                refine x_then ?_
                obtain rfl := Option.some.inj h42
                exact ⟨K46, hlK46, (hS.part (.cons rfl (.cons rfl (.cons rfl (.cons rfl (.nil _)))))), ((hM.pull 1 rfl rfl).pull 1 rfl rfl)⟩
            · rintro a w ⟨K40, hlK40, hS, hM⟩
              refine st_val hS rfl rfl (by decide) (r_pick_true rfl (hS.ev_ rfl) rfl (hS.ev_ rfl)) fun a hS => ?_
              refine st_done ?_
              replace hS : Slots 55 [] a [(35, Value.bool (x41)), (2, Value.pointer (some ⟨g7, 0, none⟩)), (4, Value.bool (false))] := (hS.part (.cons rfl (.cons rfl (.cons rfl (.nil _)))))
              refine x_then ?_
              obtain rfl := Option.some.inj h34
              exact ⟨K40, (hlK38.trans hlK40), (hS.part (.cons rfl (.cons rfl (.cons rfl (.nil _))))), ((hM.pull 1 rfl rfl).pull 1 rfl rfl)⟩
          ·
            replace hS := hS.known (k := 25) rfl hc35
            refine st_off hS rfl rfl rfl rfl rfl rfl (by decide) fun a hS => ?_
            refine st_off hS rfl rfl rfl rfl rfl rfl (by decide) fun a hS => ?_
            refine st_off hS rfl rfl rfl rfl rfl rfl (by decide) fun a hS => ?_
            refine st_off hS rfl rfl rfl rfl rfl rfl (by decide) fun a hS => ?_
            refine st_off_undef hS rfl rfl rfl rfl rfl (by decide) fun a hS => ?_
            refine st_off_undef hS rfl rfl rfl rfl rfl (by decide) fun a hS => ?_
            refine st_off_undef hS rfl rfl rfl rfl rfl (by decide) fun a hS => ?_
            refine st_off_undef hS rfl rfl rfl rfl rfl (by decide) fun a hS => ?_
            refine st_off hS rfl rfl rfl rfl rfl rfl (by decide) fun a hS => ?_
            refine st_val hS rfl rfl (by decide) (r_pick_false rfl (hS.ev_ rfl) rfl (hS.ev_ rfl)) fun a hS => ?_
            refine st_done ?_
            replace hS : Slots 55 [] a [(35, Value.bool (false)), (2, Value.pointer (some ⟨g7, 0, none⟩)), (4, Value.bool (false))] := (hS.part (.cons rfl (.cons rfl (.cons rfl (.nil _)))))
            refine x_then ?_
            obtain rfl := Option.some.inj h34
            exact ⟨K24, (Hp.le.refl _), (hS.part (.cons rfl (.cons rfl (.cons rfl (.nil _))))), ((hM.pull 1 rfl rfl).pull 1 rfl rfl)⟩
        · rintro a w ⟨K32, hlK32, hS, hM⟩
          refine st_done ?_
          replace hS : Slots 55 [] a [(2, Value.pointer (some ⟨g7, 0, none⟩)), (4, Value.bool (false)), (35, Value.bool (x33))] := (hS.part (.cons rfl (.cons rfl (.cons rfl (.nil _)))))
          refine x_then ?_
          rcases ifB h with ⟨hc48, h⟩ | ⟨hc48, h⟩
          · refine c_cond_true (hS.ev_ rfl) hc48 ?_
            refine wp_seq ?_
            refine wp_region_lit ?_
            refine st_val hS rfl rfl (by decide) (r_assign rfl (hS.ev_ rfl)) fun a hS => ?_
            refine st_done ?_
            replace hS : Slots 55 [] a [(4, Value.bool (false)), (2, Value.pointer (some ⟨g7, 0, none⟩))] := (hS.part (.cons rfl (.cons rfl (.nil _))))
            refine x_then ?_
            refine wp_ret ?_
            refine x_then_ret ?_
            have hr' := Option.some.inj h
            subst hr'
            refine ret1 (.inr rfl) hS rfl rfl ?_
            exact ⟨K32, (((hlK11.trans hlK16).trans hlK24).trans hlK32), ((hM).tail).tail, rfl⟩
          · refine c_cond_false (hS.ev_ rfl) hc48 ?_
            refine wp_skip ?_
            refine x_then ?_
            refine wp_seq ?_
            refine wp_seq ?_
            refine wp_region_lit ?_
            replace hM := hM.pull 1 rfl rfl
            refine st_val hS rfl rfl (by decide) (r_ldN_b (cs' := [Value.int .i64 (p1.f_Kind), Value.int .i64 (p1.f_N), v2, v4]) rfl ag_25 ti_25 (hS.ev_ rfl) rfl (Rd.of hM)) fun a hS => ?_
            obtain ⟨y49, h50, h⟩ := bindO h
            have hc52 := raw_Right_c hG h50 (Kd.sl_mono (((hlK11.trans hlK16).trans hlK24).trans hlK32) f3) (Kd.sl_mono (((hlK11.trans hlK16).trans hlK24).trans hlK32) f5) hM
            refine wl_cons rfl (e_call rfl Tryd.func10 rfl rfl (args1 (hS.ev_ rfl)) hc52 ?_)
            rintro _ w ⟨K51, hlK51, hM, rfl⟩
            refine ⟨_, rfl, ?_⟩
            refine pl hS rfl (by decide) fun a hS => ?_
            refine st_val hS rfl rfl (by decide) (r_not rfl (hS.ev_ rfl)) fun a hS => ?_
            refine st_done ?_
            replace hS : Slots 55 [] a [(38, Value.bool (!y49)), (2, Value.pointer (some ⟨g7, 0, none⟩)), (4, Value.bool (false))] := (hS.part (.cons rfl (.cons rfl (.cons rfl (.nil _)))))
            refine x_then ?_
            rcases ifB h with ⟨hc53, h⟩ | ⟨hc53, h⟩
            · refine c_cond_true (hS.ev_ rfl) hc53 ?_
              refine wp_seq ?_
              refine wp_region_lit ?_
              refine st_val hS rfl rfl (by decide) (r_ldN_b (cs' := [Value.int .i64 (p1.f_Kind), Value.int .i64 (p1.f_N), v2, v4]) rfl ag_25 ti_25 (hS.ev_ rfl) rfl (Rd.of hM)) fun a hS => ?_
              obtain ⟨y54, h55, h⟩ := bindO h
              have hc57 := raw_Line_c hG h55 (Kd.sl_mono ((((hlK11.trans hlK16).trans hlK24).trans hlK32).trans hlK51) f3) (Kd.sl_mono ((((hlK11.trans hlK16).trans hlK24).trans hlK32).trans hlK51) f5) hM
              refine wl_cons rfl (e_call rfl Tryd.func11 rfl rfl (args1 (hS.ev_ rfl)) hc57 ?_)
              rintro _ w ⟨K56, hlK56, hM, rfl⟩
              refine ⟨_, rfl, ?_⟩
              refine pl hS rfl (by decide) fun a hS => ?_
              refine st_val hS rfl rfl (by decide) (r_seq rfl (hS.ev_ rfl) (hS.ev_ (v := strV (([] : List UInt8))) rfl)) fun a hS => ?_
              refine st_val hS rfl rfl (by decide) (r_assign rfl (hS.ev_ rfl)) fun a hS => ?_
              refine st_done ?_
              replace hS : Slots 55 [] a [(4, Value.bool (y54 == ([] : List UInt8))), (2, Value.pointer (some ⟨g7, 0, none⟩))] := (hS.part (.cons rfl (.cons rfl (.nil _))))
              refine x_then ?_
              refine wp_ret ?_
              refine x_then_ret ?_
              have hr' := Option.some.inj h
              subst hr'
              refine ret1 (.inr rfl) hS rfl rfl ?_
              exact ⟨K56, (((((hlK11.trans hlK16).trans hlK24).trans hlK32).trans hlK51).trans hlK56), ((hM).tail).tail, rfl⟩
            · refine c_cond_false (hS.ev_ rfl) hc53 ?_
              refine wp_skip ?_
              refine x_then ?_
              refine wp_seq ?_
              refine wp_region_lit ?_
              refine st_val hS rfl rfl (by decide) (r_ldN_b (cs' := [Value.int .i64 (p1.f_Kind), Value.int .i64 (p1.f_N), v2, v4]) rfl ag_25 ti_25 (hS.ev_ rfl) rfl (Rd.of hM)) fun a hS => ?_
              obtain ⟨y58, h59, h⟩ := bindO h
              have hc61 := raw_Line_c hG h59 (Kd.sl_mono ((((hlK11.trans hlK16).trans hlK24).trans hlK32).trans hlK51) f3) (Kd.sl_mono ((((hlK11.trans hlK16).trans hlK24).trans hlK32).trans hlK51) f5) hM
              refine wl_cons rfl (e_call rfl Tryd.func11 rfl rfl (args1 (hS.ev_ rfl)) hc61 ?_)
              rintro _ w ⟨K60, hlK60, hM, rfl⟩
              refine ⟨_, rfl, ?_⟩
              refine pl hS rfl (by decide) fun a hS => ?_
              obtain ⟨y62, h63, h⟩ := bindO h
              have hc65 := raw_Parse_c hG h63 hM
              refine wl_cons rfl (e_call rfl Tryd.func9 rfl rfl (args1 (hS.ev_ rfl)) hc65 ?_)
              rintro _ w ⟨K64, v66, v68, hlK64, hM, rfl, f67, f69⟩
              refine ⟨_, rfl, ?_⟩
              refine pl hS rfl (by decide) fun a hS => ?_
              refine st_val hS rfl rfl (by decide) (r_move rfl (hS.ev_ rfl)) fun a hS => ?_
              refine st_val hS rfl rfl (by decide) (r_extract rfl (hS.ev_ rfl) rfl) fun a hS => ?_
              refine st_val hS rfl rfl (by decide) (r_extract rfl (hS.ev_ rfl) rfl) fun a hS => ?_
              refine wl_cons rfl (e_alloc (cs := [Value.int .i64 (0), Value.int .i64 (0), Value.slice none 0 0, Value.slice none 0 0]) hM rfl ti_25 rfl fun g70 w hM => ?_)
              refine pl hS rfl (by decide) fun a hS => ?_
              refine wl_cons rfl (e_storeN (vs := [Value.int .i64 (y62.1.f_Kind), Value.int .i64 (y62.1.f_N), v66, v68]) hM rfl ti_25 (hS.ev_ rfl) (hS.ev_ rfl) (ones_cons rfl (ones_cons rfl (ones_cons (sl_one f67) (ones_cons (sl_one f69) ones_nil)))) (Nat.le_of_ble_eq_true rfl) fun w hM => ?_)
              have hM : Sat w0 w K64 (SP.blk g70 25 [Value.int .i64 (y62.1.f_Kind), Value.int .i64 (y62.1.f_N), v66, v68] :: SP.blk g7 25 [Value.int .i64 (p1.f_Kind), Value.int .i64 (p1.f_N), v2, v4] :: SP.blk g30 25 [Value.int .i64 (y22.1.f_Kind), Value.int .i64 (y22.1.f_N), v26, v28] :: L) := hM
              refine pl0 hS rfl fun a hS => ?_
              refine st_val hS rfl rfl (by decide) (r_assign rfl (hS.ev_ rfl)) fun a hS => ?_
              refine st_done ?_
              replace hS : Slots 55 [] a [(8, eV w0 y62.2), (7, Value.pointer (some ⟨g70, 0, none⟩)), (2, Value.pointer (some ⟨g7, 0, none⟩)), (4, Value.bool (false))] := (hS.part (.cons rfl (.cons rfl (.cons rfl (.cons rfl (.nil _))))))
              refine x_then ?_
              refine wp_seq ?_
              refine wp_region_lit ?_
              refine st_val hS rfl rfl (by decide) (r_move rfl (hS.ev_ rfl)) fun a hS => ?_
              refine st_val hS rfl rfl (by decide) (r_errnil rfl if_29 (hS.ev_ (v := eV w0 y62.2) rfl)) fun a hS => ?_
              refine st_val hS rfl rfl (by decide) (r_move rfl (hS.ev_ rfl)) fun a hS => ?_
              obtain ⟨x73, h74, h⟩ := bindO h
              refine wl_cut 4 (fun a w => ∃ (K72 : Hp), Hp.le K64 K72 ∧ Slots 55 [] a [(4, Value.bool (false)), (54, Value.bool (x73))] ∧ Sat w0 w K72 (SP.blk g70 25 [Value.int .i64 (y62.1.f_Kind), Value.int .i64 (y62.1.f_N), v66, v68] :: SP.blk g7 25 [Value.int .i64 (p1.f_Kind), Value.int .i64 (p1.f_N), v2, v4] :: SP.blk g30 25 [Value.int .i64 (y22.1.f_Kind), Value.int .i64 (y22.1.f_N), v26, v28] :: L)) ?_ ?_
              ·
                skip
                rcases ifB h74 with ⟨hc75, h74⟩ | ⟨hc75, h74⟩
                ·
                  replace hS := hS.known (k := 50) rfl hc75
                  refine st_want hS rfl rfl rfl rfl rfl (by decide) (r_ldN_b (cs' := [Value.int .i64 (y62.1.f_Kind), Value.int .i64 (y62.1.f_N), v66, v68]) rfl ag_25 ti_25 (hS.ev_ rfl) rfl (Rd.of hM)) fun a hS => ?_
                  replace hM := hM.pull 1 rfl rfl
                  refine st_want hS rfl rfl rfl rfl rfl (by decide) (r_ldN_b (cs' := [Value.int .i64 (p1.f_Kind), Value.int .i64 (p1.f_N), v2, v4]) rfl ag_25 ti_25 (hS.ev_ rfl) rfl (Rd.of hM)) fun a hS => ?_
                  obtain ⟨y76, h77, h74⟩ := bindO h74
                  have hc79 := raw_Same_c hG h77 f67 f69 (Kd.sl_mono ((((((hlK11.trans hlK16).trans hlK24).trans hlK32).trans hlK51).trans hlK60).trans hlK64) f3) (Kd.sl_mono ((((((hlK11.trans hlK16).trans hlK24).trans hlK32).trans hlK51).trans hlK60).trans hlK64) f5) hM
                  refine g_want hS rfl rfl rfl rfl (e_call rfl Tryd.func12 rfl rfl (args2 (hS.ev_ rfl) (hS.ev_ rfl)) hc79 ?_)
                  rintro _ w ⟨K78, hlK78, hM, rfl⟩
                  refine ⟨_, rfl, ?_⟩
                  refine pl hS rfl (by decide) fun a hS => ?_
                  refine st_val hS rfl rfl (by decide) (r_pick_true rfl (hS.ev_ rfl) rfl (hS.ev_ rfl)) fun a hS => ?_
                  refine st_done ?_
                  replace hS : Slots 55 [] a [(54, Value.bool (y76)), (4, Value.bool (false))] := (hS.part (.cons rfl (.cons rfl (.nil _))))
                  refine x_then ?_
                  obtain rfl := Option.some.inj h74
                  exact ⟨K78, hlK78, (hS.part (.cons rfl (.cons rfl (.nil _)))), (((hM.pull 2 rfl rfl).pull 1 rfl rfl).pull 2 rfl rfl)⟩
                ·
                  replace hS := hS.known (k := 50) rfl hc75
                  refine st_off hS rfl rfl rfl rfl rfl rfl (by decide) fun a hS => ?_
                  refine st_off hS rfl rfl rfl rfl rfl rfl (by decide) fun a hS => ?_
                  refine st_off hS rfl rfl rfl rfl rfl rfl (by decide) fun a hS => ?_
                  refine st_val hS rfl rfl (by decide) (r_pick_false rfl (hS.ev_ rfl) rfl (hS.ev_ rfl)) fun a hS => ?_
                  refine st_done ?_
                  replace hS : Slots 55 [] a [(54, Value.bool (false)), (4, Value.bool (false))] := (hS.part (.cons rfl (.cons rfl (.nil _))))
                  refine x_then ?_
                  obtain rfl := Option.some.inj h74
                  exact ⟨K64, (Hp.le.refl _), (hS.part (.cons rfl (.cons rfl (.nil _)))), (((hM.pull 2 rfl rfl).pull 2 rfl rfl).pull 2 rfl rfl)⟩
              · rintro a w ⟨K72, hlK72, hS, hM⟩
                refine st_val hS rfl rfl (by decide) (r_assign rfl (hS.ev_ rfl)) fun a hS => ?_
                refine st_done ?_
                replace hS : Slots 55 [] a [(4, Value.bool (x73))] := (hS.part (.cons rfl (.nil _)))
                refine x_then ?_
                refine wp_ret ?_
                have hr' := Option.some.inj h
                subst hr'
                refine ret1 (.inr rfl) hS rfl rfl ?_
                exact ⟨K72, (((((((hlK11.trans hlK16).trans hlK24).trans hlK32).trans hlK51).trans hlK60).trans hlK64).trans hlK72), (((hM).tail).tail).tail, rfl⟩

end Go.Proofs.YthjfnknhcmhmiaaDoor
