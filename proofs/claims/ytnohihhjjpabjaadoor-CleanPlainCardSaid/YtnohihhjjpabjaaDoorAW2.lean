/-
  What the code computes: plain functions, and the walks.: the walks, part 2.
-/
import Derived.Test.YtnohihhjjpabjaaDoorAW1
set_option linter.unusedVariables false
set_option linter.unusedSimpArgs false
set_option maxRecDepth 10000
set_option maxHeartbeats 1000000
set_option synthInstance.maxHeartbeats 400000
set_option synthInstance.maxSize 2000
namespace Go.Proofs.YtnohihhjjpabjaaDoor
open Go Go.RowKit Sl

theorem clean_Cleaner_Feed_c {w0 w : World} {K : Hp} {L : List SP} {p1 : clean_Cleaner} {p5 : UInt8} {p6 : Bool} {p7 : Bool} {g2 : Nat} {v3 : Value} {r : iac_Token × Bool × clean_Cleaner} (hG : Glob w0) (h : clean_Cleaner_Feed p1 p5 p6 p7 = some r) (hM : Sat w0 w K (SP.blk g2 50 [Value.int .i64 (p1.f_tokens.f_state), Value.int .i64 (p1.f_tokens.f_token.f_Kind), Value.int .i64 (p1.f_tokens.f_token.f_Code), Value.int .i64 (p1.f_tokens.f_token.f_Option), v3, Value.bool (p1.f_tokens.f_token.f_Cut), Value.bool (p1.f_in.f_behind), Value.bool (p1.f_deaf)] :: SP.row Kd.u8 5 v3 p1.f_tokens.f_token.f_Body :: L)) :
    Calls Tryd.prog 15 #[Value.pointer (some ⟨g2, 0, none⟩), Value.int .u8 (b8 (p5)), Value.bool (p6), Value.bool (p7)] w (fun e w' => ∃ (K' : Hp) (v'1 v'2 : Value), Hp.le K K' ∧ Sat w0 w' K' (SP.blk g2 50 [Value.int .i64 (r.2.2.f_tokens.f_state), Value.int .i64 (r.2.2.f_tokens.f_token.f_Kind), Value.int .i64 (r.2.2.f_tokens.f_token.f_Code), Value.int .i64 (r.2.2.f_tokens.f_token.f_Option), v'2, Value.bool (r.2.2.f_tokens.f_token.f_Cut), Value.bool (r.2.2.f_in.f_behind), Value.bool (r.2.2.f_deaf)] :: SP.row Kd.u8 5 v'2 r.2.2.f_tokens.f_token.f_Body :: L) ∧ e = .returned (Value.tuple #[Value.agg #[Value.int .i64 (r.1.f_Kind), Value.int .i64 (r.1.f_Code), Value.int .i64 (r.1.f_Option), v'1, Value.bool (r.1.f_Cut)], Value.bool (r.2.1)]) ∧ Kd.u8.sl K' v'1 r.1.f_Body) := by
  refine enter_ (n := 41) (args := [Value.pointer (some ⟨g2, 0, none⟩), Value.int .u8 (b8 (p5)), Value.bool (p6), Value.bool (p7)]) Tryd.func15 rfl rfl (Nat.le_of_ble_eq_true rfl) fun a hS => ?_
  replace hS : Slots 41 [] a [(0, Value.pointer (some ⟨g2, 0, none⟩)), (1, Value.int .u8 (b8 (p5))), (2, Value.bool (p6)), (3, Value.bool (p7))] := hS
  unfold clean_Cleaner_Feed at h
  refine wp_seq ?_
  refine wp_region_lit ?_
  refine wl_cons rfl (e_alloc (cs := [Value.int .i64 (0), Value.int .i64 (0), Value.int .i64 (0), Value.slice none 0 0, Value.bool (false)]) hM rfl ti_30 rfl fun g8 w hM => ?_)
  refine pl hS rfl (by decide) fun a hS => ?_
  refine st_val hS rfl rfl (by decide) (r_assign rfl (hS.ev_ rfl)) fun a hS => ?_
  refine st_done ?_
  replace hS : Slots 41 [] a [(9, Value.bool (false)), (8, Value.pointer (some ⟨g8, 0, none⟩)), (0, Value.pointer (some ⟨g2, 0, none⟩)), (1, Value.int .u8 (b8 (p5))), (2, Value.bool (p6)), (3, Value.bool (p7))] := (hS.part (.cons rfl (.cons rfl (.cons rfl (.cons rfl (.cons rfl (.cons rfl (.nil _))))))))
  refine x_then ?_
  refine wp_seq ?_
  refine wp_region_lit ?_
  refine st_val hS rfl rfl (by decide) (r_move rfl (hS.ev_ rfl)) fun a hS => ?_
  refine st_val hS rfl rfl (by decide) (r_move rfl (hS.ev_ rfl)) fun a hS => ?_
  refine st_val hS rfl rfl (by decide) (r_nilCheck rfl (hS.ev_ rfl)) fun a hS => ?_
  refine st_val hS rfl rfl (by decide) (r_fld_b rfl fo_50_2 (hS.ev_ rfl)) fun a hS => ?_
  replace hM := hM.pull 1 rfl rfl
  refine st_val hS rfl rfl (by decide) (r_ld1_b rfl ag_4 (hS.ev_ rfl) rfl (Rd.of hM)) fun a hS => ?_
  refine st_val hS rfl rfl (by decide) (r_move rfl (hS.ev_ rfl)) fun a hS => ?_
  obtain ⟨x10, h11, h⟩ := bindO h
  refine wl_cut 2 (fun a w => Slots 41 [] a [(0, Value.pointer (some ⟨g2, 0, none⟩)), (1, Value.int .u8 (b8 (p5))), (3, Value.bool (p7)), (8, Value.pointer (some ⟨g8, 0, none⟩)), (9, Value.bool (false)), (12, Value.pointer (some ⟨g2, 0, none⟩)), (19, Value.bool (x10))] ∧ Sat w0 w K (SP.blk g2 50 [Value.int .i64 (p1.f_tokens.f_state), Value.int .i64 (p1.f_tokens.f_token.f_Kind), Value.int .i64 (p1.f_tokens.f_token.f_Code), Value.int .i64 (p1.f_tokens.f_token.f_Option), v3, Value.bool (p1.f_tokens.f_token.f_Cut), Value.bool (p1.f_in.f_behind), Value.bool (p1.f_deaf)] :: SP.blk g8 30 [Value.int .i64 (0), Value.int .i64 (0), Value.int .i64 (0), Value.slice none 0 0, Value.bool (false)] :: SP.row Kd.u8 5 v3 p1.f_tokens.f_token.f_Body :: L)) ?_ ?_
  ·
    skip
    rcases ifB h11 with ⟨hc12, h11⟩ | ⟨hc12, h11⟩
    ·
      replace hS := hS.known (k := 17) rfl hc12
      refine st_off hS rfl rfl rfl rfl rfl rfl (by decide) fun a hS => ?_
      refine st_val hS rfl rfl (by decide) (r_pick_true rfl (hS.ev_ rfl) rfl (hS.ev_ rfl)) fun a hS => ?_
      refine st_done ?_
      replace hS : Slots 41 [] a [(19, Value.bool (true)), (12, Value.pointer (some ⟨g2, 0, none⟩)), (9, Value.bool (false)), (8, Value.pointer (some ⟨g8, 0, none⟩)), (0, Value.pointer (some ⟨g2, 0, none⟩)), (1, Value.int .u8 (b8 (p5))), (3, Value.bool (p7))] := (hS.part (.cons rfl (.cons rfl (.cons rfl (.cons rfl (.cons rfl (.cons rfl (.cons rfl (.nil _)))))))))
      refine x_then ?_
      obtain rfl := Option.some.inj h11
      exact ⟨(hS.part (.cons rfl (.cons rfl (.cons rfl (.cons rfl (.cons rfl (.cons rfl (.cons rfl (.nil _))))))))), (((hM.pull 2 rfl rfl).pull 2 rfl rfl).pull 2 rfl rfl)⟩
    ·
      replace hS := hS.known (k := 17) rfl hc12
      refine st_want hS rfl rfl rfl rfl rfl (by decide) (r_move rfl (hS.ev_ rfl)) fun a hS => ?_
      refine st_val hS rfl rfl (by decide) (r_pick_false rfl (hS.ev_ rfl) rfl (hS.ev_ rfl)) fun a hS => ?_
      refine st_done ?_
      replace hS : Slots 41 [] a [(19, Value.bool (p6)), (12, Value.pointer (some ⟨g2, 0, none⟩)), (9, Value.bool (false)), (8, Value.pointer (some ⟨g8, 0, none⟩)), (0, Value.pointer (some ⟨g2, 0, none⟩)), (1, Value.int .u8 (b8 (p5))), (3, Value.bool (p7))] := (hS.part (.cons rfl (.cons rfl (.cons rfl (.cons rfl (.cons rfl (.cons rfl (.cons rfl (.nil _)))))))))
      refine x_then ?_
      obtain rfl := Option.some.inj h11
      exact ⟨(hS.part (.cons rfl (.cons rfl (.cons rfl (.cons rfl (.cons rfl (.cons rfl (.cons rfl (.nil _))))))))), (((hM.pull 2 rfl rfl).pull 2 rfl rfl).pull 2 rfl rfl)⟩
  · rintro a w ⟨hS, hM⟩
    refine st_val hS rfl rfl (by decide) (r_nilCheck rfl (hS.ev_ rfl)) fun a hS => ?_
    refine st_val hS rfl rfl (by decide) (r_fld_b rfl fo_50_2 (hS.ev_ rfl)) fun a hS => ?_
    refine wl_cons rfl (e_store1 hM rfl ti_4 (hS.ev_ rfl) (hS.ev_ rfl) rfl (Nat.lt_of_lt_of_le (Nat.le_of_ble_eq_true rfl) (Nat.le_refl _)) fun w hM => ?_)
    have hM : Sat w0 w K (SP.blk g2 50 [Value.int .i64 (p1.f_tokens.f_state), Value.int .i64 (p1.f_tokens.f_token.f_Kind), Value.int .i64 (p1.f_tokens.f_token.f_Code), Value.int .i64 (p1.f_tokens.f_token.f_Option), v3, Value.bool (p1.f_tokens.f_token.f_Cut), Value.bool (p1.f_in.f_behind), Value.bool (x10)] :: SP.blk g8 30 [Value.int .i64 (0), Value.int .i64 (0), Value.int .i64 (0), Value.slice none 0 0, Value.bool (false)] :: SP.row Kd.u8 5 v3 p1.f_tokens.f_token.f_Body :: L) := hM
    refine pl0 hS rfl fun a hS => ?_
    refine st_done ?_
    replace hS : Slots 41 [] a [(0, Value.pointer (some ⟨g2, 0, none⟩)), (1, Value.int .u8 (b8 (p5))), (3, Value.bool (p7)), (8, Value.pointer (some ⟨g8, 0, none⟩)), (9, Value.bool (false))] := (hS.part (.cons rfl (.cons rfl (.cons rfl (.cons rfl (.cons rfl (.nil _)))))))
    refine x_then ?_
    refine wp_seq ?_
    refine wp_region_lit ?_
    refine st_val hS rfl rfl (by decide) (r_move rfl (hS.ev_ rfl)) fun a hS => ?_
    refine st_val hS rfl rfl (by decide) (r_nilCheck rfl (hS.ev_ rfl)) fun a hS => ?_
    refine st_val hS rfl rfl (by decide) (r_fld_b rfl fo_50_0 (hS.ev_ rfl)) fun a hS => ?_
    refine st_val hS rfl rfl (by decide) (r_move rfl (hS.ev_ rfl)) fun a hS => ?_
    obtain ⟨y13, h14, h⟩ := bindO h
    replace hM := hM.pull 2 rfl rfl
    replace hM := hM.pull 1 rfl rfl
    have hc16 := iac_Tokens_Feed_c_v0_50_0 hG h14 hM
    refine wl_cons rfl (e_call rfl Tryd.func12 rfl rfl (args2 (hS.ev_ rfl) (hS.ev_ rfl)) hc16 ?_)
    rintro _ w ⟨K15, v17, v19, hlK15, hM, rfl, f18⟩
    refine ⟨_, rfl, ?_⟩
    refine pl hS rfl (by decide) fun a hS => ?_
    refine st_val hS rfl rfl (by decide) (r_move rfl (hS.ev_ rfl)) fun a hS => ?_
    refine st_val hS rfl rfl (by decide) (r_extract rfl (hS.ev_ rfl) rfl) fun a hS => ?_
    refine st_val hS rfl rfl (by decide) (r_extract rfl (hS.ev_ rfl) rfl) fun a hS => ?_
    refine wl_cons rfl (e_alloc (cs := [Value.int .i64 (0), Value.int .i64 (0), Value.int .i64 (0), Value.slice none 0 0, Value.bool (false)]) hM rfl ti_30 rfl fun g21 w hM => ?_)
    refine pl hS rfl (by decide) fun a hS => ?_
    refine wl_cons rfl (e_storeN (vs := [Value.int .i64 (y13.1.f_Kind), Value.int .i64 (y13.1.f_Code), Value.int .i64 (y13.1.f_Option), v17, Value.bool (y13.1.f_Cut)]) hM rfl ti_30 (hS.ev_ rfl) (hS.ev_ rfl) (ones_cons rfl (ones_cons rfl (ones_cons rfl (ones_cons (sl_one f18) (ones_cons rfl ones_nil))))) (Nat.le_of_ble_eq_true rfl) fun w hM => ?_)
    have hM : Sat w0 w K15 (SP.blk g21 30 [Value.int .i64 (y13.1.f_Kind), Value.int .i64 (y13.1.f_Code), Value.int .i64 (y13.1.f_Option), v17, Value.bool (y13.1.f_Cut)] :: SP.blk g2 50 [Value.int .i64 (y13.2.2.f_state), Value.int .i64 (y13.2.2.f_token.f_Kind), Value.int .i64 (y13.2.2.f_token.f_Code), Value.int .i64 (y13.2.2.f_token.f_Option), v19, Value.bool (y13.2.2.f_token.f_Cut), Value.bool (p1.f_in.f_behind), Value.bool (x10)] :: SP.row Kd.u8 5 v19 y13.2.2.f_token.f_Body :: SP.blk g8 30 [Value.int .i64 (0), Value.int .i64 (0), Value.int .i64 (0), Value.slice none 0 0, Value.bool (false)] :: L) := hM
    refine pl0 hS rfl fun a hS => ?_
    refine st_val hS rfl rfl (by decide) (r_assign rfl (hS.ev_ rfl)) fun a hS => ?_
    refine st_done ?_
    replace hS : Slots 41 [] a [(11, Value.bool (y13.2.1)), (10, Value.pointer (some ⟨g21, 0, none⟩)), (0, Value.pointer (some ⟨g2, 0, none⟩)), (3, Value.bool (p7)), (8, Value.pointer (some ⟨g8, 0, none⟩)), (9, Value.bool (false))] := (hS.part (.cons rfl (.cons rfl (.cons rfl (.cons rfl (.cons rfl (.cons rfl (.nil _))))))))
    refine x_then ?_
    refine wp_seq ?_
    refine wp_seq ?_
    refine wp_region_lit ?_
    refine st_val hS rfl rfl (by decide) (r_move rfl (hS.ev_ rfl)) fun a hS => ?_
    refine st_val hS rfl rfl (by decide) (r_not rfl (hS.ev_ rfl)) fun a hS => ?_
    refine st_val hS rfl rfl (by decide) (r_move rfl (hS.ev_ rfl)) fun a hS => ?_
    obtain ⟨x24, h25, h⟩ := bindO h
    refine wl_cut 6 (fun a w => ∃ (K23 : Hp) (v26 : Value), Hp.le K15 K23 ∧ Slots 41 [] a [(8, Value.pointer (some ⟨g8, 0, none⟩)), (9, Value.bool (false)), (10, Value.pointer (some ⟨g21, 0, none⟩)), (38, Value.bool (x24.1))] ∧ Sat w0 w K23 (SP.blk g21 30 [Value.int .i64 (y13.1.f_Kind), Value.int .i64 (y13.1.f_Code), Value.int .i64 (y13.1.f_Option), v17, Value.bool (y13.1.f_Cut)] :: SP.blk g2 50 [Value.int .i64 (x24.2.1), Value.int .i64 (x24.2.2.1), Value.int .i64 (x24.2.2.2.1), Value.int .i64 (x24.2.2.2.2.1), v26, Value.bool (x24.2.2.2.2.2.1), Value.bool (x24.2.2.2.2.2.2.1), Value.bool (x24.2.2.2.2.2.2.2.1)] :: SP.row Kd.u8 5 v26 x24.2.2.2.2.2.2.2.2 :: SP.blk g8 30 [Value.int .i64 (0), Value.int .i64 (0), Value.int .i64 (0), Value.slice none 0 0, Value.bool (false)] :: L)) ?_ ?_
    ·
      skip
      rcases ifB h25 with ⟨hc27, h25⟩ | ⟨hc27, h25⟩
      ·
        replace hS := hS.known (k := 32) rfl hc27
        refine st_off hS rfl rfl rfl rfl rfl rfl (by decide) fun a hS => ?_
        refine st_off hS rfl rfl rfl rfl rfl rfl (by decide) fun a hS => ?_
        refine st_off hS rfl rfl rfl rfl rfl rfl (by decide) fun a hS => ?_
        refine st_off hS rfl rfl rfl rfl rfl rfl (by decide) fun a hS => ?_
        refine st_off hS rfl rfl rfl rfl rfl rfl (by decide) fun a hS => ?_
        refine st_val hS rfl rfl (by decide) (r_pick_true rfl (hS.ev_ rfl) rfl (hS.ev_ rfl)) fun a hS => ?_
        refine st_done ?_
        replace hS : Slots 41 [] a [(38, Value.bool (true)), (10, Value.pointer (some ⟨g21, 0, none⟩)), (8, Value.pointer (some ⟨g8, 0, none⟩)), (9, Value.bool (false))] := (hS.part (.cons rfl (.cons rfl (.cons rfl (.cons rfl (.nil _))))))
        refine x_then ?_
        obtain rfl := Option.some.inj h25
        exact ⟨K15, (v19), (Hp.le.refl _), (hS.part (.cons rfl (.cons rfl (.cons rfl (.cons rfl (.nil _)))))), ((((hM.pull 3 rfl rfl).pull 3 rfl rfl).pull 3 rfl rfl).pull 3 rfl rfl)⟩
      ·
        replace hS := hS.known (k := 32) rfl hc27
        refine st_want hS rfl rfl rfl rfl rfl (by decide) (r_move rfl (hS.ev_ rfl)) fun a hS => ?_
        refine st_want hS rfl rfl rfl rfl rfl (by decide) (r_ldN_b (cs' := [Value.int .i64 (y13.1.f_Kind), Value.int .i64 (y13.1.f_Code), Value.int .i64 (y13.1.f_Option), v17, Value.bool (y13.1.f_Cut)]) rfl ag_30 ti_30 (hS.ev_ rfl) rfl (Rd.of hM)) fun a hS => ?_
        refine st_want hS rfl rfl rfl rfl rfl (by decide) (r_move rfl (hS.ev_ rfl)) fun a hS => ?_
        obtain ⟨y28, h29, h25⟩ := bindO h25
        replace hM := hM.pull 2 rfl rfl
        replace hM := hM.pull 2 rfl rfl
        have hc31 := clean_Cleaner_stays_c hG h29 f18 hM
        refine g_want hS rfl rfl rfl rfl (e_call rfl Tryd.func22 rfl rfl (args3 (hS.ev_ rfl) (hS.ev_ rfl) (hS.ev_ rfl)) hc31 ?_)
        rintro _ w ⟨K30, v32, hlK30, hM, rfl⟩
        refine ⟨_, rfl, ?_⟩
        refine pl hS rfl (by decide) fun a hS => ?_
        refine st_want hS rfl rfl rfl rfl rfl (by decide) (r_not rfl (hS.ev_ rfl)) fun a hS => ?_
        refine st_val hS rfl rfl (by decide) (r_pick_false rfl (hS.ev_ rfl) rfl (hS.ev_ rfl)) fun a hS => ?_
        refine st_done ?_
        replace hS : Slots 41 [] a [(38, Value.bool (!y28.1)), (10, Value.pointer (some ⟨g21, 0, none⟩)), (8, Value.pointer (some ⟨g8, 0, none⟩)), (9, Value.bool (false))] := (hS.part (.cons rfl (.cons rfl (.cons rfl (.cons rfl (.nil _))))))
        refine x_then ?_
        obtain rfl := Option.some.inj h25
        exact ⟨K30, (v32), hlK30, (hS.part (.cons rfl (.cons rfl (.cons rfl (.cons rfl (.nil _)))))), ((((hM.pull 3 rfl rfl).pull 2 rfl rfl).pull 2 rfl rfl).pull 3 rfl rfl)⟩
    · rintro a w ⟨K23, v26, hlK23, hS, hM⟩
      refine st_done ?_
      replace hS : Slots 41 [] a [(8, Value.pointer (some ⟨g8, 0, none⟩)), (9, Value.bool (false)), (10, Value.pointer (some ⟨g21, 0, none⟩)), (38, Value.bool (x24.1))] := (hS.part (.cons rfl (.cons rfl (.cons rfl (.cons rfl (.nil _))))))
      refine x_then ?_
      rcases ifB h with ⟨hc34, h⟩ | ⟨hc34, h⟩
      · refine c_cond_true (hS.ev_ rfl) hc34 ?_
        refine wp_seq ?_
        refine wp_region_lit ?_
        refine st_val hS rfl rfl (by decide) (r_build (cs := [Value.int .i64 (0), Value.int .i64 (0), Value.int .i64 (0), Value.slice none 0 0, Value.bool (false)]) rfl (parts_ev hS rfl) (by kernel_rfl)) fun a hS => ?_
        replace hM := hM.pull 3 rfl rfl
        refine wl_cons rfl (e_storeN (vs := [Value.int .i64 (0), Value.int .i64 (0), Value.int .i64 (0), Value.slice none 0 0, Value.bool (false)]) hM rfl ti_30 (hS.ev_ rfl) (hS.ev_ rfl) (ones_cons rfl (ones_cons rfl (ones_cons rfl (ones_cons rfl (ones_cons rfl ones_nil))))) (Nat.le_of_ble_eq_true rfl) fun w hM => ?_)
        have hM : Sat w0 w K23 (SP.blk g8 30 [Value.int .i64 (0), Value.int .i64 (0), Value.int .i64 (0), Value.slice none 0 0, Value.bool (false)] :: SP.blk g21 30 [Value.int .i64 (y13.1.f_Kind), Value.int .i64 (y13.1.f_Code), Value.int .i64 (y13.1.f_Option), v17, Value.bool (y13.1.f_Cut)] :: SP.blk g2 50 [Value.int .i64 (x24.2.1), Value.int .i64 (x24.2.2.1), Value.int .i64 (x24.2.2.2.1), Value.int .i64 (x24.2.2.2.2.1), v26, Value.bool (x24.2.2.2.2.2.1), Value.bool (x24.2.2.2.2.2.2.1), Value.bool (x24.2.2.2.2.2.2.2.1)] :: SP.row Kd.u8 5 v26 x24.2.2.2.2.2.2.2.2 :: L) := hM
        refine pl0 hS rfl fun a hS => ?_
        refine st_val hS rfl rfl (by decide) (r_assign rfl (hS.ev_ rfl)) fun a hS => ?_
        refine st_done ?_
        replace hS : Slots 41 [] a [(9, Value.bool (false)), (8, Value.pointer (some ⟨g8, 0, none⟩)), (10, Value.pointer (some ⟨g21, 0, none⟩))] := (hS.part (.cons rfl (.cons rfl (.cons rfl (.nil _)))))
        refine x_then ?_
        refine wp_ret ?_
        refine x_then_ret ?_
        have hr' := Option.some.inj h
        subst hr'
        refine retR2 (.inr rfl) hS rfl ⟨_, rfl, lv_N (cs' := [Value.int .i64 (0), Value.int .i64 (0), Value.int .i64 (0), Value.slice none 0 0, Value.bool (false)]) hM ag_30 ti_30 rfl⟩ (show Sl.look _ _ = some (Value.bool (false)) from rfl) ?_
        exact ⟨K23, (Value.slice none 0 0), (v26), (hlK15.trans hlK23), ((((hM).tail).tail.pull 1 rfl rfl).pull 1 rfl rfl), rfl, (Kd.sl_nil _ _)⟩
      · refine c_cond_false (hS.ev_ rfl) hc34 ?_
        refine wp_skip ?_
        refine x_then ?_
        refine wp_seq ?_
        refine wp_region_lit ?_
        refine st_val hS rfl rfl (by decide) (r_ldN_b (cs' := [Value.int .i64 (y13.1.f_Kind), Value.int .i64 (y13.1.f_Code), Value.int .i64 (y13.1.f_Option), v17, Value.bool (y13.1.f_Cut)]) rfl ag_30 ti_30 (hS.ev_ rfl) rfl (Rd.of hM)) fun a hS => ?_
        replace hM := hM.pull 3 rfl rfl
        refine wl_cons rfl (e_storeN (vs := [Value.int .i64 (y13.1.f_Kind), Value.int .i64 (y13.1.f_Code), Value.int .i64 (y13.1.f_Option), v17, Value.bool (y13.1.f_Cut)]) hM rfl ti_30 (hS.ev_ rfl) (hS.ev_ rfl) (ones_cons rfl (ones_cons rfl (ones_cons rfl (ones_cons (sl_one f18) (ones_cons rfl ones_nil))))) (Nat.le_of_ble_eq_true rfl) fun w hM => ?_)
        have hM : Sat w0 w K23 (SP.blk g8 30 [Value.int .i64 (y13.1.f_Kind), Value.int .i64 (y13.1.f_Code), Value.int .i64 (y13.1.f_Option), v17, Value.bool (y13.1.f_Cut)] :: SP.blk g21 30 [Value.int .i64 (y13.1.f_Kind), Value.int .i64 (y13.1.f_Code), Value.int .i64 (y13.1.f_Option), v17, Value.bool (y13.1.f_Cut)] :: SP.blk g2 50 [Value.int .i64 (x24.2.1), Value.int .i64 (x24.2.2.1), Value.int .i64 (x24.2.2.2.1), Value.int .i64 (x24.2.2.2.2.1), v26, Value.bool (x24.2.2.2.2.2.1), Value.bool (x24.2.2.2.2.2.2.1), Value.bool (x24.2.2.2.2.2.2.2.1)] :: SP.row Kd.u8 5 v26 x24.2.2.2.2.2.2.2.2 :: L) := hM
        refine pl0 hS rfl fun a hS => ?_
        refine st_val hS rfl rfl (by decide) (r_assign rfl (hS.ev_ rfl)) fun a hS => ?_
        refine st_done ?_
        replace hS : Slots 41 [] a [(9, Value.bool (true)), (8, Value.pointer (some ⟨g8, 0, none⟩))] := (hS.part (.cons rfl (.cons rfl (.nil _))))
        refine x_then ?_
        refine wp_ret ?_
        have hr' := Option.some.inj h
        subst hr'
        refine retR2 (.inr rfl) hS rfl ⟨_, rfl, lv_N (cs' := [Value.int .i64 (y13.1.f_Kind), Value.int .i64 (y13.1.f_Code), Value.int .i64 (y13.1.f_Option), v17, Value.bool (y13.1.f_Cut)]) hM ag_30 ti_30 rfl⟩ (show Sl.look _ _ = some (Value.bool (true)) from rfl) ?_
        exact ⟨K23, (v17), (v26), (hlK15.trans hlK23), ((((hM).tail).tail.pull 1 rfl rfl).pull 1 rfl rfl), rfl, (Kd.sl_mono hlK23 f18)⟩

theorem clean_All_c {w0 w : World} {K : Hp} {L : List SP} {p1 : List UInt8} {p4 : List Int} {p7 : Bool} {v2 : Value} {v5 : Value} {r : List iac_Token} (hG : Glob w0) (h : clean_All p1 p4 p7 = some r) (f3 : Kd.u8.sl K v2 p1) (f6 : (Kd.int .i64).sl K v5 p4) (hM : Sat w0 w K (L)) :
    Calls Tryd.prog 6 #[v2, v5, Value.bool (p7)] w (fun e w' => ∃ (K' : Hp) (v'1 : Value), Hp.le K K' ∧ Sat w0 w' K' (L) ∧ e = .returned (v'1) ∧ kiac_Token.sl K' v'1 r) := by
  refine enter_ (n := 39) (args := [v2, v5, Value.bool (p7)]) Tryd.func6 rfl rfl (Nat.le_of_ble_eq_true rfl) fun a hS => ?_
  replace hS : Slots 39 [] a [(0, v2), (1, v5), (2, Value.bool (p7))] := hS
  unfold clean_All at h
  refine wp_seq ?_
  refine wp_region_lit ?_
  refine st_val hS rfl rfl (by decide) (r_assign rfl (hS.ev_ rfl)) fun a hS => ?_
  refine st_done ?_
  replace hS : Slots 39 [] a [(6, Value.slice none 0 0), (0, v2), (1, v5), (2, Value.bool (p7))] := (hS.part (.cons rfl (.cons rfl (.cons rfl (.cons rfl (.nil _))))))
  refine x_then ?_
  refine wp_seq ?_
  refine wp_region_lit ?_
  refine st_val hS rfl rfl (by decide) (r_build (cs := [Value.int .i64 (0), Value.int .i64 (0), Value.int .i64 (0), Value.int .i64 (0), Value.slice none 0 0, Value.bool (false), Value.bool (false), Value.bool (false)]) rfl (parts_ev hS rfl) (by kernel_rfl)) fun a hS => ?_
  replace hM := hM.row_nil Kd.u8 5
  refine wl_cons rfl (e_box (cs := [Value.int .i64 (0), Value.int .i64 (0), Value.int .i64 (0), Value.int .i64 (0), (Value.slice none 0 0), Value.bool (false), Value.bool (false), Value.bool (false)]) hM rfl (hS.ev_ rfl) rfl fun g8 w hM => ?_)
  refine pl hS rfl (by decide) fun a hS => ?_
  refine st_val hS rfl rfl (by decide) (r_assign rfl (hS.ev_ rfl)) fun a hS => ?_
  refine st_done ?_
  replace hS : Slots 39 [] a [(7, Value.pointer (some ⟨g8, 0, none⟩)), (6, Value.slice none 0 0), (0, v2), (1, v5), (2, Value.bool (p7))] := (hS.part (.cons rfl (.cons rfl (.cons rfl (.cons rfl (.cons rfl (.nil _)))))))
  refine x_then ?_
  refine wp_seq ?_
  refine wp_region_lit ?_
  refine st_val hS rfl rfl (by decide) (r_assign rfl (hS.ev_ rfl)) fun a hS => ?_
  replace hM := hM.row_nil kiac_Token 30
  refine st_done ?_
  replace hS : Slots 39 [] a [(8, (Value.slice none 0 0)), (7, Value.pointer (some ⟨g8, 0, none⟩)), (6, Value.slice none 0 0), (0, v2), (1, v5), (2, Value.bool (p7))] := (hS.part (.cons rfl (.cons rfl (.cons rfl (.cons rfl (.cons rfl (.cons rfl (.nil _))))))))
  refine x_then ?_
  refine wp_seq ?_
  refine wp_seq ?_
  refine wp_region_lit ?_
  refine st_val hS rfl rfl (by decide) (r_move rfl (hS.ev_ rfl)) fun a hS => ?_
  refine st_val hS rfl rfl (by decide) (r_len_sl rfl un_22 (hS.ev_ rfl) f3) fun a hS => ?_
  refine st_val hS rfl rfl (by decide) (r_move rfl (hS.ev_ rfl)) fun a hS => ?_
  refine st_done ?_
  replace hS : Slots 39 [] a [(17, Value.int .i64 (0)), (16, Value.int .i64 ((p1.length : Int))), (15, v2), (8, (Value.slice none 0 0)), (7, Value.pointer (some ⟨g8, 0, none⟩)), (6, Value.slice none 0 0), (1, v5), (2, Value.bool (p7))] := (hS.part (.cons rfl (.cons rfl (.cons rfl (.cons rfl (.cons rfl (.cons rfl (.cons rfl (.cons rfl (.nil _))))))))))
  refine x_then ?_
  refine wp_block ?_
  obtain ⟨o21, h22, h⟩ := bindO h
  refine c_loop_ways (fun e a w => (e = .exit 0 ∧ ∃ (K23 : Hp) (v24 v25 : Value), Hp.le K K23 ∧ Slots 39 [] a [(6, Value.slice none 0 0), (8, v24)] ∧ Sat w0 w K23 (SP.row kiac_Token 30 v24 o21.1 :: SP.blk g8 50 [Value.int .i64 (o21.2.1), Value.int .i64 (o21.2.2.1), Value.int .i64 (o21.2.2.2.1), Value.int .i64 (o21.2.2.2.2.1), v25, Value.bool (o21.2.2.2.2.2.1), Value.bool (o21.2.2.2.2.2.2.1), Value.bool (o21.2.2.2.2.2.2.2.1)] :: SP.row Kd.u8 5 v25 o21.2.2.2.2.2.2.2.2 :: L))) ?_ ?_
  · intro c Q hc hQ
    have key : ∀ (z18 : Int × (List iac_Token) × Int × Int × Int × Int × Bool × Bool × Bool × (List UInt8)) (r' : (List iac_Token) × Int × Int × Int × Int × Bool × Bool × Bool × (List UInt8)), clean_All_l1 p1 p4 p7 z18 = some r' → r' = o21 → ∀ (K17 : Hp) (v19 v20 : Value) (a : Act) (w : World), Hp.le K K17 → Slots 39 [] a [(17, Value.int .i64 (z18.1)), (16, Value.int .i64 ((p1.length : Int))), (15, v2), (7, Value.pointer (some ⟨g8, 0, none⟩)), (6, Value.slice none 0 0), (1, v5), (2, Value.bool (p7)), (8, v19)] → Sat w0 w K17 (SP.row kiac_Token 30 v19 z18.2.1 :: SP.blk g8 50 [Value.int .i64 (z18.2.2.1), Value.int .i64 (z18.2.2.2.1), Value.int .i64 (z18.2.2.2.2.1), Value.int .i64 (z18.2.2.2.2.2.1), v20, Value.bool (z18.2.2.2.2.2.2.1), Value.bool (z18.2.2.2.2.2.2.2.1), Value.bool (z18.2.2.2.2.2.2.2.2.1)] :: SP.row Kd.u8 5 v20 z18.2.2.2.2.2.2.2.2.2 :: L) → Rnd Tryd.prog c Q a w := by
      refine clean_All_l1.partial_correctness p1 p4 p7 _ ?_
      intro clean_All_l1_rec ih z18 r' h hr K17 v19 v20 a w hlK17 hS hM 
      subst hc
      refine c_round ?_
      refine wp_seq ?_
      refine wp_region_lit ?_
      refine st_val hS rfl rfl (by decide) (r_cmp rfl (hS.ev_ rfl) (hS.ev_ rfl) rfl) fun a hS => ?_
      refine st_done ?_
      replace hS : Slots 39 [] a [(18, Value.bool (decide (z18.1 < ((p1.length : Int))))), (17, Value.int .i64 (z18.1)), (16, Value.int .i64 ((p1.length : Int))), (15, v2), (7, Value.pointer (some ⟨g8, 0, none⟩)), (6, Value.slice none 0 0), (1, v5), (2, Value.bool (p7)), (8, v19)] := (hS.part (.cons rfl (.cons rfl (.cons rfl (.cons rfl (.cons rfl (.cons rfl (.cons rfl (.cons rfl (.cons rfl (.nil _)))))))))))
      refine x_then ?_
      refine wp_seq ?_
      rcases ifB h with ⟨hc26, h⟩ | ⟨hc26, h⟩
      · refine c_cond_true (hS.ev_ rfl) hc26 ?_
        refine wp_skip ?_
        refine x_then ?_
        obtain ⟨x28, h29, h⟩ := bindO h
        refine c_cut (fun a w => ∃ (K27 : Hp) (v30 v31 : Value), Hp.le K17 K27 ∧ Slots 39 [] a [(1, v5), (2, Value.bool (p7)), (6, Value.slice none 0 0), (7, Value.pointer (some ⟨g8, 0, none⟩)), (15, v2), (16, Value.int .i64 ((p1.length : Int))), (17, Value.int .i64 (z18.1)), (8, v30)] ∧ Sat w0 w K27 (SP.row kiac_Token 30 v30 x28.1 :: SP.blk g8 50 [Value.int .i64 (x28.2.1), Value.int .i64 (x28.2.2.1), Value.int .i64 (x28.2.2.2.1), Value.int .i64 (x28.2.2.2.2.1), v31, Value.bool (x28.2.2.2.2.2.1), Value.bool (x28.2.2.2.2.2.2.1), Value.bool (x28.2.2.2.2.2.2.2.1)] :: SP.row Kd.u8 5 v31 x28.2.2.2.2.2.2.2.2 :: L)) ?_ ?_
        ·
          refine wp_block ?_
          refine wp_seq ?_
          refine wp_region_lit ?_
          refine st_val hS rfl rfl (by decide) (r_move rfl (hS.ev_ rfl)) fun a hS => ?_
          obtain ⟨e32, h33, h29⟩ := bindO h29
          obtain ⟨ad34, cp35, cs36, hv37, hr38, h0_39, h1_40, hq41⟩ := sl_at f3 h33 (by decide)
          obtain rfl := hr38
          refine st_val hS rfl rfl (by decide) (r_idx_sl rfl un_22 ti_5 (hS.ev_ rfl) hv37 (hS.ev_ rfl) h0_39 h1_40) fun a hS => ?_
          refine st_val hS rfl rfl (by decide) (r_ld1_k rfl ag_5 (hS.ev_ rfl) hq41 rfl (Rd.up hlK17 hM.nil_)) fun a hS => ?_
          refine st_val hS rfl rfl (by decide) (r_assign rfl (hS.ev_ rfl)) fun a hS => ?_
          refine st_val hS rfl rfl (by decide) (r_assign rfl (hS.ev_ rfl)) fun a hS => ?_
          refine st_done ?_
          replace hS : Slots 39 [] a [(10, Value.int .u8 (b8 (e32))), (9, Value.int .i64 (z18.1)), (17, Value.int .i64 (z18.1)), (16, Value.int .i64 ((p1.length : Int))), (15, v2), (7, Value.pointer (some ⟨g8, 0, none⟩)), (6, Value.slice none 0 0), (1, v5), (2, Value.bool (p7)), (8, v19)] := (hS.part (.cons rfl (.cons rfl (.cons rfl (.cons rfl (.cons rfl (.cons rfl (.cons rfl (.cons rfl (.cons rfl (.cons rfl (.nil _))))))))))))
          refine x_then ?_
          refine wp_seq ?_
          refine wp_region_lit ?_
          refine st_val hS rfl rfl (by decide) (r_move rfl (hS.ev_ rfl)) fun a hS => ?_
          refine st_val hS rfl rfl (by decide) (r_move rfl (hS.ev_ rfl)) fun a hS => ?_
          refine st_val hS rfl rfl (by decide) (r_move rfl (hS.ev_ rfl)) fun a hS => ?_
          refine st_val hS rfl rfl (by decide) (r_move rfl (hS.ev_ rfl)) fun a hS => ?_
          obtain ⟨y42, h43, h29⟩ := bindO h29
          have hc45 := slices_Contains_int_int_c hG h43 (Kd.sl_mono hlK17 f6) hM
          refine wl_cons rfl (e_call rfl Tryd.func16 rfl rfl (args2 (hS.ev_ rfl) (hS.ev_ rfl)) hc45 ?_)
          rintro _ w ⟨K44, hlK44, hM, rfl⟩
          refine ⟨_, rfl, ?_⟩
          refine pl hS rfl (by decide) fun a hS => ?_
          refine st_val hS rfl rfl (by decide) (r_move rfl (hS.ev_ rfl)) fun a hS => ?_
          obtain ⟨y46, h47, h29⟩ := bindO h29
          replace hM := hM.pull 2 rfl rfl
          replace hM := hM.pull 2 rfl rfl
          have hc49 := clean_Cleaner_Feed_c hG h47 hM
          refine wl_cons rfl (e_call rfl Tryd.func15 rfl rfl (args4 (hS.ev_ rfl) (hS.ev_ rfl) (hS.ev_ rfl) (hS.ev_ rfl)) hc49 ?_)
          rintro _ w ⟨K48, v50, v52, hlK48, hM, rfl, f51⟩
          refine ⟨_, rfl, ?_⟩
          refine pl hS rfl (by decide) fun a hS => ?_
          refine st_val hS rfl rfl (by decide) (r_move rfl (hS.ev_ rfl)) fun a hS => ?_
          refine st_val hS rfl rfl (by decide) (r_extract rfl (hS.ev_ rfl) rfl) fun a hS => ?_
          refine st_val hS rfl rfl (by decide) (r_extract rfl (hS.ev_ rfl) rfl) fun a hS => ?_
          refine wl_cons rfl (e_alloc (cs := [Value.int .i64 (0), Value.int .i64 (0), Value.int .i64 (0), Value.slice none 0 0, Value.bool (false)]) hM rfl ti_30 rfl fun g54 w hM => ?_)
          refine pl hS rfl (by decide) fun a hS => ?_
          refine wl_cons rfl (e_storeN (vs := [Value.int .i64 (y46.1.f_Kind), Value.int .i64 (y46.1.f_Code), Value.int .i64 (y46.1.f_Option), v50, Value.bool (y46.1.f_Cut)]) hM rfl ti_30 (hS.ev_ rfl) (hS.ev_ rfl) (ones_cons rfl (ones_cons rfl (ones_cons rfl (ones_cons (sl_one f51) (ones_cons rfl ones_nil))))) (Nat.le_of_ble_eq_true rfl) fun w hM => ?_)
          have hM : Sat w0 w K48 (SP.blk g54 30 [Value.int .i64 (y46.1.f_Kind), Value.int .i64 (y46.1.f_Code), Value.int .i64 (y46.1.f_Option), v50, Value.bool (y46.1.f_Cut)] :: SP.blk g8 50 [Value.int .i64 (y46.2.2.f_tokens.f_state), Value.int .i64 (y46.2.2.f_tokens.f_token.f_Kind), Value.int .i64 (y46.2.2.f_tokens.f_token.f_Code), Value.int .i64 (y46.2.2.f_tokens.f_token.f_Option), v52, Value.bool (y46.2.2.f_tokens.f_token.f_Cut), Value.bool (y46.2.2.f_in.f_behind), Value.bool (y46.2.2.f_deaf)] :: SP.row Kd.u8 5 v52 y46.2.2.f_tokens.f_token.f_Body :: SP.row kiac_Token 30 v19 z18.2.1 :: L) := hM
          refine pl0 hS rfl fun a hS => ?_
          refine st_val hS rfl rfl (by decide) (r_assign rfl (hS.ev_ rfl)) fun a hS => ?_
          refine st_done ?_
          replace hS : Slots 39 [] a [(12, Value.bool (y46.2.1)), (11, Value.pointer (some ⟨g54, 0, none⟩)), (17, Value.int .i64 (z18.1)), (16, Value.int .i64 ((p1.length : Int))), (15, v2), (7, Value.pointer (some ⟨g8, 0, none⟩)), (6, Value.slice none 0 0), (1, v5), (2, Value.bool (p7)), (8, v19)] := (hS.part (.cons rfl (.cons rfl (.cons rfl (.cons rfl (.cons rfl (.cons rfl (.cons rfl (.cons rfl (.cons rfl (.cons rfl (.nil _))))))))))))
          refine x_then ?_
          refine wp_seq ?_
          refine wp_region_lit ?_
          refine st_val hS rfl rfl (by decide) (r_move rfl (hS.ev_ rfl)) fun a hS => ?_
          refine st_done ?_
          replace hS : Slots 39 [] a [(32, Value.bool (y46.2.1)), (11, Value.pointer (some ⟨g54, 0, none⟩)), (17, Value.int .i64 (z18.1)), (16, Value.int .i64 ((p1.length : Int))), (15, v2), (7, Value.pointer (some ⟨g8, 0, none⟩)), (6, Value.slice none 0 0), (1, v5), (2, Value.bool (p7)), (8, v19)] := (hS.part (.cons rfl (.cons rfl (.cons rfl (.cons rfl (.cons rfl (.cons rfl (.cons rfl (.cons rfl (.cons rfl (.cons rfl (.nil _))))))))))))
          refine x_then ?_
          rcases ifB h29 with ⟨hc56, h29⟩ | ⟨hc56, h29⟩
          · refine c_cond_true (hS.ev_ rfl) hc56 ?_
            refine wp_region_lit ?_
            refine st_val hS rfl rfl (by decide) (r_move rfl (hS.ev_ rfl)) fun a hS => ?_
            refine st_val hS rfl rfl (by decide) (r_ldN_b (cs' := [Value.int .i64 (y46.1.f_Kind), Value.int .i64 (y46.1.f_Code), Value.int .i64 (y46.1.f_Option), v50, Value.bool (y46.1.f_Cut)]) rfl ag_30 ti_30 (hS.ev_ rfl) rfl (Rd.of hM)) fun a hS => ?_
            refine wl_cons rfl (e_litK (d := kiac_Token) (e := 30) (cs := [Value.int .i64 (y46.1.f_Kind), Value.int .i64 (y46.1.f_Code), Value.int .i64 (y46.1.f_Option), v50, Value.bool (y46.1.f_Cut)]) (xs := [(⟨y46.1.f_Kind, y46.1.f_Code, y46.1.f_Option, y46.1.f_Body, y46.1.f_Cut⟩ : iac_Token)]) hM rfl (parts_ev hS rfl) (by obtain ⟨_, _, hvv, _⟩ := sl_val f51; rw [hvv]; clear hvv; kernel_rfl) ⟨[Value.int .i64 (y46.1.f_Kind), Value.int .i64 (y46.1.f_Code), Value.int .i64 (y46.1.f_Option), v50, Value.bool (y46.1.f_Cut)], [], rfl, (kiac_Token_shut f51), rfl⟩ rfl (by decide) fun v57 K58 w hlK58 hM f59 => ?_)
            refine pl hS rfl (by decide) fun a hS => ?_
            replace hM := hM.pull 3 rfl rfl
            obtain ⟨h60, h29⟩ := bindU h29
            refine wl_cons rfl (e_apd_sl hM rfl un_25 un_25 ti_30 rfl rfl (by decide) (hS.ev_ rfl) (hS.ev_ rfl) f59 (req_some h60) fun v61 w hM => ?_)
            refine pl hS rfl (by decide) fun a hS => ?_
            refine st_val hS rfl rfl (by decide) (r_assign rfl (hS.ev_ rfl)) fun a hS => ?_
            refine st_done ?_
            replace hS : Slots 39 [] a [(8, v61), (17, Value.int .i64 (z18.1)), (16, Value.int .i64 ((p1.length : Int))), (15, v2), (7, Value.pointer (some ⟨g8, 0, none⟩)), (6, Value.slice none 0 0), (1, v5), (2, Value.bool (p7))] := (hS.part (.cons rfl (.cons rfl (.cons rfl (.cons rfl (.cons rfl (.cons rfl (.cons rfl (.cons rfl (.nil _))))))))))
            refine x_block ?_
            refine x_then ?_
            obtain rfl := Option.some.inj h29
            exact ⟨K58, (v61), (v52), ((hlK44.trans hlK48).trans hlK58), (hS.part (.cons rfl (.cons rfl (.cons rfl (.cons rfl (.cons rfl (.cons rfl (.cons rfl (.cons rfl (.nil _)))))))))), ((((hM.pull 1 rfl rfl).tail.pull 2 rfl rfl).pull 2 rfl rfl).pull 2 rfl rfl)⟩
          · refine c_cond_false (hS.ev_ rfl) hc56 ?_
            refine wp_skip ?_
            refine x_block ?_
            refine x_then ?_
            obtain rfl := Option.some.inj h29
            exact ⟨K48, (v19), (v52), (hlK44.trans hlK48), (hS.part (.cons rfl (.cons rfl (.cons rfl (.cons rfl (.cons rfl (.cons rfl (.cons rfl (.cons rfl (.nil _)))))))))), ((((hM).tail.pull 1 rfl rfl).pull 1 rfl rfl).pull 2 rfl rfl)⟩
        · rintro a w ⟨K27, v30, v31, hlK27, hS, hM⟩
          refine wp_region_lit ?_
          refine st_val hS rfl rfl (by decide) (r_add rfl (hS.ev_ rfl) (hS.ev_ rfl)) fun a hS => ?_
          refine st_val hS rfl rfl (by decide) (r_move rfl (hS.ev_ rfl)) fun a hS => ?_
          refine st_done ?_
          replace hS : Slots 39 [] a [(17, Value.int .i64 (w64 (z18.1 + 1))), (1, v5), (2, Value.bool (p7)), (6, Value.slice none 0 0), (7, Value.pointer (some ⟨g8, 0, none⟩)), (15, v2), (16, Value.int .i64 ((p1.length : Int))), (8, v30)] := (hS.part (.cons rfl (.cons rfl (.cons rfl (.cons rfl (.cons rfl (.cons rfl (.cons rfl (.cons rfl (.nil _))))))))))
          refine x_then ?_
          exact ih ((w64 (z18.1 + 1), x28.1, x28.2.1, x28.2.2.1, x28.2.2.2.1, x28.2.2.2.2.1, x28.2.2.2.2.2.1, x28.2.2.2.2.2.2.1, x28.2.2.2.2.2.2.2.1, x28.2.2.2.2.2.2.2.2)) _ h hr K27 (v30) (v31) _ _ (hlK17.trans hlK27) (hS.part (.cons rfl (.cons rfl (.cons rfl (.cons rfl (.cons rfl (.cons rfl (.cons rfl (.cons rfl (.nil _)))))))))) ((((hM.pull 2 rfl rfl).pull 2 rfl rfl).pull 2 rfl rfl))
      · refine c_cond_false (hS.ev_ rfl) hc26 ?_
        refine wp_exit ?_
        refine x_then_exit ?_
        refine x_then_exit ?_
        have ho' := (Option.some.inj h).trans hr
        refine hQ _ _ _ ?_
        subst ho'
        exact ⟨rfl, K17, (v19), (v20), hlK17, (hS.part (.cons rfl (.cons rfl (.nil _)))), (((hM.pull 2 rfl rfl).pull 2 rfl rfl).pull 2 rfl rfl)⟩
    exact key ((0, ([] : List iac_Token), 0, 0, 0, 0, false, false, false, ([] : List UInt8))) _ h22 rfl K ((Value.slice none 0 0)) ((Value.slice none 0 0)) _ _ (Hp.le.refl _) (hS.part (.cons rfl (.cons rfl (.cons rfl (.cons rfl (.cons rfl (.cons rfl (.cons rfl (.cons rfl (.nil _)))))))))) ((((hM.pull 2 rfl rfl).pull 2 rfl rfl).pull 2 rfl rfl))
  · rintro e a w ⟨rfl, K23, v24, v25, hlK23, hS, hM⟩
    refine x_block_here ?_
    refine x_then ?_
    refine wp_seq ?_
    refine wp_region_lit ?_
    refine st_val hS rfl rfl (by decide) (r_move rfl (hS.ev_ rfl)) fun a hS => ?_
    refine st_val hS rfl rfl (by decide) (r_assign rfl (hS.ev_ rfl)) fun a hS => ?_
    refine st_done ?_
    replace hS : Slots 39 [] a [(6, v24)] := (hS.part (.cons rfl (.nil _)))
    refine x_then ?_
    refine wp_ret ?_
    obtain ⟨K62, hlK62, hM, f63⟩ := keep_row hM
    have hr' := Option.some.inj h
    subst hr'
    refine ret1 (.inr rfl) hS rfl rfl ?_
    exact ⟨K62, (v24), (hlK23.trans hlK62), ((hM).tail).tail, rfl, f63⟩

theorem clean_Data_c {w0 w : World} {K : Hp} {L : List SP} {p1 : List UInt8} {p4 : List Int} {p7 : Bool} {v2 : Value} {v5 : Value} {r : List UInt8} (hG : Glob w0) (h : clean_Data p1 p4 p7 = some r) (f3 : Kd.u8.sl K v2 p1) (f6 : (Kd.int .i64).sl K v5 p4) (hM : Sat w0 w K (L)) :
    Calls Tryd.prog 11 #[v2, v5, Value.bool (p7)] w (fun e w' => ∃ (K' : Hp) (v'1 : Value), Hp.le K K' ∧ Sat w0 w' K' (L) ∧ e = .returned (v'1) ∧ Kd.u8.sl K' v'1 r) := by
  refine enter_ (n := 30) (args := [v2, v5, Value.bool (p7)]) Tryd.func11 rfl rfl (Nat.le_of_ble_eq_true rfl) fun a hS => ?_
  replace hS : Slots 30 [] a [(0, v2), (1, v5), (2, Value.bool (p7))] := hS
  unfold clean_Data at h
  refine wp_seq ?_
  refine wp_region_lit ?_
  refine st_val hS rfl rfl (by decide) (r_assign rfl (hS.ev_ rfl)) fun a hS => ?_
  refine st_done ?_
  replace hS : Slots 30 [] a [(6, Value.slice none 0 0), (0, v2), (1, v5), (2, Value.bool (p7))] := (hS.part (.cons rfl (.cons rfl (.cons rfl (.cons rfl (.nil _))))))
  refine x_then ?_
  refine wp_seq ?_
  refine wp_region_lit ?_
  refine st_val hS rfl rfl (by decide) (r_assign rfl (hS.ev_ rfl)) fun a hS => ?_
  replace hM := hM.row_nil Kd.u8 5
  refine st_done ?_
  replace hS : Slots 30 [] a [(7, (Value.slice none 0 0)), (6, Value.slice none 0 0), (0, v2), (1, v5), (2, Value.bool (p7))] := (hS.part (.cons rfl (.cons rfl (.cons rfl (.cons rfl (.cons rfl (.nil _)))))))
  refine x_then ?_
  refine wp_seq ?_
  refine wp_seq ?_
  refine wp_region_lit ?_
  refine st_val hS rfl rfl (by decide) (r_move rfl (hS.ev_ rfl)) fun a hS => ?_
  refine st_val hS rfl rfl (by decide) (r_move rfl (hS.ev_ rfl)) fun a hS => ?_
  refine st_val hS rfl rfl (by decide) (r_move rfl (hS.ev_ rfl)) fun a hS => ?_
  obtain ⟨y9, h10, h⟩ := bindO h
  have hc12 := clean_All_c hG h10 f3 f6 hM
  refine wl_cons rfl (e_call rfl Tryd.func6 rfl rfl (args3 (hS.ev_ rfl) (hS.ev_ rfl) (hS.ev_ rfl)) hc12 ?_)
  rintro _ w ⟨K11, v13, hlK11, hM, rfl, f14⟩
  refine ⟨_, rfl, ?_⟩
  refine pl hS rfl (by decide) fun a hS => ?_
  refine st_val hS rfl rfl (by decide) (r_len_sl rfl un_25 (hS.ev_ rfl) f14) fun a hS => ?_
  refine st_val hS rfl rfl (by decide) (r_move rfl (hS.ev_ rfl)) fun a hS => ?_
  refine st_done ?_
  replace hS : Slots 30 [] a [(15, Value.int .i64 (0)), (14, Value.int .i64 ((y9.length : Int))), (13, v13), (7, (Value.slice none 0 0)), (6, Value.slice none 0 0)] := (hS.part (.cons rfl (.cons rfl (.cons rfl (.cons rfl (.cons rfl (.nil _)))))))
  refine x_then ?_
  refine wp_block ?_
  obtain ⟨o24, h25, h⟩ := bindO h
  refine c_loop_ways (fun e a w => (e = .exit 0 ∧ ∃ (K26 : Hp) (v27 : Value), Hp.le K11 K26 ∧ Slots 30 [] a [(6, Value.slice none 0 0), (7, v27)] ∧ Sat w0 w K26 (SP.row Kd.u8 5 v27 o24 :: L))) ?_ ?_
  · intro c Q hc hQ
    have key : ∀ (x21 : Int) (x22 : List UInt8) (r' : List UInt8), clean_Data_l1 y9 x21 x22 = some r' → r' = o24 → ∀ (K20 : Hp) (v23 : Value) (a : Act) (w : World), Hp.le K11 K20 → Slots 30 [] a [(15, Value.int .i64 (x21)), (14, Value.int .i64 ((y9.length : Int))), (13, v13), (6, Value.slice none 0 0), (7, v23)] → Sat w0 w K20 (SP.row Kd.u8 5 v23 x22 :: L) → Rnd Tryd.prog c Q a w := by
      refine clean_Data_l1.partial_correctness y9 _ ?_
      intro clean_Data_l1_rec ih x21 x22 r' h hr K20 v23 a w hlK20 hS hM 
      subst hc
      refine c_round ?_
      refine wp_seq ?_
      refine wp_region_lit ?_
      refine st_val hS rfl rfl (by decide) (r_cmp rfl (hS.ev_ rfl) (hS.ev_ rfl) rfl) fun a hS => ?_
      refine st_done ?_
      replace hS : Slots 30 [] a [(16, Value.bool (decide (x21 < ((y9.length : Int))))), (15, Value.int .i64 (x21)), (14, Value.int .i64 ((y9.length : Int))), (13, v13), (6, Value.slice none 0 0), (7, v23)] := (hS.part (.cons rfl (.cons rfl (.cons rfl (.cons rfl (.cons rfl (.cons rfl (.nil _))))))))
      refine x_then ?_
      refine wp_seq ?_
      rcases ifB h with ⟨hc28, h⟩ | ⟨hc28, h⟩
      · refine c_cond_true (hS.ev_ rfl) hc28 ?_
        refine wp_skip ?_
        refine x_then ?_
        obtain ⟨x30, h31, h⟩ := bindO h
        refine c_cut (fun a w => ∃ (K29 : Hp) (v32 : Value), Hp.le K20 K29 ∧ Slots 30 [] a [(6, Value.slice none 0 0), (13, v13), (14, Value.int .i64 ((y9.length : Int))), (15, Value.int .i64 (x21)), (7, v32)] ∧ Sat w0 w K29 (SP.row Kd.u8 5 v32 x30 :: L)) ?_ ?_
        ·
          refine wp_block ?_
          refine wp_seq ?_
          refine wp_region_lit ?_
          obtain ⟨e33, h34, h31⟩ := bindO h31
          obtain ⟨ad35, cp36, cs37, hv38, hr39, h0_40, h1_41, hq42⟩ := sl_at f14 h34 (by decide)
          obtain ⟨v43, rfl, f44⟩ := kiac_Token_open hr39
          refine st_val hS rfl rfl (by decide) (r_idx_sl rfl un_25 ti_30 (hS.ev_ rfl) hv38 (hS.ev_ rfl) h0_40 h1_41) fun a hS => ?_
          refine st_val hS rfl rfl (by decide) (r_ldN_k (cs' := [Value.int .i64 (e33.f_Kind), Value.int .i64 (e33.f_Code), Value.int .i64 (e33.f_Option), v43, Value.bool (e33.f_Cut)]) rfl ag_30 ti_30 (hS.ev_ rfl) hq42 rfl (Rd.up hlK20 hM.nil_)) fun a hS => ?_
          refine wl_cons rfl (e_alloc (cs := [Value.int .i64 (0), Value.int .i64 (0), Value.int .i64 (0), Value.slice none 0 0, Value.bool (false)]) hM rfl ti_30 rfl fun g45 w hM => ?_)
          refine pl hS rfl (by decide) fun a hS => ?_
          refine wl_cons rfl (e_storeN (vs := [Value.int .i64 (e33.f_Kind), Value.int .i64 (e33.f_Code), Value.int .i64 (e33.f_Option), v43, Value.bool (e33.f_Cut)]) hM rfl ti_30 (hS.ev_ rfl) (hS.ev_ rfl) (ones_cons rfl (ones_cons rfl (ones_cons rfl (ones_cons (sl_one f44) (ones_cons rfl ones_nil))))) (Nat.le_of_ble_eq_true rfl) fun w hM => ?_)
          have hM : Sat w0 w K20 (SP.blk g45 30 [Value.int .i64 (e33.f_Kind), Value.int .i64 (e33.f_Code), Value.int .i64 (e33.f_Option), v43, Value.bool (e33.f_Cut)] :: SP.row Kd.u8 5 v23 x22 :: L) := hM
          refine pl0 hS rfl fun a hS => ?_
          refine st_done ?_
          replace hS : Slots 30 [] a [(9, Value.pointer (some ⟨g45, 0, none⟩)), (15, Value.int .i64 (x21)), (14, Value.int .i64 ((y9.length : Int))), (13, v13), (6, Value.slice none 0 0), (7, v23)] := (hS.part (.cons rfl (.cons rfl (.cons rfl (.cons rfl (.cons rfl (.cons rfl (.nil _))))))))
          refine x_then ?_
          refine wp_seq ?_
          refine wp_region_lit ?_
          refine st_val hS rfl rfl (by decide) (r_fld_b rfl fo_30_0 (hS.ev_ rfl)) fun a hS => ?_
          refine st_val hS rfl rfl (by decide) (r_ld1_b rfl ag_3 (hS.ev_ rfl) rfl (Rd.of hM)) fun a hS => ?_
          refine st_val hS rfl rfl (by decide) (r_cmp rfl (hS.ev_ rfl) (hS.ev_ rfl) rfl) fun a hS => ?_
          refine st_done ?_
          replace hS : Slots 30 [] a [(21, Value.bool (e33.f_Kind == 1)), (9, Value.pointer (some ⟨g45, 0, none⟩)), (15, Value.int .i64 (x21)), (14, Value.int .i64 ((y9.length : Int))), (13, v13), (6, Value.slice none 0 0), (7, v23)] := (hS.part (.cons rfl (.cons rfl (.cons rfl (.cons rfl (.cons rfl (.cons rfl (.cons rfl (.nil _)))))))))
          refine x_then ?_
          rcases ifB h31 with ⟨hc47, h31⟩ | ⟨hc47, h31⟩
          · refine c_cond_true (hS.ev_ rfl) hc47 ?_
            refine wp_region_lit ?_
            refine st_val hS rfl rfl (by decide) (r_move rfl (hS.ev_ rfl)) fun a hS => ?_
            refine st_val hS rfl rfl (by decide) (r_fld_b rfl fo_30_1 (hS.ev_ rfl)) fun a hS => ?_
            refine st_val hS rfl rfl (by decide) (r_ld1_b rfl ag_3 (hS.ev_ rfl) rfl (Rd.of hM)) fun a hS => ?_
            refine st_val hS rfl rfl (by decide) (r_conv_i8 rfl un_3 un_5 (hS.ev_ rfl)) fun a hS => ?_
            refine wl_cons rfl (e_litK (d := Kd.u8) (e := 5) (cs := [Value.int .u8 (b8 (toB e33.f_Code))]) (xs := ([toB e33.f_Code] : List UInt8)) hM rfl (parts_ev hS rfl) (by kernel_rfl) ⟨[Value.int .u8 (b8 (toB e33.f_Code))], [], rfl, rfl, rfl⟩ rfl (by decide) fun v48 K49 w hlK49 hM f50 => ?_)
            refine pl hS rfl (by decide) fun a hS => ?_
            replace hM := hM.pull 1 rfl rfl
            obtain ⟨h51, h31⟩ := bindU h31
            refine wl_cons rfl (e_apd_sl hM rfl un_22 un_22 ti_5 rfl rfl (by decide) (hS.ev_ rfl) (hS.ev_ rfl) f50 (req_some h51) fun v52 w hM => ?_)
            refine pl hS rfl (by decide) fun a hS => ?_
            refine st_val hS rfl rfl (by decide) (r_assign rfl (hS.ev_ rfl)) fun a hS => ?_
            refine st_done ?_
            replace hS : Slots 30 [] a [(7, v52), (15, Value.int .i64 (x21)), (14, Value.int .i64 ((y9.length : Int))), (13, v13), (6, Value.slice none 0 0)] := (hS.part (.cons rfl (.cons rfl (.cons rfl (.cons rfl (.cons rfl (.nil _)))))))
            refine x_block ?_
            refine x_then ?_
            obtain rfl := Option.some.inj h31
            exact ⟨K49, (v52), hlK49, (hS.part (.cons rfl (.cons rfl (.cons rfl (.cons rfl (.cons rfl (.nil _))))))), (hM.pull 1 rfl rfl).tail⟩
          · refine c_cond_false (hS.ev_ rfl) hc47 ?_
            refine wp_skip ?_
            refine x_block ?_
            refine x_then ?_
            obtain rfl := Option.some.inj h31
            exact ⟨K20, (v23), (Hp.le.refl _), (hS.part (.cons rfl (.cons rfl (.cons rfl (.cons rfl (.cons rfl (.nil _))))))), (hM).tail⟩
        · rintro a w ⟨K29, v32, hlK29, hS, hM⟩
          refine wp_region_lit ?_
          refine st_val hS rfl rfl (by decide) (r_add rfl (hS.ev_ rfl) (hS.ev_ rfl)) fun a hS => ?_
          refine st_val hS rfl rfl (by decide) (r_move rfl (hS.ev_ rfl)) fun a hS => ?_
          refine st_done ?_
          replace hS : Slots 30 [] a [(15, Value.int .i64 (w64 (x21 + 1))), (6, Value.slice none 0 0), (13, v13), (14, Value.int .i64 ((y9.length : Int))), (7, v32)] := (hS.part (.cons rfl (.cons rfl (.cons rfl (.cons rfl (.cons rfl (.nil _)))))))
          refine x_then ?_
          exact ih (w64 (x21 + 1)) x30 _ h hr K29 (v32) _ _ (hlK20.trans hlK29) (hS.part (.cons rfl (.cons rfl (.cons rfl (.cons rfl (.cons rfl (.nil _))))))) (hM)
      · refine c_cond_false (hS.ev_ rfl) hc28 ?_
        refine wp_exit ?_
        refine x_then_exit ?_
        refine x_then_exit ?_
        have ho' := (Option.some.inj h).trans hr
        refine hQ _ _ _ ?_
        subst ho'
        exact ⟨rfl, K20, (v23), hlK20, (hS.part (.cons rfl (.cons rfl (.nil _)))), hM⟩
    exact key 0 ([] : List UInt8) _ h25 rfl K11 ((Value.slice none 0 0)) _ _ (Hp.le.refl _) (hS.part (.cons rfl (.cons rfl (.cons rfl (.cons rfl (.cons rfl (.nil _))))))) (hM)
  · rintro e a w ⟨rfl, K26, v27, hlK26, hS, hM⟩
    refine x_block_here ?_
    refine x_then ?_
    refine wp_seq ?_
    refine wp_region_lit ?_
    refine st_val hS rfl rfl (by decide) (r_move rfl (hS.ev_ rfl)) fun a hS => ?_
    refine st_val hS rfl rfl (by decide) (r_assign rfl (hS.ev_ rfl)) fun a hS => ?_
    refine st_done ?_
    replace hS : Slots 30 [] a [(6, v27)] := (hS.part (.cons rfl (.nil _)))
    refine x_then ?_
    refine wp_ret ?_
    obtain ⟨K53, hlK53, hM, f54⟩ := keep_row hM
    have hr' := Option.some.inj h
    subst hr'
    refine ret1 (.inr rfl) hS rfl rfl ?_
    exact ⟨K53, (v27), ((hlK11.trans hlK26).trans hlK53), hM, rfl, f54⟩

theorem Law_alive_c {w0 w : World} {K : Hp} {L : List SP} {r : Bool} (hG : Glob w0) (h : Law_alive = some r) (hM : Sat w0 w K (L)) :
    Calls Tryd.prog 4 #[] w (fun e w' => ∃ (K' : Hp), Hp.le K K' ∧ Sat w0 w' K' (L) ∧ e = .returned (Value.bool (r))) := by
  refine enter_ (n := 8) (args := []) Tryd.func4 rfl rfl (Nat.le_of_ble_eq_true rfl) fun a hS => ?_
  replace hS : Slots 8 [] a [] := hS
  unfold Law_alive at h
  refine wp_seq ?_
  refine wp_region_lit ?_
  refine st_val hS rfl rfl (by decide) (r_assign rfl (hS.ev_ rfl)) fun a hS => ?_
  refine st_done ?_
  replace hS : Slots 8 [] a [(0, Value.bool (false))] := (hS.part (.cons rfl (.nil _)))
  refine x_then ?_
  refine wp_seq ?_
  refine wp_region_lit ?_
  refine wl_cons rfl (e_litK (d := Kd.u8) (e := 5) (cs := [Value.int .u8 (b8 (97)), Value.int .u8 (b8 (98)), Value.int .u8 (b8 (99)), Value.int .u8 (b8 (255)), Value.int .u8 (b8 (242)), Value.int .u8 (b8 (100))]) (xs := [97, 98, 99, 255, 242, 100]) hM rfl (parts_ev hS rfl) (by kernel_rfl) ⟨[Value.int .u8 (b8 (97))], [Value.int .u8 (b8 (98)), Value.int .u8 (b8 (99)), Value.int .u8 (b8 (255)), Value.int .u8 (b8 (242)), Value.int .u8 (b8 (100))], rfl, rfl, ⟨[Value.int .u8 (b8 (98))], [Value.int .u8 (b8 (99)), Value.int .u8 (b8 (255)), Value.int .u8 (b8 (242)), Value.int .u8 (b8 (100))], rfl, rfl, ⟨[Value.int .u8 (b8 (99))], [Value.int .u8 (b8 (255)), Value.int .u8 (b8 (242)), Value.int .u8 (b8 (100))], rfl, rfl, ⟨[Value.int .u8 (b8 (255))], [Value.int .u8 (b8 (242)), Value.int .u8 (b8 (100))], rfl, rfl, ⟨[Value.int .u8 (b8 (242))], [Value.int .u8 (b8 (100))], rfl, rfl, ⟨[Value.int .u8 (b8 (100))], [], rfl, rfl, rfl⟩⟩⟩⟩⟩⟩ rfl (by decide) fun v1 K2 w hlK2 hM f3 => ?_)
  refine pl hS rfl (by decide) fun a hS => ?_
  refine wl_cons rfl (e_litK (d := (Kd.int .i64)) (e := 3) (cs := [Value.int .i64 (1)]) (xs := ([1] : List Int)) hM rfl (parts_ev hS rfl) (by kernel_rfl) ⟨[Value.int .i64 (1)], [], rfl, rfl, rfl⟩ rfl (by decide) fun v4 K5 w hlK5 hM f6 => ?_)
  refine pl hS rfl (by decide) fun a hS => ?_
  obtain ⟨y7, h8, h⟩ := bindO h
  have hc10 := clean_Data_c hG h8 (Kd.sl_mono hlK5 f3) f6 hM
  refine wl_cons rfl (e_call rfl Tryd.func11 rfl rfl (args3 (hS.ev_ rfl) (hS.ev_ rfl) (hS.ev_ rfl)) hc10 ?_)
  rintro _ w ⟨K9, v11, hlK9, hM, rfl, f12⟩
  refine ⟨_, rfl, ?_⟩
  refine pl hS rfl (by decide) fun a hS => ?_
  refine st_val hS rfl rfl (by decide) (r_assign rfl (hS.ev_ rfl)) fun a hS => ?_
  refine st_done ?_
  replace hS : Slots 8 [] a [(1, v11), (0, Value.bool (false))] := (hS.part (.cons rfl (.cons rfl (.nil _))))
  refine x_then ?_
  refine wp_seq ?_
  refine wp_region_lit ?_
  refine st_val hS rfl rfl (by decide) (r_move rfl (hS.ev_ rfl)) fun a hS => ?_
  refine st_val hS rfl rfl (by decide) (r_stringR rfl un_22 un_5 un_9 (hS.ev_ rfl) (Rd.of hM.nil_) f12) fun a hS => ?_
  refine st_val hS rfl rfl (by decide) (r_seq rfl (hS.ev_ rfl) (hS.ev_ (v := strV (([97, 100] : List UInt8))) rfl)) fun a hS => ?_
  refine st_val hS rfl rfl (by decide) (r_assign rfl (hS.ev_ rfl)) fun a hS => ?_
  refine st_done ?_
  replace hS : Slots 8 [] a [(0, Value.bool (y7 == ([97, 100] : List UInt8)))] := (hS.part (.cons rfl (.nil _)))
  refine x_then ?_
  refine wp_ret ?_
  have hr' := Option.some.inj h
  subst hr'
  refine ret1 (.inr rfl) hS rfl rfl ?_
  exact ⟨K9, ((hlK2.trans hlK5).trans hlK9), hM, rfl⟩

theorem slices_Clone_byte_byte_c {w0 w : World} {K : Hp} {L : List SP} {p1 : List UInt8} {v2 : Value} {r : List UInt8} (hG : Glob w0) (h : slices_Clone_byte_byte p1 = some r) (f3 : Kd.u8.sl K v2 p1) (hM : Sat w0 w K (L)) :
    Calls Tryd.prog 13 #[v2] w (fun e w' => ∃ (K' : Hp) (v'1 : Value), Hp.le K K' ∧ Sat w0 w' K' (L) ∧ e = .returned (v'1) ∧ Kd.u8.sl K' v'1 r) := by
  refine enter_ (n := 8) (args := [v2]) Tryd.func13 rfl rfl (Nat.le_of_ble_eq_true rfl) fun a hS => ?_
  replace hS : Slots 8 [] a [(0, v2)] := hS
  unfold slices_Clone_byte_byte at h
  rcases sl_nil_or f3 (by decide) with ⟨c4, rfl, rfl⟩ | ⟨ad5, c4, rfl⟩
  ·
    replace h : some ([] : List UInt8) = some r := h
    replace hS : Slots 8 [] a [(0, (Value.slice none 0 c4))] := hS
    refine wp_seq ?_
    refine wp_region_lit ?_
    refine st_val hS rfl rfl (by decide) (r_assign rfl (hS.ev_ rfl)) fun a hS => ?_
    refine st_done ?_
    replace hS : Slots 8 [] a [(2, Value.slice none 0 0), (0, (Value.slice none 0 c4))] := (hS.part (.cons rfl (.cons rfl (.nil _))))
    refine x_then ?_
    refine wp_seq ?_
    refine wp_seq ?_
    refine wp_region_lit ?_
    refine st_val hS rfl rfl (by decide) (r_move rfl (hS.ev_ rfl)) fun a hS => ?_
    refine st_val hS rfl rfl (by decide) (r_slnil (b := true) rfl un_22 (hS.ev_ (v := (Value.slice none 0 c4)) rfl) (hS.ev_ (v := Value.slice none 0 0) rfl) rfl) fun a hS => ?_
    refine st_done ?_
    replace hS : Slots 8 [] a [(4, Value.bool (true)), (2, Value.slice none 0 0), (0, (Value.slice none 0 c4))] := (hS.part (.cons rfl (.cons rfl (.cons rfl (.nil _)))))
    refine x_then ?_
    refine c_cond_true (hS.ev_ rfl) rfl ?_
    refine wp_seq ?_
    refine wp_region_lit ?_
    refine st_val hS rfl rfl (by decide) (r_assign rfl (hS.ev_ rfl)) fun a hS => ?_
    refine st_done ?_
    replace hS : Slots 8 [] a [(2, Value.slice none 0 0), (0, (Value.slice none 0 c4))] := (hS.part (.cons rfl (.cons rfl (.nil _))))
    refine x_then ?_
    refine wp_ret ?_
    refine x_then_ret ?_
    have hr' := Option.some.inj h
    subst hr'
    refine ret1 (.inr rfl) hS rfl rfl ?_
    exact ⟨K, (Value.slice none 0 0), (Hp.le.refl _), hM, rfl, (Kd.sl_nil _ _)⟩
  ·
    replace hS : Slots 8 [] a [(0, (Value.slice (some ad5) p1.length c4))] := hS
    refine wp_seq ?_
    refine wp_region_lit ?_
    refine st_val hS rfl rfl (by decide) (r_assign rfl (hS.ev_ rfl)) fun a hS => ?_
    refine st_done ?_
    replace hS : Slots 8 [] a [(2, Value.slice none 0 0), (0, (Value.slice (some ad5) p1.length c4))] := (hS.part (.cons rfl (.cons rfl (.nil _))))
    refine x_then ?_
    refine wp_seq ?_
    refine wp_seq ?_
    refine wp_region_lit ?_
    refine st_val hS rfl rfl (by decide) (r_move rfl (hS.ev_ rfl)) fun a hS => ?_
    refine st_val hS rfl rfl (by decide) (r_slnil (b := false) rfl un_22 (hS.ev_ (v := (Value.slice (some ad5) p1.length c4)) rfl) (hS.ev_ (v := Value.slice none 0 0) rfl) rfl) fun a hS => ?_
    refine st_done ?_
    replace hS : Slots 8 [] a [(4, Value.bool (false)), (2, Value.slice none 0 0), (0, (Value.slice (some ad5) p1.length c4))] := (hS.part (.cons rfl (.cons rfl (.cons rfl (.nil _)))))
    refine x_then ?_
    refine c_cond_false (hS.ev_ rfl) rfl ?_
    refine wp_skip ?_
    refine x_then ?_
    refine wp_seq ?_
    refine wp_region_lit ?_
    refine wl_cons rfl (e_lit0 (d := Kd.u8) hM rfl un_22 ti_5 rfl fun v6 w hM => ?_)
    refine pl hS rfl (by decide) fun a hS => ?_
    refine st_val hS rfl rfl (by decide) (r_move rfl (hS.ev_ rfl)) fun a hS => ?_
    obtain ⟨h8, h⟩ := bindU h
    refine wl_cons rfl (e_apd_sl hM rfl un_22 un_22 ti_5 rfl rfl (by decide) (hS.ev_ rfl) (hS.ev_ rfl) f3 (req_some h8) fun v9 w hM => ?_)
    refine pl hS rfl (by decide) fun a hS => ?_
    refine st_val hS rfl rfl (by decide) (r_assign rfl (hS.ev_ rfl)) fun a hS => ?_
    refine st_done ?_
    replace hS : Slots 8 [] a [(2, v9)] := (hS.part (.cons rfl (.nil _)))
    refine x_then ?_
    refine wp_ret ?_
    obtain ⟨K10, hlK10, hM, f11⟩ := keep_row hM
    have hr' := Option.some.inj h
    subst hr'
    refine ret1 (.inr rfl) hS rfl rfl ?_
    exact ⟨K10, (v9), hlK10, hM, rfl, f11⟩

theorem iac_Tokens_Idle_c {w0 w : World} {K : Hp} {L : List SP} {p1 : iac_Tokens} {g2 : Nat} {v3 : Value} {r : Bool × iac_Tokens} (hG : Glob w0) (h : iac_Tokens_Idle p1 = some r) (hM : Sat w0 w K (SP.blk g2 43 [Value.int .i64 (p1.f_state), Value.int .i64 (p1.f_token.f_Kind), Value.int .i64 (p1.f_token.f_Code), Value.int .i64 (p1.f_token.f_Option), v3, Value.bool (p1.f_token.f_Cut)] :: SP.row Kd.u8 5 v3 p1.f_token.f_Body :: L)) :
    Calls Tryd.prog 14 #[Value.pointer (some ⟨g2, 0, none⟩)] w (fun e w' => ∃ (K' : Hp) (v'1 : Value), Hp.le K K' ∧ Sat w0 w' K' (SP.blk g2 43 [Value.int .i64 (r.2.f_state), Value.int .i64 (r.2.f_token.f_Kind), Value.int .i64 (r.2.f_token.f_Code), Value.int .i64 (r.2.f_token.f_Option), v'1, Value.bool (r.2.f_token.f_Cut)] :: SP.row Kd.u8 5 v'1 r.2.f_token.f_Body :: L) ∧ e = .returned (Value.bool (r.1))) := by
  refine enter_ (n := 8) (args := [Value.pointer (some ⟨g2, 0, none⟩)]) Tryd.func14 rfl rfl (Nat.le_of_ble_eq_true rfl) fun a hS => ?_
  replace hS : Slots 8 [] a [(0, Value.pointer (some ⟨g2, 0, none⟩))] := hS
  unfold iac_Tokens_Idle at h
  refine wp_seq ?_
  refine wp_region_lit ?_
  refine st_val hS rfl rfl (by decide) (r_assign rfl (hS.ev_ rfl)) fun a hS => ?_
  refine st_done ?_
  replace hS : Slots 8 [] a [(2, Value.bool (false)), (0, Value.pointer (some ⟨g2, 0, none⟩))] := (hS.part (.cons rfl (.cons rfl (.nil _))))
  refine x_then ?_
  refine wp_seq ?_
  refine wp_region_lit ?_
  refine st_val hS rfl rfl (by decide) (r_move rfl (hS.ev_ rfl)) fun a hS => ?_
  refine st_val hS rfl rfl (by decide) (r_nilCheck rfl (hS.ev_ rfl)) fun a hS => ?_
  refine st_val hS rfl rfl (by decide) (r_fld_b rfl fo_43_0 (hS.ev_ rfl)) fun a hS => ?_
  refine st_val hS rfl rfl (by decide) (r_ld1_b rfl ag_3 (hS.ev_ rfl) rfl (Rd.of hM)) fun a hS => ?_
  refine st_val hS rfl rfl (by decide) (r_cmp rfl (hS.ev_ rfl) (hS.ev_ rfl) rfl) fun a hS => ?_
  refine st_val hS rfl rfl (by decide) (r_assign rfl (hS.ev_ rfl)) fun a hS => ?_
  refine st_done ?_
  replace hS : Slots 8 [] a [(2, Value.bool (p1.f_state == 0))] := (hS.part (.cons rfl (.nil _)))
  refine x_then ?_
  refine wp_ret ?_
  have hr' := Option.some.inj h
  subst hr'
  refine ret1 (.inr rfl) hS rfl rfl ?_
  exact ⟨K, (v3), (Hp.le.refl _), ((hM.pull 1 rfl rfl).pull 1 rfl rfl), rfl⟩

theorem iac_All_c {w0 w : World} {K : Hp} {L : List SP} {p1 : List UInt8} {v2 : Value} {r : (List iac_Token) × Bool} (hG : Glob w0) (h : iac_All p1 = some r) (f3 : Kd.u8.sl K v2 p1) (hM : Sat w0 w K (L)) :
    Calls Tryd.prog 5 #[v2] w (fun e w' => ∃ (K' : Hp) (v'1 : Value), Hp.le K K' ∧ Sat w0 w' K' (L) ∧ e = .returned (Value.tuple #[v'1, Value.bool (r.2)]) ∧ kiac_Token.sl K' v'1 r.1) := by
  refine enter_ (n := 37) (args := [v2]) Tryd.func5 rfl rfl (Nat.le_of_ble_eq_true rfl) fun a hS => ?_
  replace hS : Slots 37 [] a [(0, v2)] := hS
  unfold iac_All at h
  refine wp_seq ?_
  refine wp_region_lit ?_
  refine st_val hS rfl rfl (by decide) (r_assign rfl (hS.ev_ rfl)) fun a hS => ?_
  refine st_val hS rfl rfl (by decide) (r_assign rfl (hS.ev_ rfl)) fun a hS => ?_
  refine st_done ?_
  replace hS : Slots 37 [] a [(3, Value.bool (false)), (2, Value.slice none 0 0), (0, v2)] := (hS.part (.cons rfl (.cons rfl (.cons rfl (.nil _)))))
  refine x_then ?_
  refine wp_seq ?_
  refine wp_region_lit ?_
  refine st_val hS rfl rfl (by decide) (r_build (cs := [Value.int .i64 (0), Value.int .i64 (0), Value.int .i64 (0), Value.int .i64 (0), Value.slice none 0 0, Value.bool (false)]) rfl (parts_ev hS rfl) (by kernel_rfl)) fun a hS => ?_
  replace hM := hM.row_nil Kd.u8 5
  refine wl_cons rfl (e_box (cs := [Value.int .i64 (0), Value.int .i64 (0), Value.int .i64 (0), Value.int .i64 (0), (Value.slice none 0 0), Value.bool (false)]) hM rfl (hS.ev_ rfl) rfl fun g4 w hM => ?_)
  refine pl hS rfl (by decide) fun a hS => ?_
  refine st_val hS rfl rfl (by decide) (r_assign rfl (hS.ev_ rfl)) fun a hS => ?_
  refine st_done ?_
  replace hS : Slots 37 [] a [(4, Value.pointer (some ⟨g4, 0, none⟩)), (3, Value.bool (false)), (2, Value.slice none 0 0), (0, v2)] := (hS.part (.cons rfl (.cons rfl (.cons rfl (.cons rfl (.nil _))))))
  refine x_then ?_
  refine wp_seq ?_
  refine wp_region_lit ?_
  refine st_val hS rfl rfl (by decide) (r_assign rfl (hS.ev_ rfl)) fun a hS => ?_
  replace hM := hM.row_nil kiac_Token 30
  refine st_done ?_
  replace hS : Slots 37 [] a [(5, (Value.slice none 0 0)), (4, Value.pointer (some ⟨g4, 0, none⟩)), (3, Value.bool (false)), (2, Value.slice none 0 0), (0, v2)] := (hS.part (.cons rfl (.cons rfl (.cons rfl (.cons rfl (.cons rfl (.nil _)))))))
  refine x_then ?_
  refine wp_seq ?_
  refine wp_seq ?_
  refine wp_region_lit ?_
  refine st_val hS rfl rfl (by decide) (r_move rfl (hS.ev_ rfl)) fun a hS => ?_
  refine st_val hS rfl rfl (by decide) (r_len_sl rfl un_22 (hS.ev_ rfl) f3) fun a hS => ?_
  refine st_val hS rfl rfl (by decide) (r_move rfl (hS.ev_ rfl)) fun a hS => ?_
  refine st_done ?_
  replace hS : Slots 37 [] a [(14, Value.int .i64 (0)), (13, Value.int .i64 ((p1.length : Int))), (12, v2), (5, (Value.slice none 0 0)), (4, Value.pointer (some ⟨g4, 0, none⟩)), (3, Value.bool (false)), (2, Value.slice none 0 0)] := (hS.part (.cons rfl (.cons rfl (.cons rfl (.cons rfl (.cons rfl (.cons rfl (.cons rfl (.nil _)))))))))
  refine x_then ?_
  refine wp_block ?_
  obtain ⟨o17, h18, h⟩ := bindO h
  refine c_loop_ways (fun e a w => (e = .exit 0 ∧ ∃ (K19 : Hp) (v20 v21 : Value), Hp.le K K19 ∧ Slots 37 [] a [(2, Value.slice none 0 0), (3, Value.bool (false)), (4, Value.pointer (some ⟨g4, 0, none⟩)), (5, v20)] ∧ Sat w0 w K19 (SP.row kiac_Token 30 v20 o17.1 :: SP.blk g4 43 [Value.int .i64 (o17.2.1), Value.int .i64 (o17.2.2.1), Value.int .i64 (o17.2.2.2.1), Value.int .i64 (o17.2.2.2.2.1), v21, Value.bool (o17.2.2.2.2.2.1)] :: SP.row Kd.u8 5 v21 o17.2.2.2.2.2.2 :: L))) ?_ ?_
  · intro c Q hc hQ
    have key : ∀ (z14 : Int × (List iac_Token) × Int × Int × Int × Int × Bool × (List UInt8)) (r' : (List iac_Token) × Int × Int × Int × Int × Bool × (List UInt8)), iac_All_l1 p1 z14 = some r' → r' = o17 → ∀ (K13 : Hp) (v15 v16 : Value) (a : Act) (w : World), Hp.le K K13 → Slots 37 [] a [(14, Value.int .i64 (z14.1)), (13, Value.int .i64 ((p1.length : Int))), (12, v2), (4, Value.pointer (some ⟨g4, 0, none⟩)), (3, Value.bool (false)), (2, Value.slice none 0 0), (5, v15)] → Sat w0 w K13 (SP.row kiac_Token 30 v15 z14.2.1 :: SP.blk g4 43 [Value.int .i64 (z14.2.2.1), Value.int .i64 (z14.2.2.2.1), Value.int .i64 (z14.2.2.2.2.1), Value.int .i64 (z14.2.2.2.2.2.1), v16, Value.bool (z14.2.2.2.2.2.2.1)] :: SP.row Kd.u8 5 v16 z14.2.2.2.2.2.2.2 :: L) → Rnd Tryd.prog c Q a w := by
      refine iac_All_l1.partial_correctness p1 _ ?_
      intro iac_All_l1_rec ih z14 r' h hr K13 v15 v16 a w hlK13 hS hM 
      subst hc
      refine c_round ?_
      refine wp_seq ?_
      refine wp_region_lit ?_
      refine st_val hS rfl rfl (by decide) (r_cmp rfl (hS.ev_ rfl) (hS.ev_ rfl) rfl) fun a hS => ?_
      refine st_done ?_
      replace hS : Slots 37 [] a [(15, Value.bool (decide (z14.1 < ((p1.length : Int))))), (14, Value.int .i64 (z14.1)), (13, Value.int .i64 ((p1.length : Int))), (12, v2), (4, Value.pointer (some ⟨g4, 0, none⟩)), (3, Value.bool (false)), (2, Value.slice none 0 0), (5, v15)] := (hS.part (.cons rfl (.cons rfl (.cons rfl (.cons rfl (.cons rfl (.cons rfl (.cons rfl (.cons rfl (.nil _))))))))))
      refine x_then ?_
      refine wp_seq ?_
      rcases ifB h with ⟨hc22, h⟩ | ⟨hc22, h⟩
      · refine c_cond_true (hS.ev_ rfl) hc22 ?_
        refine wp_skip ?_
        refine x_then ?_
        obtain ⟨x24, h25, h⟩ := bindO h
        refine c_cut (fun a w => ∃ (K23 : Hp) (v26 v27 : Value), Hp.le K13 K23 ∧ Slots 37 [] a [(2, Value.slice none 0 0), (3, Value.bool (false)), (4, Value.pointer (some ⟨g4, 0, none⟩)), (12, v2), (13, Value.int .i64 ((p1.length : Int))), (14, Value.int .i64 (z14.1)), (5, v26)] ∧ Sat w0 w K23 (SP.row kiac_Token 30 v26 x24.1 :: SP.blk g4 43 [Value.int .i64 (x24.2.1), Value.int .i64 (x24.2.2.1), Value.int .i64 (x24.2.2.2.1), Value.int .i64 (x24.2.2.2.2.1), v27, Value.bool (x24.2.2.2.2.2.1)] :: SP.row Kd.u8 5 v27 x24.2.2.2.2.2.2 :: L)) ?_ ?_
        ·
          refine wp_block ?_
          refine wp_seq ?_
          refine wp_region_lit ?_
          obtain ⟨e28, h29, h25⟩ := bindO h25
          obtain ⟨ad30, cp31, cs32, hv33, hr34, h0_35, h1_36, hq37⟩ := sl_at f3 h29 (by decide)
          obtain rfl := hr34
          refine st_val hS rfl rfl (by decide) (r_idx_sl rfl un_22 ti_5 (hS.ev_ rfl) hv33 (hS.ev_ rfl) h0_35 h1_36) fun a hS => ?_
          refine st_val hS rfl rfl (by decide) (r_ld1_k rfl ag_5 (hS.ev_ rfl) hq37 rfl (Rd.up hlK13 hM.nil_)) fun a hS => ?_
          refine st_val hS rfl rfl (by decide) (r_assign rfl (hS.ev_ rfl)) fun a hS => ?_
          refine st_done ?_
          replace hS : Slots 37 [] a [(7, Value.int .u8 (b8 (e28))), (14, Value.int .i64 (z14.1)), (13, Value.int .i64 ((p1.length : Int))), (12, v2), (4, Value.pointer (some ⟨g4, 0, none⟩)), (3, Value.bool (false)), (2, Value.slice none 0 0), (5, v15)] := (hS.part (.cons rfl (.cons rfl (.cons rfl (.cons rfl (.cons rfl (.cons rfl (.cons rfl (.cons rfl (.nil _))))))))))
          refine x_then ?_
          refine wp_seq ?_
          refine wp_region_lit ?_
          refine st_val hS rfl rfl (by decide) (r_move rfl (hS.ev_ rfl)) fun a hS => ?_
          refine st_val hS rfl rfl (by decide) (r_move rfl (hS.ev_ rfl)) fun a hS => ?_
          obtain ⟨y38, h39, h25⟩ := bindO h25
          replace hM := hM.pull 2 rfl rfl
          replace hM := hM.pull 2 rfl rfl
          have hc41 := iac_Tokens_Feed_c hG h39 hM
          refine wl_cons rfl (e_call rfl Tryd.func12 rfl rfl (args2 (hS.ev_ rfl) (hS.ev_ rfl)) hc41 ?_)
          rintro _ w ⟨K40, v42, v44, hlK40, hM, rfl, f43⟩
          refine ⟨_, rfl, ?_⟩
          refine pl hS rfl (by decide) fun a hS => ?_
          refine st_val hS rfl rfl (by decide) (r_move rfl (hS.ev_ rfl)) fun a hS => ?_
          refine st_val hS rfl rfl (by decide) (r_extract rfl (hS.ev_ rfl) rfl) fun a hS => ?_
          refine st_val hS rfl rfl (by decide) (r_extract rfl (hS.ev_ rfl) rfl) fun a hS => ?_
          refine wl_cons rfl (e_alloc (cs := [Value.int .i64 (0), Value.int .i64 (0), Value.int .i64 (0), Value.slice none 0 0, Value.bool (false)]) hM rfl ti_30 rfl fun g46 w hM => ?_)
          refine pl hS rfl (by decide) fun a hS => ?_
          refine wl_cons rfl (e_storeN (vs := [Value.int .i64 (y38.1.f_Kind), Value.int .i64 (y38.1.f_Code), Value.int .i64 (y38.1.f_Option), v42, Value.bool (y38.1.f_Cut)]) hM rfl ti_30 (hS.ev_ rfl) (hS.ev_ rfl) (ones_cons rfl (ones_cons rfl (ones_cons rfl (ones_cons (sl_one f43) (ones_cons rfl ones_nil))))) (Nat.le_of_ble_eq_true rfl) fun w hM => ?_)
          have hM : Sat w0 w K40 (SP.blk g46 30 [Value.int .i64 (y38.1.f_Kind), Value.int .i64 (y38.1.f_Code), Value.int .i64 (y38.1.f_Option), v42, Value.bool (y38.1.f_Cut)] :: SP.blk g4 43 [Value.int .i64 (y38.2.2.f_state), Value.int .i64 (y38.2.2.f_token.f_Kind), Value.int .i64 (y38.2.2.f_token.f_Code), Value.int .i64 (y38.2.2.f_token.f_Option), v44, Value.bool (y38.2.2.f_token.f_Cut)] :: SP.row Kd.u8 5 v44 y38.2.2.f_token.f_Body :: SP.row kiac_Token 30 v15 z14.2.1 :: L) := hM
          refine pl0 hS rfl fun a hS => ?_
          refine st_val hS rfl rfl (by decide) (r_assign rfl (hS.ev_ rfl)) fun a hS => ?_
          refine st_done ?_
          replace hS : Slots 37 [] a [(9, Value.bool (y38.2.1)), (8, Value.pointer (some ⟨g46, 0, none⟩)), (14, Value.int .i64 (z14.1)), (13, Value.int .i64 ((p1.length : Int))), (12, v2), (4, Value.pointer (some ⟨g4, 0, none⟩)), (3, Value.bool (false)), (2, Value.slice none 0 0), (5, v15)] := (hS.part (.cons rfl (.cons rfl (.cons rfl (.cons rfl (.cons rfl (.cons rfl (.cons rfl (.cons rfl (.cons rfl (.nil _)))))))))))
          refine x_then ?_
          refine wp_seq ?_
          refine wp_region_lit ?_
          refine st_val hS rfl rfl (by decide) (r_move rfl (hS.ev_ rfl)) fun a hS => ?_
          refine st_done ?_
          replace hS : Slots 37 [] a [(24, Value.bool (y38.2.1)), (8, Value.pointer (some ⟨g46, 0, none⟩)), (14, Value.int .i64 (z14.1)), (13, Value.int .i64 ((p1.length : Int))), (12, v2), (4, Value.pointer (some ⟨g4, 0, none⟩)), (3, Value.bool (false)), (2, Value.slice none 0 0), (5, v15)] := (hS.part (.cons rfl (.cons rfl (.cons rfl (.cons rfl (.cons rfl (.cons rfl (.cons rfl (.cons rfl (.cons rfl (.nil _)))))))))))
          refine x_then ?_
          rcases ifB h25 with ⟨hc48, h25⟩ | ⟨hc48, h25⟩
          · refine c_cond_true (hS.ev_ rfl) hc48 ?_
            refine wp_seq ?_
            refine wp_region_lit ?_
            refine st_val hS rfl rfl (by decide) (r_fld_b rfl fo_30_3 (hS.ev_ rfl)) fun a hS => ?_
            refine st_val hS rfl rfl (by decide) (r_ld1_b rfl ag_22 (hS.ev_ rfl) rfl (Rd.of hM)) fun a hS => ?_
            obtain ⟨y49, h50, h25⟩ := bindO h25
            have hc52 := slices_Clone_byte_byte_c hG h50 f43 hM
            refine wl_cons rfl (e_call rfl Tryd.func13 rfl rfl (args1 (hS.ev_ rfl)) hc52 ?_)
            rintro _ w ⟨K51, v53, hlK51, hM, rfl, f54⟩
            refine ⟨_, rfl, ?_⟩
            refine pl hS rfl (by decide) fun a hS => ?_
            refine st_val hS rfl rfl (by decide) (r_fld_b rfl fo_30_3 (hS.ev_ rfl)) fun a hS => ?_
            refine wl_cons rfl (e_store1 hM rfl ti_22 (hS.ev_ rfl) (hS.ev_ rfl) (sl_one f54) (Nat.lt_of_lt_of_le (Nat.le_of_ble_eq_true rfl) (Nat.le_refl _)) fun w hM => ?_)
            have hM : Sat w0 w K51 (SP.blk g46 30 [Value.int .i64 (y38.1.f_Kind), Value.int .i64 (y38.1.f_Code), Value.int .i64 (y38.1.f_Option), v53, Value.bool (y38.1.f_Cut)] :: SP.blk g4 43 [Value.int .i64 (y38.2.2.f_state), Value.int .i64 (y38.2.2.f_token.f_Kind), Value.int .i64 (y38.2.2.f_token.f_Code), Value.int .i64 (y38.2.2.f_token.f_Option), v44, Value.bool (y38.2.2.f_token.f_Cut)] :: SP.row Kd.u8 5 v44 y38.2.2.f_token.f_Body :: SP.row kiac_Token 30 v15 z14.2.1 :: L) := hM
            refine pl0 hS rfl fun a hS => ?_
            refine st_done ?_
            replace hS : Slots 37 [] a [(8, Value.pointer (some ⟨g46, 0, none⟩)), (14, Value.int .i64 (z14.1)), (13, Value.int .i64 ((p1.length : Int))), (12, v2), (4, Value.pointer (some ⟨g4, 0, none⟩)), (3, Value.bool (false)), (2, Value.slice none 0 0), (5, v15)] := (hS.part (.cons rfl (.cons rfl (.cons rfl (.cons rfl (.cons rfl (.cons rfl (.cons rfl (.cons rfl (.nil _))))))))))
            refine x_then ?_
            refine wp_region_lit ?_
            refine st_val hS rfl rfl (by decide) (r_move rfl (hS.ev_ rfl)) fun a hS => ?_
            refine st_val hS rfl rfl (by decide) (r_ldN_b (cs' := [Value.int .i64 (y38.1.f_Kind), Value.int .i64 (y38.1.f_Code), Value.int .i64 (y38.1.f_Option), v53, Value.bool (y38.1.f_Cut)]) rfl ag_30 ti_30 (hS.ev_ rfl) rfl (Rd.of hM)) fun a hS => ?_
            refine wl_cons rfl (e_litK (d := kiac_Token) (e := 30) (cs := [Value.int .i64 (y38.1.f_Kind), Value.int .i64 (y38.1.f_Code), Value.int .i64 (y38.1.f_Option), v53, Value.bool (y38.1.f_Cut)]) (xs := [(⟨y38.1.f_Kind, y38.1.f_Code, y38.1.f_Option, y49, y38.1.f_Cut⟩ : iac_Token)]) hM rfl (parts_ev hS rfl) (by obtain ⟨_, _, hvv, _⟩ := sl_val f54; rw [hvv]; clear hvv; kernel_rfl) ⟨[Value.int .i64 (y38.1.f_Kind), Value.int .i64 (y38.1.f_Code), Value.int .i64 (y38.1.f_Option), v53, Value.bool (y38.1.f_Cut)], [], rfl, (kiac_Token_shut f54), rfl⟩ rfl (by decide) fun v55 K56 w hlK56 hM f57 => ?_)
            refine pl hS rfl (by decide) fun a hS => ?_
            replace hM := hM.pull 3 rfl rfl
            obtain ⟨h58, h25⟩ := bindU h25
            refine wl_cons rfl (e_apd_sl hM rfl un_25 un_25 ti_30 rfl rfl (by decide) (hS.ev_ rfl) (hS.ev_ rfl) f57 (req_some h58) fun v59 w hM => ?_)
            refine pl hS rfl (by decide) fun a hS => ?_
            refine st_val hS rfl rfl (by decide) (r_assign rfl (hS.ev_ rfl)) fun a hS => ?_
            refine st_done ?_
            replace hS : Slots 37 [] a [(5, v59), (14, Value.int .i64 (z14.1)), (13, Value.int .i64 ((p1.length : Int))), (12, v2), (4, Value.pointer (some ⟨g4, 0, none⟩)), (3, Value.bool (false)), (2, Value.slice none 0 0)] := (hS.part (.cons rfl (.cons rfl (.cons rfl (.cons rfl (.cons rfl (.cons rfl (.cons rfl (.nil _)))))))))
            refine x_block ?_
            refine x_then ?_
            obtain rfl := Option.some.inj h25
            exact ⟨K56, (v59), (v44), ((hlK40.trans hlK51).trans hlK56), (hS.part (.cons rfl (.cons rfl (.cons rfl (.cons rfl (.cons rfl (.cons rfl (.cons rfl (.nil _))))))))), ((((hM.pull 1 rfl rfl).tail.pull 2 rfl rfl).pull 2 rfl rfl).pull 2 rfl rfl)⟩
          · refine c_cond_false (hS.ev_ rfl) hc48 ?_
            refine wp_skip ?_
            refine x_block ?_
            refine x_then ?_
            obtain rfl := Option.some.inj h25
            exact ⟨K40, (v15), (v44), hlK40, (hS.part (.cons rfl (.cons rfl (.cons rfl (.cons rfl (.cons rfl (.cons rfl (.cons rfl (.nil _))))))))), ((((hM).tail.pull 1 rfl rfl).pull 1 rfl rfl).pull 2 rfl rfl)⟩
        · rintro a w ⟨K23, v26, v27, hlK23, hS, hM⟩
          refine wp_region_lit ?_
          refine st_val hS rfl rfl (by decide) (r_add rfl (hS.ev_ rfl) (hS.ev_ rfl)) fun a hS => ?_
          refine st_val hS rfl rfl (by decide) (r_move rfl (hS.ev_ rfl)) fun a hS => ?_
          refine st_done ?_
          replace hS : Slots 37 [] a [(14, Value.int .i64 (w64 (z14.1 + 1))), (2, Value.slice none 0 0), (3, Value.bool (false)), (4, Value.pointer (some ⟨g4, 0, none⟩)), (12, v2), (13, Value.int .i64 ((p1.length : Int))), (5, v26)] := (hS.part (.cons rfl (.cons rfl (.cons rfl (.cons rfl (.cons rfl (.cons rfl (.cons rfl (.nil _)))))))))
          refine x_then ?_
          exact ih ((w64 (z14.1 + 1), x24.1, x24.2.1, x24.2.2.1, x24.2.2.2.1, x24.2.2.2.2.1, x24.2.2.2.2.2.1, x24.2.2.2.2.2.2)) _ h hr K23 (v26) (v27) _ _ (hlK13.trans hlK23) (hS.part (.cons rfl (.cons rfl (.cons rfl (.cons rfl (.cons rfl (.cons rfl (.cons rfl (.nil _))))))))) ((((hM.pull 2 rfl rfl).pull 2 rfl rfl).pull 2 rfl rfl))
      · refine c_cond_false (hS.ev_ rfl) hc22 ?_
        refine wp_exit ?_
        refine x_then_exit ?_
        refine x_then_exit ?_
        have ho' := (Option.some.inj h).trans hr
        refine hQ _ _ _ ?_
        subst ho'
        exact ⟨rfl, K13, (v15), (v16), hlK13, (hS.part (.cons rfl (.cons rfl (.cons rfl (.cons rfl (.nil _)))))), (((hM.pull 2 rfl rfl).pull 2 rfl rfl).pull 2 rfl rfl)⟩
    exact key ((0, ([] : List iac_Token), 0, 0, 0, 0, false, ([] : List UInt8))) _ h18 rfl K ((Value.slice none 0 0)) ((Value.slice none 0 0)) _ _ (Hp.le.refl _) (hS.part (.cons rfl (.cons rfl (.cons rfl (.cons rfl (.cons rfl (.cons rfl (.cons rfl (.nil _))))))))) ((((hM.pull 2 rfl rfl).pull 2 rfl rfl).pull 2 rfl rfl))
  · rintro e a w ⟨rfl, K19, v20, v21, hlK19, hS, hM⟩
    refine x_block_here ?_
    refine x_then ?_
    refine wp_seq ?_
    refine wp_region_lit ?_
    refine st_val hS rfl rfl (by decide) (r_move rfl (hS.ev_ rfl)) fun a hS => ?_
    refine st_val hS rfl rfl (by decide) (r_move rfl (hS.ev_ rfl)) fun a hS => ?_
    obtain ⟨y60, h61, h⟩ := bindO h
    replace hM := hM.pull 2 rfl rfl
    replace hM := hM.pull 2 rfl rfl
    have hc63 := iac_Tokens_Idle_c hG h61 hM
    refine wl_cons rfl (e_call rfl Tryd.func14 rfl rfl (args1 (hS.ev_ rfl)) hc63 ?_)
    rintro _ w ⟨K62, v64, hlK62, hM, rfl⟩
    refine ⟨_, rfl, ?_⟩
    refine pl hS rfl (by decide) fun a hS => ?_
    refine st_val hS rfl rfl (by decide) (r_assign rfl (hS.ev_ rfl)) fun a hS => ?_
    refine st_val hS rfl rfl (by decide) (r_assign rfl (hS.ev_ rfl)) fun a hS => ?_
    refine st_done ?_
    replace hS : Slots 37 [] a [(3, Value.bool (y60.1)), (2, v20)] := (hS.part (.cons rfl (.cons rfl (.nil _))))
    refine x_then ?_
    refine wp_ret ?_
    replace hM := hM.pull 2 rfl rfl
    obtain ⟨K66, hlK66, hM, f67⟩ := keep_row hM
    have hr' := Option.some.inj h
    subst hr'
    refine ret2 (.inr rfl) hS rfl rfl rfl ?_
    exact ⟨K66, (v20), ((hlK19.trans hlK62).trans hlK66), ((hM).tail).tail, rfl, f67⟩

theorem bytes_Equal_c {w0 w : World} {K : Hp} {L : List SP} {p1 : List UInt8} {p4 : List UInt8} {v2 : Value} {v5 : Value} {r : Bool} (hG : Glob w0) (h : bytes_Equal p1 p4 = some r) (f3 : Kd.u8.sl K v2 p1) (f6 : Kd.u8.sl K v5 p4) (hM : Sat w0 w K (L)) :
    Calls Tryd.prog 17 #[v2, v5] w (fun e w' => ∃ (K' : Hp), Hp.le K K' ∧ Sat w0 w' K' (L) ∧ e = .returned (Value.bool (r))) := by
  refine enter_ (n := 10) (args := [v2, v5]) Tryd.func17 rfl rfl (Nat.le_of_ble_eq_true rfl) fun a hS => ?_
  replace hS : Slots 10 [] a [(0, v2), (1, v5)] := hS
  unfold bytes_Equal at h
  refine wp_seq ?_
  refine wp_region_lit ?_
  refine st_val hS rfl rfl (by decide) (r_assign rfl (hS.ev_ rfl)) fun a hS => ?_
  refine st_done ?_
  replace hS : Slots 10 [] a [(4, Value.bool (false)), (0, v2), (1, v5)] := (hS.part (.cons rfl (.cons rfl (.cons rfl (.nil _)))))
  refine x_then ?_
  refine wp_seq ?_
  refine wp_region_lit ?_
  refine st_val hS rfl rfl (by decide) (r_move rfl (hS.ev_ rfl)) fun a hS => ?_
  refine st_val hS rfl rfl (by decide) (r_stringR rfl un_22 un_5 un_9 (hS.ev_ rfl) (Rd.of hM.nil_) f3) fun a hS => ?_
  refine st_val hS rfl rfl (by decide) (r_move rfl (hS.ev_ rfl)) fun a hS => ?_
  refine st_val hS rfl rfl (by decide) (r_stringR rfl un_22 un_5 un_9 (hS.ev_ rfl) (Rd.of hM.nil_) f6) fun a hS => ?_
  refine st_val hS rfl rfl (by decide) (r_seq rfl (hS.ev_ rfl) (hS.ev_ rfl)) fun a hS => ?_
  refine st_val hS rfl rfl (by decide) (r_assign rfl (hS.ev_ rfl)) fun a hS => ?_
  refine st_done ?_
  replace hS : Slots 10 [] a [(4, Value.bool (p1 == p4))] := (hS.part (.cons rfl (.nil _)))
  refine x_then ?_
  refine wp_ret ?_
  have hr' := Option.some.inj h
  subst hr'
  refine ret1 (.inr rfl) hS rfl rfl ?_
  exact ⟨K, (Hp.le.refl _), hM, rfl⟩

theorem iac_Same_c {w0 w : World} {K : Hp} {L : List SP} {p1 : iac_Token} {p4 : iac_Token} {v2 : Value} {v5 : Value} {r : Bool} (hG : Glob w0) (h : iac_Same p1 p4 = some r) (f3 : Kd.u8.sl K v2 p1.f_Body) (f6 : Kd.u8.sl K v5 p4.f_Body) (hM : Sat w0 w K (L)) :
    Calls Tryd.prog 7 #[Value.agg #[Value.int .i64 (p1.f_Kind), Value.int .i64 (p1.f_Code), Value.int .i64 (p1.f_Option), v2, Value.bool (p1.f_Cut)], Value.agg #[Value.int .i64 (p4.f_Kind), Value.int .i64 (p4.f_Code), Value.int .i64 (p4.f_Option), v5, Value.bool (p4.f_Cut)]] w (fun e w' => ∃ (K' : Hp), Hp.le K K' ∧ Sat w0 w' K' (L) ∧ e = .returned (Value.bool (r))) := by
  refine enter_ (n := 38) (args := [Value.agg #[Value.int .i64 (p1.f_Kind), Value.int .i64 (p1.f_Code), Value.int .i64 (p1.f_Option), v2, Value.bool (p1.f_Cut)], Value.agg #[Value.int .i64 (p4.f_Kind), Value.int .i64 (p4.f_Code), Value.int .i64 (p4.f_Option), v5, Value.bool (p4.f_Cut)]]) Tryd.func7 rfl rfl (Nat.le_of_ble_eq_true rfl) fun a hS => ?_
  replace hS : Slots 38 [] a [(0, Value.agg #[Value.int .i64 (p1.f_Kind), Value.int .i64 (p1.f_Code), Value.int .i64 (p1.f_Option), v2, Value.bool (p1.f_Cut)]), (1, Value.agg #[Value.int .i64 (p4.f_Kind), Value.int .i64 (p4.f_Code), Value.int .i64 (p4.f_Option), v5, Value.bool (p4.f_Cut)])] := hS
  unfold iac_Same at h
  refine wp_seq ?_
  refine wp_region_lit ?_
  refine wl_cons rfl (e_box (cs := [Value.int .i64 (p1.f_Kind), Value.int .i64 (p1.f_Code), Value.int .i64 (p1.f_Option), v2, Value.bool (p1.f_Cut)]) hM rfl (hS.ev_ rfl) rfl fun g7 w hM => ?_)
  refine pl hS rfl (by decide) fun a hS => ?_
  refine wl_cons rfl (e_box (cs := [Value.int .i64 (p4.f_Kind), Value.int .i64 (p4.f_Code), Value.int .i64 (p4.f_Option), v5, Value.bool (p4.f_Cut)]) hM rfl (hS.ev_ rfl) rfl fun g9 w hM => ?_)
  refine pl hS rfl (by decide) fun a hS => ?_
  refine st_val hS rfl rfl (by decide) (r_assign rfl (hS.ev_ rfl)) fun a hS => ?_
  refine st_done ?_
  replace hS : Slots 38 [] a [(4, Value.bool (false)), (3, Value.pointer (some ⟨g9, 0, none⟩)), (2, Value.pointer (some ⟨g7, 0, none⟩))] := (hS.part (.cons rfl (.cons rfl (.cons rfl (.nil _)))))
  refine x_then ?_
  refine wp_seq ?_
  refine wp_region_lit ?_
  refine st_val hS rfl rfl (by decide) (r_fld_b rfl fo_30_0 (hS.ev_ rfl)) fun a hS => ?_
  replace hM := hM.pull 1 rfl rfl
  refine st_val hS rfl rfl (by decide) (r_ld1_b rfl ag_3 (hS.ev_ rfl) rfl (Rd.of hM)) fun a hS => ?_
  refine st_val hS rfl rfl (by decide) (r_fld_b rfl fo_30_0 (hS.ev_ rfl)) fun a hS => ?_
  replace hM := hM.pull 1 rfl rfl
  refine st_val hS rfl rfl (by decide) (r_ld1_b rfl ag_3 (hS.ev_ rfl) rfl (Rd.of hM)) fun a hS => ?_
  refine st_val hS rfl rfl (by decide) (r_cmp rfl (hS.ev_ rfl) (hS.ev_ rfl) rfl) fun a hS => ?_
  refine st_val hS rfl rfl (by decide) (r_move rfl (hS.ev_ rfl)) fun a hS => ?_
  obtain ⟨x11, h12, h⟩ := bindO h
  refine wl_cut 6 (fun a w => Slots 38 [] a [(2, Value.pointer (some ⟨g7, 0, none⟩)), (3, Value.pointer (some ⟨g9, 0, none⟩)), (4, Value.bool (false)), (16, Value.bool (x11))] ∧ Sat w0 w K (SP.blk g9 30 [Value.int .i64 (p4.f_Kind), Value.int .i64 (p4.f_Code), Value.int .i64 (p4.f_Option), v5, Value.bool (p4.f_Cut)] :: SP.blk g7 30 [Value.int .i64 (p1.f_Kind), Value.int .i64 (p1.f_Code), Value.int .i64 (p1.f_Option), v2, Value.bool (p1.f_Cut)] :: L)) ?_ ?_
  ·
    skip
    rcases ifB h12 with ⟨hc13, h12⟩ | ⟨hc13, h12⟩
    ·
      replace hS := hS.known (k := 10) rfl hc13
      refine st_want hS rfl rfl rfl rfl rfl (by decide) (r_fld_b rfl fo_30_1 (hS.ev_ rfl)) fun a hS => ?_
      replace hM := hM.pull 1 rfl rfl
      refine st_want hS rfl rfl rfl rfl rfl (by decide) (r_ld1_b rfl ag_3 (hS.ev_ rfl) rfl (Rd.of hM)) fun a hS => ?_
      refine st_want hS rfl rfl rfl rfl rfl (by decide) (r_fld_b rfl fo_30_1 (hS.ev_ rfl)) fun a hS => ?_
      replace hM := hM.pull 1 rfl rfl
      refine st_want hS rfl rfl rfl rfl rfl (by decide) (r_ld1_b rfl ag_3 (hS.ev_ rfl) rfl (Rd.of hM)) fun a hS => ?_
      refine st_want hS rfl rfl rfl rfl rfl (by decide) (r_cmp rfl (hS.ev_ rfl) (hS.ev_ rfl) rfl) fun a hS => ?_
      refine st_val hS rfl rfl (by decide) (r_pick_true rfl (hS.ev_ rfl) rfl (hS.ev_ rfl)) fun a hS => ?_
      refine st_done ?_
      replace hS : Slots 38 [] a [(16, Value.bool (p1.f_Code == p4.f_Code)), (4, Value.bool (false)), (3, Value.pointer (some ⟨g9, 0, none⟩)), (2, Value.pointer (some ⟨g7, 0, none⟩))] := (hS.part (.cons rfl (.cons rfl (.cons rfl (.cons rfl (.nil _))))))
      refine x_then ?_
      obtain rfl := Option.some.inj h12
      exact ⟨(hS.part (.cons rfl (.cons rfl (.cons rfl (.cons rfl (.nil _)))))), ((hM.pull 1 rfl rfl).pull 1 rfl rfl)⟩
    ·
      replace hS := hS.known (k := 10) rfl hc13
      refine st_off hS rfl rfl rfl rfl rfl rfl (by decide) fun a hS => ?_
      refine st_off hS rfl rfl rfl rfl rfl rfl (by decide) fun a hS => ?_
      refine st_off hS rfl rfl rfl rfl rfl rfl (by decide) fun a hS => ?_
      refine st_off hS rfl rfl rfl rfl rfl rfl (by decide) fun a hS => ?_
      refine st_off hS rfl rfl rfl rfl rfl rfl (by decide) fun a hS => ?_
      refine st_val hS rfl rfl (by decide) (r_pick_false rfl (hS.ev_ rfl) rfl (hS.ev_ rfl)) fun a hS => ?_
      refine st_done ?_
      replace hS : Slots 38 [] a [(16, Value.bool (false)), (4, Value.bool (false)), (3, Value.pointer (some ⟨g9, 0, none⟩)), (2, Value.pointer (some ⟨g7, 0, none⟩))] := (hS.part (.cons rfl (.cons rfl (.cons rfl (.cons rfl (.nil _))))))
      refine x_then ?_
      obtain rfl := Option.some.inj h12
      exact ⟨(hS.part (.cons rfl (.cons rfl (.cons rfl (.cons rfl (.nil _)))))), ((hM.pull 1 rfl rfl).pull 1 rfl rfl)⟩
  · rintro a w ⟨hS, hM⟩
    refine st_val hS rfl rfl (by decide) (r_move rfl (hS.ev_ rfl)) fun a hS => ?_
    obtain ⟨x14, h15, h⟩ := bindO h
    refine wl_cut 6 (fun a w => Slots 38 [] a [(2, Value.pointer (some ⟨g7, 0, none⟩)), (3, Value.pointer (some ⟨g9, 0, none⟩)), (4, Value.bool (false)), (23, Value.bool (x14))] ∧ Sat w0 w K (SP.blk g9 30 [Value.int .i64 (p4.f_Kind), Value.int .i64 (p4.f_Code), Value.int .i64 (p4.f_Option), v5, Value.bool (p4.f_Cut)] :: SP.blk g7 30 [Value.int .i64 (p1.f_Kind), Value.int .i64 (p1.f_Code), Value.int .i64 (p1.f_Option), v2, Value.bool (p1.f_Cut)] :: L)) ?_ ?_
    ·
      skip
      rcases ifB h15 with ⟨hc16, h15⟩ | ⟨hc16, h15⟩
      ·
        replace hS := hS.known (k := 17) rfl hc16
        refine st_want hS rfl rfl rfl rfl rfl (by decide) (r_fld_b rfl fo_30_2 (hS.ev_ rfl)) fun a hS => ?_
        replace hM := hM.pull 1 rfl rfl
        refine st_want hS rfl rfl rfl rfl rfl (by decide) (r_ld1_b rfl ag_3 (hS.ev_ rfl) rfl (Rd.of hM)) fun a hS => ?_
        refine st_want hS rfl rfl rfl rfl rfl (by decide) (r_fld_b rfl fo_30_2 (hS.ev_ rfl)) fun a hS => ?_
        replace hM := hM.pull 1 rfl rfl
        refine st_want hS rfl rfl rfl rfl rfl (by decide) (r_ld1_b rfl ag_3 (hS.ev_ rfl) rfl (Rd.of hM)) fun a hS => ?_
        refine st_want hS rfl rfl rfl rfl rfl (by decide) (r_cmp rfl (hS.ev_ rfl) (hS.ev_ rfl) rfl) fun a hS => ?_
        refine st_val hS rfl rfl (by decide) (r_pick_true rfl (hS.ev_ rfl) rfl (hS.ev_ rfl)) fun a hS => ?_
        refine st_done ?_
        replace hS : Slots 38 [] a [(23, Value.bool (p1.f_Option == p4.f_Option)), (2, Value.pointer (some ⟨g7, 0, none⟩)), (3, Value.pointer (some ⟨g9, 0, none⟩)), (4, Value.bool (false))] := (hS.part (.cons rfl (.cons rfl (.cons rfl (.cons rfl (.nil _))))))
        refine x_then ?_
        obtain rfl := Option.some.inj h15
        exact ⟨(hS.part (.cons rfl (.cons rfl (.cons rfl (.cons rfl (.nil _)))))), ((hM.pull 1 rfl rfl).pull 1 rfl rfl)⟩
      ·
        replace hS := hS.known (k := 17) rfl hc16
        refine st_off hS rfl rfl rfl rfl rfl rfl (by decide) fun a hS => ?_
        refine st_off hS rfl rfl rfl rfl rfl rfl (by decide) fun a hS => ?_
        refine st_off hS rfl rfl rfl rfl rfl rfl (by decide) fun a hS => ?_
        refine st_off hS rfl rfl rfl rfl rfl rfl (by decide) fun a hS => ?_
        refine st_off hS rfl rfl rfl rfl rfl rfl (by decide) fun a hS => ?_
        refine st_val hS rfl rfl (by decide) (r_pick_false rfl (hS.ev_ rfl) rfl (hS.ev_ rfl)) fun a hS => ?_
        refine st_done ?_
        replace hS : Slots 38 [] a [(23, Value.bool (false)), (2, Value.pointer (some ⟨g7, 0, none⟩)), (3, Value.pointer (some ⟨g9, 0, none⟩)), (4, Value.bool (false))] := (hS.part (.cons rfl (.cons rfl (.cons rfl (.cons rfl (.nil _))))))
        refine x_then ?_
        obtain rfl := Option.some.inj h15
        exact ⟨(hS.part (.cons rfl (.cons rfl (.cons rfl (.cons rfl (.nil _)))))), ((hM.pull 1 rfl rfl).pull 1 rfl rfl)⟩
    · rintro a w ⟨hS, hM⟩
      refine st_val hS rfl rfl (by decide) (r_move rfl (hS.ev_ rfl)) fun a hS => ?_
      obtain ⟨x17, h18, h⟩ := bindO h
      refine wl_cut 6 (fun a w => Slots 38 [] a [(2, Value.pointer (some ⟨g7, 0, none⟩)), (3, Value.pointer (some ⟨g9, 0, none⟩)), (4, Value.bool (false)), (30, Value.bool (x17))] ∧ Sat w0 w K (SP.blk g9 30 [Value.int .i64 (p4.f_Kind), Value.int .i64 (p4.f_Code), Value.int .i64 (p4.f_Option), v5, Value.bool (p4.f_Cut)] :: SP.blk g7 30 [Value.int .i64 (p1.f_Kind), Value.int .i64 (p1.f_Code), Value.int .i64 (p1.f_Option), v2, Value.bool (p1.f_Cut)] :: L)) ?_ ?_
      ·
        skip
        rcases ifB h18 with ⟨hc19, h18⟩ | ⟨hc19, h18⟩
        ·
          replace hS := hS.known (k := 24) rfl hc19
          refine st_want hS rfl rfl rfl rfl rfl (by decide) (r_fld_b rfl fo_30_4 (hS.ev_ rfl)) fun a hS => ?_
          replace hM := hM.pull 1 rfl rfl
          refine st_want hS rfl rfl rfl rfl rfl (by decide) (r_ld1_b rfl ag_4 (hS.ev_ rfl) rfl (Rd.of hM)) fun a hS => ?_
          refine st_want hS rfl rfl rfl rfl rfl (by decide) (r_fld_b rfl fo_30_4 (hS.ev_ rfl)) fun a hS => ?_
          replace hM := hM.pull 1 rfl rfl
          refine st_want hS rfl rfl rfl rfl rfl (by decide) (r_ld1_b rfl ag_4 (hS.ev_ rfl) rfl (Rd.of hM)) fun a hS => ?_
          refine st_want hS rfl rfl rfl rfl rfl (by decide) (r_beq rfl un_4 (hS.ev_ rfl) (hS.ev_ rfl)) fun a hS => ?_
          refine st_val hS rfl rfl (by decide) (r_pick_true rfl (hS.ev_ rfl) rfl (hS.ev_ rfl)) fun a hS => ?_
          refine st_done ?_
          replace hS : Slots 38 [] a [(30, Value.bool (p1.f_Cut == p4.f_Cut)), (2, Value.pointer (some ⟨g7, 0, none⟩)), (3, Value.pointer (some ⟨g9, 0, none⟩)), (4, Value.bool (false))] := (hS.part (.cons rfl (.cons rfl (.cons rfl (.cons rfl (.nil _))))))
          refine x_then ?_
          obtain rfl := Option.some.inj h18
          exact ⟨(hS.part (.cons rfl (.cons rfl (.cons rfl (.cons rfl (.nil _)))))), ((hM.pull 1 rfl rfl).pull 1 rfl rfl)⟩
        ·
          replace hS := hS.known (k := 24) rfl hc19
          refine st_off hS rfl rfl rfl rfl rfl rfl (by decide) fun a hS => ?_
          refine st_off hS rfl rfl rfl rfl rfl rfl (by decide) fun a hS => ?_
          refine st_off hS rfl rfl rfl rfl rfl rfl (by decide) fun a hS => ?_
          refine st_off hS rfl rfl rfl rfl rfl rfl (by decide) fun a hS => ?_
          refine st_off hS rfl rfl rfl rfl rfl rfl (by decide) fun a hS => ?_
          refine st_val hS rfl rfl (by decide) (r_pick_false rfl (hS.ev_ rfl) rfl (hS.ev_ rfl)) fun a hS => ?_
          refine st_done ?_
          replace hS : Slots 38 [] a [(30, Value.bool (false)), (2, Value.pointer (some ⟨g7, 0, none⟩)), (3, Value.pointer (some ⟨g9, 0, none⟩)), (4, Value.bool (false))] := (hS.part (.cons rfl (.cons rfl (.cons rfl (.cons rfl (.nil _))))))
          refine x_then ?_
          obtain rfl := Option.some.inj h18
          exact ⟨(hS.part (.cons rfl (.cons rfl (.cons rfl (.cons rfl (.nil _)))))), ((hM.pull 1 rfl rfl).pull 1 rfl rfl)⟩
      · rintro a w ⟨hS, hM⟩
        refine st_val hS rfl rfl (by decide) (r_move rfl (hS.ev_ rfl)) fun a hS => ?_
        obtain ⟨x21, h22, h⟩ := bindO h
        refine wl_cut 6 (fun a w => ∃ (K20 : Hp), Hp.le K K20 ∧ Slots 38 [] a [(4, Value.bool (false)), (37, Value.bool (x21))] ∧ Sat w0 w K20 (SP.blk g9 30 [Value.int .i64 (p4.f_Kind), Value.int .i64 (p4.f_Code), Value.int .i64 (p4.f_Option), v5, Value.bool (p4.f_Cut)] :: SP.blk g7 30 [Value.int .i64 (p1.f_Kind), Value.int .i64 (p1.f_Code), Value.int .i64 (p1.f_Option), v2, Value.bool (p1.f_Cut)] :: L)) ?_ ?_
        ·
          skip
          rcases ifB h22 with ⟨hc23, h22⟩ | ⟨hc23, h22⟩
          ·
            replace hS := hS.known (k := 31) rfl hc23
            refine st_want hS rfl rfl rfl rfl rfl (by decide) (r_fld_b rfl fo_30_3 (hS.ev_ rfl)) fun a hS => ?_
            replace hM := hM.pull 1 rfl rfl
            refine st_want hS rfl rfl rfl rfl rfl (by decide) (r_ld1_b rfl ag_22 (hS.ev_ rfl) rfl (Rd.of hM)) fun a hS => ?_
            refine st_want hS rfl rfl rfl rfl rfl (by decide) (r_fld_b rfl fo_30_3 (hS.ev_ rfl)) fun a hS => ?_
            replace hM := hM.pull 1 rfl rfl
            refine st_want hS rfl rfl rfl rfl rfl (by decide) (r_ld1_b rfl ag_22 (hS.ev_ rfl) rfl (Rd.of hM)) fun a hS => ?_
            obtain ⟨y24, h25, h22⟩ := bindO h22
            have hc27 := bytes_Equal_c hG h25 f3 f6 hM
            refine g_want hS rfl rfl rfl rfl (e_call rfl Tryd.func17 rfl rfl (args2 (hS.ev_ rfl) (hS.ev_ rfl)) hc27 ?_)
            rintro _ w ⟨K26, hlK26, hM, rfl⟩
            refine ⟨_, rfl, ?_⟩
            refine pl hS rfl (by decide) fun a hS => ?_
            refine st_val hS rfl rfl (by decide) (r_pick_true rfl (hS.ev_ rfl) rfl (hS.ev_ rfl)) fun a hS => ?_
            refine st_done ?_
            replace hS : Slots 38 [] a [(37, Value.bool (y24)), (4, Value.bool (false))] := (hS.part (.cons rfl (.cons rfl (.nil _))))
            refine x_then ?_
            obtain rfl := Option.some.inj h22
            exact ⟨K26, hlK26, (hS.part (.cons rfl (.cons rfl (.nil _)))), ((hM.pull 1 rfl rfl).pull 1 rfl rfl)⟩
          ·
            replace hS := hS.known (k := 31) rfl hc23
            refine st_off hS rfl rfl rfl rfl rfl rfl (by decide) fun a hS => ?_
            refine st_off hS rfl rfl rfl rfl rfl rfl (by decide) fun a hS => ?_
            refine st_off hS rfl rfl rfl rfl rfl rfl (by decide) fun a hS => ?_
            refine st_off hS rfl rfl rfl rfl rfl rfl (by decide) fun a hS => ?_
            refine st_off hS rfl rfl rfl rfl rfl rfl (by decide) fun a hS => ?_
            refine st_val hS rfl rfl (by decide) (r_pick_false rfl (hS.ev_ rfl) rfl (hS.ev_ rfl)) fun a hS => ?_
            refine st_done ?_
            replace hS : Slots 38 [] a [(37, Value.bool (false)), (4, Value.bool (false))] := (hS.part (.cons rfl (.cons rfl (.nil _))))
            refine x_then ?_
            obtain rfl := Option.some.inj h22
            exact ⟨K, (Hp.le.refl _), (hS.part (.cons rfl (.cons rfl (.nil _)))), ((hM.pull 1 rfl rfl).pull 1 rfl rfl)⟩
        · rintro a w ⟨K20, hlK20, hS, hM⟩
          refine st_val hS rfl rfl (by decide) (r_assign rfl (hS.ev_ rfl)) fun a hS => ?_
          refine st_done ?_
          replace hS : Slots 38 [] a [(4, Value.bool (x21))] := (hS.part (.cons rfl (.nil _)))
          refine x_then ?_
          refine wp_ret ?_
          have hr' := Option.some.inj h
          subst hr'
          refine ret1 (.inr rfl) hS rfl rfl ?_
          exact ⟨K20, hlK20, ((hM).tail).tail, rfl⟩

theorem nvt_Encode_c {w0 w : World} {K : Hp} {L : List SP} {p1 : List UInt8} {p4 : Bool} {v2 : Value} {r : List UInt8} (hG : Glob w0) (h : nvt_Encode p1 p4 = some r) (f3 : Kd.u8.sl K v2 p1) (hM : Sat w0 w K (L)) :
    Calls Tryd.prog 9 #[v2, Value.bool (p4)] w (fun e w' => ∃ (K' : Hp) (v'1 : Value), Hp.le K K' ∧ Sat w0 w' K' (L) ∧ e = .returned (v'1) ∧ Kd.u8.sl K' v'1 r) := by
  refine enter_ (n := 45) (args := [v2, Value.bool (p4)]) Tryd.func9 rfl rfl (Nat.le_of_ble_eq_true rfl) fun a hS => ?_
  replace hS : Slots 45 [] a [(0, v2), (1, Value.bool (p4))] := hS
  unfold nvt_Encode at h
  refine wp_seq ?_
  refine wp_region_lit ?_
  refine st_val hS rfl rfl (by decide) (r_assign rfl (hS.ev_ rfl)) fun a hS => ?_
  refine st_done ?_
  replace hS : Slots 45 [] a [(4, Value.slice none 0 0), (0, v2), (1, Value.bool (p4))] := (hS.part (.cons rfl (.cons rfl (.cons rfl (.nil _)))))
  refine x_then ?_
  refine wp_seq ?_
  refine wp_region_lit ?_
  refine st_val hS rfl rfl (by decide) (r_assign rfl (hS.ev_ rfl)) fun a hS => ?_
  replace hM := hM.row_nil Kd.u8 5
  refine st_done ?_
  replace hS : Slots 45 [] a [(5, (Value.slice none 0 0)), (4, Value.slice none 0 0), (0, v2), (1, Value.bool (p4))] := (hS.part (.cons rfl (.cons rfl (.cons rfl (.cons rfl (.nil _))))))
  refine x_then ?_
  refine wp_seq ?_
  refine wp_seq ?_
  refine wp_region_lit ?_
  refine st_val hS rfl rfl (by decide) (r_move rfl (hS.ev_ rfl)) fun a hS => ?_
  refine st_val hS rfl rfl (by decide) (r_len_sl rfl un_22 (hS.ev_ rfl) f3) fun a hS => ?_
  refine st_val hS rfl rfl (by decide) (r_move rfl (hS.ev_ rfl)) fun a hS => ?_
  refine st_done ?_
  replace hS : Slots 45 [] a [(10, Value.int .i64 (0)), (9, Value.int .i64 ((p1.length : Int))), (8, v2), (5, (Value.slice none 0 0)), (4, Value.slice none 0 0), (0, v2), (1, Value.bool (p4))] := (hS.part (.cons rfl (.cons rfl (.cons rfl (.cons rfl (.cons rfl (.cons rfl (.cons rfl (.nil _)))))))))
  refine x_then ?_
  refine wp_block ?_
  obtain ⟨o15, h16, h⟩ := bindO h
  refine c_loop_ways (fun e a w => (e = .exit 0 ∧ ∃ (K17 : Hp) (v18 : Value), Hp.le K K17 ∧ Slots 45 [] a [(4, Value.slice none 0 0), (5, v18)] ∧ Sat w0 w K17 (SP.row Kd.u8 5 v18 o15 :: L))) ?_ ?_
  · intro c Q hc hQ
    have key : ∀ (x12 : Int) (x13 : List UInt8) (r' : List UInt8), nvt_Encode_l1 p1 p4 x12 x13 = some r' → r' = o15 → ∀ (K11 : Hp) (v14 : Value) (a : Act) (w : World), Hp.le K K11 → Slots 45 [] a [(10, Value.int .i64 (x12)), (9, Value.int .i64 ((p1.length : Int))), (8, v2), (4, Value.slice none 0 0), (0, v2), (1, Value.bool (p4)), (5, v14)] → Sat w0 w K11 (SP.row Kd.u8 5 v14 x13 :: L) → Rnd Tryd.prog c Q a w := by
      refine nvt_Encode_l1.partial_correctness p1 p4 _ ?_
      intro nvt_Encode_l1_rec ih x12 x13 r' h hr K11 v14 a w hlK11 hS hM 
      subst hc
      refine c_round ?_
      refine wp_seq ?_
      refine wp_region_lit ?_
      refine st_val hS rfl rfl (by decide) (r_cmp rfl (hS.ev_ rfl) (hS.ev_ rfl) rfl) fun a hS => ?_
      refine st_done ?_
      replace hS : Slots 45 [] a [(11, Value.bool (decide (x12 < ((p1.length : Int))))), (10, Value.int .i64 (x12)), (9, Value.int .i64 ((p1.length : Int))), (8, v2), (4, Value.slice none 0 0), (0, v2), (1, Value.bool (p4)), (5, v14)] := (hS.part (.cons rfl (.cons rfl (.cons rfl (.cons rfl (.cons rfl (.cons rfl (.cons rfl (.cons rfl (.nil _))))))))))
      refine x_then ?_
      refine wp_seq ?_
      rcases ifB h with ⟨hc19, h⟩ | ⟨hc19, h⟩
      · refine c_cond_true (hS.ev_ rfl) hc19 ?_
        refine wp_skip ?_
        refine x_then ?_
        obtain ⟨x21, h22, h⟩ := bindO h
        refine c_cut (fun a w => ∃ (K20 : Hp) (v23 : Value), Hp.le K11 K20 ∧ Slots 45 [] a [(0, v2), (1, Value.bool (p4)), (4, Value.slice none 0 0), (8, v2), (9, Value.int .i64 ((p1.length : Int))), (10, Value.int .i64 (x12)), (5, v23)] ∧ Sat w0 w K20 (SP.row Kd.u8 5 v23 x21 :: L)) ?_ ?_
        ·
          refine wp_block ?_
          refine wp_seq ?_
          refine wp_region_lit ?_
          refine st_val hS rfl rfl (by decide) (r_move rfl (hS.ev_ rfl)) fun a hS => ?_
          obtain ⟨e24, h25, h22⟩ := bindO h22
          obtain ⟨ad26, cp27, cs28, hv29, hr30, h0_31, h1_32, hq33⟩ := sl_at f3 h25 (by decide)
          obtain rfl := hr30
          refine st_val hS rfl rfl (by decide) (r_idx_sl rfl un_22 ti_5 (hS.ev_ rfl) hv29 (hS.ev_ rfl) h0_31 h1_32) fun a hS => ?_
          refine st_val hS rfl rfl (by decide) (r_ld1_k rfl ag_5 (hS.ev_ rfl) hq33 rfl (Rd.up hlK11 hM.nil_)) fun a hS => ?_
          refine st_val hS rfl rfl (by decide) (r_assign rfl (hS.ev_ rfl)) fun a hS => ?_
          refine st_val hS rfl rfl (by decide) (r_assign rfl (hS.ev_ rfl)) fun a hS => ?_
          refine st_done ?_
          replace hS : Slots 45 [] a [(7, Value.int .u8 (b8 (e24))), (6, Value.int .i64 (x12)), (10, Value.int .i64 (x12)), (9, Value.int .i64 ((p1.length : Int))), (8, v2), (4, Value.slice none 0 0), (0, v2), (1, Value.bool (p4)), (5, v14)] := (hS.part (.cons rfl (.cons rfl (.cons rfl (.cons rfl (.cons rfl (.cons rfl (.cons rfl (.cons rfl (.cons rfl (.nil _)))))))))))
          refine x_then ?_
          refine wp_seq ?_
          refine wp_region_lit ?_
          refine st_val hS rfl rfl (by decide) (r_move rfl (hS.ev_ rfl)) fun a hS => ?_
          refine st_val hS rfl rfl (by decide) (r_move rfl (hS.ev_ rfl)) fun a hS => ?_
          refine wl_cons rfl (e_litK (d := Kd.u8) (e := 5) (cs := [Value.int .u8 (b8 (e24))]) (xs := ([e24] : List UInt8)) hM rfl (parts_ev hS rfl) (by kernel_rfl) ⟨[Value.int .u8 (b8 (e24))], [], rfl, rfl, rfl⟩ rfl (by decide) fun v34 K35 w hlK35 hM f36 => ?_)
          refine pl hS rfl (by decide) fun a hS => ?_
          obtain ⟨h37, h22⟩ := bindU h22
          refine wl_cons rfl (e_apd_sl hM rfl un_22 un_22 ti_5 rfl rfl (by decide) (hS.ev_ rfl) (hS.ev_ rfl) f36 (req_some h37) fun v38 w hM => ?_)
          refine pl hS rfl (by decide) fun a hS => ?_
          refine st_val hS rfl rfl (by decide) (r_assign rfl (hS.ev_ rfl)) fun a hS => ?_
          refine st_done ?_
          replace hS : Slots 45 [] a [(5, v38), (7, Value.int .u8 (b8 (e24))), (6, Value.int .i64 (x12)), (10, Value.int .i64 (x12)), (9, Value.int .i64 ((p1.length : Int))), (8, v2), (4, Value.slice none 0 0), (0, v2), (1, Value.bool (p4))] := (hS.part (.cons rfl (.cons rfl (.cons rfl (.cons rfl (.cons rfl (.cons rfl (.cons rfl (.cons rfl (.cons rfl (.nil _)))))))))))
          refine x_then ?_
          refine wp_seq ?_
          refine wp_region_lit ?_
          refine st_val hS rfl rfl (by decide) (r_move rfl (hS.ev_ rfl)) fun a hS => ?_
          refine st_val hS rfl rfl (by decide) (r_not rfl (hS.ev_ rfl)) fun a hS => ?_
          refine st_val hS rfl rfl (by decide) (r_move rfl (hS.ev_ rfl)) fun a hS => ?_
          obtain ⟨x39, h40, h22⟩ := bindO h22
          refine wl_cut 3 (fun a w => Slots 45 [] a [(0, v2), (1, Value.bool (p4)), (4, Value.slice none 0 0), (5, v38), (6, Value.int .i64 (x12)), (8, v2), (9, Value.int .i64 ((p1.length : Int))), (10, Value.int .i64 (x12)), (24, Value.bool (x39))] ∧ Sat w0 w K35 (SP.row Kd.u8 5 v38 (x13 ++ ([e24] : List UInt8)) :: L)) ?_ ?_
          ·
            skip
            rcases ifB h40 with ⟨hc41, h40⟩ | ⟨hc41, h40⟩
            ·
              replace hS := hS.known (k := 21) rfl hc41
              refine st_want hS rfl rfl rfl rfl rfl (by decide) (r_move rfl (hS.ev_ rfl)) fun a hS => ?_
              refine st_want hS rfl rfl rfl rfl rfl (by decide) (r_cmp8 rfl (hS.ev_ rfl) (hS.ev_ (v := Value.int .u8 (b8 (13))) rfl) rfl) fun a hS => ?_
              refine st_val hS rfl rfl (by decide) (r_pick_true rfl (hS.ev_ rfl) rfl (hS.ev_ rfl)) fun a hS => ?_
              refine st_done ?_
              replace hS : Slots 45 [] a [(24, Value.bool (e24 == 13)), (5, v38), (6, Value.int .i64 (x12)), (10, Value.int .i64 (x12)), (9, Value.int .i64 ((p1.length : Int))), (8, v2), (4, Value.slice none 0 0), (0, v2), (1, Value.bool (p4))] := (hS.part (.cons rfl (.cons rfl (.cons rfl (.cons rfl (.cons rfl (.cons rfl (.cons rfl (.cons rfl (.cons rfl (.nil _)))))))))))
              refine x_then ?_
              obtain rfl := Option.some.inj h40
              exact ⟨(hS.part (.cons rfl (.cons rfl (.cons rfl (.cons rfl (.cons rfl (.cons rfl (.cons rfl (.cons rfl (.cons rfl (.nil _))))))))))), hM⟩
            ·
              replace hS := hS.known (k := 21) rfl hc41
              refine st_off hS rfl rfl rfl rfl rfl rfl (by decide) fun a hS => ?_
              refine st_off hS rfl rfl rfl rfl rfl rfl (by decide) fun a hS => ?_
              refine st_val hS rfl rfl (by decide) (r_pick_false rfl (hS.ev_ rfl) rfl (hS.ev_ rfl)) fun a hS => ?_
              refine st_done ?_
              replace hS : Slots 45 [] a [(24, Value.bool (false)), (5, v38), (6, Value.int .i64 (x12)), (10, Value.int .i64 (x12)), (9, Value.int .i64 ((p1.length : Int))), (8, v2), (4, Value.slice none 0 0), (0, v2), (1, Value.bool (p4))] := (hS.part (.cons rfl (.cons rfl (.cons rfl (.cons rfl (.cons rfl (.cons rfl (.cons rfl (.cons rfl (.cons rfl (.nil _)))))))))))
              refine x_then ?_
              obtain rfl := Option.some.inj h40
              exact ⟨(hS.part (.cons rfl (.cons rfl (.cons rfl (.cons rfl (.cons rfl (.cons rfl (.cons rfl (.cons rfl (.cons rfl (.nil _))))))))))), hM⟩
          · rintro a w ⟨hS, hM⟩
            refine st_val hS rfl rfl (by decide) (r_move rfl (hS.ev_ rfl)) fun a hS => ?_
            obtain ⟨x42, h43, h22⟩ := bindO h22
            refine wl_cut 14 (fun a w => Slots 45 [] a [(0, v2), (1, Value.bool (p4)), (4, Value.slice none 0 0), (5, v38), (8, v2), (9, Value.int .i64 ((p1.length : Int))), (10, Value.int .i64 (x12)), (39, Value.bool (x42))] ∧ Sat w0 w K35 (SP.row Kd.u8 5 v38 (x13 ++ ([e24] : List UInt8)) :: L)) ?_ ?_
            ·
              skip
              rcases ifB h43 with ⟨hc44, h43⟩ | ⟨hc44, h43⟩
              ·
                replace hS := hS.known (k := 25) rfl hc44
                refine st_want hS rfl rfl rfl rfl rfl (by decide) (r_move rfl (hS.ev_ rfl)) fun a hS => ?_
                refine st_want hS rfl rfl rfl rfl rfl (by decide) (r_move rfl (hS.ev_ rfl)) fun a hS => ?_
                refine st_want hS rfl rfl rfl rfl rfl (by decide) (r_len_sl rfl un_22 (hS.ev_ rfl) f3) fun a hS => ?_
                refine st_want hS rfl rfl rfl rfl rfl (by decide) (r_sub rfl (hS.ev_ rfl) (hS.ev_ rfl)) fun a hS => ?_
                refine st_want hS rfl rfl rfl rfl rfl (by decide) (r_cmp rfl (hS.ev_ rfl) (hS.ev_ rfl) rfl) fun a hS => ?_
                refine st_want hS rfl rfl rfl rfl rfl (by decide) (r_move rfl (hS.ev_ rfl)) fun a hS => ?_
                obtain ⟨x45, h46, h43⟩ := bindO h43
                refine wl_cut 7 (fun a w => Slots 45 [] a [(0, v2), (1, Value.bool (p4)), (4, Value.slice none 0 0), (5, v38), (8, v2), (9, Value.int .i64 ((p1.length : Int))), (10, Value.int .i64 (x12)), (25, Value.bool (true)), (38, Value.bool (x45))] ∧ Sat w0 w K35 (SP.row Kd.u8 5 v38 (x13 ++ ([e24] : List UInt8)) :: L)) ?_ ?_
                ·
                  skip
                  rcases ifB h46 with ⟨hc47, h46⟩ | ⟨hc47, h46⟩
                  ·
                    replace hS := hS.known (k := 31) rfl hc47
                    refine st_off hS rfl rfl rfl rfl rfl rfl (by decide) fun a hS => ?_
                    refine st_off hS rfl rfl rfl rfl rfl rfl (by decide) fun a hS => ?_
                    refine st_off hS rfl rfl rfl rfl rfl rfl (by decide) fun a hS => ?_
                    refine st_off hS rfl rfl rfl rfl rfl rfl (by decide) fun a hS => ?_
                    refine st_off hS rfl rfl rfl rfl rfl rfl (by decide) fun a hS => ?_
                    refine st_off hS rfl rfl rfl rfl rfl rfl (by decide) fun a hS => ?_
                    refine st_want hS rfl rfl rfl rfl rfl (by decide) (r_pick_true rfl (hS.ev_ rfl) rfl (hS.ev_ rfl)) fun a hS => ?_
                    refine st_done ?_
                    replace hS : Slots 45 [] a [(38, Value.bool (true)), (25, Value.bool (true)), (0, v2), (1, Value.bool (p4)), (4, Value.slice none 0 0), (5, v38), (8, v2), (9, Value.int .i64 ((p1.length : Int))), (10, Value.int .i64 (x12))] := (hS.part (.cons rfl (.cons rfl (.cons rfl (.cons rfl (.cons rfl (.cons rfl (.cons rfl (.cons rfl (.cons rfl (.nil _)))))))))))
                    refine x_then ?_
                    obtain rfl := Option.some.inj h46
                    exact ⟨(hS.part (.cons rfl (.cons rfl (.cons rfl (.cons rfl (.cons rfl (.cons rfl (.cons rfl (.cons rfl (.cons rfl (.nil _))))))))))), hM⟩
                  ·
                    replace hS := hS.known (k := 31) rfl hc47
                    refine st_want hS rfl rfl rfl rfl rfl (by decide) (r_move rfl (hS.ev_ rfl)) fun a hS => ?_
                    refine st_want hS rfl rfl rfl rfl rfl (by decide) (r_move rfl (hS.ev_ rfl)) fun a hS => ?_
                    refine st_want hS rfl rfl rfl rfl rfl (by decide) (r_add rfl (hS.ev_ rfl) (hS.ev_ rfl)) fun a hS => ?_
                    obtain ⟨e48, h49, h46⟩ := bindO h46
                    obtain ⟨ad50, cp51, cs52, hv53, hr54, h0_55, h1_56, hq57⟩ := sl_at f3 h49 (by decide)
                    obtain rfl := hr54
                    refine st_want hS rfl rfl rfl rfl rfl (by decide) (r_idx_sl rfl un_22 ti_5 (hS.ev_ rfl) hv53 (hS.ev_ rfl) h0_55 h1_56) fun a hS => ?_
                    refine st_want hS rfl rfl rfl rfl rfl (by decide) (r_ld1_k rfl ag_5 (hS.ev_ rfl) hq57 rfl (Rd.up (hlK11.trans hlK35) hM.nil_)) fun a hS => ?_
                    refine st_want hS rfl rfl rfl rfl rfl (by decide) (r_cmp8 rfl (hS.ev_ rfl) (hS.ev_ (v := Value.int .u8 (b8 (10))) rfl) rfl) fun a hS => ?_
                    refine st_want hS rfl rfl rfl rfl rfl (by decide) (r_pick_false rfl (hS.ev_ rfl) rfl (hS.ev_ rfl)) fun a hS => ?_
                    refine st_done ?_
                    replace hS : Slots 45 [] a [(38, Value.bool (e48 != 10)), (25, Value.bool (true)), (0, v2), (1, Value.bool (p4)), (4, Value.slice none 0 0), (5, v38), (8, v2), (9, Value.int .i64 ((p1.length : Int))), (10, Value.int .i64 (x12))] := (hS.part (.cons rfl (.cons rfl (.cons rfl (.cons rfl (.cons rfl (.cons rfl (.cons rfl (.cons rfl (.cons rfl (.nil _)))))))))))
                    refine x_then ?_
                    obtain rfl := Option.some.inj h46
                    exact ⟨(hS.part (.cons rfl (.cons rfl (.cons rfl (.cons rfl (.cons rfl (.cons rfl (.cons rfl (.cons rfl (.cons rfl (.nil _))))))))))), hM⟩
                · rintro a w ⟨hS, hM⟩
                  refine st_val hS rfl rfl (by decide) (r_pick_true rfl (hS.ev_ rfl) rfl (hS.ev_ rfl)) fun a hS => ?_
                  refine st_done ?_
                  replace hS : Slots 45 [] a [(39, Value.bool (x45)), (0, v2), (1, Value.bool (p4)), (4, Value.slice none 0 0), (5, v38), (8, v2), (9, Value.int .i64 ((p1.length : Int))), (10, Value.int .i64 (x12))] := (hS.part (.cons rfl (.cons rfl (.cons rfl (.cons rfl (.cons rfl (.cons rfl (.cons rfl (.cons rfl (.nil _))))))))))
                  refine x_then ?_
                  obtain rfl := Option.some.inj h43
                  exact ⟨(hS.part (.cons rfl (.cons rfl (.cons rfl (.cons rfl (.cons rfl (.cons rfl (.cons rfl (.cons rfl (.nil _)))))))))), hM⟩
              ·
                replace hS := hS.known (k := 25) rfl hc44
                refine st_off hS rfl rfl rfl rfl rfl rfl (by decide) fun a hS => ?_
                refine st_off hS rfl rfl rfl rfl rfl rfl (by decide) fun a hS => ?_
                refine st_off hS rfl rfl rfl rfl rfl rfl (by decide) fun a hS => ?_
                refine st_off hS rfl rfl rfl rfl rfl rfl (by decide) fun a hS => ?_
                refine st_off hS rfl rfl rfl rfl rfl rfl (by decide) fun a hS => ?_
                refine st_off hS rfl rfl rfl rfl rfl rfl (by decide) fun a hS => ?_
                refine st_off_undef hS rfl rfl rfl rfl rfl (by decide) fun a hS => ?_
                refine st_off_undef hS rfl rfl rfl rfl rfl (by decide) fun a hS => ?_
                refine st_off_undef hS rfl rfl rfl rfl rfl (by decide) fun a hS => ?_
                refine st_off_undef hS rfl rfl rfl rfl rfl (by decide) fun a hS => ?_
                refine st_off_undef hS rfl rfl rfl rfl rfl (by decide) fun a hS => ?_
                refine st_off_undef hS rfl rfl rfl rfl rfl (by decide) fun a hS => ?_
                refine st_off hS rfl rfl rfl rfl rfl rfl (by decide) fun a hS => ?_
                refine st_val hS rfl rfl (by decide) (r_pick_false rfl (hS.ev_ rfl) rfl (hS.ev_ rfl)) fun a hS => ?_
                refine st_done ?_
                replace hS : Slots 45 [] a [(39, Value.bool (false)), (0, v2), (1, Value.bool (p4)), (4, Value.slice none 0 0), (5, v38), (8, v2), (9, Value.int .i64 ((p1.length : Int))), (10, Value.int .i64 (x12))] := (hS.part (.cons rfl (.cons rfl (.cons rfl (.cons rfl (.cons rfl (.cons rfl (.cons rfl (.cons rfl (.nil _))))))))))
                refine x_then ?_
                obtain rfl := Option.some.inj h43
                exact ⟨(hS.part (.cons rfl (.cons rfl (.cons rfl (.cons rfl (.cons rfl (.cons rfl (.cons rfl (.cons rfl (.nil _)))))))))), hM⟩
            · rintro a w ⟨hS, hM⟩
              refine st_done ?_
              replace hS : Slots 45 [] a [(0, v2), (1, Value.bool (p4)), (4, Value.slice none 0 0), (5, v38), (8, v2), (9, Value.int .i64 ((p1.length : Int))), (10, Value.int .i64 (x12)), (39, Value.bool (x42))] := (hS.part (.cons rfl (.cons rfl (.cons rfl (.cons rfl (.cons rfl (.cons rfl (.cons rfl (.cons rfl (.nil _))))))))))
              refine x_then ?_
              rcases ifB h22 with ⟨hc58, h22⟩ | ⟨hc58, h22⟩
              · refine c_cond_true (hS.ev_ rfl) hc58 ?_
                refine wp_region_lit ?_
                refine st_val hS rfl rfl (by decide) (r_move rfl (hS.ev_ rfl)) fun a hS => ?_
                refine wl_cons rfl (e_litK (d := Kd.u8) (e := 5) (cs := [Value.int .u8 (b8 (0))]) (xs := ([0] : List UInt8)) hM rfl (parts_ev hS rfl) (by kernel_rfl) ⟨[Value.int .u8 (b8 (0))], [], rfl, rfl, rfl⟩ rfl (by decide) fun v59 K60 w hlK60 hM f61 => ?_)
                refine pl hS rfl (by decide) fun a hS => ?_
                obtain ⟨h62, h22⟩ := bindU h22
                refine wl_cons rfl (e_apd_sl hM rfl un_22 un_22 ti_5 rfl rfl (by decide) (hS.ev_ rfl) (hS.ev_ rfl) f61 (req_some h62) fun v63 w hM => ?_)
                refine pl hS rfl (by decide) fun a hS => ?_
                refine st_val hS rfl rfl (by decide) (r_assign rfl (hS.ev_ rfl)) fun a hS => ?_
                refine st_done ?_
                replace hS : Slots 45 [] a [(5, v63), (0, v2), (1, Value.bool (p4)), (4, Value.slice none 0 0), (8, v2), (9, Value.int .i64 ((p1.length : Int))), (10, Value.int .i64 (x12))] := (hS.part (.cons rfl (.cons rfl (.cons rfl (.cons rfl (.cons rfl (.cons rfl (.cons rfl (.nil _)))))))))
                refine x_block ?_
                refine x_then ?_
                obtain rfl := Option.some.inj h22
                exact ⟨K60, (v63), (hlK35.trans hlK60), (hS.part (.cons rfl (.cons rfl (.cons rfl (.cons rfl (.cons rfl (.cons rfl (.cons rfl (.nil _))))))))), hM⟩
              · refine c_cond_false (hS.ev_ rfl) hc58 ?_
                refine wp_skip ?_
                refine x_block ?_
                refine x_then ?_
                obtain rfl := Option.some.inj h22
                exact ⟨K35, (v38), hlK35, (hS.part (.cons rfl (.cons rfl (.cons rfl (.cons rfl (.cons rfl (.cons rfl (.cons rfl (.nil _))))))))), hM⟩
        · rintro a w ⟨K20, v23, hlK20, hS, hM⟩
          refine wp_region_lit ?_
          refine st_val hS rfl rfl (by decide) (r_add rfl (hS.ev_ rfl) (hS.ev_ rfl)) fun a hS => ?_
          refine st_val hS rfl rfl (by decide) (r_move rfl (hS.ev_ rfl)) fun a hS => ?_
          refine st_done ?_
          replace hS : Slots 45 [] a [(10, Value.int .i64 (w64 (x12 + 1))), (0, v2), (1, Value.bool (p4)), (4, Value.slice none 0 0), (8, v2), (9, Value.int .i64 ((p1.length : Int))), (5, v23)] := (hS.part (.cons rfl (.cons rfl (.cons rfl (.cons rfl (.cons rfl (.cons rfl (.cons rfl (.nil _)))))))))
          refine x_then ?_
          exact ih (w64 (x12 + 1)) x21 _ h hr K20 (v23) _ _ (hlK11.trans hlK20) (hS.part (.cons rfl (.cons rfl (.cons rfl (.cons rfl (.cons rfl (.cons rfl (.cons rfl (.nil _))))))))) (hM)
      · refine c_cond_false (hS.ev_ rfl) hc19 ?_
        refine wp_exit ?_
        refine x_then_exit ?_
        refine x_then_exit ?_
        have ho' := (Option.some.inj h).trans hr
        refine hQ _ _ _ ?_
        subst ho'
        exact ⟨rfl, K11, (v14), hlK11, (hS.part (.cons rfl (.cons rfl (.nil _)))), hM⟩
    exact key 0 ([] : List UInt8) _ h16 rfl K ((Value.slice none 0 0)) _ _ (Hp.le.refl _) (hS.part (.cons rfl (.cons rfl (.cons rfl (.cons rfl (.cons rfl (.cons rfl (.cons rfl (.nil _))))))))) (hM)
  · rintro e a w ⟨rfl, K17, v18, hlK17, hS, hM⟩
    refine x_block_here ?_
    refine x_then ?_
    refine wp_seq ?_
    refine wp_region_lit ?_
    refine st_val hS rfl rfl (by decide) (r_move rfl (hS.ev_ rfl)) fun a hS => ?_
    refine st_val hS rfl rfl (by decide) (r_assign rfl (hS.ev_ rfl)) fun a hS => ?_
    refine st_done ?_
    replace hS : Slots 45 [] a [(4, v18)] := (hS.part (.cons rfl (.nil _)))
    refine x_then ?_
    refine wp_ret ?_
    obtain ⟨K64, hlK64, hM, f65⟩ := keep_row hM
    have hr' := Option.some.inj h
    subst hr'
    refine ret1 (.inr rfl) hS rfl rfl ?_
    exact ⟨K64, (v18), (hlK17.trans hlK64), hM, rfl, f65⟩

theorem unicode_utf8_RuneCountInString_c {w0 w : World} {K : Hp} {L : List SP} {p1 : List UInt8} {r : Int} (hG : Glob w0) (h : unicode_utf8_RuneCountInString p1 = some r) (hM : Sat w0 w K (L)) :
    Calls Tryd.prog 36 #[strV (p1)] w (fun e w' => ∃ (K' : Hp), Hp.le K K' ∧ Sat w0 w' K' (L) ∧ e = .returned (Value.int .i64 (r))) := by
  refine enter_ (n := 10) (args := [strV (p1)]) Tryd.func36 rfl rfl (Nat.le_of_ble_eq_true rfl) fun a hS => ?_
  replace hS : Slots 10 [] a [(0, strV (p1))] := hS
  unfold unicode_utf8_RuneCountInString at h
  refine wp_seq ?_
  refine wp_region_lit ?_
  refine st_val hS rfl rfl (by decide) (r_assign rfl (hS.ev_ rfl)) fun a hS => ?_
  refine st_done ?_
  replace hS : Slots 10 [] a [(2, Value.int .i64 (0)), (0, strV (p1))] := (hS.part (.cons rfl (.cons rfl (.nil _))))
  refine x_then ?_
  refine wp_seq ?_
  refine wp_seq ?_
  refine wp_region_lit ?_
  refine st_val hS rfl rfl (by decide) (r_move rfl (hS.ev_ rfl)) fun a hS => ?_
  cases h

theorem unicode_utf8_RuneCount_c {w0 w : World} {K : Hp} {L : List SP} {p1 : List UInt8} {v2 : Value} {r : Int} (hG : Glob w0) (h : unicode_utf8_RuneCount p1 = some r) (f3 : Kd.u8.sl K v2 p1) (hM : Sat w0 w K (L)) :
    Calls Tryd.prog 29 #[v2] w (fun e w' => ∃ (K' : Hp), Hp.le K K' ∧ Sat w0 w' K' (L) ∧ e = .returned (Value.int .i64 (r))) := by
  refine enter_ (n := 27) (args := [v2]) Tryd.func29 rfl rfl (Nat.le_of_ble_eq_true rfl) fun a hS => ?_
  replace hS : Slots 27 [] a [(0, v2)] := hS
  unfold unicode_utf8_RuneCount at h
  refine wp_seq ?_
  refine wp_region_lit ?_
  refine st_val hS rfl rfl (by decide) (r_assign rfl (hS.ev_ rfl)) fun a hS => ?_
  refine st_done ?_
  replace hS : Slots 27 [] a [(2, Value.int .i64 (0)), (0, v2)] := (hS.part (.cons rfl (.cons rfl (.nil _))))
  refine x_then ?_
  refine wp_seq ?_
  refine wp_region_lit ?_
  refine st_val hS rfl rfl (by decide) (r_move rfl (hS.ev_ rfl)) fun a hS => ?_
  refine st_val hS rfl rfl (by decide) (r_len_sl rfl un_22 (hS.ev_ rfl) f3) fun a hS => ?_
  refine st_val hS rfl rfl (by decide) (r_assign rfl (hS.ev_ rfl)) fun a hS => ?_
  refine st_done ?_
  replace hS : Slots 27 [] a [(3, Value.int .i64 ((p1.length : Int))), (2, Value.int .i64 (0)), (0, v2)] := (hS.part (.cons rfl (.cons rfl (.cons rfl (.nil _)))))
  refine x_then ?_
  refine wp_seq ?_
  refine wp_region_lit ?_
  refine st_val hS rfl rfl (by decide) (r_assign rfl (hS.ev_ rfl)) fun a hS => ?_
  refine st_done ?_
  replace hS : Slots 27 [] a [(4, Value.int .i64 (0)), (3, Value.int .i64 ((p1.length : Int))), (2, Value.int .i64 (0)), (0, v2)] := (hS.part (.cons rfl (.cons rfl (.cons rfl (.cons rfl (.nil _))))))
  refine x_then ?_
  refine wp_seq ?_
  refine wp_block ?_
  obtain ⟨o9, h10, h⟩ := bindO h
  refine c_loop_ways (fun e a w => (e = .exit 0 ∧ ∃ (K11 : Hp) (x12 : Int), Hp.le K K11 ∧ o9 = Sum.inl x12 ∧ Slots 27 [] a [(2, Value.int .i64 (0)), (4, Value.int .i64 (x12))] ∧ Sat w0 w K11 (L)) ∨ (e = .ret ∧ ∃ (K13 : Hp) (x14 : Int), Hp.le K K13 ∧ o9 = Sum.inr x14 ∧ Slots 27 [] a [(2, Value.int .i64 (x14))] ∧ Sat w0 w K13 (L))) ?_ ?_
  · intro c Q hc hQ
    have key : ∀ (x8 : Int) (r' : Sum Int Int), unicode_utf8_RuneCount_l1 p1 x8 = some r' → r' = o9 → ∀ (K7 : Hp) (a : Act) (w : World), Hp.le K K7 → Slots 27 [] a [(4, Value.int .i64 (x8)), (3, Value.int .i64 ((p1.length : Int))), (2, Value.int .i64 (0)), (0, v2)] → Sat w0 w K7 (L) → Rnd Tryd.prog c Q a w := by
      refine unicode_utf8_RuneCount_l1.partial_correctness p1 _ ?_
      intro unicode_utf8_RuneCount_l1_rec ih x8 r' h hr K7  a w hlK7 hS hM 
      subst hc
      refine c_round ?_
      refine wp_seq ?_
      refine wp_seq ?_
      refine wp_region_lit ?_
      refine st_val hS rfl rfl (by decide) (r_move rfl (hS.ev_ rfl)) fun a hS => ?_
      refine st_val hS rfl rfl (by decide) (r_move rfl (hS.ev_ rfl)) fun a hS => ?_
      refine st_val hS rfl rfl (by decide) (r_cmp rfl (hS.ev_ rfl) (hS.ev_ rfl) rfl) fun a hS => ?_
      refine st_done ?_
      replace hS : Slots 27 [] a [(10, Value.bool (decide (x8 < ((p1.length : Int))))), (4, Value.int .i64 (x8)), (3, Value.int .i64 ((p1.length : Int))), (2, Value.int .i64 (0)), (0, v2)] := (hS.part (.cons rfl (.cons rfl (.cons rfl (.cons rfl (.cons rfl (.nil _)))))))
      refine x_then ?_
      rcases ifB h with ⟨hc15, h⟩ | ⟨hc15, h⟩
      · refine c_cond_true (hS.ev_ rfl) hc15 ?_
        refine wp_skip ?_
        refine x_then ?_
        refine wp_seq ?_
        refine wp_block ?_
        refine wp_seq ?_
        refine wp_region_lit ?_
        refine st_val hS rfl rfl (by decide) (r_move rfl (hS.ev_ rfl)) fun a hS => ?_
        refine st_val hS rfl rfl (by decide) (r_move rfl (hS.ev_ rfl)) fun a hS => ?_
        obtain ⟨e16, h17, h⟩ := bindO h
        obtain ⟨ad18, cp19, cs20, hv21, hr22, h0_23, h1_24, hq25⟩ := sl_at f3 h17 (by decide)
        obtain rfl := hr22
        refine st_val hS rfl rfl (by decide) (r_idx_sl rfl un_22 ti_5 (hS.ev_ rfl) hv21 (hS.ev_ rfl) h0_23 h1_24) fun a hS => ?_
        refine st_val hS rfl rfl (by decide) (r_ld1_k rfl ag_5 (hS.ev_ rfl) hq25 rfl (Rd.up hlK7 hM.nil_)) fun a hS => ?_
        refine st_val hS rfl rfl (by decide) (r_assign rfl (hS.ev_ rfl)) fun a hS => ?_
        refine st_done ?_
        replace hS : Slots 27 [] a [(5, Value.int .u8 (b8 (e16))), (4, Value.int .i64 (x8)), (3, Value.int .i64 ((p1.length : Int))), (2, Value.int .i64 (0)), (0, v2)] := (hS.part (.cons rfl (.cons rfl (.cons rfl (.cons rfl (.cons rfl (.nil _)))))))
        refine x_then ?_
        refine wp_seq ?_
        refine wp_region_lit ?_
        refine st_val hS rfl rfl (by decide) (r_move rfl (hS.ev_ rfl)) fun a hS => ?_
        refine st_val hS rfl rfl (by decide) (r_cmp8 rfl (hS.ev_ rfl) (hS.ev_ (v := Value.int .u8 (b8 (128))) rfl) rfl) fun a hS => ?_
        refine st_done ?_
        replace hS : Slots 27 [] a [(18, Value.bool (decide (128 ≤ e16))), (4, Value.int .i64 (x8)), (3, Value.int .i64 ((p1.length : Int))), (2, Value.int .i64 (0)), (0, v2)] := (hS.part (.cons rfl (.cons rfl (.cons rfl (.cons rfl (.cons rfl (.nil _)))))))
        refine x_then ?_
        rcases ifB h with ⟨hc26, h⟩ | ⟨hc26, h⟩
        · refine c_cond_true (hS.ev_ rfl) hc26 ?_
          refine wp_seq ?_
          refine wp_region_lit ?_
          refine st_val hS rfl rfl (by decide) (r_move rfl (hS.ev_ rfl)) fun a hS => ?_
          refine st_val hS rfl rfl (by decide) (r_move rfl (hS.ev_ rfl)) fun a hS => ?_
          refine st_val hS rfl rfl (by decide) (r_move rfl (hS.ev_ rfl)) fun a hS => ?_
          obtain ⟨s27, h28, h⟩ := bindO h
          obtain ⟨v29, f30, hu31⟩ := cut_sl (P := Tryd.prog) (a := a) (k' := .i64) (d := Kd.u8) (.tmp 20) (some (.tmp 21)) none un_22 ti_5 (hS.ev_ rfl) (Kd.sl_mono hlK7 f3) (.inl (congrArg some (hS.ev_ rfl))) (.inr ⟨rfl, rfl⟩) h28
          refine st_val hS rfl rfl (by decide) (hu31 _ _ rfl) fun a hS => ?_
          refine st_val hS rfl rfl (by decide) (r_stringR rfl un_22 un_5 un_9 (hS.ev_ rfl) (Rd.of hM.nil_) f30) fun a hS => ?_
          obtain ⟨y32, h33, h⟩ := bindO h
          have hc35 := unicode_utf8_RuneCountInString_c hG h33 hM
          refine wl_cons rfl (e_call rfl Tryd.func36 rfl rfl (args1 (hS.ev_ rfl)) hc35 ?_)
          rintro _ w ⟨K34, hlK34, hM, rfl⟩
          refine ⟨_, rfl, ?_⟩
          refine pl hS rfl (by decide) fun a hS => ?_
          refine st_val hS rfl rfl (by decide) (r_add rfl (hS.ev_ rfl) (hS.ev_ rfl)) fun a hS => ?_
          refine st_val hS rfl rfl (by decide) (r_assign rfl (hS.ev_ rfl)) fun a hS => ?_
          refine st_done ?_
          replace hS : Slots 27 [] a [(2, Value.int .i64 (w64 (x8 + y32))), (4, Value.int .i64 (x8)), (3, Value.int .i64 ((p1.length : Int))), (0, v2)] := (hS.part (.cons rfl (.cons rfl (.cons rfl (.cons rfl (.nil _))))))
          refine x_then ?_
          refine wp_ret ?_
          refine x_block_ret ?_
          refine x_then_ret ?_
          refine x_then_ret ?_
          have ho' := (Option.some.inj h).trans hr
          refine hQ _ _ _ ?_
          exact .inr (⟨rfl, K34, (w64 (x8 + y32)), (hlK7.trans hlK34), ho'.symm, (hS.part (.cons rfl (.nil _))), hM⟩)
        · refine c_cond_false (hS.ev_ rfl) hc26 ?_
          refine wp_skip ?_
          refine x_block ?_
          refine x_then ?_
          refine wp_region_lit ?_
          refine st_val hS rfl rfl (by decide) (r_move rfl (hS.ev_ rfl)) fun a hS => ?_
          refine st_val hS rfl rfl (by decide) (r_add rfl (hS.ev_ rfl) (hS.ev_ rfl)) fun a hS => ?_
          refine st_val hS rfl rfl (by decide) (r_assign rfl (hS.ev_ rfl)) fun a hS => ?_
          refine st_done ?_
          replace hS : Slots 27 [] a [(4, Value.int .i64 (w64 (x8 + 1))), (3, Value.int .i64 ((p1.length : Int))), (2, Value.int .i64 (0)), (0, v2)] := (hS.part (.cons rfl (.cons rfl (.cons rfl (.cons rfl (.nil _))))))
          refine x_then ?_
          exact ih (w64 (x8 + 1)) _ h hr K7 _ _ hlK7 (hS.part (.cons rfl (.cons rfl (.cons rfl (.cons rfl (.nil _)))))) (hM)
      · refine c_cond_false (hS.ev_ rfl) hc15 ?_
        refine wp_exit ?_
        refine x_then_exit ?_
        refine x_then_exit ?_
        have ho' := (Option.some.inj h).trans hr
        refine hQ _ _ _ ?_
        exact .inl ⟨rfl, K7, x8, hlK7, ho'.symm, (hS.part (.cons rfl (.cons rfl (.nil _)))), hM⟩
    exact key 0 _ h10 rfl K _ _ (Hp.le.refl _) (hS.part (.cons rfl (.cons rfl (.cons rfl (.cons rfl (.nil _)))))) (hM)
  · rintro e a w (⟨rfl, K11, x12, hlK11, ho', hS, hM⟩ | ⟨rfl, K13, x14, hlK13, ho', hS, hM⟩)
    · subst ho'
      dsimp only at h
      refine x_block_here ?_
      refine x_then ?_
      refine wp_seq ?_
      refine wp_region_lit ?_
      refine st_val hS rfl rfl (by decide) (r_move rfl (hS.ev_ rfl)) fun a hS => ?_
      refine st_val hS rfl rfl (by decide) (r_assign rfl (hS.ev_ rfl)) fun a hS => ?_
      refine st_done ?_
      replace hS : Slots 27 [] a [(2, Value.int .i64 (x12))] := (hS.part (.cons rfl (.nil _)))
      refine x_then ?_
      refine wp_ret ?_
      have hr' := Option.some.inj h
      subst hr'
      refine ret1 (.inr rfl) hS rfl rfl ?_
      exact ⟨K11, hlK11, hM, rfl⟩
    · subst ho'
      dsimp only at h
      refine x_block_ret ?_
      refine x_then_ret ?_
      have hr' := Option.some.inj h
      subst hr'
      refine ret1 (.inr rfl) hS rfl rfl ?_
      exact ⟨K13, hlK13, hM, rfl⟩

theorem bytes_IndexByte_c {w0 w : World} {K : Hp} {L : List SP} {p1 : List UInt8} {p4 : UInt8} {v2 : Value} {r : Int} (hG : Glob w0) (h : bytes_IndexByte p1 p4 = some r) (f3 : Kd.u8.sl K v2 p1) (hM : Sat w0 w K (L)) :
    Calls Tryd.prog 31 #[v2, Value.int .u8 (b8 (p4))] w (fun e w' => ∃ (K' : Hp), Hp.le K K' ∧ Sat w0 w' K' (L) ∧ e = .returned (Value.int .i64 (r))) := by
  refine enter_ (n := 8) (args := [v2, Value.int .u8 (b8 (p4))]) Tryd.func31 rfl rfl (Nat.le_of_ble_eq_true rfl) fun a hS => ?_
  replace hS : Slots 8 [] a [(0, v2), (1, Value.int .u8 (b8 (p4)))] := hS
  unfold bytes_IndexByte at h
  refine wp_seq ?_
  refine wp_region_lit ?_
  refine st_val hS rfl rfl (by decide) (r_assign rfl (hS.ev_ rfl)) fun a hS => ?_
  refine st_done ?_
  replace hS : Slots 8 [] a [(4, Value.int .i64 (0)), (0, v2), (1, Value.int .u8 (b8 (p4)))] := (hS.part (.cons rfl (.cons rfl (.cons rfl (.nil _)))))
  refine x_then ?_
  refine wp_seq ?_
  refine wp_region_lit ?_
  refine st_val hS rfl rfl (by decide) (r_move rfl (hS.ev_ rfl)) fun a hS => ?_
  refine st_val hS rfl rfl (by decide) (r_move rfl (hS.ev_ rfl)) fun a hS => ?_
  refine st_val hS rfl rfl (by decide) (r_extern (vs := [v2, Value.int .u8 (b8 (p4))]) (ex := Extern.BytealgIndexByte.indexByte) rfl Tryd.func37 rfl rfl (by kernel_rfl) (by kernel_rfl) (args2 (hS.ev_ rfl) (hS.ev_ rfl)) (x_indexSl _ (Rd.of hM.nil_) f3)) fun a hS => ?_
  refine st_val hS rfl rfl (by decide) (r_assign rfl (hS.ev_ rfl)) fun a hS => ?_
  refine st_done ?_
  replace hS : Slots 8 [] a [(4, Value.int .i64 (idxB p1 p4))] := (hS.part (.cons rfl (.nil _)))
  refine x_then ?_
  refine wp_ret ?_
  have hr' := Option.some.inj h
  subst hr'
  refine ret1 (.inr rfl) hS rfl rfl ?_
  exact ⟨K, (Hp.le.refl _), hM, rfl⟩

theorem internal_bytealg_Cutover_c {w0 w : World} {K : Hp} {L : List SP} {p1 : Int} {r : Int} (hG : Glob w0) (h : internal_bytealg_Cutover p1 = some r) (hM : Sat w0 w K (L)) :
    Calls Tryd.prog 33 #[Value.int .i64 (p1)] w (fun e w' => ∃ (K' : Hp), Hp.le K K' ∧ Sat w0 w' K' (L) ∧ e = .returned (Value.int .i64 (r))) := by
  refine enter_ (n := 6) (args := [Value.int .i64 (p1)]) Tryd.func33 rfl rfl (Nat.le_of_ble_eq_true rfl) fun a hS => ?_
  replace hS : Slots 6 [] a [(0, Value.int .i64 (p1))] := hS
  unfold internal_bytealg_Cutover at h
  refine wp_seq ?_
  refine wp_region_lit ?_
  refine st_val hS rfl rfl (by decide) (r_assign rfl (hS.ev_ rfl)) fun a hS => ?_
  refine st_done ?_
  replace hS : Slots 6 [] a [(2, Value.int .i64 (0)), (0, Value.int .i64 (p1))] := (hS.part (.cons rfl (.cons rfl (.nil _))))
  refine x_then ?_
  refine wp_seq ?_
  refine wp_region_lit ?_
  refine st_val hS rfl rfl (by decide) (r_move rfl (hS.ev_ rfl)) fun a hS => ?_
  refine st_val hS rfl rfl (by decide) (r_add rfl (hS.ev_ rfl) (hS.ev_ rfl)) fun a hS => ?_
  obtain ⟨q2, h3, h⟩ := bindO h
  obtain ⟨h3n, h3e⟩ := iquo_some h3
  refine st_val hS rfl rfl (by decide) (h3e ▸ r_quo rfl (hS.ev_ rfl) (hS.ev_ rfl) h3n) fun a hS => ?_
  refine st_val hS rfl rfl (by decide) (r_assign rfl (hS.ev_ rfl)) fun a hS => ?_
  refine st_done ?_
  replace hS : Slots 6 [] a [(2, Value.int .i64 (q2))] := (hS.part (.cons rfl (.nil _)))
  refine x_then ?_
  refine wp_ret ?_
  have hr' := Option.some.inj h
  subst hr'
  refine ret1 (.inr rfl) hS rfl rfl ?_
  exact ⟨K, (Hp.le.refl _), hM, rfl⟩

theorem internal_bytealg_hashStr_byte_c {w0 w : World} {K : Hp} {L : List SP} {p1 : List UInt8} {v2 : Value} {r : Int × Int} (hG : Glob w0) (h : internal_bytealg_hashStr_byte p1 = some r) (f3 : Kd.u8.sl K v2 p1) (hM : Sat w0 w K (L)) :
    Calls Tryd.prog 38 #[v2] w (fun e w' => ∃ (K' : Hp), Hp.le K K' ∧ Sat w0 w' K' (L) ∧ e = .returned (Value.tuple #[Value.int .u32 (r.1), Value.int .u32 (r.2)])) := by
  refine enter_ (n := 40) (args := [v2]) Tryd.func38 rfl rfl (Nat.le_of_ble_eq_true rfl) fun a hS => ?_
  replace hS : Slots 40 [] a [(0, v2)] := hS
  unfold internal_bytealg_hashStr_byte at h
  refine wp_seq ?_
  refine wp_region_lit ?_
  refine st_val hS rfl rfl (by decide) (r_assign rfl (hS.ev_ rfl)) fun a hS => ?_
  refine st_val hS rfl rfl (by decide) (r_assign rfl (hS.ev_ rfl)) fun a hS => ?_
  refine st_done ?_
  replace hS : Slots 40 [] a [(3, Value.int .u32 (0)), (2, Value.int .u32 (0)), (0, v2)] := (hS.part (.cons rfl (.cons rfl (.cons rfl (.nil _)))))
  refine x_then ?_
  refine wp_seq ?_
  refine wp_region_lit ?_
  refine st_val hS rfl rfl (by decide) (r_assign rfl (hS.ev_ rfl)) fun a hS => ?_
  refine st_done ?_
  replace hS : Slots 40 [] a [(4, Value.int .u32 (0)), (3, Value.int .u32 (0)), (2, Value.int .u32 (0)), (0, v2)] := (hS.part (.cons rfl (.cons rfl (.cons rfl (.cons rfl (.nil _))))))
  refine x_then ?_
  refine wp_seq ?_
  refine wp_seq ?_
  refine wp_region_lit ?_
  refine st_val hS rfl rfl (by decide) (r_assign rfl (hS.ev_ rfl)) fun a hS => ?_
  refine st_done ?_
  replace hS : Slots 40 [] a [(5, Value.int .i64 (0)), (4, Value.int .u32 (0)), (3, Value.int .u32 (0)), (2, Value.int .u32 (0)), (0, v2)] := (hS.part (.cons rfl (.cons rfl (.cons rfl (.cons rfl (.cons rfl (.nil _)))))))
  refine x_then ?_
  refine wp_block ?_
  cases h

theorem internal_bytealg_IndexRabinKarp_byte_c {w0 w : World} {K : Hp} {L : List SP} {p1 : List UInt8} {p4 : List UInt8} {v2 : Value} {v5 : Value} {r : Int} (hG : Glob w0) (h : internal_bytealg_IndexRabinKarp_byte p1 p4 = some r) (f3 : Kd.u8.sl K v2 p1) (f6 : Kd.u8.sl K v5 p4) (hM : Sat w0 w K (L)) :
    Calls Tryd.prog 34 #[v2, v5] w (fun e w' => ∃ (K' : Hp), Hp.le K K' ∧ Sat w0 w' K' (L) ∧ e = .returned (Value.int .i64 (r))) := by
  refine enter_ (n := 88) (args := [v2, v5]) Tryd.func34 rfl rfl (Nat.le_of_ble_eq_true rfl) fun a hS => ?_
  replace hS : Slots 88 [] a [(0, v2), (1, v5)] := hS
  unfold internal_bytealg_IndexRabinKarp_byte at h
  refine wp_seq ?_
  refine wp_region_lit ?_
  refine st_val hS rfl rfl (by decide) (r_assign rfl (hS.ev_ rfl)) fun a hS => ?_
  refine st_done ?_
  replace hS : Slots 88 [] a [(4, Value.int .i64 (0)), (0, v2), (1, v5)] := (hS.part (.cons rfl (.cons rfl (.cons rfl (.nil _)))))
  refine x_then ?_
  refine wp_seq ?_
  refine wp_region_lit ?_
  refine st_val hS rfl rfl (by decide) (r_move rfl (hS.ev_ rfl)) fun a hS => ?_
  obtain ⟨y7, h8, h⟩ := bindO h
  have hc10 := internal_bytealg_hashStr_byte_c hG h8 f6 hM
  refine wl_cons rfl (e_call rfl Tryd.func38 rfl rfl (args1 (hS.ev_ rfl)) hc10 ?_)
  rintro _ w ⟨K9, hlK9, hM, rfl⟩
  refine ⟨_, rfl, ?_⟩
  refine pl hS rfl (by decide) fun a hS => ?_
  refine st_val hS rfl rfl (by decide) (r_move rfl (hS.ev_ rfl)) fun a hS => ?_
  refine st_val hS rfl rfl (by decide) (r_extract rfl (hS.ev_ rfl) rfl) fun a hS => ?_
  refine st_val hS rfl rfl (by decide) (r_extract rfl (hS.ev_ rfl) rfl) fun a hS => ?_
  refine st_val hS rfl rfl (by decide) (r_assign rfl (hS.ev_ rfl)) fun a hS => ?_
  refine st_val hS rfl rfl (by decide) (r_assign rfl (hS.ev_ rfl)) fun a hS => ?_
  refine st_done ?_
  replace hS : Slots 88 [] a [(6, Value.int .u32 (y7.2)), (5, Value.int .u32 (y7.1)), (4, Value.int .i64 (0)), (0, v2), (1, v5)] := (hS.part (.cons rfl (.cons rfl (.cons rfl (.cons rfl (.cons rfl (.nil _)))))))
  refine x_then ?_
  refine wp_seq ?_
  refine wp_region_lit ?_
  refine st_val hS rfl rfl (by decide) (r_move rfl (hS.ev_ rfl)) fun a hS => ?_
  refine st_val hS rfl rfl (by decide) (r_len_sl rfl un_22 (hS.ev_ rfl) f6) fun a hS => ?_
  refine st_val hS rfl rfl (by decide) (r_assign rfl (hS.ev_ rfl)) fun a hS => ?_
  refine st_done ?_
  replace hS : Slots 88 [] a [(7, Value.int .i64 ((p4.length : Int))), (6, Value.int .u32 (y7.2)), (5, Value.int .u32 (y7.1)), (4, Value.int .i64 (0)), (0, v2), (1, v5)] := (hS.part (.cons rfl (.cons rfl (.cons rfl (.cons rfl (.cons rfl (.cons rfl (.nil _))))))))
  refine x_then ?_
  refine wp_seq ?_
  refine wp_region_lit ?_
  refine st_val hS rfl rfl (by decide) (r_assign rfl (hS.ev_ rfl)) fun a hS => ?_
  refine st_done ?_
  replace hS : Slots 88 [] a [(8, Value.int .u32 (0)), (7, Value.int .i64 ((p4.length : Int))), (6, Value.int .u32 (y7.2)), (5, Value.int .u32 (y7.1)), (4, Value.int .i64 (0)), (0, v2), (1, v5)] := (hS.part (.cons rfl (.cons rfl (.cons rfl (.cons rfl (.cons rfl (.cons rfl (.cons rfl (.nil _)))))))))
  refine x_then ?_
  refine wp_seq ?_
  refine wp_seq ?_
  refine wp_region_lit ?_
  refine st_val hS rfl rfl (by decide) (r_assign rfl (hS.ev_ rfl)) fun a hS => ?_
  refine st_done ?_
  replace hS : Slots 88 [] a [(9, Value.int .i64 (0)), (8, Value.int .u32 (0)), (7, Value.int .i64 ((p4.length : Int))), (6, Value.int .u32 (y7.2)), (5, Value.int .u32 (y7.1)), (4, Value.int .i64 (0)), (0, v2), (1, v5)] := (hS.part (.cons rfl (.cons rfl (.cons rfl (.cons rfl (.cons rfl (.cons rfl (.cons rfl (.cons rfl (.nil _))))))))))
  refine x_then ?_
  refine wp_block ?_
  cases h

theorem bytes_Index_c {w0 w : World} {K : Hp} {L : List SP} {p1 : List UInt8} {p4 : List UInt8} {v2 : Value} {v5 : Value} {r : Int} (hG : Glob w0) (h : bytes_Index p1 p4 = some r) (f3 : Kd.u8.sl K v2 p1) (f6 : Kd.u8.sl K v5 p4) (hM : Sat w0 w K (L)) :
    Calls Tryd.prog 27 #[v2, v5] w (fun e w' => ∃ (K' : Hp), Hp.le K K' ∧ Sat w0 w' K' (L) ∧ e = .returned (Value.int .i64 (r))) := by
  refine enter_ (n := 200) (args := [v2, v5]) Tryd.func27 rfl rfl (Nat.le_of_ble_eq_true rfl) fun a hS => ?_
  replace hS : Slots 200 [] a [(0, v2), (1, v5)] := hS
  unfold bytes_Index at h
  refine wp_seq ?_
  refine wp_region_lit ?_
  refine st_val hS rfl rfl (by decide) (r_assign rfl (hS.ev_ rfl)) fun a hS => ?_
  refine st_done ?_
  replace hS : Slots 200 [] a [(4, Value.int .i64 (0)), (0, v2), (1, v5)] := (hS.part (.cons rfl (.cons rfl (.cons rfl (.nil _)))))
  refine x_then ?_
  refine wp_seq ?_
  refine wp_region_lit ?_
  refine st_val hS rfl rfl (by decide) (r_move rfl (hS.ev_ rfl)) fun a hS => ?_
  refine st_val hS rfl rfl (by decide) (r_len_sl rfl un_22 (hS.ev_ rfl) f6) fun a hS => ?_
  refine st_val hS rfl rfl (by decide) (r_assign rfl (hS.ev_ rfl)) fun a hS => ?_
  refine st_done ?_
  replace hS : Slots 200 [] a [(5, Value.int .i64 ((p4.length : Int))), (4, Value.int .i64 (0)), (0, v2), (1, v5)] := (hS.part (.cons rfl (.cons rfl (.cons rfl (.cons rfl (.nil _))))))
  refine x_then ?_
  refine wp_seq ?_
  refine wp_block ?_
  refine wp_seq ?_
  refine wp_region_lit ?_
  refine st_val hS rfl rfl (by decide) (r_move rfl (hS.ev_ rfl)) fun a hS => ?_
  refine st_val hS rfl rfl (by decide) (r_cmp rfl (hS.ev_ rfl) (hS.ev_ rfl) rfl) fun a hS => ?_
  refine st_val hS rfl rfl (by decide) (r_assign rfl (hS.ev_ rfl)) fun a hS => ?_
  refine st_done ?_
  replace hS : Slots 200 [] a [(22, Value.bool (((p4.length : Int)) == 0)), (5, Value.int .i64 ((p4.length : Int))), (4, Value.int .i64 (0)), (0, v2), (1, v5)] := (hS.part (.cons rfl (.cons rfl (.cons rfl (.cons rfl (.cons rfl (.nil _)))))))
  refine x_then ?_
  rcases ifB h with ⟨hc7, h⟩ | ⟨hc7, h⟩
  · refine c_cond_true (hS.ev_ rfl) hc7 ?_
    refine wp_seq ?_
    refine wp_region_lit ?_
    refine st_val hS rfl rfl (by decide) (r_assign rfl (hS.ev_ rfl)) fun a hS => ?_
    refine st_done ?_
    replace hS : Slots 200 [] a [(4, Value.int .i64 (0)), (5, Value.int .i64 ((p4.length : Int))), (0, v2), (1, v5)] := (hS.part (.cons rfl (.cons rfl (.cons rfl (.cons rfl (.nil _))))))
    refine x_then ?_
    refine wp_ret ?_
    refine x_block_ret ?_
    refine x_then_ret ?_
    have hr' := Option.some.inj h
    subst hr'
    refine ret1 (.inr rfl) hS rfl rfl ?_
    exact ⟨K, (Hp.le.refl _), hM, rfl⟩
  · refine c_cond_false (hS.ev_ rfl) hc7 ?_
    refine wp_seq ?_
    refine wp_region_lit ?_
    refine st_val hS rfl rfl (by decide) (r_move rfl (hS.ev_ rfl)) fun a hS => ?_
    refine st_val hS rfl rfl (by decide) (r_cmp rfl (hS.ev_ rfl) (hS.ev_ rfl) rfl) fun a hS => ?_
    refine st_val hS rfl rfl (by decide) (r_assign rfl (hS.ev_ rfl)) fun a hS => ?_
    refine st_done ?_
    replace hS : Slots 200 [] a [(25, Value.bool (((p4.length : Int)) == 1)), (5, Value.int .i64 ((p4.length : Int))), (4, Value.int .i64 (0)), (0, v2), (1, v5)] := (hS.part (.cons rfl (.cons rfl (.cons rfl (.cons rfl (.cons rfl (.nil _)))))))
    refine x_then ?_
    rcases ifB h with ⟨hc8, h⟩ | ⟨hc8, h⟩
    · refine c_cond_true (hS.ev_ rfl) hc8 ?_
      refine wp_seq ?_
      refine wp_region_lit ?_
      refine st_val hS rfl rfl (by decide) (r_move rfl (hS.ev_ rfl)) fun a hS => ?_
      refine st_val hS rfl rfl (by decide) (r_move rfl (hS.ev_ rfl)) fun a hS => ?_
      obtain ⟨e9, h10, h⟩ := bindO h
      obtain ⟨ad11, cp12, cs13, hv14, hr15, h0_16, h1_17, hq18⟩ := sl_at f6 h10 (by decide)
      obtain rfl := hr15
      refine st_val hS rfl rfl (by decide) (r_idx_sl rfl un_22 ti_5 (hS.ev_ rfl) hv14 (hS.ev_ rfl) h0_16 h1_17) fun a hS => ?_
      refine st_val hS rfl rfl (by decide) (r_ld1_k rfl ag_5 (hS.ev_ rfl) hq18 rfl (Rd.up (Hp.le.refl _) hM.nil_)) fun a hS => ?_
      obtain ⟨y19, h20, h⟩ := bindO h
      have hc22 := bytes_IndexByte_c hG h20 f3 hM
      refine wl_cons rfl (e_call rfl Tryd.func31 rfl rfl (args2 (hS.ev_ rfl) (hS.ev_ rfl)) hc22 ?_)
      rintro _ w ⟨K21, hlK21, hM, rfl⟩
      refine ⟨_, rfl, ?_⟩
      refine pl hS rfl (by decide) fun a hS => ?_
      refine st_val hS rfl rfl (by decide) (r_assign rfl (hS.ev_ rfl)) fun a hS => ?_
      refine st_done ?_
      replace hS : Slots 200 [] a [(4, Value.int .i64 (y19)), (5, Value.int .i64 ((p4.length : Int))), (0, v2), (1, v5)] := (hS.part (.cons rfl (.cons rfl (.cons rfl (.cons rfl (.nil _))))))
      refine x_then ?_
      refine wp_ret ?_
      refine x_block_ret ?_
      refine x_then_ret ?_
      have hr' := Option.some.inj h
      subst hr'
      refine ret1 (.inr rfl) hS rfl rfl ?_
      exact ⟨K21, hlK21, hM, rfl⟩
    · refine c_cond_false (hS.ev_ rfl) hc8 ?_
      refine wp_seq ?_
      refine wp_region_lit ?_
      refine st_val hS rfl rfl (by decide) (r_move rfl (hS.ev_ rfl)) fun a hS => ?_
      refine st_val hS rfl rfl (by decide) (r_move rfl (hS.ev_ rfl)) fun a hS => ?_
      refine st_val hS rfl rfl (by decide) (r_len_sl rfl un_22 (hS.ev_ rfl) f3) fun a hS => ?_
      refine st_val hS rfl rfl (by decide) (r_cmp rfl (hS.ev_ rfl) (hS.ev_ rfl) rfl) fun a hS => ?_
      refine st_val hS rfl rfl (by decide) (r_assign rfl (hS.ev_ rfl)) fun a hS => ?_
      refine st_done ?_
      replace hS : Slots 200 [] a [(33, Value.bool (((p4.length : Int)) == ((p1.length : Int)))), (5, Value.int .i64 ((p4.length : Int))), (4, Value.int .i64 (0)), (0, v2), (1, v5)] := (hS.part (.cons rfl (.cons rfl (.cons rfl (.cons rfl (.cons rfl (.nil _)))))))
      refine x_then ?_
      rcases ifB h with ⟨hc23, h⟩ | ⟨hc23, h⟩
      · refine c_cond_true (hS.ev_ rfl) hc23 ?_
        refine wp_seq ?_
        refine wp_seq ?_
        refine wp_region_lit ?_
        refine st_val hS rfl rfl (by decide) (r_move rfl (hS.ev_ rfl)) fun a hS => ?_
        refine st_val hS rfl rfl (by decide) (r_move rfl (hS.ev_ rfl)) fun a hS => ?_
        obtain ⟨y24, h25, h⟩ := bindO h
        have hc27 := bytes_Equal_c hG h25 f6 f3 hM
        refine wl_cons rfl (e_call rfl Tryd.func17 rfl rfl (args2 (hS.ev_ rfl) (hS.ev_ rfl)) hc27 ?_)
        rintro _ w ⟨K26, hlK26, hM, rfl⟩
        refine ⟨_, rfl, ?_⟩
        refine pl hS rfl (by decide) fun a hS => ?_
        refine st_done ?_
        replace hS : Slots 200 [] a [(40, Value.bool (y24)), (5, Value.int .i64 ((p4.length : Int))), (4, Value.int .i64 (0)), (0, v2), (1, v5)] := (hS.part (.cons rfl (.cons rfl (.cons rfl (.cons rfl (.cons rfl (.nil _)))))))
        refine x_then ?_
        rcases ifB h with ⟨hc28, h⟩ | ⟨hc28, h⟩
        · refine c_cond_true (hS.ev_ rfl) hc28 ?_
          refine wp_seq ?_
          refine wp_region_lit ?_
          refine st_val hS rfl rfl (by decide) (r_assign rfl (hS.ev_ rfl)) fun a hS => ?_
          refine st_done ?_
          replace hS : Slots 200 [] a [(4, Value.int .i64 (0)), (5, Value.int .i64 ((p4.length : Int))), (0, v2), (1, v5)] := (hS.part (.cons rfl (.cons rfl (.cons rfl (.cons rfl (.nil _))))))
          refine x_then ?_
          refine wp_ret ?_
          refine x_then_ret ?_
          refine x_block_ret ?_
          refine x_then_ret ?_
          have hr' := Option.some.inj h
          subst hr'
          refine ret1 (.inr rfl) hS rfl rfl ?_
          exact ⟨K26, hlK26, hM, rfl⟩
        · refine c_cond_false (hS.ev_ rfl) hc28 ?_
          refine wp_skip ?_
          refine x_then ?_
          refine wp_seq ?_
          refine wp_region_lit ?_
          refine st_val hS rfl rfl (by decide) (r_assign rfl (hS.ev_ rfl)) fun a hS => ?_
          refine st_done ?_
          replace hS : Slots 200 [] a [(4, Value.int .i64 ((-1))), (5, Value.int .i64 ((p4.length : Int))), (0, v2), (1, v5)] := (hS.part (.cons rfl (.cons rfl (.cons rfl (.cons rfl (.nil _))))))
          refine x_then ?_
          refine wp_ret ?_
          refine x_block_ret ?_
          refine x_then_ret ?_
          have hr' := Option.some.inj h
          subst hr'
          refine ret1 (.inr rfl) hS rfl rfl ?_
          exact ⟨K26, hlK26, hM, rfl⟩
      · refine c_cond_false (hS.ev_ rfl) hc23 ?_
        refine wp_seq ?_
        refine wp_region_lit ?_
        refine st_val hS rfl rfl (by decide) (r_move rfl (hS.ev_ rfl)) fun a hS => ?_
        refine st_val hS rfl rfl (by decide) (r_move rfl (hS.ev_ rfl)) fun a hS => ?_
        refine st_val hS rfl rfl (by decide) (r_len_sl rfl un_22 (hS.ev_ rfl) f3) fun a hS => ?_
        refine st_val hS rfl rfl (by decide) (r_cmp rfl (hS.ev_ rfl) (hS.ev_ rfl) rfl) fun a hS => ?_
        refine st_val hS rfl rfl (by decide) (r_assign rfl (hS.ev_ rfl)) fun a hS => ?_
        refine st_done ?_
        replace hS : Slots 200 [] a [(41, Value.bool (decide (((p4.length : Int)) > ((p1.length : Int))))), (5, Value.int .i64 ((p4.length : Int))), (4, Value.int .i64 (0)), (0, v2), (1, v5)] := (hS.part (.cons rfl (.cons rfl (.cons rfl (.cons rfl (.cons rfl (.nil _)))))))
        refine x_then ?_
        rcases ifB h with ⟨hc29, h⟩ | ⟨hc29, h⟩
        · refine c_cond_true (hS.ev_ rfl) hc29 ?_
          refine wp_seq ?_
          refine wp_region_lit ?_
          refine st_val hS rfl rfl (by decide) (r_assign rfl (hS.ev_ rfl)) fun a hS => ?_
          refine st_done ?_
          replace hS : Slots 200 [] a [(4, Value.int .i64 ((-1))), (5, Value.int .i64 ((p4.length : Int))), (0, v2), (1, v5)] := (hS.part (.cons rfl (.cons rfl (.cons rfl (.cons rfl (.nil _))))))
          refine x_then ?_
          refine wp_ret ?_
          refine x_block_ret ?_
          refine x_then_ret ?_
          have hr' := Option.some.inj h
          subst hr'
          refine ret1 (.inr rfl) hS rfl rfl ?_
          exact ⟨K, (Hp.le.refl _), hM, rfl⟩
        · refine c_cond_false (hS.ev_ rfl) hc29 ?_
          refine wp_seq ?_
          refine wp_region_lit ?_
          refine st_val hS rfl rfl (by decide) (r_move rfl (hS.ev_ rfl)) fun a hS => ?_
          cases h

theorem bytes_Count_c {w0 w : World} {K : Hp} {L : List SP} {p1 : List UInt8} {p4 : List UInt8} {v2 : Value} {v5 : Value} {r : Int} (hG : Glob w0) (h : bytes_Count p1 p4 = some r) (f3 : Kd.u8.sl K v2 p1) (f6 : Kd.u8.sl K v5 p4) (hM : Sat w0 w K (L)) :
    Calls Tryd.prog 26 #[v2, v5] w (fun e w' => ∃ (K' : Hp), Hp.le K K' ∧ Sat w0 w' K' (L) ∧ e = .returned (Value.int .i64 (r))) := by
  refine enter_ (n := 35) (args := [v2, v5]) Tryd.func26 rfl rfl (Nat.le_of_ble_eq_true rfl) fun a hS => ?_
  replace hS : Slots 35 [] a [(0, v2), (1, v5)] := hS
  unfold bytes_Count at h
  refine wp_seq ?_
  refine wp_region_lit ?_
  refine st_val hS rfl rfl (by decide) (r_assign rfl (hS.ev_ rfl)) fun a hS => ?_
  refine st_done ?_
  replace hS : Slots 35 [] a [(4, Value.int .i64 (0)), (0, v2), (1, v5)] := (hS.part (.cons rfl (.cons rfl (.cons rfl (.nil _)))))
  refine x_then ?_
  refine wp_seq ?_
  refine wp_seq ?_
  refine wp_region_lit ?_
  refine st_val hS rfl rfl (by decide) (r_move rfl (hS.ev_ rfl)) fun a hS => ?_
  refine st_val hS rfl rfl (by decide) (r_len_sl rfl un_22 (hS.ev_ rfl) f6) fun a hS => ?_
  refine st_val hS rfl rfl (by decide) (r_cmp rfl (hS.ev_ rfl) (hS.ev_ rfl) rfl) fun a hS => ?_
  refine st_done ?_
  replace hS : Slots 35 [] a [(9, Value.bool (((p4.length : Int)) == 0)), (4, Value.int .i64 (0)), (0, v2), (1, v5)] := (hS.part (.cons rfl (.cons rfl (.cons rfl (.cons rfl (.nil _))))))
  refine x_then ?_
  rcases ifB h with ⟨hc7, h⟩ | ⟨hc7, h⟩
  · refine c_cond_true (hS.ev_ rfl) hc7 ?_
    refine wp_seq ?_
    refine wp_region_lit ?_
    refine st_val hS rfl rfl (by decide) (r_move rfl (hS.ev_ rfl)) fun a hS => ?_
    obtain ⟨y8, h9, h⟩ := bindO h
    have hc11 := unicode_utf8_RuneCount_c hG h9 f3 hM
    refine wl_cons rfl (e_call rfl Tryd.func29 rfl rfl (args1 (hS.ev_ rfl)) hc11 ?_)
    rintro _ w ⟨K10, hlK10, hM, rfl⟩
    refine ⟨_, rfl, ?_⟩
    refine pl hS rfl (by decide) fun a hS => ?_
    refine st_val hS rfl rfl (by decide) (r_add rfl (hS.ev_ rfl) (hS.ev_ rfl)) fun a hS => ?_
    refine st_val hS rfl rfl (by decide) (r_assign rfl (hS.ev_ rfl)) fun a hS => ?_
    refine st_done ?_
    replace hS : Slots 35 [] a [(4, Value.int .i64 (w64 (y8 + 1))), (0, v2), (1, v5)] := (hS.part (.cons rfl (.cons rfl (.cons rfl (.nil _)))))
    refine x_then ?_
    refine wp_ret ?_
    refine x_then_ret ?_
    have hr' := Option.some.inj h
    subst hr'
    refine ret1 (.inr rfl) hS rfl rfl ?_
    exact ⟨K10, hlK10, hM, rfl⟩
  · refine c_cond_false (hS.ev_ rfl) hc7 ?_
    refine wp_skip ?_
    refine x_then ?_
    refine wp_seq ?_
    refine wp_seq ?_
    refine wp_region_lit ?_
    refine st_val hS rfl rfl (by decide) (r_move rfl (hS.ev_ rfl)) fun a hS => ?_
    refine st_val hS rfl rfl (by decide) (r_len_sl rfl un_22 (hS.ev_ rfl) f6) fun a hS => ?_
    refine st_val hS rfl rfl (by decide) (r_cmp rfl (hS.ev_ rfl) (hS.ev_ rfl) rfl) fun a hS => ?_
    refine st_done ?_
    replace hS : Slots 35 [] a [(15, Value.bool (((p4.length : Int)) == 1)), (4, Value.int .i64 (0)), (0, v2), (1, v5)] := (hS.part (.cons rfl (.cons rfl (.cons rfl (.cons rfl (.nil _))))))
    refine x_then ?_
    rcases ifB h with ⟨hc12, h⟩ | ⟨hc12, h⟩
    · refine c_cond_true (hS.ev_ rfl) hc12 ?_
      refine wp_seq ?_
      refine wp_region_lit ?_
      refine st_val hS rfl rfl (by decide) (r_move rfl (hS.ev_ rfl)) fun a hS => ?_
      refine st_val hS rfl rfl (by decide) (r_move rfl (hS.ev_ rfl)) fun a hS => ?_
      obtain ⟨e13, h14, h⟩ := bindO h
      obtain ⟨ad15, cp16, cs17, hv18, hr19, h0_20, h1_21, hq22⟩ := sl_at f6 h14 (by decide)
      obtain rfl := hr19
      refine st_val hS rfl rfl (by decide) (r_idx_sl rfl un_22 ti_5 (hS.ev_ rfl) hv18 (hS.ev_ rfl) h0_20 h1_21) fun a hS => ?_
      refine st_val hS rfl rfl (by decide) (r_ld1_k rfl ag_5 (hS.ev_ rfl) hq22 rfl (Rd.up (Hp.le.refl _) hM.nil_)) fun a hS => ?_
      refine st_val hS rfl rfl (by decide) (r_extern (vs := [v2, Value.int .u8 (b8 (e13))]) (ex := Extern.BytealgCount.count) rfl Tryd.func30 rfl rfl (by kernel_rfl) (by kernel_rfl) (args2 (hS.ev_ rfl) (hS.ev_ rfl)) (x_countSl _ (Rd.of hM.nil_) f3)) fun a hS => ?_
      refine st_val hS rfl rfl (by decide) (r_assign rfl (hS.ev_ rfl)) fun a hS => ?_
      refine st_done ?_
      replace hS : Slots 35 [] a [(4, Value.int .i64 (cntB p1 e13)), (0, v2), (1, v5)] := (hS.part (.cons rfl (.cons rfl (.cons rfl (.nil _)))))
      refine x_then ?_
      refine wp_ret ?_
      refine x_then_ret ?_
      have hr' := Option.some.inj h
      subst hr'
      refine ret1 (.inr rfl) hS rfl rfl ?_
      exact ⟨K, (Hp.le.refl _), hM, rfl⟩
    · refine c_cond_false (hS.ev_ rfl) hc12 ?_
      refine wp_skip ?_
      refine x_then ?_
      refine wp_seq ?_
      refine wp_region_lit ?_
      refine st_val hS rfl rfl (by decide) (r_assign rfl (hS.ev_ rfl)) fun a hS => ?_
      refine st_done ?_
      replace hS : Slots 35 [] a [(5, Value.int .i64 (0)), (4, Value.int .i64 (0)), (0, v2), (1, v5)] := (hS.part (.cons rfl (.cons rfl (.cons rfl (.cons rfl (.nil _))))))
      refine x_then ?_
      refine wp_block ?_
      obtain ⟨o34, h35, h⟩ := bindO h
      refine c_loop_ways (fun e a w => (e = .ret ∧ ∃ (K36 : Hp), Hp.le K K36 ∧ Slots 35 [] a [(4, Value.int .i64 (o34))] ∧ Sat w0 w K36 (L))) ?_ ?_
      · intro c Q hc hQ
        have key : ∀ (x30 : Int) (x31 : List UInt8) (r' : Int), bytes_Count_l1 p4 x30 x31 = some r' → r' = o34 → ∀ (K29 : Hp) (v32 : Value) (a : Act) (w : World), Hp.le K K29 → Slots 35 [] a [(5, Value.int .i64 (x30)), (4, Value.int .i64 (0)), (0, v32), (1, v5)] → Sat w0 w K29 (L) → Kd.u8.sl K29 v32 x31 → Rnd Tryd.prog c Q a w := by
          refine bytes_Count_l1.partial_correctness p4 _ ?_
          intro bytes_Count_l1_rec ih x30 x31 r' h hr K29 v32 a w hlK29 hS hM f33
          subst hc
          refine c_round ?_
          refine wp_block ?_
          refine wp_seq ?_
          refine wp_region_lit ?_
          refine st_val hS rfl rfl (by decide) (r_move rfl (hS.ev_ rfl)) fun a hS => ?_
          refine st_val hS rfl rfl (by decide) (r_move rfl (hS.ev_ rfl)) fun a hS => ?_
          obtain ⟨y37, h38, h⟩ := bindO h
          have hc40 := bytes_Index_c hG h38 f33 (Kd.sl_mono hlK29 f6) hM
          refine wl_cons rfl (e_call rfl Tryd.func27 rfl rfl (args2 (hS.ev_ rfl) (hS.ev_ rfl)) hc40 ?_)
          rintro _ w ⟨K39, hlK39, hM, rfl⟩
          refine ⟨_, rfl, ?_⟩
          refine pl hS rfl (by decide) fun a hS => ?_
          refine st_val hS rfl rfl (by decide) (r_assign rfl (hS.ev_ rfl)) fun a hS => ?_
          refine st_done ?_
          replace hS : Slots 35 [] a [(6, Value.int .i64 (y37)), (5, Value.int .i64 (x30)), (4, Value.int .i64 (0)), (0, v32), (1, v5)] := (hS.part (.cons rfl (.cons rfl (.cons rfl (.cons rfl (.cons rfl (.nil _)))))))
          refine x_then ?_
          refine wp_seq ?_
          refine wp_seq ?_
          refine wp_region_lit ?_
          refine st_val hS rfl rfl (by decide) (r_move rfl (hS.ev_ rfl)) fun a hS => ?_
          refine st_val hS rfl rfl (by decide) (r_cmp rfl (hS.ev_ rfl) (hS.ev_ rfl) rfl) fun a hS => ?_
          refine st_done ?_
          replace hS : Slots 35 [] a [(25, Value.bool (y37 == ((-1)))), (6, Value.int .i64 (y37)), (5, Value.int .i64 (x30)), (4, Value.int .i64 (0)), (0, v32), (1, v5)] := (hS.part (.cons rfl (.cons rfl (.cons rfl (.cons rfl (.cons rfl (.cons rfl (.nil _))))))))
          refine x_then ?_
          rcases ifB h with ⟨hc41, h⟩ | ⟨hc41, h⟩
          · refine c_cond_true (hS.ev_ rfl) hc41 ?_
            refine wp_seq ?_
            refine wp_region_lit ?_
            refine st_val hS rfl rfl (by decide) (r_move rfl (hS.ev_ rfl)) fun a hS => ?_
            refine st_val hS rfl rfl (by decide) (r_assign rfl (hS.ev_ rfl)) fun a hS => ?_
            refine st_done ?_
            replace hS : Slots 35 [] a [(4, Value.int .i64 (x30)), (6, Value.int .i64 (y37)), (5, Value.int .i64 (x30)), (0, v32), (1, v5)] := (hS.part (.cons rfl (.cons rfl (.cons rfl (.cons rfl (.cons rfl (.nil _)))))))
            refine x_then ?_
            refine wp_ret ?_
            refine x_then_ret ?_
            refine x_block_ret ?_
            refine x_then_ret ?_
            have ho' := (Option.some.inj h).trans hr
            refine hQ _ _ _ ?_
            subst ho'
            exact ⟨rfl, K39, (hlK29.trans hlK39), (hS.part (.cons rfl (.nil _))), hM⟩
          · refine c_cond_false (hS.ev_ rfl) hc41 ?_
            refine wp_skip ?_
            refine x_then ?_
            refine wp_seq ?_
            refine wp_region_lit ?_
            refine st_val hS rfl rfl (by decide) (r_move rfl (hS.ev_ rfl)) fun a hS => ?_
            refine st_val hS rfl rfl (by decide) (r_add rfl (hS.ev_ rfl) (hS.ev_ rfl)) fun a hS => ?_
            refine st_val hS rfl rfl (by decide) (r_assign rfl (hS.ev_ rfl)) fun a hS => ?_
            refine st_done ?_
            replace hS : Slots 35 [] a [(5, Value.int .i64 (w64 (x30 + 1))), (6, Value.int .i64 (y37)), (4, Value.int .i64 (0)), (0, v32), (1, v5)] := (hS.part (.cons rfl (.cons rfl (.cons rfl (.cons rfl (.cons rfl (.nil _)))))))
            refine x_then ?_
            refine wp_region_lit ?_
            refine st_val hS rfl rfl (by decide) (r_move rfl (hS.ev_ rfl)) fun a hS => ?_
            refine st_val hS rfl rfl (by decide) (r_move rfl (hS.ev_ rfl)) fun a hS => ?_
            refine st_val hS rfl rfl (by decide) (r_move rfl (hS.ev_ rfl)) fun a hS => ?_
            refine st_val hS rfl rfl (by decide) (r_len_sl rfl un_22 (hS.ev_ rfl) f6) fun a hS => ?_
            refine st_val hS rfl rfl (by decide) (r_add rfl (hS.ev_ rfl) (hS.ev_ rfl)) fun a hS => ?_
            obtain ⟨s42, h43, h⟩ := bindO h
            obtain ⟨v44, f45, hu46⟩ := cut_sl (P := Tryd.prog) (a := a) (k' := .i64) (d := Kd.u8) (.tmp 29) (some (.tmp 33)) none un_22 ti_5 (hS.ev_ rfl) (Kd.sl_mono hlK39 f33) (.inl (congrArg some (hS.ev_ rfl))) (.inr ⟨rfl, rfl⟩) h43
            refine st_val hS rfl rfl (by decide) (hu46 _ _ rfl) fun a hS => ?_
            refine st_val hS rfl rfl (by decide) (r_assign rfl (hS.ev_ rfl)) fun a hS => ?_
            refine st_done ?_
            replace hS : Slots 35 [] a [(0, v44), (5, Value.int .i64 (w64 (x30 + 1))), (4, Value.int .i64 (0)), (1, v5)] := (hS.part (.cons rfl (.cons rfl (.cons rfl (.cons rfl (.nil _))))))
            refine x_block ?_
            refine x_then ?_
            exact ih (w64 (x30 + 1)) s42 _ h hr K39 (v44) _ _ (hlK29.trans hlK39) (hS.part (.cons rfl (.cons rfl (.cons rfl (.cons rfl (.nil _)))))) (hM) f45
        exact key 0 p1 _ h35 rfl K (v2) _ _ (Hp.le.refl _) (hS.part (.cons rfl (.cons rfl (.cons rfl (.cons rfl (.nil _)))))) (hM) f3
      · rintro e a w ⟨rfl, K36, hlK36, hS, hM⟩
        refine x_block_ret ?_
        have hr' := Option.some.inj h
        subst hr'
        refine ret1 (.inr rfl) hS rfl rfl ?_
        exact ⟨K36, hlK36, hM, rfl⟩

theorem unicode_utf8_decodeRuneSlow_c {w0 w : World} {K : Hp} {L : List SP} {p1 : List UInt8} {v2 : Value} {r : Int × Int} (hG : Glob w0) (h : unicode_utf8_decodeRuneSlow p1 = some r) (f3 : Kd.u8.sl K v2 p1) (hM : Sat w0 w K (L)) :
    Calls Tryd.prog 35 #[v2] w (fun e w' => ∃ (K' : Hp), Hp.le K K' ∧ Sat w0 w' K' (L) ∧ e = .returned (Value.tuple #[Value.int .i32 (r.1), Value.int .i64 (r.2)])) := by
  refine enter_ (n := 122) (args := [v2]) Tryd.func35 rfl rfl (Nat.le_of_ble_eq_true rfl) fun a hS => ?_
  replace hS : Slots 122 [] a [(0, v2)] := hS
  unfold unicode_utf8_decodeRuneSlow at h
  refine wp_seq ?_
  refine wp_region_lit ?_
  refine st_val hS rfl rfl (by decide) (r_assign rfl (hS.ev_ rfl)) fun a hS => ?_
  refine st_val hS rfl rfl (by decide) (r_assign rfl (hS.ev_ rfl)) fun a hS => ?_
  refine st_done ?_
  replace hS : Slots 122 [] a [(3, Value.int .i64 (0)), (2, Value.int .i32 (0)), (0, v2)] := (hS.part (.cons rfl (.cons rfl (.cons rfl (.nil _)))))
  refine x_then ?_
  refine wp_seq ?_
  refine wp_region_lit ?_
  refine st_val hS rfl rfl (by decide) (r_move rfl (hS.ev_ rfl)) fun a hS => ?_
  refine st_val hS rfl rfl (by decide) (r_len_sl rfl un_22 (hS.ev_ rfl) f3) fun a hS => ?_
  refine st_val hS rfl rfl (by decide) (r_assign rfl (hS.ev_ rfl)) fun a hS => ?_
  refine st_done ?_
  replace hS : Slots 122 [] a [(4, Value.int .i64 ((p1.length : Int))), (3, Value.int .i64 (0)), (2, Value.int .i32 (0)), (0, v2)] := (hS.part (.cons rfl (.cons rfl (.cons rfl (.cons rfl (.nil _))))))
  refine x_then ?_
  refine wp_seq ?_
  refine wp_seq ?_
  refine wp_region_lit ?_
  refine st_val hS rfl rfl (by decide) (r_move rfl (hS.ev_ rfl)) fun a hS => ?_
  refine st_val hS rfl rfl (by decide) (r_cmp rfl (hS.ev_ rfl) (hS.ev_ rfl) rfl) fun a hS => ?_
  refine st_done ?_
  replace hS : Slots 122 [] a [(16, Value.bool (decide (((p1.length : Int)) < 1))), (4, Value.int .i64 ((p1.length : Int))), (3, Value.int .i64 (0)), (2, Value.int .i32 (0)), (0, v2)] := (hS.part (.cons rfl (.cons rfl (.cons rfl (.cons rfl (.cons rfl (.nil _)))))))
  refine x_then ?_
  rcases ifB h with ⟨hc4, h⟩ | ⟨hc4, h⟩
  · refine c_cond_true (hS.ev_ rfl) hc4 ?_
    refine wp_seq ?_
    refine wp_region_lit ?_
    refine st_val hS rfl rfl (by decide) (r_assign rfl (hS.ev_ rfl)) fun a hS => ?_
    refine st_val hS rfl rfl (by decide) (r_assign rfl (hS.ev_ rfl)) fun a hS => ?_
    refine st_done ?_
    replace hS : Slots 122 [] a [(3, Value.int .i64 (0)), (2, Value.int .i32 (65533)), (4, Value.int .i64 ((p1.length : Int))), (0, v2)] := (hS.part (.cons rfl (.cons rfl (.cons rfl (.cons rfl (.nil _))))))
    refine x_then ?_
    refine wp_ret ?_
    refine x_then_ret ?_
    have hr' := Option.some.inj h
    subst hr'
    refine ret2 (.inr rfl) hS rfl rfl rfl ?_
    exact ⟨K, (Hp.le.refl _), hM, rfl⟩
  · refine c_cond_false (hS.ev_ rfl) hc4 ?_
    refine wp_skip ?_
    refine x_then ?_
    refine wp_seq ?_
    refine wp_region_lit ?_
    refine st_val hS rfl rfl (by decide) (r_move rfl (hS.ev_ rfl)) fun a hS => ?_
    obtain ⟨e5, h6, h⟩ := bindO h
    obtain ⟨ad7, cp8, cs9, hv10, hr11, h0_12, h1_13, hq14⟩ := sl_at f3 h6 (by decide)
    obtain rfl := hr11
    refine st_val hS rfl rfl (by decide) (r_idx_sl rfl un_22 ti_5 (hS.ev_ rfl) hv10 (hS.ev_ rfl) h0_12 h1_13) fun a hS => ?_
    refine st_val hS rfl rfl (by decide) (r_ld1_k rfl ag_5 (hS.ev_ rfl) hq14 rfl (Rd.up (Hp.le.refl _) hM.nil_)) fun a hS => ?_
    refine st_val hS rfl rfl (by decide) (r_assign rfl (hS.ev_ rfl)) fun a hS => ?_
    refine st_done ?_
    replace hS : Slots 122 [] a [(5, Value.int .u8 (b8 (e5))), (4, Value.int .i64 ((p1.length : Int))), (3, Value.int .i64 (0)), (2, Value.int .i32 (0)), (0, v2)] := (hS.part (.cons rfl (.cons rfl (.cons rfl (.cons rfl (.cons rfl (.nil _)))))))
    refine x_then ?_
    refine wp_seq ?_
    refine wp_region_lit ?_
    refine st_val hS rfl rfl (by decide) (r_move rfl (hS.ev_ rfl)) fun a hS => ?_
    cases h

theorem unicode_utf8_DecodeRune_c {w0 w : World} {K : Hp} {L : List SP} {p1 : List UInt8} {v2 : Value} {r : Int × Int} (hG : Glob w0) (h : unicode_utf8_DecodeRune p1 = some r) (f3 : Kd.u8.sl K v2 p1) (hM : Sat w0 w K (L)) :
    Calls Tryd.prog 28 #[v2] w (fun e w' => ∃ (K' : Hp), Hp.le K K' ∧ Sat w0 w' K' (L) ∧ e = .returned (Value.tuple #[Value.int .i32 (r.1), Value.int .i64 (r.2)])) := by
  refine enter_ (n := 22) (args := [v2]) Tryd.func28 rfl rfl (Nat.le_of_ble_eq_true rfl) fun a hS => ?_
  replace hS : Slots 22 [] a [(0, v2)] := hS
  unfold unicode_utf8_DecodeRune at h
  refine wp_seq ?_
  refine wp_region_lit ?_
  refine st_val hS rfl rfl (by decide) (r_assign rfl (hS.ev_ rfl)) fun a hS => ?_
  refine st_val hS rfl rfl (by decide) (r_assign rfl (hS.ev_ rfl)) fun a hS => ?_
  refine st_done ?_
  replace hS : Slots 22 [] a [(3, Value.int .i64 (0)), (2, Value.int .i32 (0)), (0, v2)] := (hS.part (.cons rfl (.cons rfl (.cons rfl (.nil _)))))
  refine x_then ?_
  extract_lets k5 at h
  refine c_cut (fun a w => ∃ (K4 : Hp), Hp.le K K4 ∧ k5 () = some r ∧ Slots 22 [] a [(0, v2), (2, Value.int .i32 (0)), (3, Value.int .i64 (0))] ∧ Sat w0 w K4 (L)) ?_ ?_
  ·
    refine wp_seq ?_
    refine wp_region_lit ?_
    refine st_val hS rfl rfl (by decide) (r_move rfl (hS.ev_ rfl)) fun a hS => ?_
    refine st_val hS rfl rfl (by decide) (r_len_sl rfl un_22 (hS.ev_ rfl) f3) fun a hS => ?_
    refine st_val hS rfl rfl (by decide) (r_move rfl (hS.ev_ rfl)) fun a hS => ?_
    refine st_done ?_
    replace hS : Slots 22 [] a [(8, Value.int .i64 (0)), (7, Value.int .i64 ((p1.length : Int))), (6, v2), (3, Value.int .i64 (0)), (2, Value.int .i32 (0)), (0, v2)] := (hS.part (.cons rfl (.cons rfl (.cons rfl (.cons rfl (.cons rfl (.cons rfl (.nil _))))))))
    refine x_then ?_
    refine wp_block ?_
    cases h
  · rintro a w ⟨K4, hlK4, h6, hS, hM⟩
    simp only [k5] at h6
    refine wp_seq ?_
    refine wp_region_lit ?_
    refine st_val hS rfl rfl (by decide) (r_move rfl (hS.ev_ rfl)) fun a hS => ?_
    obtain ⟨y27, h28, h6⟩ := bindO h6
    have hc30 := unicode_utf8_decodeRuneSlow_c hG h28 (Kd.sl_mono hlK4 f3) hM
    refine wl_cons rfl (e_call rfl Tryd.func35 rfl rfl (args1 (hS.ev_ rfl)) hc30 ?_)
    rintro _ w ⟨K29, hlK29, hM, rfl⟩
    refine ⟨_, rfl, ?_⟩
    refine pl hS rfl (by decide) fun a hS => ?_
    refine st_val hS rfl rfl (by decide) (r_move rfl (hS.ev_ rfl)) fun a hS => ?_
    refine st_val hS rfl rfl (by decide) (r_extract rfl (hS.ev_ rfl) rfl) fun a hS => ?_
    refine st_val hS rfl rfl (by decide) (r_extract rfl (hS.ev_ rfl) rfl) fun a hS => ?_
    refine st_val hS rfl rfl (by decide) (r_assign rfl (hS.ev_ rfl)) fun a hS => ?_
    refine st_val hS rfl rfl (by decide) (r_assign rfl (hS.ev_ rfl)) fun a hS => ?_
    refine st_done ?_
    replace hS : Slots 22 [] a [(3, Value.int .i64 (y27.2)), (2, Value.int .i32 (y27.1))] := (hS.part (.cons rfl (.cons rfl (.nil _))))
    refine x_then ?_
    refine wp_ret ?_
    have hr' := Option.some.inj h6
    subst hr'
    refine ret2 (.inr rfl) hS rfl rfl rfl ?_
    exact ⟨K29, (hlK4.trans hlK29), hM, rfl⟩

theorem bytes_Replace_c {w0 w : World} {K : Hp} {L : List SP} {p1 : List UInt8} {p4 : List UInt8} {p7 : List UInt8} {p10 : Int} {v2 : Value} {v5 : Value} {v8 : Value} {r : List UInt8} (hG : Glob w0) (h : bytes_Replace p1 p4 p7 p10 = some r) (f3 : Kd.u8.sl K v2 p1) (f6 : Kd.u8.sl K v5 p4) (f9 : Kd.u8.sl K v8 p7) (hM : Sat w0 w K (L)) :
    Calls Tryd.prog 24 #[v2, v5, v8, Value.int .i64 (p10)] w (fun e w' => ∃ (K' : Hp) (v'1 : Value), Hp.le K K' ∧ Sat w0 w' K' (L) ∧ e = .returned (v'1) ∧ Kd.u8.sl K' v'1 r) := by
  refine enter_ (n := 132) (args := [v2, v5, v8, Value.int .i64 (p10)]) Tryd.func24 rfl rfl (Nat.le_of_ble_eq_true rfl) fun a hS => ?_
  replace hS : Slots 132 [] a [(0, v2), (1, v5), (2, v8), (3, Value.int .i64 (p10))] := hS
  unfold bytes_Replace at h
  refine wp_seq ?_
  refine wp_region_lit ?_
  refine st_val hS rfl rfl (by decide) (r_assign rfl (hS.ev_ rfl)) fun a hS => ?_
  refine st_done ?_
  replace hS : Slots 132 [] a [(8, Value.slice none 0 0), (0, v2), (1, v5), (2, v8), (3, Value.int .i64 (p10))] := (hS.part (.cons rfl (.cons rfl (.cons rfl (.cons rfl (.cons rfl (.nil _)))))))
  refine x_then ?_
  refine wp_seq ?_
  refine wp_region_lit ?_
  refine st_val hS rfl rfl (by decide) (r_assign rfl (hS.ev_ rfl)) fun a hS => ?_
  refine st_done ?_
  replace hS : Slots 132 [] a [(9, Value.int .i64 (0)), (8, Value.slice none 0 0), (0, v2), (1, v5), (2, v8), (3, Value.int .i64 (p10))] := (hS.part (.cons rfl (.cons rfl (.cons rfl (.cons rfl (.cons rfl (.cons rfl (.nil _))))))))
  refine x_then ?_
  obtain ⟨x12, h13, h⟩ := bindO h
  refine c_cut (fun a w => ∃ (K11 : Hp), Hp.le K K11 ∧ Slots 132 [] a [(0, v2), (1, v5), (2, v8), (3, Value.int .i64 (p10)), (8, Value.slice none 0 0), (9, Value.int .i64 (x12))] ∧ Sat w0 w K11 (L)) ?_ ?_
  ·
    refine wp_seq ?_
    refine wp_region_lit ?_
    refine st_val hS rfl rfl (by decide) (r_move rfl (hS.ev_ rfl)) fun a hS => ?_
    refine st_val hS rfl rfl (by decide) (r_cmp rfl (hS.ev_ rfl) (hS.ev_ rfl) rfl) fun a hS => ?_
    refine st_done ?_
    replace hS : Slots 132 [] a [(18, Value.bool (p10 != 0)), (9, Value.int .i64 (0)), (8, Value.slice none 0 0), (0, v2), (1, v5), (2, v8), (3, Value.int .i64 (p10))] := (hS.part (.cons rfl (.cons rfl (.cons rfl (.cons rfl (.cons rfl (.cons rfl (.cons rfl (.nil _)))))))))
    refine x_then ?_
    rcases ifB h13 with ⟨hc14, h13⟩ | ⟨hc14, h13⟩
    · refine c_cond_true (hS.ev_ rfl) hc14 ?_
      refine wp_region_lit ?_
      refine st_val hS rfl rfl (by decide) (r_move rfl (hS.ev_ rfl)) fun a hS => ?_
      refine st_val hS rfl rfl (by decide) (r_move rfl (hS.ev_ rfl)) fun a hS => ?_
      obtain ⟨y15, h16, h13⟩ := bindO h13
      have hc18 := bytes_Count_c hG h16 f3 f6 hM
      refine wl_cons rfl (e_call rfl Tryd.func26 rfl rfl (args2 (hS.ev_ rfl) (hS.ev_ rfl)) hc18 ?_)
      rintro _ w ⟨K17, hlK17, hM, rfl⟩
      refine ⟨_, rfl, ?_⟩
      refine pl hS rfl (by decide) fun a hS => ?_
      refine st_val hS rfl rfl (by decide) (r_assign rfl (hS.ev_ rfl)) fun a hS => ?_
      refine st_done ?_
      replace hS : Slots 132 [] a [(9, Value.int .i64 (y15)), (8, Value.slice none 0 0), (0, v2), (1, v5), (2, v8), (3, Value.int .i64 (p10))] := (hS.part (.cons rfl (.cons rfl (.cons rfl (.cons rfl (.cons rfl (.cons rfl (.nil _))))))))
      refine x_then ?_
      obtain rfl := Option.some.inj h13
      exact ⟨K17, hlK17, (hS.part (.cons rfl (.cons rfl (.cons rfl (.cons rfl (.cons rfl (.cons rfl (.nil _)))))))), hM⟩
    · refine c_cond_false (hS.ev_ rfl) hc14 ?_
      refine wp_skip ?_
      refine x_then ?_
      obtain rfl := Option.some.inj h13
      exact ⟨K, (Hp.le.refl _), (hS.part (.cons rfl (.cons rfl (.cons rfl (.cons rfl (.cons rfl (.cons rfl (.nil _)))))))), hM⟩
  · rintro a w ⟨K11, hlK11, hS, hM⟩
    refine wp_seq ?_
    refine wp_seq ?_
    refine wp_region_lit ?_
    refine st_val hS rfl rfl (by decide) (r_move rfl (hS.ev_ rfl)) fun a hS => ?_
    refine st_val hS rfl rfl (by decide) (r_cmp rfl (hS.ev_ rfl) (hS.ev_ rfl) rfl) fun a hS => ?_
    refine st_done ?_
    replace hS : Slots 132 [] a [(23, Value.bool (x12 == 0)), (0, v2), (1, v5), (2, v8), (3, Value.int .i64 (p10)), (8, Value.slice none 0 0), (9, Value.int .i64 (x12))] := (hS.part (.cons rfl (.cons rfl (.cons rfl (.cons rfl (.cons rfl (.cons rfl (.cons rfl (.nil _)))))))))
    refine x_then ?_
    rcases ifB h with ⟨hc19, h⟩ | ⟨hc19, h⟩
    · refine c_cond_true (hS.ev_ rfl) hc19 ?_
      refine wp_seq ?_
      refine wp_region_lit ?_
      refine st_val hS rfl rfl (by decide) (r_move rfl (hS.ev_ rfl)) fun a hS => ?_
      replace hM := hM.row_nil Kd.u8 5
      obtain ⟨h21, h⟩ := bindU h
      refine wl_cons rfl (e_apd_sl hM rfl un_22 un_22 ti_5 rfl rfl (by decide) (hS.ev_ rfl) (hS.ev_ rfl) (Kd.sl_mono hlK11 f3) (req_some h21) fun v22 w hM => ?_)
      refine pl hS rfl (by decide) fun a hS => ?_
      refine st_val hS rfl rfl (by decide) (r_assign rfl (hS.ev_ rfl)) fun a hS => ?_
      refine st_done ?_
      replace hS : Slots 132 [] a [(8, v22), (0, v2), (1, v5), (2, v8), (3, Value.int .i64 (p10)), (9, Value.int .i64 (x12))] := (hS.part (.cons rfl (.cons rfl (.cons rfl (.cons rfl (.cons rfl (.cons rfl (.nil _))))))))
      refine x_then ?_
      refine wp_ret ?_
      refine x_then_ret ?_
      obtain ⟨K23, hlK23, hM, f24⟩ := keep_row hM
      have hr' := Option.some.inj h
      subst hr'
      refine ret1 (.inr rfl) hS rfl rfl ?_
      exact ⟨K23, (v22), (hlK11.trans hlK23), hM, rfl, f24⟩
    · refine c_cond_false (hS.ev_ rfl) hc19 ?_
      refine wp_skip ?_
      refine x_then ?_
      obtain ⟨x25, h26, h⟩ := bindO h
      refine c_cut (fun a w => Slots 132 [] a [(0, v2), (1, v5), (2, v8), (8, Value.slice none 0 0), (3, Value.int .i64 (x25))] ∧ Sat w0 w K11 (L)) ?_ ?_
      ·
        refine wp_seq ?_
        refine wp_region_lit ?_
        refine st_val hS rfl rfl (by decide) (r_move rfl (hS.ev_ rfl)) fun a hS => ?_
        refine st_val hS rfl rfl (by decide) (r_cmp rfl (hS.ev_ rfl) (hS.ev_ rfl) rfl) fun a hS => ?_
        refine st_val hS rfl rfl (by decide) (r_move rfl (hS.ev_ rfl)) fun a hS => ?_
        obtain ⟨x27, h28, h26⟩ := bindO h26
        refine wl_cut 4 (fun a w => Slots 132 [] a [(0, v2), (1, v5), (2, v8), (3, Value.int .i64 (p10)), (8, Value.slice none 0 0), (9, Value.int .i64 (x12)), (32, Value.bool (x27))] ∧ Sat w0 w K11 (L)) ?_ ?_
        ·
          skip
          rcases ifB h28 with ⟨hc29, h28⟩ | ⟨hc29, h28⟩
          ·
            replace hS := hS.known (k := 28) rfl hc29
            refine st_off hS rfl rfl rfl rfl rfl rfl (by decide) fun a hS => ?_
            refine st_off hS rfl rfl rfl rfl rfl rfl (by decide) fun a hS => ?_
            refine st_off hS rfl rfl rfl rfl rfl rfl (by decide) fun a hS => ?_
            refine st_val hS rfl rfl (by decide) (r_pick_true rfl (hS.ev_ rfl) rfl (hS.ev_ rfl)) fun a hS => ?_
            refine st_done ?_
            replace hS : Slots 132 [] a [(32, Value.bool (true)), (0, v2), (1, v5), (2, v8), (3, Value.int .i64 (p10)), (8, Value.slice none 0 0), (9, Value.int .i64 (x12))] := (hS.part (.cons rfl (.cons rfl (.cons rfl (.cons rfl (.cons rfl (.cons rfl (.cons rfl (.nil _)))))))))
            refine x_then ?_
            obtain rfl := Option.some.inj h28
            exact ⟨(hS.part (.cons rfl (.cons rfl (.cons rfl (.cons rfl (.cons rfl (.cons rfl (.cons rfl (.nil _))))))))), hM⟩
          ·
            replace hS := hS.known (k := 28) rfl hc29
            refine st_want hS rfl rfl rfl rfl rfl (by decide) (r_move rfl (hS.ev_ rfl)) fun a hS => ?_
            refine st_want hS rfl rfl rfl rfl rfl (by decide) (r_move rfl (hS.ev_ rfl)) fun a hS => ?_
            refine st_want hS rfl rfl rfl rfl rfl (by decide) (r_cmp rfl (hS.ev_ rfl) (hS.ev_ rfl) rfl) fun a hS => ?_
            refine st_val hS rfl rfl (by decide) (r_pick_false rfl (hS.ev_ rfl) rfl (hS.ev_ rfl)) fun a hS => ?_
            refine st_done ?_
            replace hS : Slots 132 [] a [(32, Value.bool (decide (x12 < p10))), (0, v2), (1, v5), (2, v8), (3, Value.int .i64 (p10)), (8, Value.slice none 0 0), (9, Value.int .i64 (x12))] := (hS.part (.cons rfl (.cons rfl (.cons rfl (.cons rfl (.cons rfl (.cons rfl (.cons rfl (.nil _)))))))))
            refine x_then ?_
            obtain rfl := Option.some.inj h28
            exact ⟨(hS.part (.cons rfl (.cons rfl (.cons rfl (.cons rfl (.cons rfl (.cons rfl (.cons rfl (.nil _))))))))), hM⟩
        · rintro a w ⟨hS, hM⟩
          refine st_done ?_
          replace hS : Slots 132 [] a [(0, v2), (1, v5), (2, v8), (3, Value.int .i64 (p10)), (8, Value.slice none 0 0), (9, Value.int .i64 (x12)), (32, Value.bool (x27))] := (hS.part (.cons rfl (.cons rfl (.cons rfl (.cons rfl (.cons rfl (.cons rfl (.cons rfl (.nil _)))))))))
          refine x_then ?_
          rcases ifB h26 with ⟨hc30, h26⟩ | ⟨hc30, h26⟩
          · refine c_cond_true (hS.ev_ rfl) hc30 ?_
            refine wp_region_lit ?_
            refine st_val hS rfl rfl (by decide) (r_move rfl (hS.ev_ rfl)) fun a hS => ?_
            refine st_val hS rfl rfl (by decide) (r_assign rfl (hS.ev_ rfl)) fun a hS => ?_
            refine st_done ?_
            replace hS : Slots 132 [] a [(3, Value.int .i64 (x12)), (0, v2), (1, v5), (2, v8), (8, Value.slice none 0 0)] := (hS.part (.cons rfl (.cons rfl (.cons rfl (.cons rfl (.cons rfl (.nil _)))))))
            refine x_then ?_
            obtain rfl := Option.some.inj h26
            exact ⟨(hS.part (.cons rfl (.cons rfl (.cons rfl (.cons rfl (.cons rfl (.nil _))))))), hM⟩
          · refine c_cond_false (hS.ev_ rfl) hc30 ?_
            refine wp_skip ?_
            refine x_then ?_
            obtain rfl := Option.some.inj h26
            exact ⟨(hS.part (.cons rfl (.cons rfl (.cons rfl (.cons rfl (.cons rfl (.nil _))))))), hM⟩
      · rintro a w ⟨hS, hM⟩
        refine wp_seq ?_
        refine wp_region_lit ?_
        refine st_val hS rfl rfl (by decide) (r_move rfl (hS.ev_ rfl)) fun a hS => ?_
        refine st_val hS rfl rfl (by decide) (r_len_sl rfl un_22 (hS.ev_ rfl) f3) fun a hS => ?_
        refine st_val hS rfl rfl (by decide) (r_move rfl (hS.ev_ rfl)) fun a hS => ?_
        refine st_val hS rfl rfl (by decide) (r_move rfl (hS.ev_ rfl)) fun a hS => ?_
        refine st_val hS rfl rfl (by decide) (r_len_sl rfl un_22 (hS.ev_ rfl) f9) fun a hS => ?_
        refine st_val hS rfl rfl (by decide) (r_move rfl (hS.ev_ rfl)) fun a hS => ?_
        refine st_val hS rfl rfl (by decide) (r_len_sl rfl un_22 (hS.ev_ rfl) f6) fun a hS => ?_
        refine st_val hS rfl rfl (by decide) (r_sub rfl (hS.ev_ rfl) (hS.ev_ rfl)) fun a hS => ?_
        refine st_val hS rfl rfl (by decide) (r_mul rfl (hS.ev_ rfl) (hS.ev_ rfl)) fun a hS => ?_
        refine st_val hS rfl rfl (by decide) (r_add rfl (hS.ev_ rfl) (hS.ev_ rfl)) fun a hS => ?_
        obtain ⟨h31, h⟩ := bindU h
        refine wl_cons rfl (e_make (d := Kd.u8) (x0 := 0) (u := Value.int .u8 0) hM rfl un_22 ti_5 rfl rfl rfl (hS.ev_ rfl) (hS.ev_ rfl) (req_some h31) fun v32 w hM => ?_)
        refine pl hS rfl (by decide) fun a hS => ?_
        refine st_val hS rfl rfl (by decide) (r_assign rfl (hS.ev_ rfl)) fun a hS => ?_
        refine st_done ?_
        replace hS : Slots 132 [] a [(10, v32), (0, v2), (1, v5), (2, v8), (8, Value.slice none 0 0), (3, Value.int .i64 (x25))] := (hS.part (.cons rfl (.cons rfl (.cons rfl (.cons rfl (.cons rfl (.cons rfl (.nil _))))))))
        refine x_then ?_
        refine wp_seq ?_
        refine wp_region_lit ?_
        refine st_val hS rfl rfl (by decide) (r_assign rfl (hS.ev_ rfl)) fun a hS => ?_
        refine st_done ?_
        replace hS : Slots 132 [] a [(11, Value.int .i64 (0)), (10, v32), (0, v2), (1, v5), (2, v8), (8, Value.slice none 0 0), (3, Value.int .i64 (x25))] := (hS.part (.cons rfl (.cons rfl (.cons rfl (.cons rfl (.cons rfl (.cons rfl (.cons rfl (.nil _)))))))))
        refine x_then ?_
        refine wp_seq ?_
        refine wp_region_lit ?_
        refine st_val hS rfl rfl (by decide) (r_assign rfl (hS.ev_ rfl)) fun a hS => ?_
        refine st_done ?_
        replace hS : Slots 132 [] a [(12, Value.int .i64 (0)), (11, Value.int .i64 (0)), (10, v32), (0, v2), (1, v5), (2, v8), (8, Value.slice none 0 0), (3, Value.int .i64 (x25))] := (hS.part (.cons rfl (.cons rfl (.cons rfl (.cons rfl (.cons rfl (.cons rfl (.cons rfl (.cons rfl (.nil _))))))))))
        refine x_then ?_
        obtain ⟨x35, h36, h⟩ := bindO h
        refine c_cut (fun a w => ∃ (K34 : Hp), Hp.le K11 K34 ∧ Slots 132 [] a [(0, v2), (8, Value.slice none 0 0), (10, v32), (11, Value.int .i64 (x35.1)), (12, Value.int .i64 (x35.2.1))] ∧ Sat w0 w K34 (SP.row Kd.u8 5 v32 x35.2.2 :: L)) ?_ ?_
        ·
          refine wp_seq ?_
          refine wp_region_lit ?_
          refine st_val hS rfl rfl (by decide) (r_move rfl (hS.ev_ rfl)) fun a hS => ?_
          refine st_val hS rfl rfl (by decide) (r_len_sl rfl un_22 (hS.ev_ rfl) f6) fun a hS => ?_
          refine st_val hS rfl rfl (by decide) (r_cmp rfl (hS.ev_ rfl) (hS.ev_ rfl) rfl) fun a hS => ?_
          refine st_done ?_
          replace hS : Slots 132 [] a [(47, Value.bool (decide (((p4.length : Int)) > 0))), (12, Value.int .i64 (0)), (11, Value.int .i64 (0)), (10, v32), (0, v2), (1, v5), (2, v8), (8, Value.slice none 0 0), (3, Value.int .i64 (x25))] := (hS.part (.cons rfl (.cons rfl (.cons rfl (.cons rfl (.cons rfl (.cons rfl (.cons rfl (.cons rfl (.cons rfl (.nil _)))))))))))
          refine x_then ?_
          rcases ifB h36 with ⟨hc37, h36⟩ | ⟨hc37, h36⟩
          · refine c_cond_true (hS.ev_ rfl) hc37 ?_
            refine wp_seq ?_
            refine wp_region_lit ?_
            refine st_val hS rfl rfl (by decide) (r_move rfl (hS.ev_ rfl)) fun a hS => ?_
            refine st_val hS rfl rfl (by decide) (r_move rfl (hS.ev_ rfl)) fun a hS => ?_
            refine st_done ?_
            replace hS : Slots 132 [] a [(49, Value.int .i64 (0)), (48, Value.int .i64 (x25)), (12, Value.int .i64 (0)), (11, Value.int .i64 (0)), (10, v32), (0, v2), (1, v5), (2, v8), (8, Value.slice none 0 0)] := (hS.part (.cons rfl (.cons rfl (.cons rfl (.cons rfl (.cons rfl (.cons rfl (.cons rfl (.cons rfl (.cons rfl (.nil _)))))))))))
            refine x_then ?_
            refine wp_block ?_
            obtain ⟨o49, h50, h36⟩ := bindO h36
            refine c_loop_ways (fun e a w => (e = .exit 0 ∧ ∃ (K51 : Hp), Hp.le K11 K51 ∧ Slots 132 [] a [(0, v2), (8, Value.slice none 0 0), (10, v32), (11, Value.int .i64 (o49.1)), (12, Value.int .i64 (o49.2.1))] ∧ Sat w0 w K51 (SP.row Kd.u8 5 v32 o49.2.2 :: L))) ?_ ?_
            · intro c Q hc hQ
              have key : ∀ (x45 : Int) (x46 : Int) (x47 : Int) (x48 : List UInt8) (r' : Int × Int × (List UInt8)), bytes_Replace_l1 x25 p1 p4 p7 x45 x46 x47 x48 = some r' → r' = o49 → ∀ (K44 : Hp) (a : Act) (w : World), Hp.le K11 K44 → Slots 132 [] a [(49, Value.int .i64 (x45)), (48, Value.int .i64 (x25)), (12, Value.int .i64 (x46)), (11, Value.int .i64 (x47)), (10, v32), (0, v2), (1, v5), (2, v8), (8, Value.slice none 0 0)] → Sat w0 w K44 (SP.row Kd.u8 5 v32 x48 :: L) → Rnd Tryd.prog c Q a w := by
                refine bytes_Replace_l1.partial_correctness x25 p1 p4 p7 _ ?_
                intro bytes_Replace_l1_rec ih x45 x46 x47 x48 r' h hr K44  a w hlK44 hS hM 
                subst hc
                refine c_round ?_
                refine wp_seq ?_
                refine wp_region_lit ?_
                refine st_val hS rfl rfl (by decide) (r_cmp rfl (hS.ev_ rfl) (hS.ev_ rfl) rfl) fun a hS => ?_
                refine st_done ?_
                replace hS : Slots 132 [] a [(50, Value.bool (decide (x45 < x25))), (49, Value.int .i64 (x45)), (48, Value.int .i64 (x25)), (12, Value.int .i64 (x46)), (11, Value.int .i64 (x47)), (10, v32), (0, v2), (1, v5), (2, v8), (8, Value.slice none 0 0)] := (hS.part (.cons rfl (.cons rfl (.cons rfl (.cons rfl (.cons rfl (.cons rfl (.cons rfl (.cons rfl (.cons rfl (.cons rfl (.nil _))))))))))))
                refine x_then ?_
                refine wp_seq ?_
                rcases ifB h with ⟨hc52, h⟩ | ⟨hc52, h⟩
                · refine c_cond_true (hS.ev_ rfl) hc52 ?_
                  refine wp_skip ?_
                  refine x_then ?_
                  refine wp_seq ?_
                  refine wp_block ?_
                  refine wp_seq ?_
                  refine wp_region_lit ?_
                  refine st_val hS rfl rfl (by decide) (r_move rfl (hS.ev_ rfl)) fun a hS => ?_
                  refine st_val hS rfl rfl (by decide) (r_move rfl (hS.ev_ rfl)) fun a hS => ?_
                  refine st_val hS rfl rfl (by decide) (r_move rfl (hS.ev_ rfl)) fun a hS => ?_
                  obtain ⟨s53, h54, h⟩ := bindO h
                  obtain ⟨v55, f56, hu57⟩ := cut_sl (P := Tryd.prog) (a := a) (k' := .i64) (d := Kd.u8) (.tmp 52) (some (.tmp 53)) none un_22 ti_5 (hS.ev_ rfl) (Kd.sl_mono (hlK11.trans hlK44) f3) (.inl (congrArg some (hS.ev_ rfl))) (.inr ⟨rfl, rfl⟩) h54
                  refine st_val hS rfl rfl (by decide) (hu57 _ _ rfl) fun a hS => ?_
                  refine st_val hS rfl rfl (by decide) (r_move rfl (hS.ev_ rfl)) fun a hS => ?_
                  obtain ⟨y58, h59, h⟩ := bindO h
                  have hc61 := bytes_Index_c hG h59 f56 (Kd.sl_mono (hlK11.trans hlK44) f6) hM
                  refine wl_cons rfl (e_call rfl Tryd.func27 rfl rfl (args2 (hS.ev_ rfl) (hS.ev_ rfl)) hc61 ?_)
                  rintro _ w ⟨K60, hlK60, hM, rfl⟩
                  refine ⟨_, rfl, ?_⟩
                  refine pl hS rfl (by decide) fun a hS => ?_
                  refine st_val hS rfl rfl (by decide) (r_add rfl (hS.ev_ rfl) (hS.ev_ rfl)) fun a hS => ?_
                  refine st_val hS rfl rfl (by decide) (r_assign rfl (hS.ev_ rfl)) fun a hS => ?_
                  refine st_done ?_
                  replace hS : Slots 132 [] a [(13, Value.int .i64 (w64 (x46 + y58))), (49, Value.int .i64 (x45)), (48, Value.int .i64 (x25)), (12, Value.int .i64 (x46)), (11, Value.int .i64 (x47)), (10, v32), (0, v2), (1, v5), (2, v8), (8, Value.slice none 0 0)] := (hS.part (.cons rfl (.cons rfl (.cons rfl (.cons rfl (.cons rfl (.cons rfl (.cons rfl (.cons rfl (.cons rfl (.cons rfl (.nil _))))))))))))
                  refine x_then ?_
                  refine wp_seq ?_
                  refine tk_start #[false, false, false, false, false, false, false, false, false, false, false] mixed_ rfl rfl ?_
                  replace hM := hM.drew
                  generalize w.drew = w at hM ⊢
                  refine dk_any (i := 0) #[true, false, false, false, false, false, false, false, false, false, false] hS rfl (by kernel_rfl) rfl rfl (by decide) (fun w => r_move rfl (hS.ev_ rfl)) fun a hS => ?_
                  refine dk_any (i := 1) #[true, true, false, false, false, false, false, false, false, false, false] hS rfl (by kernel_rfl) rfl rfl (by decide) (fun w => r_move rfl (hS.ev_ rfl)) fun a hS => ?_
                  refine dk_any (i := 2) #[true, true, true, false, false, false, false, false, false, false, false] hS rfl (by kernel_rfl) rfl rfl (by decide) (fun w => r_move rfl (hS.ev_ rfl)) fun a hS => ?_
                  obtain ⟨s62, h63, h⟩ := bindO h
                  obtain ⟨v64, hs65, h0_66, hu67⟩ := cut_row (P := Tryd.prog) (a := a) (k' := .i64) (.tmp 59) (some (.tmp 60)) none un_22 ti_5 (hS.ev_ rfl) hM (.inl (congrArg some (hS.ev_ rfl))) (.inr ⟨rfl, rfl⟩) h63
                  refine dk_any (i := 3) #[true, true, true, true, false, false, false, false, false, false, false] hS rfl (by kernel_rfl) rfl rfl (by decide) (fun w => hu67 _ _ rfl) fun a hS => ?_
                  refine dk_any (i := 4) #[true, true, true, true, true, false, false, false, false, false, false] hS rfl (by kernel_rfl) rfl rfl (by decide) (fun w => r_move rfl (hS.ev_ rfl)) fun a hS => ?_
                  refine dk_any (i := 5) #[true, true, true, true, true, true, false, false, false, false, false] hS rfl (by kernel_rfl) rfl rfl (by decide) (fun w => r_move rfl (hS.ev_ rfl)) fun a hS => ?_
                  refine dk_any (i := 6) #[true, true, true, true, true, true, true, false, false, false, false] hS rfl (by kernel_rfl) rfl rfl (by decide) (fun w => r_move rfl (hS.ev_ rfl)) fun a hS => ?_
                  obtain ⟨s68, h69, h⟩ := bindO h
                  obtain ⟨v70, f71, hu72⟩ := cut_sl (P := Tryd.prog) (a := a) (d := Kd.u8) (.tmp 62) (some (.tmp 63)) (some (.tmp 64)) un_22 ti_5 (hS.ev_ rfl) (Kd.sl_mono ((hlK11.trans hlK44).trans hlK60) f3) (.inl (congrArg some (hS.ev_ rfl))) (.inl (congrArg some (hS.ev_ rfl))) h69
                  refine dk_any (i := 7) #[true, true, true, true, true, true, true, true, false, false, false] hS rfl (by kernel_rfl) rfl rfl (by decide) (fun w => hu72 _ _ rfl) fun a hS => ?_
                  refine dk_one (i := 8) #[true, true, true, true, true, true, true, true, true, false, false] rfl (by kernel_rfl) rfl (e_copy_sl hM rfl un_22 ti_5 rfl (hS.ev_ rfl) hs65 (hS.ev_ rfl) f71 fun w hM => ?_)
                  refine pT hS rfl (by decide) Dem.nil fun a hS => ?_
                  refine dk_any (i := 9) #[true, true, true, true, true, true, true, true, true, true, false] hS rfl (by kernel_rfl) rfl rfl (by decide) (fun w => r_add rfl (hS.ev_ rfl) (hS.ev_ rfl)) fun a hS => ?_
                  refine dk_any (i := 10) #[true, true, true, true, true, true, true, true, true, true, true] hS rfl (by kernel_rfl) rfl rfl (by decide) (fun w => r_assign rfl (hS.ev_ rfl)) fun a hS => ?_
                  refine tk_done (by kernel_rfl) ?_
                  replace hS : Slots 132 [] a [(11, Value.int .i64 (w64 (x47 + (((min s68.length ((((x48.length : Int)).toNat - x47.toNat)) : Nat) : Int))))), (13, Value.int .i64 (w64 (x46 + y58))), (49, Value.int .i64 (x45)), (48, Value.int .i64 (x25)), (12, Value.int .i64 (x46)), (10, v32), (0, v2), (1, v5), (2, v8), (8, Value.slice none 0 0)] := (hS.part (.cons rfl (.cons rfl (.cons rfl (.cons rfl (.cons rfl (.cons rfl (.cons rfl (.cons rfl (.cons rfl (.cons rfl (.nil _))))))))))))
                  refine x_then ?_
                  refine wp_seq ?_
                  refine wp_region_lit ?_
                  refine st_val hS rfl rfl (by decide) (r_move rfl (hS.ev_ rfl)) fun a hS => ?_
                  refine st_val hS rfl rfl (by decide) (r_move rfl (hS.ev_ rfl)) fun a hS => ?_
                  refine st_val hS rfl rfl (by decide) (r_move rfl (hS.ev_ rfl)) fun a hS => ?_
                  obtain ⟨s73, h74, h⟩ := bindO h
                  obtain ⟨v75, hs76, h0_77, hu78⟩ := cut_row (P := Tryd.prog) (a := a) (k' := .i64) (.tmp 69) (some (.tmp 70)) none un_22 ti_5 (hS.ev_ rfl) hM (.inl (congrArg some (hS.ev_ rfl))) (.inr ⟨rfl, rfl⟩) h74
                  refine st_val hS rfl rfl (by decide) (hu78 _ _ rfl) fun a hS => ?_
                  refine st_val hS rfl rfl (by decide) (r_move rfl (hS.ev_ rfl)) fun a hS => ?_
                  refine wl_cons rfl (e_copy_sl hM rfl un_22 ti_5 rfl (hS.ev_ rfl) hs76 (hS.ev_ rfl) (Kd.sl_mono ((hlK11.trans hlK44).trans hlK60) f9) fun w hM => ?_)
                  refine pl hS rfl (by decide) fun a hS => ?_
                  refine st_val hS rfl rfl (by decide) (r_add rfl (hS.ev_ rfl) (hS.ev_ rfl)) fun a hS => ?_
                  refine st_val hS rfl rfl (by decide) (r_assign rfl (hS.ev_ rfl)) fun a hS => ?_
                  refine st_done ?_
                  replace hS : Slots 132 [] a [(11, Value.int .i64 (w64 ((w64 (x47 + (((min s68.length ((((x48.length : Int)).toNat - x47.toNat)) : Nat) : Int)))) + (((min p7.length (((((ovw x48 x47.toNat ((((x48.length : Int)).toNat - x47.toNat)) s68).length : Int)).toNat - ((w64 (x47 + (((min s68.length ((((x48.length : Int)).toNat - x47.toNat)) : Nat) : Int))))).toNat)) : Nat) : Int))))), (13, Value.int .i64 (w64 (x46 + y58))), (49, Value.int .i64 (x45)), (48, Value.int .i64 (x25)), (12, Value.int .i64 (x46)), (10, v32), (0, v2), (1, v5), (2, v8), (8, Value.slice none 0 0)] := (hS.part (.cons rfl (.cons rfl (.cons rfl (.cons rfl (.cons rfl (.cons rfl (.cons rfl (.cons rfl (.cons rfl (.cons rfl (.nil _))))))))))))
                  refine x_then ?_
                  refine wp_region_lit ?_
                  refine st_val hS rfl rfl (by decide) (r_move rfl (hS.ev_ rfl)) fun a hS => ?_
                  refine st_val hS rfl rfl (by decide) (r_move rfl (hS.ev_ rfl)) fun a hS => ?_
                  refine st_val hS rfl rfl (by decide) (r_len_sl rfl un_22 (hS.ev_ rfl) f6) fun a hS => ?_
                  refine st_val hS rfl rfl (by decide) (r_add rfl (hS.ev_ rfl) (hS.ev_ rfl)) fun a hS => ?_
                  refine st_val hS rfl rfl (by decide) (r_assign rfl (hS.ev_ rfl)) fun a hS => ?_
                  refine st_done ?_
                  replace hS : Slots 132 [] a [(12, Value.int .i64 (w64 ((w64 (x46 + y58)) + ((p4.length : Int))))), (11, Value.int .i64 (w64 ((w64 (x47 + (((min s68.length ((((x48.length : Int)).toNat - x47.toNat)) : Nat) : Int)))) + (((min p7.length (((((ovw x48 x47.toNat ((((x48.length : Int)).toNat - x47.toNat)) s68).length : Int)).toNat - ((w64 (x47 + (((min s68.length ((((x48.length : Int)).toNat - x47.toNat)) : Nat) : Int))))).toNat)) : Nat) : Int))))), (49, Value.int .i64 (x45)), (48, Value.int .i64 (x25)), (10, v32), (0, v2), (1, v5), (2, v8), (8, Value.slice none 0 0)] := (hS.part (.cons rfl (.cons rfl (.cons rfl (.cons rfl (.cons rfl (.cons rfl (.cons rfl (.cons rfl (.cons rfl (.nil _)))))))))))
                  refine x_block ?_
                  refine x_then ?_
                  refine wp_region_lit ?_
                  refine st_val hS rfl rfl (by decide) (r_add rfl (hS.ev_ rfl) (hS.ev_ rfl)) fun a hS => ?_
                  refine st_val hS rfl rfl (by decide) (r_move rfl (hS.ev_ rfl)) fun a hS => ?_
                  refine st_done ?_
                  replace hS : Slots 132 [] a [(49, Value.int .i64 (w64 (x45 + 1))), (12, Value.int .i64 (w64 ((w64 (x46 + y58)) + ((p4.length : Int))))), (11, Value.int .i64 (w64 ((w64 (x47 + (((min s68.length ((((x48.length : Int)).toNat - x47.toNat)) : Nat) : Int)))) + (((min p7.length (((((ovw x48 x47.toNat ((((x48.length : Int)).toNat - x47.toNat)) s68).length : Int)).toNat - ((w64 (x47 + (((min s68.length ((((x48.length : Int)).toNat - x47.toNat)) : Nat) : Int))))).toNat)) : Nat) : Int))))), (48, Value.int .i64 (x25)), (10, v32), (0, v2), (1, v5), (2, v8), (8, Value.slice none 0 0)] := (hS.part (.cons rfl (.cons rfl (.cons rfl (.cons rfl (.cons rfl (.cons rfl (.cons rfl (.cons rfl (.cons rfl (.nil _)))))))))))
                  refine x_then ?_
                  exact ih (w64 (x45 + 1)) (w64 ((w64 (x46 + y58)) + ((p4.length : Int)))) (w64 ((w64 (x47 + (((min s68.length ((((x48.length : Int)).toNat - x47.toNat)) : Nat) : Int)))) + (((min p7.length (((((ovw x48 x47.toNat ((((x48.length : Int)).toNat - x47.toNat)) s68).length : Int)).toNat - ((w64 (x47 + (((min s68.length ((((x48.length : Int)).toNat - x47.toNat)) : Nat) : Int))))).toNat)) : Nat) : Int)))) (ovw (ovw x48 x47.toNat ((((x48.length : Int)).toNat - x47.toNat)) s68) (((w64 (x47 + (((min s68.length ((((x48.length : Int)).toNat - x47.toNat)) : Nat) : Int))))).toNat) (((((ovw x48 x47.toNat ((((x48.length : Int)).toNat - x47.toNat)) s68).length : Int)).toNat - ((w64 (x47 + (((min s68.length ((((x48.length : Int)).toNat - x47.toNat)) : Nat) : Int))))).toNat)) p7) _ h hr K60 _ _ (hlK44.trans hlK60) (hS.part (.cons rfl (.cons rfl (.cons rfl (.cons rfl (.cons rfl (.cons rfl (.cons rfl (.cons rfl (.cons rfl (.nil _))))))))))) (hM)
                · refine c_cond_false (hS.ev_ rfl) hc52 ?_
                  refine wp_exit ?_
                  refine x_then_exit ?_
                  refine x_then_exit ?_
                  have ho' := (Option.some.inj h).trans hr
                  refine hQ _ _ _ ?_
                  subst ho'
                  exact ⟨rfl, K44, hlK44, (hS.part (.cons rfl (.cons rfl (.cons rfl (.cons rfl (.cons rfl (.nil _))))))), hM⟩
              exact key 0 0 0 (List.replicate (w64 (((p1.length : Int)) + (w64 (x25 * (w64 (((p7.length : Int)) - ((p4.length : Int)))))))).toNat (0 : UInt8)) _ h50 rfl K11 _ _ (Hp.le.refl _) (hS.part (.cons rfl (.cons rfl (.cons rfl (.cons rfl (.cons rfl (.cons rfl (.cons rfl (.cons rfl (.cons rfl (.nil _))))))))))) (hM)
            · rintro e a w ⟨rfl, K51, hlK51, hS, hM⟩
              refine x_block_here ?_
              refine x_then ?_
              obtain rfl := Option.some.inj h36
              exact ⟨K51, hlK51, (hS.part (.cons rfl (.cons rfl (.cons rfl (.cons rfl (.cons rfl (.nil _))))))), hM⟩
          · refine c_cond_false (hS.ev_ rfl) hc37 ?_
            refine wp_seq ?_
            refine wp_region_lit ?_
            refine st_val hS rfl rfl (by decide) (r_move rfl (hS.ev_ rfl)) fun a hS => ?_
            refine st_val hS rfl rfl (by decide) (r_move rfl (hS.ev_ rfl)) fun a hS => ?_
            refine st_val hS rfl rfl (by decide) (r_move rfl (hS.ev_ rfl)) fun a hS => ?_
            obtain ⟨s79, h80, h36⟩ := bindO h36
            obtain ⟨v81, hs82, h0_83, hu84⟩ := cut_row (P := Tryd.prog) (a := a) (k' := .i64) (.tmp 81) (some (.tmp 82)) none un_22 ti_5 (hS.ev_ rfl) hM (.inl (congrArg some (hS.ev_ rfl))) (.inr ⟨rfl, rfl⟩) h80
            refine st_val hS rfl rfl (by decide) (hu84 _ _ rfl) fun a hS => ?_
            refine st_val hS rfl rfl (by decide) (r_move rfl (hS.ev_ rfl)) fun a hS => ?_
            refine wl_cons rfl (e_copy_sl hM rfl un_22 ti_5 rfl (hS.ev_ rfl) hs82 (hS.ev_ rfl) (Kd.sl_mono hlK11 f9) fun w hM => ?_)
            refine pl hS rfl (by decide) fun a hS => ?_
            refine st_val hS rfl rfl (by decide) (r_add rfl (hS.ev_ rfl) (hS.ev_ rfl)) fun a hS => ?_
            refine st_val hS rfl rfl (by decide) (r_assign rfl (hS.ev_ rfl)) fun a hS => ?_
            refine st_done ?_
            replace hS : Slots 132 [] a [(11, Value.int .i64 (w64 (0 + (((min p7.length (((((List.replicate (w64 (((p1.length : Int)) + (w64 (x25 * (w64 (((p7.length : Int)) - ((p4.length : Int)))))))).toNat (0 : UInt8)).length : Int)).toNat - 0)) : Nat) : Int))))), (12, Value.int .i64 (0)), (10, v32), (0, v2), (2, v8), (8, Value.slice none 0 0), (3, Value.int .i64 (x25))] := (hS.part (.cons rfl (.cons rfl (.cons rfl (.cons rfl (.cons rfl (.cons rfl (.cons rfl (.nil _)))))))))
            refine x_then ?_
            refine wp_seq ?_
            refine wp_region_lit ?_
            refine st_val hS rfl rfl (by decide) (r_move rfl (hS.ev_ rfl)) fun a hS => ?_
            refine st_val hS rfl rfl (by decide) (r_sub rfl (hS.ev_ rfl) (hS.ev_ rfl)) fun a hS => ?_
            refine st_val hS rfl rfl (by decide) (r_move rfl (hS.ev_ rfl)) fun a hS => ?_
            refine st_done ?_
            replace hS : Slots 132 [] a [(89, Value.int .i64 (0)), (88, Value.int .i64 (w64 (x25 - 1))), (11, Value.int .i64 (w64 (0 + (((min p7.length (((((List.replicate (w64 (((p1.length : Int)) + (w64 (x25 * (w64 (((p7.length : Int)) - ((p4.length : Int)))))))).toNat (0 : UInt8)).length : Int)).toNat - 0)) : Nat) : Int))))), (12, Value.int .i64 (0)), (10, v32), (0, v2), (2, v8), (8, Value.slice none 0 0)] := (hS.part (.cons rfl (.cons rfl (.cons rfl (.cons rfl (.cons rfl (.cons rfl (.cons rfl (.cons rfl (.nil _))))))))))
            refine x_then ?_
            refine wp_block ?_
            obtain ⟨o96, h97, h36⟩ := bindO h36
            refine c_loop_ways (fun e a w => (e = .exit 2 ∧ ∃ (K98 : Hp), Hp.le K11 K98 ∧ Slots 132 [] a [(0, v2), (8, Value.slice none 0 0), (10, v32), (11, Value.int .i64 (o96.1)), (12, Value.int .i64 (o96.2.1))] ∧ Sat w0 w K98 (SP.row Kd.u8 5 v32 o96.2.2 :: L))) ?_ ?_
            · intro c Q hc hQ
              have key : ∀ (x92 : Int) (x93 : Int) (x94 : Int) (x95 : List UInt8) (r' : Int × Int × (List UInt8)), bytes_Replace_l2 x25 p1 p7 x92 x93 x94 x95 = some r' → r' = o96 → ∀ (K91 : Hp) (a : Act) (w : World), Hp.le K11 K91 → Slots 132 [] a [(89, Value.int .i64 (x92)), (88, Value.int .i64 (w64 (x25 - 1))), (11, Value.int .i64 (x93)), (12, Value.int .i64 (x94)), (10, v32), (0, v2), (2, v8), (8, Value.slice none 0 0)] → Sat w0 w K91 (SP.row Kd.u8 5 v32 x95 :: L) → Rnd Tryd.prog c Q a w := by
                refine bytes_Replace_l2.partial_correctness x25 p1 p7 _ ?_
                intro bytes_Replace_l2_rec ih x92 x93 x94 x95 r' h hr K91  a w hlK91 hS hM 
                subst hc
                refine c_round ?_
                refine wp_seq ?_
                refine wp_region_lit ?_
                refine st_val hS rfl rfl (by decide) (r_cmp rfl (hS.ev_ rfl) (hS.ev_ rfl) rfl) fun a hS => ?_
                refine st_done ?_
                replace hS : Slots 132 [] a [(90, Value.bool (decide (x92 < (w64 (x25 - 1))))), (89, Value.int .i64 (x92)), (88, Value.int .i64 (w64 (x25 - 1))), (11, Value.int .i64 (x93)), (12, Value.int .i64 (x94)), (10, v32), (0, v2), (2, v8), (8, Value.slice none 0 0)] := (hS.part (.cons rfl (.cons rfl (.cons rfl (.cons rfl (.cons rfl (.cons rfl (.cons rfl (.cons rfl (.cons rfl (.nil _)))))))))))
                refine x_then ?_
                refine wp_seq ?_
                rcases ifB h with ⟨hc99, h⟩ | ⟨hc99, h⟩
                · refine c_cond_true (hS.ev_ rfl) hc99 ?_
                  refine wp_skip ?_
                  refine x_then ?_
                  refine wp_seq ?_
                  refine wp_block ?_
                  refine wp_seq ?_
                  refine wp_region_lit ?_
                  refine st_val hS rfl rfl (by decide) (r_move rfl (hS.ev_ rfl)) fun a hS => ?_
                  refine st_val hS rfl rfl (by decide) (r_move rfl (hS.ev_ rfl)) fun a hS => ?_
                  obtain ⟨s100, h101, h⟩ := bindO h
                  obtain ⟨v102, f103, hu104⟩ := cut_sl (P := Tryd.prog) (a := a) (k' := .i64) (d := Kd.u8) (.tmp 92) (some (.tmp 93)) none un_22 ti_5 (hS.ev_ rfl) (Kd.sl_mono (hlK11.trans hlK91) f3) (.inl (congrArg some (hS.ev_ rfl))) (.inr ⟨rfl, rfl⟩) h101
                  refine st_val hS rfl rfl (by decide) (hu104 _ _ rfl) fun a hS => ?_
                  obtain ⟨y105, h106, h⟩ := bindO h
                  have hc108 := unicode_utf8_DecodeRune_c hG h106 f103 hM
                  refine wl_cons rfl (e_call rfl Tryd.func28 rfl rfl (args1 (hS.ev_ rfl)) hc108 ?_)
                  rintro _ w ⟨K107, hlK107, hM, rfl⟩
                  refine ⟨_, rfl, ?_⟩
                  refine pl hS rfl (by decide) fun a hS => ?_
                  refine st_val hS rfl rfl (by decide) (r_move rfl (hS.ev_ rfl)) fun a hS => ?_
                  refine st_val hS rfl rfl (by decide) (r_extract rfl (hS.ev_ rfl) rfl) fun a hS => ?_
                  refine st_val hS rfl rfl (by decide) (r_extract rfl (hS.ev_ rfl) rfl) fun a hS => ?_
                  refine st_val hS rfl rfl (by decide) (r_assign rfl (hS.ev_ rfl)) fun a hS => ?_
                  refine st_val hS rfl rfl (by decide) (r_assign rfl (hS.ev_ rfl)) fun a hS => ?_
                  refine st_done ?_
                  replace hS : Slots 132 [] a [(15, Value.int .i64 (y105.2)), (89, Value.int .i64 (x92)), (88, Value.int .i64 (w64 (x25 - 1))), (11, Value.int .i64 (x93)), (12, Value.int .i64 (x94)), (10, v32), (0, v2), (2, v8), (8, Value.slice none 0 0)] := (hS.part (.cons rfl (.cons rfl (.cons rfl (.cons rfl (.cons rfl (.cons rfl (.cons rfl (.cons rfl (.cons rfl (.nil _)))))))))))
                  refine x_then ?_
                  refine wp_seq ?_
                  refine wp_region_lit ?_
                  refine st_val hS rfl rfl (by decide) (r_move rfl (hS.ev_ rfl)) fun a hS => ?_
                  refine st_val hS rfl rfl (by decide) (r_move rfl (hS.ev_ rfl)) fun a hS => ?_
                  refine st_val hS rfl rfl (by decide) (r_add rfl (hS.ev_ rfl) (hS.ev_ rfl)) fun a hS => ?_
                  refine st_val hS rfl rfl (by decide) (r_assign rfl (hS.ev_ rfl)) fun a hS => ?_
                  refine st_done ?_
                  replace hS : Slots 132 [] a [(16, Value.int .i64 (w64 (x94 + y105.2))), (89, Value.int .i64 (x92)), (88, Value.int .i64 (w64 (x25 - 1))), (11, Value.int .i64 (x93)), (12, Value.int .i64 (x94)), (10, v32), (0, v2), (2, v8), (8, Value.slice none 0 0)] := (hS.part (.cons rfl (.cons rfl (.cons rfl (.cons rfl (.cons rfl (.cons rfl (.cons rfl (.cons rfl (.cons rfl (.nil _)))))))))))
                  refine x_then ?_
                  refine wp_seq ?_
                  refine tk_start #[false, false, false, false, false, false, false, false, false, false, false] mixed_ rfl rfl ?_
                  replace hM := hM.drew
                  generalize w.drew = w at hM ⊢
                  refine dk_any (i := 0) #[true, false, false, false, false, false, false, false, false, false, false] hS rfl (by kernel_rfl) rfl rfl (by decide) (fun w => r_move rfl (hS.ev_ rfl)) fun a hS => ?_
                  refine dk_any (i := 1) #[true, true, false, false, false, false, false, false, false, false, false] hS rfl (by kernel_rfl) rfl rfl (by decide) (fun w => r_move rfl (hS.ev_ rfl)) fun a hS => ?_
                  refine dk_any (i := 2) #[true, true, true, false, false, false, false, false, false, false, false] hS rfl (by kernel_rfl) rfl rfl (by decide) (fun w => r_move rfl (hS.ev_ rfl)) fun a hS => ?_
                  obtain ⟨s109, h110, h⟩ := bindO h
                  obtain ⟨v111, hs112, h0_113, hu114⟩ := cut_row (P := Tryd.prog) (a := a) (k' := .i64) (.tmp 102) (some (.tmp 103)) none un_22 ti_5 (hS.ev_ rfl) hM (.inl (congrArg some (hS.ev_ rfl))) (.inr ⟨rfl, rfl⟩) h110
                  refine dk_any (i := 3) #[true, true, true, true, false, false, false, false, false, false, false] hS rfl (by kernel_rfl) rfl rfl (by decide) (fun w => hu114 _ _ rfl) fun a hS => ?_
                  refine dk_any (i := 4) #[true, true, true, true, true, false, false, false, false, false, false] hS rfl (by kernel_rfl) rfl rfl (by decide) (fun w => r_move rfl (hS.ev_ rfl)) fun a hS => ?_
                  refine dk_any (i := 5) #[true, true, true, true, true, true, false, false, false, false, false] hS rfl (by kernel_rfl) rfl rfl (by decide) (fun w => r_move rfl (hS.ev_ rfl)) fun a hS => ?_
                  refine dk_any (i := 6) #[true, true, true, true, true, true, true, false, false, false, false] hS rfl (by kernel_rfl) rfl rfl (by decide) (fun w => r_move rfl (hS.ev_ rfl)) fun a hS => ?_
                  obtain ⟨s115, h116, h⟩ := bindO h
                  obtain ⟨v117, f118, hu119⟩ := cut_sl (P := Tryd.prog) (a := a) (d := Kd.u8) (.tmp 105) (some (.tmp 106)) (some (.tmp 107)) un_22 ti_5 (hS.ev_ rfl) (Kd.sl_mono ((hlK11.trans hlK91).trans hlK107) f3) (.inl (congrArg some (hS.ev_ rfl))) (.inl (congrArg some (hS.ev_ rfl))) h116
                  refine dk_any (i := 7) #[true, true, true, true, true, true, true, true, false, false, false] hS rfl (by kernel_rfl) rfl rfl (by decide) (fun w => hu119 _ _ rfl) fun a hS => ?_
                  refine dk_one (i := 8) #[true, true, true, true, true, true, true, true, true, false, false] rfl (by kernel_rfl) rfl (e_copy_sl hM rfl un_22 ti_5 rfl (hS.ev_ rfl) hs112 (hS.ev_ rfl) f118 fun w hM => ?_)
                  refine pT hS rfl (by decide) Dem.nil fun a hS => ?_
                  refine dk_any (i := 9) #[true, true, true, true, true, true, true, true, true, true, false] hS rfl (by kernel_rfl) rfl rfl (by decide) (fun w => r_add rfl (hS.ev_ rfl) (hS.ev_ rfl)) fun a hS => ?_
                  refine dk_any (i := 10) #[true, true, true, true, true, true, true, true, true, true, true] hS rfl (by kernel_rfl) rfl rfl (by decide) (fun w => r_assign rfl (hS.ev_ rfl)) fun a hS => ?_
                  refine tk_done (by kernel_rfl) ?_
                  replace hS : Slots 132 [] a [(11, Value.int .i64 (w64 (x93 + (((min s115.length ((((x95.length : Int)).toNat - x93.toNat)) : Nat) : Int))))), (16, Value.int .i64 (w64 (x94 + y105.2))), (89, Value.int .i64 (x92)), (88, Value.int .i64 (w64 (x25 - 1))), (12, Value.int .i64 (x94)), (10, v32), (0, v2), (2, v8), (8, Value.slice none 0 0)] := (hS.part (.cons rfl (.cons rfl (.cons rfl (.cons rfl (.cons rfl (.cons rfl (.cons rfl (.cons rfl (.cons rfl (.nil _)))))))))))
                  refine x_then ?_
                  refine wp_seq ?_
                  refine wp_region_lit ?_
                  refine st_val hS rfl rfl (by decide) (r_move rfl (hS.ev_ rfl)) fun a hS => ?_
                  refine st_val hS rfl rfl (by decide) (r_move rfl (hS.ev_ rfl)) fun a hS => ?_
                  refine st_val hS rfl rfl (by decide) (r_move rfl (hS.ev_ rfl)) fun a hS => ?_
                  obtain ⟨s120, h121, h⟩ := bindO h
                  obtain ⟨v122, hs123, h0_124, hu125⟩ := cut_row (P := Tryd.prog) (a := a) (k' := .i64) (.tmp 112) (some (.tmp 113)) none un_22 ti_5 (hS.ev_ rfl) hM (.inl (congrArg some (hS.ev_ rfl))) (.inr ⟨rfl, rfl⟩) h121
                  refine st_val hS rfl rfl (by decide) (hu125 _ _ rfl) fun a hS => ?_
                  refine st_val hS rfl rfl (by decide) (r_move rfl (hS.ev_ rfl)) fun a hS => ?_
                  refine wl_cons rfl (e_copy_sl hM rfl un_22 ti_5 rfl (hS.ev_ rfl) hs123 (hS.ev_ rfl) (Kd.sl_mono ((hlK11.trans hlK91).trans hlK107) f9) fun w hM => ?_)
                  refine pl hS rfl (by decide) fun a hS => ?_
                  refine st_val hS rfl rfl (by decide) (r_add rfl (hS.ev_ rfl) (hS.ev_ rfl)) fun a hS => ?_
                  refine st_val hS rfl rfl (by decide) (r_assign rfl (hS.ev_ rfl)) fun a hS => ?_
                  refine st_done ?_
                  replace hS : Slots 132 [] a [(11, Value.int .i64 (w64 ((w64 (x93 + (((min s115.length ((((x95.length : Int)).toNat - x93.toNat)) : Nat) : Int)))) + (((min p7.length (((((ovw x95 x93.toNat ((((x95.length : Int)).toNat - x93.toNat)) s115).length : Int)).toNat - ((w64 (x93 + (((min s115.length ((((x95.length : Int)).toNat - x93.toNat)) : Nat) : Int))))).toNat)) : Nat) : Int))))), (16, Value.int .i64 (w64 (x94 + y105.2))), (89, Value.int .i64 (x92)), (88, Value.int .i64 (w64 (x25 - 1))), (12, Value.int .i64 (x94)), (10, v32), (0, v2), (2, v8), (8, Value.slice none 0 0)] := (hS.part (.cons rfl (.cons rfl (.cons rfl (.cons rfl (.cons rfl (.cons rfl (.cons rfl (.cons rfl (.cons rfl (.nil _)))))))))))
                  refine x_then ?_
                  refine wp_region_lit ?_
                  refine st_val hS rfl rfl (by decide) (r_move rfl (hS.ev_ rfl)) fun a hS => ?_
                  refine st_val hS rfl rfl (by decide) (r_assign rfl (hS.ev_ rfl)) fun a hS => ?_
                  refine st_done ?_
                  replace hS : Slots 132 [] a [(12, Value.int .i64 (w64 (x94 + y105.2))), (11, Value.int .i64 (w64 ((w64 (x93 + (((min s115.length ((((x95.length : Int)).toNat - x93.toNat)) : Nat) : Int)))) + (((min p7.length (((((ovw x95 x93.toNat ((((x95.length : Int)).toNat - x93.toNat)) s115).length : Int)).toNat - ((w64 (x93 + (((min s115.length ((((x95.length : Int)).toNat - x93.toNat)) : Nat) : Int))))).toNat)) : Nat) : Int))))), (89, Value.int .i64 (x92)), (88, Value.int .i64 (w64 (x25 - 1))), (10, v32), (0, v2), (2, v8), (8, Value.slice none 0 0)] := (hS.part (.cons rfl (.cons rfl (.cons rfl (.cons rfl (.cons rfl (.cons rfl (.cons rfl (.cons rfl (.nil _))))))))))
                  refine x_block ?_
                  refine x_then ?_
                  refine wp_region_lit ?_
                  refine st_val hS rfl rfl (by decide) (r_add rfl (hS.ev_ rfl) (hS.ev_ rfl)) fun a hS => ?_
                  refine st_val hS rfl rfl (by decide) (r_move rfl (hS.ev_ rfl)) fun a hS => ?_
                  refine st_done ?_
                  replace hS : Slots 132 [] a [(89, Value.int .i64 (w64 (x92 + 1))), (12, Value.int .i64 (w64 (x94 + y105.2))), (11, Value.int .i64 (w64 ((w64 (x93 + (((min s115.length ((((x95.length : Int)).toNat - x93.toNat)) : Nat) : Int)))) + (((min p7.length (((((ovw x95 x93.toNat ((((x95.length : Int)).toNat - x93.toNat)) s115).length : Int)).toNat - ((w64 (x93 + (((min s115.length ((((x95.length : Int)).toNat - x93.toNat)) : Nat) : Int))))).toNat)) : Nat) : Int))))), (88, Value.int .i64 (w64 (x25 - 1))), (10, v32), (0, v2), (2, v8), (8, Value.slice none 0 0)] := (hS.part (.cons rfl (.cons rfl (.cons rfl (.cons rfl (.cons rfl (.cons rfl (.cons rfl (.cons rfl (.nil _))))))))))
                  refine x_then ?_
                  exact ih (w64 (x92 + 1)) (w64 ((w64 (x93 + (((min s115.length ((((x95.length : Int)).toNat - x93.toNat)) : Nat) : Int)))) + (((min p7.length (((((ovw x95 x93.toNat ((((x95.length : Int)).toNat - x93.toNat)) s115).length : Int)).toNat - ((w64 (x93 + (((min s115.length ((((x95.length : Int)).toNat - x93.toNat)) : Nat) : Int))))).toNat)) : Nat) : Int)))) (w64 (x94 + y105.2)) (ovw (ovw x95 x93.toNat ((((x95.length : Int)).toNat - x93.toNat)) s115) (((w64 (x93 + (((min s115.length ((((x95.length : Int)).toNat - x93.toNat)) : Nat) : Int))))).toNat) (((((ovw x95 x93.toNat ((((x95.length : Int)).toNat - x93.toNat)) s115).length : Int)).toNat - ((w64 (x93 + (((min s115.length ((((x95.length : Int)).toNat - x93.toNat)) : Nat) : Int))))).toNat)) p7) _ h hr K107 _ _ (hlK91.trans hlK107) (hS.part (.cons rfl (.cons rfl (.cons rfl (.cons rfl (.cons rfl (.cons rfl (.cons rfl (.cons rfl (.nil _)))))))))) (hM)
                · refine c_cond_false (hS.ev_ rfl) hc99 ?_
                  refine wp_exit ?_
                  refine x_then_exit ?_
                  refine x_then_exit ?_
                  have ho' := (Option.some.inj h).trans hr
                  refine hQ _ _ _ ?_
                  subst ho'
                  exact ⟨rfl, K91, hlK91, (hS.part (.cons rfl (.cons rfl (.cons rfl (.cons rfl (.cons rfl (.nil _))))))), hM⟩
              exact key 0 (w64 (0 + (((min p7.length (((((List.replicate (w64 (((p1.length : Int)) + (w64 (x25 * (w64 (((p7.length : Int)) - ((p4.length : Int)))))))).toNat (0 : UInt8)).length : Int)).toNat - 0)) : Nat) : Int)))) 0 (ovw (List.replicate (w64 (((p1.length : Int)) + (w64 (x25 * (w64 (((p7.length : Int)) - ((p4.length : Int)))))))).toNat (0 : UInt8)) 0 (((((List.replicate (w64 (((p1.length : Int)) + (w64 (x25 * (w64 (((p7.length : Int)) - ((p4.length : Int)))))))).toNat (0 : UInt8)).length : Int)).toNat - 0)) p7) _ h97 rfl K11 _ _ (Hp.le.refl _) (hS.part (.cons rfl (.cons rfl (.cons rfl (.cons rfl (.cons rfl (.cons rfl (.cons rfl (.cons rfl (.nil _)))))))))) (hM)
            · rintro e a w ⟨rfl, K98, hlK98, hS, hM⟩
              refine x_block_here ?_
              refine x_then ?_
              obtain rfl := Option.some.inj h36
              exact ⟨K98, hlK98, (hS.part (.cons rfl (.cons rfl (.cons rfl (.cons rfl (.cons rfl (.nil _))))))), hM⟩
        · rintro a w ⟨K34, hlK34, hS, hM⟩
          refine wp_seq ?_
          refine tk_start #[false, false, false, false, false, false, false, false, false, false] mixed_ rfl rfl ?_
          replace hM := hM.drew
          generalize w.drew = w at hM ⊢
          refine dk_any (i := 0) #[true, false, false, false, false, false, false, false, false, false] hS rfl (by kernel_rfl) rfl rfl (by decide) (fun w => r_move rfl (hS.ev_ rfl)) fun a hS => ?_
          refine dk_any (i := 1) #[true, true, false, false, false, false, false, false, false, false] hS rfl (by kernel_rfl) rfl rfl (by decide) (fun w => r_move rfl (hS.ev_ rfl)) fun a hS => ?_
          refine dk_any (i := 2) #[true, true, true, false, false, false, false, false, false, false] hS rfl (by kernel_rfl) rfl rfl (by decide) (fun w => r_move rfl (hS.ev_ rfl)) fun a hS => ?_
          obtain ⟨s126, h127, h⟩ := bindO h
          obtain ⟨v128, hs129, h0_130, hu131⟩ := cut_row (P := Tryd.prog) (a := a) (k' := .i64) (.tmp 121) (some (.tmp 122)) none un_22 ti_5 (hS.ev_ rfl) hM (.inl (congrArg some (hS.ev_ rfl))) (.inr ⟨rfl, rfl⟩) h127
          refine dk_any (i := 3) #[true, true, true, true, false, false, false, false, false, false] hS rfl (by kernel_rfl) rfl rfl (by decide) (fun w => hu131 _ _ rfl) fun a hS => ?_
          refine dk_any (i := 4) #[true, true, true, true, true, false, false, false, false, false] hS rfl (by kernel_rfl) rfl rfl (by decide) (fun w => r_move rfl (hS.ev_ rfl)) fun a hS => ?_
          refine dk_any (i := 5) #[true, true, true, true, true, true, false, false, false, false] hS rfl (by kernel_rfl) rfl rfl (by decide) (fun w => r_move rfl (hS.ev_ rfl)) fun a hS => ?_
          obtain ⟨s132, h133, h⟩ := bindO h
          obtain ⟨v134, f135, hu136⟩ := cut_sl (P := Tryd.prog) (a := a) (k' := .i64) (d := Kd.u8) (.tmp 124) (some (.tmp 125)) none un_22 ti_5 (hS.ev_ rfl) (Kd.sl_mono (hlK11.trans hlK34) f3) (.inl (congrArg some (hS.ev_ rfl))) (.inr ⟨rfl, rfl⟩) h133
          refine dk_any (i := 6) #[true, true, true, true, true, true, true, false, false, false] hS rfl (by kernel_rfl) rfl rfl (by decide) (fun w => hu136 _ _ rfl) fun a hS => ?_
          refine dk_one (i := 7) #[true, true, true, true, true, true, true, true, false, false] rfl (by kernel_rfl) rfl (e_copy_sl hM rfl un_22 ti_5 rfl (hS.ev_ rfl) hs129 (hS.ev_ rfl) f135 fun w hM => ?_)
          refine pT hS rfl (by decide) Dem.nil fun a hS => ?_
          refine dk_any (i := 8) #[true, true, true, true, true, true, true, true, true, false] hS rfl (by kernel_rfl) rfl rfl (by decide) (fun w => r_add rfl (hS.ev_ rfl) (hS.ev_ rfl)) fun a hS => ?_
          refine dk_any (i := 9) #[true, true, true, true, true, true, true, true, true, true] hS rfl (by kernel_rfl) rfl rfl (by decide) (fun w => r_assign rfl (hS.ev_ rfl)) fun a hS => ?_
          refine tk_done (by kernel_rfl) ?_
          replace hS : Slots 132 [] a [(11, Value.int .i64 (w64 (x35.1 + (((min s132.length ((((x35.2.2.length : Int)).toNat - x35.1.toNat)) : Nat) : Int))))), (8, Value.slice none 0 0), (10, v32)] := (hS.part (.cons rfl (.cons rfl (.cons rfl (.nil _)))))
          refine x_then ?_
          refine wp_seq ?_
          refine wp_region_lit ?_
          refine st_val hS rfl rfl (by decide) (r_move rfl (hS.ev_ rfl)) fun a hS => ?_
          refine st_val hS rfl rfl (by decide) (r_move rfl (hS.ev_ rfl)) fun a hS => ?_
          obtain ⟨s137, h138, h⟩ := bindO h
          obtain ⟨v139, hs140, h0_141, hu142⟩ := cut_row (P := Tryd.prog) (a := a) (.tmp 129) (some (.const (Value.int .i64 (0)))) (some (.tmp 130)) un_22 ti_5 (hS.ev_ rfl) hM (.inl (congrArg some (hS.ev_ rfl))) (.inl (congrArg some (hS.ev_ rfl))) h138
          obtain ⟨ad143, cp144, he145, he146⟩ := h0_141 rfl
          subst he146
          replace hM := hM.row_trunc (m := ((w64 (x35.1 + (((min s132.length ((((x35.2.2.length : Int)).toNat - x35.1.toNat)) : Nat) : Int))))).toNat) he145 (by have := cutL_some h138; omega)
          refine st_val hS rfl rfl (by decide) (hu142 _ _ rfl) fun a hS => ?_
          refine st_val hS rfl rfl (by decide) (r_assign rfl (hS.ev_ rfl)) fun a hS => ?_
          refine st_done ?_
          replace hS : Slots 132 [] a [(8, (Value.slice ad143 ((w64 (x35.1 + (((min s132.length ((((x35.2.2.length : Int)).toNat - x35.1.toNat)) : Nat) : Int))))).toNat cp144))] := (hS.part (.cons rfl (.nil _)))
          refine x_then ?_
          refine wp_ret ?_
          obtain ⟨K147, hlK147, hM, f148⟩ := keep_row hM
          have hr' := Option.some.inj h
          subst hr'
          refine ret1 (.inr rfl) hS rfl rfl ?_
          exact ⟨K147, ((Value.slice ad143 ((w64 (x35.1 + (((min s132.length ((((x35.2.2.length : Int)).toNat - x35.1.toNat)) : Nat) : Int))))).toNat cp144)), ((hlK11.trans hlK34).trans hlK147), hM, rfl, f148⟩

theorem bytes_ReplaceAll_c {w0 w : World} {K : Hp} {L : List SP} {p1 : List UInt8} {p4 : List UInt8} {p7 : List UInt8} {v2 : Value} {v5 : Value} {v8 : Value} {r : List UInt8} (hG : Glob w0) (h : bytes_ReplaceAll p1 p4 p7 = some r) (f3 : Kd.u8.sl K v2 p1) (f6 : Kd.u8.sl K v5 p4) (f9 : Kd.u8.sl K v8 p7) (hM : Sat w0 w K (L)) :
    Calls Tryd.prog 18 #[v2, v5, v8] w (fun e w' => ∃ (K' : Hp) (v'1 : Value), Hp.le K K' ∧ Sat w0 w' K' (L) ∧ e = .returned (v'1) ∧ Kd.u8.sl K' v'1 r) := by
  refine enter_ (n := 11) (args := [v2, v5, v8]) Tryd.func18 rfl rfl (Nat.le_of_ble_eq_true rfl) fun a hS => ?_
  replace hS : Slots 11 [] a [(0, v2), (1, v5), (2, v8)] := hS
  unfold bytes_ReplaceAll at h
  refine wp_seq ?_
  refine wp_region_lit ?_
  refine st_val hS rfl rfl (by decide) (r_assign rfl (hS.ev_ rfl)) fun a hS => ?_
  refine st_done ?_
  replace hS : Slots 11 [] a [(6, Value.slice none 0 0), (0, v2), (1, v5), (2, v8)] := (hS.part (.cons rfl (.cons rfl (.cons rfl (.cons rfl (.nil _))))))
  refine x_then ?_
  refine wp_seq ?_
  refine wp_region_lit ?_
  refine st_val hS rfl rfl (by decide) (r_move rfl (hS.ev_ rfl)) fun a hS => ?_
  refine st_val hS rfl rfl (by decide) (r_move rfl (hS.ev_ rfl)) fun a hS => ?_
  refine st_val hS rfl rfl (by decide) (r_move rfl (hS.ev_ rfl)) fun a hS => ?_
  obtain ⟨y10, h11, h⟩ := bindO h
  have hc13 := bytes_Replace_c hG h11 f3 f6 f9 hM
  refine wl_cons rfl (e_call rfl Tryd.func24 rfl rfl (args4 (hS.ev_ rfl) (hS.ev_ rfl) (hS.ev_ rfl) (hS.ev_ rfl)) hc13 ?_)
  rintro _ w ⟨K12, v14, hlK12, hM, rfl, f15⟩
  refine ⟨_, rfl, ?_⟩
  refine pl hS rfl (by decide) fun a hS => ?_
  refine st_val hS rfl rfl (by decide) (r_assign rfl (hS.ev_ rfl)) fun a hS => ?_
  refine st_done ?_
  replace hS : Slots 11 [] a [(6, v14)] := (hS.part (.cons rfl (.nil _)))
  refine x_then ?_
  refine wp_ret ?_
  have hr' := Option.some.inj h
  subst hr'
  refine ret1 (.inr rfl) hS rfl rfl ?_
  exact ⟨K12, (v14), hlK12, hM, rfl, f15⟩

theorem emit_Data_c {w0 w : World} {K : Hp} {L : List SP} {p1 : List UInt8} {v2 : Value} {r : List UInt8} (hG : Glob w0) (h : emit_Data p1 = some r) (f3 : Kd.u8.sl K v2 p1) (hM : Sat w0 w K (L)) :
    Calls Tryd.prog 8 #[v2] w (fun e w' => ∃ (K' : Hp) (v'1 : Value), Hp.le K K' ∧ Sat w0 w' K' (L) ∧ e = .returned (v'1) ∧ Kd.u8.sl K' v'1 r) := by
  refine enter_ (n := 7) (args := [v2]) Tryd.func8 rfl rfl (Nat.le_of_ble_eq_true rfl) fun a hS => ?_
  replace hS : Slots 7 [] a [(0, v2)] := hS
  unfold emit_Data at h
  refine wp_seq ?_
  refine wp_region_lit ?_
  refine st_val hS rfl rfl (by decide) (r_assign rfl (hS.ev_ rfl)) fun a hS => ?_
  refine st_done ?_
  replace hS : Slots 7 [] a [(2, Value.slice none 0 0), (0, v2)] := (hS.part (.cons rfl (.cons rfl (.nil _))))
  refine x_then ?_
  refine wp_seq ?_
  refine wp_region_lit ?_
  refine st_val hS rfl rfl (by decide) (r_move rfl (hS.ev_ rfl)) fun a hS => ?_
  refine wl_cons rfl (e_litK (d := Kd.u8) (e := 5) (cs := [Value.int .u8 (b8 (255))]) (xs := ([255] : List UInt8)) hM rfl (parts_ev hS rfl) (by kernel_rfl) ⟨[Value.int .u8 (b8 (255))], [], rfl, rfl, rfl⟩ rfl (by decide) fun v4 K5 w hlK5 hM f6 => ?_)
  refine pl hS rfl (by decide) fun a hS => ?_
  refine wl_cons rfl (e_litK (d := Kd.u8) (e := 5) (cs := [Value.int .u8 (b8 (255)), Value.int .u8 (b8 (255))]) (xs := [255, 255]) hM rfl (parts_ev hS rfl) (by kernel_rfl) ⟨[Value.int .u8 (b8 (255))], [Value.int .u8 (b8 (255))], rfl, rfl, ⟨[Value.int .u8 (b8 (255))], [], rfl, rfl, rfl⟩⟩ rfl (by decide) fun v7 K8 w hlK8 hM f9 => ?_)
  refine pl hS rfl (by decide) fun a hS => ?_
  obtain ⟨y10, h11, h⟩ := bindO h
  have hc13 := bytes_ReplaceAll_c hG h11 (Kd.sl_mono (hlK5.trans hlK8) f3) (Kd.sl_mono hlK8 f6) f9 hM
  refine wl_cons rfl (e_call rfl Tryd.func18 rfl rfl (args3 (hS.ev_ rfl) (hS.ev_ rfl) (hS.ev_ rfl)) hc13 ?_)
  rintro _ w ⟨K12, v14, hlK12, hM, rfl, f15⟩
  refine ⟨_, rfl, ?_⟩
  refine pl hS rfl (by decide) fun a hS => ?_
  refine st_val hS rfl rfl (by decide) (r_assign rfl (hS.ev_ rfl)) fun a hS => ?_
  refine st_done ?_
  replace hS : Slots 7 [] a [(2, v14)] := (hS.part (.cons rfl (.nil _)))
  refine x_then ?_
  refine wp_ret ?_
  have hr' := Option.some.inj h
  subst hr'
  refine ret1 (.inr rfl) hS rfl rfl ?_
  exact ⟨K12, (v14), ((hlK5.trans hlK8).trans hlK12), hM, rfl, f15⟩

theorem emit_byteable_c {w0 w : World} {K : Hp} {L : List SP} {p1 : Int} {r : Bool} (hG : Glob w0) (h : emit_byteable p1 = some r) (hM : Sat w0 w K (L)) :
    Calls Tryd.prog 20 #[Value.int .i64 (p1)] w (fun e w' => ∃ (K' : Hp), Hp.le K K' ∧ Sat w0 w' K' (L) ∧ e = .returned (Value.bool (r))) := by
  refine enter_ (n := 9) (args := [Value.int .i64 (p1)]) Tryd.func20 rfl rfl (Nat.le_of_ble_eq_true rfl) fun a hS => ?_
  replace hS : Slots 9 [] a [(0, Value.int .i64 (p1))] := hS
  unfold emit_byteable at h
  refine wp_seq ?_
  refine wp_region_lit ?_
  refine st_val hS rfl rfl (by decide) (r_assign rfl (hS.ev_ rfl)) fun a hS => ?_
  refine st_done ?_
  replace hS : Slots 9 [] a [(2, Value.bool (false)), (0, Value.int .i64 (p1))] := (hS.part (.cons rfl (.cons rfl (.nil _))))
  refine x_then ?_
  refine wp_seq ?_
  refine wp_region_lit ?_
  refine st_val hS rfl rfl (by decide) (r_move rfl (hS.ev_ rfl)) fun a hS => ?_
  refine st_val hS rfl rfl (by decide) (r_cmp rfl (hS.ev_ rfl) (hS.ev_ rfl) rfl) fun a hS => ?_
  refine st_val hS rfl rfl (by decide) (r_move rfl (hS.ev_ rfl)) fun a hS => ?_
  obtain ⟨x2, h3, h⟩ := bindO h
  refine wl_cut 3 (fun a w => Slots 9 [] a [(2, Value.bool (false)), (8, Value.bool (x2))] ∧ Sat w0 w K (L)) ?_ ?_
  ·
    skip
    rcases ifB h3 with ⟨hc4, h3⟩ | ⟨hc4, h3⟩
    ·
      replace hS := hS.known (k := 5) rfl hc4
      refine st_want hS rfl rfl rfl rfl rfl (by decide) (r_move rfl (hS.ev_ rfl)) fun a hS => ?_
      refine st_want hS rfl rfl rfl rfl rfl (by decide) (r_cmp rfl (hS.ev_ rfl) (hS.ev_ rfl) rfl) fun a hS => ?_
      refine st_val hS rfl rfl (by decide) (r_pick_true rfl (hS.ev_ rfl) rfl (hS.ev_ rfl)) fun a hS => ?_
      refine st_done ?_
      replace hS : Slots 9 [] a [(8, Value.bool (decide (p1 ≤ 255))), (2, Value.bool (false))] := (hS.part (.cons rfl (.cons rfl (.nil _))))
      refine x_then ?_
      obtain rfl := Option.some.inj h3
      exact ⟨(hS.part (.cons rfl (.cons rfl (.nil _)))), hM⟩
    ·
      replace hS := hS.known (k := 5) rfl hc4
      refine st_off hS rfl rfl rfl rfl rfl rfl (by decide) fun a hS => ?_
      refine st_off hS rfl rfl rfl rfl rfl rfl (by decide) fun a hS => ?_
      refine st_val hS rfl rfl (by decide) (r_pick_false rfl (hS.ev_ rfl) rfl (hS.ev_ rfl)) fun a hS => ?_
      refine st_done ?_
      replace hS : Slots 9 [] a [(8, Value.bool (false)), (2, Value.bool (false))] := (hS.part (.cons rfl (.cons rfl (.nil _))))
      refine x_then ?_
      obtain rfl := Option.some.inj h3
      exact ⟨(hS.part (.cons rfl (.cons rfl (.nil _)))), hM⟩
  · rintro a w ⟨hS, hM⟩
    refine st_val hS rfl rfl (by decide) (r_assign rfl (hS.ev_ rfl)) fun a hS => ?_
    refine st_done ?_
    replace hS : Slots 9 [] a [(2, Value.bool (x2))] := (hS.part (.cons rfl (.nil _)))
    refine x_then ?_
    refine wp_ret ?_
    have hr' := Option.some.inj h
    subst hr'
    refine ret1 (.inr rfl) hS rfl rfl ?_
    exact ⟨K, (Hp.le.refl _), hM, rfl⟩

theorem emit_Verb_c {w0 w : World} {K : Hp} {L : List SP} {p1 : Int} {p2 : Int} {r : (List UInt8) × (Option Nat)} (hG : Glob w0) (h : emit_Verb p1 p2 = some r) (hM : Sat w0 w K (L)) :
    Calls Tryd.prog 10 #[Value.int .i64 (p1), Value.int .i64 (p2)] w (fun e w' => ∃ (K' : Hp) (v'1 : Value), Hp.le K K' ∧ Sat w0 w' K' (L) ∧ e = .returned (Value.tuple #[v'1, eV w0 r.2]) ∧ Kd.u8.sl K' v'1 r.1) := by
  refine enter_ (n := 21) (args := [Value.int .i64 (p1), Value.int .i64 (p2)]) Tryd.func10 rfl rfl (Nat.le_of_ble_eq_true rfl) fun a hS => ?_
  replace hS : Slots 21 [] a [(0, Value.int .i64 (p1)), (1, Value.int .i64 (p2))] := hS
  unfold emit_Verb at h
  refine wp_seq ?_
  refine wp_region_lit ?_
  refine st_val hS rfl rfl (by decide) (r_assign rfl (hS.ev_ rfl)) fun a hS => ?_
  refine st_val hS rfl rfl (by decide) (r_assign rfl (hS.ev_ rfl)) fun a hS => ?_
  refine st_done ?_
  replace hS : Slots 21 [] a [(5, eV w0 ((none : Option Nat))), (4, Value.slice none 0 0), (0, Value.int .i64 (p1)), (1, Value.int .i64 (p2))] := (hS.part (.cons rfl (.cons rfl (.cons rfl (.cons rfl (.nil _))))))
  refine x_then ?_
  refine wp_seq ?_
  refine wp_block ?_
  refine wp_seq ?_
  refine wp_region_lit ?_
  refine st_val hS rfl rfl (by decide) (r_move rfl (hS.ev_ rfl)) fun a hS => ?_
  obtain ⟨y3, h4, h⟩ := bindO h
  have hc6 := codes_Verb_c hG h4 hM
  refine wl_cons rfl (e_call rfl Tryd.func19 rfl rfl (args1 (hS.ev_ rfl)) hc6 ?_)
  rintro _ w ⟨K5, hlK5, hM, rfl⟩
  refine ⟨_, rfl, ?_⟩
  refine pl hS rfl (by decide) fun a hS => ?_
  refine st_val hS rfl rfl (by decide) (r_not rfl (hS.ev_ rfl)) fun a hS => ?_
  refine st_val hS rfl rfl (by decide) (r_assign rfl (hS.ev_ rfl)) fun a hS => ?_
  refine st_done ?_
  replace hS : Slots 21 [] a [(6, Value.bool (!y3)), (5, eV w0 ((none : Option Nat))), (4, Value.slice none 0 0), (0, Value.int .i64 (p1)), (1, Value.int .i64 (p2))] := (hS.part (.cons rfl (.cons rfl (.cons rfl (.cons rfl (.cons rfl (.nil _)))))))
  refine x_then ?_
  rcases ifB h with ⟨hc7, h⟩ | ⟨hc7, h⟩
  · refine c_cond_true (hS.ev_ rfl) hc7 ?_
    refine wp_seq ?_
    refine tk_start #[false, false, false] mixed_ rfl rfl ?_
    replace hM := hM.drew
    generalize w.drew = w at hM ⊢
    refine dk_val (i := 0) (S := Rd w0 K5 []) #[true, false, false] hS rfl (by kernel_rfl) rfl rfl (by decide) (Rd.up (Hp.le.refl _) hM.nil_) (fun w hR => r_ldG rfl ag_35 (hS.ev_ rfl) (hG 0 (by decide)) hR) fun a hS => ?_
    refine dk_any (i := 1) #[true, true, false] hS rfl (by kernel_rfl) rfl rfl (by decide) (fun w => r_assign rfl (hS.ev_ rfl)) fun a hS => ?_
    refine dk_any (i := 2) #[true, true, true] hS rfl (by kernel_rfl) rfl rfl (by decide) (fun w => r_assign rfl (hS.ev_ rfl)) fun a hS => ?_
    refine tk_done (by kernel_rfl) ?_
    replace hS : Slots 21 [] a [(5, eV w0 ((some 0 : Option Nat))), (4, Value.slice none 0 0), (0, Value.int .i64 (p1)), (1, Value.int .i64 (p2))] := (hS.part (.cons rfl (.cons rfl (.cons rfl (.cons rfl (.nil _))))))
    refine x_then ?_
    refine wp_ret ?_
    refine x_block_ret ?_
    refine x_then_ret ?_
    have hr' := Option.some.inj h
    subst hr'
    refine ret2 (.inr rfl) hS rfl rfl rfl ?_
    exact ⟨K5, (Value.slice none 0 0), hlK5, hM, rfl, (Kd.sl_nil _ _)⟩
  · refine c_cond_false (hS.ev_ rfl) hc7 ?_
    refine wp_seq ?_
    refine wp_region_lit ?_
    refine st_val hS rfl rfl (by decide) (r_move rfl (hS.ev_ rfl)) fun a hS => ?_
    obtain ⟨y8, h9, h⟩ := bindO h
    have hc11 := emit_byteable_c hG h9 hM
    refine wl_cons rfl (e_call rfl Tryd.func20 rfl rfl (args1 (hS.ev_ rfl)) hc11 ?_)
    rintro _ w ⟨K10, hlK10, hM, rfl⟩
    refine ⟨_, rfl, ?_⟩
    refine pl hS rfl (by decide) fun a hS => ?_
    refine st_val hS rfl rfl (by decide) (r_not rfl (hS.ev_ rfl)) fun a hS => ?_
    refine st_val hS rfl rfl (by decide) (r_assign rfl (hS.ev_ rfl)) fun a hS => ?_
    refine st_done ?_
    replace hS : Slots 21 [] a [(11, Value.bool (!y8)), (5, eV w0 ((none : Option Nat))), (4, Value.slice none 0 0), (0, Value.int .i64 (p1)), (1, Value.int .i64 (p2))] := (hS.part (.cons rfl (.cons rfl (.cons rfl (.cons rfl (.cons rfl (.nil _)))))))
    refine x_then ?_
    rcases ifB h with ⟨hc12, h⟩ | ⟨hc12, h⟩
    · refine c_cond_true (hS.ev_ rfl) hc12 ?_
      refine wp_seq ?_
      refine tk_start #[false, false, false] mixed_ rfl rfl ?_
      replace hM := hM.drew
      generalize w.drew = w at hM ⊢
      refine dk_val (i := 0) (S := Rd w0 K10 []) #[true, false, false] hS rfl (by kernel_rfl) rfl rfl (by decide) (Rd.up (Hp.le.refl _) hM.nil_) (fun w hR => r_ldG rfl ag_35 (hS.ev_ rfl) (hG 1 (by decide)) hR) fun a hS => ?_
      refine dk_any (i := 1) #[true, true, false] hS rfl (by kernel_rfl) rfl rfl (by decide) (fun w => r_assign rfl (hS.ev_ rfl)) fun a hS => ?_
      refine dk_any (i := 2) #[true, true, true] hS rfl (by kernel_rfl) rfl rfl (by decide) (fun w => r_assign rfl (hS.ev_ rfl)) fun a hS => ?_
      refine tk_done (by kernel_rfl) ?_
      replace hS : Slots 21 [] a [(5, eV w0 ((some 1 : Option Nat))), (4, Value.slice none 0 0), (0, Value.int .i64 (p1)), (1, Value.int .i64 (p2))] := (hS.part (.cons rfl (.cons rfl (.cons rfl (.cons rfl (.nil _))))))
      refine x_then ?_
      refine wp_ret ?_
      refine x_block_ret ?_
      refine x_then_ret ?_
      have hr' := Option.some.inj h
      subst hr'
      refine ret2 (.inr rfl) hS rfl rfl rfl ?_
      exact ⟨K10, (Value.slice none 0 0), (hlK5.trans hlK10), hM, rfl, (Kd.sl_nil _ _)⟩
    · refine c_cond_false (hS.ev_ rfl) hc12 ?_
      refine wp_skip ?_
      refine x_block ?_
      refine x_then ?_
      refine wp_seq ?_
      refine wp_region_lit ?_
      refine st_val hS rfl rfl (by decide) (r_move rfl (hS.ev_ rfl)) fun a hS => ?_
      refine st_val hS rfl rfl (by decide) (r_conv_i8 rfl un_3 un_5 (hS.ev_ rfl)) fun a hS => ?_
      refine st_val hS rfl rfl (by decide) (r_move rfl (hS.ev_ rfl)) fun a hS => ?_
      refine st_val hS rfl rfl (by decide) (r_conv_i8 rfl un_3 un_5 (hS.ev_ rfl)) fun a hS => ?_
      refine wl_cons rfl (e_litK (d := Kd.u8) (e := 5) (cs := [Value.int .u8 (b8 (255)), Value.int .u8 (b8 (toB p1)), Value.int .u8 (b8 (toB p2))]) (xs := [255, toB p1, toB p2]) hM rfl (parts_ev hS rfl) (by kernel_rfl) ⟨[Value.int .u8 (b8 (255))], [Value.int .u8 (b8 (toB p1)), Value.int .u8 (b8 (toB p2))], rfl, rfl, ⟨[Value.int .u8 (b8 (toB p1))], [Value.int .u8 (b8 (toB p2))], rfl, rfl, ⟨[Value.int .u8 (b8 (toB p2))], [], rfl, rfl, rfl⟩⟩⟩ rfl (by decide) fun v13 K14 w hlK14 hM f15 => ?_)
      refine pl hS rfl (by decide) fun a hS => ?_
      refine st_val hS rfl rfl (by decide) (r_assign rfl (hS.ev_ rfl)) fun a hS => ?_
      refine st_val hS rfl rfl (by decide) (r_assign rfl (hS.ev_ rfl)) fun a hS => ?_
      refine st_done ?_
      replace hS : Slots 21 [] a [(5, eV w0 ((none : Option Nat))), (4, v13)] := (hS.part (.cons rfl (.cons rfl (.nil _))))
      refine x_then ?_
      refine wp_ret ?_
      have hr' := Option.some.inj h
      subst hr'
      refine ret2 (.inr rfl) hS rfl rfl rfl ?_
      exact ⟨K14, (v13), ((hlK5.trans hlK10).trans hlK14), hM, rfl, f15⟩

end Go.Proofs.YtnohihhjjpabjaaDoor
