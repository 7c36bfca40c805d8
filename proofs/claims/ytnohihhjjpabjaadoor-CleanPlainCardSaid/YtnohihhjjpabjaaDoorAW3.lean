/-
  What the code computes: plain functions, and the walks.: the walks, part 3.
-/
import Derived.Test.YtnohihhjjpabjaaDoorAW2
set_option linter.unusedVariables false
set_option linter.unusedSimpArgs false
set_option maxRecDepth 10000
set_option maxHeartbeats 1000000
set_option synthInstance.maxHeartbeats 400000
set_option synthInstance.maxSize 2000
namespace Go.Proofs.YtnohihhjjpabjaaDoor
open Go Go.RowKit Sl

theorem Law_CleanPlain_c {w0 w : World} {K : Hp} {L : List SP} {p1 : List UInt8} {p4 : List (List UInt8)} {p7 : Bool} {v2 : Value} {v5 : Value} {r : Bool} (hG : Glob w0) (h : Law_CleanPlain p1 p4 p7 = some r) (f3 : Kd.u8.sl K v2 p1) (f6 : (Kd.slice Kd.u8).sl K v5 p4) (hM : Sat w0 w K (L)) :
    Calls Tryd.prog 3 #[v2, v5, Value.bool (p7)] w (fun e w' => ∃ (K' : Hp), Hp.le K K' ∧ Sat w0 w' K' (L) ∧ e = .returned (Value.bool (r))) := by
  refine enter_ (n := 96) (args := [v2, v5, Value.bool (p7)]) Tryd.func3 rfl rfl (Nat.le_of_ble_eq_true rfl) fun a hS => ?_
  replace hS : Slots 96 [] a [(0, v2), (1, v5), (2, Value.bool (p7))] := hS
  unfold Law_CleanPlain at h
  refine wp_seq ?_
  refine wp_region_lit ?_
  refine st_val hS rfl rfl (by decide) (r_assign rfl (hS.ev_ rfl)) fun a hS => ?_
  refine st_done ?_
  replace hS : Slots 96 [] a [(6, Value.bool (false)), (0, v2), (1, v5), (2, Value.bool (p7))] := (hS.part (.cons rfl (.cons rfl (.cons rfl (.cons rfl (.nil _))))))
  refine x_then ?_
  refine wp_seq ?_
  refine wp_seq ?_
  refine wp_region_lit ?_
  obtain ⟨y8, h9, h⟩ := bindO h
  have hc11 := Law_alive_c hG h9 hM
  refine wl_cons rfl (e_call rfl Tryd.func4 rfl rfl (args0 ) hc11 ?_)
  rintro _ w ⟨K10, hlK10, hM, rfl⟩
  refine ⟨_, rfl, ?_⟩
  refine pl hS rfl (by decide) fun a hS => ?_
  refine st_val hS rfl rfl (by decide) (r_not rfl (hS.ev_ rfl)) fun a hS => ?_
  refine st_done ?_
  replace hS : Slots 96 [] a [(19, Value.bool (!y8)), (6, Value.bool (false)), (0, v2), (1, v5), (2, Value.bool (p7))] := (hS.part (.cons rfl (.cons rfl (.cons rfl (.cons rfl (.cons rfl (.nil _)))))))
  refine x_then ?_
  rcases ifB h with ⟨hc12, h⟩ | ⟨hc12, h⟩
  · refine c_cond_true (hS.ev_ rfl) hc12 ?_
    refine wp_seq ?_
    refine wp_region_lit ?_
    refine st_val hS rfl rfl (by decide) (r_assign rfl (hS.ev_ rfl)) fun a hS => ?_
    refine st_done ?_
    replace hS : Slots 96 [] a [(6, Value.bool (false)), (0, v2), (1, v5), (2, Value.bool (p7))] := (hS.part (.cons rfl (.cons rfl (.cons rfl (.cons rfl (.nil _))))))
    refine x_then ?_
    refine wp_ret ?_
    refine x_then_ret ?_
    have hr' := Option.some.inj h
    subst hr'
    refine ret1 (.inr rfl) hS rfl rfl ?_
    exact ⟨K10, hlK10, hM, rfl⟩
  · refine c_cond_false (hS.ev_ rfl) hc12 ?_
    refine wp_skip ?_
    refine x_then ?_
    refine wp_seq ?_
    refine wp_seq ?_
    refine wp_region_lit ?_
    refine st_val hS rfl rfl (by decide) (r_move rfl (hS.ev_ rfl)) fun a hS => ?_
    refine st_val hS rfl rfl (by decide) (r_len_sl rfl un_22 (hS.ev_ rfl) f3) fun a hS => ?_
    refine st_val hS rfl rfl (by decide) (r_cmp rfl (hS.ev_ rfl) (hS.ev_ rfl) rfl) fun a hS => ?_
    refine st_val hS rfl rfl (by decide) (r_move rfl (hS.ev_ rfl)) fun a hS => ?_
    obtain ⟨x13, h14, h⟩ := bindO h
    refine wl_cut 4 (fun a w => Slots 96 [] a [(0, v2), (1, v5), (2, Value.bool (p7)), (6, Value.bool (false)), (27, Value.bool (x13))] ∧ Sat w0 w K10 (L)) ?_ ?_
    ·
      skip
      rcases ifB h14 with ⟨hc15, h14⟩ | ⟨hc15, h14⟩
      ·
        replace hS := hS.known (k := 23) rfl hc15
        refine st_off hS rfl rfl rfl rfl rfl rfl (by decide) fun a hS => ?_
        refine st_off hS rfl rfl rfl rfl rfl rfl (by decide) fun a hS => ?_
        refine st_off hS rfl rfl rfl rfl rfl rfl (by decide) fun a hS => ?_
        refine st_val hS rfl rfl (by decide) (r_pick_true rfl (hS.ev_ rfl) rfl (hS.ev_ rfl)) fun a hS => ?_
        refine st_done ?_
        replace hS : Slots 96 [] a [(27, Value.bool (true)), (6, Value.bool (false)), (0, v2), (1, v5), (2, Value.bool (p7))] := (hS.part (.cons rfl (.cons rfl (.cons rfl (.cons rfl (.cons rfl (.nil _)))))))
        refine x_then ?_
        obtain rfl := Option.some.inj h14
        exact ⟨(hS.part (.cons rfl (.cons rfl (.cons rfl (.cons rfl (.cons rfl (.nil _))))))), hM⟩
      ·
        replace hS := hS.known (k := 23) rfl hc15
        refine st_want hS rfl rfl rfl rfl rfl (by decide) (r_move rfl (hS.ev_ rfl)) fun a hS => ?_
        refine st_want hS rfl rfl rfl rfl rfl (by decide) (r_len_sl rfl un_23 (hS.ev_ rfl) f6) fun a hS => ?_
        refine st_want hS rfl rfl rfl rfl rfl (by decide) (r_cmp rfl (hS.ev_ rfl) (hS.ev_ rfl) rfl) fun a hS => ?_
        refine st_val hS rfl rfl (by decide) (r_pick_false rfl (hS.ev_ rfl) rfl (hS.ev_ rfl)) fun a hS => ?_
        refine st_done ?_
        replace hS : Slots 96 [] a [(27, Value.bool (decide (((p4.length : Int)) > 20))), (6, Value.bool (false)), (0, v2), (1, v5), (2, Value.bool (p7))] := (hS.part (.cons rfl (.cons rfl (.cons rfl (.cons rfl (.cons rfl (.nil _)))))))
        refine x_then ?_
        obtain rfl := Option.some.inj h14
        exact ⟨(hS.part (.cons rfl (.cons rfl (.cons rfl (.cons rfl (.cons rfl (.nil _))))))), hM⟩
    · rintro a w ⟨hS, hM⟩
      refine st_done ?_
      replace hS : Slots 96 [] a [(0, v2), (1, v5), (2, Value.bool (p7)), (6, Value.bool (false)), (27, Value.bool (x13))] := (hS.part (.cons rfl (.cons rfl (.cons rfl (.cons rfl (.cons rfl (.nil _)))))))
      refine x_then ?_
      rcases ifB h with ⟨hc16, h⟩ | ⟨hc16, h⟩
      · refine c_cond_true (hS.ev_ rfl) hc16 ?_
        refine wp_seq ?_
        refine wp_region_lit ?_
        refine st_val hS rfl rfl (by decide) (r_assign rfl (hS.ev_ rfl)) fun a hS => ?_
        refine st_done ?_
        replace hS : Slots 96 [] a [(6, Value.bool (true)), (0, v2), (1, v5), (2, Value.bool (p7))] := (hS.part (.cons rfl (.cons rfl (.cons rfl (.cons rfl (.nil _))))))
        refine x_then ?_
        refine wp_ret ?_
        refine x_then_ret ?_
        have hr' := Option.some.inj h
        subst hr'
        refine ret1 (.inr rfl) hS rfl rfl ?_
        exact ⟨K10, hlK10, hM, rfl⟩
      · refine c_cond_false (hS.ev_ rfl) hc16 ?_
        refine wp_skip ?_
        refine x_then ?_
        refine wp_seq ?_
        refine wp_region_lit ?_
        refine st_val hS rfl rfl (by decide) (r_move rfl (hS.ev_ rfl)) fun a hS => ?_
        obtain ⟨y17, h18, h⟩ := bindO h
        have hc20 := iac_All_c hG h18 (Kd.sl_mono hlK10 f3) hM
        refine wl_cons rfl (e_call rfl Tryd.func5 rfl rfl (args1 (hS.ev_ rfl)) hc20 ?_)
        rintro _ w ⟨K19, v21, hlK19, hM, rfl, f22⟩
        refine ⟨_, rfl, ?_⟩
        refine pl hS rfl (by decide) fun a hS => ?_
        refine st_val hS rfl rfl (by decide) (r_move rfl (hS.ev_ rfl)) fun a hS => ?_
        refine st_val hS rfl rfl (by decide) (r_extract rfl (hS.ev_ rfl) rfl) fun a hS => ?_
        refine st_val hS rfl rfl (by decide) (r_extract rfl (hS.ev_ rfl) rfl) fun a hS => ?_
        refine st_val hS rfl rfl (by decide) (r_assign rfl (hS.ev_ rfl)) fun a hS => ?_
        refine st_val hS rfl rfl (by decide) (r_assign rfl (hS.ev_ rfl)) fun a hS => ?_
        refine st_done ?_
        replace hS : Slots 96 [] a [(7, v21), (0, v2), (1, v5), (2, Value.bool (p7)), (6, Value.bool (false))] := (hS.part (.cons rfl (.cons rfl (.cons rfl (.cons rfl (.cons rfl (.nil _)))))))
        refine x_then ?_
        refine wp_seq ?_
        refine wp_region_lit ?_
        refine st_val hS rfl rfl (by decide) (r_move rfl (hS.ev_ rfl)) fun a hS => ?_
        obtain ⟨y23, h24, h⟩ := bindO h
        have hc26 := clean_All_c hG h24 (Kd.sl_mono (hlK10.trans hlK19) f3) (Kd.sl_nil _ _) hM
        refine wl_cons rfl (e_call rfl Tryd.func6 rfl rfl (args3 (hS.ev_ rfl) (hS.ev_ rfl) (hS.ev_ rfl)) hc26 ?_)
        rintro _ w ⟨K25, v27, hlK25, hM, rfl, f28⟩
        refine ⟨_, rfl, ?_⟩
        refine pl hS rfl (by decide) fun a hS => ?_
        refine st_val hS rfl rfl (by decide) (r_assign rfl (hS.ev_ rfl)) fun a hS => ?_
        refine st_done ?_
        replace hS : Slots 96 [] a [(9, v27), (7, v21), (1, v5), (2, Value.bool (p7)), (6, Value.bool (false))] := (hS.part (.cons rfl (.cons rfl (.cons rfl (.cons rfl (.cons rfl (.nil _)))))))
        refine x_then ?_
        refine wp_seq ?_
        refine wp_seq ?_
        refine wp_region_lit ?_
        refine st_val hS rfl rfl (by decide) (r_move rfl (hS.ev_ rfl)) fun a hS => ?_
        refine st_val hS rfl rfl (by decide) (r_len_sl rfl un_25 (hS.ev_ rfl) f22) fun a hS => ?_
        refine st_val hS rfl rfl (by decide) (r_move rfl (hS.ev_ rfl)) fun a hS => ?_
        refine st_val hS rfl rfl (by decide) (r_len_sl rfl un_25 (hS.ev_ rfl) f28) fun a hS => ?_
        refine st_val hS rfl rfl (by decide) (r_cmp rfl (hS.ev_ rfl) (hS.ev_ rfl) rfl) fun a hS => ?_
        refine st_done ?_
        replace hS : Slots 96 [] a [(39, Value.bool (((y17.1.length : Int)) != ((y23.length : Int)))), (9, v27), (7, v21), (1, v5), (2, Value.bool (p7)), (6, Value.bool (false))] := (hS.part (.cons rfl (.cons rfl (.cons rfl (.cons rfl (.cons rfl (.cons rfl (.nil _))))))))
        refine x_then ?_
        rcases ifB h with ⟨hc29, h⟩ | ⟨hc29, h⟩
        · refine c_cond_true (hS.ev_ rfl) hc29 ?_
          refine wp_seq ?_
          refine wp_region_lit ?_
          refine st_val hS rfl rfl (by decide) (r_assign rfl (hS.ev_ rfl)) fun a hS => ?_
          refine st_done ?_
          replace hS : Slots 96 [] a [(6, Value.bool (false)), (9, v27), (7, v21), (1, v5), (2, Value.bool (p7))] := (hS.part (.cons rfl (.cons rfl (.cons rfl (.cons rfl (.cons rfl (.nil _)))))))
          refine x_then ?_
          refine wp_ret ?_
          refine x_then_ret ?_
          have hr' := Option.some.inj h
          subst hr'
          refine ret1 (.inr rfl) hS rfl rfl ?_
          exact ⟨K25, ((hlK10.trans hlK19).trans hlK25), hM, rfl⟩
        · refine c_cond_false (hS.ev_ rfl) hc29 ?_
          refine wp_skip ?_
          refine x_then ?_
          refine wp_seq ?_
          refine wp_seq ?_
          refine wp_region_lit ?_
          refine st_val hS rfl rfl (by decide) (r_move rfl (hS.ev_ rfl)) fun a hS => ?_
          refine st_val hS rfl rfl (by decide) (r_len_sl rfl un_25 (hS.ev_ rfl) f22) fun a hS => ?_
          refine st_val hS rfl rfl (by decide) (r_move rfl (hS.ev_ rfl)) fun a hS => ?_
          refine st_done ?_
          replace hS : Slots 96 [] a [(42, Value.int .i64 (0)), (41, Value.int .i64 ((y17.1.length : Int))), (40, v21), (9, v27), (1, v5), (2, Value.bool (p7)), (6, Value.bool (false))] := (hS.part (.cons rfl (.cons rfl (.cons rfl (.cons rfl (.cons rfl (.cons rfl (.cons rfl (.nil _)))))))))
          refine x_then ?_
          refine wp_block ?_
          obtain ⟨o35, h36, h⟩ := bindO h
          refine c_loop_ways (fun e a w => (e = .exit 0 ∧ ∃ (K37 : Hp) (x38 : Unit), Hp.le K25 K37 ∧ o35 = Sum.inl x38 ∧ Slots 96 [] a [(1, v5), (2, Value.bool (p7)), (6, Value.bool (false))] ∧ Sat w0 w K37 (L)) ∨ (e = .ret ∧ ∃ (K39 : Hp) (x40 : Unit), Hp.le K25 K39 ∧ o35 = Sum.inr x40 ∧ Slots 96 [] a [(6, Value.bool (false))] ∧ Sat w0 w K39 (L))) ?_ ?_
          · intro c Q hc hQ
            have key : ∀ (x34 : Int) (r' : Sum Unit Unit), Law_CleanPlain_l1 y17 y23 x34 = some r' → r' = o35 → ∀ (K33 : Hp) (a : Act) (w : World), Hp.le K25 K33 → Slots 96 [] a [(42, Value.int .i64 (x34)), (41, Value.int .i64 ((y17.1.length : Int))), (40, v21), (9, v27), (1, v5), (2, Value.bool (p7)), (6, Value.bool (false))] → Sat w0 w K33 (L) → Rnd Tryd.prog c Q a w := by
              refine Law_CleanPlain_l1.partial_correctness y17 y23 _ ?_
              intro Law_CleanPlain_l1_rec ih x34 r' h hr K33  a w hlK33 hS hM 
              subst hc
              refine c_round ?_
              refine wp_seq ?_
              refine wp_region_lit ?_
              refine st_val hS rfl rfl (by decide) (r_cmp rfl (hS.ev_ rfl) (hS.ev_ rfl) rfl) fun a hS => ?_
              refine st_done ?_
              replace hS : Slots 96 [] a [(43, Value.bool (decide (x34 < ((y17.1.length : Int))))), (42, Value.int .i64 (x34)), (41, Value.int .i64 ((y17.1.length : Int))), (40, v21), (9, v27), (1, v5), (2, Value.bool (p7)), (6, Value.bool (false))] := (hS.part (.cons rfl (.cons rfl (.cons rfl (.cons rfl (.cons rfl (.cons rfl (.cons rfl (.cons rfl (.nil _))))))))))
              refine x_then ?_
              refine wp_seq ?_
              rcases ifB h with ⟨hc41, h⟩ | ⟨hc41, h⟩
              · refine c_cond_true (hS.ev_ rfl) hc41 ?_
                refine wp_skip ?_
                refine x_then ?_
                refine wp_seq ?_
                refine wp_block ?_
                refine wp_seq ?_
                refine wp_region_lit ?_
                refine st_val hS rfl rfl (by decide) (r_move rfl (hS.ev_ rfl)) fun a hS => ?_
                obtain ⟨e42, h43, h⟩ := bindO h
                obtain ⟨ad44, cp45, cs46, hv47, hr48, h0_49, h1_50, hq51⟩ := sl_at f22 h43 (by decide)
                obtain ⟨v52, rfl, f53⟩ := kiac_Token_open hr48
                refine st_val hS rfl rfl (by decide) (r_idx_sl rfl un_25 ti_30 (hS.ev_ rfl) hv47 (hS.ev_ rfl) h0_49 h1_50) fun a hS => ?_
                refine st_val hS rfl rfl (by decide) (r_ldN_k (cs' := [Value.int .i64 (e42.f_Kind), Value.int .i64 (e42.f_Code), Value.int .i64 (e42.f_Option), v52, Value.bool (e42.f_Cut)]) rfl ag_30 ti_30 (hS.ev_ rfl) hq51 rfl (Rd.up (hlK25.trans hlK33) hM.nil_)) fun a hS => ?_
                refine wl_cons rfl (e_alloc (cs := [Value.int .i64 (0), Value.int .i64 (0), Value.int .i64 (0), Value.slice none 0 0, Value.bool (false)]) hM rfl ti_30 rfl fun g54 w hM => ?_)
                refine pl hS rfl (by decide) fun a hS => ?_
                refine st_val hS rfl rfl (by decide) (r_assign rfl (hS.ev_ rfl)) fun a hS => ?_
                refine wl_cons rfl (e_storeN (vs := [Value.int .i64 (e42.f_Kind), Value.int .i64 (e42.f_Code), Value.int .i64 (e42.f_Option), v52, Value.bool (e42.f_Cut)]) hM rfl ti_30 (hS.ev_ rfl) (hS.ev_ rfl) (ones_cons rfl (ones_cons rfl (ones_cons rfl (ones_cons (sl_one f53) (ones_cons rfl ones_nil))))) (Nat.le_of_ble_eq_true rfl) fun w hM => ?_)
                have hM : Sat w0 w K33 (SP.blk g54 30 [Value.int .i64 (e42.f_Kind), Value.int .i64 (e42.f_Code), Value.int .i64 (e42.f_Option), v52, Value.bool (e42.f_Cut)] :: L) := hM
                refine pl0 hS rfl fun a hS => ?_
                refine st_done ?_
                replace hS : Slots 96 [] a [(10, Value.int .i64 (x34)), (11, Value.pointer (some ⟨g54, 0, none⟩)), (42, Value.int .i64 (x34)), (41, Value.int .i64 ((y17.1.length : Int))), (40, v21), (9, v27), (1, v5), (2, Value.bool (p7)), (6, Value.bool (false))] := (hS.part (.cons rfl (.cons rfl (.cons rfl (.cons rfl (.cons rfl (.cons rfl (.cons rfl (.cons rfl (.cons rfl (.nil _)))))))))))
                refine x_then ?_
                refine wp_seq ?_
                refine tk_start #[false, false, false, false, false, false, false] mixed_ rfl rfl ?_
                replace hM := hM.drew
                generalize w.drew = w at hM ⊢
                refine dk_val (i := 0) (S := Rd w0 K33 [SP.blk g54 30 [Value.int .i64 (e42.f_Kind), Value.int .i64 (e42.f_Code), Value.int .i64 (e42.f_Option), v52, Value.bool (e42.f_Cut)]]) #[true, false, false, false, false, false, false] hS rfl (by kernel_rfl) rfl rfl (by decide) (Rd.of hM.only) (fun w hR => r_ldN_b (cs' := [Value.int .i64 (e42.f_Kind), Value.int .i64 (e42.f_Code), Value.int .i64 (e42.f_Option), v52, Value.bool (e42.f_Cut)]) rfl ag_30 ti_30 (hS.ev_ rfl) rfl hR) fun a hS => ?_
                refine dk_any (i := 1) #[true, true, false, false, false, false, false] hS rfl (by kernel_rfl) rfl rfl (by decide) (fun w => r_move rfl (hS.ev_ rfl)) fun a hS => ?_
                refine dk_any (i := 2) #[true, true, true, false, false, false, false] hS rfl (by kernel_rfl) rfl rfl (by decide) (fun w => r_move rfl (hS.ev_ rfl)) fun a hS => ?_
                obtain ⟨e56, h57, h⟩ := bindO h
                obtain ⟨ad58, cp59, cs60, hv61, hr62, h0_63, h1_64, hq65⟩ := sl_at f28 h57 (by decide)
                obtain ⟨v66, rfl, f67⟩ := kiac_Token_open hr62
                refine dk_any (i := 3) #[true, true, true, true, false, false, false] hS rfl (by kernel_rfl) rfl rfl (by decide) (fun w => r_idx_sl rfl un_25 ti_30 (hS.ev_ rfl) hv61 (hS.ev_ rfl) h0_63 h1_64) fun a hS => ?_
                refine dk_val (i := 4) (S := Rd w0 K25 []) #[true, true, true, true, true, false, false] hS rfl (by kernel_rfl) rfl rfl (by decide) (Rd.up hlK33 hM.nil_) (fun w hR => r_ldN_k (cs' := [Value.int .i64 (e56.f_Kind), Value.int .i64 (e56.f_Code), Value.int .i64 (e56.f_Option), v66, Value.bool (e56.f_Cut)]) rfl ag_30 ti_30 (hS.ev_ rfl) hq65 rfl hR) fun a hS => ?_
                obtain ⟨y68, h69, h⟩ := bindO h
                have hc71 := iac_Same_c hG h69 (Kd.sl_mono (hlK25.trans hlK33) f53) (Kd.sl_mono hlK33 f67) hM
                refine dk_one (i := 5) #[true, true, true, true, true, true, false] rfl (by kernel_rfl) rfl (e_call rfl Tryd.func7 rfl rfl (args2 (hS.ev_ rfl) (hS.ev_ rfl)) hc71 ?_)
                rintro _ w ⟨K70, hlK70, hM, rfl⟩
                refine ⟨_, rfl, ?_⟩
                refine pT hS rfl (by decide) (Dem.wait (by kernel_rfl) (Dem.wait (by kernel_rfl) Dem.nil)) fun a hS => ?_
                refine dk_any (i := 6) #[true, true, true, true, true, true, true] hS rfl (by kernel_rfl) rfl rfl (by decide) (fun w => r_not rfl (hS.ev_ rfl)) fun a hS => ?_
                refine tk_done (by kernel_rfl) ?_
                replace hS : Slots 96 [] a [(53, Value.bool (!y68)), (42, Value.int .i64 (x34)), (41, Value.int .i64 ((y17.1.length : Int))), (40, v21), (9, v27), (1, v5), (2, Value.bool (p7)), (6, Value.bool (false))] := (hS.part (.cons rfl (.cons rfl (.cons rfl (.cons rfl (.cons rfl (.cons rfl (.cons rfl (.cons rfl (.nil _))))))))))
                refine x_then ?_
                rcases ifB h with ⟨hc72, h⟩ | ⟨hc72, h⟩
                · refine c_cond_true (hS.ev_ rfl) hc72 ?_
                  refine wp_seq ?_
                  refine wp_region_lit ?_
                  refine st_val hS rfl rfl (by decide) (r_assign rfl (hS.ev_ rfl)) fun a hS => ?_
                  refine st_done ?_
                  replace hS : Slots 96 [] a [(6, Value.bool (false)), (42, Value.int .i64 (x34)), (41, Value.int .i64 ((y17.1.length : Int))), (40, v21), (9, v27), (1, v5), (2, Value.bool (p7))] := (hS.part (.cons rfl (.cons rfl (.cons rfl (.cons rfl (.cons rfl (.cons rfl (.cons rfl (.nil _)))))))))
                  refine x_then ?_
                  refine wp_ret ?_
                  refine x_block_ret ?_
                  refine x_then_ret ?_
                  refine x_then_ret ?_
                  have ho' := (Option.some.inj h).trans hr
                  refine hQ _ _ _ ?_
                  exact .inr (⟨rfl, K70, (()), (hlK33.trans hlK70), ho'.symm, (hS.part (.cons rfl (.nil _))), (hM).tail⟩)
                · refine c_cond_false (hS.ev_ rfl) hc72 ?_
                  refine wp_skip ?_
                  refine x_block ?_
                  refine x_then ?_
                  refine wp_region_lit ?_
                  refine st_val hS rfl rfl (by decide) (r_add rfl (hS.ev_ rfl) (hS.ev_ rfl)) fun a hS => ?_
                  refine st_val hS rfl rfl (by decide) (r_move rfl (hS.ev_ rfl)) fun a hS => ?_
                  refine st_done ?_
                  replace hS : Slots 96 [] a [(42, Value.int .i64 (w64 (x34 + 1))), (41, Value.int .i64 ((y17.1.length : Int))), (40, v21), (9, v27), (1, v5), (2, Value.bool (p7)), (6, Value.bool (false))] := (hS.part (.cons rfl (.cons rfl (.cons rfl (.cons rfl (.cons rfl (.cons rfl (.cons rfl (.nil _)))))))))
                  refine x_then ?_
                  exact ih (w64 (x34 + 1)) _ h hr K70 _ _ (hlK33.trans hlK70) (hS.part (.cons rfl (.cons rfl (.cons rfl (.cons rfl (.cons rfl (.cons rfl (.cons rfl (.nil _))))))))) ((hM).tail)
              · refine c_cond_false (hS.ev_ rfl) hc41 ?_
                refine wp_exit ?_
                refine x_then_exit ?_
                refine x_then_exit ?_
                have ho' := (Option.some.inj h).trans hr
                refine hQ _ _ _ ?_
                exact .inl ⟨rfl, K33, (()), hlK33, ho'.symm, (hS.part (.cons rfl (.cons rfl (.cons rfl (.nil _))))), hM⟩
            exact key 0 _ h36 rfl K25 _ _ (Hp.le.refl _) (hS.part (.cons rfl (.cons rfl (.cons rfl (.cons rfl (.cons rfl (.cons rfl (.cons rfl (.nil _))))))))) (hM)
          · rintro e a w (⟨rfl, K37, x38, hlK37, ho', hS, hM⟩ | ⟨rfl, K39, x40, hlK39, ho', hS, hM⟩)
            · subst ho'
              dsimp only at h
              refine x_block_here ?_
              refine x_then ?_
              refine wp_seq ?_
              refine wp_region_lit ?_
              refine wl_cons rfl (e_lit0 (d := Kd.u8) hM rfl un_22 ti_5 rfl fun v73 w hM => ?_)
              refine pl hS rfl (by decide) fun a hS => ?_
              refine st_val hS rfl rfl (by decide) (r_assign rfl (hS.ev_ (v := strV (([] : List UInt8))) rfl)) fun a hS => ?_
              refine st_val hS rfl rfl (by decide) (r_assign rfl (hS.ev_ rfl)) fun a hS => ?_
              refine st_done ?_
              replace hS : Slots 96 [] a [(13, v73), (12, strV (([] : List UInt8))), (1, v5), (2, Value.bool (p7)), (6, Value.bool (false))] := (hS.part (.cons rfl (.cons rfl (.cons rfl (.cons rfl (.cons rfl (.nil _)))))))
              refine x_then ?_
              refine wp_seq ?_
              refine wp_seq ?_
              refine wp_region_lit ?_
              refine st_val hS rfl rfl (by decide) (r_move rfl (hS.ev_ rfl)) fun a hS => ?_
              refine st_val hS rfl rfl (by decide) (r_len_sl rfl un_23 (hS.ev_ rfl) f6) fun a hS => ?_
              refine st_val hS rfl rfl (by decide) (r_move rfl (hS.ev_ rfl)) fun a hS => ?_
              refine st_done ?_
              replace hS : Slots 96 [] a [(58, Value.int .i64 (0)), (57, Value.int .i64 ((p4.length : Int))), (56, v5), (13, v73), (12, strV (([] : List UInt8))), (2, Value.bool (p7)), (6, Value.bool (false))] := (hS.part (.cons rfl (.cons rfl (.cons rfl (.cons rfl (.cons rfl (.cons rfl (.cons rfl (.nil _)))))))))
              refine x_then ?_
              refine wp_block ?_
              obtain ⟨o86, h87, h⟩ := bindO h
              refine c_loop_ways (fun e a w => (e = .exit 2 ∧ ∃ (K88 : Hp) (x89 : (List UInt8) × (List UInt8)) (v90 : Value), Hp.le K37 K88 ∧ o86 = Sum.inl x89 ∧ Slots 96 [] a [(2, Value.bool (p7)), (6, Value.bool (false)), (12, strV (x89.1)), (13, v90)] ∧ Sat w0 w K88 (SP.row Kd.u8 5 v90 x89.2 :: L)) ∨ (e = .ret ∧ ∃ (K91 : Hp) (x92 : Bool × (List UInt8)) (v93 : Value), Hp.le K37 K91 ∧ o86 = Sum.inr x92 ∧ Slots 96 [] a [(6, Value.bool (x92.1))] ∧ Sat w0 w K91 (SP.row Kd.u8 5 v93 x92.2 :: L))) ?_ ?_
              · intro c Q hc hQ
                have key : ∀ (x82 : Int) (x83 : List UInt8) (x84 : List UInt8) (r' : Sum ((List UInt8) × (List UInt8)) (Bool × (List UInt8))), Law_CleanPlain_l2 p4 p7 x82 x83 x84 = some r' → r' = o86 → ∀ (K81 : Hp) (v85 : Value) (a : Act) (w : World), Hp.le K37 K81 → Slots 96 [] a [(58, Value.int .i64 (x82)), (57, Value.int .i64 ((p4.length : Int))), (56, v5), (12, strV (x83)), (2, Value.bool (p7)), (6, Value.bool (false)), (13, v85)] → Sat w0 w K81 (SP.row Kd.u8 5 v85 x84 :: L) → Rnd Tryd.prog c Q a w := by
                  refine Law_CleanPlain_l2.partial_correctness p4 p7 _ ?_
                  intro Law_CleanPlain_l2_rec ih x82 x83 x84 r' h hr K81 v85 a w hlK81 hS hM 
                  subst hc
                  refine c_round ?_
                  refine wp_seq ?_
                  refine wp_region_lit ?_
                  refine st_val hS rfl rfl (by decide) (r_cmp rfl (hS.ev_ rfl) (hS.ev_ rfl) rfl) fun a hS => ?_
                  refine st_done ?_
                  replace hS : Slots 96 [] a [(59, Value.bool (decide (x82 < ((p4.length : Int))))), (58, Value.int .i64 (x82)), (57, Value.int .i64 ((p4.length : Int))), (56, v5), (12, strV (x83)), (2, Value.bool (p7)), (6, Value.bool (false)), (13, v85)] := (hS.part (.cons rfl (.cons rfl (.cons rfl (.cons rfl (.cons rfl (.cons rfl (.cons rfl (.cons rfl (.nil _))))))))))
                  refine x_then ?_
                  refine wp_seq ?_
                  rcases ifB h with ⟨hc94, h⟩ | ⟨hc94, h⟩
                  · refine c_cond_true (hS.ev_ rfl) hc94 ?_
                    refine wp_skip ?_
                    refine x_then ?_
                    refine wp_seq ?_
                    refine wp_block ?_
                    refine wp_seq ?_
                    refine wp_region_lit ?_
                    refine st_val hS rfl rfl (by decide) (r_move rfl (hS.ev_ rfl)) fun a hS => ?_
                    obtain ⟨e95, h96, h⟩ := bindO h
                    obtain ⟨ad97, cp98, cs99, hv100, hr101, h0_102, h1_103, hq104⟩ := sl_at f6 h96 (by decide)
                    obtain ⟨v105, rfl, f106⟩ := hr101
                    refine st_val hS rfl rfl (by decide) (r_idx_sl rfl un_23 ti_22 (hS.ev_ rfl) hv100 (hS.ev_ rfl) h0_102 h1_103) fun a hS => ?_
                    refine st_val hS rfl rfl (by decide) (r_ld1_k rfl ag_22 (hS.ev_ rfl) hq104 rfl (Rd.up ((((hlK10.trans hlK19).trans hlK25).trans hlK37).trans hlK81) hM.nil_)) fun a hS => ?_
                    refine st_val hS rfl rfl (by decide) (r_assign rfl (hS.ev_ rfl)) fun a hS => ?_
                    refine st_val hS rfl rfl (by decide) (r_assign rfl (hS.ev_ rfl)) fun a hS => ?_
                    refine st_done ?_
                    replace hS : Slots 96 [] a [(15, v105), (14, Value.int .i64 (x82)), (58, Value.int .i64 (x82)), (57, Value.int .i64 ((p4.length : Int))), (56, v5), (12, strV (x83)), (2, Value.bool (p7)), (6, Value.bool (false)), (13, v85)] := (hS.part (.cons rfl (.cons rfl (.cons rfl (.cons rfl (.cons rfl (.cons rfl (.cons rfl (.cons rfl (.cons rfl (.nil _)))))))))))
                    refine x_then ?_
                    refine wp_seq ?_
                    refine wp_seq ?_
                    refine wp_region_lit ?_
                    refine st_val hS rfl rfl (by decide) (r_move rfl (hS.ev_ rfl)) fun a hS => ?_
                    refine st_val hS rfl rfl (by decide) (r_len_sl rfl un_22 (hS.ev_ rfl) f106) fun a hS => ?_
                    refine st_val hS rfl rfl (by decide) (r_cmp rfl (hS.ev_ rfl) (hS.ev_ rfl) rfl) fun a hS => ?_
                    refine st_done ?_
                    replace hS : Slots 96 [] a [(65, Value.bool (decide (((e95.length : Int)) > 50))), (15, v105), (14, Value.int .i64 (x82)), (58, Value.int .i64 (x82)), (57, Value.int .i64 ((p4.length : Int))), (56, v5), (12, strV (x83)), (2, Value.bool (p7)), (6, Value.bool (false)), (13, v85)] := (hS.part (.cons rfl (.cons rfl (.cons rfl (.cons rfl (.cons rfl (.cons rfl (.cons rfl (.cons rfl (.cons rfl (.cons rfl (.nil _))))))))))))
                    refine x_then ?_
                    rcases ifB h with ⟨hc107, h⟩ | ⟨hc107, h⟩
                    · refine c_cond_true (hS.ev_ rfl) hc107 ?_
                      refine wp_seq ?_
                      refine wp_region_lit ?_
                      refine st_val hS rfl rfl (by decide) (r_assign rfl (hS.ev_ rfl)) fun a hS => ?_
                      refine st_done ?_
                      replace hS : Slots 96 [] a [(6, Value.bool (true)), (15, v105), (14, Value.int .i64 (x82)), (58, Value.int .i64 (x82)), (57, Value.int .i64 ((p4.length : Int))), (56, v5), (12, strV (x83)), (2, Value.bool (p7)), (13, v85)] := (hS.part (.cons rfl (.cons rfl (.cons rfl (.cons rfl (.cons rfl (.cons rfl (.cons rfl (.cons rfl (.cons rfl (.nil _)))))))))))
                      refine x_then ?_
                      refine wp_ret ?_
                      refine x_then_ret ?_
                      refine x_block_ret ?_
                      refine x_then_ret ?_
                      refine x_then_ret ?_
                      have ho' := (Option.some.inj h).trans hr
                      refine hQ _ _ _ ?_
                      exact .inr (⟨rfl, K81, ((true, x84)), (v85), hlK81, ho'.symm, (hS.part (.cons rfl (.nil _))), hM⟩)
                    · refine c_cond_false (hS.ev_ rfl) hc107 ?_
                      refine wp_skip ?_
                      refine x_then ?_
                      refine wp_seq ?_
                      refine wp_region_lit ?_
                      refine st_val hS rfl rfl (by decide) (r_move rfl (hS.ev_ rfl)) fun a hS => ?_
                      refine st_val hS rfl rfl (by decide) (r_move rfl (hS.ev_ rfl)) fun a hS => ?_
                      refine st_val hS rfl rfl (by decide) (r_stringR rfl un_22 un_5 un_9 (hS.ev_ rfl) (Rd.of hM.nil_) (Kd.sl_mono ((((hlK10.trans hlK19).trans hlK25).trans hlK37).trans hlK81) f106)) fun a hS => ?_
                      obtain ⟨h108, h⟩ := bindU h
                      refine st_val hS rfl rfl (by decide) (r_sadd rfl (hS.ev_ rfl) (hS.ev_ rfl) (req_some h108)) fun a hS => ?_
                      refine st_val hS rfl rfl (by decide) (r_assign rfl (hS.ev_ rfl)) fun a hS => ?_
                      refine st_done ?_
                      replace hS : Slots 96 [] a [(12, strV (x83 ++ e95)), (15, v105), (14, Value.int .i64 (x82)), (58, Value.int .i64 (x82)), (57, Value.int .i64 ((p4.length : Int))), (56, v5), (2, Value.bool (p7)), (6, Value.bool (false)), (13, v85)] := (hS.part (.cons rfl (.cons rfl (.cons rfl (.cons rfl (.cons rfl (.cons rfl (.cons rfl (.cons rfl (.cons rfl (.nil _)))))))))))
                      refine x_then ?_
                      refine wp_seq ?_
                      refine wp_region_lit ?_
                      refine st_val hS rfl rfl (by decide) (r_move rfl (hS.ev_ rfl)) fun a hS => ?_
                      refine st_val hS rfl rfl (by decide) (r_move rfl (hS.ev_ rfl)) fun a hS => ?_
                      refine st_val hS rfl rfl (by decide) (r_move rfl (hS.ev_ rfl)) fun a hS => ?_
                      obtain ⟨y109, h110, h⟩ := bindO h
                      have hc112 := nvt_Encode_c hG h110 (Kd.sl_mono ((((hlK10.trans hlK19).trans hlK25).trans hlK37).trans hlK81) f106) hM
                      refine wl_cons rfl (e_call rfl Tryd.func9 rfl rfl (args2 (hS.ev_ rfl) (hS.ev_ rfl)) hc112 ?_)
                      rintro _ w ⟨K111, v113, hlK111, hM, rfl, f114⟩
                      refine ⟨_, rfl, ?_⟩
                      refine pl hS rfl (by decide) fun a hS => ?_
                      obtain ⟨y115, h116, h⟩ := bindO h
                      have hc118 := emit_Data_c hG h116 f114 hM
                      refine wl_cons rfl (e_call rfl Tryd.func8 rfl rfl (args1 (hS.ev_ rfl)) hc118 ?_)
                      rintro _ w ⟨K117, v119, hlK117, hM, rfl, f120⟩
                      refine ⟨_, rfl, ?_⟩
                      refine pl hS rfl (by decide) fun a hS => ?_
                      obtain ⟨h121, h⟩ := bindU h
                      refine wl_cons rfl (e_apd_sl hM rfl un_22 un_22 ti_5 rfl rfl (by decide) (hS.ev_ rfl) (hS.ev_ rfl) f120 (req_some h121) fun v122 w hM => ?_)
                      refine pl hS rfl (by decide) fun a hS => ?_
                      refine st_val hS rfl rfl (by decide) (r_assign rfl (hS.ev_ rfl)) fun a hS => ?_
                      refine st_done ?_
                      replace hS : Slots 96 [] a [(13, v122), (12, strV (x83 ++ e95)), (14, Value.int .i64 (x82)), (58, Value.int .i64 (x82)), (57, Value.int .i64 ((p4.length : Int))), (56, v5), (2, Value.bool (p7)), (6, Value.bool (false))] := (hS.part (.cons rfl (.cons rfl (.cons rfl (.cons rfl (.cons rfl (.cons rfl (.cons rfl (.cons rfl (.nil _))))))))))
                      refine x_then ?_
                      refine wp_seq ?_
                      refine wp_region_lit ?_
                      refine st_val hS rfl rfl (by decide) (r_move rfl (hS.ev_ rfl)) fun a hS => ?_
                      obtain ⟨q123, h124, h⟩ := bindO h
                      obtain ⟨h124n, h124e⟩ := irem_some h124
                      refine st_val hS rfl rfl (by decide) (h124e ▸ r_rem rfl (hS.ev_ rfl) (hS.ev_ rfl) h124n) fun a hS => ?_
                      refine st_val hS rfl rfl (by decide) (r_add rfl (hS.ev_ rfl) (hS.ev_ rfl)) fun a hS => ?_
                      refine st_val hS rfl rfl (by decide) (r_move rfl (hS.ev_ rfl)) fun a hS => ?_
                      obtain ⟨y125, h126, h⟩ := bindO h
                      have hc128 := emit_Verb_c hG h126 hM
                      refine wl_cons rfl (e_call rfl Tryd.func10 rfl rfl (args2 (hS.ev_ rfl) (hS.ev_ rfl)) hc128 ?_)
                      rintro _ w ⟨K127, v129, hlK127, hM, rfl, f130⟩
                      refine ⟨_, rfl, ?_⟩
                      refine pl hS rfl (by decide) fun a hS => ?_
                      refine st_val hS rfl rfl (by decide) (r_move rfl (hS.ev_ rfl)) fun a hS => ?_
                      refine st_val hS rfl rfl (by decide) (r_extract rfl (hS.ev_ rfl) rfl) fun a hS => ?_
                      refine st_val hS rfl rfl (by decide) (r_extract rfl (hS.ev_ rfl) rfl) fun a hS => ?_
                      refine st_val hS rfl rfl (by decide) (r_assign rfl (hS.ev_ rfl)) fun a hS => ?_
                      refine st_val hS rfl rfl (by decide) (r_assign rfl (hS.ev_ rfl)) fun a hS => ?_
                      refine st_done ?_
                      replace hS : Slots 96 [] a [(17, eV w0 y125.2), (16, v129), (13, v122), (12, strV (x83 ++ e95)), (58, Value.int .i64 (x82)), (57, Value.int .i64 ((p4.length : Int))), (56, v5), (2, Value.bool (p7)), (6, Value.bool (false))] := (hS.part (.cons rfl (.cons rfl (.cons rfl (.cons rfl (.cons rfl (.cons rfl (.cons rfl (.cons rfl (.cons rfl (.nil _)))))))))))
                      refine x_then ?_
                      refine wp_seq ?_
                      refine wp_seq ?_
                      refine wp_region_lit ?_
                      refine st_val hS rfl rfl (by decide) (r_move rfl (hS.ev_ rfl)) fun a hS => ?_
                      refine st_val hS rfl rfl (by decide) (r_errnot rfl if_35 (hS.ev_ (v := eV w0 y125.2) rfl)) fun a hS => ?_
                      refine st_done ?_
                      replace hS : Slots 96 [] a [(85, Value.bool (y125.2.isSome)), (16, v129), (13, v122), (12, strV (x83 ++ e95)), (58, Value.int .i64 (x82)), (57, Value.int .i64 ((p4.length : Int))), (56, v5), (2, Value.bool (p7)), (6, Value.bool (false))] := (hS.part (.cons rfl (.cons rfl (.cons rfl (.cons rfl (.cons rfl (.cons rfl (.cons rfl (.cons rfl (.cons rfl (.nil _)))))))))))
                      refine x_then ?_
                      rcases ifB h with ⟨hc131, h⟩ | ⟨hc131, h⟩
                      · refine c_cond_true (hS.ev_ rfl) hc131 ?_
                        refine wp_seq ?_
                        refine wp_region_lit ?_
                        refine st_val hS rfl rfl (by decide) (r_assign rfl (hS.ev_ rfl)) fun a hS => ?_
                        refine st_done ?_
                        replace hS : Slots 96 [] a [(6, Value.bool (false)), (16, v129), (13, v122), (12, strV (x83 ++ e95)), (58, Value.int .i64 (x82)), (57, Value.int .i64 ((p4.length : Int))), (56, v5), (2, Value.bool (p7))] := (hS.part (.cons rfl (.cons rfl (.cons rfl (.cons rfl (.cons rfl (.cons rfl (.cons rfl (.cons rfl (.nil _))))))))))
                        refine x_then ?_
                        refine wp_ret ?_
                        refine x_then_ret ?_
                        refine x_block_ret ?_
                        refine x_then_ret ?_
                        refine x_then_ret ?_
                        have ho' := (Option.some.inj h).trans hr
                        refine hQ _ _ _ ?_
                        exact .inr (⟨rfl, K127, ((false, x84 ++ y115)), (v122), (((hlK81.trans hlK111).trans hlK117).trans hlK127), ho'.symm, (hS.part (.cons rfl (.nil _))), hM⟩)
                      · refine c_cond_false (hS.ev_ rfl) hc131 ?_
                        refine wp_skip ?_
                        refine x_then ?_
                        refine wp_region_lit ?_
                        refine st_val hS rfl rfl (by decide) (r_move rfl (hS.ev_ rfl)) fun a hS => ?_
                        refine st_val hS rfl rfl (by decide) (r_move rfl (hS.ev_ rfl)) fun a hS => ?_
                        obtain ⟨h132, h⟩ := bindU h
                        refine wl_cons rfl (e_apd_sl hM rfl un_22 un_22 ti_5 rfl rfl (by decide) (hS.ev_ rfl) (hS.ev_ rfl) f130 (req_some h132) fun v133 w hM => ?_)
                        refine pl hS rfl (by decide) fun a hS => ?_
                        refine st_val hS rfl rfl (by decide) (r_assign rfl (hS.ev_ rfl)) fun a hS => ?_
                        refine st_done ?_
                        replace hS : Slots 96 [] a [(13, v133), (12, strV (x83 ++ e95)), (58, Value.int .i64 (x82)), (57, Value.int .i64 ((p4.length : Int))), (56, v5), (2, Value.bool (p7)), (6, Value.bool (false))] := (hS.part (.cons rfl (.cons rfl (.cons rfl (.cons rfl (.cons rfl (.cons rfl (.cons rfl (.nil _)))))))))
                        refine x_block ?_
                        refine x_then ?_
                        refine wp_region_lit ?_
                        refine st_val hS rfl rfl (by decide) (r_add rfl (hS.ev_ rfl) (hS.ev_ rfl)) fun a hS => ?_
                        refine st_val hS rfl rfl (by decide) (r_move rfl (hS.ev_ rfl)) fun a hS => ?_
                        refine st_done ?_
                        replace hS : Slots 96 [] a [(58, Value.int .i64 (w64 (x82 + 1))), (13, v133), (12, strV (x83 ++ e95)), (57, Value.int .i64 ((p4.length : Int))), (56, v5), (2, Value.bool (p7)), (6, Value.bool (false))] := (hS.part (.cons rfl (.cons rfl (.cons rfl (.cons rfl (.cons rfl (.cons rfl (.cons rfl (.nil _)))))))))
                        refine x_then ?_
                        exact ih (w64 (x82 + 1)) (x83 ++ e95) ((x84 ++ y115) ++ y125.1) _ h hr K127 (v133) _ _ (((hlK81.trans hlK111).trans hlK117).trans hlK127) (hS.part (.cons rfl (.cons rfl (.cons rfl (.cons rfl (.cons rfl (.cons rfl (.cons rfl (.nil _))))))))) (hM)
                  · refine c_cond_false (hS.ev_ rfl) hc94 ?_
                    refine wp_exit ?_
                    refine x_then_exit ?_
                    refine x_then_exit ?_
                    have ho' := (Option.some.inj h).trans hr
                    refine hQ _ _ _ ?_
                    exact .inl ⟨rfl, K81, ((x83, x84)), (v85), hlK81, ho'.symm, (hS.part (.cons rfl (.cons rfl (.cons rfl (.cons rfl (.nil _)))))), hM⟩
                exact key 0 ([] : List UInt8) ([] : List UInt8) _ h87 rfl K37 (v73) _ _ (Hp.le.refl _) (hS.part (.cons rfl (.cons rfl (.cons rfl (.cons rfl (.cons rfl (.cons rfl (.cons rfl (.nil _))))))))) (hM)
              · rintro e a w (⟨rfl, K88, x89, v90, hlK88, ho', hS, hM⟩ | ⟨rfl, K91, x92, v93, hlK91, ho', hS, hM⟩)
                · subst ho'
                  dsimp only at h
                  refine x_block_here ?_
                  refine x_then ?_
                  refine wp_seq ?_
                  refine wp_region_lit ?_
                  refine st_val hS rfl rfl (by decide) (r_move rfl (hS.ev_ rfl)) fun a hS => ?_
                  refine st_val hS rfl rfl (by decide) (r_move rfl (hS.ev_ rfl)) fun a hS => ?_
                  obtain ⟨K134, hlK134, hM, f135⟩ := keep_row hM
                  obtain ⟨y136, h137, h⟩ := bindO h
                  have hc139 := clean_Data_c hG h137 f135 (Kd.sl_nil _ _) hM
                  refine wl_cons rfl (e_call rfl Tryd.func11 rfl rfl (args3 (hS.ev_ rfl) (hS.ev_ rfl) (hS.ev_ rfl)) hc139 ?_)
                  rintro _ w ⟨K138, v140, hlK138, hM, rfl, f141⟩
                  refine ⟨_, rfl, ?_⟩
                  refine pl hS rfl (by decide) fun a hS => ?_
                  refine st_val hS rfl rfl (by decide) (r_stringR rfl un_22 un_5 un_9 (hS.ev_ rfl) (Rd.of hM.nil_) f141) fun a hS => ?_
                  refine st_val hS rfl rfl (by decide) (r_move rfl (hS.ev_ rfl)) fun a hS => ?_
                  refine st_val hS rfl rfl (by decide) (r_seq rfl (hS.ev_ rfl) (hS.ev_ rfl)) fun a hS => ?_
                  refine st_val hS rfl rfl (by decide) (r_assign rfl (hS.ev_ rfl)) fun a hS => ?_
                  refine st_done ?_
                  replace hS : Slots 96 [] a [(6, Value.bool (y136 == x89.1))] := (hS.part (.cons rfl (.nil _)))
                  refine x_then ?_
                  refine wp_ret ?_
                  have hr' := Option.some.inj h
                  subst hr'
                  refine ret1 (.inr rfl) hS rfl rfl ?_
                  exact ⟨K138, ((((((hlK10.trans hlK19).trans hlK25).trans hlK37).trans hlK88).trans hlK134).trans hlK138), hM, rfl⟩
                · subst ho'
                  dsimp only at h
                  refine x_block_ret ?_
                  refine x_then_ret ?_
                  have hr' := Option.some.inj h
                  subst hr'
                  refine ret1 (.inr rfl) hS rfl rfl ?_
                  exact ⟨K91, ((((hlK10.trans hlK19).trans hlK25).trans hlK37).trans hlK91), (hM).tail, rfl⟩
            · subst ho'
              dsimp only at h
              refine x_block_ret ?_
              refine x_then_ret ?_
              have hr' := Option.some.inj h
              subst hr'
              refine ret1 (.inr rfl) hS rfl rfl ?_
              exact ⟨K39, (((hlK10.trans hlK19).trans hlK25).trans hlK39), hM, rfl⟩

end Go.Proofs.YtnohihhjjpabjaaDoor
