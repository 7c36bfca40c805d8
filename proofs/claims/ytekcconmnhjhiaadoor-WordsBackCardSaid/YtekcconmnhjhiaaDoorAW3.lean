/-
  What the code computes: plain functions, and the walks.: the walks, part 3.
-/
import Derived.Test.YtekcconmnhjhiaaDoorAW2
set_option linter.unusedVariables false
set_option linter.unusedSimpArgs false
set_option maxRecDepth 10000
set_option maxHeartbeats 1000000
namespace Go.Proofs.YtekcconmnhjhiaaDoor
open Go Go.RowKit Sl

theorem W_named_c {w0 w : World} {K : Hp} {L : List SP} {p1 : List UInt8} {r : Bool} (hG : Glob w0) (h : W_named p1 = some r) (hM : Sat w0 w K (L)) :
    Calls Tryd.prog 19 #[strV (p1)] w (fun e w' => ∃ (K' : Hp), Hp.le K K' ∧ Sat w0 w' K' (L) ∧ e = .returned (Value.bool (r))) := by
  refine enter_ (n := 36) (args := [strV (p1)]) Tryd.func19 rfl rfl (Nat.le_of_ble_eq_true rfl) fun a hS => ?_
  replace hS : Slots 36 [] a [(0, strV (p1))] := hS
  unfold W_named at h
  refine wp_seq ?_
  refine wp_region_lit ?_
  refine st_val hS rfl rfl (by decide) (r_assign rfl (hS.ev_ rfl)) fun a hS => ?_
  refine st_done ?_
  replace hS : Slots 36 [] a [(2, Value.bool (false)), (0, strV (p1))] := (hS.part (.cons rfl (.cons rfl (.nil _))))
  refine x_then ?_
  refine wp_seq ?_
  refine wp_seq ?_
  refine wp_region_lit ?_
  refine st_val hS rfl rfl (by decide) (r_move rfl (hS.ev_ rfl)) fun a hS => ?_
  refine st_val hS rfl rfl (by decide) (r_len_str rfl un_9 (hS.ev_ rfl)) fun a hS => ?_
  refine st_val hS rfl rfl (by decide) (r_cmp rfl (hS.ev_ rfl) (hS.ev_ rfl) rfl) fun a hS => ?_
  refine st_val hS rfl rfl (by decide) (r_move rfl (hS.ev_ rfl)) fun a hS => ?_
  obtain ⟨x3, h4, h⟩ := bindO h
  refine wl_cut 4 (fun a w => ∃ (K2 : Hp), Hp.le K K2 ∧ Slots 36 [] a [(0, strV (p1)), (2, Value.bool (false)), (12, Value.bool (x3))] ∧ Sat w0 w K2 (L)) ?_ ?_
  ·
    skip
    rcases ifB h4 with ⟨hc5, h4⟩ | ⟨hc5, h4⟩
    ·
      replace hS := hS.known (k := 8) rfl hc5
      refine st_want hS rfl rfl rfl rfl rfl (by decide) (r_move rfl (hS.ev_ rfl)) fun a hS => ?_
      obtain ⟨c6, h7, h4⟩ := bindO h4
      refine st_want hS rfl rfl rfl rfl rfl (by decide) (r_index_s rfl un_9 (hS.ev_ rfl) (hS.ev_ rfl) h7) fun a hS => ?_
      obtain ⟨y8, h9, h4⟩ := bindO h4
      have hc11 := W_figure_c hG h9 hM
      refine g_want hS rfl rfl rfl rfl (e_call rfl Tryd.func32 rfl rfl (args1 (hS.ev_ rfl)) hc11 ?_)
      rintro _ w ⟨K10, hlK10, hM, rfl⟩
      refine ⟨_, rfl, ?_⟩
      refine pl hS rfl (by decide) fun a hS => ?_
      refine st_val hS rfl rfl (by decide) (r_pick_true rfl (hS.ev_ rfl) rfl (hS.ev_ rfl)) fun a hS => ?_
      refine st_done ?_
      replace hS : Slots 36 [] a [(12, Value.bool (y8)), (2, Value.bool (false)), (0, strV (p1))] := (hS.part (.cons rfl (.cons rfl (.cons rfl (.nil _)))))
      refine x_then ?_
      obtain rfl := Option.some.inj h4
      exact ⟨K10, hlK10, (hS.part (.cons rfl (.cons rfl (.cons rfl (.nil _))))), hM⟩
    ·
      replace hS := hS.known (k := 8) rfl hc5
      refine st_off hS rfl rfl rfl rfl rfl rfl (by decide) fun a hS => ?_
      refine st_off hS rfl rfl rfl rfl rfl rfl (by decide) fun a hS => ?_
      refine st_off hS rfl rfl rfl rfl rfl rfl (by decide) fun a hS => ?_
      refine st_val hS rfl rfl (by decide) (r_pick_false rfl (hS.ev_ rfl) rfl (hS.ev_ rfl)) fun a hS => ?_
      refine st_done ?_
      replace hS : Slots 36 [] a [(12, Value.bool (false)), (2, Value.bool (false)), (0, strV (p1))] := (hS.part (.cons rfl (.cons rfl (.cons rfl (.nil _)))))
      refine x_then ?_
      obtain rfl := Option.some.inj h4
      exact ⟨K, (Hp.le.refl _), (hS.part (.cons rfl (.cons rfl (.cons rfl (.nil _))))), hM⟩
  · rintro a w ⟨K2, hlK2, hS, hM⟩
    refine st_done ?_
    replace hS : Slots 36 [] a [(0, strV (p1)), (2, Value.bool (false)), (12, Value.bool (x3))] := (hS.part (.cons rfl (.cons rfl (.cons rfl (.nil _)))))
    refine x_then ?_
    rcases ifB h with ⟨hc12, h⟩ | ⟨hc12, h⟩
    · refine c_cond_true (hS.ev_ rfl) hc12 ?_
      refine wp_seq ?_
      refine wp_region_lit ?_
      refine st_val hS rfl rfl (by decide) (r_assign rfl (hS.ev_ rfl)) fun a hS => ?_
      refine st_done ?_
      replace hS : Slots 36 [] a [(2, Value.bool (true)), (0, strV (p1))] := (hS.part (.cons rfl (.cons rfl (.nil _))))
      refine x_then ?_
      refine wp_ret ?_
      refine x_then_ret ?_
      have hr' := Option.some.inj h
      subst hr'
      refine ret1 (.inr rfl) hS rfl rfl ?_
      exact ⟨K2, hlK2, hM, rfl⟩
    · refine c_cond_false (hS.ev_ rfl) hc12 ?_
      refine wp_skip ?_
      refine x_then ?_
      refine wp_seq ?_
      refine wp_seq ?_
      refine wp_region_lit ?_
      refine st_val hS rfl rfl (by decide) (r_move rfl (hS.ev_ rfl)) fun a hS => ?_
      obtain ⟨h16, h⟩ := bindU h
      refine wl_cons rfl (e_bytes hM rfl un_9 un_51 un_5 (hS.ev_ rfl) (req_some h16) fun v14 K13 w hlK13 hM f15 => ?_)
      refine pl hS rfl (by decide) fun a hS => ?_
      refine st_val hS rfl rfl (by decide) (r_len_sl rfl un_51 (hS.ev_ rfl) f15) fun a hS => ?_
      refine st_val hS rfl rfl (by decide) (r_move rfl (hS.ev_ rfl)) fun a hS => ?_
      refine st_done ?_
      replace hS : Slots 36 [] a [(16, Value.int .i64 (0)), (15, Value.int .i64 ((p1.length : Int))), (14, v14), (0, strV (p1)), (2, Value.bool (false))] := (hS.part (.cons rfl (.cons rfl (.cons rfl (.cons rfl (.cons rfl (.nil _)))))))
      refine x_then ?_
      refine wp_block ?_
      obtain ⟨o22, h23, h⟩ := bindO h
      refine c_loop_ways (fun e a w => (e = .exit 0 ∧ ∃ (K24 : Hp) (x25 : Unit), Hp.le K13 K24 ∧ o22 = Sum.inl x25 ∧ Slots 36 [] a [(0, strV (p1)), (2, Value.bool (false))] ∧ Sat w0 w K24 (L)) ∨ (e = .ret ∧ ∃ (K26 : Hp) (x27 : Unit), Hp.le K13 K26 ∧ o22 = Sum.inr x27 ∧ Slots 36 [] a [(2, Value.bool (false))] ∧ Sat w0 w K26 (L))) ?_ ?_
      · intro c Q hc hQ
        have key : ∀ (x21 : Int) (r' : Sum Unit Unit), W_named_l1 p1 x21 = some r' → r' = o22 → ∀ (K20 : Hp) (a : Act) (w : World), Hp.le K13 K20 → Slots 36 [] a [(16, Value.int .i64 (x21)), (15, Value.int .i64 ((p1.length : Int))), (14, v14), (0, strV (p1)), (2, Value.bool (false))] → Sat w0 w K20 (L) → Rnd Tryd.prog c Q a w := by
          refine W_named_l1.partial_correctness p1 _ ?_
          intro W_named_l1_rec ih x21 r' h hr K20  a w hlK20 hS hM 
          subst hc
          refine c_round ?_
          refine wp_seq ?_
          refine wp_region_lit ?_
          refine st_val hS rfl rfl (by decide) (r_cmp rfl (hS.ev_ rfl) (hS.ev_ rfl) rfl) fun a hS => ?_
          refine st_done ?_
          replace hS : Slots 36 [] a [(17, Value.bool (decide (x21 < ((p1.length : Int))))), (16, Value.int .i64 (x21)), (15, Value.int .i64 ((p1.length : Int))), (14, v14), (0, strV (p1)), (2, Value.bool (false))] := (hS.part (.cons rfl (.cons rfl (.cons rfl (.cons rfl (.cons rfl (.cons rfl (.nil _))))))))
          refine x_then ?_
          refine wp_seq ?_
          rcases ifB h with ⟨hc28, h⟩ | ⟨hc28, h⟩
          · refine c_cond_true (hS.ev_ rfl) hc28 ?_
            refine wp_skip ?_
            refine x_then ?_
            refine wp_seq ?_
            refine wp_block ?_
            refine wp_seq ?_
            refine wp_region_lit ?_
            obtain ⟨e29, h30, h⟩ := bindO h
            obtain ⟨ad31, cp32, cs33, hv34, hr35, h0_36, h1_37, hq38⟩ := sl_at f15 h30 (by decide)
            obtain rfl := hr35
            refine st_val hS rfl rfl (by decide) (r_idx_sl rfl un_51 ti_5 (hS.ev_ rfl) hv34 (hS.ev_ rfl) h0_36 h1_37) fun a hS => ?_
            refine st_val hS rfl rfl (by decide) (r_ld1_k rfl ag_5 (hS.ev_ rfl) hq38 rfl (Rd.up hlK20 hM.nil_)) fun a hS => ?_
            refine st_val hS rfl rfl (by decide) (r_assign rfl (hS.ev_ rfl)) fun a hS => ?_
            refine st_done ?_
            replace hS : Slots 36 [] a [(4, Value.int .u8 (b8 (e29))), (16, Value.int .i64 (x21)), (15, Value.int .i64 ((p1.length : Int))), (14, v14), (0, strV (p1)), (2, Value.bool (false))] := (hS.part (.cons rfl (.cons rfl (.cons rfl (.cons rfl (.cons rfl (.cons rfl (.nil _))))))))
            refine x_then ?_
            refine wp_seq ?_
            refine wp_region_lit ?_
            refine st_val hS rfl rfl (by decide) (r_move rfl (hS.ev_ rfl)) fun a hS => ?_
            obtain ⟨y39, h40, h⟩ := bindO h
            have hc42 := W_goes_c hG h40 hM
            refine wl_cons rfl (e_call rfl Tryd.func25 rfl rfl (args1 (hS.ev_ rfl)) hc42 ?_)
            rintro _ w ⟨K41, hlK41, hM, rfl⟩
            refine ⟨_, rfl, ?_⟩
            refine pl hS rfl (by decide) fun a hS => ?_
            refine st_val hS rfl rfl (by decide) (r_not rfl (hS.ev_ rfl)) fun a hS => ?_
            refine st_done ?_
            replace hS : Slots 36 [] a [(22, Value.bool (!y39)), (16, Value.int .i64 (x21)), (15, Value.int .i64 ((p1.length : Int))), (14, v14), (0, strV (p1)), (2, Value.bool (false))] := (hS.part (.cons rfl (.cons rfl (.cons rfl (.cons rfl (.cons rfl (.cons rfl (.nil _))))))))
            refine x_then ?_
            rcases ifB h with ⟨hc43, h⟩ | ⟨hc43, h⟩
            · refine c_cond_true (hS.ev_ rfl) hc43 ?_
              refine wp_seq ?_
              refine wp_region_lit ?_
              refine st_val hS rfl rfl (by decide) (r_assign rfl (hS.ev_ rfl)) fun a hS => ?_
              refine st_done ?_
              replace hS : Slots 36 [] a [(2, Value.bool (false)), (16, Value.int .i64 (x21)), (15, Value.int .i64 ((p1.length : Int))), (14, v14), (0, strV (p1))] := (hS.part (.cons rfl (.cons rfl (.cons rfl (.cons rfl (.cons rfl (.nil _)))))))
              refine x_then ?_
              refine wp_ret ?_
              refine x_block_ret ?_
              refine x_then_ret ?_
              refine x_then_ret ?_
              have ho' := (Option.some.inj h).trans hr
              refine hQ _ _ _ ?_
              exact .inr (⟨rfl, K41, (()), (hlK20.trans hlK41), ho'.symm, (hS.part (.cons rfl (.nil _))), hM⟩)
            · refine c_cond_false (hS.ev_ rfl) hc43 ?_
              refine wp_skip ?_
              refine x_block ?_
              refine x_then ?_
              refine wp_region_lit ?_
              refine st_val hS rfl rfl (by decide) (r_add rfl (hS.ev_ rfl) (hS.ev_ rfl)) fun a hS => ?_
              refine st_val hS rfl rfl (by decide) (r_move rfl (hS.ev_ rfl)) fun a hS => ?_
              refine st_done ?_
              replace hS : Slots 36 [] a [(16, Value.int .i64 (w64 (x21 + 1))), (15, Value.int .i64 ((p1.length : Int))), (14, v14), (0, strV (p1)), (2, Value.bool (false))] := (hS.part (.cons rfl (.cons rfl (.cons rfl (.cons rfl (.cons rfl (.nil _)))))))
              refine x_then ?_
              exact ih (w64 (x21 + 1)) _ h hr K41 _ _ (hlK20.trans hlK41) (hS.part (.cons rfl (.cons rfl (.cons rfl (.cons rfl (.cons rfl (.nil _))))))) (hM)
          · refine c_cond_false (hS.ev_ rfl) hc28 ?_
            refine wp_exit ?_
            refine x_then_exit ?_
            refine x_then_exit ?_
            have ho' := (Option.some.inj h).trans hr
            refine hQ _ _ _ ?_
            exact .inl ⟨rfl, K20, (()), hlK20, ho'.symm, (hS.part (.cons rfl (.cons rfl (.nil _)))), hM⟩
        exact key 0 _ h23 rfl K13 _ _ (Hp.le.refl _) (hS.part (.cons rfl (.cons rfl (.cons rfl (.cons rfl (.cons rfl (.nil _))))))) (hM)
      · rintro e a w (⟨rfl, K24, x25, hlK24, ho', hS, hM⟩ | ⟨rfl, K26, x27, hlK26, ho', hS, hM⟩)
        · subst ho'
          dsimp only at h
          refine x_block_here ?_
          refine x_then ?_
          refine wp_seq ?_
          refine wp_region_lit ?_
          refine st_val hS rfl rfl (by decide) (r_move rfl (hS.ev_ rfl)) fun a hS => ?_
          refine st_val hS rfl rfl (by decide) (r_sne rfl (hS.ev_ rfl) (hS.ev_ (v := strV (([] : List UInt8))) rfl)) fun a hS => ?_
          refine st_val hS rfl rfl (by decide) (r_move rfl (hS.ev_ rfl)) fun a hS => ?_
          obtain ⟨x44, h45, h⟩ := bindO h
          refine wl_cut 4 (fun a w => Slots 36 [] a [(0, strV (p1)), (2, Value.bool (false)), (30, Value.bool (x44))] ∧ Sat w0 w K24 (L)) ?_ ?_
          ·
            skip
            rcases ifB h45 with ⟨hc46, h45⟩ | ⟨hc46, h45⟩
            ·
              replace hS := hS.known (k := 26) rfl hc46
              refine st_want hS rfl rfl rfl rfl rfl (by decide) (r_move rfl (hS.ev_ rfl)) fun a hS => ?_
              refine st_want hS rfl rfl rfl rfl rfl (by decide) (r_len_str rfl un_9 (hS.ev_ rfl)) fun a hS => ?_
              refine st_want hS rfl rfl rfl rfl rfl (by decide) (r_cmp rfl (hS.ev_ rfl) (hS.ev_ rfl) rfl) fun a hS => ?_
              refine st_val hS rfl rfl (by decide) (r_pick_true rfl (hS.ev_ rfl) rfl (hS.ev_ rfl)) fun a hS => ?_
              refine st_done ?_
              replace hS : Slots 36 [] a [(30, Value.bool (decide (((p1.length : Int)) ≤ 24))), (0, strV (p1)), (2, Value.bool (false))] := (hS.part (.cons rfl (.cons rfl (.cons rfl (.nil _)))))
              refine x_then ?_
              obtain rfl := Option.some.inj h45
              exact ⟨(hS.part (.cons rfl (.cons rfl (.cons rfl (.nil _))))), hM⟩
            ·
              replace hS := hS.known (k := 26) rfl hc46
              refine st_off hS rfl rfl rfl rfl rfl rfl (by decide) fun a hS => ?_
              refine st_off hS rfl rfl rfl rfl rfl rfl (by decide) fun a hS => ?_
              refine st_off hS rfl rfl rfl rfl rfl rfl (by decide) fun a hS => ?_
              refine st_val hS rfl rfl (by decide) (r_pick_false rfl (hS.ev_ rfl) rfl (hS.ev_ rfl)) fun a hS => ?_
              refine st_done ?_
              replace hS : Slots 36 [] a [(30, Value.bool (false)), (0, strV (p1)), (2, Value.bool (false))] := (hS.part (.cons rfl (.cons rfl (.cons rfl (.nil _)))))
              refine x_then ?_
              obtain rfl := Option.some.inj h45
              exact ⟨(hS.part (.cons rfl (.cons rfl (.cons rfl (.nil _))))), hM⟩
          · rintro a w ⟨hS, hM⟩
            refine st_val hS rfl rfl (by decide) (r_move rfl (hS.ev_ rfl)) fun a hS => ?_
            obtain ⟨x48, h49, h⟩ := bindO h
            refine wl_cut 4 (fun a w => ∃ (K47 : Hp), Hp.le K24 K47 ∧ Slots 36 [] a [(2, Value.bool (false)), (35, Value.bool (x48))] ∧ Sat w0 w K47 (L)) ?_ ?_
            ·
              skip
              rcases ifB h49 with ⟨hc50, h49⟩ | ⟨hc50, h49⟩
              ·
                replace hS := hS.known (k := 31) rfl hc50
                refine st_want hS rfl rfl rfl rfl rfl (by decide) (r_move rfl (hS.ev_ rfl)) fun a hS => ?_
                obtain ⟨c51, h52, h49⟩ := bindO h49
                refine st_want hS rfl rfl rfl rfl rfl (by decide) (r_index_s rfl un_9 (hS.ev_ rfl) (hS.ev_ rfl) h52) fun a hS => ?_
                obtain ⟨y53, h54, h49⟩ := bindO h49
                have hc56 := W_begins_c hG h54 hM
                refine g_want hS rfl rfl rfl rfl (e_call rfl Tryd.func23 rfl rfl (args1 (hS.ev_ rfl)) hc56 ?_)
                rintro _ w ⟨K55, hlK55, hM, rfl⟩
                refine ⟨_, rfl, ?_⟩
                refine pl hS rfl (by decide) fun a hS => ?_
                refine st_val hS rfl rfl (by decide) (r_pick_true rfl (hS.ev_ rfl) rfl (hS.ev_ rfl)) fun a hS => ?_
                refine st_done ?_
                replace hS : Slots 36 [] a [(35, Value.bool (y53)), (2, Value.bool (false))] := (hS.part (.cons rfl (.cons rfl (.nil _))))
                refine x_then ?_
                obtain rfl := Option.some.inj h49
                exact ⟨K55, hlK55, (hS.part (.cons rfl (.cons rfl (.nil _)))), hM⟩
              ·
                replace hS := hS.known (k := 31) rfl hc50
                refine st_off hS rfl rfl rfl rfl rfl rfl (by decide) fun a hS => ?_
                refine st_off hS rfl rfl rfl rfl rfl rfl (by decide) fun a hS => ?_
                refine st_off hS rfl rfl rfl rfl rfl rfl (by decide) fun a hS => ?_
                refine st_val hS rfl rfl (by decide) (r_pick_false rfl (hS.ev_ rfl) rfl (hS.ev_ rfl)) fun a hS => ?_
                refine st_done ?_
                replace hS : Slots 36 [] a [(35, Value.bool (false)), (2, Value.bool (false))] := (hS.part (.cons rfl (.cons rfl (.nil _))))
                refine x_then ?_
                obtain rfl := Option.some.inj h49
                exact ⟨K24, (Hp.le.refl _), (hS.part (.cons rfl (.cons rfl (.nil _)))), hM⟩
            · rintro a w ⟨K47, hlK47, hS, hM⟩
              refine st_val hS rfl rfl (by decide) (r_assign rfl (hS.ev_ rfl)) fun a hS => ?_
              refine st_done ?_
              replace hS : Slots 36 [] a [(2, Value.bool (x48))] := (hS.part (.cons rfl (.nil _)))
              refine x_then ?_
              refine wp_ret ?_
              have hr' := Option.some.inj h
              subst hr'
              refine ret1 (.inr rfl) hS rfl rfl ?_
              exact ⟨K47, (((hlK2.trans hlK13).trans hlK24).trans hlK47), hM, rfl⟩
        · subst ho'
          dsimp only at h
          refine x_block_ret ?_
          refine x_then_ret ?_
          have hr' := Option.some.inj h
          subst hr'
          refine ret1 (.inr rfl) hS rfl rfl ?_
          exact ⟨K26, ((hlK2.trans hlK13).trans hlK26), hM, rfl⟩

theorem W_Right_c {w0 w : World} {K : Hp} {L : List SP} {p1 : List W_Piece} {v2 : Value} {r : Bool} (hG : Glob w0) (h : W_Right p1 = some r) (f3 : kW_Piece.sl K v2 p1) (hM : Sat w0 w K (L)) :
    Calls Tryd.prog 10 #[v2] w (fun e w' => ∃ (K' : Hp), Hp.le K K' ∧ Sat w0 w' K' (L) ∧ e = .returned (Value.bool (r))) := by
  refine enter_ (n := 52) (args := [v2]) Tryd.func10 rfl rfl (Nat.le_of_ble_eq_true rfl) fun a hS => ?_
  replace hS : Slots 52 [] a [(0, v2)] := hS
  unfold W_Right at h
  refine wp_seq ?_
  refine wp_region_lit ?_
  refine st_val hS rfl rfl (by decide) (r_assign rfl (hS.ev_ rfl)) fun a hS => ?_
  refine st_done ?_
  replace hS : Slots 52 [] a [(2, Value.bool (false)), (0, v2)] := (hS.part (.cons rfl (.cons rfl (.nil _))))
  refine x_then ?_
  refine wp_seq ?_
  refine wp_seq ?_
  refine wp_region_lit ?_
  refine st_val hS rfl rfl (by decide) (r_move rfl (hS.ev_ rfl)) fun a hS => ?_
  refine st_val hS rfl rfl (by decide) (r_len_sl rfl un_22 (hS.ev_ rfl) f3) fun a hS => ?_
  refine st_val hS rfl rfl (by decide) (r_move rfl (hS.ev_ rfl)) fun a hS => ?_
  refine st_done ?_
  replace hS : Slots 52 [] a [(7, Value.int .i64 (0)), (6, Value.int .i64 ((p1.length : Int))), (5, v2), (2, Value.bool (false)), (0, v2)] := (hS.part (.cons rfl (.cons rfl (.cons rfl (.cons rfl (.cons rfl (.nil _)))))))
  refine x_then ?_
  refine wp_block ?_
  obtain ⟨o9, h10, h⟩ := bindO h
  refine c_loop_ways (fun e a w => (e = .exit 0 ∧ ∃ (K11 : Hp) (x12 : Unit), Hp.le K K11 ∧ o9 = Sum.inl x12 ∧ Slots 52 [] a [(0, v2), (2, Value.bool (false))] ∧ Sat w0 w K11 (L)) ∨ (e = .ret ∧ ∃ (K13 : Hp) (x14 : Unit), Hp.le K K13 ∧ o9 = Sum.inr x14 ∧ Slots 52 [] a [(2, Value.bool (false))] ∧ Sat w0 w K13 (L))) ?_ ?_
  · intro c Q hc hQ
    have key : ∀ (x8 : Int) (r' : Sum Unit Unit), W_Right_l1 p1 x8 = some r' → r' = o9 → ∀ (K7 : Hp) (a : Act) (w : World), Hp.le K K7 → Slots 52 [] a [(7, Value.int .i64 (x8)), (6, Value.int .i64 ((p1.length : Int))), (5, v2), (2, Value.bool (false)), (0, v2)] → Sat w0 w K7 (L) → Rnd Tryd.prog c Q a w := by
      refine W_Right_l1.partial_correctness p1 _ ?_
      intro W_Right_l1_rec ih x8 r' h hr K7  a w hlK7 hS hM 
      subst hc
      refine c_round ?_
      refine wp_seq ?_
      refine wp_region_lit ?_
      refine st_val hS rfl rfl (by decide) (r_cmp rfl (hS.ev_ rfl) (hS.ev_ rfl) rfl) fun a hS => ?_
      refine st_done ?_
      replace hS : Slots 52 [] a [(8, Value.bool (decide (x8 < ((p1.length : Int))))), (7, Value.int .i64 (x8)), (6, Value.int .i64 ((p1.length : Int))), (5, v2), (2, Value.bool (false)), (0, v2)] := (hS.part (.cons rfl (.cons rfl (.cons rfl (.cons rfl (.cons rfl (.cons rfl (.nil _))))))))
      refine x_then ?_
      refine wp_seq ?_
      rcases ifB h with ⟨hc15, h⟩ | ⟨hc15, h⟩
      · refine c_cond_true (hS.ev_ rfl) hc15 ?_
        refine wp_skip ?_
        refine x_then ?_
        refine wp_seq ?_
        refine wp_block ?_
        refine wp_seq ?_
        refine wp_region_lit ?_
        refine st_val hS rfl rfl (by decide) (r_move rfl (hS.ev_ rfl)) fun a hS => ?_
        obtain ⟨e16, h17, h⟩ := bindO h
        obtain ⟨ad18, cp19, cs20, hv21, hr22, h0_23, h1_24, hq25⟩ := sl_at f3 h17 (by decide)
        obtain rfl := kW_Piece_open hr22
        refine st_val hS rfl rfl (by decide) (r_idx_sl rfl un_22 ti_46 (hS.ev_ rfl) hv21 (hS.ev_ rfl) h0_23 h1_24) fun a hS => ?_
        refine st_val hS rfl rfl (by decide) (r_ldN_k (cs' := [strV (e16.f_Var), strV (e16.f_Lit)]) rfl ag_46 ti_46 (hS.ev_ rfl) hq25 rfl (Rd.up hlK7 hM.nil_)) fun a hS => ?_
        refine wl_cons rfl (e_alloc (cs := [strV (([] : List UInt8)), strV (([] : List UInt8))]) hM rfl ti_46 rfl fun g26 w hM => ?_)
        refine pl hS rfl (by decide) fun a hS => ?_
        refine st_val hS rfl rfl (by decide) (r_assign rfl (hS.ev_ rfl)) fun a hS => ?_
        refine wl_cons rfl (e_storeN (vs := [strV (e16.f_Var), strV (e16.f_Lit)]) hM rfl ti_46 (hS.ev_ rfl) (hS.ev_ rfl) (ones_cons rfl (ones_cons rfl ones_nil)) (Nat.le_of_ble_eq_true rfl) fun w hM => ?_)
        have hM : Sat w0 w K7 (SP.blk g26 46 [strV (e16.f_Var), strV (e16.f_Lit)] :: L) := hM
        refine pl0 hS rfl fun a hS => ?_
        refine st_done ?_
        replace hS : Slots 52 [] a [(3, Value.int .i64 (x8)), (4, Value.pointer (some ⟨g26, 0, none⟩)), (7, Value.int .i64 (x8)), (6, Value.int .i64 ((p1.length : Int))), (5, v2), (2, Value.bool (false)), (0, v2)] := (hS.part (.cons rfl (.cons rfl (.cons rfl (.cons rfl (.cons rfl (.cons rfl (.cons rfl (.nil _)))))))))
        refine x_then ?_
        refine wp_block ?_
        refine wp_seq ?_
        refine wp_region_lit ?_
        refine st_val hS rfl rfl (by decide) (r_fld_b rfl fo_46_0 (hS.ev_ rfl)) fun a hS => ?_
        refine st_val hS rfl rfl (by decide) (r_ld1_b rfl ag_9 (hS.ev_ rfl) rfl (Rd.of hM)) fun a hS => ?_
        refine st_val hS rfl rfl (by decide) (r_sne rfl (hS.ev_ rfl) (hS.ev_ (v := strV (([] : List UInt8))) rfl)) fun a hS => ?_
        refine st_val hS rfl rfl (by decide) (r_move rfl (hS.ev_ rfl)) fun a hS => ?_
        obtain ⟨x29, h30, h⟩ := bindO h
        refine wl_cut 10 (fun a w => ∃ (K28 : Hp), Hp.le K7 K28 ∧ Slots 52 [] a [(0, v2), (2, Value.bool (false)), (3, Value.int .i64 (x8)), (4, Value.pointer (some ⟨g26, 0, none⟩)), (5, v2), (6, Value.int .i64 ((p1.length : Int))), (7, Value.int .i64 (x8)), (26, Value.bool (x29))] ∧ Sat w0 w K28 (SP.blk g26 46 [strV (e16.f_Var), strV (e16.f_Lit)] :: L)) ?_ ?_
        ·
          skip
          rcases ifB h30 with ⟨hc31, h30⟩ | ⟨hc31, h30⟩
          ·
            replace hS := hS.known (k := 16) rfl hc31
            refine st_want hS rfl rfl rfl rfl rfl (by decide) (r_fld_b rfl fo_46_1 (hS.ev_ rfl)) fun a hS => ?_
            refine st_want hS rfl rfl rfl rfl rfl (by decide) (r_ld1_b rfl ag_9 (hS.ev_ rfl) rfl (Rd.of hM)) fun a hS => ?_
            refine st_want hS rfl rfl rfl rfl rfl (by decide) (r_sne rfl (hS.ev_ rfl) (hS.ev_ (v := strV (([] : List UInt8))) rfl)) fun a hS => ?_
            refine st_want hS rfl rfl rfl rfl rfl (by decide) (r_move rfl (hS.ev_ rfl)) fun a hS => ?_
            obtain ⟨x33, h34, h30⟩ := bindO h30
            refine wl_cut 5 (fun a w => ∃ (K32 : Hp), Hp.le K7 K32 ∧ Slots 52 [] a [(0, v2), (2, Value.bool (false)), (3, Value.int .i64 (x8)), (4, Value.pointer (some ⟨g26, 0, none⟩)), (5, v2), (6, Value.int .i64 ((p1.length : Int))), (7, Value.int .i64 (x8)), (16, Value.bool (true)), (25, Value.bool (x33))] ∧ Sat w0 w K32 (SP.blk g26 46 [strV (e16.f_Var), strV (e16.f_Lit)] :: L)) ?_ ?_
            ·
              skip
              rcases ifB h34 with ⟨hc35, h34⟩ | ⟨hc35, h34⟩
              ·
                replace hS := hS.known (k := 20) rfl hc35
                refine st_off hS rfl rfl rfl rfl rfl rfl (by decide) fun a hS => ?_
                refine st_off hS rfl rfl rfl rfl rfl rfl (by decide) fun a hS => ?_
                refine st_off hS rfl rfl rfl rfl rfl rfl (by decide) fun a hS => ?_
                refine st_off hS rfl rfl rfl rfl rfl rfl (by decide) fun a hS => ?_
                refine st_want hS rfl rfl rfl rfl rfl (by decide) (r_pick_true rfl (hS.ev_ rfl) rfl (hS.ev_ rfl)) fun a hS => ?_
                refine st_done ?_
                replace hS : Slots 52 [] a [(25, Value.bool (true)), (16, Value.bool (true)), (3, Value.int .i64 (x8)), (4, Value.pointer (some ⟨g26, 0, none⟩)), (7, Value.int .i64 (x8)), (6, Value.int .i64 ((p1.length : Int))), (5, v2), (2, Value.bool (false)), (0, v2)] := (hS.part (.cons rfl (.cons rfl (.cons rfl (.cons rfl (.cons rfl (.cons rfl (.cons rfl (.cons rfl (.cons rfl (.nil _)))))))))))
                refine x_then ?_
                obtain rfl := Option.some.inj h34
                exact ⟨K7, (Hp.le.refl _), (hS.part (.cons rfl (.cons rfl (.cons rfl (.cons rfl (.cons rfl (.cons rfl (.cons rfl (.cons rfl (.cons rfl (.nil _))))))))))), hM⟩
              ·
                replace hS := hS.known (k := 20) rfl hc35
                refine st_want hS rfl rfl rfl rfl rfl (by decide) (r_fld_b rfl fo_46_0 (hS.ev_ rfl)) fun a hS => ?_
                refine st_want hS rfl rfl rfl rfl rfl (by decide) (r_ld1_b rfl ag_9 (hS.ev_ rfl) rfl (Rd.of hM)) fun a hS => ?_
                obtain ⟨y36, h37, h34⟩ := bindO h34
                have hc39 := W_named_c hG h37 hM
                refine g_want hS rfl rfl rfl rfl (e_call rfl Tryd.func19 rfl rfl (args1 (hS.ev_ rfl)) hc39 ?_)
                rintro _ w ⟨K38, hlK38, hM, rfl⟩
                refine ⟨_, rfl, ?_⟩
                refine pl hS rfl (by decide) fun a hS => ?_
                refine st_want hS rfl rfl rfl rfl rfl (by decide) (r_not rfl (hS.ev_ rfl)) fun a hS => ?_
                refine st_want hS rfl rfl rfl rfl rfl (by decide) (r_pick_false rfl (hS.ev_ rfl) rfl (hS.ev_ rfl)) fun a hS => ?_
                refine st_done ?_
                replace hS : Slots 52 [] a [(25, Value.bool (!y36)), (16, Value.bool (true)), (3, Value.int .i64 (x8)), (4, Value.pointer (some ⟨g26, 0, none⟩)), (7, Value.int .i64 (x8)), (6, Value.int .i64 ((p1.length : Int))), (5, v2), (2, Value.bool (false)), (0, v2)] := (hS.part (.cons rfl (.cons rfl (.cons rfl (.cons rfl (.cons rfl (.cons rfl (.cons rfl (.cons rfl (.cons rfl (.nil _)))))))))))
                refine x_then ?_
                obtain rfl := Option.some.inj h34
                exact ⟨K38, hlK38, (hS.part (.cons rfl (.cons rfl (.cons rfl (.cons rfl (.cons rfl (.cons rfl (.cons rfl (.cons rfl (.cons rfl (.nil _))))))))))), hM⟩
            · rintro a w ⟨K32, hlK32, hS, hM⟩
              refine st_val hS rfl rfl (by decide) (r_pick_true rfl (hS.ev_ rfl) rfl (hS.ev_ rfl)) fun a hS => ?_
              refine st_done ?_
              replace hS : Slots 52 [] a [(26, Value.bool (x33)), (0, v2), (2, Value.bool (false)), (3, Value.int .i64 (x8)), (4, Value.pointer (some ⟨g26, 0, none⟩)), (5, v2), (6, Value.int .i64 ((p1.length : Int))), (7, Value.int .i64 (x8))] := (hS.part (.cons rfl (.cons rfl (.cons rfl (.cons rfl (.cons rfl (.cons rfl (.cons rfl (.cons rfl (.nil _))))))))))
              refine x_then ?_
              obtain rfl := Option.some.inj h30
              exact ⟨K32, hlK32, (hS.part (.cons rfl (.cons rfl (.cons rfl (.cons rfl (.cons rfl (.cons rfl (.cons rfl (.cons rfl (.nil _)))))))))), hM⟩
          ·
            replace hS := hS.known (k := 16) rfl hc31
            refine st_off hS rfl rfl rfl rfl rfl rfl (by decide) fun a hS => ?_
            refine st_off hS rfl rfl rfl rfl rfl rfl (by decide) fun a hS => ?_
            refine st_off hS rfl rfl rfl rfl rfl rfl (by decide) fun a hS => ?_
            refine st_off hS rfl rfl rfl rfl rfl rfl (by decide) fun a hS => ?_
            refine st_off_undef hS rfl rfl rfl rfl rfl (by decide) fun a hS => ?_
            refine st_off_undef hS rfl rfl rfl rfl rfl (by decide) fun a hS => ?_
            refine st_off_undef hS rfl rfl rfl rfl rfl (by decide) fun a hS => ?_
            refine st_off_undef hS rfl rfl rfl rfl rfl (by decide) fun a hS => ?_
            refine st_off hS rfl rfl rfl rfl rfl rfl (by decide) fun a hS => ?_
            refine st_val hS rfl rfl (by decide) (r_pick_false rfl (hS.ev_ rfl) rfl (hS.ev_ rfl)) fun a hS => ?_
            refine st_done ?_
            replace hS : Slots 52 [] a [(26, Value.bool (false)), (3, Value.int .i64 (x8)), (4, Value.pointer (some ⟨g26, 0, none⟩)), (7, Value.int .i64 (x8)), (6, Value.int .i64 ((p1.length : Int))), (5, v2), (2, Value.bool (false)), (0, v2)] := (hS.part (.cons rfl (.cons rfl (.cons rfl (.cons rfl (.cons rfl (.cons rfl (.cons rfl (.cons rfl (.nil _))))))))))
            refine x_then ?_
            obtain rfl := Option.some.inj h30
            exact ⟨K7, (Hp.le.refl _), (hS.part (.cons rfl (.cons rfl (.cons rfl (.cons rfl (.cons rfl (.cons rfl (.cons rfl (.cons rfl (.nil _)))))))))), hM⟩
        · rintro a w ⟨K28, hlK28, hS, hM⟩
          refine st_val hS rfl rfl (by decide) (r_assign rfl (hS.ev_ rfl)) fun a hS => ?_
          refine st_done ?_
          replace hS : Slots 52 [] a [(12, Value.bool (x29)), (0, v2), (2, Value.bool (false)), (3, Value.int .i64 (x8)), (4, Value.pointer (some ⟨g26, 0, none⟩)), (5, v2), (6, Value.int .i64 ((p1.length : Int))), (7, Value.int .i64 (x8))] := (hS.part (.cons rfl (.cons rfl (.cons rfl (.cons rfl (.cons rfl (.cons rfl (.cons rfl (.cons rfl (.nil _))))))))))
          refine x_then ?_
          rcases ifB h with ⟨hc40, h⟩ | ⟨hc40, h⟩
          · refine c_cond_true (hS.ev_ rfl) hc40 ?_
            refine wp_seq ?_
            refine wp_region_lit ?_
            refine st_val hS rfl rfl (by decide) (r_assign rfl (hS.ev_ rfl)) fun a hS => ?_
            refine st_done ?_
            replace hS : Slots 52 [] a [(2, Value.bool (false)), (0, v2), (5, v2), (6, Value.int .i64 ((p1.length : Int))), (7, Value.int .i64 (x8))] := (hS.part (.cons rfl (.cons rfl (.cons rfl (.cons rfl (.cons rfl (.nil _)))))))
            refine x_then ?_
            refine wp_ret ?_
            refine x_block_ret ?_
            refine x_block_ret ?_
            refine x_then_ret ?_
            refine x_then_ret ?_
            have ho' := (Option.some.inj h).trans hr
            refine hQ _ _ _ ?_
            exact .inr (⟨rfl, K28, (()), (hlK7.trans hlK28), ho'.symm, (hS.part (.cons rfl (.nil _))), (hM).tail⟩)
          · refine c_cond_false (hS.ev_ rfl) hc40 ?_
            refine wp_seq ?_
            refine wp_region_lit ?_
            refine st_val hS rfl rfl (by decide) (r_fld_b rfl fo_46_0 (hS.ev_ rfl)) fun a hS => ?_
            refine st_val hS rfl rfl (by decide) (r_ld1_b rfl ag_9 (hS.ev_ rfl) rfl (Rd.of hM)) fun a hS => ?_
            refine st_val hS rfl rfl (by decide) (r_seq rfl (hS.ev_ rfl) (hS.ev_ (v := strV (([] : List UInt8))) rfl)) fun a hS => ?_
            refine st_val hS rfl rfl (by decide) (r_move rfl (hS.ev_ rfl)) fun a hS => ?_
            obtain ⟨x41, h42, h⟩ := bindO h
            refine wl_cut 17 (fun a w => Slots 52 [] a [(0, v2), (2, Value.bool (false)), (5, v2), (6, Value.int .i64 ((p1.length : Int))), (7, Value.int .i64 (x8)), (48, Value.bool (x41))] ∧ Sat w0 w K28 (SP.blk g26 46 [strV (e16.f_Var), strV (e16.f_Lit)] :: L)) ?_ ?_
            ·
              skip
              rcases ifB h42 with ⟨hc43, h42⟩ | ⟨hc43, h42⟩
              ·
                replace hS := hS.known (k := 31) rfl hc43
                refine st_want hS rfl rfl rfl rfl rfl (by decide) (r_fld_b rfl fo_46_1 (hS.ev_ rfl)) fun a hS => ?_
                refine st_want hS rfl rfl rfl rfl rfl (by decide) (r_ld1_b rfl ag_9 (hS.ev_ rfl) rfl (Rd.of hM)) fun a hS => ?_
                refine st_want hS rfl rfl rfl rfl rfl (by decide) (r_seq rfl (hS.ev_ rfl) (hS.ev_ (v := strV (([] : List UInt8))) rfl)) fun a hS => ?_
                refine st_want hS rfl rfl rfl rfl rfl (by decide) (r_move rfl (hS.ev_ rfl)) fun a hS => ?_
                obtain ⟨x44, h45, h42⟩ := bindO h42
                refine wl_cut 12 (fun a w => Slots 52 [] a [(0, v2), (2, Value.bool (false)), (5, v2), (6, Value.int .i64 ((p1.length : Int))), (7, Value.int .i64 (x8)), (31, Value.bool (true)), (47, Value.bool (x44))] ∧ Sat w0 w K28 (SP.blk g26 46 [strV (e16.f_Var), strV (e16.f_Lit)] :: L)) ?_ ?_
                ·
                  skip
                  rcases ifB h45 with ⟨hc46, h45⟩ | ⟨hc46, h45⟩
                  ·
                    replace hS := hS.known (k := 35) rfl hc46
                    refine st_off hS rfl rfl rfl rfl rfl rfl (by decide) fun a hS => ?_
                    refine st_off hS rfl rfl rfl rfl rfl rfl (by decide) fun a hS => ?_
                    refine st_off hS rfl rfl rfl rfl rfl rfl (by decide) fun a hS => ?_
                    refine st_off_undef hS rfl rfl rfl rfl rfl (by decide) fun a hS => ?_
                    refine st_off_undef hS rfl rfl rfl rfl rfl (by decide) fun a hS => ?_
                    refine st_off_undef hS rfl rfl rfl rfl rfl (by decide) fun a hS => ?_
                    refine st_off_undef hS rfl rfl rfl rfl rfl (by decide) fun a hS => ?_
                    refine st_off_undef hS rfl rfl rfl rfl rfl (by decide) fun a hS => ?_
                    refine st_off_undef hS rfl rfl rfl rfl rfl (by decide) fun a hS => ?_
                    refine st_off_undef hS rfl rfl rfl rfl rfl (by decide) fun a hS => ?_
                    refine st_off hS rfl rfl rfl rfl rfl rfl (by decide) fun a hS => ?_
                    refine st_want hS rfl rfl rfl rfl rfl (by decide) (r_pick_true rfl (hS.ev_ rfl) rfl (hS.ev_ rfl)) fun a hS => ?_
                    refine st_done ?_
                    replace hS : Slots 52 [] a [(47, Value.bool (true)), (31, Value.bool (true)), (0, v2), (2, Value.bool (false)), (5, v2), (6, Value.int .i64 ((p1.length : Int))), (7, Value.int .i64 (x8))] := (hS.part (.cons rfl (.cons rfl (.cons rfl (.cons rfl (.cons rfl (.cons rfl (.cons rfl (.nil _)))))))))
                    refine x_then ?_
                    obtain rfl := Option.some.inj h45
                    exact ⟨(hS.part (.cons rfl (.cons rfl (.cons rfl (.cons rfl (.cons rfl (.cons rfl (.cons rfl (.nil _))))))))), hM⟩
                  ·
                    replace hS := hS.known (k := 35) rfl hc46
                    refine st_want hS rfl rfl rfl rfl rfl (by decide) (r_move rfl (hS.ev_ rfl)) fun a hS => ?_
                    refine st_want hS rfl rfl rfl rfl rfl (by decide) (r_cmp rfl (hS.ev_ rfl) (hS.ev_ rfl) rfl) fun a hS => ?_
                    refine st_want hS rfl rfl rfl rfl rfl (by decide) (r_move rfl (hS.ev_ rfl)) fun a hS => ?_
                    obtain ⟨x47, h48, h45⟩ := bindO h45
                    refine wl_cut 8 (fun a w => Slots 52 [] a [(0, v2), (2, Value.bool (false)), (5, v2), (6, Value.int .i64 ((p1.length : Int))), (7, Value.int .i64 (x8)), (31, Value.bool (true)), (35, Value.bool (false)), (46, Value.bool (x47))] ∧ Sat w0 w K28 (SP.blk g26 46 [strV (e16.f_Var), strV (e16.f_Lit)] :: L)) ?_ ?_
                    ·
                      skip
                      rcases ifB h48 with ⟨hc49, h48⟩ | ⟨hc49, h48⟩
                      ·
                        replace hS := hS.known (k := 38) rfl hc49
                        refine st_want hS rfl rfl rfl rfl rfl (by decide) (r_move rfl (hS.ev_ rfl)) fun a hS => ?_
                        refine st_want hS rfl rfl rfl rfl rfl (by decide) (r_move rfl (hS.ev_ rfl)) fun a hS => ?_
                        refine st_want hS rfl rfl rfl rfl rfl (by decide) (r_sub rfl (hS.ev_ rfl) (hS.ev_ rfl)) fun a hS => ?_
                        obtain ⟨e50, h51, h48⟩ := bindO h48
                        obtain ⟨ad52, cp53, cs54, hv55, hr56, h0_57, h1_58, hq59⟩ := sl_at f3 h51 (by decide)
                        obtain rfl := kW_Piece_open hr56
                        refine st_want hS rfl rfl rfl rfl rfl (by decide) (r_idx_sl rfl un_22 ti_46 (hS.ev_ rfl) hv55 (hS.ev_ rfl) h0_57 h1_58) fun a hS => ?_
                        refine st_want hS rfl rfl rfl rfl rfl (by decide) (r_fld_k rfl fo_46_0 (hS.ev_ rfl)) fun a hS => ?_
                        refine st_want hS rfl rfl rfl rfl rfl (by decide) (r_ld1_k rfl ag_9 (hS.ev_ rfl) hq59 rfl (Rd.up (hlK7.trans hlK28) hM.nil_)) fun a hS => ?_
                        refine st_want hS rfl rfl rfl rfl rfl (by decide) (r_seq rfl (hS.ev_ rfl) (hS.ev_ (v := strV (([] : List UInt8))) rfl)) fun a hS => ?_
                        refine st_want hS rfl rfl rfl rfl rfl (by decide) (r_pick_true rfl (hS.ev_ rfl) rfl (hS.ev_ rfl)) fun a hS => ?_
                        refine st_done ?_
                        replace hS : Slots 52 [] a [(46, Value.bool (e50.f_Var == ([] : List UInt8))), (35, Value.bool (false)), (31, Value.bool (true)), (0, v2), (2, Value.bool (false)), (5, v2), (6, Value.int .i64 ((p1.length : Int))), (7, Value.int .i64 (x8))] := (hS.part (.cons rfl (.cons rfl (.cons rfl (.cons rfl (.cons rfl (.cons rfl (.cons rfl (.cons rfl (.nil _))))))))))
                        refine x_then ?_
                        obtain rfl := Option.some.inj h48
                        exact ⟨(hS.part (.cons rfl (.cons rfl (.cons rfl (.cons rfl (.cons rfl (.cons rfl (.cons rfl (.cons rfl (.nil _)))))))))), hM⟩
                      ·
                        replace hS := hS.known (k := 38) rfl hc49
                        refine st_off hS rfl rfl rfl rfl rfl rfl (by decide) fun a hS => ?_
                        refine st_off hS rfl rfl rfl rfl rfl rfl (by decide) fun a hS => ?_
                        refine st_off hS rfl rfl rfl rfl rfl rfl (by decide) fun a hS => ?_
                        refine st_off hS rfl rfl rfl rfl rfl rfl (by decide) fun a hS => ?_
                        refine st_off hS rfl rfl rfl rfl rfl rfl (by decide) fun a hS => ?_
                        refine st_off hS rfl rfl rfl rfl rfl rfl (by decide) fun a hS => ?_
                        refine st_off hS rfl rfl rfl rfl rfl rfl (by decide) fun a hS => ?_
                        refine st_want hS rfl rfl rfl rfl rfl (by decide) (r_pick_false rfl (hS.ev_ rfl) rfl (hS.ev_ rfl)) fun a hS => ?_
                        refine st_done ?_
                        replace hS : Slots 52 [] a [(46, Value.bool (false)), (35, Value.bool (false)), (31, Value.bool (true)), (0, v2), (2, Value.bool (false)), (5, v2), (6, Value.int .i64 ((p1.length : Int))), (7, Value.int .i64 (x8))] := (hS.part (.cons rfl (.cons rfl (.cons rfl (.cons rfl (.cons rfl (.cons rfl (.cons rfl (.cons rfl (.nil _))))))))))
                        refine x_then ?_
                        obtain rfl := Option.some.inj h48
                        exact ⟨(hS.part (.cons rfl (.cons rfl (.cons rfl (.cons rfl (.cons rfl (.cons rfl (.cons rfl (.cons rfl (.nil _)))))))))), hM⟩
                    · rintro a w ⟨hS, hM⟩
                      refine st_want hS rfl rfl rfl rfl rfl (by decide) (r_pick_false rfl (hS.ev_ rfl) rfl (hS.ev_ rfl)) fun a hS => ?_
                      refine st_done ?_
                      replace hS : Slots 52 [] a [(47, Value.bool (x47)), (0, v2), (2, Value.bool (false)), (5, v2), (6, Value.int .i64 ((p1.length : Int))), (7, Value.int .i64 (x8)), (31, Value.bool (true))] := (hS.part (.cons rfl (.cons rfl (.cons rfl (.cons rfl (.cons rfl (.cons rfl (.cons rfl (.nil _)))))))))
                      refine x_then ?_
                      obtain rfl := Option.some.inj h45
                      exact ⟨(hS.part (.cons rfl (.cons rfl (.cons rfl (.cons rfl (.cons rfl (.cons rfl (.cons rfl (.nil _))))))))), hM⟩
                · rintro a w ⟨hS, hM⟩
                  refine st_val hS rfl rfl (by decide) (r_pick_true rfl (hS.ev_ rfl) rfl (hS.ev_ rfl)) fun a hS => ?_
                  refine st_done ?_
                  replace hS : Slots 52 [] a [(48, Value.bool (x44)), (0, v2), (2, Value.bool (false)), (5, v2), (6, Value.int .i64 ((p1.length : Int))), (7, Value.int .i64 (x8))] := (hS.part (.cons rfl (.cons rfl (.cons rfl (.cons rfl (.cons rfl (.cons rfl (.nil _))))))))
                  refine x_then ?_
                  obtain rfl := Option.some.inj h42
                  exact ⟨(hS.part (.cons rfl (.cons rfl (.cons rfl (.cons rfl (.cons rfl (.cons rfl (.nil _)))))))), hM⟩
              ·
                replace hS := hS.known (k := 31) rfl hc43
                refine st_off hS rfl rfl rfl rfl rfl rfl (by decide) fun a hS => ?_
                refine st_off hS rfl rfl rfl rfl rfl rfl (by decide) fun a hS => ?_
                refine st_off hS rfl rfl rfl rfl rfl rfl (by decide) fun a hS => ?_
                refine st_off hS rfl rfl rfl rfl rfl rfl (by decide) fun a hS => ?_
                refine st_off_undef hS rfl rfl rfl rfl rfl (by decide) fun a hS => ?_
                refine st_off_undef hS rfl rfl rfl rfl rfl (by decide) fun a hS => ?_
                refine st_off_undef hS rfl rfl rfl rfl rfl (by decide) fun a hS => ?_
                refine st_off_undef hS rfl rfl rfl rfl rfl (by decide) fun a hS => ?_
                refine st_off_undef hS rfl rfl rfl rfl rfl (by decide) fun a hS => ?_
                refine st_off_undef hS rfl rfl rfl rfl rfl (by decide) fun a hS => ?_
                refine st_off_undef hS rfl rfl rfl rfl rfl (by decide) fun a hS => ?_
                refine st_off_undef hS rfl rfl rfl rfl rfl (by decide) fun a hS => ?_
                refine st_off_undef hS rfl rfl rfl rfl rfl (by decide) fun a hS => ?_
                refine st_off_undef hS rfl rfl rfl rfl rfl (by decide) fun a hS => ?_
                refine st_off_undef hS rfl rfl rfl rfl rfl (by decide) fun a hS => ?_
                refine st_off hS rfl rfl rfl rfl rfl rfl (by decide) fun a hS => ?_
                refine st_val hS rfl rfl (by decide) (r_pick_false rfl (hS.ev_ rfl) rfl (hS.ev_ rfl)) fun a hS => ?_
                refine st_done ?_
                replace hS : Slots 52 [] a [(48, Value.bool (false)), (0, v2), (2, Value.bool (false)), (5, v2), (6, Value.int .i64 ((p1.length : Int))), (7, Value.int .i64 (x8))] := (hS.part (.cons rfl (.cons rfl (.cons rfl (.cons rfl (.cons rfl (.cons rfl (.nil _))))))))
                refine x_then ?_
                obtain rfl := Option.some.inj h42
                exact ⟨(hS.part (.cons rfl (.cons rfl (.cons rfl (.cons rfl (.cons rfl (.cons rfl (.nil _)))))))), hM⟩
            · rintro a w ⟨hS, hM⟩
              refine st_val hS rfl rfl (by decide) (r_assign rfl (hS.ev_ rfl)) fun a hS => ?_
              refine st_done ?_
              replace hS : Slots 52 [] a [(27, Value.bool (x41)), (0, v2), (2, Value.bool (false)), (5, v2), (6, Value.int .i64 ((p1.length : Int))), (7, Value.int .i64 (x8))] := (hS.part (.cons rfl (.cons rfl (.cons rfl (.cons rfl (.cons rfl (.cons rfl (.nil _))))))))
              refine x_then ?_
              rcases ifB h with ⟨hc60, h⟩ | ⟨hc60, h⟩
              · refine c_cond_true (hS.ev_ rfl) hc60 ?_
                refine wp_seq ?_
                refine wp_region_lit ?_
                refine st_val hS rfl rfl (by decide) (r_assign rfl (hS.ev_ rfl)) fun a hS => ?_
                refine st_done ?_
                replace hS : Slots 52 [] a [(2, Value.bool (false)), (0, v2), (5, v2), (6, Value.int .i64 ((p1.length : Int))), (7, Value.int .i64 (x8))] := (hS.part (.cons rfl (.cons rfl (.cons rfl (.cons rfl (.cons rfl (.nil _)))))))
                refine x_then ?_
                refine wp_ret ?_
                refine x_block_ret ?_
                refine x_block_ret ?_
                refine x_then_ret ?_
                refine x_then_ret ?_
                have ho' := (Option.some.inj h).trans hr
                refine hQ _ _ _ ?_
                exact .inr (⟨rfl, K28, (()), (hlK7.trans hlK28), ho'.symm, (hS.part (.cons rfl (.nil _))), (hM).tail⟩)
              · refine c_cond_false (hS.ev_ rfl) hc60 ?_
                refine wp_skip ?_
                refine x_block ?_
                refine x_block ?_
                refine x_then ?_
                refine wp_region_lit ?_
                refine st_val hS rfl rfl (by decide) (r_add rfl (hS.ev_ rfl) (hS.ev_ rfl)) fun a hS => ?_
                refine st_val hS rfl rfl (by decide) (r_move rfl (hS.ev_ rfl)) fun a hS => ?_
                refine st_done ?_
                replace hS : Slots 52 [] a [(7, Value.int .i64 (w64 (x8 + 1))), (0, v2), (2, Value.bool (false)), (5, v2), (6, Value.int .i64 ((p1.length : Int)))] := (hS.part (.cons rfl (.cons rfl (.cons rfl (.cons rfl (.cons rfl (.nil _)))))))
                refine x_then ?_
                exact ih (w64 (x8 + 1)) _ h hr K28 _ _ (hlK7.trans hlK28) (hS.part (.cons rfl (.cons rfl (.cons rfl (.cons rfl (.cons rfl (.nil _))))))) ((hM).tail)
      · refine c_cond_false (hS.ev_ rfl) hc15 ?_
        refine wp_exit ?_
        refine x_then_exit ?_
        refine x_then_exit ?_
        have ho' := (Option.some.inj h).trans hr
        refine hQ _ _ _ ?_
        exact .inl ⟨rfl, K7, (()), hlK7, ho'.symm, (hS.part (.cons rfl (.cons rfl (.nil _)))), hM⟩
    exact key 0 _ h10 rfl K _ _ (Hp.le.refl _) (hS.part (.cons rfl (.cons rfl (.cons rfl (.cons rfl (.cons rfl (.nil _))))))) (hM)
  · rintro e a w (⟨rfl, K11, x12, hlK11, ho', hS, hM⟩ | ⟨rfl, K13, x14, hlK13, ho', hS, hM⟩)
    · subst ho'
      dsimp only at h
      refine x_block_here ?_
      refine x_then ?_
      refine wp_seq ?_
      refine wp_region_lit ?_
      refine st_val hS rfl rfl (by decide) (r_move rfl (hS.ev_ rfl)) fun a hS => ?_
      obtain ⟨y61, h62, h⟩ := bindO h
      have hc64 := W_fits_c hG h62 (Kd.sl_mono hlK11 f3) hM
      refine wl_cons rfl (e_call rfl Tryd.func20 rfl rfl (args1 (hS.ev_ rfl)) hc64 ?_)
      rintro _ w ⟨K63, hlK63, hM, rfl⟩
      refine ⟨_, rfl, ?_⟩
      refine pl hS rfl (by decide) fun a hS => ?_
      refine st_val hS rfl rfl (by decide) (r_assign rfl (hS.ev_ rfl)) fun a hS => ?_
      refine st_done ?_
      replace hS : Slots 52 [] a [(2, Value.bool (y61))] := (hS.part (.cons rfl (.nil _)))
      refine x_then ?_
      refine wp_ret ?_
      have hr' := Option.some.inj h
      subst hr'
      refine ret1 (.inr rfl) hS rfl rfl ?_
      exact ⟨K63, (hlK11.trans hlK63), hM, rfl⟩
    · subst ho'
      dsimp only at h
      refine x_block_ret ?_
      refine x_then_ret ?_
      have hr' := Option.some.inj h
      subst hr'
      refine ret1 (.inr rfl) hS rfl rfl ?_
      exact ⟨K13, hlK13, hM, rfl⟩

theorem strings_Builder_copyCheck_c {w0 w : World} {K : Hp} {L : List SP} {p1 : List UInt8} {g2 : Nat} {v3 : Value} {v5 : Value} {r : List UInt8} (hG : Glob w0) (h : strings_Builder_copyCheck p1 = some r) (f4 : (v3 = Value.pointer none ∨ v3 = Value.pointer (some ⟨g2, 0, none⟩))) (hM : Sat w0 w K (SP.blk g2 53 [v3, v5] :: SP.row Kd.u8 5 v5 p1 :: L)) :
    Calls Tryd.prog 35 #[Value.pointer (some ⟨g2, 0, none⟩)] w (fun e w' => ∃ (K' : Hp) (v'1 v'2 : Value), Hp.le K K' ∧ Sat w0 w' K' (SP.blk g2 53 [v'1, v'2] :: SP.row Kd.u8 5 v'2 r :: L) ∧ e = .returned (Value.tuple #[]) ∧ (v'1 = Value.pointer none ∨ v'1 = Value.pointer (some ⟨g2, 0, none⟩))) := by
  refine enter_ (n := 20) (args := [Value.pointer (some ⟨g2, 0, none⟩)]) Tryd.func35 rfl rfl (Nat.le_of_ble_eq_true rfl) fun a hS => ?_
  replace hS : Slots 20 [] a [(0, Value.pointer (some ⟨g2, 0, none⟩))] := hS
  unfold strings_Builder_copyCheck at h
  rcases f4 with rfl | rfl
  ·
    refine wp_seq ?_
    refine wp_region_lit ?_
    refine st_val hS rfl rfl (by decide) (r_move rfl (hS.ev_ rfl)) fun a hS => ?_
    refine st_val hS rfl rfl (by decide) (r_nilCheck rfl (hS.ev_ rfl)) fun a hS => ?_
    refine st_val hS rfl rfl (by decide) (r_fld_b rfl fo_53_0 (hS.ev_ rfl)) fun a hS => ?_
    refine st_val hS rfl rfl (by decide) (r_ld1_b rfl ag_50 (hS.ev_ rfl) rfl (Rd.of hM)) fun a hS => ?_
    refine st_val hS rfl rfl (by decide) (r_pteq_nn rfl un_50 (hS.ev_ (v := Value.pointer none) rfl) (hS.ev_ (v := Value.pointer none) rfl)) fun a hS => ?_
    refine st_done ?_
    replace hS : Slots 20 [] a [(6, Value.bool (true)), (0, Value.pointer (some ⟨g2, 0, none⟩))] := (hS.part (.cons rfl (.cons rfl (.nil _))))
    refine x_then ?_
    refine c_cond_true (hS.ev_ rfl) rfl ?_
    refine wp_region_lit ?_
    refine st_val hS rfl rfl (by decide) (r_move rfl (hS.ev_ rfl)) fun a hS => ?_
    refine st_val hS rfl rfl (by decide) (r_move rfl (hS.ev_ rfl)) fun a hS => ?_
    refine st_val hS rfl rfl (by decide) (r_to_unsafe rfl un_50 us_72 ti_53 rfl (hS.ev_ rfl) hM (Nat.le_of_ble_eq_true rfl)) fun a hS => ?_
    refine st_val hS rfl rfl (by decide) (r_extern (vs := [Value.pointer (some ⟨g2, 0, none⟩)]) (ex := Extern.AbiNoEscape.same) rfl Tryd.func45 rfl rfl (by kernel_rfl) (by kernel_rfl) (args1 (hS.ev_ rfl)) (x_noEscape _ _)) fun a hS => ?_
    refine st_val hS rfl rfl (by decide) (r_from_unsafe rfl us_72 un_50 ti_53 (hS.ev_ rfl) hM li_53_2_0_53) fun a hS => ?_
    refine st_val hS rfl rfl (by decide) (r_nilCheck rfl (hS.ev_ rfl)) fun a hS => ?_
    refine st_val hS rfl rfl (by decide) (r_fld_b rfl fo_53_0 (hS.ev_ rfl)) fun a hS => ?_
    refine wl_cons rfl (e_store1 hM rfl ti_50 (hS.ev_ rfl) (hS.ev_ rfl) rfl (Nat.lt_of_lt_of_le (Nat.le_of_ble_eq_true rfl) (Nat.le_refl _)) fun w hM => ?_)
    have hM : Sat w0 w K (SP.blk g2 53 [Value.pointer (some ⟨g2, 0, none⟩), v5] :: SP.row Kd.u8 5 v5 p1 :: L) := hM
    refine pl0 hS rfl fun a hS => ?_
    refine st_done ?_
    replace hS : Slots 20 [] a [] := (hS.part (.nil _))
    have hr' := Option.some.inj h
    subst hr'
    refine ret0 (.inl rfl) hS rfl  ?_
    exact ⟨K, ((Value.pointer (some ⟨g2, 0, none⟩))), (v5), (Hp.le.refl _), ((hM.pull 1 rfl rfl).pull 1 rfl rfl), rfl, (.inr rfl)⟩
  ·
    refine wp_seq ?_
    refine wp_region_lit ?_
    refine st_val hS rfl rfl (by decide) (r_move rfl (hS.ev_ rfl)) fun a hS => ?_
    refine st_val hS rfl rfl (by decide) (r_nilCheck rfl (hS.ev_ rfl)) fun a hS => ?_
    refine st_val hS rfl rfl (by decide) (r_fld_b rfl fo_53_0 (hS.ev_ rfl)) fun a hS => ?_
    refine st_val hS rfl rfl (by decide) (r_ld1_b rfl ag_50 (hS.ev_ rfl) rfl (Rd.of hM)) fun a hS => ?_
    refine st_val hS rfl rfl (by decide) (r_pteq_bn rfl un_50 (hS.ev_ rfl) (hS.ev_ rfl)) fun a hS => ?_
    refine st_done ?_
    replace hS : Slots 20 [] a [(6, Value.bool (false)), (0, Value.pointer (some ⟨g2, 0, none⟩))] := (hS.part (.cons rfl (.cons rfl (.nil _))))
    refine x_then ?_
    refine c_cond_false (hS.ev_ rfl) rfl ?_
    refine wp_seq ?_
    refine wp_region_lit ?_
    refine st_val hS rfl rfl (by decide) (r_move rfl (hS.ev_ rfl)) fun a hS => ?_
    refine st_val hS rfl rfl (by decide) (r_nilCheck rfl (hS.ev_ rfl)) fun a hS => ?_
    refine st_val hS rfl rfl (by decide) (r_fld_b rfl fo_53_0 (hS.ev_ rfl)) fun a hS => ?_
    refine st_val hS rfl rfl (by decide) (r_ld1_b rfl ag_50 (hS.ev_ rfl) rfl (Rd.of hM)) fun a hS => ?_
    refine st_val hS rfl rfl (by decide) (r_move rfl (hS.ev_ rfl)) fun a hS => ?_
    refine st_val hS rfl rfl (by decide) (r_ptne_bb rfl un_50 ti_53 (hS.ev_ (v := Value.pointer (some ⟨g2, 0, none⟩)) rfl) (hS.ev_ (v := Value.pointer (some ⟨g2, 0, none⟩)) rfl)) fun a hS => ?_
    refine st_done ?_
    replace hS : Slots 20 [] a [(19, Value.bool (false))] := (hS.part (.cons rfl (.nil _)))
    refine x_then ?_
    refine c_cond_false (hS.ev_ rfl) rfl ?_
    refine wp_skip ?_
    have hr' := Option.some.inj h
    subst hr'
    refine ret0 (.inl rfl) hS rfl  ?_
    exact ⟨K, ((Value.pointer (some ⟨g2, 0, none⟩))), (v5), (Hp.le.refl _), ((hM.pull 1 rfl rfl).pull 1 rfl rfl), rfl, (.inr rfl)⟩

theorem strings_Builder_WriteByte_c {w0 w : World} {K : Hp} {L : List SP} {p1 : List UInt8} {p7 : UInt8} {g2 : Nat} {v3 : Value} {v5 : Value} {r : (Option Nat) × (List UInt8)} (hG : Glob w0) (h : strings_Builder_WriteByte p1 p7 = some r) (f4 : (v3 = Value.pointer none ∨ v3 = Value.pointer (some ⟨g2, 0, none⟩))) (hM : Sat w0 w K (SP.blk g2 53 [v3, v5] :: SP.row Kd.u8 5 v5 p1 :: L)) :
    Calls Tryd.prog 21 #[Value.pointer (some ⟨g2, 0, none⟩), Value.int .u8 (b8 (p7))] w (fun e w' => ∃ (K' : Hp) (v'1 v'2 : Value), Hp.le K K' ∧ Sat w0 w' K' (SP.blk g2 53 [v'1, v'2] :: SP.row Kd.u8 5 v'2 r.2 :: L) ∧ e = .returned (eV w0 r.1) ∧ (v'1 = Value.pointer none ∨ v'1 = Value.pointer (some ⟨g2, 0, none⟩))) := by
  refine enter_ (n := 17) (args := [Value.pointer (some ⟨g2, 0, none⟩), Value.int .u8 (b8 (p7))]) Tryd.func21 rfl rfl (Nat.le_of_ble_eq_true rfl) fun a hS => ?_
  replace hS : Slots 17 [] a [(0, Value.pointer (some ⟨g2, 0, none⟩)), (1, Value.int .u8 (b8 (p7)))] := hS
  unfold strings_Builder_WriteByte at h
  refine wp_seq ?_
  refine wp_region_lit ?_
  refine st_val hS rfl rfl (by decide) (r_assign rfl (hS.ev_ rfl)) fun a hS => ?_
  refine st_done ?_
  replace hS : Slots 17 [] a [(4, eV w0 ((none : Option Nat))), (0, Value.pointer (some ⟨g2, 0, none⟩)), (1, Value.int .u8 (b8 (p7)))] := (hS.part (.cons rfl (.cons rfl (.cons rfl (.nil _)))))
  refine x_then ?_
  refine wp_seq ?_
  refine wp_region_lit ?_
  refine st_val hS rfl rfl (by decide) (r_move rfl (hS.ev_ rfl)) fun a hS => ?_
  obtain ⟨y8, h9, h⟩ := bindO h
  replace hM := hM.pull 1 rfl rfl
  replace hM := hM.pull 1 rfl rfl
  have hc11 := strings_Builder_copyCheck_c hG h9 f4 hM
  refine wl_cons rfl (e_call rfl Tryd.func35 rfl rfl (args1 (hS.ev_ rfl)) hc11 ?_)
  rintro _ w ⟨K10, v12, v14, hlK10, hM, rfl, f13⟩
  refine ⟨_, rfl, ?_⟩
  refine pl hS rfl (by decide) fun a hS => ?_
  refine st_done ?_
  replace hS : Slots 17 [] a [(4, eV w0 ((none : Option Nat))), (0, Value.pointer (some ⟨g2, 0, none⟩)), (1, Value.int .u8 (b8 (p7)))] := (hS.part (.cons rfl (.cons rfl (.cons rfl (.nil _)))))
  refine x_then ?_
  refine wp_seq ?_
  refine wp_region_lit ?_
  refine st_val hS rfl rfl (by decide) (r_move rfl (hS.ev_ rfl)) fun a hS => ?_
  refine st_val hS rfl rfl (by decide) (r_move rfl (hS.ev_ rfl)) fun a hS => ?_
  refine st_val hS rfl rfl (by decide) (r_nilCheck rfl (hS.ev_ rfl)) fun a hS => ?_
  refine st_val hS rfl rfl (by decide) (r_fld_b rfl fo_53_1 (hS.ev_ rfl)) fun a hS => ?_
  refine st_val hS rfl rfl (by decide) (r_ld1_b rfl ag_51 (hS.ev_ rfl) rfl (Rd.of hM)) fun a hS => ?_
  refine st_val hS rfl rfl (by decide) (r_move rfl (hS.ev_ rfl)) fun a hS => ?_
  refine wl_cons rfl (e_litK (d := Kd.u8) (e := 5) (cs := [Value.int .u8 (b8 (p7))]) (xs := ([p7] : List UInt8)) hM rfl (parts_ev hS rfl) (by kernel_rfl) ⟨[Value.int .u8 (b8 (p7))], [], rfl, rfl, rfl⟩ rfl (by decide) fun v16 K17 w hlK17 hM f18 => ?_)
  refine pl hS rfl (by decide) fun a hS => ?_
  replace hM := hM.pull 1 rfl rfl
  obtain ⟨h19, h⟩ := bindU h
  refine wl_cons rfl (e_apd_sl hM rfl un_51 un_51 ti_5 rfl rfl (by decide) (hS.ev_ rfl) (hS.ev_ rfl) f18 (req_some h19) fun v20 w hM => ?_)
  refine pl hS rfl (by decide) fun a hS => ?_
  refine st_val hS rfl rfl (by decide) (r_nilCheck rfl (hS.ev_ rfl)) fun a hS => ?_
  refine st_val hS rfl rfl (by decide) (r_fld_b rfl fo_53_1 (hS.ev_ rfl)) fun a hS => ?_
  replace hM := hM.pull 1 rfl rfl
  replace hM := hM.pull 1 rfl rfl
  have ho21 := row_one hM
  replace hM := hM.pull 1 rfl rfl
  refine wl_cons rfl (e_store1 hM rfl ti_51 (hS.ev_ rfl) (hS.ev_ rfl) ho21 (Nat.lt_of_lt_of_le (Nat.le_of_ble_eq_true rfl) (Nat.le_refl _)) fun w hM => ?_)
  have hM : Sat w0 w K17 (SP.blk g2 53 [v12, v20] :: SP.row Kd.u8 5 v20 (y8 ++ ([p7] : List UInt8)) :: L) := hM
  refine pl0 hS rfl fun a hS => ?_
  refine st_done ?_
  replace hS : Slots 17 [] a [(4, eV w0 ((none : Option Nat)))] := (hS.part (.cons rfl (.nil _)))
  refine x_then ?_
  refine wp_seq ?_
  refine wp_region_lit ?_
  refine st_val hS rfl rfl (by decide) (r_assign rfl (hS.ev_ rfl)) fun a hS => ?_
  refine st_done ?_
  replace hS : Slots 17 [] a [(4, eV w0 ((none : Option Nat)))] := (hS.part (.cons rfl (.nil _)))
  refine x_then ?_
  refine wp_ret ?_
  have hr' := Option.some.inj h
  subst hr'
  refine ret1 (.inr rfl) hS rfl rfl ?_
  exact ⟨K17, (v12), (v20), (hlK10.trans hlK17), ((hM.pull 1 rfl rfl).pull 1 rfl rfl), rfl, f13⟩

theorem strings_Builder_WriteString_c {w0 w : World} {K : Hp} {L : List SP} {p1 : List UInt8} {p7 : List UInt8} {g2 : Nat} {v3 : Value} {v5 : Value} {r : Int × (Option Nat) × (List UInt8)} (hG : Glob w0) (h : strings_Builder_WriteString p1 p7 = some r) (f4 : (v3 = Value.pointer none ∨ v3 = Value.pointer (some ⟨g2, 0, none⟩))) (hM : Sat w0 w K (SP.blk g2 53 [v3, v5] :: SP.row Kd.u8 5 v5 p1 :: L)) :
    Calls Tryd.prog 22 #[Value.pointer (some ⟨g2, 0, none⟩), strV (p7)] w (fun e w' => ∃ (K' : Hp) (v'1 v'2 : Value), Hp.le K K' ∧ Sat w0 w' K' (SP.blk g2 53 [v'1, v'2] :: SP.row Kd.u8 5 v'2 r.2.2 :: L) ∧ e = .returned (Value.tuple #[Value.int .i64 (r.1), eV w0 r.2.1]) ∧ (v'1 = Value.pointer none ∨ v'1 = Value.pointer (some ⟨g2, 0, none⟩))) := by
  refine enter_ (n := 19) (args := [Value.pointer (some ⟨g2, 0, none⟩), strV (p7)]) Tryd.func22 rfl rfl (Nat.le_of_ble_eq_true rfl) fun a hS => ?_
  replace hS : Slots 19 [] a [(0, Value.pointer (some ⟨g2, 0, none⟩)), (1, strV (p7))] := hS
  unfold strings_Builder_WriteString at h
  refine wp_seq ?_
  refine wp_region_lit ?_
  refine st_val hS rfl rfl (by decide) (r_assign rfl (hS.ev_ rfl)) fun a hS => ?_
  refine st_val hS rfl rfl (by decide) (r_assign rfl (hS.ev_ rfl)) fun a hS => ?_
  refine st_done ?_
  replace hS : Slots 19 [] a [(5, eV w0 ((none : Option Nat))), (4, Value.int .i64 (0)), (0, Value.pointer (some ⟨g2, 0, none⟩)), (1, strV (p7))] := (hS.part (.cons rfl (.cons rfl (.cons rfl (.cons rfl (.nil _))))))
  refine x_then ?_
  refine wp_seq ?_
  refine wp_region_lit ?_
  refine st_val hS rfl rfl (by decide) (r_move rfl (hS.ev_ rfl)) fun a hS => ?_
  obtain ⟨y8, h9, h⟩ := bindO h
  replace hM := hM.pull 1 rfl rfl
  replace hM := hM.pull 1 rfl rfl
  have hc11 := strings_Builder_copyCheck_c hG h9 f4 hM
  refine wl_cons rfl (e_call rfl Tryd.func35 rfl rfl (args1 (hS.ev_ rfl)) hc11 ?_)
  rintro _ w ⟨K10, v12, v14, hlK10, hM, rfl, f13⟩
  refine ⟨_, rfl, ?_⟩
  refine pl hS rfl (by decide) fun a hS => ?_
  refine st_done ?_
  replace hS : Slots 19 [] a [(5, eV w0 ((none : Option Nat))), (4, Value.int .i64 (0)), (0, Value.pointer (some ⟨g2, 0, none⟩)), (1, strV (p7))] := (hS.part (.cons rfl (.cons rfl (.cons rfl (.cons rfl (.nil _))))))
  refine x_then ?_
  refine wp_seq ?_
  refine wp_region_lit ?_
  refine st_val hS rfl rfl (by decide) (r_move rfl (hS.ev_ rfl)) fun a hS => ?_
  refine st_val hS rfl rfl (by decide) (r_move rfl (hS.ev_ rfl)) fun a hS => ?_
  refine st_val hS rfl rfl (by decide) (r_nilCheck rfl (hS.ev_ rfl)) fun a hS => ?_
  refine st_val hS rfl rfl (by decide) (r_fld_b rfl fo_53_1 (hS.ev_ rfl)) fun a hS => ?_
  refine st_val hS rfl rfl (by decide) (r_ld1_b rfl ag_51 (hS.ev_ rfl) rfl (Rd.of hM)) fun a hS => ?_
  refine st_val hS rfl rfl (by decide) (r_move rfl (hS.ev_ rfl)) fun a hS => ?_
  replace hM := hM.pull 1 rfl rfl
  obtain ⟨h16, h⟩ := bindU h
  refine wl_cons rfl (e_apd_str hM rfl un_51 un_9 ti_5 rfl rfl (hS.ev_ rfl) (hS.ev_ rfl) (req_some h16) fun v17 w hM => ?_)
  refine pl hS rfl (by decide) fun a hS => ?_
  refine st_val hS rfl rfl (by decide) (r_nilCheck rfl (hS.ev_ rfl)) fun a hS => ?_
  refine st_val hS rfl rfl (by decide) (r_fld_b rfl fo_53_1 (hS.ev_ rfl)) fun a hS => ?_
  replace hM := hM.pull 1 rfl rfl
  replace hM := hM.pull 1 rfl rfl
  have ho18 := row_one hM
  replace hM := hM.pull 1 rfl rfl
  refine wl_cons rfl (e_store1 hM rfl ti_51 (hS.ev_ rfl) (hS.ev_ rfl) ho18 (Nat.lt_of_lt_of_le (Nat.le_of_ble_eq_true rfl) (Nat.le_refl _)) fun w hM => ?_)
  have hM : Sat w0 w K10 (SP.blk g2 53 [v12, v17] :: SP.row Kd.u8 5 v17 (y8 ++ p7) :: L) := hM
  refine pl0 hS rfl fun a hS => ?_
  refine st_done ?_
  replace hS : Slots 19 [] a [(5, eV w0 ((none : Option Nat))), (4, Value.int .i64 (0)), (1, strV (p7))] := (hS.part (.cons rfl (.cons rfl (.cons rfl (.nil _)))))
  refine x_then ?_
  refine wp_seq ?_
  refine wp_region_lit ?_
  refine st_val hS rfl rfl (by decide) (r_move rfl (hS.ev_ rfl)) fun a hS => ?_
  refine st_val hS rfl rfl (by decide) (r_len_str rfl un_9 (hS.ev_ rfl)) fun a hS => ?_
  refine st_val hS rfl rfl (by decide) (r_assign rfl (hS.ev_ rfl)) fun a hS => ?_
  refine st_val hS rfl rfl (by decide) (r_assign rfl (hS.ev_ rfl)) fun a hS => ?_
  refine st_done ?_
  replace hS : Slots 19 [] a [(5, eV w0 ((none : Option Nat))), (4, Value.int .i64 ((p7.length : Int)))] := (hS.part (.cons rfl (.cons rfl (.nil _))))
  refine x_then ?_
  refine wp_ret ?_
  have hr' := Option.some.inj h
  subst hr'
  refine ret2 (.inr rfl) hS rfl rfl rfl ?_
  exact ⟨K10, (v12), (v17), hlK10, ((hM.pull 1 rfl rfl).pull 1 rfl rfl), rfl, f13⟩

theorem W_told_c {w0 w : World} {K : Hp} {L : List SP} {p1 : UInt8} {p2 : Bool} {r : List UInt8} (hG : Glob w0) (h : W_told p1 p2 = some r) (hM : Sat w0 w K (L)) :
    Calls Tryd.prog 24 #[Value.int .u8 (b8 (p1)), Value.bool (p2)] w (fun e w' => ∃ (K' : Hp), Hp.le K K' ∧ Sat w0 w' K' (L) ∧ e = .returned (strV (r))) := by
  refine enter_ (n := 50) (args := [Value.int .u8 (b8 (p1)), Value.bool (p2)]) Tryd.func24 rfl rfl (Nat.le_of_ble_eq_true rfl) fun a hS => ?_
  replace hS : Slots 50 [] a [(0, Value.int .u8 (b8 (p1))), (1, Value.bool (p2))] := hS
  unfold W_told at h
  refine wp_seq ?_
  refine wp_region_lit ?_
  refine st_val hS rfl rfl (by decide) (r_assign rfl (hS.ev_ (v := strV (([] : List UInt8))) rfl)) fun a hS => ?_
  refine st_done ?_
  replace hS : Slots 50 [] a [(4, strV (([] : List UInt8))), (0, Value.int .u8 (b8 (p1))), (1, Value.bool (p2))] := (hS.part (.cons rfl (.cons rfl (.cons rfl (.nil _)))))
  refine x_then ?_
  refine wp_seq ?_
  refine wp_block ?_
  refine wp_seq ?_
  refine wp_region_lit ?_
  refine st_val hS rfl rfl (by decide) (r_move rfl (hS.ev_ rfl)) fun a hS => ?_
  refine st_val hS rfl rfl (by decide) (r_cmp8 rfl (hS.ev_ rfl) (hS.ev_ (v := Value.int .u8 (b8 (10))) rfl) rfl) fun a hS => ?_
  refine st_val hS rfl rfl (by decide) (r_assign rfl (hS.ev_ rfl)) fun a hS => ?_
  refine st_done ?_
  replace hS : Slots 50 [] a [(5, Value.bool (p1 == 10)), (4, strV (([] : List UInt8))), (0, Value.int .u8 (b8 (p1))), (1, Value.bool (p2))] := (hS.part (.cons rfl (.cons rfl (.cons rfl (.cons rfl (.nil _))))))
  refine x_then ?_
  rcases ifB h with ⟨hc3, h⟩ | ⟨hc3, h⟩
  · refine c_cond_true (hS.ev_ rfl) hc3 ?_
    refine wp_seq ?_
    refine wp_region_lit ?_
    refine st_val hS rfl rfl (by decide) (r_assign rfl (hS.ev_ (v := strV (([92, 110] : List UInt8))) rfl)) fun a hS => ?_
    refine st_done ?_
    replace hS : Slots 50 [] a [(4, strV (([92, 110] : List UInt8))), (0, Value.int .u8 (b8 (p1)))] := (hS.part (.cons rfl (.cons rfl (.nil _))))
    refine x_then ?_
    refine wp_ret ?_
    refine x_block_ret ?_
    refine x_then_ret ?_
    have hr' := Option.some.inj h
    subst hr'
    refine ret1 (.inr rfl) hS rfl rfl ?_
    exact ⟨K, (Hp.le.refl _), hM, rfl⟩
  · refine c_cond_false (hS.ev_ rfl) hc3 ?_
    refine wp_seq ?_
    refine wp_region_lit ?_
    refine st_val hS rfl rfl (by decide) (r_move rfl (hS.ev_ rfl)) fun a hS => ?_
    refine st_val hS rfl rfl (by decide) (r_cmp8 rfl (hS.ev_ rfl) (hS.ev_ (v := Value.int .u8 (b8 (13))) rfl) rfl) fun a hS => ?_
    refine st_val hS rfl rfl (by decide) (r_assign rfl (hS.ev_ rfl)) fun a hS => ?_
    refine st_done ?_
    replace hS : Slots 50 [] a [(8, Value.bool (p1 == 13)), (4, strV (([] : List UInt8))), (0, Value.int .u8 (b8 (p1))), (1, Value.bool (p2))] := (hS.part (.cons rfl (.cons rfl (.cons rfl (.cons rfl (.nil _))))))
    refine x_then ?_
    rcases ifB h with ⟨hc4, h⟩ | ⟨hc4, h⟩
    · refine c_cond_true (hS.ev_ rfl) hc4 ?_
      refine wp_seq ?_
      refine wp_region_lit ?_
      refine st_val hS rfl rfl (by decide) (r_assign rfl (hS.ev_ (v := strV (([92, 114] : List UInt8))) rfl)) fun a hS => ?_
      refine st_done ?_
      replace hS : Slots 50 [] a [(4, strV (([92, 114] : List UInt8))), (0, Value.int .u8 (b8 (p1)))] := (hS.part (.cons rfl (.cons rfl (.nil _))))
      refine x_then ?_
      refine wp_ret ?_
      refine x_block_ret ?_
      refine x_then_ret ?_
      have hr' := Option.some.inj h
      subst hr'
      refine ret1 (.inr rfl) hS rfl rfl ?_
      exact ⟨K, (Hp.le.refl _), hM, rfl⟩
    · refine c_cond_false (hS.ev_ rfl) hc4 ?_
      refine wp_seq ?_
      refine wp_region_lit ?_
      refine st_val hS rfl rfl (by decide) (r_move rfl (hS.ev_ rfl)) fun a hS => ?_
      refine st_val hS rfl rfl (by decide) (r_cmp8 rfl (hS.ev_ rfl) (hS.ev_ (v := Value.int .u8 (b8 (9))) rfl) rfl) fun a hS => ?_
      refine st_val hS rfl rfl (by decide) (r_assign rfl (hS.ev_ rfl)) fun a hS => ?_
      refine st_done ?_
      replace hS : Slots 50 [] a [(11, Value.bool (p1 == 9)), (4, strV (([] : List UInt8))), (0, Value.int .u8 (b8 (p1))), (1, Value.bool (p2))] := (hS.part (.cons rfl (.cons rfl (.cons rfl (.cons rfl (.nil _))))))
      refine x_then ?_
      rcases ifB h with ⟨hc5, h⟩ | ⟨hc5, h⟩
      · refine c_cond_true (hS.ev_ rfl) hc5 ?_
        refine wp_seq ?_
        refine wp_region_lit ?_
        refine st_val hS rfl rfl (by decide) (r_assign rfl (hS.ev_ (v := strV (([92, 116] : List UInt8))) rfl)) fun a hS => ?_
        refine st_done ?_
        replace hS : Slots 50 [] a [(4, strV (([92, 116] : List UInt8))), (0, Value.int .u8 (b8 (p1)))] := (hS.part (.cons rfl (.cons rfl (.nil _))))
        refine x_then ?_
        refine wp_ret ?_
        refine x_block_ret ?_
        refine x_then_ret ?_
        have hr' := Option.some.inj h
        subst hr'
        refine ret1 (.inr rfl) hS rfl rfl ?_
        exact ⟨K, (Hp.le.refl _), hM, rfl⟩
      · refine c_cond_false (hS.ev_ rfl) hc5 ?_
        refine wp_seq ?_
        refine wp_region_lit ?_
        refine st_val hS rfl rfl (by decide) (r_move rfl (hS.ev_ rfl)) fun a hS => ?_
        refine st_val hS rfl rfl (by decide) (r_cmp8 rfl (hS.ev_ rfl) (hS.ev_ (v := Value.int .u8 (b8 (34))) rfl) rfl) fun a hS => ?_
        refine st_val hS rfl rfl (by decide) (r_move rfl (hS.ev_ rfl)) fun a hS => ?_
        obtain ⟨x6, h7, h⟩ := bindO h
        refine wl_cut 3 (fun a w => Slots 50 [] a [(0, Value.int .u8 (b8 (p1))), (1, Value.bool (p2)), (4, strV (([] : List UInt8))), (20, Value.bool (x6))] ∧ Sat w0 w K (L)) ?_ ?_
        ·
          skip
          rcases ifB h7 with ⟨hc8, h7⟩ | ⟨hc8, h7⟩
          ·
            replace hS := hS.known (k := 17) rfl hc8
            refine st_off hS rfl rfl rfl rfl rfl rfl (by decide) fun a hS => ?_
            refine st_off hS rfl rfl rfl rfl rfl rfl (by decide) fun a hS => ?_
            refine st_val hS rfl rfl (by decide) (r_pick_true rfl (hS.ev_ rfl) rfl (hS.ev_ rfl)) fun a hS => ?_
            refine st_done ?_
            replace hS : Slots 50 [] a [(20, Value.bool (true)), (4, strV (([] : List UInt8))), (0, Value.int .u8 (b8 (p1))), (1, Value.bool (p2))] := (hS.part (.cons rfl (.cons rfl (.cons rfl (.cons rfl (.nil _))))))
            refine x_then ?_
            obtain rfl := Option.some.inj h7
            exact ⟨(hS.part (.cons rfl (.cons rfl (.cons rfl (.cons rfl (.nil _)))))), hM⟩
          ·
            replace hS := hS.known (k := 17) rfl hc8
            refine st_want hS rfl rfl rfl rfl rfl (by decide) (r_move rfl (hS.ev_ rfl)) fun a hS => ?_
            refine st_want hS rfl rfl rfl rfl rfl (by decide) (r_cmp8 rfl (hS.ev_ rfl) (hS.ev_ (v := Value.int .u8 (b8 (36))) rfl) rfl) fun a hS => ?_
            refine st_val hS rfl rfl (by decide) (r_pick_false rfl (hS.ev_ rfl) rfl (hS.ev_ rfl)) fun a hS => ?_
            refine st_done ?_
            replace hS : Slots 50 [] a [(20, Value.bool (p1 == 36)), (4, strV (([] : List UInt8))), (0, Value.int .u8 (b8 (p1))), (1, Value.bool (p2))] := (hS.part (.cons rfl (.cons rfl (.cons rfl (.cons rfl (.nil _))))))
            refine x_then ?_
            obtain rfl := Option.some.inj h7
            exact ⟨(hS.part (.cons rfl (.cons rfl (.cons rfl (.cons rfl (.nil _)))))), hM⟩
        · rintro a w ⟨hS, hM⟩
          refine st_val hS rfl rfl (by decide) (r_move rfl (hS.ev_ rfl)) fun a hS => ?_
          obtain ⟨x9, h10, h⟩ := bindO h
          refine wl_cut 3 (fun a w => Slots 50 [] a [(0, Value.int .u8 (b8 (p1))), (1, Value.bool (p2)), (4, strV (([] : List UInt8))), (24, Value.bool (x9))] ∧ Sat w0 w K (L)) ?_ ?_
          ·
            skip
            rcases ifB h10 with ⟨hc11, h10⟩ | ⟨hc11, h10⟩
            ·
              replace hS := hS.known (k := 21) rfl hc11
              refine st_off hS rfl rfl rfl rfl rfl rfl (by decide) fun a hS => ?_
              refine st_off hS rfl rfl rfl rfl rfl rfl (by decide) fun a hS => ?_
              refine st_val hS rfl rfl (by decide) (r_pick_true rfl (hS.ev_ rfl) rfl (hS.ev_ rfl)) fun a hS => ?_
              refine st_done ?_
              replace hS : Slots 50 [] a [(24, Value.bool (true)), (0, Value.int .u8 (b8 (p1))), (1, Value.bool (p2)), (4, strV (([] : List UInt8)))] := (hS.part (.cons rfl (.cons rfl (.cons rfl (.cons rfl (.nil _))))))
              refine x_then ?_
              obtain rfl := Option.some.inj h10
              exact ⟨(hS.part (.cons rfl (.cons rfl (.cons rfl (.cons rfl (.nil _)))))), hM⟩
            ·
              replace hS := hS.known (k := 21) rfl hc11
              refine st_want hS rfl rfl rfl rfl rfl (by decide) (r_move rfl (hS.ev_ rfl)) fun a hS => ?_
              refine st_want hS rfl rfl rfl rfl rfl (by decide) (r_cmp8 rfl (hS.ev_ rfl) (hS.ev_ (v := Value.int .u8 (b8 (92))) rfl) rfl) fun a hS => ?_
              refine st_val hS rfl rfl (by decide) (r_pick_false rfl (hS.ev_ rfl) rfl (hS.ev_ rfl)) fun a hS => ?_
              refine st_done ?_
              replace hS : Slots 50 [] a [(24, Value.bool (p1 == 92)), (0, Value.int .u8 (b8 (p1))), (1, Value.bool (p2)), (4, strV (([] : List UInt8)))] := (hS.part (.cons rfl (.cons rfl (.cons rfl (.cons rfl (.nil _))))))
              refine x_then ?_
              obtain rfl := Option.some.inj h10
              exact ⟨(hS.part (.cons rfl (.cons rfl (.cons rfl (.cons rfl (.nil _)))))), hM⟩
          · rintro a w ⟨hS, hM⟩
            refine st_val hS rfl rfl (by decide) (r_assign rfl (hS.ev_ rfl)) fun a hS => ?_
            refine st_done ?_
            replace hS : Slots 50 [] a [(14, Value.bool (x9)), (0, Value.int .u8 (b8 (p1))), (1, Value.bool (p2)), (4, strV (([] : List UInt8)))] := (hS.part (.cons rfl (.cons rfl (.cons rfl (.cons rfl (.nil _))))))
            refine x_then ?_
            rcases ifB h with ⟨hc12, h⟩ | ⟨hc12, h⟩
            · refine c_cond_true (hS.ev_ rfl) hc12 ?_
              refine wp_seq ?_
              refine wp_region_lit ?_
              refine st_val hS rfl rfl (by decide) (r_move rfl (hS.ev_ rfl)) fun a hS => ?_
              refine wl_cons rfl (e_litK (d := Kd.u8) (e := 5) (cs := [Value.int .u8 (b8 (92)), Value.int .u8 (b8 (p1))]) (xs := [92, p1]) hM rfl (parts_ev hS rfl) (by kernel_rfl) ⟨[Value.int .u8 (b8 (92))], [Value.int .u8 (b8 (p1))], rfl, rfl, ⟨[Value.int .u8 (b8 (p1))], [], rfl, rfl, rfl⟩⟩ rfl (by decide) fun v13 K14 w hlK14 hM f15 => ?_)
              refine pl hS rfl (by decide) fun a hS => ?_
              refine st_val hS rfl rfl (by decide) (r_stringR rfl un_51 un_5 un_9 (hS.ev_ rfl) (Rd.of hM.nil_) f15) fun a hS => ?_
              refine st_val hS rfl rfl (by decide) (r_assign rfl (hS.ev_ rfl)) fun a hS => ?_
              refine st_done ?_
              replace hS : Slots 50 [] a [(4, strV ([92, p1])), (0, Value.int .u8 (b8 (p1)))] := (hS.part (.cons rfl (.cons rfl (.nil _))))
              refine x_then ?_
              refine wp_ret ?_
              refine x_block_ret ?_
              refine x_then_ret ?_
              have hr' := Option.some.inj h
              subst hr'
              refine ret1 (.inr rfl) hS rfl rfl ?_
              exact ⟨K14, hlK14, hM, rfl⟩
            · refine c_cond_false (hS.ev_ rfl) hc12 ?_
              refine wp_seq ?_
              refine wp_region_lit ?_
              refine st_val hS rfl rfl (by decide) (r_move rfl (hS.ev_ rfl)) fun a hS => ?_
              refine st_val hS rfl rfl (by decide) (r_move rfl (hS.ev_ rfl)) fun a hS => ?_
              obtain ⟨x16, h17, h⟩ := bindO h
              refine wl_cut 3 (fun a w => Slots 50 [] a [(0, Value.int .u8 (b8 (p1))), (4, strV (([] : List UInt8))), (33, Value.bool (x16))] ∧ Sat w0 w K (L)) ?_ ?_
              ·
                skip
                rcases ifB h17 with ⟨hc18, h17⟩ | ⟨hc18, h17⟩
                ·
                  replace hS := hS.known (k := 30) rfl hc18
                  refine st_want hS rfl rfl rfl rfl rfl (by decide) (r_move rfl (hS.ev_ rfl)) fun a hS => ?_
                  refine st_want hS rfl rfl rfl rfl rfl (by decide) (r_cmp8 rfl (hS.ev_ rfl) (hS.ev_ (v := Value.int .u8 (b8 (32))) rfl) rfl) fun a hS => ?_
                  refine st_val hS rfl rfl (by decide) (r_pick_true rfl (hS.ev_ rfl) rfl (hS.ev_ rfl)) fun a hS => ?_
                  refine st_done ?_
                  replace hS : Slots 50 [] a [(33, Value.bool (decide (32 ≤ p1))), (0, Value.int .u8 (b8 (p1))), (4, strV (([] : List UInt8)))] := (hS.part (.cons rfl (.cons rfl (.cons rfl (.nil _)))))
                  refine x_then ?_
                  obtain rfl := Option.some.inj h17
                  exact ⟨(hS.part (.cons rfl (.cons rfl (.cons rfl (.nil _))))), hM⟩
                ·
                  replace hS := hS.known (k := 30) rfl hc18
                  refine st_off hS rfl rfl rfl rfl rfl rfl (by decide) fun a hS => ?_
                  refine st_off hS rfl rfl rfl rfl rfl rfl (by decide) fun a hS => ?_
                  refine st_val hS rfl rfl (by decide) (r_pick_false rfl (hS.ev_ rfl) rfl (hS.ev_ rfl)) fun a hS => ?_
                  refine st_done ?_
                  replace hS : Slots 50 [] a [(33, Value.bool (false)), (0, Value.int .u8 (b8 (p1))), (4, strV (([] : List UInt8)))] := (hS.part (.cons rfl (.cons rfl (.cons rfl (.nil _)))))
                  refine x_then ?_
                  obtain rfl := Option.some.inj h17
                  exact ⟨(hS.part (.cons rfl (.cons rfl (.cons rfl (.nil _))))), hM⟩
              · rintro a w ⟨hS, hM⟩
                refine st_val hS rfl rfl (by decide) (r_move rfl (hS.ev_ rfl)) fun a hS => ?_
                obtain ⟨x19, h20, h⟩ := bindO h
                refine wl_cut 3 (fun a w => Slots 50 [] a [(0, Value.int .u8 (b8 (p1))), (4, strV (([] : List UInt8))), (37, Value.bool (x19))] ∧ Sat w0 w K (L)) ?_ ?_
                ·
                  skip
                  rcases ifB h20 with ⟨hc21, h20⟩ | ⟨hc21, h20⟩
                  ·
                    replace hS := hS.known (k := 34) rfl hc21
                    refine st_want hS rfl rfl rfl rfl rfl (by decide) (r_move rfl (hS.ev_ rfl)) fun a hS => ?_
                    refine st_want hS rfl rfl rfl rfl rfl (by decide) (r_cmp8 rfl (hS.ev_ rfl) (hS.ev_ (v := Value.int .u8 (b8 (126))) rfl) rfl) fun a hS => ?_
                    refine st_val hS rfl rfl (by decide) (r_pick_true rfl (hS.ev_ rfl) rfl (hS.ev_ rfl)) fun a hS => ?_
                    refine st_done ?_
                    replace hS : Slots 50 [] a [(37, Value.bool (decide (p1 ≤ 126))), (0, Value.int .u8 (b8 (p1))), (4, strV (([] : List UInt8)))] := (hS.part (.cons rfl (.cons rfl (.cons rfl (.nil _)))))
                    refine x_then ?_
                    obtain rfl := Option.some.inj h20
                    exact ⟨(hS.part (.cons rfl (.cons rfl (.cons rfl (.nil _))))), hM⟩
                  ·
                    replace hS := hS.known (k := 34) rfl hc21
                    refine st_off hS rfl rfl rfl rfl rfl rfl (by decide) fun a hS => ?_
                    refine st_off hS rfl rfl rfl rfl rfl rfl (by decide) fun a hS => ?_
                    refine st_val hS rfl rfl (by decide) (r_pick_false rfl (hS.ev_ rfl) rfl (hS.ev_ rfl)) fun a hS => ?_
                    refine st_done ?_
                    replace hS : Slots 50 [] a [(37, Value.bool (false)), (0, Value.int .u8 (b8 (p1))), (4, strV (([] : List UInt8)))] := (hS.part (.cons rfl (.cons rfl (.cons rfl (.nil _)))))
                    refine x_then ?_
                    obtain rfl := Option.some.inj h20
                    exact ⟨(hS.part (.cons rfl (.cons rfl (.cons rfl (.nil _))))), hM⟩
                · rintro a w ⟨hS, hM⟩
                  refine st_val hS rfl rfl (by decide) (r_assign rfl (hS.ev_ rfl)) fun a hS => ?_
                  refine st_done ?_
                  replace hS : Slots 50 [] a [(28, Value.bool (x19)), (0, Value.int .u8 (b8 (p1))), (4, strV (([] : List UInt8)))] := (hS.part (.cons rfl (.cons rfl (.cons rfl (.nil _)))))
                  refine x_then ?_
                  rcases ifB h with ⟨hc22, h⟩ | ⟨hc22, h⟩
                  · refine c_cond_true (hS.ev_ rfl) hc22 ?_
                    refine wp_seq ?_
                    refine wp_region_lit ?_
                    refine st_val hS rfl rfl (by decide) (r_move rfl (hS.ev_ rfl)) fun a hS => ?_
                    refine wl_cons rfl (e_litK (d := Kd.u8) (e := 5) (cs := [Value.int .u8 (b8 (p1))]) (xs := ([p1] : List UInt8)) hM rfl (parts_ev hS rfl) (by kernel_rfl) ⟨[Value.int .u8 (b8 (p1))], [], rfl, rfl, rfl⟩ rfl (by decide) fun v23 K24 w hlK24 hM f25 => ?_)
                    refine pl hS rfl (by decide) fun a hS => ?_
                    refine st_val hS rfl rfl (by decide) (r_stringR rfl un_51 un_5 un_9 (hS.ev_ rfl) (Rd.of hM.nil_) f25) fun a hS => ?_
                    refine st_val hS rfl rfl (by decide) (r_assign rfl (hS.ev_ rfl)) fun a hS => ?_
                    refine st_done ?_
                    replace hS : Slots 50 [] a [(4, strV (([p1] : List UInt8))), (0, Value.int .u8 (b8 (p1)))] := (hS.part (.cons rfl (.cons rfl (.nil _))))
                    refine x_then ?_
                    refine wp_ret ?_
                    refine x_block_ret ?_
                    refine x_then_ret ?_
                    have hr' := Option.some.inj h
                    subst hr'
                    refine ret1 (.inr rfl) hS rfl rfl ?_
                    exact ⟨K24, hlK24, hM, rfl⟩
                  · refine c_cond_false (hS.ev_ rfl) hc22 ?_
                    refine wp_skip ?_
                    refine x_block ?_
                    refine x_then ?_
                    refine wp_seq ?_
                    refine tk_start #[false, false, false, false, false, false, false, false, false, false] mixed_ rfl rfl ?_
                    replace hM := hM.drew
                    generalize w.drew = w at hM ⊢
                    refine dk_any (i := 0) #[true, false, false, false, false, false, false, false, false, false] hS rfl (by kernel_rfl) rfl rfl (by decide) (fun w => r_move rfl (hS.ev_ rfl)) fun a hS => ?_
                    refine dk_any (i := 1) #[true, true, false, false, false, false, false, false, false, false] hS rfl (by kernel_rfl) rfl rfl (by decide) (fun w => r_shr8 (n := 4) rfl (hS.ev_ rfl) (hS.ev_ (v := Value.int .u64 ((4 : Nat) : Int)) rfl) (by decide)) fun a hS => ?_
                    obtain ⟨c26, h27, h⟩ := bindO h
                    refine dk_any (i := 2) #[true, true, true, false, false, false, false, false, false, false] hS rfl (by kernel_rfl) rfl rfl (by decide) (fun w => r_index_s rfl un_9 (hS.ev_ (v := strV (([48, 49, 50, 51, 52, 53, 54, 55, 56, 57, 97, 98, 99, 100, 101, 102] : List UInt8))) rfl) (hS.ev_ rfl) h27) fun a hS => ?_
                    refine dk_any (i := 3) #[true, true, true, true, false, false, false, false, false, false] hS rfl (by kernel_rfl) rfl rfl (by decide) (fun w => r_move rfl (hS.ev_ rfl)) fun a hS => ?_
                    refine dk_any (i := 4) #[true, true, true, true, true, false, false, false, false, false] hS rfl (by kernel_rfl) rfl rfl (by decide) (fun w => r_and8 rfl (hS.ev_ rfl) (hS.ev_ (v := Value.int .u8 (b8 (15))) rfl)) fun a hS => ?_
                    obtain ⟨c28, h29, h⟩ := bindO h
                    refine dk_any (i := 5) #[true, true, true, true, true, true, false, false, false, false] hS rfl (by kernel_rfl) rfl rfl (by decide) (fun w => r_index_s rfl un_9 (hS.ev_ (v := strV (([48, 49, 50, 51, 52, 53, 54, 55, 56, 57, 97, 98, 99, 100, 101, 102] : List UInt8))) rfl) (hS.ev_ rfl) h29) fun a hS => ?_
                    refine dk_one (i := 6) #[true, true, true, true, true, true, true, false, false, false] rfl (by kernel_rfl) rfl (e_litK (d := Kd.u8) (e := 5) (cs := [Value.int .u8 (b8 (c26)), Value.int .u8 (b8 (c28))]) (xs := [c26, c28]) hM rfl (parts_ev hS rfl) (by kernel_rfl) ⟨[Value.int .u8 (b8 (c26))], [Value.int .u8 (b8 (c28))], rfl, rfl, ⟨[Value.int .u8 (b8 (c28))], [], rfl, rfl, rfl⟩⟩ rfl (by decide) fun v30 K31 w hlK31 hM f32 => ?_)
                    refine pT hS rfl (by decide) Dem.nil fun a hS => ?_
                    refine dk_val (i := 7) (S := Rd w0 K31 []) #[true, true, true, true, true, true, true, true, false, false] hS rfl (by kernel_rfl) rfl rfl (by decide) (Rd.up (Hp.le.refl _) hM.nil_) (fun w hR => r_stringR rfl un_51 un_5 un_9 (hS.ev_ rfl) hR f32) fun a hS => ?_
                    obtain ⟨h33, h⟩ := bindU h
                    refine dk_any (i := 8) #[true, true, true, true, true, true, true, true, true, false] hS rfl (by kernel_rfl) rfl rfl (by decide) (fun w => r_sadd rfl (hS.ev_ (v := strV (([92, 120] : List UInt8))) rfl) (hS.ev_ rfl) (req_some h33)) fun a hS => ?_
                    refine dk_any (i := 9) #[true, true, true, true, true, true, true, true, true, true] hS rfl (by kernel_rfl) rfl rfl (by decide) (fun w => r_assign rfl (hS.ev_ rfl)) fun a hS => ?_
                    refine tk_done (by kernel_rfl) ?_
                    replace hS : Slots 50 [] a [(4, strV (([92, 120] : List UInt8) ++ [c26, c28]))] := (hS.part (.cons rfl (.nil _)))
                    refine x_then ?_
                    refine wp_ret ?_
                    have hr' := Option.some.inj h
                    subst hr'
                    refine ret1 (.inr rfl) hS rfl rfl ?_
                    exact ⟨K31, hlK31, hM, rfl⟩

theorem strings_Builder_String_c {w0 w : World} {K : Hp} {L : List SP} {p1 : List UInt8} {g2 : Nat} {v3 : Value} {v5 : Value} {r : List UInt8} (hG : Glob w0) (h : strings_Builder_String p1 = some r) (f4 : (v3 = Value.pointer none ∨ v3 = Value.pointer (some ⟨g2, 0, none⟩))) (hM : Sat w0 w K (SP.blk g2 53 [v3, v5] :: SP.row Kd.u8 5 v5 p1 :: L)) :
    Calls Tryd.prog 26 #[Value.pointer (some ⟨g2, 0, none⟩)] w (fun e w' => ∃ (K' : Hp), Hp.le K K' ∧ Sat w0 w' K' (L) ∧ e = .returned (strV (r))) := by
  refine enter_ (n := 14) (args := [Value.pointer (some ⟨g2, 0, none⟩)]) Tryd.func26 rfl rfl (Nat.le_of_ble_eq_true rfl) fun a hS => ?_
  replace hS : Slots 14 [] a [(0, Value.pointer (some ⟨g2, 0, none⟩))] := hS
  unfold strings_Builder_String at h
  refine wp_seq ?_
  refine wp_region_lit ?_
  refine st_val hS rfl rfl (by decide) (r_assign rfl (hS.ev_ (v := strV (([] : List UInt8))) rfl)) fun a hS => ?_
  refine st_done ?_
  replace hS : Slots 14 [] a [(2, strV (([] : List UInt8))), (0, Value.pointer (some ⟨g2, 0, none⟩))] := (hS.part (.cons rfl (.cons rfl (.nil _))))
  refine x_then ?_
  refine wp_seq ?_
  refine tk_start #[false, false, false, false, false, false, false, false, false, false, false, false] mixed_ rfl rfl ?_
  replace hM := hM.drew
  generalize w.drew = w at hM ⊢
  refine dk_any (i := 0) #[true, false, false, false, false, false, false, false, false, false, false, false] hS rfl (by kernel_rfl) rfl rfl (by decide) (fun w => r_move rfl (hS.ev_ rfl)) fun a hS => ?_
  refine dk_any (i := 1) #[true, true, false, false, false, false, false, false, false, false, false, false] hS rfl (by kernel_rfl) rfl rfl (by decide) (fun w => r_nilCheck rfl (hS.ev_ rfl)) fun a hS => ?_
  refine dk_any (i := 2) #[true, true, true, false, false, false, false, false, false, false, false, false] hS rfl (by kernel_rfl) rfl rfl (by decide) (fun w => r_fld_b rfl fo_53_1 (hS.ev_ rfl)) fun a hS => ?_
  refine dk_val (i := 3) (S := Rd w0 K [SP.blk g2 53 [v3, v5]]) #[true, true, true, true, false, false, false, false, false, false, false, false] hS rfl (by kernel_rfl) rfl rfl (by decide) (Rd.of hM.only) (fun w hR => r_ld1_b rfl ag_51 (hS.ev_ rfl) rfl hR) fun a hS => ?_
  refine dk_any (i := 5) #[true, true, true, true, false, true, false, false, false, false, false, false] hS rfl (by kernel_rfl) rfl rfl (by decide) (fun w => r_move rfl (hS.ev_ rfl)) fun a hS => ?_
  refine dk_any (i := 6) #[true, true, true, true, false, true, true, false, false, false, false, false] hS rfl (by kernel_rfl) rfl rfl (by decide) (fun w => r_nilCheck rfl (hS.ev_ rfl)) fun a hS => ?_
  refine dk_any (i := 7) #[true, true, true, true, false, true, true, true, false, false, false, false] hS rfl (by kernel_rfl) rfl rfl (by decide) (fun w => r_fld_b rfl fo_53_1 (hS.ev_ rfl)) fun a hS => ?_
  refine dk_val (i := 8) (S := Rd w0 K [SP.blk g2 53 [v3, v5]]) #[true, true, true, true, false, true, true, true, true, false, false, false] hS rfl (by kernel_rfl) rfl rfl (by decide) (Rd.of hM.only) (fun w hR => r_ld1_b rfl ag_51 (hS.ev_ rfl) rfl hR) fun a hS => ?_
  replace hM := hM.pull 1 rfl rfl
  refine dk_val (i := 9) (S := Rd w0 K [SP.row Kd.u8 5 v5 p1]) #[true, true, true, true, false, true, true, true, true, true, false, false] hS rfl (by kernel_rfl) rfl rfl (by decide) (Rd.of hM.only) (fun w hR => r_len_rowR rfl un_51 (hS.ev_ rfl) hR) fun a hS => ?_
  refine dk_one (i := 4) #[true, true, true, true, true, true, true, true, true, true, false, false] rfl (by kernel_rfl) rfl (e_usd hM rfl un_68 (hS.ev_ rfl) fun pt7 w hM hv8 => ?_)
  refine pT hS rfl (by decide) (Dem.keep (fun _ => Rd.up (Hp.le.refl _) hM.only) (Dem.keep (fun _ => Rd.up (Hp.le.refl _) (hM.pull 1 rfl rfl).only) (Dem.wait (by kernel_rfl) Dem.nil))) fun a hS => ?_
  refine dk_one (i := 10) #[true, true, true, true, true, true, true, true, true, true, true, false] rfl (by kernel_rfl) rfl (e_ustr hM rfl un_68 ce_5 (hS.ev_ rfl) (hS.ev_ rfl) hv8 fun w hM => ?_)
  refine pT hS rfl (by decide) (Dem.wait (by kernel_rfl) (Dem.wait (by kernel_rfl) (Dem.wait (by kernel_rfl) Dem.nil))) fun a hS => ?_
  refine dk_any (i := 11) #[true, true, true, true, true, true, true, true, true, true, true, true] hS rfl (by kernel_rfl) rfl rfl (by decide) (fun w => r_assign rfl (hS.ev_ rfl)) fun a hS => ?_
  refine tk_done (by kernel_rfl) ?_
  replace hS : Slots 14 [] a [(2, strV (p1))] := (hS.part (.cons rfl (.nil _)))
  refine x_then ?_
  refine wp_ret ?_
  have hr' := Option.some.inj h
  subst hr'
  refine ret1 (.inr rfl) hS rfl rfl ?_
  exact ⟨K, (Hp.le.refl _), (hM).tail, rfl⟩

theorem W_Quote_c {w0 w : World} {K : Hp} {L : List SP} {p1 : List W_Piece} {v2 : Value} {r : List UInt8} (hG : Glob w0) (h : W_Quote p1 = some r) (f3 : kW_Piece.sl K v2 p1) (hM : Sat w0 w K (L)) :
    Calls Tryd.prog 11 #[v2] w (fun e w' => ∃ (K' : Hp), Hp.le K K' ∧ Sat w0 w' K' (L) ∧ e = .returned (strV (r))) := by
  refine enter_ (n := 57) (args := [v2]) Tryd.func11 rfl rfl (Nat.le_of_ble_eq_true rfl) fun a hS => ?_
  replace hS : Slots 57 [] a [(0, v2)] := hS
  unfold W_Quote at h
  refine wp_seq ?_
  refine wp_region_lit ?_
  refine st_val hS rfl rfl (by decide) (r_assign rfl (hS.ev_ (v := strV (([] : List UInt8))) rfl)) fun a hS => ?_
  refine st_done ?_
  replace hS : Slots 57 [] a [(2, strV (([] : List UInt8))), (0, v2)] := (hS.part (.cons rfl (.cons rfl (.nil _))))
  refine x_then ?_
  refine wp_seq ?_
  refine wp_seq ?_
  refine wp_region_lit ?_
  refine st_val hS rfl rfl (by decide) (r_move rfl (hS.ev_ rfl)) fun a hS => ?_
  obtain ⟨y4, h5, h⟩ := bindO h
  have hc7 := W_Right_c hG h5 f3 hM
  refine wl_cons rfl (e_call rfl Tryd.func10 rfl rfl (args1 (hS.ev_ rfl)) hc7 ?_)
  rintro _ w ⟨K6, hlK6, hM, rfl⟩
  refine ⟨_, rfl, ?_⟩
  refine pl hS rfl (by decide) fun a hS => ?_
  refine st_val hS rfl rfl (by decide) (r_not rfl (hS.ev_ rfl)) fun a hS => ?_
  refine st_done ?_
  replace hS : Slots 57 [] a [(11, Value.bool (!y4)), (2, strV (([] : List UInt8))), (0, v2)] := (hS.part (.cons rfl (.cons rfl (.cons rfl (.nil _)))))
  refine x_then ?_
  rcases ifB h with ⟨hc8, h⟩ | ⟨hc8, h⟩
  · refine c_cond_true (hS.ev_ rfl) hc8 ?_
    refine wp_seq ?_
    refine wp_region_lit ?_
    refine st_val hS rfl rfl (by decide) (r_assign rfl (hS.ev_ (v := strV (([] : List UInt8))) rfl)) fun a hS => ?_
    refine st_done ?_
    replace hS : Slots 57 [] a [(2, strV (([] : List UInt8))), (0, v2)] := (hS.part (.cons rfl (.cons rfl (.nil _))))
    refine x_then ?_
    refine wp_ret ?_
    refine x_then_ret ?_
    have hr' := Option.some.inj h
    subst hr'
    refine ret1 (.inr rfl) hS rfl rfl ?_
    exact ⟨K6, hlK6, hM, rfl⟩
  · refine c_cond_false (hS.ev_ rfl) hc8 ?_
    refine wp_skip ?_
    refine x_then ?_
    refine wp_seq ?_
    refine wp_region_lit ?_
    replace hM := hM.row_nil Kd.u8 5
    refine wl_cons rfl (e_alloc (cs := [Value.pointer none, Value.slice none 0 0]) hM rfl ti_53 rfl fun g9 w hM => ?_)
    refine pl hS rfl (by decide) fun a hS => ?_
    refine st_done ?_
    replace hS : Slots 57 [] a [(3, Value.pointer (some ⟨g9, 0, none⟩)), (2, strV (([] : List UInt8))), (0, v2)] := (hS.part (.cons rfl (.cons rfl (.cons rfl (.nil _)))))
    refine x_then ?_
    refine wp_seq ?_
    refine wp_region_lit ?_
    obtain ⟨y12, h13, h⟩ := bindO h
    replace hM := hM.pull 1 rfl rfl
    replace hM := hM.pull 1 rfl rfl
    have hc15 := strings_Builder_WriteByte_c hG h13 (.inl rfl) hM
    refine wl_cons rfl (e_call rfl Tryd.func21 rfl rfl (args2 (hS.ev_ rfl) (hS.ev_ (v := Value.int .u8 (b8 (34))) rfl)) hc15 ?_)
    rintro _ w ⟨K14, v16, v18, hlK14, hM, rfl, f17⟩
    refine ⟨_, rfl, ?_⟩
    refine pl hS rfl (by decide) fun a hS => ?_
    refine st_done ?_
    replace hS : Slots 57 [] a [(3, Value.pointer (some ⟨g9, 0, none⟩)), (2, strV (([] : List UInt8))), (0, v2)] := (hS.part (.cons rfl (.cons rfl (.cons rfl (.nil _)))))
    refine x_then ?_
    refine wp_seq ?_
    refine wp_region_lit ?_
    refine st_val hS rfl rfl (by decide) (r_assign rfl (hS.ev_ rfl)) fun a hS => ?_
    refine st_done ?_
    replace hS : Slots 57 [] a [(4, Value.bool (false)), (3, Value.pointer (some ⟨g9, 0, none⟩)), (2, strV (([] : List UInt8))), (0, v2)] := (hS.part (.cons rfl (.cons rfl (.cons rfl (.cons rfl (.nil _))))))
    refine x_then ?_
    refine wp_seq ?_
    refine wp_seq ?_
    refine wp_region_lit ?_
    refine st_val hS rfl rfl (by decide) (r_move rfl (hS.ev_ rfl)) fun a hS => ?_
    refine st_val hS rfl rfl (by decide) (r_len_sl rfl un_22 (hS.ev_ rfl) f3) fun a hS => ?_
    refine st_val hS rfl rfl (by decide) (r_move rfl (hS.ev_ rfl)) fun a hS => ?_
    refine st_done ?_
    replace hS : Slots 57 [] a [(15, Value.int .i64 (0)), (14, Value.int .i64 ((p1.length : Int))), (13, v2), (4, Value.bool (false)), (3, Value.pointer (some ⟨g9, 0, none⟩)), (2, strV (([] : List UInt8)))] := (hS.part (.cons rfl (.cons rfl (.cons rfl (.cons rfl (.cons rfl (.cons rfl (.nil _))))))))
    refine x_then ?_
    refine wp_block ?_
    obtain ⟨o35, h36, h⟩ := bindO h
    refine c_loop_ways (fun e a w => (e = .exit 0 ∧ ∃ (K37 : Hp) (v38 v40 : Value), Hp.le K14 K37 ∧ Slots 57 [] a [(2, strV (([] : List UInt8))), (3, Value.pointer (some ⟨g9, 0, none⟩))] ∧ Sat w0 w K37 (SP.blk g9 53 [v38, v40] :: SP.row Kd.u8 5 v40 o35 :: L) ∧ (v38 = Value.pointer none ∨ v38 = Value.pointer (some ⟨g9, 0, none⟩)))) ?_ ?_
    · intro c Q hc hQ
      have key : ∀ (x29 : Int) (x30 : Bool) (x33 : List UInt8) (r' : List UInt8), W_Quote_l1 p1 x29 x30 x33 = some r' → r' = o35 → ∀ (K28 : Hp) (v31 v34 : Value) (a : Act) (w : World), Hp.le K14 K28 → Slots 57 [] a [(15, Value.int .i64 (x29)), (14, Value.int .i64 ((p1.length : Int))), (13, v2), (4, Value.bool (x30)), (3, Value.pointer (some ⟨g9, 0, none⟩)), (2, strV (([] : List UInt8)))] → Sat w0 w K28 (SP.blk g9 53 [v31, v34] :: SP.row Kd.u8 5 v34 x33 :: L) → (v31 = Value.pointer none ∨ v31 = Value.pointer (some ⟨g9, 0, none⟩)) → Rnd Tryd.prog c Q a w := by
        refine W_Quote_l1.partial_correctness p1 _ ?_
        intro W_Quote_l1_rec ih x29 x30 x33 r' h hr K28 v31 v34 a w hlK28 hS hM f32
        subst hc
        refine c_round ?_
        refine wp_seq ?_
        refine wp_region_lit ?_
        refine st_val hS rfl rfl (by decide) (r_cmp rfl (hS.ev_ rfl) (hS.ev_ rfl) rfl) fun a hS => ?_
        refine st_done ?_
        replace hS : Slots 57 [] a [(16, Value.bool (decide (x29 < ((p1.length : Int))))), (15, Value.int .i64 (x29)), (14, Value.int .i64 ((p1.length : Int))), (13, v2), (4, Value.bool (x30)), (3, Value.pointer (some ⟨g9, 0, none⟩)), (2, strV (([] : List UInt8)))] := (hS.part (.cons rfl (.cons rfl (.cons rfl (.cons rfl (.cons rfl (.cons rfl (.cons rfl (.nil _)))))))))
        refine x_then ?_
        refine wp_seq ?_
        rcases ifB h with ⟨hc41, h⟩ | ⟨hc41, h⟩
        · refine c_cond_true (hS.ev_ rfl) hc41 ?_
          refine wp_skip ?_
          refine x_then ?_
          obtain ⟨x43, h44, h⟩ := bindO h
          refine c_cut (fun a w => ∃ (K42 : Hp) (v45 v47 : Value), Hp.le K28 K42 ∧ Slots 57 [] a [(2, strV (([] : List UInt8))), (3, Value.pointer (some ⟨g9, 0, none⟩)), (13, v2), (14, Value.int .i64 ((p1.length : Int))), (15, Value.int .i64 (x29)), (4, Value.bool (x43.1))] ∧ Sat w0 w K42 (SP.blk g9 53 [v45, v47] :: SP.row Kd.u8 5 v47 x43.2 :: L) ∧ (v45 = Value.pointer none ∨ v45 = Value.pointer (some ⟨g9, 0, none⟩))) ?_ ?_
          ·
            refine wp_block ?_
            refine wp_seq ?_
            refine wp_region_lit ?_
            obtain ⟨e48, h49, h44⟩ := bindO h44
            obtain ⟨ad50, cp51, cs52, hv53, hr54, h0_55, h1_56, hq57⟩ := sl_at f3 h49 (by decide)
            obtain rfl := kW_Piece_open hr54
            refine st_val hS rfl rfl (by decide) (r_idx_sl rfl un_22 ti_46 (hS.ev_ rfl) hv53 (hS.ev_ rfl) h0_55 h1_56) fun a hS => ?_
            refine st_val hS rfl rfl (by decide) (r_ldN_k (cs' := [strV (e48.f_Var), strV (e48.f_Lit)]) rfl ag_46 ti_46 (hS.ev_ rfl) hq57 rfl (Rd.up ((hlK6.trans hlK14).trans hlK28) hM.nil_)) fun a hS => ?_
            refine wl_cons rfl (e_alloc (cs := [strV (([] : List UInt8)), strV (([] : List UInt8))]) hM rfl ti_46 rfl fun g58 w hM => ?_)
            refine pl hS rfl (by decide) fun a hS => ?_
            refine wl_cons rfl (e_storeN (vs := [strV (e48.f_Var), strV (e48.f_Lit)]) hM rfl ti_46 (hS.ev_ rfl) (hS.ev_ rfl) (ones_cons rfl (ones_cons rfl ones_nil)) (Nat.le_of_ble_eq_true rfl) fun w hM => ?_)
            have hM : Sat w0 w K28 (SP.blk g58 46 [strV (e48.f_Var), strV (e48.f_Lit)] :: SP.blk g9 53 [v31, v34] :: SP.row Kd.u8 5 v34 x33 :: L) := hM
            refine pl0 hS rfl fun a hS => ?_
            refine st_done ?_
            replace hS : Slots 57 [] a [(6, Value.pointer (some ⟨g58, 0, none⟩)), (15, Value.int .i64 (x29)), (14, Value.int .i64 ((p1.length : Int))), (13, v2), (4, Value.bool (x30)), (3, Value.pointer (some ⟨g9, 0, none⟩)), (2, strV (([] : List UInt8)))] := (hS.part (.cons rfl (.cons rfl (.cons rfl (.cons rfl (.cons rfl (.cons rfl (.cons rfl (.nil _)))))))))
            refine x_then ?_
            refine wp_seq ?_
            refine wp_seq ?_
            refine wp_region_lit ?_
            refine st_val hS rfl rfl (by decide) (r_fld_b rfl fo_46_0 (hS.ev_ rfl)) fun a hS => ?_
            refine st_val hS rfl rfl (by decide) (r_ld1_b rfl ag_9 (hS.ev_ rfl) rfl (Rd.of hM)) fun a hS => ?_
            refine st_val hS rfl rfl (by decide) (r_sne rfl (hS.ev_ rfl) (hS.ev_ (v := strV (([] : List UInt8))) rfl)) fun a hS => ?_
            refine st_done ?_
            replace hS : Slots 57 [] a [(21, Value.bool (e48.f_Var != ([] : List UInt8))), (6, Value.pointer (some ⟨g58, 0, none⟩)), (15, Value.int .i64 (x29)), (14, Value.int .i64 ((p1.length : Int))), (13, v2), (4, Value.bool (x30)), (3, Value.pointer (some ⟨g9, 0, none⟩)), (2, strV (([] : List UInt8)))] := (hS.part (.cons rfl (.cons rfl (.cons rfl (.cons rfl (.cons rfl (.cons rfl (.cons rfl (.cons rfl (.nil _))))))))))
            refine x_then ?_
            rcases ifB h44 with ⟨hc60, h44⟩ | ⟨hc60, h44⟩
            · refine c_cond_true (hS.ev_ rfl) hc60 ?_
              refine wp_seq ?_
              refine wp_region_lit ?_
              refine st_val hS rfl rfl (by decide) (r_fld_b rfl fo_46_0 (hS.ev_ rfl)) fun a hS => ?_
              refine st_val hS rfl rfl (by decide) (r_ld1_b rfl ag_9 (hS.ev_ rfl) rfl (Rd.of hM)) fun a hS => ?_
              obtain ⟨h61, h44⟩ := bindU h44
              refine st_val hS rfl rfl (by decide) (r_sadd rfl (hS.ev_ (v := strV (([36] : List UInt8))) rfl) (hS.ev_ rfl) (req_some h61)) fun a hS => ?_
              obtain ⟨y62, h63, h44⟩ := bindO h44
              replace hM := hM.pull 2 rfl rfl
              replace hM := hM.pull 2 rfl rfl
              have hc65 := strings_Builder_WriteString_c hG h63 f32 hM
              refine wl_cons rfl (e_call rfl Tryd.func22 rfl rfl (args2 (hS.ev_ rfl) (hS.ev_ rfl)) hc65 ?_)
              rintro _ w ⟨K64, v66, v68, hlK64, hM, rfl, f67⟩
              refine ⟨_, rfl, ?_⟩
              refine pl hS rfl (by decide) fun a hS => ?_
              refine st_done ?_
              replace hS : Slots 57 [] a [(6, Value.pointer (some ⟨g58, 0, none⟩)), (15, Value.int .i64 (x29)), (14, Value.int .i64 ((p1.length : Int))), (13, v2), (4, Value.bool (x30)), (3, Value.pointer (some ⟨g9, 0, none⟩)), (2, strV (([] : List UInt8)))] := (hS.part (.cons rfl (.cons rfl (.cons rfl (.cons rfl (.cons rfl (.cons rfl (.cons rfl (.nil _)))))))))
              refine x_then ?_
              refine wp_seq ?_
              refine wp_region_lit ?_
              refine st_val hS rfl rfl (by decide) (r_fld_b rfl fo_46_0 (hS.ev_ rfl)) fun a hS => ?_
              replace hM := hM.pull 2 rfl rfl
              refine st_val hS rfl rfl (by decide) (r_ld1_b rfl ag_9 (hS.ev_ rfl) rfl (Rd.of hM)) fun a hS => ?_
              obtain ⟨c70, h71, h44⟩ := bindO h44
              refine st_val hS rfl rfl (by decide) (r_index_s rfl un_9 (hS.ev_ rfl) (hS.ev_ rfl) h71) fun a hS => ?_
              obtain ⟨y72, h73, h44⟩ := bindO h44
              have hc75 := W_begins_c hG h73 hM
              refine wl_cons rfl (e_call rfl Tryd.func23 rfl rfl (args1 (hS.ev_ rfl)) hc75 ?_)
              rintro _ w ⟨K74, hlK74, hM, rfl⟩
              refine ⟨_, rfl, ?_⟩
              refine pl hS rfl (by decide) fun a hS => ?_
              refine st_val hS rfl rfl (by decide) (r_assign rfl (hS.ev_ rfl)) fun a hS => ?_
              refine st_done ?_
              replace hS : Slots 57 [] a [(4, Value.bool (y72)), (6, Value.pointer (some ⟨g58, 0, none⟩)), (15, Value.int .i64 (x29)), (14, Value.int .i64 ((p1.length : Int))), (13, v2), (3, Value.pointer (some ⟨g9, 0, none⟩)), (2, strV (([] : List UInt8)))] := (hS.part (.cons rfl (.cons rfl (.cons rfl (.cons rfl (.cons rfl (.cons rfl (.cons rfl (.nil _)))))))))
              refine x_then ?_
              refine wp_exit ?_
              refine x_then_exit ?_
              refine x_block_here ?_
              refine x_then ?_
              obtain rfl := Option.some.inj h44
              exact ⟨K74, (v66), (v68), (hlK64.trans hlK74), (hS.part (.cons rfl (.cons rfl (.cons rfl (.cons rfl (.cons rfl (.cons rfl (.nil _)))))))), (((hM).tail.pull 1 rfl rfl).pull 1 rfl rfl), f67⟩
            · refine c_cond_false (hS.ev_ rfl) hc60 ?_
              refine wp_skip ?_
              refine x_then ?_
              refine wp_seq ?_
              refine wp_seq ?_
              refine wp_region_lit ?_
              refine st_val hS rfl rfl (by decide) (r_fld_b rfl fo_46_1 (hS.ev_ rfl)) fun a hS => ?_
              refine st_val hS rfl rfl (by decide) (r_ld1_b rfl ag_9 (hS.ev_ rfl) rfl (Rd.of hM)) fun a hS => ?_
              obtain ⟨h79, h44⟩ := bindU h44
              refine wl_cons rfl (e_bytes hM rfl un_9 un_51 un_5 (hS.ev_ rfl) (req_some h79) fun v77 K76 w hlK76 hM f78 => ?_)
              refine pl hS rfl (by decide) fun a hS => ?_
              refine st_val hS rfl rfl (by decide) (r_len_sl rfl un_51 (hS.ev_ rfl) f78) fun a hS => ?_
              refine st_val hS rfl rfl (by decide) (r_move rfl (hS.ev_ rfl)) fun a hS => ?_
              refine st_done ?_
              replace hS : Slots 57 [] a [(34, Value.int .i64 (0)), (33, Value.int .i64 ((e48.f_Lit.length : Int))), (32, v77), (15, Value.int .i64 (x29)), (14, Value.int .i64 ((p1.length : Int))), (13, v2), (4, Value.bool (x30)), (3, Value.pointer (some ⟨g9, 0, none⟩)), (2, strV (([] : List UInt8)))] := (hS.part (.cons rfl (.cons rfl (.cons rfl (.cons rfl (.cons rfl (.cons rfl (.cons rfl (.cons rfl (.cons rfl (.nil _)))))))))))
              refine x_then ?_
              refine wp_block ?_
              obtain ⟨o93, h94, h44⟩ := bindO h44
              refine c_loop_ways (fun e a w => (e = .exit 2 ∧ ∃ (K95 : Hp) (v96 v98 : Value), Hp.le K76 K95 ∧ Slots 57 [] a [(2, strV (([] : List UInt8))), (3, Value.pointer (some ⟨g9, 0, none⟩)), (4, Value.bool (x30)), (13, v2), (14, Value.int .i64 ((p1.length : Int))), (15, Value.int .i64 (x29))] ∧ Sat w0 w K95 (SP.blk g58 46 [strV (e48.f_Var), strV (e48.f_Lit)] :: SP.blk g9 53 [v96, v98] :: SP.row Kd.u8 5 v98 o93 :: L) ∧ (v96 = Value.pointer none ∨ v96 = Value.pointer (some ⟨g9, 0, none⟩)))) ?_ ?_
              · intro c Q hc hQ
                have key : ∀ (x88 : Int) (x91 : List UInt8) (r' : List UInt8), W_Quote_l2 e48 x30 x88 x91 = some r' → r' = o93 → ∀ (K87 : Hp) (v89 v92 : Value) (a : Act) (w : World), Hp.le K76 K87 → Slots 57 [] a [(34, Value.int .i64 (x88)), (33, Value.int .i64 ((e48.f_Lit.length : Int))), (32, v77), (15, Value.int .i64 (x29)), (14, Value.int .i64 ((p1.length : Int))), (13, v2), (4, Value.bool (x30)), (3, Value.pointer (some ⟨g9, 0, none⟩)), (2, strV (([] : List UInt8)))] → Sat w0 w K87 (SP.blk g58 46 [strV (e48.f_Var), strV (e48.f_Lit)] :: SP.blk g9 53 [v89, v92] :: SP.row Kd.u8 5 v92 x91 :: L) → (v89 = Value.pointer none ∨ v89 = Value.pointer (some ⟨g9, 0, none⟩)) → Rnd Tryd.prog c Q a w := by
                  refine W_Quote_l2.partial_correctness e48 x30 _ ?_
                  intro W_Quote_l2_rec ih x88 x91 r' h hr K87 v89 v92 a w hlK87 hS hM f90
                  subst hc
                  refine c_round ?_
                  refine wp_seq ?_
                  refine wp_region_lit ?_
                  refine st_val hS rfl rfl (by decide) (r_cmp rfl (hS.ev_ rfl) (hS.ev_ rfl) rfl) fun a hS => ?_
                  refine st_done ?_
                  replace hS : Slots 57 [] a [(35, Value.bool (decide (x88 < ((e48.f_Lit.length : Int))))), (34, Value.int .i64 (x88)), (33, Value.int .i64 ((e48.f_Lit.length : Int))), (32, v77), (15, Value.int .i64 (x29)), (14, Value.int .i64 ((p1.length : Int))), (13, v2), (4, Value.bool (x30)), (3, Value.pointer (some ⟨g9, 0, none⟩)), (2, strV (([] : List UInt8)))] := (hS.part (.cons rfl (.cons rfl (.cons rfl (.cons rfl (.cons rfl (.cons rfl (.cons rfl (.cons rfl (.cons rfl (.cons rfl (.nil _))))))))))))
                  refine x_then ?_
                  refine wp_seq ?_
                  rcases ifB h with ⟨hc99, h⟩ | ⟨hc99, h⟩
                  · refine c_cond_true (hS.ev_ rfl) hc99 ?_
                    refine wp_skip ?_
                    refine x_then ?_
                    refine wp_seq ?_
                    refine wp_block ?_
                    refine wp_seq ?_
                    refine wp_region_lit ?_
                    refine st_val hS rfl rfl (by decide) (r_move rfl (hS.ev_ rfl)) fun a hS => ?_
                    obtain ⟨e100, h101, h⟩ := bindO h
                    obtain ⟨ad102, cp103, cs104, hv105, hr106, h0_107, h1_108, hq109⟩ := sl_at f78 h101 (by decide)
                    obtain rfl := hr106
                    refine st_val hS rfl rfl (by decide) (r_idx_sl rfl un_51 ti_5 (hS.ev_ rfl) hv105 (hS.ev_ rfl) h0_107 h1_108) fun a hS => ?_
                    refine st_val hS rfl rfl (by decide) (r_ld1_k rfl ag_5 (hS.ev_ rfl) hq109 rfl (Rd.up hlK87 hM.nil_)) fun a hS => ?_
                    refine st_val hS rfl rfl (by decide) (r_assign rfl (hS.ev_ rfl)) fun a hS => ?_
                    refine st_val hS rfl rfl (by decide) (r_assign rfl (hS.ev_ rfl)) fun a hS => ?_
                    refine st_done ?_
                    replace hS : Slots 57 [] a [(8, Value.int .u8 (b8 (e100))), (7, Value.int .i64 (x88)), (34, Value.int .i64 (x88)), (33, Value.int .i64 ((e48.f_Lit.length : Int))), (32, v77), (15, Value.int .i64 (x29)), (14, Value.int .i64 ((p1.length : Int))), (13, v2), (4, Value.bool (x30)), (3, Value.pointer (some ⟨g9, 0, none⟩)), (2, strV (([] : List UInt8)))] := (hS.part (.cons rfl (.cons rfl (.cons rfl (.cons rfl (.cons rfl (.cons rfl (.cons rfl (.cons rfl (.cons rfl (.cons rfl (.cons rfl (.nil _)))))))))))))
                    refine x_then ?_
                    refine wp_region_lit ?_
                    refine st_val hS rfl rfl (by decide) (r_move rfl (hS.ev_ rfl)) fun a hS => ?_
                    refine st_val hS rfl rfl (by decide) (r_move rfl (hS.ev_ rfl)) fun a hS => ?_
                    refine st_val hS rfl rfl (by decide) (r_not rfl (hS.ev_ rfl)) fun a hS => ?_
                    refine st_val hS rfl rfl (by decide) (r_move rfl (hS.ev_ rfl)) fun a hS => ?_
                    obtain ⟨x110, h111, h⟩ := bindO h
                    refine wl_cut 3 (fun a w => Slots 57 [] a [(2, strV (([] : List UInt8))), (3, Value.pointer (some ⟨g9, 0, none⟩)), (4, Value.bool (x30)), (8, Value.int .u8 (b8 (e100))), (13, v2), (14, Value.int .i64 ((p1.length : Int))), (15, Value.int .i64 (x29)), (32, v77), (33, Value.int .i64 ((e48.f_Lit.length : Int))), (34, Value.int .i64 (x88)), (39, Value.int .u8 (b8 (e100))), (45, Value.bool (x110))] ∧ Sat w0 w K87 (SP.blk g58 46 [strV (e48.f_Var), strV (e48.f_Lit)] :: SP.blk g9 53 [v89, v92] :: SP.row Kd.u8 5 v92 x91 :: L)) ?_ ?_
                    ·
                      skip
                      rcases ifB h111 with ⟨hc112, h111⟩ | ⟨hc112, h111⟩
                      ·
                        replace hS := hS.known (k := 42) rfl hc112
                        refine st_off hS rfl rfl rfl rfl rfl rfl (by decide) fun a hS => ?_
                        refine st_off hS rfl rfl rfl rfl rfl rfl (by decide) fun a hS => ?_
                        refine st_val hS rfl rfl (by decide) (r_pick_true rfl (hS.ev_ rfl) rfl (hS.ev_ rfl)) fun a hS => ?_
                        refine st_done ?_
                        replace hS : Slots 57 [] a [(45, Value.bool (true)), (39, Value.int .u8 (b8 (e100))), (8, Value.int .u8 (b8 (e100))), (34, Value.int .i64 (x88)), (33, Value.int .i64 ((e48.f_Lit.length : Int))), (32, v77), (15, Value.int .i64 (x29)), (14, Value.int .i64 ((p1.length : Int))), (13, v2), (4, Value.bool (x30)), (3, Value.pointer (some ⟨g9, 0, none⟩)), (2, strV (([] : List UInt8)))] := (hS.part (.cons rfl (.cons rfl (.cons rfl (.cons rfl (.cons rfl (.cons rfl (.cons rfl (.cons rfl (.cons rfl (.cons rfl (.cons rfl (.cons rfl (.nil _))))))))))))))
                        refine x_then ?_
                        obtain rfl := Option.some.inj h111
                        exact ⟨(hS.part (.cons rfl (.cons rfl (.cons rfl (.cons rfl (.cons rfl (.cons rfl (.cons rfl (.cons rfl (.cons rfl (.cons rfl (.cons rfl (.cons rfl (.nil _)))))))))))))), (((hM.pull 2 rfl rfl).pull 2 rfl rfl).pull 2 rfl rfl)⟩
                      ·
                        replace hS := hS.known (k := 42) rfl hc112
                        refine st_want hS rfl rfl rfl rfl rfl (by decide) (r_move rfl (hS.ev_ rfl)) fun a hS => ?_
                        refine st_want hS rfl rfl rfl rfl rfl (by decide) (r_cmp rfl (hS.ev_ rfl) (hS.ev_ rfl) rfl) fun a hS => ?_
                        refine st_val hS rfl rfl (by decide) (r_pick_false rfl (hS.ev_ rfl) rfl (hS.ev_ rfl)) fun a hS => ?_
                        refine st_done ?_
                        replace hS : Slots 57 [] a [(45, Value.bool (decide (x88 > 0))), (39, Value.int .u8 (b8 (e100))), (8, Value.int .u8 (b8 (e100))), (34, Value.int .i64 (x88)), (33, Value.int .i64 ((e48.f_Lit.length : Int))), (32, v77), (15, Value.int .i64 (x29)), (14, Value.int .i64 ((p1.length : Int))), (13, v2), (4, Value.bool (x30)), (3, Value.pointer (some ⟨g9, 0, none⟩)), (2, strV (([] : List UInt8)))] := (hS.part (.cons rfl (.cons rfl (.cons rfl (.cons rfl (.cons rfl (.cons rfl (.cons rfl (.cons rfl (.cons rfl (.cons rfl (.cons rfl (.cons rfl (.nil _))))))))))))))
                        refine x_then ?_
                        obtain rfl := Option.some.inj h111
                        exact ⟨(hS.part (.cons rfl (.cons rfl (.cons rfl (.cons rfl (.cons rfl (.cons rfl (.cons rfl (.cons rfl (.cons rfl (.cons rfl (.cons rfl (.cons rfl (.nil _)))))))))))))), (((hM.pull 2 rfl rfl).pull 2 rfl rfl).pull 2 rfl rfl)⟩
                    · rintro a w ⟨hS, hM⟩
                      refine st_val hS rfl rfl (by decide) (r_move rfl (hS.ev_ rfl)) fun a hS => ?_
                      obtain ⟨x114, h115, h⟩ := bindO h
                      refine wl_cut 4 (fun a w => ∃ (K113 : Hp), Hp.le K87 K113 ∧ Slots 57 [] a [(2, strV (([] : List UInt8))), (3, Value.pointer (some ⟨g9, 0, none⟩)), (4, Value.bool (x30)), (13, v2), (14, Value.int .i64 ((p1.length : Int))), (15, Value.int .i64 (x29)), (32, v77), (33, Value.int .i64 ((e48.f_Lit.length : Int))), (34, Value.int .i64 (x88)), (39, Value.int .u8 (b8 (e100))), (50, Value.bool (x114))] ∧ Sat w0 w K113 (SP.blk g58 46 [strV (e48.f_Var), strV (e48.f_Lit)] :: SP.blk g9 53 [v89, v92] :: SP.row Kd.u8 5 v92 x91 :: L)) ?_ ?_
                      ·
                        skip
                        rcases ifB h115 with ⟨hc116, h115⟩ | ⟨hc116, h115⟩
                        ·
                          replace hS := hS.known (k := 46) rfl hc116
                          refine st_off hS rfl rfl rfl rfl rfl rfl (by decide) fun a hS => ?_
                          refine st_off hS rfl rfl rfl rfl rfl rfl (by decide) fun a hS => ?_
                          refine st_off hS rfl rfl rfl rfl rfl rfl (by decide) fun a hS => ?_
                          refine st_val hS rfl rfl (by decide) (r_pick_true rfl (hS.ev_ rfl) rfl (hS.ev_ rfl)) fun a hS => ?_
                          refine st_done ?_
                          replace hS : Slots 57 [] a [(50, Value.bool (true)), (2, strV (([] : List UInt8))), (3, Value.pointer (some ⟨g9, 0, none⟩)), (4, Value.bool (x30)), (13, v2), (14, Value.int .i64 ((p1.length : Int))), (15, Value.int .i64 (x29)), (32, v77), (33, Value.int .i64 ((e48.f_Lit.length : Int))), (34, Value.int .i64 (x88)), (39, Value.int .u8 (b8 (e100)))] := (hS.part (.cons rfl (.cons rfl (.cons rfl (.cons rfl (.cons rfl (.cons rfl (.cons rfl (.cons rfl (.cons rfl (.cons rfl (.cons rfl (.nil _)))))))))))))
                          refine x_then ?_
                          obtain rfl := Option.some.inj h115
                          exact ⟨K87, (Hp.le.refl _), (hS.part (.cons rfl (.cons rfl (.cons rfl (.cons rfl (.cons rfl (.cons rfl (.cons rfl (.cons rfl (.cons rfl (.cons rfl (.cons rfl (.nil _))))))))))))), (((hM.pull 2 rfl rfl).pull 2 rfl rfl).pull 2 rfl rfl)⟩
                        ·
                          replace hS := hS.known (k := 46) rfl hc116
                          refine st_want hS rfl rfl rfl rfl rfl (by decide) (r_move rfl (hS.ev_ rfl)) fun a hS => ?_
                          obtain ⟨y117, h118, h115⟩ := bindO h115
                          have hc120 := W_goes_c hG h118 hM
                          refine g_want hS rfl rfl rfl rfl (e_call rfl Tryd.func25 rfl rfl (args1 (hS.ev_ rfl)) hc120 ?_)
                          rintro _ w ⟨K119, hlK119, hM, rfl⟩
                          refine ⟨_, rfl, ?_⟩
                          refine pl hS rfl (by decide) fun a hS => ?_
                          refine st_want hS rfl rfl rfl rfl rfl (by decide) (r_not rfl (hS.ev_ rfl)) fun a hS => ?_
                          refine st_val hS rfl rfl (by decide) (r_pick_false rfl (hS.ev_ rfl) rfl (hS.ev_ rfl)) fun a hS => ?_
                          refine st_done ?_
                          replace hS : Slots 57 [] a [(50, Value.bool (!y117)), (2, strV (([] : List UInt8))), (3, Value.pointer (some ⟨g9, 0, none⟩)), (4, Value.bool (x30)), (13, v2), (14, Value.int .i64 ((p1.length : Int))), (15, Value.int .i64 (x29)), (32, v77), (33, Value.int .i64 ((e48.f_Lit.length : Int))), (34, Value.int .i64 (x88)), (39, Value.int .u8 (b8 (e100)))] := (hS.part (.cons rfl (.cons rfl (.cons rfl (.cons rfl (.cons rfl (.cons rfl (.cons rfl (.cons rfl (.cons rfl (.cons rfl (.cons rfl (.nil _)))))))))))))
                          refine x_then ?_
                          obtain rfl := Option.some.inj h115
                          exact ⟨K119, hlK119, (hS.part (.cons rfl (.cons rfl (.cons rfl (.cons rfl (.cons rfl (.cons rfl (.cons rfl (.cons rfl (.cons rfl (.cons rfl (.cons rfl (.nil _))))))))))))), (((hM.pull 2 rfl rfl).pull 2 rfl rfl).pull 2 rfl rfl)⟩
                      · rintro a w ⟨K113, hlK113, hS, hM⟩
                        obtain ⟨y121, h122, h⟩ := bindO h
                        have hc124 := W_told_c hG h122 hM
                        refine wl_cons rfl (e_call rfl Tryd.func24 rfl rfl (args2 (hS.ev_ rfl) (hS.ev_ rfl)) hc124 ?_)
                        rintro _ w ⟨K123, hlK123, hM, rfl⟩
                        refine ⟨_, rfl, ?_⟩
                        refine pl hS rfl (by decide) fun a hS => ?_
                        obtain ⟨y125, h126, h⟩ := bindO h
                        replace hM := hM.pull 2 rfl rfl
                        replace hM := hM.pull 2 rfl rfl
                        have hc128 := strings_Builder_WriteString_c hG h126 f90 hM
                        refine wl_cons rfl (e_call rfl Tryd.func22 rfl rfl (args2 (hS.ev_ rfl) (hS.ev_ rfl)) hc128 ?_)
                        rintro _ w ⟨K127, v129, v131, hlK127, hM, rfl, f130⟩
                        refine ⟨_, rfl, ?_⟩
                        refine pl hS rfl (by decide) fun a hS => ?_
                        refine st_done ?_
                        replace hS : Slots 57 [] a [(2, strV (([] : List UInt8))), (3, Value.pointer (some ⟨g9, 0, none⟩)), (4, Value.bool (x30)), (13, v2), (14, Value.int .i64 ((p1.length : Int))), (15, Value.int .i64 (x29)), (32, v77), (33, Value.int .i64 ((e48.f_Lit.length : Int))), (34, Value.int .i64 (x88))] := (hS.part (.cons rfl (.cons rfl (.cons rfl (.cons rfl (.cons rfl (.cons rfl (.cons rfl (.cons rfl (.cons rfl (.nil _)))))))))))
                        refine x_block ?_
                        refine x_then ?_
                        refine wp_region_lit ?_
                        refine st_val hS rfl rfl (by decide) (r_add rfl (hS.ev_ rfl) (hS.ev_ rfl)) fun a hS => ?_
                        refine st_val hS rfl rfl (by decide) (r_move rfl (hS.ev_ rfl)) fun a hS => ?_
                        refine st_done ?_
                        replace hS : Slots 57 [] a [(34, Value.int .i64 (w64 (x88 + 1))), (2, strV (([] : List UInt8))), (3, Value.pointer (some ⟨g9, 0, none⟩)), (4, Value.bool (x30)), (13, v2), (14, Value.int .i64 ((p1.length : Int))), (15, Value.int .i64 (x29)), (32, v77), (33, Value.int .i64 ((e48.f_Lit.length : Int)))] := (hS.part (.cons rfl (.cons rfl (.cons rfl (.cons rfl (.cons rfl (.cons rfl (.cons rfl (.cons rfl (.cons rfl (.nil _)))))))))))
                        refine x_then ?_
                        exact ih (w64 (x88 + 1)) y125.2.2 _ h hr K127 (v129) (v131) _ _ (((hlK87.trans hlK113).trans hlK123).trans hlK127) (hS.part (.cons rfl (.cons rfl (.cons rfl (.cons rfl (.cons rfl (.cons rfl (.cons rfl (.cons rfl (.cons rfl (.nil _))))))))))) ((((hM.pull 1 rfl rfl).pull 1 rfl rfl).pull 2 rfl rfl)) f130
                  · refine c_cond_false (hS.ev_ rfl) hc99 ?_
                    refine wp_exit ?_
                    refine x_then_exit ?_
                    refine x_then_exit ?_
                    have ho' := (Option.some.inj h).trans hr
                    refine hQ _ _ _ ?_
                    subst ho'
                    exact ⟨rfl, K87, (v89), (v92), hlK87, (hS.part (.cons rfl (.cons rfl (.cons rfl (.cons rfl (.cons rfl (.cons rfl (.nil _)))))))), (((hM.pull 2 rfl rfl).pull 2 rfl rfl).pull 2 rfl rfl), f90⟩
                exact key 0 x33 _ h94 rfl K76 (v31) (v34) _ _ (Hp.le.refl _) (hS.part (.cons rfl (.cons rfl (.cons rfl (.cons rfl (.cons rfl (.cons rfl (.cons rfl (.cons rfl (.cons rfl (.nil _))))))))))) ((((hM.pull 2 rfl rfl).pull 2 rfl rfl).pull 2 rfl rfl)) f32
              · rintro e a w ⟨rfl, K95, v96, v98, hlK95, hS, hM, f97⟩
                refine x_block_here ?_
                refine x_then ?_
                refine wp_region_lit ?_
                refine st_val hS rfl rfl (by decide) (r_assign rfl (hS.ev_ rfl)) fun a hS => ?_
                refine st_done ?_
                replace hS : Slots 57 [] a [(4, Value.bool (false)), (2, strV (([] : List UInt8))), (3, Value.pointer (some ⟨g9, 0, none⟩)), (13, v2), (14, Value.int .i64 ((p1.length : Int))), (15, Value.int .i64 (x29))] := (hS.part (.cons rfl (.cons rfl (.cons rfl (.cons rfl (.cons rfl (.cons rfl (.nil _))))))))
                refine x_block ?_
                refine x_then ?_
                obtain rfl := Option.some.inj h44
                exact ⟨K95, (v96), (v98), (hlK76.trans hlK95), (hS.part (.cons rfl (.cons rfl (.cons rfl (.cons rfl (.cons rfl (.cons rfl (.nil _)))))))), (((hM).tail.pull 1 rfl rfl).pull 1 rfl rfl), f97⟩
          · rintro a w ⟨K42, v45, v47, hlK42, hS, hM, f46⟩
            refine wp_region_lit ?_
            refine st_val hS rfl rfl (by decide) (r_add rfl (hS.ev_ rfl) (hS.ev_ rfl)) fun a hS => ?_
            refine st_val hS rfl rfl (by decide) (r_move rfl (hS.ev_ rfl)) fun a hS => ?_
            refine st_done ?_
            replace hS : Slots 57 [] a [(15, Value.int .i64 (w64 (x29 + 1))), (2, strV (([] : List UInt8))), (3, Value.pointer (some ⟨g9, 0, none⟩)), (13, v2), (14, Value.int .i64 ((p1.length : Int))), (4, Value.bool (x43.1))] := (hS.part (.cons rfl (.cons rfl (.cons rfl (.cons rfl (.cons rfl (.cons rfl (.nil _))))))))
            refine x_then ?_
            exact ih (w64 (x29 + 1)) x43.1 x43.2 _ h hr K42 (v45) (v47) _ _ (hlK28.trans hlK42) (hS.part (.cons rfl (.cons rfl (.cons rfl (.cons rfl (.cons rfl (.cons rfl (.nil _)))))))) (((hM.pull 1 rfl rfl).pull 1 rfl rfl)) f46
        · refine c_cond_false (hS.ev_ rfl) hc41 ?_
          refine wp_exit ?_
          refine x_then_exit ?_
          refine x_then_exit ?_
          have ho' := (Option.some.inj h).trans hr
          refine hQ _ _ _ ?_
          subst ho'
          exact ⟨rfl, K28, (v31), (v34), hlK28, (hS.part (.cons rfl (.cons rfl (.nil _)))), ((hM.pull 1 rfl rfl).pull 1 rfl rfl), f32⟩
      exact key 0 false y12.2 _ h36 rfl K14 (v16) (v18) _ _ (Hp.le.refl _) (hS.part (.cons rfl (.cons rfl (.cons rfl (.cons rfl (.cons rfl (.cons rfl (.nil _)))))))) (((hM.pull 1 rfl rfl).pull 1 rfl rfl)) f17
    · rintro e a w ⟨rfl, K37, v38, v40, hlK37, hS, hM, f39⟩
      refine x_block_here ?_
      refine x_then ?_
      refine wp_seq ?_
      refine wp_region_lit ?_
      obtain ⟨y133, h134, h⟩ := bindO h
      replace hM := hM.pull 1 rfl rfl
      replace hM := hM.pull 1 rfl rfl
      have hc136 := strings_Builder_WriteByte_c hG h134 f39 hM
      refine wl_cons rfl (e_call rfl Tryd.func21 rfl rfl (args2 (hS.ev_ rfl) (hS.ev_ (v := Value.int .u8 (b8 (34))) rfl)) hc136 ?_)
      rintro _ w ⟨K135, v137, v139, hlK135, hM, rfl, f138⟩
      refine ⟨_, rfl, ?_⟩
      refine pl hS rfl (by decide) fun a hS => ?_
      refine st_done ?_
      replace hS : Slots 57 [] a [(2, strV (([] : List UInt8))), (3, Value.pointer (some ⟨g9, 0, none⟩))] := (hS.part (.cons rfl (.cons rfl (.nil _))))
      refine x_then ?_
      refine wp_seq ?_
      refine wp_region_lit ?_
      obtain ⟨y141, h142, h⟩ := bindO h
      replace hM := hM.pull 1 rfl rfl
      replace hM := hM.pull 1 rfl rfl
      have hc144 := strings_Builder_String_c hG h142 f138 hM
      refine wl_cons rfl (e_call rfl Tryd.func26 rfl rfl (args1 (hS.ev_ rfl)) hc144 ?_)
      rintro _ w ⟨K143, hlK143, hM, rfl⟩
      refine ⟨_, rfl, ?_⟩
      refine pl hS rfl (by decide) fun a hS => ?_
      refine st_val hS rfl rfl (by decide) (r_assign rfl (hS.ev_ rfl)) fun a hS => ?_
      refine st_done ?_
      replace hS : Slots 57 [] a [(2, strV (y141))] := (hS.part (.cons rfl (.nil _)))
      refine x_then ?_
      refine wp_ret ?_
      have hr' := Option.some.inj h
      subst hr'
      refine ret1 (.inr rfl) hS rfl rfl ?_
      exact ⟨K143, ((((hlK6.trans hlK14).trans hlK37).trans hlK135).trans hlK143), hM, rfl⟩

theorem slices_Equal_W_Piece_W_Piece_c {w0 w : World} {K : Hp} {L : List SP} {p1 : List W_Piece} {p4 : List W_Piece} {v2 : Value} {v5 : Value} {r : Bool} (hG : Glob w0) (h : slices_Equal_W_Piece_W_Piece p1 p4 = some r) (f3 : kW_Piece.sl K v2 p1) (f6 : kW_Piece.sl K v5 p4) (hM : Sat w0 w K (L)) :
    Calls Tryd.prog 27 #[v2, v5] w (fun e w' => ∃ (K' : Hp), Hp.le K K' ∧ Sat w0 w' K' (L) ∧ e = .returned (Value.bool (r))) := by
  refine enter_ (n := 26) (args := [v2, v5]) Tryd.func27 rfl rfl (Nat.le_of_ble_eq_true rfl) fun a hS => ?_
  replace hS : Slots 26 [] a [(0, v2), (1, v5)] := hS
  unfold slices_Equal_W_Piece_W_Piece at h
  refine wp_seq ?_
  refine wp_region_lit ?_
  refine st_val hS rfl rfl (by decide) (r_assign rfl (hS.ev_ rfl)) fun a hS => ?_
  refine st_done ?_
  replace hS : Slots 26 [] a [(4, Value.bool (false)), (0, v2), (1, v5)] := (hS.part (.cons rfl (.cons rfl (.cons rfl (.nil _)))))
  refine x_then ?_
  refine wp_seq ?_
  refine wp_seq ?_
  refine wp_region_lit ?_
  refine st_val hS rfl rfl (by decide) (r_move rfl (hS.ev_ rfl)) fun a hS => ?_
  refine st_val hS rfl rfl (by decide) (r_len_sl rfl un_22 (hS.ev_ rfl) f3) fun a hS => ?_
  refine st_val hS rfl rfl (by decide) (r_move rfl (hS.ev_ rfl)) fun a hS => ?_
  refine st_val hS rfl rfl (by decide) (r_len_sl rfl un_22 (hS.ev_ rfl) f6) fun a hS => ?_
  refine st_val hS rfl rfl (by decide) (r_cmp rfl (hS.ev_ rfl) (hS.ev_ rfl) rfl) fun a hS => ?_
  refine st_done ?_
  replace hS : Slots 26 [] a [(10, Value.bool (((p1.length : Int)) != ((p4.length : Int)))), (4, Value.bool (false)), (0, v2), (1, v5)] := (hS.part (.cons rfl (.cons rfl (.cons rfl (.cons rfl (.nil _))))))
  refine x_then ?_
  rcases ifB h with ⟨hc7, h⟩ | ⟨hc7, h⟩
  · refine c_cond_true (hS.ev_ rfl) hc7 ?_
    refine wp_seq ?_
    refine wp_region_lit ?_
    refine st_val hS rfl rfl (by decide) (r_assign rfl (hS.ev_ rfl)) fun a hS => ?_
    refine st_done ?_
    replace hS : Slots 26 [] a [(4, Value.bool (false)), (0, v2), (1, v5)] := (hS.part (.cons rfl (.cons rfl (.cons rfl (.nil _)))))
    refine x_then ?_
    refine wp_ret ?_
    refine x_then_ret ?_
    have hr' := Option.some.inj h
    subst hr'
    refine ret1 (.inr rfl) hS rfl rfl ?_
    exact ⟨K, (Hp.le.refl _), hM, rfl⟩
  · refine c_cond_false (hS.ev_ rfl) hc7 ?_
    refine wp_skip ?_
    refine x_then ?_
    refine wp_seq ?_
    refine wp_seq ?_
    refine wp_region_lit ?_
    refine st_val hS rfl rfl (by decide) (r_move rfl (hS.ev_ rfl)) fun a hS => ?_
    refine st_val hS rfl rfl (by decide) (r_len_sl rfl un_22 (hS.ev_ rfl) f3) fun a hS => ?_
    refine st_val hS rfl rfl (by decide) (r_move rfl (hS.ev_ rfl)) fun a hS => ?_
    refine st_done ?_
    replace hS : Slots 26 [] a [(13, Value.int .i64 (0)), (12, Value.int .i64 ((p1.length : Int))), (4, Value.bool (false)), (0, v2), (1, v5)] := (hS.part (.cons rfl (.cons rfl (.cons rfl (.cons rfl (.cons rfl (.nil _)))))))
    refine x_then ?_
    refine wp_block ?_
    obtain ⟨o13, h14, h⟩ := bindO h
    refine c_loop_ways (fun e a w => (e = .exit 0 ∧ ∃ (K15 : Hp) (x16 : Unit), Hp.le K K15 ∧ o13 = Sum.inl x16 ∧ Slots 26 [] a [(4, Value.bool (false))] ∧ Sat w0 w K15 (L)) ∨ (e = .ret ∧ ∃ (K17 : Hp) (x18 : Unit), Hp.le K K17 ∧ o13 = Sum.inr x18 ∧ Slots 26 [] a [(4, Value.bool (false))] ∧ Sat w0 w K17 (L))) ?_ ?_
    · intro c Q hc hQ
      have key : ∀ (x12 : Int) (r' : Sum Unit Unit), slices_Equal_W_Piece_W_Piece_l1 p1 p4 x12 = some r' → r' = o13 → ∀ (K11 : Hp) (a : Act) (w : World), Hp.le K K11 → Slots 26 [] a [(13, Value.int .i64 (x12)), (12, Value.int .i64 ((p1.length : Int))), (4, Value.bool (false)), (0, v2), (1, v5)] → Sat w0 w K11 (L) → Rnd Tryd.prog c Q a w := by
        refine slices_Equal_W_Piece_W_Piece_l1.partial_correctness p1 p4 _ ?_
        intro slices_Equal_W_Piece_W_Piece_l1_rec ih x12 r' h hr K11  a w hlK11 hS hM 
        subst hc
        refine c_round ?_
        refine wp_seq ?_
        refine wp_region_lit ?_
        refine st_val hS rfl rfl (by decide) (r_cmp rfl (hS.ev_ rfl) (hS.ev_ rfl) rfl) fun a hS => ?_
        refine st_done ?_
        replace hS : Slots 26 [] a [(14, Value.bool (decide (x12 < ((p1.length : Int))))), (13, Value.int .i64 (x12)), (12, Value.int .i64 ((p1.length : Int))), (4, Value.bool (false)), (0, v2), (1, v5)] := (hS.part (.cons rfl (.cons rfl (.cons rfl (.cons rfl (.cons rfl (.cons rfl (.nil _))))))))
        refine x_then ?_
        refine wp_seq ?_
        rcases ifB h with ⟨hc19, h⟩ | ⟨hc19, h⟩
        · refine c_cond_true (hS.ev_ rfl) hc19 ?_
          refine wp_skip ?_
          refine x_then ?_
          refine wp_seq ?_
          refine wp_block ?_
          refine wp_seq ?_
          refine wp_region_lit ?_
          refine st_val hS rfl rfl (by decide) (r_move rfl (hS.ev_ rfl)) fun a hS => ?_
          refine st_val hS rfl rfl (by decide) (r_assign rfl (hS.ev_ rfl)) fun a hS => ?_
          refine st_done ?_
          replace hS : Slots 26 [] a [(5, Value.int .i64 (x12)), (13, Value.int .i64 (x12)), (12, Value.int .i64 ((p1.length : Int))), (4, Value.bool (false)), (0, v2), (1, v5)] := (hS.part (.cons rfl (.cons rfl (.cons rfl (.cons rfl (.cons rfl (.cons rfl (.nil _))))))))
          refine x_then ?_
          refine wp_seq ?_
          refine tk_start #[false, false, false, false, false, false, false, false, false] mixed_ rfl rfl ?_
          replace hM := hM.drew
          generalize w.drew = w at hM ⊢
          refine dk_any (i := 0) #[true, false, false, false, false, false, false, false, false] hS rfl (by kernel_rfl) rfl rfl (by decide) (fun w => r_move rfl (hS.ev_ rfl)) fun a hS => ?_
          refine dk_any (i := 1) #[true, true, false, false, false, false, false, false, false] hS rfl (by kernel_rfl) rfl rfl (by decide) (fun w => r_move rfl (hS.ev_ rfl)) fun a hS => ?_
          obtain ⟨e20, h21, h⟩ := bindO h
          obtain ⟨ad22, cp23, cs24, hv25, hr26, h0_27, h1_28, hq29⟩ := sl_at f3 h21 (by decide)
          obtain rfl := kW_Piece_open hr26
          refine dk_any (i := 2) #[true, true, true, false, false, false, false, false, false] hS rfl (by kernel_rfl) rfl rfl (by decide) (fun w => r_idx_sl rfl un_22 ti_46 (hS.ev_ rfl) hv25 (hS.ev_ rfl) h0_27 h1_28) fun a hS => ?_
          refine dk_val (i := 3) (S := Rd w0 K []) #[true, true, true, true, false, false, false, false, false] hS rfl (by kernel_rfl) rfl rfl (by decide) (Rd.up hlK11 hM.nil_) (fun w hR => r_ldN_k (cs' := [strV (e20.f_Var), strV (e20.f_Lit)]) rfl ag_46 ti_46 (hS.ev_ rfl) hq29 rfl hR) fun a hS => ?_
          refine dk_any (i := 4) #[true, true, true, true, true, false, false, false, false] hS rfl (by kernel_rfl) rfl rfl (by decide) (fun w => r_move rfl (hS.ev_ rfl)) fun a hS => ?_
          refine dk_any (i := 5) #[true, true, true, true, true, true, false, false, false] hS rfl (by kernel_rfl) rfl rfl (by decide) (fun w => r_move rfl (hS.ev_ rfl)) fun a hS => ?_
          obtain ⟨e30, h31, h⟩ := bindO h
          obtain ⟨ad32, cp33, cs34, hv35, hr36, h0_37, h1_38, hq39⟩ := sl_at f6 h31 (by decide)
          obtain rfl := kW_Piece_open hr36
          refine dk_any (i := 6) #[true, true, true, true, true, true, true, false, false] hS rfl (by kernel_rfl) rfl rfl (by decide) (fun w => r_idx_sl rfl un_22 ti_46 (hS.ev_ rfl) hv35 (hS.ev_ rfl) h0_37 h1_38) fun a hS => ?_
          refine dk_val (i := 7) (S := Rd w0 K []) #[true, true, true, true, true, true, true, true, false] hS rfl (by kernel_rfl) rfl rfl (by decide) (Rd.up hlK11 hM.nil_) (fun w hR => r_ldN_k (cs' := [strV (e30.f_Var), strV (e30.f_Lit)]) rfl ag_46 ti_46 (hS.ev_ rfl) hq39 rfl hR) fun a hS => ?_
          refine dk_any (i := 8) #[true, true, true, true, true, true, true, true, true] hS rfl (by kernel_rfl) rfl rfl (by decide) (fun w => r_nest rfl eq_46 (hS.ev_ rfl) (hS.ev_ rfl) (.s (.s .nil))) fun a hS => ?_
          refine tk_done (by kernel_rfl) ?_
          replace hS : Slots 26 [] a [(24, Value.bool (!((e20.f_Var == e30.f_Var) && ((e20.f_Lit == e30.f_Lit) && true)))), (13, Value.int .i64 (x12)), (12, Value.int .i64 ((p1.length : Int))), (4, Value.bool (false)), (0, v2), (1, v5)] := (hS.part (.cons rfl (.cons rfl (.cons rfl (.cons rfl (.cons rfl (.cons rfl (.nil _))))))))
          refine x_then ?_
          rcases ifB h with ⟨hc40, h⟩ | ⟨hc40, h⟩
          · refine c_cond_true (hS.ev_ rfl) hc40 ?_
            refine wp_seq ?_
            refine wp_region_lit ?_
            refine st_val hS rfl rfl (by decide) (r_assign rfl (hS.ev_ rfl)) fun a hS => ?_
            refine st_done ?_
            replace hS : Slots 26 [] a [(4, Value.bool (false)), (13, Value.int .i64 (x12)), (12, Value.int .i64 ((p1.length : Int))), (0, v2), (1, v5)] := (hS.part (.cons rfl (.cons rfl (.cons rfl (.cons rfl (.cons rfl (.nil _)))))))
            refine x_then ?_
            refine wp_ret ?_
            refine x_block_ret ?_
            refine x_then_ret ?_
            refine x_then_ret ?_
            have ho' := (Option.some.inj h).trans hr
            refine hQ _ _ _ ?_
            exact .inr (⟨rfl, K11, (()), hlK11, ho'.symm, (hS.part (.cons rfl (.nil _))), hM⟩)
          · refine c_cond_false (hS.ev_ rfl) hc40 ?_
            refine wp_skip ?_
            refine x_block ?_
            refine x_then ?_
            refine wp_region_lit ?_
            refine st_val hS rfl rfl (by decide) (r_add rfl (hS.ev_ rfl) (hS.ev_ rfl)) fun a hS => ?_
            refine st_val hS rfl rfl (by decide) (r_move rfl (hS.ev_ rfl)) fun a hS => ?_
            refine st_done ?_
            replace hS : Slots 26 [] a [(13, Value.int .i64 (w64 (x12 + 1))), (12, Value.int .i64 ((p1.length : Int))), (4, Value.bool (false)), (0, v2), (1, v5)] := (hS.part (.cons rfl (.cons rfl (.cons rfl (.cons rfl (.cons rfl (.nil _)))))))
            refine x_then ?_
            exact ih (w64 (x12 + 1)) _ h hr K11 _ _ hlK11 (hS.part (.cons rfl (.cons rfl (.cons rfl (.cons rfl (.cons rfl (.nil _))))))) (hM)
        · refine c_cond_false (hS.ev_ rfl) hc19 ?_
          refine wp_exit ?_
          refine x_then_exit ?_
          refine x_then_exit ?_
          have ho' := (Option.some.inj h).trans hr
          refine hQ _ _ _ ?_
          exact .inl ⟨rfl, K11, (()), hlK11, ho'.symm, (hS.part (.cons rfl (.nil _))), hM⟩
      exact key 0 _ h14 rfl K _ _ (Hp.le.refl _) (hS.part (.cons rfl (.cons rfl (.cons rfl (.cons rfl (.cons rfl (.nil _))))))) (hM)
    · rintro e a w (⟨rfl, K15, x16, hlK15, ho', hS, hM⟩ | ⟨rfl, K17, x18, hlK17, ho', hS, hM⟩)
      · subst ho'
        dsimp only at h
        refine x_block_here ?_
        refine x_then ?_
        refine wp_seq ?_
        refine wp_region_lit ?_
        refine st_val hS rfl rfl (by decide) (r_assign rfl (hS.ev_ rfl)) fun a hS => ?_
        refine st_done ?_
        replace hS : Slots 26 [] a [(4, Value.bool (true))] := (hS.part (.cons rfl (.nil _)))
        refine x_then ?_
        refine wp_ret ?_
        have hr' := Option.some.inj h
        subst hr'
        refine ret1 (.inr rfl) hS rfl rfl ?_
        exact ⟨K15, hlK15, hM, rfl⟩
      · subst ho'
        dsimp only at h
        refine x_block_ret ?_
        refine x_then_ret ?_
        have hr' := Option.some.inj h
        subst hr'
        refine ret1 (.inr rfl) hS rfl rfl ?_
        exact ⟨K17, hlK17, hM, rfl⟩

theorem W_Same_c {w0 w : World} {K : Hp} {L : List SP} {p1 : W_Token} {p4 : W_Token} {v2 : Value} {v5 : Value} {r : Bool} (hG : Glob w0) (h : W_Same p1 p4 = some r) (f3 : kW_Piece.sl K v2 p1.f_Pieces) (f6 : kW_Piece.sl K v5 p4.f_Pieces) (hM : Sat w0 w K (L)) :
    Calls Tryd.prog 12 #[Value.agg #[Value.int .i64 (p1.f_Kind), strV (p1.f_Text), Value.int .i64 (p1.f_Number), v2, Value.int .i64 (p1.f_At)], Value.agg #[Value.int .i64 (p4.f_Kind), strV (p4.f_Text), Value.int .i64 (p4.f_Number), v5, Value.int .i64 (p4.f_At)]] w (fun e w' => ∃ (K' : Hp), Hp.le K K' ∧ Sat w0 w' K' (L) ∧ e = .returned (Value.bool (r))) := by
  refine enter_ (n := 31) (args := [Value.agg #[Value.int .i64 (p1.f_Kind), strV (p1.f_Text), Value.int .i64 (p1.f_Number), v2, Value.int .i64 (p1.f_At)], Value.agg #[Value.int .i64 (p4.f_Kind), strV (p4.f_Text), Value.int .i64 (p4.f_Number), v5, Value.int .i64 (p4.f_At)]]) Tryd.func12 rfl rfl (Nat.le_of_ble_eq_true rfl) fun a hS => ?_
  replace hS : Slots 31 [] a [(0, Value.agg #[Value.int .i64 (p1.f_Kind), strV (p1.f_Text), Value.int .i64 (p1.f_Number), v2, Value.int .i64 (p1.f_At)]), (1, Value.agg #[Value.int .i64 (p4.f_Kind), strV (p4.f_Text), Value.int .i64 (p4.f_Number), v5, Value.int .i64 (p4.f_At)])] := hS
  unfold W_Same at h
  refine wp_seq ?_
  refine wp_region_lit ?_
  refine wl_cons rfl (e_box (cs := [Value.int .i64 (p1.f_Kind), strV (p1.f_Text), Value.int .i64 (p1.f_Number), v2, Value.int .i64 (p1.f_At)]) hM rfl (hS.ev_ rfl) rfl fun g7 w hM => ?_)
  refine pl hS rfl (by decide) fun a hS => ?_
  refine wl_cons rfl (e_box (cs := [Value.int .i64 (p4.f_Kind), strV (p4.f_Text), Value.int .i64 (p4.f_Number), v5, Value.int .i64 (p4.f_At)]) hM rfl (hS.ev_ rfl) rfl fun g9 w hM => ?_)
  refine pl hS rfl (by decide) fun a hS => ?_
  refine st_val hS rfl rfl (by decide) (r_assign rfl (hS.ev_ rfl)) fun a hS => ?_
  refine st_done ?_
  replace hS : Slots 31 [] a [(4, Value.bool (false)), (3, Value.pointer (some ⟨g9, 0, none⟩)), (2, Value.pointer (some ⟨g7, 0, none⟩))] := (hS.part (.cons rfl (.cons rfl (.cons rfl (.nil _)))))
  refine x_then ?_
  refine wp_seq ?_
  refine wp_region_lit ?_
  refine st_val hS rfl rfl (by decide) (r_fld_b rfl fo_24_0 (hS.ev_ rfl)) fun a hS => ?_
  replace hM := hM.pull 1 rfl rfl
  refine st_val hS rfl rfl (by decide) (r_ld1_b rfl ag_3 (hS.ev_ rfl) rfl (Rd.of hM)) fun a hS => ?_
  refine st_val hS rfl rfl (by decide) (r_fld_b rfl fo_24_0 (hS.ev_ rfl)) fun a hS => ?_
  replace hM := hM.pull 1 rfl rfl
  refine st_val hS rfl rfl (by decide) (r_ld1_b rfl ag_3 (hS.ev_ rfl) rfl (Rd.of hM)) fun a hS => ?_
  refine st_val hS rfl rfl (by decide) (r_cmp rfl (hS.ev_ rfl) (hS.ev_ rfl) rfl) fun a hS => ?_
  refine st_val hS rfl rfl (by decide) (r_move rfl (hS.ev_ rfl)) fun a hS => ?_
  obtain ⟨x11, h12, h⟩ := bindO h
  refine wl_cut 6 (fun a w => Slots 31 [] a [(2, Value.pointer (some ⟨g7, 0, none⟩)), (3, Value.pointer (some ⟨g9, 0, none⟩)), (4, Value.bool (false)), (16, Value.bool (x11))] ∧ Sat w0 w K (SP.blk g9 24 [Value.int .i64 (p4.f_Kind), strV (p4.f_Text), Value.int .i64 (p4.f_Number), v5, Value.int .i64 (p4.f_At)] :: SP.blk g7 24 [Value.int .i64 (p1.f_Kind), strV (p1.f_Text), Value.int .i64 (p1.f_Number), v2, Value.int .i64 (p1.f_At)] :: L)) ?_ ?_
  ·
    skip
    rcases ifB h12 with ⟨hc13, h12⟩ | ⟨hc13, h12⟩
    ·
      replace hS := hS.known (k := 10) rfl hc13
      refine st_want hS rfl rfl rfl rfl rfl (by decide) (r_fld_b rfl fo_24_1 (hS.ev_ rfl)) fun a hS => ?_
      replace hM := hM.pull 1 rfl rfl
      refine st_want hS rfl rfl rfl rfl rfl (by decide) (r_ld1_b rfl ag_9 (hS.ev_ rfl) rfl (Rd.of hM)) fun a hS => ?_
      refine st_want hS rfl rfl rfl rfl rfl (by decide) (r_fld_b rfl fo_24_1 (hS.ev_ rfl)) fun a hS => ?_
      replace hM := hM.pull 1 rfl rfl
      refine st_want hS rfl rfl rfl rfl rfl (by decide) (r_ld1_b rfl ag_9 (hS.ev_ rfl) rfl (Rd.of hM)) fun a hS => ?_
      refine st_want hS rfl rfl rfl rfl rfl (by decide) (r_seq rfl (hS.ev_ rfl) (hS.ev_ rfl)) fun a hS => ?_
      refine st_val hS rfl rfl (by decide) (r_pick_true rfl (hS.ev_ rfl) rfl (hS.ev_ rfl)) fun a hS => ?_
      refine st_done ?_
      replace hS : Slots 31 [] a [(16, Value.bool (p1.f_Text == p4.f_Text)), (4, Value.bool (false)), (3, Value.pointer (some ⟨g9, 0, none⟩)), (2, Value.pointer (some ⟨g7, 0, none⟩))] := (hS.part (.cons rfl (.cons rfl (.cons rfl (.cons rfl (.nil _))))))
      refine x_then ?_
      obtain rfl := Option.some.inj h12
      exact ⟨(hS.part (.cons rfl (.cons rfl (.cons rfl (.cons rfl (.nil _)))))), ((hM.pull 1 rfl rfl).pull 1 rfl rfl)⟩
    ·
      replace hS := hS.known (k := 10) rfl hc13
      refine st_off hS rfl rfl rfl rfl rfl rfl (by decide) fun a hS => ?_
      refine st_off hS rfl rfl rfl rfl rfl rfl (by decide) fun a hS => ?_
      refine st_off hS rfl rfl rfl rfl rfl rfl (by decide) fun a hS => ?_
      refine st_off hS rfl rfl rfl rfl rfl rfl (by decide) fun a hS => ?_
      refine st_off hS rfl rfl rfl rfl rfl rfl (by decide) fun a hS => ?_
      refine st_val hS rfl rfl (by decide) (r_pick_false rfl (hS.ev_ rfl) rfl (hS.ev_ rfl)) fun a hS => ?_
      refine st_done ?_
      replace hS : Slots 31 [] a [(16, Value.bool (false)), (4, Value.bool (false)), (3, Value.pointer (some ⟨g9, 0, none⟩)), (2, Value.pointer (some ⟨g7, 0, none⟩))] := (hS.part (.cons rfl (.cons rfl (.cons rfl (.cons rfl (.nil _))))))
      refine x_then ?_
      obtain rfl := Option.some.inj h12
      exact ⟨(hS.part (.cons rfl (.cons rfl (.cons rfl (.cons rfl (.nil _)))))), ((hM.pull 1 rfl rfl).pull 1 rfl rfl)⟩
  · rintro a w ⟨hS, hM⟩
    refine st_val hS rfl rfl (by decide) (r_move rfl (hS.ev_ rfl)) fun a hS => ?_
    obtain ⟨x14, h15, h⟩ := bindO h
    refine wl_cut 6 (fun a w => Slots 31 [] a [(2, Value.pointer (some ⟨g7, 0, none⟩)), (3, Value.pointer (some ⟨g9, 0, none⟩)), (4, Value.bool (false)), (23, Value.bool (x14))] ∧ Sat w0 w K (SP.blk g9 24 [Value.int .i64 (p4.f_Kind), strV (p4.f_Text), Value.int .i64 (p4.f_Number), v5, Value.int .i64 (p4.f_At)] :: SP.blk g7 24 [Value.int .i64 (p1.f_Kind), strV (p1.f_Text), Value.int .i64 (p1.f_Number), v2, Value.int .i64 (p1.f_At)] :: L)) ?_ ?_
    ·
      skip
      rcases ifB h15 with ⟨hc16, h15⟩ | ⟨hc16, h15⟩
      ·
        replace hS := hS.known (k := 17) rfl hc16
        refine st_want hS rfl rfl rfl rfl rfl (by decide) (r_fld_b rfl fo_24_2 (hS.ev_ rfl)) fun a hS => ?_
        replace hM := hM.pull 1 rfl rfl
        refine st_want hS rfl rfl rfl rfl rfl (by decide) (r_ld1_b rfl ag_3 (hS.ev_ rfl) rfl (Rd.of hM)) fun a hS => ?_
        refine st_want hS rfl rfl rfl rfl rfl (by decide) (r_fld_b rfl fo_24_2 (hS.ev_ rfl)) fun a hS => ?_
        replace hM := hM.pull 1 rfl rfl
        refine st_want hS rfl rfl rfl rfl rfl (by decide) (r_ld1_b rfl ag_3 (hS.ev_ rfl) rfl (Rd.of hM)) fun a hS => ?_
        refine st_want hS rfl rfl rfl rfl rfl (by decide) (r_cmp rfl (hS.ev_ rfl) (hS.ev_ rfl) rfl) fun a hS => ?_
        refine st_val hS rfl rfl (by decide) (r_pick_true rfl (hS.ev_ rfl) rfl (hS.ev_ rfl)) fun a hS => ?_
        refine st_done ?_
        replace hS : Slots 31 [] a [(23, Value.bool (p1.f_Number == p4.f_Number)), (2, Value.pointer (some ⟨g7, 0, none⟩)), (3, Value.pointer (some ⟨g9, 0, none⟩)), (4, Value.bool (false))] := (hS.part (.cons rfl (.cons rfl (.cons rfl (.cons rfl (.nil _))))))
        refine x_then ?_
        obtain rfl := Option.some.inj h15
        exact ⟨(hS.part (.cons rfl (.cons rfl (.cons rfl (.cons rfl (.nil _)))))), ((hM.pull 1 rfl rfl).pull 1 rfl rfl)⟩
      ·
        replace hS := hS.known (k := 17) rfl hc16
        refine st_off hS rfl rfl rfl rfl rfl rfl (by decide) fun a hS => ?_
        refine st_off hS rfl rfl rfl rfl rfl rfl (by decide) fun a hS => ?_
        refine st_off hS rfl rfl rfl rfl rfl rfl (by decide) fun a hS => ?_
        refine st_off hS rfl rfl rfl rfl rfl rfl (by decide) fun a hS => ?_
        refine st_off hS rfl rfl rfl rfl rfl rfl (by decide) fun a hS => ?_
        refine st_val hS rfl rfl (by decide) (r_pick_false rfl (hS.ev_ rfl) rfl (hS.ev_ rfl)) fun a hS => ?_
        refine st_done ?_
        replace hS : Slots 31 [] a [(23, Value.bool (false)), (2, Value.pointer (some ⟨g7, 0, none⟩)), (3, Value.pointer (some ⟨g9, 0, none⟩)), (4, Value.bool (false))] := (hS.part (.cons rfl (.cons rfl (.cons rfl (.cons rfl (.nil _))))))
        refine x_then ?_
        obtain rfl := Option.some.inj h15
        exact ⟨(hS.part (.cons rfl (.cons rfl (.cons rfl (.cons rfl (.nil _)))))), ((hM.pull 1 rfl rfl).pull 1 rfl rfl)⟩
    · rintro a w ⟨hS, hM⟩
      refine st_val hS rfl rfl (by decide) (r_move rfl (hS.ev_ rfl)) fun a hS => ?_
      obtain ⟨x18, h19, h⟩ := bindO h
      refine wl_cut 6 (fun a w => ∃ (K17 : Hp), Hp.le K K17 ∧ Slots 31 [] a [(4, Value.bool (false)), (30, Value.bool (x18))] ∧ Sat w0 w K17 (SP.blk g9 24 [Value.int .i64 (p4.f_Kind), strV (p4.f_Text), Value.int .i64 (p4.f_Number), v5, Value.int .i64 (p4.f_At)] :: SP.blk g7 24 [Value.int .i64 (p1.f_Kind), strV (p1.f_Text), Value.int .i64 (p1.f_Number), v2, Value.int .i64 (p1.f_At)] :: L)) ?_ ?_
      ·
        skip
        rcases ifB h19 with ⟨hc20, h19⟩ | ⟨hc20, h19⟩
        ·
          replace hS := hS.known (k := 24) rfl hc20
          refine st_want hS rfl rfl rfl rfl rfl (by decide) (r_fld_b rfl fo_24_3 (hS.ev_ rfl)) fun a hS => ?_
          replace hM := hM.pull 1 rfl rfl
          refine st_want hS rfl rfl rfl rfl rfl (by decide) (r_ld1_b rfl ag_22 (hS.ev_ rfl) rfl (Rd.of hM)) fun a hS => ?_
          refine st_want hS rfl rfl rfl rfl rfl (by decide) (r_fld_b rfl fo_24_3 (hS.ev_ rfl)) fun a hS => ?_
          replace hM := hM.pull 1 rfl rfl
          refine st_want hS rfl rfl rfl rfl rfl (by decide) (r_ld1_b rfl ag_22 (hS.ev_ rfl) rfl (Rd.of hM)) fun a hS => ?_
          obtain ⟨y21, h22, h19⟩ := bindO h19
          have hc24 := slices_Equal_W_Piece_W_Piece_c hG h22 f3 f6 hM
          refine g_want hS rfl rfl rfl rfl (e_call rfl Tryd.func27 rfl rfl (args2 (hS.ev_ rfl) (hS.ev_ rfl)) hc24 ?_)
          rintro _ w ⟨K23, hlK23, hM, rfl⟩
          refine ⟨_, rfl, ?_⟩
          refine pl hS rfl (by decide) fun a hS => ?_
          refine st_val hS rfl rfl (by decide) (r_pick_true rfl (hS.ev_ rfl) rfl (hS.ev_ rfl)) fun a hS => ?_
          refine st_done ?_
          replace hS : Slots 31 [] a [(30, Value.bool (y21)), (4, Value.bool (false))] := (hS.part (.cons rfl (.cons rfl (.nil _))))
          refine x_then ?_
          obtain rfl := Option.some.inj h19
          exact ⟨K23, hlK23, (hS.part (.cons rfl (.cons rfl (.nil _)))), ((hM.pull 1 rfl rfl).pull 1 rfl rfl)⟩
        ·
          replace hS := hS.known (k := 24) rfl hc20
          refine st_off hS rfl rfl rfl rfl rfl rfl (by decide) fun a hS => ?_
          refine st_off hS rfl rfl rfl rfl rfl rfl (by decide) fun a hS => ?_
          refine st_off hS rfl rfl rfl rfl rfl rfl (by decide) fun a hS => ?_
          refine st_off hS rfl rfl rfl rfl rfl rfl (by decide) fun a hS => ?_
          refine st_off hS rfl rfl rfl rfl rfl rfl (by decide) fun a hS => ?_
          refine st_val hS rfl rfl (by decide) (r_pick_false rfl (hS.ev_ rfl) rfl (hS.ev_ rfl)) fun a hS => ?_
          refine st_done ?_
          replace hS : Slots 31 [] a [(30, Value.bool (false)), (4, Value.bool (false))] := (hS.part (.cons rfl (.cons rfl (.nil _))))
          refine x_then ?_
          obtain rfl := Option.some.inj h19
          exact ⟨K, (Hp.le.refl _), (hS.part (.cons rfl (.cons rfl (.nil _)))), ((hM.pull 1 rfl rfl).pull 1 rfl rfl)⟩
      · rintro a w ⟨K17, hlK17, hS, hM⟩
        refine st_val hS rfl rfl (by decide) (r_assign rfl (hS.ev_ rfl)) fun a hS => ?_
        refine st_done ?_
        replace hS : Slots 31 [] a [(4, Value.bool (x18))] := (hS.part (.cons rfl (.nil _)))
        refine x_then ?_
        refine wp_ret ?_
        have hr' := Option.some.inj h
        subst hr'
        refine ret1 (.inr rfl) hS rfl rfl ?_
        exact ⟨K17, hlK17, ((hM).tail).tail, rfl⟩

theorem Law_Of_c {w0 w : World} {K : Hp} {L : List SP} {p1 : W_Token} {v2 : Value} {r : R_Token} (hG : Glob w0) (h : Law_Of p1 = some r) (f3 : kW_Piece.sl K v2 p1.f_Pieces) (hM : Sat w0 w K (L)) :
    Calls Tryd.prog 14 #[Value.agg #[Value.int .i64 (p1.f_Kind), strV (p1.f_Text), Value.int .i64 (p1.f_Number), v2, Value.int .i64 (p1.f_At)]] w (fun e w' => ∃ (K' : Hp) (v'1 : Value), Hp.le K K' ∧ Sat w0 w' K' (L) ∧ e = .returned (Value.agg #[Value.int .i64 (r.f_Kind), strV (r.f_Text), Value.int .i64 (r.f_Number), v'1, Value.int .i64 (r.f_At)]) ∧ kR_Piece.sl K' v'1 r.f_Pieces) := by
  refine enter_ (n := 15) (args := [Value.agg #[Value.int .i64 (p1.f_Kind), strV (p1.f_Text), Value.int .i64 (p1.f_Number), v2, Value.int .i64 (p1.f_At)]]) Tryd.func14 rfl rfl (Nat.le_of_ble_eq_true rfl) fun a hS => ?_
  replace hS : Slots 15 [] a [(0, Value.agg #[Value.int .i64 (p1.f_Kind), strV (p1.f_Text), Value.int .i64 (p1.f_Number), v2, Value.int .i64 (p1.f_At)])] := hS
  unfold Law_Of at h
  refine wp_seq ?_
  refine wp_region_lit ?_
  refine wl_cons rfl (e_box (cs := [Value.int .i64 (p1.f_Kind), strV (p1.f_Text), Value.int .i64 (p1.f_Number), v2, Value.int .i64 (p1.f_At)]) hM rfl (hS.ev_ rfl) rfl fun g4 w hM => ?_)
  refine pl hS rfl (by decide) fun a hS => ?_
  refine wl_cons rfl (e_alloc (cs := [Value.int .i64 (0), strV (([] : List UInt8)), Value.int .i64 (0), Value.slice none 0 0, Value.int .i64 (0)]) hM rfl ti_35 rfl fun g6 w hM => ?_)
  refine pl hS rfl (by decide) fun a hS => ?_
  refine st_done ?_
  replace hS : Slots 15 [] a [(2, Value.pointer (some ⟨g6, 0, none⟩)), (1, Value.pointer (some ⟨g4, 0, none⟩))] := (hS.part (.cons rfl (.cons rfl (.nil _))))
  refine x_then ?_
  refine wp_seq ?_
  refine tk_start #[false, false, false, false, false, false, false, false, false, false, false, false, false] mixed_ rfl rfl ?_
  replace hM := hM.drew
  generalize w.drew = w at hM ⊢
  refine dk_any (i := 0) #[true, false, false, false, false, false, false, false, false, false, false, false, false] hS rfl (by kernel_rfl) rfl rfl (by decide) (fun w => r_fld_b rfl fo_24_0 (hS.ev_ rfl)) fun a hS => ?_
  replace hM := hM.pull 1 rfl rfl
  refine dk_val (i := 1) (S := Rd w0 K [SP.blk g4 24 [Value.int .i64 (p1.f_Kind), strV (p1.f_Text), Value.int .i64 (p1.f_Number), v2, Value.int .i64 (p1.f_At)]]) #[true, true, false, false, false, false, false, false, false, false, false, false, false] hS rfl (by kernel_rfl) rfl rfl (by decide) (Rd.of hM.only) (fun w hR => r_ld1_b rfl ag_3 (hS.ev_ rfl) rfl hR) fun a hS => ?_
  refine dk_any (i := 2) #[true, true, true, false, false, false, false, false, false, false, false, false, false] hS rfl (by kernel_rfl) rfl rfl (by decide) (fun w => r_fld_b rfl fo_24_1 (hS.ev_ rfl)) fun a hS => ?_
  refine dk_val (i := 3) (S := Rd w0 K [SP.blk g4 24 [Value.int .i64 (p1.f_Kind), strV (p1.f_Text), Value.int .i64 (p1.f_Number), v2, Value.int .i64 (p1.f_At)]]) #[true, true, true, true, false, false, false, false, false, false, false, false, false] hS rfl (by kernel_rfl) rfl rfl (by decide) (Rd.of hM.only) (fun w hR => r_ld1_b rfl ag_9 (hS.ev_ rfl) rfl hR) fun a hS => ?_
  refine dk_any (i := 4) #[true, true, true, true, true, false, false, false, false, false, false, false, false] hS rfl (by kernel_rfl) rfl rfl (by decide) (fun w => r_fld_b rfl fo_24_2 (hS.ev_ rfl)) fun a hS => ?_
  refine dk_val (i := 5) (S := Rd w0 K [SP.blk g4 24 [Value.int .i64 (p1.f_Kind), strV (p1.f_Text), Value.int .i64 (p1.f_Number), v2, Value.int .i64 (p1.f_At)]]) #[true, true, true, true, true, true, false, false, false, false, false, false, false] hS rfl (by kernel_rfl) rfl rfl (by decide) (Rd.of hM.only) (fun w hR => r_ld1_b rfl ag_3 (hS.ev_ rfl) rfl hR) fun a hS => ?_
  refine dk_any (i := 6) #[true, true, true, true, true, true, true, false, false, false, false, false, false] hS rfl (by kernel_rfl) rfl rfl (by decide) (fun w => r_fld_b rfl fo_24_3 (hS.ev_ rfl)) fun a hS => ?_
  refine dk_val (i := 7) (S := Rd w0 K [SP.blk g4 24 [Value.int .i64 (p1.f_Kind), strV (p1.f_Text), Value.int .i64 (p1.f_Number), v2, Value.int .i64 (p1.f_At)]]) #[true, true, true, true, true, true, true, true, false, false, false, false, false] hS rfl (by kernel_rfl) rfl rfl (by decide) (Rd.of hM.only) (fun w hR => r_ld1_b rfl ag_22 (hS.ev_ rfl) rfl hR) fun a hS => ?_
  refine dk_any (i := 9) #[true, true, true, true, true, true, true, true, false, true, false, false, false] hS rfl (by kernel_rfl) rfl rfl (by decide) (fun w => r_fld_b rfl fo_24_4 (hS.ev_ rfl)) fun a hS => ?_
  refine dk_val (i := 10) (S := Rd w0 K [SP.blk g4 24 [Value.int .i64 (p1.f_Kind), strV (p1.f_Text), Value.int .i64 (p1.f_Number), v2, Value.int .i64 (p1.f_At)]]) #[true, true, true, true, true, true, true, true, false, true, true, false, false] hS rfl (by kernel_rfl) rfl rfl (by decide) (Rd.of hM.only) (fun w hR => r_ld1_b rfl ag_3 (hS.ev_ rfl) rfl hR) fun a hS => ?_
  obtain ⟨y8, h9, h⟩ := bindO h
  have hc11 := Law_Pieces_c hG h9 f3 hM
  refine dk_one (i := 8) #[true, true, true, true, true, true, true, true, true, true, true, false, false] rfl (by kernel_rfl) rfl (e_call rfl Tryd.func7 rfl rfl (args1 (hS.ev_ rfl)) hc11 ?_)
  rintro _ w ⟨K10, v12, hlK10, hM, rfl, f13⟩
  refine ⟨_, rfl, ?_⟩
  refine pT hS rfl (by decide) (Dem.keep (fun _ => Rd.up hlK10 hM.only) (Dem.wait (by kernel_rfl) (Dem.keep (fun _ => Rd.up hlK10 hM.only) (Dem.keep (fun _ => Rd.up hlK10 hM.only) (Dem.keep (fun _ => Rd.up hlK10 hM.only) Dem.nil))))) fun a hS => ?_
  refine dk_any (i := 11) #[true, true, true, true, true, true, true, true, true, true, true, true, false] hS rfl (by kernel_rfl) rfl rfl (by decide) (fun w => r_build (cs := [Value.int .i64 (p1.f_Kind), strV (p1.f_Text), Value.int .i64 (p1.f_Number), v12, Value.int .i64 (p1.f_At)]) rfl (parts_ev hS rfl) (by obtain ⟨_, _, hvv, _⟩ := sl_val f13; rw [hvv]; clear hvv; kernel_rfl)) fun a hS => ?_
  replace hM := hM.pull 1 rfl rfl
  refine dk_one (i := 12) #[true, true, true, true, true, true, true, true, true, true, true, true, true] rfl (by kernel_rfl) rfl (e_storeN (vs := [Value.int .i64 (p1.f_Kind), strV (p1.f_Text), Value.int .i64 (p1.f_Number), v12, Value.int .i64 (p1.f_At)]) hM rfl ti_35 (hS.ev_ rfl) (hS.ev_ rfl) (ones_cons rfl (ones_cons rfl (ones_cons rfl (ones_cons (sl_one f13) (ones_cons rfl ones_nil))))) (Nat.le_of_ble_eq_true rfl) fun w hM => ?_)
  have hM : Sat w0 w K10 (SP.blk g6 35 [Value.int .i64 (p1.f_Kind), strV (p1.f_Text), Value.int .i64 (p1.f_Number), v12, Value.int .i64 (p1.f_At)] :: SP.blk g4 24 [Value.int .i64 (p1.f_Kind), strV (p1.f_Text), Value.int .i64 (p1.f_Number), v2, Value.int .i64 (p1.f_At)] :: L) := hM
  refine pT0 hS rfl (Dem.wait (by kernel_rfl) (Dem.wait (by kernel_rfl) (Dem.wait (by kernel_rfl) (Dem.wait (by kernel_rfl) (Dem.wait (by kernel_rfl) Dem.nil))))) fun a hS => ?_
  refine tk_done (by kernel_rfl) ?_
  replace hS : Slots 15 [] a [(2, Value.pointer (some ⟨g6, 0, none⟩))] := (hS.part (.cons rfl (.nil _)))
  refine x_then ?_
  refine wp_ret ?_
  have hr' := Option.some.inj h
  subst hr'
  refine retR1 (.inr rfl) hS rfl ⟨_, rfl, lv_N (cs' := [Value.int .i64 (p1.f_Kind), strV (p1.f_Text), Value.int .i64 (p1.f_Number), v12, Value.int .i64 (p1.f_At)]) hM ag_35 ti_35 rfl⟩ ?_
  exact ⟨K10, (v12), hlK10, ((hM).tail).tail, rfl, f13⟩

theorem R_Same_c {w0 w : World} {K : Hp} {L : List SP} {p1 : R_Token} {p4 : R_Token} {v2 : Value} {v5 : Value} {r : Bool} (hG : Glob w0) (h : R_Same p1 p4 = some r) (f3 : kR_Piece.sl K v2 p1.f_Pieces) (f6 : kR_Piece.sl K v5 p4.f_Pieces) (hM : Sat w0 w K (L)) :
    Calls Tryd.prog 13 #[Value.agg #[Value.int .i64 (p1.f_Kind), strV (p1.f_Text), Value.int .i64 (p1.f_Number), v2, Value.int .i64 (p1.f_At)], Value.agg #[Value.int .i64 (p4.f_Kind), strV (p4.f_Text), Value.int .i64 (p4.f_Number), v5, Value.int .i64 (p4.f_At)]] w (fun e w' => ∃ (K' : Hp), Hp.le K K' ∧ Sat w0 w' K' (L) ∧ e = .returned (Value.bool (r))) := by
  refine enter_ (n := 51) (args := [Value.agg #[Value.int .i64 (p1.f_Kind), strV (p1.f_Text), Value.int .i64 (p1.f_Number), v2, Value.int .i64 (p1.f_At)], Value.agg #[Value.int .i64 (p4.f_Kind), strV (p4.f_Text), Value.int .i64 (p4.f_Number), v5, Value.int .i64 (p4.f_At)]]) Tryd.func13 rfl rfl (Nat.le_of_ble_eq_true rfl) fun a hS => ?_
  replace hS : Slots 51 [] a [(0, Value.agg #[Value.int .i64 (p1.f_Kind), strV (p1.f_Text), Value.int .i64 (p1.f_Number), v2, Value.int .i64 (p1.f_At)]), (1, Value.agg #[Value.int .i64 (p4.f_Kind), strV (p4.f_Text), Value.int .i64 (p4.f_Number), v5, Value.int .i64 (p4.f_At)])] := hS
  unfold R_Same at h
  refine wp_seq ?_
  refine wp_region_lit ?_
  refine wl_cons rfl (e_box (cs := [Value.int .i64 (p1.f_Kind), strV (p1.f_Text), Value.int .i64 (p1.f_Number), v2, Value.int .i64 (p1.f_At)]) hM rfl (hS.ev_ rfl) rfl fun g7 w hM => ?_)
  refine pl hS rfl (by decide) fun a hS => ?_
  refine wl_cons rfl (e_box (cs := [Value.int .i64 (p4.f_Kind), strV (p4.f_Text), Value.int .i64 (p4.f_Number), v5, Value.int .i64 (p4.f_At)]) hM rfl (hS.ev_ rfl) rfl fun g9 w hM => ?_)
  refine pl hS rfl (by decide) fun a hS => ?_
  refine st_val hS rfl rfl (by decide) (r_assign rfl (hS.ev_ rfl)) fun a hS => ?_
  refine st_done ?_
  replace hS : Slots 51 [] a [(4, Value.bool (false)), (3, Value.pointer (some ⟨g9, 0, none⟩)), (2, Value.pointer (some ⟨g7, 0, none⟩))] := (hS.part (.cons rfl (.cons rfl (.cons rfl (.nil _)))))
  refine x_then ?_
  refine wp_seq ?_
  refine wp_seq ?_
  refine wp_region_lit ?_
  refine st_val hS rfl rfl (by decide) (r_fld_b rfl fo_35_0 (hS.ev_ rfl)) fun a hS => ?_
  replace hM := hM.pull 1 rfl rfl
  refine st_val hS rfl rfl (by decide) (r_ld1_b rfl ag_3 (hS.ev_ rfl) rfl (Rd.of hM)) fun a hS => ?_
  refine st_val hS rfl rfl (by decide) (r_fld_b rfl fo_35_0 (hS.ev_ rfl)) fun a hS => ?_
  replace hM := hM.pull 1 rfl rfl
  refine st_val hS rfl rfl (by decide) (r_ld1_b rfl ag_3 (hS.ev_ rfl) rfl (Rd.of hM)) fun a hS => ?_
  refine st_val hS rfl rfl (by decide) (r_cmp rfl (hS.ev_ rfl) (hS.ev_ rfl) rfl) fun a hS => ?_
  refine st_val hS rfl rfl (by decide) (r_move rfl (hS.ev_ rfl)) fun a hS => ?_
  obtain ⟨x11, h12, h⟩ := bindO h
  refine wl_cut 6 (fun a w => Slots 51 [] a [(2, Value.pointer (some ⟨g7, 0, none⟩)), (3, Value.pointer (some ⟨g9, 0, none⟩)), (4, Value.bool (false)), (18, Value.bool (x11))] ∧ Sat w0 w K (SP.blk g9 35 [Value.int .i64 (p4.f_Kind), strV (p4.f_Text), Value.int .i64 (p4.f_Number), v5, Value.int .i64 (p4.f_At)] :: SP.blk g7 35 [Value.int .i64 (p1.f_Kind), strV (p1.f_Text), Value.int .i64 (p1.f_Number), v2, Value.int .i64 (p1.f_At)] :: L)) ?_ ?_
  ·
    skip
    rcases ifB h12 with ⟨hc13, h12⟩ | ⟨hc13, h12⟩
    ·
      replace hS := hS.known (k := 12) rfl hc13
      refine st_off hS rfl rfl rfl rfl rfl rfl (by decide) fun a hS => ?_
      refine st_off hS rfl rfl rfl rfl rfl rfl (by decide) fun a hS => ?_
      refine st_off hS rfl rfl rfl rfl rfl rfl (by decide) fun a hS => ?_
      refine st_off hS rfl rfl rfl rfl rfl rfl (by decide) fun a hS => ?_
      refine st_off hS rfl rfl rfl rfl rfl rfl (by decide) fun a hS => ?_
      refine st_val hS rfl rfl (by decide) (r_pick_true rfl (hS.ev_ rfl) rfl (hS.ev_ rfl)) fun a hS => ?_
      refine st_done ?_
      replace hS : Slots 51 [] a [(18, Value.bool (true)), (4, Value.bool (false)), (3, Value.pointer (some ⟨g9, 0, none⟩)), (2, Value.pointer (some ⟨g7, 0, none⟩))] := (hS.part (.cons rfl (.cons rfl (.cons rfl (.cons rfl (.nil _))))))
      refine x_then ?_
      obtain rfl := Option.some.inj h12
      exact ⟨(hS.part (.cons rfl (.cons rfl (.cons rfl (.cons rfl (.nil _)))))), ((hM.pull 1 rfl rfl).pull 1 rfl rfl)⟩
    ·
      replace hS := hS.known (k := 12) rfl hc13
      refine st_want hS rfl rfl rfl rfl rfl (by decide) (r_fld_b rfl fo_35_1 (hS.ev_ rfl)) fun a hS => ?_
      replace hM := hM.pull 1 rfl rfl
      refine st_want hS rfl rfl rfl rfl rfl (by decide) (r_ld1_b rfl ag_9 (hS.ev_ rfl) rfl (Rd.of hM)) fun a hS => ?_
      refine st_want hS rfl rfl rfl rfl rfl (by decide) (r_fld_b rfl fo_35_1 (hS.ev_ rfl)) fun a hS => ?_
      replace hM := hM.pull 1 rfl rfl
      refine st_want hS rfl rfl rfl rfl rfl (by decide) (r_ld1_b rfl ag_9 (hS.ev_ rfl) rfl (Rd.of hM)) fun a hS => ?_
      refine st_want hS rfl rfl rfl rfl rfl (by decide) (r_sne rfl (hS.ev_ rfl) (hS.ev_ rfl)) fun a hS => ?_
      refine st_val hS rfl rfl (by decide) (r_pick_false rfl (hS.ev_ rfl) rfl (hS.ev_ rfl)) fun a hS => ?_
      refine st_done ?_
      replace hS : Slots 51 [] a [(18, Value.bool (p1.f_Text != p4.f_Text)), (4, Value.bool (false)), (3, Value.pointer (some ⟨g9, 0, none⟩)), (2, Value.pointer (some ⟨g7, 0, none⟩))] := (hS.part (.cons rfl (.cons rfl (.cons rfl (.cons rfl (.nil _))))))
      refine x_then ?_
      obtain rfl := Option.some.inj h12
      exact ⟨(hS.part (.cons rfl (.cons rfl (.cons rfl (.cons rfl (.nil _)))))), ((hM.pull 1 rfl rfl).pull 1 rfl rfl)⟩
  · rintro a w ⟨hS, hM⟩
    refine st_val hS rfl rfl (by decide) (r_move rfl (hS.ev_ rfl)) fun a hS => ?_
    obtain ⟨x14, h15, h⟩ := bindO h
    refine wl_cut 6 (fun a w => Slots 51 [] a [(2, Value.pointer (some ⟨g7, 0, none⟩)), (3, Value.pointer (some ⟨g9, 0, none⟩)), (4, Value.bool (false)), (25, Value.bool (x14))] ∧ Sat w0 w K (SP.blk g9 35 [Value.int .i64 (p4.f_Kind), strV (p4.f_Text), Value.int .i64 (p4.f_Number), v5, Value.int .i64 (p4.f_At)] :: SP.blk g7 35 [Value.int .i64 (p1.f_Kind), strV (p1.f_Text), Value.int .i64 (p1.f_Number), v2, Value.int .i64 (p1.f_At)] :: L)) ?_ ?_
    ·
      skip
      rcases ifB h15 with ⟨hc16, h15⟩ | ⟨hc16, h15⟩
      ·
        replace hS := hS.known (k := 19) rfl hc16
        refine st_off hS rfl rfl rfl rfl rfl rfl (by decide) fun a hS => ?_
        refine st_off hS rfl rfl rfl rfl rfl rfl (by decide) fun a hS => ?_
        refine st_off hS rfl rfl rfl rfl rfl rfl (by decide) fun a hS => ?_
        refine st_off hS rfl rfl rfl rfl rfl rfl (by decide) fun a hS => ?_
        refine st_off hS rfl rfl rfl rfl rfl rfl (by decide) fun a hS => ?_
        refine st_val hS rfl rfl (by decide) (r_pick_true rfl (hS.ev_ rfl) rfl (hS.ev_ rfl)) fun a hS => ?_
        refine st_done ?_
        replace hS : Slots 51 [] a [(25, Value.bool (true)), (2, Value.pointer (some ⟨g7, 0, none⟩)), (3, Value.pointer (some ⟨g9, 0, none⟩)), (4, Value.bool (false))] := (hS.part (.cons rfl (.cons rfl (.cons rfl (.cons rfl (.nil _))))))
        refine x_then ?_
        obtain rfl := Option.some.inj h15
        exact ⟨(hS.part (.cons rfl (.cons rfl (.cons rfl (.cons rfl (.nil _)))))), ((hM.pull 1 rfl rfl).pull 1 rfl rfl)⟩
      ·
        replace hS := hS.known (k := 19) rfl hc16
        refine st_want hS rfl rfl rfl rfl rfl (by decide) (r_fld_b rfl fo_35_2 (hS.ev_ rfl)) fun a hS => ?_
        replace hM := hM.pull 1 rfl rfl
        refine st_want hS rfl rfl rfl rfl rfl (by decide) (r_ld1_b rfl ag_3 (hS.ev_ rfl) rfl (Rd.of hM)) fun a hS => ?_
        refine st_want hS rfl rfl rfl rfl rfl (by decide) (r_fld_b rfl fo_35_2 (hS.ev_ rfl)) fun a hS => ?_
        replace hM := hM.pull 1 rfl rfl
        refine st_want hS rfl rfl rfl rfl rfl (by decide) (r_ld1_b rfl ag_3 (hS.ev_ rfl) rfl (Rd.of hM)) fun a hS => ?_
        refine st_want hS rfl rfl rfl rfl rfl (by decide) (r_cmp rfl (hS.ev_ rfl) (hS.ev_ rfl) rfl) fun a hS => ?_
        refine st_val hS rfl rfl (by decide) (r_pick_false rfl (hS.ev_ rfl) rfl (hS.ev_ rfl)) fun a hS => ?_
        refine st_done ?_
        replace hS : Slots 51 [] a [(25, Value.bool (p1.f_Number != p4.f_Number)), (2, Value.pointer (some ⟨g7, 0, none⟩)), (3, Value.pointer (some ⟨g9, 0, none⟩)), (4, Value.bool (false))] := (hS.part (.cons rfl (.cons rfl (.cons rfl (.cons rfl (.nil _))))))
        refine x_then ?_
        obtain rfl := Option.some.inj h15
        exact ⟨(hS.part (.cons rfl (.cons rfl (.cons rfl (.cons rfl (.nil _)))))), ((hM.pull 1 rfl rfl).pull 1 rfl rfl)⟩
    · rintro a w ⟨hS, hM⟩
      refine st_val hS rfl rfl (by decide) (r_move rfl (hS.ev_ rfl)) fun a hS => ?_
      obtain ⟨x17, h18, h⟩ := bindO h
      refine wl_cut 8 (fun a w => Slots 51 [] a [(2, Value.pointer (some ⟨g7, 0, none⟩)), (3, Value.pointer (some ⟨g9, 0, none⟩)), (4, Value.bool (false)), (34, Value.bool (x17))] ∧ Sat w0 w K (SP.blk g9 35 [Value.int .i64 (p4.f_Kind), strV (p4.f_Text), Value.int .i64 (p4.f_Number), v5, Value.int .i64 (p4.f_At)] :: SP.blk g7 35 [Value.int .i64 (p1.f_Kind), strV (p1.f_Text), Value.int .i64 (p1.f_Number), v2, Value.int .i64 (p1.f_At)] :: L)) ?_ ?_
      ·
        skip
        rcases ifB h18 with ⟨hc19, h18⟩ | ⟨hc19, h18⟩
        ·
          replace hS := hS.known (k := 26) rfl hc19
          refine st_off hS rfl rfl rfl rfl rfl rfl (by decide) fun a hS => ?_
          refine st_off hS rfl rfl rfl rfl rfl rfl (by decide) fun a hS => ?_
          refine st_off hS rfl rfl rfl rfl rfl rfl (by decide) fun a hS => ?_
          refine st_off hS rfl rfl rfl rfl rfl rfl (by decide) fun a hS => ?_
          refine st_off hS rfl rfl rfl rfl rfl rfl (by decide) fun a hS => ?_
          refine st_off hS rfl rfl rfl rfl rfl rfl (by decide) fun a hS => ?_
          refine st_off hS rfl rfl rfl rfl rfl rfl (by decide) fun a hS => ?_
          refine st_val hS rfl rfl (by decide) (r_pick_true rfl (hS.ev_ rfl) rfl (hS.ev_ rfl)) fun a hS => ?_
          refine st_done ?_
          replace hS : Slots 51 [] a [(34, Value.bool (true)), (2, Value.pointer (some ⟨g7, 0, none⟩)), (3, Value.pointer (some ⟨g9, 0, none⟩)), (4, Value.bool (false))] := (hS.part (.cons rfl (.cons rfl (.cons rfl (.cons rfl (.nil _))))))
          refine x_then ?_
          obtain rfl := Option.some.inj h18
          exact ⟨(hS.part (.cons rfl (.cons rfl (.cons rfl (.cons rfl (.nil _)))))), ((hM.pull 1 rfl rfl).pull 1 rfl rfl)⟩
        ·
          replace hS := hS.known (k := 26) rfl hc19
          refine st_want hS rfl rfl rfl rfl rfl (by decide) (r_fld_b rfl fo_35_3 (hS.ev_ rfl)) fun a hS => ?_
          replace hM := hM.pull 1 rfl rfl
          refine st_want hS rfl rfl rfl rfl rfl (by decide) (r_ld1_b rfl ag_27 (hS.ev_ rfl) rfl (Rd.of hM)) fun a hS => ?_
          refine st_want hS rfl rfl rfl rfl rfl (by decide) (r_len_sl rfl un_27 (hS.ev_ rfl) f3) fun a hS => ?_
          refine st_want hS rfl rfl rfl rfl rfl (by decide) (r_fld_b rfl fo_35_3 (hS.ev_ rfl)) fun a hS => ?_
          replace hM := hM.pull 1 rfl rfl
          refine st_want hS rfl rfl rfl rfl rfl (by decide) (r_ld1_b rfl ag_27 (hS.ev_ rfl) rfl (Rd.of hM)) fun a hS => ?_
          refine st_want hS rfl rfl rfl rfl rfl (by decide) (r_len_sl rfl un_27 (hS.ev_ rfl) f6) fun a hS => ?_
          refine st_want hS rfl rfl rfl rfl rfl (by decide) (r_cmp rfl (hS.ev_ rfl) (hS.ev_ rfl) rfl) fun a hS => ?_
          refine st_val hS rfl rfl (by decide) (r_pick_false rfl (hS.ev_ rfl) rfl (hS.ev_ rfl)) fun a hS => ?_
          refine st_done ?_
          replace hS : Slots 51 [] a [(34, Value.bool (((p1.f_Pieces.length : Int)) != ((p4.f_Pieces.length : Int)))), (2, Value.pointer (some ⟨g7, 0, none⟩)), (3, Value.pointer (some ⟨g9, 0, none⟩)), (4, Value.bool (false))] := (hS.part (.cons rfl (.cons rfl (.cons rfl (.cons rfl (.nil _))))))
          refine x_then ?_
          obtain rfl := Option.some.inj h18
          exact ⟨(hS.part (.cons rfl (.cons rfl (.cons rfl (.cons rfl (.nil _)))))), ((hM.pull 1 rfl rfl).pull 1 rfl rfl)⟩
      · rintro a w ⟨hS, hM⟩
        refine st_done ?_
        replace hS : Slots 51 [] a [(2, Value.pointer (some ⟨g7, 0, none⟩)), (3, Value.pointer (some ⟨g9, 0, none⟩)), (4, Value.bool (false)), (34, Value.bool (x17))] := (hS.part (.cons rfl (.cons rfl (.cons rfl (.cons rfl (.nil _))))))
        refine x_then ?_
        rcases ifB h with ⟨hc20, h⟩ | ⟨hc20, h⟩
        · refine c_cond_true (hS.ev_ rfl) hc20 ?_
          refine wp_seq ?_
          refine wp_region_lit ?_
          refine st_val hS rfl rfl (by decide) (r_assign rfl (hS.ev_ rfl)) fun a hS => ?_
          refine st_done ?_
          replace hS : Slots 51 [] a [(4, Value.bool (false)), (2, Value.pointer (some ⟨g7, 0, none⟩)), (3, Value.pointer (some ⟨g9, 0, none⟩))] := (hS.part (.cons rfl (.cons rfl (.cons rfl (.nil _)))))
          refine x_then ?_
          refine wp_ret ?_
          refine x_then_ret ?_
          have hr' := Option.some.inj h
          subst hr'
          refine ret1 (.inr rfl) hS rfl rfl ?_
          exact ⟨K, (Hp.le.refl _), ((hM).tail).tail, rfl⟩
        · refine c_cond_false (hS.ev_ rfl) hc20 ?_
          refine wp_skip ?_
          refine x_then ?_
          refine wp_seq ?_
          refine wp_seq ?_
          refine wp_region_lit ?_
          refine st_val hS rfl rfl (by decide) (r_fld_b rfl fo_35_3 (hS.ev_ rfl)) fun a hS => ?_
          replace hM := hM.pull 1 rfl rfl
          refine st_val hS rfl rfl (by decide) (r_ld1_b rfl ag_27 (hS.ev_ rfl) rfl (Rd.of hM)) fun a hS => ?_
          refine st_val hS rfl rfl (by decide) (r_len_sl rfl un_27 (hS.ev_ rfl) f3) fun a hS => ?_
          refine st_val hS rfl rfl (by decide) (r_move rfl (hS.ev_ rfl)) fun a hS => ?_
          refine st_done ?_
          replace hS : Slots 51 [] a [(38, Value.int .i64 (0)), (37, Value.int .i64 ((p1.f_Pieces.length : Int))), (36, v2), (3, Value.pointer (some ⟨g9, 0, none⟩)), (4, Value.bool (false))] := (hS.part (.cons rfl (.cons rfl (.cons rfl (.cons rfl (.cons rfl (.nil _)))))))
          refine x_then ?_
          refine wp_block ?_
          obtain ⟨o26, h27, h⟩ := bindO h
          refine c_loop_ways (fun e a w => (e = .exit 0 ∧ ∃ (K28 : Hp) (x29 : Unit), Hp.le K K28 ∧ o26 = Sum.inl x29 ∧ Slots 51 [] a [(4, Value.bool (false))] ∧ Sat w0 w K28 (SP.blk g7 35 [Value.int .i64 (p1.f_Kind), strV (p1.f_Text), Value.int .i64 (p1.f_Number), v2, Value.int .i64 (p1.f_At)] :: SP.blk g9 35 [Value.int .i64 (p4.f_Kind), strV (p4.f_Text), Value.int .i64 (p4.f_Number), v5, Value.int .i64 (p4.f_At)] :: L)) ∨ (e = .ret ∧ ∃ (K30 : Hp) (x31 : Unit), Hp.le K K30 ∧ o26 = Sum.inr x31 ∧ Slots 51 [] a [(4, Value.bool (false))] ∧ Sat w0 w K30 (SP.blk g7 35 [Value.int .i64 (p1.f_Kind), strV (p1.f_Text), Value.int .i64 (p1.f_Number), v2, Value.int .i64 (p1.f_At)] :: SP.blk g9 35 [Value.int .i64 (p4.f_Kind), strV (p4.f_Text), Value.int .i64 (p4.f_Number), v5, Value.int .i64 (p4.f_At)] :: L))) ?_ ?_
          · intro c Q hc hQ
            have key : ∀ (x25 : Int) (r' : Sum Unit Unit), R_Same_l1 p1 p4 x25 = some r' → r' = o26 → ∀ (K24 : Hp) (a : Act) (w : World), Hp.le K K24 → Slots 51 [] a [(38, Value.int .i64 (x25)), (37, Value.int .i64 ((p1.f_Pieces.length : Int))), (36, v2), (3, Value.pointer (some ⟨g9, 0, none⟩)), (4, Value.bool (false))] → Sat w0 w K24 (SP.blk g7 35 [Value.int .i64 (p1.f_Kind), strV (p1.f_Text), Value.int .i64 (p1.f_Number), v2, Value.int .i64 (p1.f_At)] :: SP.blk g9 35 [Value.int .i64 (p4.f_Kind), strV (p4.f_Text), Value.int .i64 (p4.f_Number), v5, Value.int .i64 (p4.f_At)] :: L) → Rnd Tryd.prog c Q a w := by
              refine R_Same_l1.partial_correctness p1 p4 _ ?_
              intro R_Same_l1_rec ih x25 r' h hr K24  a w hlK24 hS hM 
              subst hc
              refine c_round ?_
              refine wp_seq ?_
              refine wp_region_lit ?_
              refine st_val hS rfl rfl (by decide) (r_cmp rfl (hS.ev_ rfl) (hS.ev_ rfl) rfl) fun a hS => ?_
              refine st_done ?_
              replace hS : Slots 51 [] a [(39, Value.bool (decide (x25 < ((p1.f_Pieces.length : Int))))), (38, Value.int .i64 (x25)), (37, Value.int .i64 ((p1.f_Pieces.length : Int))), (36, v2), (3, Value.pointer (some ⟨g9, 0, none⟩)), (4, Value.bool (false))] := (hS.part (.cons rfl (.cons rfl (.cons rfl (.cons rfl (.cons rfl (.cons rfl (.nil _))))))))
              refine x_then ?_
              refine wp_seq ?_
              rcases ifB h with ⟨hc32, h⟩ | ⟨hc32, h⟩
              · refine c_cond_true (hS.ev_ rfl) hc32 ?_
                refine wp_skip ?_
                refine x_then ?_
                refine wp_seq ?_
                refine wp_block ?_
                refine wp_seq ?_
                refine wp_region_lit ?_
                refine st_val hS rfl rfl (by decide) (r_move rfl (hS.ev_ rfl)) fun a hS => ?_
                obtain ⟨e33, h34, h⟩ := bindO h
                obtain ⟨ad35, cp36, cs37, hv38, hr39, h0_40, h1_41, hq42⟩ := sl_at f3 h34 (by decide)
                obtain rfl := kR_Piece_open hr39
                refine st_val hS rfl rfl (by decide) (r_idx_sl rfl un_27 ti_47 (hS.ev_ rfl) hv38 (hS.ev_ rfl) h0_40 h1_41) fun a hS => ?_
                refine st_val hS rfl rfl (by decide) (r_ldN_k (cs' := [strV (e33.f_Var), strV (e33.f_Lit)]) rfl ag_47 ti_47 (hS.ev_ rfl) hq42 rfl (Rd.up hlK24 hM.nil_)) fun a hS => ?_
                refine wl_cons rfl (e_alloc (cs := [strV (([] : List UInt8)), strV (([] : List UInt8))]) hM rfl ti_47 rfl fun g43 w hM => ?_)
                refine pl hS rfl (by decide) fun a hS => ?_
                refine st_val hS rfl rfl (by decide) (r_assign rfl (hS.ev_ rfl)) fun a hS => ?_
                refine wl_cons rfl (e_storeN (vs := [strV (e33.f_Var), strV (e33.f_Lit)]) hM rfl ti_47 (hS.ev_ rfl) (hS.ev_ rfl) (ones_cons rfl (ones_cons rfl ones_nil)) (Nat.le_of_ble_eq_true rfl) fun w hM => ?_)
                have hM : Sat w0 w K24 (SP.blk g43 47 [strV (e33.f_Var), strV (e33.f_Lit)] :: SP.blk g7 35 [Value.int .i64 (p1.f_Kind), strV (p1.f_Text), Value.int .i64 (p1.f_Number), v2, Value.int .i64 (p1.f_At)] :: SP.blk g9 35 [Value.int .i64 (p4.f_Kind), strV (p4.f_Text), Value.int .i64 (p4.f_Number), v5, Value.int .i64 (p4.f_At)] :: L) := hM
                refine pl0 hS rfl fun a hS => ?_
                refine st_done ?_
                replace hS : Slots 51 [] a [(5, Value.int .i64 (x25)), (6, Value.pointer (some ⟨g43, 0, none⟩)), (38, Value.int .i64 (x25)), (37, Value.int .i64 ((p1.f_Pieces.length : Int))), (36, v2), (3, Value.pointer (some ⟨g9, 0, none⟩)), (4, Value.bool (false))] := (hS.part (.cons rfl (.cons rfl (.cons rfl (.cons rfl (.cons rfl (.cons rfl (.cons rfl (.nil _)))))))))
                refine x_then ?_
                refine wp_seq ?_
                refine tk_start #[false, false, false, false, false, false, false] mixed_ rfl rfl ?_
                replace hM := hM.drew
                generalize w.drew = w at hM ⊢
                refine dk_val (i := 0) (S := Rd w0 K24 [SP.blk g43 47 [strV (e33.f_Var), strV (e33.f_Lit)]]) #[true, false, false, false, false, false, false] hS rfl (by kernel_rfl) rfl rfl (by decide) (Rd.of hM.only) (fun w hR => r_ldN_b (cs' := [strV (e33.f_Var), strV (e33.f_Lit)]) rfl ag_47 ti_47 (hS.ev_ rfl) rfl hR) fun a hS => ?_
                refine dk_any (i := 1) #[true, true, false, false, false, false, false] hS rfl (by kernel_rfl) rfl rfl (by decide) (fun w => r_fld_b rfl fo_35_3 (hS.ev_ rfl)) fun a hS => ?_
                replace hM := hM.pull 2 rfl rfl
                refine dk_val (i := 2) (S := Rd w0 K24 [SP.blk g9 35 [Value.int .i64 (p4.f_Kind), strV (p4.f_Text), Value.int .i64 (p4.f_Number), v5, Value.int .i64 (p4.f_At)]]) #[true, true, true, false, false, false, false] hS rfl (by kernel_rfl) rfl rfl (by decide) (Rd.of hM.only) (fun w hR => r_ld1_b rfl ag_27 (hS.ev_ rfl) rfl hR) fun a hS => ?_
                refine dk_any (i := 3) #[true, true, true, true, false, false, false] hS rfl (by kernel_rfl) rfl rfl (by decide) (fun w => r_move rfl (hS.ev_ rfl)) fun a hS => ?_
                obtain ⟨e45, h46, h⟩ := bindO h
                obtain ⟨ad47, cp48, cs49, hv50, hr51, h0_52, h1_53, hq54⟩ := sl_at f6 h46 (by decide)
                obtain rfl := kR_Piece_open hr51
                refine dk_any (i := 4) #[true, true, true, true, true, false, false] hS rfl (by kernel_rfl) rfl rfl (by decide) (fun w => r_idx_sl rfl un_27 ti_47 (hS.ev_ rfl) hv50 (hS.ev_ rfl) h0_52 h1_53) fun a hS => ?_
                refine dk_val (i := 5) (S := Rd w0 K []) #[true, true, true, true, true, true, false] hS rfl (by kernel_rfl) rfl rfl (by decide) (Rd.up hlK24 hM.nil_) (fun w hR => r_ldN_k (cs' := [strV (e45.f_Var), strV (e45.f_Lit)]) rfl ag_47 ti_47 (hS.ev_ rfl) hq54 rfl hR) fun a hS => ?_
                refine dk_any (i := 6) #[true, true, true, true, true, true, true] hS rfl (by kernel_rfl) rfl rfl (by decide) (fun w => r_nest rfl eq_47 (hS.ev_ rfl) (hS.ev_ rfl) (.s (.s .nil))) fun a hS => ?_
                refine tk_done (by kernel_rfl) ?_
                replace hS : Slots 51 [] a [(49, Value.bool (!((e33.f_Var == e45.f_Var) && ((e33.f_Lit == e45.f_Lit) && true)))), (38, Value.int .i64 (x25)), (37, Value.int .i64 ((p1.f_Pieces.length : Int))), (36, v2), (3, Value.pointer (some ⟨g9, 0, none⟩)), (4, Value.bool (false))] := (hS.part (.cons rfl (.cons rfl (.cons rfl (.cons rfl (.cons rfl (.cons rfl (.nil _))))))))
                refine x_then ?_
                rcases ifB h with ⟨hc55, h⟩ | ⟨hc55, h⟩
                · refine c_cond_true (hS.ev_ rfl) hc55 ?_
                  refine wp_seq ?_
                  refine wp_region_lit ?_
                  refine st_val hS rfl rfl (by decide) (r_assign rfl (hS.ev_ rfl)) fun a hS => ?_
                  refine st_done ?_
                  replace hS : Slots 51 [] a [(4, Value.bool (false)), (38, Value.int .i64 (x25)), (37, Value.int .i64 ((p1.f_Pieces.length : Int))), (36, v2), (3, Value.pointer (some ⟨g9, 0, none⟩))] := (hS.part (.cons rfl (.cons rfl (.cons rfl (.cons rfl (.cons rfl (.nil _)))))))
                  refine x_then ?_
                  refine wp_ret ?_
                  refine x_block_ret ?_
                  refine x_then_ret ?_
                  refine x_then_ret ?_
                  have ho' := (Option.some.inj h).trans hr
                  refine hQ _ _ _ ?_
                  exact .inr (⟨rfl, K24, (()), hlK24, ho'.symm, (hS.part (.cons rfl (.nil _))), ((hM.pull 1 rfl rfl).tail.pull 1 rfl rfl)⟩)
                · refine c_cond_false (hS.ev_ rfl) hc55 ?_
                  refine wp_skip ?_
                  refine x_block ?_
                  refine x_then ?_
                  refine wp_region_lit ?_
                  refine st_val hS rfl rfl (by decide) (r_add rfl (hS.ev_ rfl) (hS.ev_ rfl)) fun a hS => ?_
                  refine st_val hS rfl rfl (by decide) (r_move rfl (hS.ev_ rfl)) fun a hS => ?_
                  refine st_done ?_
                  replace hS : Slots 51 [] a [(38, Value.int .i64 (w64 (x25 + 1))), (37, Value.int .i64 ((p1.f_Pieces.length : Int))), (36, v2), (3, Value.pointer (some ⟨g9, 0, none⟩)), (4, Value.bool (false))] := (hS.part (.cons rfl (.cons rfl (.cons rfl (.cons rfl (.cons rfl (.nil _)))))))
                  refine x_then ?_
                  exact ih (w64 (x25 + 1)) _ h hr K24 _ _ hlK24 (hS.part (.cons rfl (.cons rfl (.cons rfl (.cons rfl (.cons rfl (.nil _))))))) (((hM.pull 1 rfl rfl).tail.pull 1 rfl rfl))
              · refine c_cond_false (hS.ev_ rfl) hc32 ?_
                refine wp_exit ?_
                refine x_then_exit ?_
                refine x_then_exit ?_
                have ho' := (Option.some.inj h).trans hr
                refine hQ _ _ _ ?_
                exact .inl ⟨rfl, K24, (()), hlK24, ho'.symm, (hS.part (.cons rfl (.nil _))), ((hM.pull 1 rfl rfl).pull 1 rfl rfl)⟩
            exact key 0 _ h27 rfl K _ _ (Hp.le.refl _) (hS.part (.cons rfl (.cons rfl (.cons rfl (.cons rfl (.cons rfl (.nil _))))))) (((hM.pull 1 rfl rfl).pull 1 rfl rfl))
          · rintro e a w (⟨rfl, K28, x29, hlK28, ho', hS, hM⟩ | ⟨rfl, K30, x31, hlK30, ho', hS, hM⟩)
            · subst ho'
              dsimp only at h
              refine x_block_here ?_
              refine x_then ?_
              refine wp_seq ?_
              refine wp_region_lit ?_
              refine st_val hS rfl rfl (by decide) (r_assign rfl (hS.ev_ rfl)) fun a hS => ?_
              refine st_done ?_
              replace hS : Slots 51 [] a [(4, Value.bool (true))] := (hS.part (.cons rfl (.nil _)))
              refine x_then ?_
              refine wp_ret ?_
              have hr' := Option.some.inj h
              subst hr'
              refine ret1 (.inr rfl) hS rfl rfl ?_
              exact ⟨K28, hlK28, ((hM).tail).tail, rfl⟩
            · subst ho'
              dsimp only at h
              refine x_block_ret ?_
              refine x_then_ret ?_
              have hr' := Option.some.inj h
              subst hr'
              refine ret1 (.inr rfl) hS rfl rfl ?_
              exact ⟨K30, hlK30, ((hM).tail).tail, rfl⟩

theorem Law_WordsPieces_c {w0 w : World} {K : Hp} {L : List SP} {p1 : List W_Piece} {p4 : W_Token} {p7 : W_Token} {v2 : Value} {v5 : Value} {v8 : Value} {r : Bool} (hG : Glob w0) (h : Law_WordsPieces p1 p4 p7 = some r) (f3 : kW_Piece.sl K v2 p1) (f6 : kW_Piece.sl K v5 p4.f_Pieces) (f9 : kW_Piece.sl K v8 p7.f_Pieces) (hM : Sat w0 w K (L)) :
    Calls Tryd.prog 3 #[v2, Value.agg #[Value.int .i64 (p4.f_Kind), strV (p4.f_Text), Value.int .i64 (p4.f_Number), v5, Value.int .i64 (p4.f_At)], Value.agg #[Value.int .i64 (p7.f_Kind), strV (p7.f_Text), Value.int .i64 (p7.f_Number), v8, Value.int .i64 (p7.f_At)]] w (fun e w' => ∃ (K' : Hp), Hp.le K K' ∧ Sat w0 w' K' (L) ∧ e = .returned (Value.bool (r))) := by
  refine enter_ (n := 63) (args := [v2, Value.agg #[Value.int .i64 (p4.f_Kind), strV (p4.f_Text), Value.int .i64 (p4.f_Number), v5, Value.int .i64 (p4.f_At)], Value.agg #[Value.int .i64 (p7.f_Kind), strV (p7.f_Text), Value.int .i64 (p7.f_Number), v8, Value.int .i64 (p7.f_At)]]) Tryd.func3 rfl rfl (Nat.le_of_ble_eq_true rfl) fun a hS => ?_
  replace hS : Slots 63 [] a [(0, v2), (1, Value.agg #[Value.int .i64 (p4.f_Kind), strV (p4.f_Text), Value.int .i64 (p4.f_Number), v5, Value.int .i64 (p4.f_At)]), (2, Value.agg #[Value.int .i64 (p7.f_Kind), strV (p7.f_Text), Value.int .i64 (p7.f_Number), v8, Value.int .i64 (p7.f_At)])] := hS
  unfold Law_WordsPieces at h
  refine wp_seq ?_
  refine wp_region_lit ?_
  refine wl_cons rfl (e_box (cs := [Value.int .i64 (p4.f_Kind), strV (p4.f_Text), Value.int .i64 (p4.f_Number), v5, Value.int .i64 (p4.f_At)]) hM rfl (hS.ev_ rfl) rfl fun g10 w hM => ?_)
  refine pl hS rfl (by decide) fun a hS => ?_
  refine wl_cons rfl (e_box (cs := [Value.int .i64 (p7.f_Kind), strV (p7.f_Text), Value.int .i64 (p7.f_Number), v8, Value.int .i64 (p7.f_At)]) hM rfl (hS.ev_ rfl) rfl fun g12 w hM => ?_)
  refine pl hS rfl (by decide) fun a hS => ?_
  refine st_val hS rfl rfl (by decide) (r_assign rfl (hS.ev_ rfl)) fun a hS => ?_
  refine st_done ?_
  replace hS : Slots 63 [] a [(6, Value.bool (false)), (5, Value.pointer (some ⟨g12, 0, none⟩)), (4, Value.pointer (some ⟨g10, 0, none⟩)), (0, v2)] := (hS.part (.cons rfl (.cons rfl (.cons rfl (.cons rfl (.nil _))))))
  refine x_then ?_
  refine wp_seq ?_
  refine wp_seq ?_
  refine wp_region_lit ?_
  obtain ⟨y14, h15, h⟩ := bindO h
  have hc17 := Law_alive_c hG h15 hM
  refine wl_cons rfl (e_call rfl Tryd.func5 rfl rfl (args0 ) hc17 ?_)
  rintro _ w ⟨K16, hlK16, hM, rfl⟩
  refine ⟨_, rfl, ?_⟩
  refine pl hS rfl (by decide) fun a hS => ?_
  refine st_val hS rfl rfl (by decide) (r_not rfl (hS.ev_ rfl)) fun a hS => ?_
  refine st_done ?_
  replace hS : Slots 63 [] a [(10, Value.bool (!y14)), (6, Value.bool (false)), (5, Value.pointer (some ⟨g12, 0, none⟩)), (4, Value.pointer (some ⟨g10, 0, none⟩)), (0, v2)] := (hS.part (.cons rfl (.cons rfl (.cons rfl (.cons rfl (.cons rfl (.nil _)))))))
  refine x_then ?_
  rcases ifB h with ⟨hc18, h⟩ | ⟨hc18, h⟩
  · refine c_cond_true (hS.ev_ rfl) hc18 ?_
    refine wp_seq ?_
    refine wp_region_lit ?_
    refine st_val hS rfl rfl (by decide) (r_assign rfl (hS.ev_ rfl)) fun a hS => ?_
    refine st_done ?_
    replace hS : Slots 63 [] a [(6, Value.bool (false)), (5, Value.pointer (some ⟨g12, 0, none⟩)), (4, Value.pointer (some ⟨g10, 0, none⟩)), (0, v2)] := (hS.part (.cons rfl (.cons rfl (.cons rfl (.cons rfl (.nil _))))))
    refine x_then ?_
    refine wp_ret ?_
    refine x_then_ret ?_
    have hr' := Option.some.inj h
    subst hr'
    refine ret1 (.inr rfl) hS rfl rfl ?_
    exact ⟨K16, hlK16, ((hM).tail).tail, rfl⟩
  · refine c_cond_false (hS.ev_ rfl) hc18 ?_
    refine wp_skip ?_
    refine x_then ?_
    refine wp_seq ?_
    refine wp_seq ?_
    refine wp_region_lit ?_
    refine st_val hS rfl rfl (by decide) (r_move rfl (hS.ev_ rfl)) fun a hS => ?_
    obtain ⟨y19, h20, h⟩ := bindO h
    have hc22 := Law_long_c hG h20 (Kd.sl_mono hlK16 f3) hM
    refine wl_cons rfl (e_call rfl Tryd.func6 rfl rfl (args1 (hS.ev_ rfl)) hc22 ?_)
    rintro _ w ⟨K21, hlK21, hM, rfl⟩
    refine ⟨_, rfl, ?_⟩
    refine pl hS rfl (by decide) fun a hS => ?_
    refine st_val hS rfl rfl (by decide) (r_move rfl (hS.ev_ rfl)) fun a hS => ?_
    obtain ⟨x24, h25, h⟩ := bindO h
    refine wl_cut 4 (fun a w => ∃ (K23 : Hp), Hp.le K21 K23 ∧ Slots 63 [] a [(0, v2), (4, Value.pointer (some ⟨g10, 0, none⟩)), (5, Value.pointer (some ⟨g12, 0, none⟩)), (6, Value.bool (false)), (17, Value.bool (x24))] ∧ Sat w0 w K23 (SP.blk g12 24 [Value.int .i64 (p7.f_Kind), strV (p7.f_Text), Value.int .i64 (p7.f_Number), v8, Value.int .i64 (p7.f_At)] :: SP.blk g10 24 [Value.int .i64 (p4.f_Kind), strV (p4.f_Text), Value.int .i64 (p4.f_Number), v5, Value.int .i64 (p4.f_At)] :: L)) ?_ ?_
    ·
      skip
      rcases ifB h25 with ⟨hc26, h25⟩ | ⟨hc26, h25⟩
      ·
        replace hS := hS.known (k := 13) rfl hc26
        refine st_off hS rfl rfl rfl rfl rfl rfl (by decide) fun a hS => ?_
        refine st_off hS rfl rfl rfl rfl rfl rfl (by decide) fun a hS => ?_
        refine st_off hS rfl rfl rfl rfl rfl rfl (by decide) fun a hS => ?_
        refine st_val hS rfl rfl (by decide) (r_pick_true rfl (hS.ev_ rfl) rfl (hS.ev_ rfl)) fun a hS => ?_
        refine st_done ?_
        replace hS : Slots 63 [] a [(17, Value.bool (true)), (6, Value.bool (false)), (5, Value.pointer (some ⟨g12, 0, none⟩)), (4, Value.pointer (some ⟨g10, 0, none⟩)), (0, v2)] := (hS.part (.cons rfl (.cons rfl (.cons rfl (.cons rfl (.cons rfl (.nil _)))))))
        refine x_then ?_
        obtain rfl := Option.some.inj h25
        exact ⟨K21, (Hp.le.refl _), (hS.part (.cons rfl (.cons rfl (.cons rfl (.cons rfl (.cons rfl (.nil _))))))), ((hM.pull 1 rfl rfl).pull 1 rfl rfl)⟩
      ·
        replace hS := hS.known (k := 13) rfl hc26
        refine st_want hS rfl rfl rfl rfl rfl (by decide) (r_fld_b rfl fo_24_3 (hS.ev_ rfl)) fun a hS => ?_
        replace hM := hM.pull 1 rfl rfl
        refine st_want hS rfl rfl rfl rfl rfl (by decide) (r_ld1_b rfl ag_22 (hS.ev_ rfl) rfl (Rd.of hM)) fun a hS => ?_
        obtain ⟨y27, h28, h25⟩ := bindO h25
        have hc30 := Law_long_c hG h28 (Kd.sl_mono (hlK16.trans hlK21) f6) hM
        refine g_want hS rfl rfl rfl rfl (e_call rfl Tryd.func6 rfl rfl (args1 (hS.ev_ rfl)) hc30 ?_)
        rintro _ w ⟨K29, hlK29, hM, rfl⟩
        refine ⟨_, rfl, ?_⟩
        refine pl hS rfl (by decide) fun a hS => ?_
        refine st_val hS rfl rfl (by decide) (r_pick_false rfl (hS.ev_ rfl) rfl (hS.ev_ rfl)) fun a hS => ?_
        refine st_done ?_
        replace hS : Slots 63 [] a [(17, Value.bool (y27)), (6, Value.bool (false)), (5, Value.pointer (some ⟨g12, 0, none⟩)), (4, Value.pointer (some ⟨g10, 0, none⟩)), (0, v2)] := (hS.part (.cons rfl (.cons rfl (.cons rfl (.cons rfl (.cons rfl (.nil _)))))))
        refine x_then ?_
        obtain rfl := Option.some.inj h25
        exact ⟨K29, hlK29, (hS.part (.cons rfl (.cons rfl (.cons rfl (.cons rfl (.cons rfl (.nil _))))))), (hM.pull 1 rfl rfl)⟩
    · rintro a w ⟨K23, hlK23, hS, hM⟩
      refine st_val hS rfl rfl (by decide) (r_move rfl (hS.ev_ rfl)) fun a hS => ?_
      obtain ⟨x32, h33, h⟩ := bindO h
      refine wl_cut 4 (fun a w => ∃ (K31 : Hp), Hp.le K23 K31 ∧ Slots 63 [] a [(0, v2), (4, Value.pointer (some ⟨g10, 0, none⟩)), (5, Value.pointer (some ⟨g12, 0, none⟩)), (6, Value.bool (false)), (22, Value.bool (x32))] ∧ Sat w0 w K31 (SP.blk g12 24 [Value.int .i64 (p7.f_Kind), strV (p7.f_Text), Value.int .i64 (p7.f_Number), v8, Value.int .i64 (p7.f_At)] :: SP.blk g10 24 [Value.int .i64 (p4.f_Kind), strV (p4.f_Text), Value.int .i64 (p4.f_Number), v5, Value.int .i64 (p4.f_At)] :: L)) ?_ ?_
      ·
        skip
        rcases ifB h33 with ⟨hc34, h33⟩ | ⟨hc34, h33⟩
        ·
          replace hS := hS.known (k := 18) rfl hc34
          refine st_off hS rfl rfl rfl rfl rfl rfl (by decide) fun a hS => ?_
          refine st_off hS rfl rfl rfl rfl rfl rfl (by decide) fun a hS => ?_
          refine st_off hS rfl rfl rfl rfl rfl rfl (by decide) fun a hS => ?_
          refine st_val hS rfl rfl (by decide) (r_pick_true rfl (hS.ev_ rfl) rfl (hS.ev_ rfl)) fun a hS => ?_
          refine st_done ?_
          replace hS : Slots 63 [] a [(22, Value.bool (true)), (0, v2), (4, Value.pointer (some ⟨g10, 0, none⟩)), (5, Value.pointer (some ⟨g12, 0, none⟩)), (6, Value.bool (false))] := (hS.part (.cons rfl (.cons rfl (.cons rfl (.cons rfl (.cons rfl (.nil _)))))))
          refine x_then ?_
          obtain rfl := Option.some.inj h33
          exact ⟨K23, (Hp.le.refl _), (hS.part (.cons rfl (.cons rfl (.cons rfl (.cons rfl (.cons rfl (.nil _))))))), ((hM.pull 1 rfl rfl).pull 1 rfl rfl)⟩
        ·
          replace hS := hS.known (k := 18) rfl hc34
          refine st_want hS rfl rfl rfl rfl rfl (by decide) (r_fld_b rfl fo_24_3 (hS.ev_ rfl)) fun a hS => ?_
          refine st_want hS rfl rfl rfl rfl rfl (by decide) (r_ld1_b rfl ag_22 (hS.ev_ rfl) rfl (Rd.of hM)) fun a hS => ?_
          obtain ⟨y35, h36, h33⟩ := bindO h33
          have hc38 := Law_long_c hG h36 (Kd.sl_mono ((hlK16.trans hlK21).trans hlK23) f9) hM
          refine g_want hS rfl rfl rfl rfl (e_call rfl Tryd.func6 rfl rfl (args1 (hS.ev_ rfl)) hc38 ?_)
          rintro _ w ⟨K37, hlK37, hM, rfl⟩
          refine ⟨_, rfl, ?_⟩
          refine pl hS rfl (by decide) fun a hS => ?_
          refine st_val hS rfl rfl (by decide) (r_pick_false rfl (hS.ev_ rfl) rfl (hS.ev_ rfl)) fun a hS => ?_
          refine st_done ?_
          replace hS : Slots 63 [] a [(22, Value.bool (y35)), (0, v2), (4, Value.pointer (some ⟨g10, 0, none⟩)), (5, Value.pointer (some ⟨g12, 0, none⟩)), (6, Value.bool (false))] := (hS.part (.cons rfl (.cons rfl (.cons rfl (.cons rfl (.cons rfl (.nil _)))))))
          refine x_then ?_
          obtain rfl := Option.some.inj h33
          exact ⟨K37, hlK37, (hS.part (.cons rfl (.cons rfl (.cons rfl (.cons rfl (.cons rfl (.nil _))))))), ((hM.pull 1 rfl rfl).pull 1 rfl rfl)⟩
      · rintro a w ⟨K31, hlK31, hS, hM⟩
        refine st_val hS rfl rfl (by decide) (r_move rfl (hS.ev_ rfl)) fun a hS => ?_
        obtain ⟨x39, h40, h⟩ := bindO h
        refine wl_cut 5 (fun a w => Slots 63 [] a [(0, v2), (4, Value.pointer (some ⟨g10, 0, none⟩)), (5, Value.pointer (some ⟨g12, 0, none⟩)), (6, Value.bool (false)), (28, Value.bool (x39))] ∧ Sat w0 w K31 (SP.blk g12 24 [Value.int .i64 (p7.f_Kind), strV (p7.f_Text), Value.int .i64 (p7.f_Number), v8, Value.int .i64 (p7.f_At)] :: SP.blk g10 24 [Value.int .i64 (p4.f_Kind), strV (p4.f_Text), Value.int .i64 (p4.f_Number), v5, Value.int .i64 (p4.f_At)] :: L)) ?_ ?_
        ·
          skip
          rcases ifB h40 with ⟨hc41, h40⟩ | ⟨hc41, h40⟩
          ·
            replace hS := hS.known (k := 23) rfl hc41
            refine st_off hS rfl rfl rfl rfl rfl rfl (by decide) fun a hS => ?_
            refine st_off hS rfl rfl rfl rfl rfl rfl (by decide) fun a hS => ?_
            refine st_off hS rfl rfl rfl rfl rfl rfl (by decide) fun a hS => ?_
            refine st_off hS rfl rfl rfl rfl rfl rfl (by decide) fun a hS => ?_
            refine st_val hS rfl rfl (by decide) (r_pick_true rfl (hS.ev_ rfl) rfl (hS.ev_ rfl)) fun a hS => ?_
            refine st_done ?_
            replace hS : Slots 63 [] a [(28, Value.bool (true)), (0, v2), (4, Value.pointer (some ⟨g10, 0, none⟩)), (5, Value.pointer (some ⟨g12, 0, none⟩)), (6, Value.bool (false))] := (hS.part (.cons rfl (.cons rfl (.cons rfl (.cons rfl (.cons rfl (.nil _)))))))
            refine x_then ?_
            obtain rfl := Option.some.inj h40
            exact ⟨(hS.part (.cons rfl (.cons rfl (.cons rfl (.cons rfl (.cons rfl (.nil _))))))), ((hM.pull 1 rfl rfl).pull 1 rfl rfl)⟩
          ·
            replace hS := hS.known (k := 23) rfl hc41
            refine st_want hS rfl rfl rfl rfl rfl (by decide) (r_fld_b rfl fo_24_1 (hS.ev_ rfl)) fun a hS => ?_
            replace hM := hM.pull 1 rfl rfl
            refine st_want hS rfl rfl rfl rfl rfl (by decide) (r_ld1_b rfl ag_9 (hS.ev_ rfl) rfl (Rd.of hM)) fun a hS => ?_
            refine st_want hS rfl rfl rfl rfl rfl (by decide) (r_len_str rfl un_9 (hS.ev_ rfl)) fun a hS => ?_
            refine st_want hS rfl rfl rfl rfl rfl (by decide) (r_cmp rfl (hS.ev_ rfl) (hS.ev_ rfl) rfl) fun a hS => ?_
            refine st_val hS rfl rfl (by decide) (r_pick_false rfl (hS.ev_ rfl) rfl (hS.ev_ rfl)) fun a hS => ?_
            refine st_done ?_
            replace hS : Slots 63 [] a [(28, Value.bool (decide (((p4.f_Text.length : Int)) > 200))), (0, v2), (4, Value.pointer (some ⟨g10, 0, none⟩)), (5, Value.pointer (some ⟨g12, 0, none⟩)), (6, Value.bool (false))] := (hS.part (.cons rfl (.cons rfl (.cons rfl (.cons rfl (.cons rfl (.nil _)))))))
            refine x_then ?_
            obtain rfl := Option.some.inj h40
            exact ⟨(hS.part (.cons rfl (.cons rfl (.cons rfl (.cons rfl (.cons rfl (.nil _))))))), (hM.pull 1 rfl rfl)⟩
        · rintro a w ⟨hS, hM⟩
          refine st_val hS rfl rfl (by decide) (r_move rfl (hS.ev_ rfl)) fun a hS => ?_
          obtain ⟨x42, h43, h⟩ := bindO h
          refine wl_cut 5 (fun a w => Slots 63 [] a [(0, v2), (4, Value.pointer (some ⟨g10, 0, none⟩)), (5, Value.pointer (some ⟨g12, 0, none⟩)), (6, Value.bool (false)), (34, Value.bool (x42))] ∧ Sat w0 w K31 (SP.blk g12 24 [Value.int .i64 (p7.f_Kind), strV (p7.f_Text), Value.int .i64 (p7.f_Number), v8, Value.int .i64 (p7.f_At)] :: SP.blk g10 24 [Value.int .i64 (p4.f_Kind), strV (p4.f_Text), Value.int .i64 (p4.f_Number), v5, Value.int .i64 (p4.f_At)] :: L)) ?_ ?_
          ·
            skip
            rcases ifB h43 with ⟨hc44, h43⟩ | ⟨hc44, h43⟩
            ·
              replace hS := hS.known (k := 29) rfl hc44
              refine st_off hS rfl rfl rfl rfl rfl rfl (by decide) fun a hS => ?_
              refine st_off hS rfl rfl rfl rfl rfl rfl (by decide) fun a hS => ?_
              refine st_off hS rfl rfl rfl rfl rfl rfl (by decide) fun a hS => ?_
              refine st_off hS rfl rfl rfl rfl rfl rfl (by decide) fun a hS => ?_
              refine st_val hS rfl rfl (by decide) (r_pick_true rfl (hS.ev_ rfl) rfl (hS.ev_ rfl)) fun a hS => ?_
              refine st_done ?_
              replace hS : Slots 63 [] a [(34, Value.bool (true)), (0, v2), (4, Value.pointer (some ⟨g10, 0, none⟩)), (5, Value.pointer (some ⟨g12, 0, none⟩)), (6, Value.bool (false))] := (hS.part (.cons rfl (.cons rfl (.cons rfl (.cons rfl (.cons rfl (.nil _)))))))
              refine x_then ?_
              obtain rfl := Option.some.inj h43
              exact ⟨(hS.part (.cons rfl (.cons rfl (.cons rfl (.cons rfl (.cons rfl (.nil _))))))), ((hM.pull 1 rfl rfl).pull 1 rfl rfl)⟩
            ·
              replace hS := hS.known (k := 29) rfl hc44
              refine st_want hS rfl rfl rfl rfl rfl (by decide) (r_fld_b rfl fo_24_1 (hS.ev_ rfl)) fun a hS => ?_
              refine st_want hS rfl rfl rfl rfl rfl (by decide) (r_ld1_b rfl ag_9 (hS.ev_ rfl) rfl (Rd.of hM)) fun a hS => ?_
              refine st_want hS rfl rfl rfl rfl rfl (by decide) (r_len_str rfl un_9 (hS.ev_ rfl)) fun a hS => ?_
              refine st_want hS rfl rfl rfl rfl rfl (by decide) (r_cmp rfl (hS.ev_ rfl) (hS.ev_ rfl) rfl) fun a hS => ?_
              refine st_val hS rfl rfl (by decide) (r_pick_false rfl (hS.ev_ rfl) rfl (hS.ev_ rfl)) fun a hS => ?_
              refine st_done ?_
              replace hS : Slots 63 [] a [(34, Value.bool (decide (((p7.f_Text.length : Int)) > 200))), (0, v2), (4, Value.pointer (some ⟨g10, 0, none⟩)), (5, Value.pointer (some ⟨g12, 0, none⟩)), (6, Value.bool (false))] := (hS.part (.cons rfl (.cons rfl (.cons rfl (.cons rfl (.cons rfl (.nil _)))))))
              refine x_then ?_
              obtain rfl := Option.some.inj h43
              exact ⟨(hS.part (.cons rfl (.cons rfl (.cons rfl (.cons rfl (.cons rfl (.nil _))))))), ((hM.pull 1 rfl rfl).pull 1 rfl rfl)⟩
          · rintro a w ⟨hS, hM⟩
            refine st_done ?_
            replace hS : Slots 63 [] a [(0, v2), (4, Value.pointer (some ⟨g10, 0, none⟩)), (5, Value.pointer (some ⟨g12, 0, none⟩)), (6, Value.bool (false)), (34, Value.bool (x42))] := (hS.part (.cons rfl (.cons rfl (.cons rfl (.cons rfl (.cons rfl (.nil _)))))))
            refine x_then ?_
            rcases ifB h with ⟨hc45, h⟩ | ⟨hc45, h⟩
            · refine c_cond_true (hS.ev_ rfl) hc45 ?_
              refine wp_seq ?_
              refine wp_region_lit ?_
              refine st_val hS rfl rfl (by decide) (r_assign rfl (hS.ev_ rfl)) fun a hS => ?_
              refine st_done ?_
              replace hS : Slots 63 [] a [(6, Value.bool (true)), (0, v2), (4, Value.pointer (some ⟨g10, 0, none⟩)), (5, Value.pointer (some ⟨g12, 0, none⟩))] := (hS.part (.cons rfl (.cons rfl (.cons rfl (.cons rfl (.nil _))))))
              refine x_then ?_
              refine wp_ret ?_
              refine x_then_ret ?_
              have hr' := Option.some.inj h
              subst hr'
              refine ret1 (.inr rfl) hS rfl rfl ?_
              exact ⟨K31, (((hlK16.trans hlK21).trans hlK23).trans hlK31), ((hM).tail).tail, rfl⟩
            · refine c_cond_false (hS.ev_ rfl) hc45 ?_
              refine wp_skip ?_
              refine x_then ?_
              refine wp_seq ?_
              refine wp_region_lit ?_
              refine st_val hS rfl rfl (by decide) (r_move rfl (hS.ev_ rfl)) fun a hS => ?_
              obtain ⟨y46, h47, h⟩ := bindO h
              have hc49 := Law_Pieces_c hG h47 (Kd.sl_mono (((hlK16.trans hlK21).trans hlK23).trans hlK31) f3) hM
              refine wl_cons rfl (e_call rfl Tryd.func7 rfl rfl (args1 (hS.ev_ rfl)) hc49 ?_)
              rintro _ w ⟨K48, v50, hlK48, hM, rfl, f51⟩
              refine ⟨_, rfl, ?_⟩
              refine pl hS rfl (by decide) fun a hS => ?_
              refine st_val hS rfl rfl (by decide) (r_assign rfl (hS.ev_ rfl)) fun a hS => ?_
              refine st_done ?_
              replace hS : Slots 63 [] a [(7, v50), (0, v2), (4, Value.pointer (some ⟨g10, 0, none⟩)), (5, Value.pointer (some ⟨g12, 0, none⟩)), (6, Value.bool (false))] := (hS.part (.cons rfl (.cons rfl (.cons rfl (.cons rfl (.cons rfl (.nil _)))))))
              refine x_then ?_
              refine wp_seq ?_
              refine wp_region_lit ?_
              refine st_val hS rfl rfl (by decide) (r_assign rfl (hS.ev_ (v := strV (([] : List UInt8))) rfl)) fun a hS => ?_
              refine st_done ?_
              replace hS : Slots 63 [] a [(8, strV (([] : List UInt8))), (7, v50), (0, v2), (4, Value.pointer (some ⟨g10, 0, none⟩)), (5, Value.pointer (some ⟨g12, 0, none⟩)), (6, Value.bool (false))] := (hS.part (.cons rfl (.cons rfl (.cons rfl (.cons rfl (.cons rfl (.cons rfl (.nil _))))))))
              refine x_then ?_
              obtain ⟨x53, h54, h⟩ := bindO h
              refine c_cut (fun a w => ∃ (K52 : Hp), Hp.le K48 K52 ∧ Slots 63 [] a [(0, v2), (4, Value.pointer (some ⟨g10, 0, none⟩)), (5, Value.pointer (some ⟨g12, 0, none⟩)), (6, Value.bool (false)), (7, v50), (8, strV (x53))] ∧ Sat w0 w K52 (SP.blk g12 24 [Value.int .i64 (p7.f_Kind), strV (p7.f_Text), Value.int .i64 (p7.f_Number), v8, Value.int .i64 (p7.f_At)] :: SP.blk g10 24 [Value.int .i64 (p4.f_Kind), strV (p4.f_Text), Value.int .i64 (p4.f_Number), v5, Value.int .i64 (p4.f_At)] :: L)) ?_ ?_
              ·
                refine wp_seq ?_
                refine wp_region_lit ?_
                refine st_val hS rfl rfl (by decide) (r_move rfl (hS.ev_ rfl)) fun a hS => ?_
                obtain ⟨y55, h56, h54⟩ := bindO h54
                have hc58 := R_Right_c hG h56 f51 hM
                refine wl_cons rfl (e_call rfl Tryd.func8 rfl rfl (args1 (hS.ev_ rfl)) hc58 ?_)
                rintro _ w ⟨K57, hlK57, hM, rfl⟩
                refine ⟨_, rfl, ?_⟩
                refine pl hS rfl (by decide) fun a hS => ?_
                refine st_done ?_
                replace hS : Slots 63 [] a [(38, Value.bool (y55)), (8, strV (([] : List UInt8))), (7, v50), (0, v2), (4, Value.pointer (some ⟨g10, 0, none⟩)), (5, Value.pointer (some ⟨g12, 0, none⟩)), (6, Value.bool (false))] := (hS.part (.cons rfl (.cons rfl (.cons rfl (.cons rfl (.cons rfl (.cons rfl (.cons rfl (.nil _)))))))))
                refine x_then ?_
                rcases ifB h54 with ⟨hc59, h54⟩ | ⟨hc59, h54⟩
                · refine c_cond_true (hS.ev_ rfl) hc59 ?_
                  refine wp_region_lit ?_
                  refine st_val hS rfl rfl (by decide) (r_move rfl (hS.ev_ rfl)) fun a hS => ?_
                  obtain ⟨y60, h61, h54⟩ := bindO h54
                  have hc63 := R_Quote_c hG h61 (Kd.sl_mono hlK57 f51) hM
                  refine wl_cons rfl (e_call rfl Tryd.func9 rfl rfl (args1 (hS.ev_ rfl)) hc63 ?_)
                  rintro _ w ⟨K62, hlK62, hM, rfl⟩
                  refine ⟨_, rfl, ?_⟩
                  refine pl hS rfl (by decide) fun a hS => ?_
                  refine st_val hS rfl rfl (by decide) (r_assign rfl (hS.ev_ rfl)) fun a hS => ?_
                  refine st_done ?_
                  replace hS : Slots 63 [] a [(8, strV (y60)), (7, v50), (0, v2), (4, Value.pointer (some ⟨g10, 0, none⟩)), (5, Value.pointer (some ⟨g12, 0, none⟩)), (6, Value.bool (false))] := (hS.part (.cons rfl (.cons rfl (.cons rfl (.cons rfl (.cons rfl (.cons rfl (.nil _))))))))
                  refine x_then ?_
                  obtain rfl := Option.some.inj h54
                  exact ⟨K62, (hlK57.trans hlK62), (hS.part (.cons rfl (.cons rfl (.cons rfl (.cons rfl (.cons rfl (.cons rfl (.nil _)))))))), ((hM.pull 1 rfl rfl).pull 1 rfl rfl)⟩
                · refine c_cond_false (hS.ev_ rfl) hc59 ?_
                  refine wp_skip ?_
                  refine x_then ?_
                  obtain rfl := Option.some.inj h54
                  exact ⟨K57, hlK57, (hS.part (.cons rfl (.cons rfl (.cons rfl (.cons rfl (.cons rfl (.cons rfl (.nil _)))))))), ((hM.pull 1 rfl rfl).pull 1 rfl rfl)⟩
              · rintro a w ⟨K52, hlK52, hS, hM⟩
                obtain ⟨x65, h66, h⟩ := bindO h
                refine c_cut (fun a w => ∃ (K64 : Hp), Hp.le K52 K64 ∧ Slots 63 [] a [(6, Value.bool (x65))] ∧ Sat w0 w K64 (SP.blk g12 24 [Value.int .i64 (p7.f_Kind), strV (p7.f_Text), Value.int .i64 (p7.f_Number), v8, Value.int .i64 (p7.f_At)] :: SP.blk g10 24 [Value.int .i64 (p4.f_Kind), strV (p4.f_Text), Value.int .i64 (p4.f_Number), v5, Value.int .i64 (p4.f_At)] :: L)) ?_ ?_
                ·
                  refine tk_start #[false, false, false, false, false, false, false, false, false, false, false, false, false, false, false, false, false, false, false, false, false, false, false] mixed_ rfl rfl ?_
                  replace hM := hM.drew
                  generalize w.drew = w at hM ⊢
                  refine dk_any (i := 0) #[true, false, false, false, false, false, false, false, false, false, false, false, false, false, false, false, false, false, false, false, false, false, false] hS rfl (by kernel_rfl) rfl rfl (by decide) (fun w => r_move rfl (hS.ev_ rfl)) fun a hS => ?_
                  refine dk_any (i := 2) #[true, false, true, false, false, false, false, false, false, false, false, false, false, false, false, false, false, false, false, false, false, false, false] hS rfl (by kernel_rfl) rfl rfl (by decide) (fun w => r_move rfl (hS.ev_ rfl)) fun a hS => ?_
                  obtain ⟨y67, h68, h66⟩ := bindO h66
                  have hc70 := W_Right_c hG h68 (Kd.sl_mono (((((hlK16.trans hlK21).trans hlK23).trans hlK31).trans hlK48).trans hlK52) f3) hM
                  refine dk_one (i := 1) #[true, true, true, false, false, false, false, false, false, false, false, false, false, false, false, false, false, false, false, false, false, false, false] rfl (by kernel_rfl) rfl (e_call rfl Tryd.func10 rfl rfl (args1 (hS.ev_ rfl)) hc70 ?_)
                  rintro _ w ⟨K69, hlK69, hM, rfl⟩
                  refine ⟨_, rfl, ?_⟩
                  refine pT hS rfl (by decide) Dem.nil fun a hS => ?_
                  obtain ⟨y71, h72, h66⟩ := bindO h66
                  have hc74 := R_Right_c hG h72 (Kd.sl_mono (hlK52.trans hlK69) f51) hM
                  refine dk_one (i := 3) #[true, true, true, true, false, false, false, false, false, false, false, false, false, false, false, false, false, false, false, false, false, false, false] rfl (by kernel_rfl) rfl (e_call rfl Tryd.func8 rfl rfl (args1 (hS.ev_ rfl)) hc74 ?_)
                  rintro _ w ⟨K73, hlK73, hM, rfl⟩
                  refine ⟨_, rfl, ?_⟩
                  refine pT hS rfl (by decide) Dem.nil fun a hS => ?_
                  refine dk_any (i := 4) #[true, true, true, true, true, false, false, false, false, false, false, false, false, false, false, false, false, false, false, false, false, false, false] hS rfl (by kernel_rfl) rfl rfl (by decide) (fun w => r_beq rfl un_4 (hS.ev_ rfl) (hS.ev_ rfl)) fun a hS => ?_
                  refine dk_any (i := 5) #[true, true, true, true, true, true, false, false, false, false, false, false, false, false, false, false, false, false, false, false, false, false, false] hS rfl (by kernel_rfl) rfl rfl (by decide) (fun w => r_move rfl (hS.ev_ rfl)) fun a hS => ?_
                  rcases ifB h66 with ⟨hc75, h66⟩ | ⟨hc75, h66⟩
                  ·
                    replace hS := hS.known (k := 46) rfl hc75
                    refine dk_want (i := 6) (S := Rd w0 K73 []) #[true, true, true, true, true, true, true, false, false, false, false, false, false, false, false, false, false, false, false, false, false, false, false] hS rfl (by kernel_rfl) rfl rfl rfl rfl rfl (by decide) (Rd.of hM.nil_) (fun w hR => r_move rfl (hS.ev_ rfl)) fun a hS => ?_
                    refine dk_want (i := 8) (S := Rd w0 K73 []) #[true, true, true, true, true, true, true, false, true, false, false, false, false, false, false, false, false, false, false, false, false, false, false] hS rfl (by kernel_rfl) rfl rfl rfl rfl rfl (by decide) (Rd.of hM.nil_) (fun w hR => r_move rfl (hS.ev_ rfl)) fun a hS => ?_
                    obtain ⟨y76, h77, h66⟩ := bindO h66
                    have hc79 := W_Quote_c hG h77 (Kd.sl_mono (((((((hlK16.trans hlK21).trans hlK23).trans hlK31).trans hlK48).trans hlK52).trans hlK69).trans hlK73) f3) hM
                    refine dk_onew (i := 7) #[true, true, true, true, true, true, true, true, true, false, false, false, false, false, false, false, false, false, false, false, false, false, false] hS rfl (by kernel_rfl) rfl rfl rfl rfl (e_call rfl Tryd.func11 rfl rfl (args1 (hS.ev_ rfl)) hc79 ?_)
                    rintro _ w ⟨K78, hlK78, hM, rfl⟩
                    refine ⟨_, rfl, ?_⟩
                    refine pT hS rfl (by decide) (Dem.keep (fun _ => Rd.up hlK78 hM.nil_) (Dem.wait (by kernel_rfl) Dem.nil)) fun a hS => ?_
                    refine dk_want (i := 9) (S := Rd w0 K78 []) #[true, true, true, true, true, true, true, true, true, true, false, false, false, false, false, false, false, false, false, false, false, false, false] hS rfl (by kernel_rfl) rfl rfl rfl rfl rfl (by decide) (Rd.of hM.nil_) (fun w hR => r_seq rfl (hS.ev_ rfl) (hS.ev_ rfl)) fun a hS => ?_
                    refine dk_any (i := 10) #[true, true, true, true, true, true, true, true, true, true, true, false, false, false, false, false, false, false, false, false, false, false, false] hS rfl (by kernel_rfl) rfl rfl (by decide) (fun w => r_pick_true rfl (hS.ev_ rfl) rfl (hS.ev_ rfl)) fun a hS => ?_
                    refine dk_any (i := 11) #[true, true, true, true, true, true, true, true, true, true, true, true, false, false, false, false, false, false, false, false, false, false, false] hS rfl (by kernel_rfl) rfl rfl (by decide) (fun w => r_move rfl (hS.ev_ rfl)) fun a hS => ?_
                    rcases ifB h66 with ⟨hc80, h66⟩ | ⟨hc80, h66⟩
                    ·
                      replace hS := hS.known (k := 52) rfl hc80
                      replace hM := hM.pull 1 rfl rfl
                      refine dk_want (i := 12) (S := Rd w0 K78 [SP.blk g10 24 [Value.int .i64 (p4.f_Kind), strV (p4.f_Text), Value.int .i64 (p4.f_Number), v5, Value.int .i64 (p4.f_At)]]) #[true, true, true, true, true, true, true, true, true, true, true, true, true, false, false, false, false, false, false, false, false, false, false] hS rfl (by kernel_rfl) rfl rfl rfl rfl rfl (by decide) (Rd.of hM.only) (fun w hR => r_ldN_b (cs' := [Value.int .i64 (p4.f_Kind), strV (p4.f_Text), Value.int .i64 (p4.f_Number), v5, Value.int .i64 (p4.f_At)]) rfl ag_24 ti_24 (hS.ev_ rfl) rfl hR) fun a hS => ?_
                      replace hM := hM.pull 1 rfl rfl
                      refine dk_want (i := 13) (S := Rd w0 K78 [SP.blk g12 24 [Value.int .i64 (p7.f_Kind), strV (p7.f_Text), Value.int .i64 (p7.f_Number), v8, Value.int .i64 (p7.f_At)]]) #[true, true, true, true, true, true, true, true, true, true, true, true, true, true, false, false, false, false, false, false, false, false, false] hS rfl (by kernel_rfl) rfl rfl rfl rfl rfl (by decide) (Rd.of hM.only) (fun w hR => r_ldN_b (cs' := [Value.int .i64 (p7.f_Kind), strV (p7.f_Text), Value.int .i64 (p7.f_Number), v8, Value.int .i64 (p7.f_At)]) rfl ag_24 ti_24 (hS.ev_ rfl) rfl hR) fun a hS => ?_
                      replace hM := hM.pull 1 rfl rfl
                      refine dk_want (i := 15) (S := Rd w0 K78 [SP.blk g10 24 [Value.int .i64 (p4.f_Kind), strV (p4.f_Text), Value.int .i64 (p4.f_Number), v5, Value.int .i64 (p4.f_At)]]) #[true, true, true, true, true, true, true, true, true, true, true, true, true, true, false, true, false, false, false, false, false, false, false] hS rfl (by kernel_rfl) rfl rfl rfl rfl rfl (by decide) (Rd.of hM.only) (fun w hR => r_ldN_b (cs' := [Value.int .i64 (p4.f_Kind), strV (p4.f_Text), Value.int .i64 (p4.f_Number), v5, Value.int .i64 (p4.f_At)]) rfl ag_24 ti_24 (hS.ev_ rfl) rfl hR) fun a hS => ?_
                      replace hM := hM.pull 1 rfl rfl
                      refine dk_want (i := 17) (S := Rd w0 K78 [SP.blk g12 24 [Value.int .i64 (p7.f_Kind), strV (p7.f_Text), Value.int .i64 (p7.f_Number), v8, Value.int .i64 (p7.f_At)]]) #[true, true, true, true, true, true, true, true, true, true, true, true, true, true, false, true, false, true, false, false, false, false, false] hS rfl (by kernel_rfl) rfl rfl rfl rfl rfl (by decide) (Rd.of hM.only) (fun w hR => r_ldN_b (cs' := [Value.int .i64 (p7.f_Kind), strV (p7.f_Text), Value.int .i64 (p7.f_Number), v8, Value.int .i64 (p7.f_At)]) rfl ag_24 ti_24 (hS.ev_ rfl) rfl hR) fun a hS => ?_
                      obtain ⟨y81, h82, h66⟩ := bindO h66
                      have hc84 := W_Same_c hG h82 (Kd.sl_mono ((((((((hlK16.trans hlK21).trans hlK23).trans hlK31).trans hlK48).trans hlK52).trans hlK69).trans hlK73).trans hlK78) f6) (Kd.sl_mono ((((((((hlK16.trans hlK21).trans hlK23).trans hlK31).trans hlK48).trans hlK52).trans hlK69).trans hlK73).trans hlK78) f9) hM
                      refine dk_onew (i := 14) #[true, true, true, true, true, true, true, true, true, true, true, true, true, true, true, true, false, true, false, false, false, false, false] hS rfl (by kernel_rfl) rfl rfl rfl rfl (e_call rfl Tryd.func12 rfl rfl (args2 (hS.ev_ rfl) (hS.ev_ rfl)) hc84 ?_)
                      rintro _ w ⟨K83, hlK83, hM, rfl⟩
                      refine ⟨_, rfl, ?_⟩
                      refine pT hS rfl (by decide) (Dem.keep (fun _ => Rd.up hlK83 hM.only) (Dem.keep (fun _ => Rd.up hlK83 (hM.pull 1 rfl rfl).only) (Dem.wait (by kernel_rfl) (Dem.wait (by kernel_rfl) (Dem.wait (by kernel_rfl) (Dem.wait (by kernel_rfl) (Dem.wait (by kernel_rfl) Dem.nil))))))) fun a hS => ?_
                      obtain ⟨y85, h86, h66⟩ := bindO h66
                      have hc88 := Law_Of_c hG h86 (Kd.sl_mono (((((((((hlK16.trans hlK21).trans hlK23).trans hlK31).trans hlK48).trans hlK52).trans hlK69).trans hlK73).trans hlK78).trans hlK83) f6) hM
                      refine dk_onew (i := 16) #[true, true, true, true, true, true, true, true, true, true, true, true, true, true, true, true, true, true, false, false, false, false, false] hS rfl (by kernel_rfl) rfl rfl rfl rfl (e_call rfl Tryd.func14 rfl rfl (args1 (hS.ev_ rfl)) hc88 ?_)
                      rintro _ w ⟨K87, v89, hlK87, hM, rfl, f90⟩
                      refine ⟨_, rfl, ?_⟩
                      refine pT hS rfl (by decide) (Dem.keep (fun _ => Rd.up (hlK83.trans hlK87) hM.only) (Dem.wait (by kernel_rfl) (Dem.wait (by kernel_rfl) (Dem.wait (by kernel_rfl) (Dem.wait (by kernel_rfl) (Dem.wait (by kernel_rfl) (Dem.wait (by kernel_rfl) Dem.nil))))))) fun a hS => ?_
                      obtain ⟨y91, h92, h66⟩ := bindO h66
                      have hc94 := Law_Of_c hG h92 (Kd.sl_mono ((((((((((hlK16.trans hlK21).trans hlK23).trans hlK31).trans hlK48).trans hlK52).trans hlK69).trans hlK73).trans hlK78).trans hlK83).trans hlK87) f9) hM
                      refine dk_onew (i := 18) #[true, true, true, true, true, true, true, true, true, true, true, true, true, true, true, true, true, true, true, false, false, false, false] hS rfl (by kernel_rfl) rfl rfl rfl rfl (e_call rfl Tryd.func14 rfl rfl (args1 (hS.ev_ rfl)) hc94 ?_)
                      rintro _ w ⟨K93, v95, hlK93, hM, rfl, f96⟩
                      refine ⟨_, rfl, ?_⟩
                      refine pT hS rfl (by decide) (Dem.wait (by kernel_rfl) (Dem.wait (by kernel_rfl) (Dem.wait (by kernel_rfl) (Dem.wait (by kernel_rfl) (Dem.wait (by kernel_rfl) (Dem.wait (by kernel_rfl) (Dem.wait (by kernel_rfl) Dem.nil))))))) fun a hS => ?_
                      obtain ⟨y97, h98, h66⟩ := bindO h66
                      have hc100 := R_Same_c hG h98 (Kd.sl_mono hlK93 f90) f96 hM
                      refine dk_onew (i := 19) #[true, true, true, true, true, true, true, true, true, true, true, true, true, true, true, true, true, true, true, true, false, false, false] hS rfl (by kernel_rfl) rfl rfl rfl rfl (e_call rfl Tryd.func13 rfl rfl (args2 (hS.ev_ rfl) (hS.ev_ rfl)) hc100 ?_)
                      rintro _ w ⟨K99, hlK99, hM, rfl⟩
                      refine ⟨_, rfl, ?_⟩
                      refine pT hS rfl (by decide) (Dem.wait (by kernel_rfl) (Dem.wait (by kernel_rfl) (Dem.wait (by kernel_rfl) (Dem.wait (by kernel_rfl) (Dem.wait (by kernel_rfl) (Dem.wait (by kernel_rfl) (Dem.wait (by kernel_rfl) Dem.nil))))))) fun a hS => ?_
                      refine dk_want (i := 20) (S := Rd w0 K99 []) #[true, true, true, true, true, true, true, true, true, true, true, true, true, true, true, true, true, true, true, true, true, false, false] hS rfl (by kernel_rfl) rfl rfl rfl rfl rfl (by decide) (Rd.of hM.nil_) (fun w hR => r_beq rfl un_4 (hS.ev_ rfl) (hS.ev_ rfl)) fun a hS => ?_
                      refine dk_any (i := 21) #[true, true, true, true, true, true, true, true, true, true, true, true, true, true, true, true, true, true, true, true, true, true, false] hS rfl (by kernel_rfl) rfl rfl (by decide) (fun w => r_pick_true rfl (hS.ev_ rfl) rfl (hS.ev_ rfl)) fun a hS => ?_
                      refine dk_any (i := 22) #[true, true, true, true, true, true, true, true, true, true, true, true, true, true, true, true, true, true, true, true, true, true, true] hS rfl (by kernel_rfl) rfl rfl (by decide) (fun w => r_assign rfl (hS.ev_ rfl)) fun a hS => ?_
                      refine tk_done (by kernel_rfl) ?_
                      replace hS : Slots 63 [] a [(6, Value.bool (y81 == y97))] := (hS.part (.cons rfl (.nil _)))
                      refine x_then ?_
                      obtain rfl := Option.some.inj h66
                      exact ⟨K99, ((((((hlK69.trans hlK73).trans hlK78).trans hlK83).trans hlK87).trans hlK93).trans hlK99), (hS.part (.cons rfl (.nil _))), ((hM.pull 1 rfl rfl).pull 1 rfl rfl)⟩
                    ·
                      replace hS := hS.known (k := 52) rfl hc80
                      refine dk_off (i := 12) (Rd w0 K78 []) #[true, true, true, true, true, true, true, true, true, true, true, true, true, false, false, false, false, false, false, false, false, false, false] hS rfl (by kernel_rfl) rfl rfl rfl rfl (.inl rfl) rfl (by decide) (Rd.of hM.nil_) fun a hS => ?_
                      refine dk_off (i := 13) (Rd w0 K78 []) #[true, true, true, true, true, true, true, true, true, true, true, true, true, true, false, false, false, false, false, false, false, false, false] hS rfl (by kernel_rfl) rfl rfl rfl rfl (.inl rfl) rfl (by decide) (Rd.of hM.nil_) fun a hS => ?_
                      refine dk_off (i := 14) (Rd w0 K78 []) #[true, true, true, true, true, true, true, true, true, true, true, true, true, true, true, false, false, false, false, false, false, false, false] hS rfl (by kernel_rfl) rfl rfl rfl rfl (.inl rfl) rfl (by decide) (Rd.of hM.nil_) fun a hS => ?_
                      refine dk_off (i := 15) (Rd w0 K78 []) #[true, true, true, true, true, true, true, true, true, true, true, true, true, true, true, true, false, false, false, false, false, false, false] hS rfl (by kernel_rfl) rfl rfl rfl rfl (.inl rfl) rfl (by decide) (Rd.of hM.nil_) fun a hS => ?_
                      refine dk_off (i := 16) (Rd w0 K78 []) #[true, true, true, true, true, true, true, true, true, true, true, true, true, true, true, true, true, false, false, false, false, false, false] hS rfl (by kernel_rfl) rfl rfl rfl rfl (.inl rfl) rfl (by decide) (Rd.of hM.nil_) fun a hS => ?_
                      refine dk_off (i := 17) (Rd w0 K78 []) #[true, true, true, true, true, true, true, true, true, true, true, true, true, true, true, true, true, true, false, false, false, false, false] hS rfl (by kernel_rfl) rfl rfl rfl rfl (.inl rfl) rfl (by decide) (Rd.of hM.nil_) fun a hS => ?_
                      refine dk_off (i := 18) (Rd w0 K78 []) #[true, true, true, true, true, true, true, true, true, true, true, true, true, true, true, true, true, true, true, false, false, false, false] hS rfl (by kernel_rfl) rfl rfl rfl rfl (.inl rfl) rfl (by decide) (Rd.of hM.nil_) fun a hS => ?_
                      refine dk_off (i := 19) (Rd w0 K78 []) #[true, true, true, true, true, true, true, true, true, true, true, true, true, true, true, true, true, true, true, true, false, false, false] hS rfl (by kernel_rfl) rfl rfl rfl rfl (.inl rfl) rfl (by decide) (Rd.of hM.nil_) fun a hS => ?_
                      refine dk_off (i := 20) (Rd w0 K78 []) #[true, true, true, true, true, true, true, true, true, true, true, true, true, true, true, true, true, true, true, true, true, false, false] hS rfl (by kernel_rfl) rfl rfl rfl rfl (.inl rfl) rfl (by decide) (Rd.of hM.nil_) fun a hS => ?_
                      refine dk_any (i := 21) #[true, true, true, true, true, true, true, true, true, true, true, true, true, true, true, true, true, true, true, true, true, true, false] hS rfl (by kernel_rfl) rfl rfl (by decide) (fun w => r_pick_false rfl (hS.ev_ rfl) rfl (hS.ev_ rfl)) fun a hS => ?_
                      refine dk_any (i := 22) #[true, true, true, true, true, true, true, true, true, true, true, true, true, true, true, true, true, true, true, true, true, true, true] hS rfl (by kernel_rfl) rfl rfl (by decide) (fun w => r_assign rfl (hS.ev_ rfl)) fun a hS => ?_
                      refine tk_done (by kernel_rfl) ?_
                      replace hS : Slots 63 [] a [(6, Value.bool (false))] := (hS.part (.cons rfl (.nil _)))
                      refine x_then ?_
                      obtain rfl := Option.some.inj h66
                      exact ⟨K78, ((hlK69.trans hlK73).trans hlK78), (hS.part (.cons rfl (.nil _))), ((hM.pull 1 rfl rfl).pull 1 rfl rfl)⟩
                  ·
                    replace hS := hS.known (k := 46) rfl hc75
                    refine dk_off (i := 6) (Rd w0 K73 []) #[true, true, true, true, true, true, true, false, false, false, false, false, false, false, false, false, false, false, false, false, false, false, false] hS rfl (by kernel_rfl) rfl rfl rfl rfl (.inl rfl) rfl (by decide) (Rd.of hM.nil_) fun a hS => ?_
                    refine dk_off (i := 7) (Rd w0 K73 []) #[true, true, true, true, true, true, true, true, false, false, false, false, false, false, false, false, false, false, false, false, false, false, false] hS rfl (by kernel_rfl) rfl rfl rfl rfl (.inl rfl) rfl (by decide) (Rd.of hM.nil_) fun a hS => ?_
                    refine dk_off (i := 8) (Rd w0 K73 []) #[true, true, true, true, true, true, true, true, true, false, false, false, false, false, false, false, false, false, false, false, false, false, false] hS rfl (by kernel_rfl) rfl rfl rfl rfl (.inl rfl) rfl (by decide) (Rd.of hM.nil_) fun a hS => ?_
                    refine dk_off (i := 9) (Rd w0 K73 []) #[true, true, true, true, true, true, true, true, true, true, false, false, false, false, false, false, false, false, false, false, false, false, false] hS rfl (by kernel_rfl) rfl rfl rfl rfl (.inl rfl) rfl (by decide) (Rd.of hM.nil_) fun a hS => ?_
                    refine dk_any (i := 10) #[true, true, true, true, true, true, true, true, true, true, true, false, false, false, false, false, false, false, false, false, false, false, false] hS rfl (by kernel_rfl) rfl rfl (by decide) (fun w => r_pick_false rfl (hS.ev_ rfl) rfl (hS.ev_ rfl)) fun a hS => ?_
                    refine dk_any (i := 11) #[true, true, true, true, true, true, true, true, true, true, true, true, false, false, false, false, false, false, false, false, false, false, false] hS rfl (by kernel_rfl) rfl rfl (by decide) (fun w => r_move rfl (hS.ev_ rfl)) fun a hS => ?_
                    refine dk_off (i := 12) (Rd w0 K73 []) #[true, true, true, true, true, true, true, true, true, true, true, true, true, false, false, false, false, false, false, false, false, false, false] hS rfl (by kernel_rfl) rfl rfl rfl rfl (.inl rfl) rfl (by decide) (Rd.of hM.nil_) fun a hS => ?_
                    refine dk_off (i := 13) (Rd w0 K73 []) #[true, true, true, true, true, true, true, true, true, true, true, true, true, true, false, false, false, false, false, false, false, false, false] hS rfl (by kernel_rfl) rfl rfl rfl rfl (.inl rfl) rfl (by decide) (Rd.of hM.nil_) fun a hS => ?_
                    refine dk_off (i := 14) (Rd w0 K73 []) #[true, true, true, true, true, true, true, true, true, true, true, true, true, true, true, false, false, false, false, false, false, false, false] hS rfl (by kernel_rfl) rfl rfl rfl rfl (.inl rfl) rfl (by decide) (Rd.of hM.nil_) fun a hS => ?_
                    refine dk_off (i := 15) (Rd w0 K73 []) #[true, true, true, true, true, true, true, true, true, true, true, true, true, true, true, true, false, false, false, false, false, false, false] hS rfl (by kernel_rfl) rfl rfl rfl rfl (.inl rfl) rfl (by decide) (Rd.of hM.nil_) fun a hS => ?_
                    refine dk_off (i := 16) (Rd w0 K73 []) #[true, true, true, true, true, true, true, true, true, true, true, true, true, true, true, true, true, false, false, false, false, false, false] hS rfl (by kernel_rfl) rfl rfl rfl rfl (.inl rfl) rfl (by decide) (Rd.of hM.nil_) fun a hS => ?_
                    refine dk_off (i := 17) (Rd w0 K73 []) #[true, true, true, true, true, true, true, true, true, true, true, true, true, true, true, true, true, true, false, false, false, false, false] hS rfl (by kernel_rfl) rfl rfl rfl rfl (.inl rfl) rfl (by decide) (Rd.of hM.nil_) fun a hS => ?_
                    refine dk_off (i := 18) (Rd w0 K73 []) #[true, true, true, true, true, true, true, true, true, true, true, true, true, true, true, true, true, true, true, false, false, false, false] hS rfl (by kernel_rfl) rfl rfl rfl rfl (.inl rfl) rfl (by decide) (Rd.of hM.nil_) fun a hS => ?_
                    refine dk_off (i := 19) (Rd w0 K73 []) #[true, true, true, true, true, true, true, true, true, true, true, true, true, true, true, true, true, true, true, true, false, false, false] hS rfl (by kernel_rfl) rfl rfl rfl rfl (.inl rfl) rfl (by decide) (Rd.of hM.nil_) fun a hS => ?_
                    refine dk_off (i := 20) (Rd w0 K73 []) #[true, true, true, true, true, true, true, true, true, true, true, true, true, true, true, true, true, true, true, true, true, false, false] hS rfl (by kernel_rfl) rfl rfl rfl rfl (.inl rfl) rfl (by decide) (Rd.of hM.nil_) fun a hS => ?_
                    refine dk_any (i := 21) #[true, true, true, true, true, true, true, true, true, true, true, true, true, true, true, true, true, true, true, true, true, true, false] hS rfl (by kernel_rfl) rfl rfl (by decide) (fun w => r_pick_false rfl (hS.ev_ rfl) rfl (hS.ev_ rfl)) fun a hS => ?_
                    refine dk_any (i := 22) #[true, true, true, true, true, true, true, true, true, true, true, true, true, true, true, true, true, true, true, true, true, true, true] hS rfl (by kernel_rfl) rfl rfl (by decide) (fun w => r_assign rfl (hS.ev_ rfl)) fun a hS => ?_
                    refine tk_done (by kernel_rfl) ?_
                    replace hS : Slots 63 [] a [(6, Value.bool (false))] := (hS.part (.cons rfl (.nil _)))
                    refine x_then ?_
                    obtain rfl := Option.some.inj h66
                    exact ⟨K73, (hlK69.trans hlK73), (hS.part (.cons rfl (.nil _))), ((hM.pull 1 rfl rfl).pull 1 rfl rfl)⟩
                · rintro a w ⟨K64, hlK64, hS, hM⟩
                  refine wp_ret ?_
                  have hr' := Option.some.inj h
                  subst hr'
                  refine ret1 (.inr rfl) hS rfl rfl ?_
                  exact ⟨K64, ((((((hlK16.trans hlK21).trans hlK23).trans hlK31).trans hlK48).trans hlK52).trans hlK64), ((hM).tail).tail, rfl⟩

theorem Law_WordsBack_c {w0 w : World} {K : Hp} {L : List SP} {p1 : List W_Piece} {p4 : Int} {v2 : Value} {r : Bool} (hG : Glob w0) (h : Law_WordsBack p1 p4 = some r) (f3 : kW_Piece.sl K v2 p1) (hM : Sat w0 w K (L)) :
    Calls Tryd.prog 4 #[v2, Value.int .i64 (p4)] w (fun e w' => ∃ (K' : Hp), Hp.le K K' ∧ Sat w0 w' K' (L) ∧ e = .returned (Value.bool (r))) := by
  refine enter_ (n := 72) (args := [v2, Value.int .i64 (p4)]) Tryd.func4 rfl rfl (Nat.le_of_ble_eq_true rfl) fun a hS => ?_
  replace hS : Slots 72 [] a [(0, v2), (1, Value.int .i64 (p4))] := hS
  unfold Law_WordsBack at h
  refine wp_seq ?_
  refine wp_region_lit ?_
  refine st_val hS rfl rfl (by decide) (r_assign rfl (hS.ev_ rfl)) fun a hS => ?_
  refine st_done ?_
  replace hS : Slots 72 [] a [(4, Value.bool (false)), (0, v2), (1, Value.int .i64 (p4))] := (hS.part (.cons rfl (.cons rfl (.cons rfl (.nil _)))))
  refine x_then ?_
  refine wp_seq ?_
  refine wp_seq ?_
  refine wp_region_lit ?_
  obtain ⟨y5, h6, h⟩ := bindO h
  have hc8 := Law_alive_c hG h6 hM
  refine wl_cons rfl (e_call rfl Tryd.func5 rfl rfl (args0 ) hc8 ?_)
  rintro _ w ⟨K7, hlK7, hM, rfl⟩
  refine ⟨_, rfl, ?_⟩
  refine pl hS rfl (by decide) fun a hS => ?_
  refine st_val hS rfl rfl (by decide) (r_not rfl (hS.ev_ rfl)) fun a hS => ?_
  refine st_done ?_
  replace hS : Slots 72 [] a [(12, Value.bool (!y5)), (4, Value.bool (false)), (0, v2), (1, Value.int .i64 (p4))] := (hS.part (.cons rfl (.cons rfl (.cons rfl (.cons rfl (.nil _))))))
  refine x_then ?_
  rcases ifB h with ⟨hc9, h⟩ | ⟨hc9, h⟩
  · refine c_cond_true (hS.ev_ rfl) hc9 ?_
    refine wp_seq ?_
    refine wp_region_lit ?_
    refine st_val hS rfl rfl (by decide) (r_assign rfl (hS.ev_ rfl)) fun a hS => ?_
    refine st_done ?_
    replace hS : Slots 72 [] a [(4, Value.bool (false)), (0, v2), (1, Value.int .i64 (p4))] := (hS.part (.cons rfl (.cons rfl (.cons rfl (.nil _)))))
    refine x_then ?_
    refine wp_ret ?_
    refine x_then_ret ?_
    have hr' := Option.some.inj h
    subst hr'
    refine ret1 (.inr rfl) hS rfl rfl ?_
    exact ⟨K7, hlK7, hM, rfl⟩
  · refine c_cond_false (hS.ev_ rfl) hc9 ?_
    refine wp_skip ?_
    refine x_then ?_
    refine wp_seq ?_
    refine wp_seq ?_
    refine wp_region_lit ?_
    refine st_val hS rfl rfl (by decide) (r_move rfl (hS.ev_ rfl)) fun a hS => ?_
    obtain ⟨y10, h11, h⟩ := bindO h
    have hc13 := Law_long_c hG h11 (Kd.sl_mono hlK7 f3) hM
    refine wl_cons rfl (e_call rfl Tryd.func6 rfl rfl (args1 (hS.ev_ rfl)) hc13 ?_)
    rintro _ w ⟨K12, hlK12, hM, rfl⟩
    refine ⟨_, rfl, ?_⟩
    refine pl hS rfl (by decide) fun a hS => ?_
    refine st_val hS rfl rfl (by decide) (r_move rfl (hS.ev_ rfl)) fun a hS => ?_
    obtain ⟨x15, h16, h⟩ := bindO h
    refine wl_cut 4 (fun a w => ∃ (K14 : Hp), Hp.le K12 K14 ∧ Slots 72 [] a [(0, v2), (1, Value.int .i64 (p4)), (4, Value.bool (false)), (19, Value.bool (x15))] ∧ Sat w0 w K14 (L)) ?_ ?_
    ·
      skip
      rcases ifB h16 with ⟨hc17, h16⟩ | ⟨hc17, h16⟩
      ·
        replace hS := hS.known (k := 15) rfl hc17
        refine st_off hS rfl rfl rfl rfl rfl rfl (by decide) fun a hS => ?_
        refine st_off hS rfl rfl rfl rfl rfl rfl (by decide) fun a hS => ?_
        refine st_off hS rfl rfl rfl rfl rfl rfl (by decide) fun a hS => ?_
        refine st_val hS rfl rfl (by decide) (r_pick_true rfl (hS.ev_ rfl) rfl (hS.ev_ rfl)) fun a hS => ?_
        refine st_done ?_
        replace hS : Slots 72 [] a [(19, Value.bool (true)), (4, Value.bool (false)), (0, v2), (1, Value.int .i64 (p4))] := (hS.part (.cons rfl (.cons rfl (.cons rfl (.cons rfl (.nil _))))))
        refine x_then ?_
        obtain rfl := Option.some.inj h16
        exact ⟨K12, (Hp.le.refl _), (hS.part (.cons rfl (.cons rfl (.cons rfl (.cons rfl (.nil _)))))), hM⟩
      ·
        replace hS := hS.known (k := 15) rfl hc17
        refine st_want hS rfl rfl rfl rfl rfl (by decide) (r_move rfl (hS.ev_ rfl)) fun a hS => ?_
        obtain ⟨y18, h19, h16⟩ := bindO h16
        have hc21 := W_Right_c hG h19 (Kd.sl_mono (hlK7.trans hlK12) f3) hM
        refine g_want hS rfl rfl rfl rfl (e_call rfl Tryd.func10 rfl rfl (args1 (hS.ev_ rfl)) hc21 ?_)
        rintro _ w ⟨K20, hlK20, hM, rfl⟩
        refine ⟨_, rfl, ?_⟩
        refine pl hS rfl (by decide) fun a hS => ?_
        refine st_want hS rfl rfl rfl rfl rfl (by decide) (r_not rfl (hS.ev_ rfl)) fun a hS => ?_
        refine st_val hS rfl rfl (by decide) (r_pick_false rfl (hS.ev_ rfl) rfl (hS.ev_ rfl)) fun a hS => ?_
        refine st_done ?_
        replace hS : Slots 72 [] a [(19, Value.bool (!y18)), (4, Value.bool (false)), (0, v2), (1, Value.int .i64 (p4))] := (hS.part (.cons rfl (.cons rfl (.cons rfl (.cons rfl (.nil _))))))
        refine x_then ?_
        obtain rfl := Option.some.inj h16
        exact ⟨K20, hlK20, (hS.part (.cons rfl (.cons rfl (.cons rfl (.cons rfl (.nil _)))))), hM⟩
    · rintro a w ⟨K14, hlK14, hS, hM⟩
      refine st_done ?_
      replace hS : Slots 72 [] a [(0, v2), (1, Value.int .i64 (p4)), (4, Value.bool (false)), (19, Value.bool (x15))] := (hS.part (.cons rfl (.cons rfl (.cons rfl (.cons rfl (.nil _))))))
      refine x_then ?_
      rcases ifB h with ⟨hc22, h⟩ | ⟨hc22, h⟩
      · refine c_cond_true (hS.ev_ rfl) hc22 ?_
        refine wp_seq ?_
        refine wp_region_lit ?_
        refine st_val hS rfl rfl (by decide) (r_assign rfl (hS.ev_ rfl)) fun a hS => ?_
        refine st_done ?_
        replace hS : Slots 72 [] a [(4, Value.bool (true)), (0, v2), (1, Value.int .i64 (p4))] := (hS.part (.cons rfl (.cons rfl (.cons rfl (.nil _)))))
        refine x_then ?_
        refine wp_ret ?_
        refine x_then_ret ?_
        have hr' := Option.some.inj h
        subst hr'
        refine ret1 (.inr rfl) hS rfl rfl ?_
        exact ⟨K14, ((hlK7.trans hlK12).trans hlK14), hM, rfl⟩
      · refine c_cond_false (hS.ev_ rfl) hc22 ?_
        refine wp_skip ?_
        refine x_then ?_
        refine wp_seq ?_
        refine wp_region_lit ?_
        refine st_val hS rfl rfl (by decide) (r_move rfl (hS.ev_ rfl)) fun a hS => ?_
        obtain ⟨y23, h24, h⟩ := bindO h
        have hc26 := W_Quote_c hG h24 (Kd.sl_mono ((hlK7.trans hlK12).trans hlK14) f3) hM
        refine wl_cons rfl (e_call rfl Tryd.func11 rfl rfl (args1 (hS.ev_ rfl)) hc26 ?_)
        rintro _ w ⟨K25, hlK25, hM, rfl⟩
        refine ⟨_, rfl, ?_⟩
        refine pl hS rfl (by decide) fun a hS => ?_
        refine st_val hS rfl rfl (by decide) (r_assign rfl (hS.ev_ rfl)) fun a hS => ?_
        refine st_done ?_
        replace hS : Slots 72 [] a [(5, strV (y23)), (0, v2), (1, Value.int .i64 (p4)), (4, Value.bool (false))] := (hS.part (.cons rfl (.cons rfl (.cons rfl (.cons rfl (.nil _))))))
        refine x_then ?_
        refine wp_seq ?_
        refine wp_region_lit ?_
        refine st_val hS rfl rfl (by decide) (r_move rfl (hS.ev_ rfl)) fun a hS => ?_
        refine st_val hS rfl rfl (by decide) (r_conv_int rfl un_3 un_38 (hS.ev_ rfl)) fun a hS => ?_
        obtain ⟨q27, h28, h⟩ := bindO h
        obtain ⟨h28n, h28e⟩ := irem_some h28
        refine st_val hS rfl rfl (by decide) (h28e ▸ r_rem rfl (hS.ev_ rfl) (hS.ev_ rfl) h28n) fun a hS => ?_
        refine st_val hS rfl rfl (by decide) (r_conv_int rfl un_38 un_3 (hS.ev_ rfl)) fun a hS => ?_
        refine st_val hS rfl rfl (by decide) (r_assign rfl (hS.ev_ rfl)) fun a hS => ?_
        refine st_done ?_
        replace hS : Slots 72 [] a [(6, Value.int .i64 (IntKind.i64.wrap q27)), (5, strV (y23)), (0, v2), (4, Value.bool (false))] := (hS.part (.cons rfl (.cons rfl (.cons rfl (.cons rfl (.nil _))))))
        refine x_then ?_
        refine wp_seq ?_
        refine wp_seq ?_
        refine wp_region_lit ?_
        refine st_val hS rfl rfl (by decide) (r_move rfl (hS.ev_ rfl)) fun a hS => ?_
        refine st_val hS rfl rfl (by decide) (r_move rfl (hS.ev_ rfl)) fun a hS => ?_
        refine st_done ?_
        replace hS : Slots 72 [] a [(27, Value.int .i64 (0)), (26, Value.int .i64 (IntKind.i64.wrap q27)), (6, Value.int .i64 (IntKind.i64.wrap q27)), (5, strV (y23)), (0, v2), (4, Value.bool (false))] := (hS.part (.cons rfl (.cons rfl (.cons rfl (.cons rfl (.cons rfl (.cons rfl (.nil _))))))))
        refine x_then ?_
        refine wp_block ?_
        obtain ⟨o36, h37, h⟩ := bindO h
        refine c_loop_ways (fun e a w => (e = .exit 0 ∧ ∃ (K38 : Hp), Hp.le K25 K38 ∧ Slots 72 [] a [(0, v2), (4, Value.bool (false)), (6, Value.int .i64 (IntKind.i64.wrap q27)), (5, strV (o36))] ∧ Sat w0 w K38 (L))) ?_ ?_
        · intro c Q hc hQ
          have key : ∀ (x34 : Int) (x35 : List UInt8) (r' : List UInt8), Law_WordsBack_l1 q27 x34 x35 = some r' → r' = o36 → ∀ (K33 : Hp) (a : Act) (w : World), Hp.le K25 K33 → Slots 72 [] a [(27, Value.int .i64 (x34)), (26, Value.int .i64 (IntKind.i64.wrap q27)), (6, Value.int .i64 (IntKind.i64.wrap q27)), (5, strV (x35)), (0, v2), (4, Value.bool (false))] → Sat w0 w K33 (L) → Rnd Tryd.prog c Q a w := by
            refine Law_WordsBack_l1.partial_correctness q27 _ ?_
            intro Law_WordsBack_l1_rec ih x34 x35 r' h hr K33  a w hlK33 hS hM 
            subst hc
            refine c_round ?_
            refine wp_seq ?_
            refine wp_region_lit ?_
            refine st_val hS rfl rfl (by decide) (r_cmp rfl (hS.ev_ rfl) (hS.ev_ rfl) rfl) fun a hS => ?_
            refine st_done ?_
            replace hS : Slots 72 [] a [(28, Value.bool (decide (x34 < (IntKind.i64.wrap q27)))), (27, Value.int .i64 (x34)), (26, Value.int .i64 (IntKind.i64.wrap q27)), (6, Value.int .i64 (IntKind.i64.wrap q27)), (5, strV (x35)), (0, v2), (4, Value.bool (false))] := (hS.part (.cons rfl (.cons rfl (.cons rfl (.cons rfl (.cons rfl (.cons rfl (.cons rfl (.nil _)))))))))
            refine x_then ?_
            refine wp_seq ?_
            rcases ifB h with ⟨hc39, h⟩ | ⟨hc39, h⟩
            · refine c_cond_true (hS.ev_ rfl) hc39 ?_
              refine wp_skip ?_
              refine x_then ?_
              refine wp_seq ?_
              refine wp_block ?_
              refine wp_seq ?_
              refine wp_region_lit ?_
              refine st_val hS rfl rfl (by decide) (r_move rfl (hS.ev_ rfl)) fun a hS => ?_
              refine st_val hS rfl rfl (by decide) (r_assign rfl (hS.ev_ rfl)) fun a hS => ?_
              refine st_done ?_
              replace hS : Slots 72 [] a [(7, Value.int .i64 (x34)), (27, Value.int .i64 (x34)), (26, Value.int .i64 (IntKind.i64.wrap q27)), (6, Value.int .i64 (IntKind.i64.wrap q27)), (5, strV (x35)), (0, v2), (4, Value.bool (false))] := (hS.part (.cons rfl (.cons rfl (.cons rfl (.cons rfl (.cons rfl (.cons rfl (.cons rfl (.nil _)))))))))
              refine x_then ?_
              refine wp_region_lit ?_
              refine st_val hS rfl rfl (by decide) (r_move rfl (hS.ev_ rfl)) fun a hS => ?_
              obtain ⟨q40, h41, h⟩ := bindO h
              obtain ⟨h41n, h41e⟩ := irem_some h41
              refine st_val hS rfl rfl (by decide) (h41e ▸ r_rem rfl (hS.ev_ rfl) (hS.ev_ rfl) h41n) fun a hS => ?_
              refine st_val hS rfl rfl (by decide) (r_move rfl (hS.ev_ rfl)) fun a hS => ?_
              obtain ⟨q42, h43, h⟩ := bindO h
              obtain ⟨h43n, h43e⟩ := irem_some h43
              refine st_val hS rfl rfl (by decide) (h43e ▸ r_rem rfl (hS.ev_ rfl) (hS.ev_ rfl) h43n) fun a hS => ?_
              refine st_val hS rfl rfl (by decide) (r_add rfl (hS.ev_ rfl) (hS.ev_ rfl)) fun a hS => ?_
              obtain ⟨s44, h45, h⟩ := bindO h
              refine st_val hS rfl rfl (by decide) (r_cut_s rfl un_9 (hS.ev_ (v := strV (([32, 9, 13] : List UInt8))) rfl) (.inl (congrArg some (hS.ev_ rfl))) (.inl (congrArg some (hS.ev_ rfl))) h45) fun a hS => ?_
              refine st_val hS rfl rfl (by decide) (r_move rfl (hS.ev_ rfl)) fun a hS => ?_
              obtain ⟨h46, h⟩ := bindU h
              refine st_val hS rfl rfl (by decide) (r_sadd rfl (hS.ev_ rfl) (hS.ev_ rfl) (req_some h46)) fun a hS => ?_
              refine st_val hS rfl rfl (by decide) (r_assign rfl (hS.ev_ rfl)) fun a hS => ?_
              refine st_done ?_
              replace hS : Slots 72 [] a [(5, strV (s44 ++ x35)), (27, Value.int .i64 (x34)), (26, Value.int .i64 (IntKind.i64.wrap q27)), (6, Value.int .i64 (IntKind.i64.wrap q27)), (0, v2), (4, Value.bool (false))] := (hS.part (.cons rfl (.cons rfl (.cons rfl (.cons rfl (.cons rfl (.cons rfl (.nil _))))))))
              refine x_block ?_
              refine x_then ?_
              refine wp_region_lit ?_
              refine st_val hS rfl rfl (by decide) (r_add rfl (hS.ev_ rfl) (hS.ev_ rfl)) fun a hS => ?_
              refine st_val hS rfl rfl (by decide) (r_move rfl (hS.ev_ rfl)) fun a hS => ?_
              refine st_done ?_
              replace hS : Slots 72 [] a [(27, Value.int .i64 (w64 (x34 + 1))), (5, strV (s44 ++ x35)), (26, Value.int .i64 (IntKind.i64.wrap q27)), (6, Value.int .i64 (IntKind.i64.wrap q27)), (0, v2), (4, Value.bool (false))] := (hS.part (.cons rfl (.cons rfl (.cons rfl (.cons rfl (.cons rfl (.cons rfl (.nil _))))))))
              refine x_then ?_
              exact ih (w64 (x34 + 1)) (s44 ++ x35) _ h hr K33 _ _ hlK33 (hS.part (.cons rfl (.cons rfl (.cons rfl (.cons rfl (.cons rfl (.cons rfl (.nil _)))))))) (hM)
            · refine c_cond_false (hS.ev_ rfl) hc39 ?_
              refine wp_exit ?_
              refine x_then_exit ?_
              refine x_then_exit ?_
              have ho' := (Option.some.inj h).trans hr
              refine hQ _ _ _ ?_
              subst ho'
              exact ⟨rfl, K33, hlK33, (hS.part (.cons rfl (.cons rfl (.cons rfl (.cons rfl (.nil _)))))), hM⟩
          exact key 0 y23 _ h37 rfl K25 _ _ (Hp.le.refl _) (hS.part (.cons rfl (.cons rfl (.cons rfl (.cons rfl (.cons rfl (.cons rfl (.nil _)))))))) (hM)
        · rintro e a w ⟨rfl, K38, hlK38, hS, hM⟩
          refine x_block_here ?_
          refine x_then ?_
          refine wp_seq ?_
          refine wp_seq ?_
          refine wp_region_lit ?_
          refine st_val hS rfl rfl (by decide) (r_move rfl (hS.ev_ rfl)) fun a hS => ?_
          refine st_val hS rfl rfl (by decide) (r_len_str rfl un_9 (hS.ev_ rfl)) fun a hS => ?_
          refine st_val hS rfl rfl (by decide) (r_cmp rfl (hS.ev_ rfl) (hS.ev_ rfl) rfl) fun a hS => ?_
          refine st_done ?_
          replace hS : Slots 72 [] a [(41, Value.bool (decide (((o36.length : Int)) > 3900))), (0, v2), (4, Value.bool (false)), (6, Value.int .i64 (IntKind.i64.wrap q27)), (5, strV (o36))] := (hS.part (.cons rfl (.cons rfl (.cons rfl (.cons rfl (.cons rfl (.nil _)))))))
          refine x_then ?_
          rcases ifB h with ⟨hc47, h⟩ | ⟨hc47, h⟩
          · refine c_cond_true (hS.ev_ rfl) hc47 ?_
            refine wp_seq ?_
            refine wp_region_lit ?_
            refine st_val hS rfl rfl (by decide) (r_assign rfl (hS.ev_ rfl)) fun a hS => ?_
            refine st_done ?_
            replace hS : Slots 72 [] a [(4, Value.bool (true)), (0, v2), (6, Value.int .i64 (IntKind.i64.wrap q27)), (5, strV (o36))] := (hS.part (.cons rfl (.cons rfl (.cons rfl (.cons rfl (.nil _))))))
            refine x_then ?_
            refine wp_ret ?_
            refine x_then_ret ?_
            have hr' := Option.some.inj h
            subst hr'
            refine ret1 (.inr rfl) hS rfl rfl ?_
            exact ⟨K38, ((((hlK7.trans hlK12).trans hlK14).trans hlK25).trans hlK38), hM, rfl⟩
          · refine c_cond_false (hS.ev_ rfl) hc47 ?_
            refine wp_skip ?_
            refine x_then ?_
            refine wp_seq ?_
            refine wp_region_lit ?_
            refine st_val hS rfl rfl (by decide) (r_move rfl (hS.ev_ rfl)) fun a hS => ?_
            obtain ⟨h48, h⟩ := bindU h
            refine st_val hS rfl rfl (by decide) (r_sadd rfl (hS.ev_ rfl) (hS.ev_ (v := strV (([32, 35, 32, 98, 101, 104, 105, 110, 100] : List UInt8))) rfl) (req_some h48)) fun a hS => ?_
            obtain ⟨y49, h50, h⟩ := bindO h
            have hc52 := W_Split_c hG h50 hM
            refine wl_cons rfl (e_call rfl Tryd.func15 rfl rfl (args1 (hS.ev_ rfl)) hc52 ?_)
            rintro _ w ⟨K51, v53, hlK51, hM, rfl, f54⟩
            refine ⟨_, rfl, ?_⟩
            refine pl hS rfl (by decide) fun a hS => ?_
            refine st_val hS rfl rfl (by decide) (r_move rfl (hS.ev_ rfl)) fun a hS => ?_
            refine st_val hS rfl rfl (by decide) (r_extract rfl (hS.ev_ rfl) rfl) fun a hS => ?_
            refine st_val hS rfl rfl (by decide) (r_extract rfl (hS.ev_ rfl) rfl) fun a hS => ?_
            refine st_val hS rfl rfl (by decide) (r_extract rfl (hS.ev_ rfl) rfl) fun a hS => ?_
            refine st_val hS rfl rfl (by decide) (r_assign rfl (hS.ev_ rfl)) fun a hS => ?_
            refine st_val hS rfl rfl (by decide) (r_assign rfl (hS.ev_ rfl)) fun a hS => ?_
            refine st_val hS rfl rfl (by decide) (r_assign rfl (hS.ev_ rfl)) fun a hS => ?_
            refine st_done ?_
            replace hS : Slots 72 [] a [(10, eV w0 y49.2.2), (8, v53), (0, v2), (4, Value.bool (false)), (6, Value.int .i64 (IntKind.i64.wrap q27))] := (hS.part (.cons rfl (.cons rfl (.cons rfl (.cons rfl (.cons rfl (.nil _)))))))
            refine x_then ?_
            refine wp_seq ?_
            refine wp_region_lit ?_
            refine st_val hS rfl rfl (by decide) (r_move rfl (hS.ev_ rfl)) fun a hS => ?_
            refine st_val hS rfl rfl (by decide) (r_errnil rfl if_41 (hS.ev_ (v := eV w0 y49.2.2) rfl)) fun a hS => ?_
            refine st_val hS rfl rfl (by decide) (r_move rfl (hS.ev_ rfl)) fun a hS => ?_
            obtain ⟨x55, h56, h⟩ := bindO h
            refine wl_cut 4 (fun a w => Slots 72 [] a [(0, v2), (4, Value.bool (false)), (6, Value.int .i64 (IntKind.i64.wrap q27)), (8, v53), (55, Value.bool (x55))] ∧ Sat w0 w K51 (L)) ?_ ?_
            ·
              skip
              rcases ifB h56 with ⟨hc57, h56⟩ | ⟨hc57, h56⟩
              ·
                replace hS := hS.known (k := 51) rfl hc57
                refine st_want hS rfl rfl rfl rfl rfl (by decide) (r_move rfl (hS.ev_ rfl)) fun a hS => ?_
                refine st_want hS rfl rfl rfl rfl rfl (by decide) (r_len_sl rfl un_39 (hS.ev_ rfl) f54) fun a hS => ?_
                refine st_want hS rfl rfl rfl rfl rfl (by decide) (r_cmp rfl (hS.ev_ rfl) (hS.ev_ rfl) rfl) fun a hS => ?_
                refine st_val hS rfl rfl (by decide) (r_pick_true rfl (hS.ev_ rfl) rfl (hS.ev_ rfl)) fun a hS => ?_
                refine st_done ?_
                replace hS : Slots 72 [] a [(55, Value.bool (((y49.1.length : Int)) == 1)), (8, v53), (0, v2), (4, Value.bool (false)), (6, Value.int .i64 (IntKind.i64.wrap q27))] := (hS.part (.cons rfl (.cons rfl (.cons rfl (.cons rfl (.cons rfl (.nil _)))))))
                refine x_then ?_
                obtain rfl := Option.some.inj h56
                exact ⟨(hS.part (.cons rfl (.cons rfl (.cons rfl (.cons rfl (.cons rfl (.nil _))))))), hM⟩
              ·
                replace hS := hS.known (k := 51) rfl hc57
                refine st_off hS rfl rfl rfl rfl rfl rfl (by decide) fun a hS => ?_
                refine st_off hS rfl rfl rfl rfl rfl rfl (by decide) fun a hS => ?_
                refine st_off hS rfl rfl rfl rfl rfl rfl (by decide) fun a hS => ?_
                refine st_val hS rfl rfl (by decide) (r_pick_false rfl (hS.ev_ rfl) rfl (hS.ev_ rfl)) fun a hS => ?_
                refine st_done ?_
                replace hS : Slots 72 [] a [(55, Value.bool (false)), (8, v53), (0, v2), (4, Value.bool (false)), (6, Value.int .i64 (IntKind.i64.wrap q27))] := (hS.part (.cons rfl (.cons rfl (.cons rfl (.cons rfl (.cons rfl (.nil _)))))))
                refine x_then ?_
                obtain rfl := Option.some.inj h56
                exact ⟨(hS.part (.cons rfl (.cons rfl (.cons rfl (.cons rfl (.cons rfl (.nil _))))))), hM⟩
            · rintro a w ⟨hS, hM⟩
              refine st_val hS rfl rfl (by decide) (r_move rfl (hS.ev_ rfl)) fun a hS => ?_
              obtain ⟨x58, h59, h⟩ := bindO h
              refine wl_cut 7 (fun a w => Slots 72 [] a [(0, v2), (4, Value.bool (false)), (8, v53), (63, Value.bool (x58))] ∧ Sat w0 w K51 (L)) ?_ ?_
              ·
                skip
                rcases ifB h59 with ⟨hc60, h59⟩ | ⟨hc60, h59⟩
                ·
                  replace hS := hS.known (k := 56) rfl hc60
                  refine st_want hS rfl rfl rfl rfl rfl (by decide) (r_move rfl (hS.ev_ rfl)) fun a hS => ?_
                  obtain ⟨e61, h62, h59⟩ := bindO h59
                  obtain ⟨ad63, cp64, cs65, hv66, hr67, h0_68, h1_69, hq70⟩ := sl_at f54 h62 (by decide)
                  obtain ⟨v71, rfl, f72⟩ := kW_Token_open hr67
                  refine st_want hS rfl rfl rfl rfl rfl (by decide) (r_idx_sl rfl un_39 ti_24 (hS.ev_ rfl) hv66 (hS.ev_ rfl) h0_68 h1_69) fun a hS => ?_
                  refine st_want hS rfl rfl rfl rfl rfl (by decide) (r_fld_k rfl fo_24_4 (hS.ev_ rfl)) fun a hS => ?_
                  refine st_want hS rfl rfl rfl rfl rfl (by decide) (r_ld1_k rfl ag_3 (hS.ev_ rfl) hq70 rfl (Rd.up (Hp.le.refl _) hM.nil_)) fun a hS => ?_
                  refine st_want hS rfl rfl rfl rfl rfl (by decide) (r_move rfl (hS.ev_ rfl)) fun a hS => ?_
                  refine st_want hS rfl rfl rfl rfl rfl (by decide) (r_cmp rfl (hS.ev_ rfl) (hS.ev_ rfl) rfl) fun a hS => ?_
                  refine st_val hS rfl rfl (by decide) (r_pick_true rfl (hS.ev_ rfl) rfl (hS.ev_ rfl)) fun a hS => ?_
                  refine st_done ?_
                  replace hS : Slots 72 [] a [(63, Value.bool (e61.f_At == (IntKind.i64.wrap q27))), (0, v2), (4, Value.bool (false)), (8, v53)] := (hS.part (.cons rfl (.cons rfl (.cons rfl (.cons rfl (.nil _))))))
                  refine x_then ?_
                  obtain rfl := Option.some.inj h59
                  exact ⟨(hS.part (.cons rfl (.cons rfl (.cons rfl (.cons rfl (.nil _)))))), hM⟩
                ·
                  replace hS := hS.known (k := 56) rfl hc60
                  refine st_off hS rfl rfl rfl rfl rfl rfl (by decide) fun a hS => ?_
                  refine st_off hS rfl rfl rfl rfl rfl rfl (by decide) fun a hS => ?_
                  refine st_off hS rfl rfl rfl rfl rfl rfl (by decide) fun a hS => ?_
                  refine st_off hS rfl rfl rfl rfl rfl rfl (by decide) fun a hS => ?_
                  refine st_off hS rfl rfl rfl rfl rfl rfl (by decide) fun a hS => ?_
                  refine st_off hS rfl rfl rfl rfl rfl rfl (by decide) fun a hS => ?_
                  refine st_val hS rfl rfl (by decide) (r_pick_false rfl (hS.ev_ rfl) rfl (hS.ev_ rfl)) fun a hS => ?_
                  refine st_done ?_
                  replace hS : Slots 72 [] a [(63, Value.bool (false)), (0, v2), (4, Value.bool (false)), (8, v53)] := (hS.part (.cons rfl (.cons rfl (.cons rfl (.cons rfl (.nil _))))))
                  refine x_then ?_
                  obtain rfl := Option.some.inj h59
                  exact ⟨(hS.part (.cons rfl (.cons rfl (.cons rfl (.cons rfl (.nil _)))))), hM⟩
              · rintro a w ⟨hS, hM⟩
                refine st_val hS rfl rfl (by decide) (r_move rfl (hS.ev_ rfl)) fun a hS => ?_
                obtain ⟨x74, h75, h⟩ := bindO h
                refine wl_cut 7 (fun a w => ∃ (K73 : Hp), Hp.le K51 K73 ∧ Slots 72 [] a [(4, Value.bool (false)), (71, Value.bool (x74))] ∧ Sat w0 w K73 (L)) ?_ ?_
                ·
                  skip
                  rcases ifB h75 with ⟨hc76, h75⟩ | ⟨hc76, h75⟩
                  ·
                    replace hS := hS.known (k := 64) rfl hc76
                    refine st_want hS rfl rfl rfl rfl rfl (by decide) (r_move rfl (hS.ev_ rfl)) fun a hS => ?_
                    obtain ⟨e77, h78, h75⟩ := bindO h75
                    obtain ⟨ad79, cp80, cs81, hv82, hr83, h0_84, h1_85, hq86⟩ := sl_at f54 h78 (by decide)
                    obtain ⟨v87, rfl, f88⟩ := kW_Token_open hr83
                    refine st_want hS rfl rfl rfl rfl rfl (by decide) (r_idx_sl rfl un_39 ti_24 (hS.ev_ rfl) hv82 (hS.ev_ rfl) h0_84 h1_85) fun a hS => ?_
                    refine st_want hS rfl rfl rfl rfl rfl (by decide) (r_ldN_k (cs' := [Value.int .i64 (e77.f_Kind), strV (e77.f_Text), Value.int .i64 (e77.f_Number), v87, Value.int .i64 (e77.f_At)]) rfl ag_24 ti_24 (hS.ev_ rfl) hq86 rfl (Rd.up (Hp.le.refl _) hM.nil_)) fun a hS => ?_
                    refine st_want hS rfl rfl rfl rfl rfl (by decide) (r_move rfl (hS.ev_ rfl)) fun a hS => ?_
                    refine st_want hS rfl rfl rfl rfl rfl (by decide) (r_build (cs := [Value.int .i64 (3), strV (([] : List UInt8)), Value.int .i64 (0), v2, Value.int .i64 (0)]) rfl (parts_ev hS rfl) (by obtain ⟨_, _, hvv, _⟩ := sl_val f3; rw [hvv]; clear hvv; kernel_rfl)) fun a hS => ?_
                    obtain ⟨y89, h90, h75⟩ := bindO h75
                    have hc92 := W_Same_c hG h90 f88 (Kd.sl_mono (((((hlK7.trans hlK12).trans hlK14).trans hlK25).trans hlK38).trans hlK51) f3) hM
                    refine g_want hS rfl rfl rfl rfl (e_call rfl Tryd.func12 rfl rfl (args2 (hS.ev_ rfl) (hS.ev_ rfl)) hc92 ?_)
                    rintro _ w ⟨K91, hlK91, hM, rfl⟩
                    refine ⟨_, rfl, ?_⟩
                    refine pl hS rfl (by decide) fun a hS => ?_
                    refine st_val hS rfl rfl (by decide) (r_pick_true rfl (hS.ev_ rfl) rfl (hS.ev_ rfl)) fun a hS => ?_
                    refine st_done ?_
                    replace hS : Slots 72 [] a [(71, Value.bool (y89)), (4, Value.bool (false))] := (hS.part (.cons rfl (.cons rfl (.nil _))))
                    refine x_then ?_
                    obtain rfl := Option.some.inj h75
                    exact ⟨K91, hlK91, (hS.part (.cons rfl (.cons rfl (.nil _)))), hM⟩
                  ·
                    replace hS := hS.known (k := 64) rfl hc76
                    refine st_off hS rfl rfl rfl rfl rfl rfl (by decide) fun a hS => ?_
                    refine st_off hS rfl rfl rfl rfl rfl rfl (by decide) fun a hS => ?_
                    refine st_off hS rfl rfl rfl rfl rfl rfl (by decide) fun a hS => ?_
                    refine st_off hS rfl rfl rfl rfl rfl rfl (by decide) fun a hS => ?_
                    refine st_off hS rfl rfl rfl rfl rfl rfl (by decide) fun a hS => ?_
                    refine st_off hS rfl rfl rfl rfl rfl rfl (by decide) fun a hS => ?_
                    refine st_val hS rfl rfl (by decide) (r_pick_false rfl (hS.ev_ rfl) rfl (hS.ev_ rfl)) fun a hS => ?_
                    refine st_done ?_
                    replace hS : Slots 72 [] a [(71, Value.bool (false)), (4, Value.bool (false))] := (hS.part (.cons rfl (.cons rfl (.nil _))))
                    refine x_then ?_
                    obtain rfl := Option.some.inj h75
                    exact ⟨K51, (Hp.le.refl _), (hS.part (.cons rfl (.cons rfl (.nil _)))), hM⟩
                · rintro a w ⟨K73, hlK73, hS, hM⟩
                  refine st_val hS rfl rfl (by decide) (r_assign rfl (hS.ev_ rfl)) fun a hS => ?_
                  refine st_done ?_
                  replace hS : Slots 72 [] a [(4, Value.bool (x74))] := (hS.part (.cons rfl (.nil _)))
                  refine x_then ?_
                  refine wp_ret ?_
                  have hr' := Option.some.inj h
                  subst hr'
                  refine ret1 (.inr rfl) hS rfl rfl ?_
                  exact ⟨K73, ((((((hlK7.trans hlK12).trans hlK14).trans hlK25).trans hlK38).trans hlK51).trans hlK73), hM, rfl⟩

end Go.Proofs.YtekcconmnhjhiaaDoor
