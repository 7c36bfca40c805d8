/-
  What the code computes: plain functions, and the walks.: the walks, part 1.
-/
import Derived.Test.YtnohihhjjpabjaaDoorAD
set_option linter.unusedVariables false
set_option linter.unusedSimpArgs false
set_option maxRecDepth 10000
set_option maxHeartbeats 1000000
set_option synthInstance.maxHeartbeats 400000
set_option synthInstance.maxSize 2000
namespace Go.Proofs.YtnohihhjjpabjaaDoor
open Go Go.RowKit Sl

theorem slices_Index_int_int_c {w0 w : World} {K : Hp} {L : List SP} {p1 : List Int} {p4 : Int} {v2 : Value} {r : Int} (hG : Glob w0) (h : slices_Index_int_int p1 p4 = some r) (f3 : (Kd.int .i64).sl K v2 p1) (hM : Sat w0 w K (L)) :
    Calls Tryd.prog 23 #[v2, Value.int .i64 (p4)] w (fun e w' => ∃ (K' : Hp), Hp.le K K' ∧ Sat w0 w' K' (L) ∧ e = .returned (Value.int .i64 (r))) := by
  refine enter_ (n := 19) (args := [v2, Value.int .i64 (p4)]) Tryd.func23 rfl rfl (Nat.le_of_ble_eq_true rfl) fun a hS => ?_
  replace hS : Slots 19 [] a [(0, v2), (1, Value.int .i64 (p4))] := hS
  unfold slices_Index_int_int at h
  refine wp_seq ?_
  refine wp_region_lit ?_
  refine st_val hS rfl rfl (by decide) (r_assign rfl (hS.ev_ rfl)) fun a hS => ?_
  refine st_done ?_
  replace hS : Slots 19 [] a [(4, Value.int .i64 (0)), (0, v2), (1, Value.int .i64 (p4))] := (hS.part (.cons rfl (.cons rfl (.cons rfl (.nil _)))))
  refine x_then ?_
  refine wp_seq ?_
  refine wp_seq ?_
  refine wp_region_lit ?_
  refine st_val hS rfl rfl (by decide) (r_move rfl (hS.ev_ rfl)) fun a hS => ?_
  refine st_val hS rfl rfl (by decide) (r_len_sl rfl un_40 (hS.ev_ rfl) f3) fun a hS => ?_
  refine st_val hS rfl rfl (by decide) (r_move rfl (hS.ev_ rfl)) fun a hS => ?_
  refine st_done ?_
  replace hS : Slots 19 [] a [(8, Value.int .i64 (0)), (7, Value.int .i64 ((p1.length : Int))), (4, Value.int .i64 (0)), (0, v2), (1, Value.int .i64 (p4))] := (hS.part (.cons rfl (.cons rfl (.cons rfl (.cons rfl (.cons rfl (.nil _)))))))
  refine x_then ?_
  refine wp_block ?_
  obtain ⟨o10, h11, h⟩ := bindO h
  refine c_loop_ways (fun e a w => (e = .exit 0 ∧ ∃ (K12 : Hp) (x13 : Unit), Hp.le K K12 ∧ o10 = Sum.inl x13 ∧ Slots 19 [] a [(4, Value.int .i64 (0))] ∧ Sat w0 w K12 (L)) ∨ (e = .ret ∧ ∃ (K14 : Hp) (x15 : Int), Hp.le K K14 ∧ o10 = Sum.inr x15 ∧ Slots 19 [] a [(4, Value.int .i64 (x15))] ∧ Sat w0 w K14 (L))) ?_ ?_
  · intro c Q hc hQ
    have key : ∀ (x9 : Int) (r' : Sum Unit Int), slices_Index_int_int_l1 p1 p4 x9 = some r' → r' = o10 → ∀ (K8 : Hp) (a : Act) (w : World), Hp.le K K8 → Slots 19 [] a [(8, Value.int .i64 (x9)), (7, Value.int .i64 ((p1.length : Int))), (4, Value.int .i64 (0)), (0, v2), (1, Value.int .i64 (p4))] → Sat w0 w K8 (L) → Rnd Tryd.prog c Q a w := by
      refine slices_Index_int_int_l1.partial_correctness p1 p4 _ ?_
      intro slices_Index_int_int_l1_rec ih x9 r' h hr K8  a w hlK8 hS hM 
      subst hc
      refine c_round ?_
      refine wp_seq ?_
      refine wp_region_lit ?_
      refine st_val hS rfl rfl (by decide) (r_cmp rfl (hS.ev_ rfl) (hS.ev_ rfl) rfl) fun a hS => ?_
      refine st_done ?_
      replace hS : Slots 19 [] a [(9, Value.bool (decide (x9 < ((p1.length : Int))))), (8, Value.int .i64 (x9)), (7, Value.int .i64 ((p1.length : Int))), (4, Value.int .i64 (0)), (0, v2), (1, Value.int .i64 (p4))] := (hS.part (.cons rfl (.cons rfl (.cons rfl (.cons rfl (.cons rfl (.cons rfl (.nil _))))))))
      refine x_then ?_
      refine wp_seq ?_
      rcases ifB h with ⟨hc16, h⟩ | ⟨hc16, h⟩
      · refine c_cond_true (hS.ev_ rfl) hc16 ?_
        refine wp_skip ?_
        refine x_then ?_
        refine wp_seq ?_
        refine wp_block ?_
        refine wp_seq ?_
        refine wp_region_lit ?_
        refine st_val hS rfl rfl (by decide) (r_move rfl (hS.ev_ rfl)) fun a hS => ?_
        refine st_val hS rfl rfl (by decide) (r_assign rfl (hS.ev_ rfl)) fun a hS => ?_
        refine st_done ?_
        replace hS : Slots 19 [] a [(5, Value.int .i64 (x9)), (8, Value.int .i64 (x9)), (7, Value.int .i64 ((p1.length : Int))), (4, Value.int .i64 (0)), (0, v2), (1, Value.int .i64 (p4))] := (hS.part (.cons rfl (.cons rfl (.cons rfl (.cons rfl (.cons rfl (.cons rfl (.nil _))))))))
        refine x_then ?_
        refine wp_seq ?_
        refine wp_region_lit ?_
        refine st_val hS rfl rfl (by decide) (r_move rfl (hS.ev_ rfl)) fun a hS => ?_
        refine st_val hS rfl rfl (by decide) (r_move rfl (hS.ev_ rfl)) fun a hS => ?_
        refine st_val hS rfl rfl (by decide) (r_move rfl (hS.ev_ rfl)) fun a hS => ?_
        obtain ⟨e17, h18, h⟩ := bindO h
        obtain ⟨ad19, cp20, cs21, hv22, hr23, h0_24, h1_25, hq26⟩ := sl_at f3 h18 (by decide)
        obtain rfl := hr23
        refine st_val hS rfl rfl (by decide) (r_idx_sl rfl un_40 ti_3 (hS.ev_ rfl) hv22 (hS.ev_ rfl) h0_24 h1_25) fun a hS => ?_
        refine st_val hS rfl rfl (by decide) (r_ld1_k rfl ag_3 (hS.ev_ rfl) hq26 rfl (Rd.up hlK8 hM.nil_)) fun a hS => ?_
        refine st_val hS rfl rfl (by decide) (r_cmp rfl (hS.ev_ rfl) (hS.ev_ rfl) rfl) fun a hS => ?_
        refine st_done ?_
        replace hS : Slots 19 [] a [(16, Value.bool (p4 == e17)), (5, Value.int .i64 (x9)), (8, Value.int .i64 (x9)), (7, Value.int .i64 ((p1.length : Int))), (4, Value.int .i64 (0)), (0, v2), (1, Value.int .i64 (p4))] := (hS.part (.cons rfl (.cons rfl (.cons rfl (.cons rfl (.cons rfl (.cons rfl (.cons rfl (.nil _)))))))))
        refine x_then ?_
        rcases ifB h with ⟨hc27, h⟩ | ⟨hc27, h⟩
        · refine c_cond_true (hS.ev_ rfl) hc27 ?_
          refine wp_seq ?_
          refine wp_region_lit ?_
          refine st_val hS rfl rfl (by decide) (r_move rfl (hS.ev_ rfl)) fun a hS => ?_
          refine st_val hS rfl rfl (by decide) (r_assign rfl (hS.ev_ rfl)) fun a hS => ?_
          refine st_done ?_
          replace hS : Slots 19 [] a [(4, Value.int .i64 (x9)), (8, Value.int .i64 (x9)), (7, Value.int .i64 ((p1.length : Int))), (0, v2), (1, Value.int .i64 (p4))] := (hS.part (.cons rfl (.cons rfl (.cons rfl (.cons rfl (.cons rfl (.nil _)))))))
          refine x_then ?_
          refine wp_ret ?_
          refine x_block_ret ?_
          refine x_then_ret ?_
          refine x_then_ret ?_
          have ho' := (Option.some.inj h).trans hr
          refine hQ _ _ _ ?_
          exact .inr (⟨rfl, K8, x9, hlK8, ho'.symm, (hS.part (.cons rfl (.nil _))), hM⟩)
        · refine c_cond_false (hS.ev_ rfl) hc27 ?_
          refine wp_skip ?_
          refine x_block ?_
          refine x_then ?_
          refine wp_region_lit ?_
          refine st_val hS rfl rfl (by decide) (r_add rfl (hS.ev_ rfl) (hS.ev_ rfl)) fun a hS => ?_
          refine st_val hS rfl rfl (by decide) (r_move rfl (hS.ev_ rfl)) fun a hS => ?_
          refine st_done ?_
          replace hS : Slots 19 [] a [(8, Value.int .i64 (w64 (x9 + 1))), (7, Value.int .i64 ((p1.length : Int))), (4, Value.int .i64 (0)), (0, v2), (1, Value.int .i64 (p4))] := (hS.part (.cons rfl (.cons rfl (.cons rfl (.cons rfl (.cons rfl (.nil _)))))))
          refine x_then ?_
          exact ih (w64 (x9 + 1)) _ h hr K8 _ _ hlK8 (hS.part (.cons rfl (.cons rfl (.cons rfl (.cons rfl (.cons rfl (.nil _))))))) (hM)
      · refine c_cond_false (hS.ev_ rfl) hc16 ?_
        refine wp_exit ?_
        refine x_then_exit ?_
        refine x_then_exit ?_
        have ho' := (Option.some.inj h).trans hr
        refine hQ _ _ _ ?_
        exact .inl ⟨rfl, K8, (()), hlK8, ho'.symm, (hS.part (.cons rfl (.nil _))), hM⟩
    exact key 0 _ h11 rfl K _ _ (Hp.le.refl _) (hS.part (.cons rfl (.cons rfl (.cons rfl (.cons rfl (.cons rfl (.nil _))))))) (hM)
  · rintro e a w (⟨rfl, K12, x13, hlK12, ho', hS, hM⟩ | ⟨rfl, K14, x15, hlK14, ho', hS, hM⟩)
    · subst ho'
      dsimp only at h
      refine x_block_here ?_
      refine x_then ?_
      refine wp_seq ?_
      refine wp_region_lit ?_
      refine st_val hS rfl rfl (by decide) (r_assign rfl (hS.ev_ rfl)) fun a hS => ?_
      refine st_done ?_
      replace hS : Slots 19 [] a [(4, Value.int .i64 ((-1)))] := (hS.part (.cons rfl (.nil _)))
      refine x_then ?_
      refine wp_ret ?_
      have hr' := Option.some.inj h
      subst hr'
      refine ret1 (.inr rfl) hS rfl rfl ?_
      exact ⟨K12, hlK12, hM, rfl⟩
    · subst ho'
      dsimp only at h
      refine x_block_ret ?_
      refine x_then_ret ?_
      have hr' := Option.some.inj h
      subst hr'
      refine ret1 (.inr rfl) hS rfl rfl ?_
      exact ⟨K14, hlK14, hM, rfl⟩

theorem slices_Contains_int_int_c {w0 w : World} {K : Hp} {L : List SP} {p1 : List Int} {p4 : Int} {v2 : Value} {r : Bool} (hG : Glob w0) (h : slices_Contains_int_int p1 p4 = some r) (f3 : (Kd.int .i64).sl K v2 p1) (hM : Sat w0 w K (L)) :
    Calls Tryd.prog 16 #[v2, Value.int .i64 (p4)] w (fun e w' => ∃ (K' : Hp), Hp.le K K' ∧ Sat w0 w' K' (L) ∧ e = .returned (Value.bool (r))) := by
  refine enter_ (n := 9) (args := [v2, Value.int .i64 (p4)]) Tryd.func16 rfl rfl (Nat.le_of_ble_eq_true rfl) fun a hS => ?_
  replace hS : Slots 9 [] a [(0, v2), (1, Value.int .i64 (p4))] := hS
  unfold slices_Contains_int_int at h
  refine wp_seq ?_
  refine wp_region_lit ?_
  refine st_val hS rfl rfl (by decide) (r_assign rfl (hS.ev_ rfl)) fun a hS => ?_
  refine st_done ?_
  replace hS : Slots 9 [] a [(4, Value.bool (false)), (0, v2), (1, Value.int .i64 (p4))] := (hS.part (.cons rfl (.cons rfl (.cons rfl (.nil _)))))
  refine x_then ?_
  refine wp_seq ?_
  refine wp_region_lit ?_
  refine st_val hS rfl rfl (by decide) (r_move rfl (hS.ev_ rfl)) fun a hS => ?_
  refine st_val hS rfl rfl (by decide) (r_move rfl (hS.ev_ rfl)) fun a hS => ?_
  obtain ⟨y5, h6, h⟩ := bindO h
  have hc8 := slices_Index_int_int_c hG h6 f3 hM
  refine wl_cons rfl (e_call rfl Tryd.func23 rfl rfl (args2 (hS.ev_ rfl) (hS.ev_ rfl)) hc8 ?_)
  rintro _ w ⟨K7, hlK7, hM, rfl⟩
  refine ⟨_, rfl, ?_⟩
  refine pl hS rfl (by decide) fun a hS => ?_
  refine st_val hS rfl rfl (by decide) (r_cmp rfl (hS.ev_ rfl) (hS.ev_ rfl) rfl) fun a hS => ?_
  refine st_val hS rfl rfl (by decide) (r_assign rfl (hS.ev_ rfl)) fun a hS => ?_
  refine st_done ?_
  replace hS : Slots 9 [] a [(4, Value.bool (decide (y5 ≥ 0)))] := (hS.part (.cons rfl (.nil _)))
  refine x_then ?_
  refine wp_ret ?_
  have hr' := Option.some.inj h
  subst hr'
  refine ret1 (.inr rfl) hS rfl rfl ?_
  exact ⟨K7, hlK7, hM, rfl⟩

theorem codes_Verb_c {w0 w : World} {K : Hp} {L : List SP} {p1 : Int} {r : Bool} (hG : Glob w0) (h : codes_Verb p1 = some r) (hM : Sat w0 w K (L)) :
    Calls Tryd.prog 19 #[Value.int .i64 (p1)] w (fun e w' => ∃ (K' : Hp), Hp.le K K' ∧ Sat w0 w' K' (L) ∧ e = .returned (Value.bool (r))) := by
  refine enter_ (n := 9) (args := [Value.int .i64 (p1)]) Tryd.func19 rfl rfl (Nat.le_of_ble_eq_true rfl) fun a hS => ?_
  replace hS : Slots 9 [] a [(0, Value.int .i64 (p1))] := hS
  unfold codes_Verb at h
  refine wp_seq ?_
  refine wp_region_lit ?_
  refine st_val hS rfl rfl (by decide) (r_assign rfl (hS.ev_ rfl)) fun a hS => ?_
  refine st_done ?_
  replace hS : Slots 9 [] a [(2, Value.bool (false)), (0, Value.int .i64 (p1))] := (hS.part (.cons rfl (.cons rfl (.nil _))))
  refine x_then ?_
  refine wp_seq ?_
  refine wp_region_lit ?_
  refine st_val hS rfl rfl (by decide) (r_move rfl (hS.ev_ rfl)) fun a hS => ?_
  refine st_val hS rfl rfl (by decide) (r_cmp rfl (hS.ev_ rfl) (hS.ev_ rfl) rfl) fun a hS => ?_
  refine st_val hS rfl rfl (by decide) (r_move rfl (hS.ev_ rfl)) fun a hS => ?_
  obtain ⟨x2, h3, h⟩ := bindO h
  refine wl_cut 3 (fun a w => Slots 9 [] a [(2, Value.bool (false)), (8, Value.bool (x2))] ∧ Sat w0 w K (L)) ?_ ?_
  ·
    skip
    rcases ifB h3 with ⟨hc4, h3⟩ | ⟨hc4, h3⟩
    ·
      replace hS := hS.known (k := 5) rfl hc4
      refine st_want hS rfl rfl rfl rfl rfl (by decide) (r_move rfl (hS.ev_ rfl)) fun a hS => ?_
      refine st_want hS rfl rfl rfl rfl rfl (by decide) (r_cmp rfl (hS.ev_ rfl) (hS.ev_ rfl) rfl) fun a hS => ?_
      refine st_val hS rfl rfl (by decide) (r_pick_true rfl (hS.ev_ rfl) rfl (hS.ev_ rfl)) fun a hS => ?_
      refine st_done ?_
      replace hS : Slots 9 [] a [(8, Value.bool (decide (p1 ≤ 254))), (2, Value.bool (false))] := (hS.part (.cons rfl (.cons rfl (.nil _))))
      refine x_then ?_
      obtain rfl := Option.some.inj h3
      exact ⟨(hS.part (.cons rfl (.cons rfl (.nil _)))), hM⟩
    ·
      replace hS := hS.known (k := 5) rfl hc4
      refine st_off hS rfl rfl rfl rfl rfl rfl (by decide) fun a hS => ?_
      refine st_off hS rfl rfl rfl rfl rfl rfl (by decide) fun a hS => ?_
      refine st_val hS rfl rfl (by decide) (r_pick_false rfl (hS.ev_ rfl) rfl (hS.ev_ rfl)) fun a hS => ?_
      refine st_done ?_
      replace hS : Slots 9 [] a [(8, Value.bool (false)), (2, Value.bool (false))] := (hS.part (.cons rfl (.cons rfl (.nil _))))
      refine x_then ?_
      obtain rfl := Option.some.inj h3
      exact ⟨(hS.part (.cons rfl (.cons rfl (.nil _)))), hM⟩
  · rintro a w ⟨hS, hM⟩
    refine st_val hS rfl rfl (by decide) (r_assign rfl (hS.ev_ rfl)) fun a hS => ?_
    refine st_done ?_
    replace hS : Slots 9 [] a [(2, Value.bool (x2))] := (hS.part (.cons rfl (.nil _)))
    refine x_then ?_
    refine wp_ret ?_
    have hr' := Option.some.inj h
    subst hr'
    refine ret1 (.inr rfl) hS rfl rfl ?_
    exact ⟨K, (Hp.le.refl _), hM, rfl⟩

theorem iac_Tokens_add_c {w0 w : World} {K : Hp} {L : List SP} {p1 : iac_Tokens} {p5 : UInt8} {g2 : Nat} {v3 : Value} {r : iac_Tokens} (hG : Glob w0) (h : iac_Tokens_add p1 p5 = some r) (hM : Sat w0 w K (SP.blk g2 43 [Value.int .i64 (p1.f_state), Value.int .i64 (p1.f_token.f_Kind), Value.int .i64 (p1.f_token.f_Code), Value.int .i64 (p1.f_token.f_Option), v3, Value.bool (p1.f_token.f_Cut)] :: SP.row Kd.u8 5 v3 p1.f_token.f_Body :: L)) :
    Calls Tryd.prog 21 #[Value.pointer (some ⟨g2, 0, none⟩), Value.int .u8 (b8 (p5))] w (fun e w' => ∃ (K' : Hp) (v'1 : Value), Hp.le K K' ∧ Sat w0 w' K' (SP.blk g2 43 [Value.int .i64 (r.f_state), Value.int .i64 (r.f_token.f_Kind), Value.int .i64 (r.f_token.f_Code), Value.int .i64 (r.f_token.f_Option), v'1, Value.bool (r.f_token.f_Cut)] :: SP.row Kd.u8 5 v'1 r.f_token.f_Body :: L) ∧ e = .returned (Value.tuple #[])) := by
  refine enter_ (n := 27) (args := [Value.pointer (some ⟨g2, 0, none⟩), Value.int .u8 (b8 (p5))]) Tryd.func21 rfl rfl (Nat.le_of_ble_eq_true rfl) fun a hS => ?_
  replace hS : Slots 27 [] a [(0, Value.pointer (some ⟨g2, 0, none⟩)), (1, Value.int .u8 (b8 (p5)))] := hS
  unfold iac_Tokens_add at h
  refine wp_seq ?_
  refine wp_seq ?_
  refine wp_region_lit ?_
  refine st_val hS rfl rfl (by decide) (r_move rfl (hS.ev_ rfl)) fun a hS => ?_
  refine st_val hS rfl rfl (by decide) (r_nilCheck rfl (hS.ev_ rfl)) fun a hS => ?_
  refine st_val hS rfl rfl (by decide) (r_fld_b rfl fo_43_1 (hS.ev_ rfl)) fun a hS => ?_
  refine st_val hS rfl rfl (by decide) (r_fld_b rfl fo_30_3 (hS.ev_ rfl)) fun a hS => ?_
  refine st_val hS rfl rfl (by decide) (r_ld1_b rfl ag_22 (hS.ev_ rfl) rfl (Rd.of hM)) fun a hS => ?_
  replace hM := hM.pull 1 rfl rfl
  refine st_val hS rfl rfl (by decide) (r_len_rowR rfl un_22 (hS.ev_ rfl) (Rd.of hM)) fun a hS => ?_
  refine st_val hS rfl rfl (by decide) (r_cmp rfl (hS.ev_ rfl) (hS.ev_ rfl) rfl) fun a hS => ?_
  refine st_done ?_
  replace hS : Slots 27 [] a [(10, Value.bool (decide (((p1.f_token.f_Body.length : Int)) ≥ 256))), (0, Value.pointer (some ⟨g2, 0, none⟩)), (1, Value.int .u8 (b8 (p5)))] := (hS.part (.cons rfl (.cons rfl (.cons rfl (.nil _)))))
  refine x_then ?_
  rcases ifB h with ⟨hc6, h⟩ | ⟨hc6, h⟩
  · refine c_cond_true (hS.ev_ rfl) hc6 ?_
    refine wp_seq ?_
    refine wp_region_lit ?_
    refine st_val hS rfl rfl (by decide) (r_move rfl (hS.ev_ rfl)) fun a hS => ?_
    refine st_val hS rfl rfl (by decide) (r_nilCheck rfl (hS.ev_ rfl)) fun a hS => ?_
    refine st_val hS rfl rfl (by decide) (r_fld_b rfl fo_43_1 (hS.ev_ rfl)) fun a hS => ?_
    refine st_val hS rfl rfl (by decide) (r_fld_b rfl fo_30_4 (hS.ev_ rfl)) fun a hS => ?_
    replace hM := hM.pull 1 rfl rfl
    refine wl_cons rfl (e_store1 hM rfl ti_4 (hS.ev_ rfl) (hS.ev_ rfl) rfl (Nat.lt_of_lt_of_le (Nat.le_of_ble_eq_true rfl) (Nat.le_refl _)) fun w hM => ?_)
    have hM : Sat w0 w K (SP.blk g2 43 [Value.int .i64 (p1.f_state), Value.int .i64 (p1.f_token.f_Kind), Value.int .i64 (p1.f_token.f_Code), Value.int .i64 (p1.f_token.f_Option), v3, Value.bool (true)] :: SP.row Kd.u8 5 v3 p1.f_token.f_Body :: L) := hM
    refine pl0 hS rfl fun a hS => ?_
    refine st_done ?_
    replace hS : Slots 27 [] a [(0, Value.pointer (some ⟨g2, 0, none⟩)), (1, Value.int .u8 (b8 (p5)))] := (hS.part (.cons rfl (.cons rfl (.nil _))))
    refine x_then ?_
    refine wp_ret ?_
    refine x_then_ret ?_
    have hr' := Option.some.inj h
    subst hr'
    refine ret0 (.inr rfl) hS rfl  ?_
    exact ⟨K, (v3), (Hp.le.refl _), ((hM.pull 1 rfl rfl).pull 1 rfl rfl), rfl⟩
  · refine c_cond_false (hS.ev_ rfl) hc6 ?_
    refine wp_skip ?_
    refine x_then ?_
    refine wp_region_lit ?_
    refine st_val hS rfl rfl (by decide) (r_move rfl (hS.ev_ rfl)) fun a hS => ?_
    refine st_val hS rfl rfl (by decide) (r_move rfl (hS.ev_ rfl)) fun a hS => ?_
    refine st_val hS rfl rfl (by decide) (r_nilCheck rfl (hS.ev_ rfl)) fun a hS => ?_
    refine st_val hS rfl rfl (by decide) (r_fld_b rfl fo_43_1 (hS.ev_ rfl)) fun a hS => ?_
    refine st_val hS rfl rfl (by decide) (r_fld_b rfl fo_30_3 (hS.ev_ rfl)) fun a hS => ?_
    replace hM := hM.pull 1 rfl rfl
    refine st_val hS rfl rfl (by decide) (r_ld1_b rfl ag_22 (hS.ev_ rfl) rfl (Rd.of hM)) fun a hS => ?_
    refine st_val hS rfl rfl (by decide) (r_move rfl (hS.ev_ rfl)) fun a hS => ?_
    refine wl_cons rfl (e_litK (d := Kd.u8) (e := 5) (cs := [Value.int .u8 (b8 (p5))]) (xs := ([p5] : List UInt8)) hM rfl (parts_ev hS rfl) (by kernel_rfl) ⟨[Value.int .u8 (b8 (p5))], [], rfl, rfl, rfl⟩ rfl (by decide) fun v7 K8 w hlK8 hM f9 => ?_)
    refine pl hS rfl (by decide) fun a hS => ?_
    replace hM := hM.pull 1 rfl rfl
    obtain ⟨h10, h⟩ := bindU h
    refine wl_cons rfl (e_apd_sl hM rfl un_22 un_22 ti_5 rfl rfl (by decide) (hS.ev_ rfl) (hS.ev_ rfl) f9 (req_some h10) fun v11 w hM => ?_)
    refine pl hS rfl (by decide) fun a hS => ?_
    refine st_val hS rfl rfl (by decide) (r_nilCheck rfl (hS.ev_ rfl)) fun a hS => ?_
    refine st_val hS rfl rfl (by decide) (r_fld_b rfl fo_43_1 (hS.ev_ rfl)) fun a hS => ?_
    refine st_val hS rfl rfl (by decide) (r_fld_b rfl fo_30_3 (hS.ev_ rfl)) fun a hS => ?_
    replace hM := hM.pull 1 rfl rfl
    replace hM := hM.pull 1 rfl rfl
    have ho12 := row_one hM
    replace hM := hM.pull 1 rfl rfl
    refine wl_cons rfl (e_store1 hM rfl ti_22 (hS.ev_ rfl) (hS.ev_ rfl) ho12 (Nat.lt_of_lt_of_le (Nat.le_of_ble_eq_true rfl) (Nat.le_refl _)) fun w hM => ?_)
    have hM : Sat w0 w K8 (SP.blk g2 43 [Value.int .i64 (p1.f_state), Value.int .i64 (p1.f_token.f_Kind), Value.int .i64 (p1.f_token.f_Code), Value.int .i64 (p1.f_token.f_Option), v11, Value.bool (p1.f_token.f_Cut)] :: SP.row Kd.u8 5 v11 (p1.f_token.f_Body ++ ([p5] : List UInt8)) :: L) := hM
    refine pl0 hS rfl fun a hS => ?_
    refine st_done ?_
    replace hS : Slots 27 [] a [] := (hS.part (.nil _))
    have hr' := Option.some.inj h
    subst hr'
    refine ret0 (.inl rfl) hS rfl  ?_
    exact ⟨K8, (v11), hlK8, ((hM.pull 1 rfl rfl).pull 1 rfl rfl), rfl⟩

theorem iac_Tokens_Feed_c {w0 w : World} {K : Hp} {L : List SP} {p1 : iac_Tokens} {p5 : UInt8} {g2 : Nat} {v3 : Value} {r : iac_Token × Bool × iac_Tokens} (hG : Glob w0) (h : iac_Tokens_Feed p1 p5 = some r) (hM : Sat w0 w K (SP.blk g2 43 [Value.int .i64 (p1.f_state), Value.int .i64 (p1.f_token.f_Kind), Value.int .i64 (p1.f_token.f_Code), Value.int .i64 (p1.f_token.f_Option), v3, Value.bool (p1.f_token.f_Cut)] :: SP.row Kd.u8 5 v3 p1.f_token.f_Body :: L)) :
    Calls Tryd.prog 12 #[Value.pointer (some ⟨g2, 0, none⟩), Value.int .u8 (b8 (p5))] w (fun e w' => ∃ (K' : Hp) (v'1 v'2 : Value), Hp.le K K' ∧ Sat w0 w' K' (SP.blk g2 43 [Value.int .i64 (r.2.2.f_state), Value.int .i64 (r.2.2.f_token.f_Kind), Value.int .i64 (r.2.2.f_token.f_Code), Value.int .i64 (r.2.2.f_token.f_Option), v'2, Value.bool (r.2.2.f_token.f_Cut)] :: SP.row Kd.u8 5 v'2 r.2.2.f_token.f_Body :: L) ∧ e = .returned (Value.tuple #[Value.agg #[Value.int .i64 (r.1.f_Kind), Value.int .i64 (r.1.f_Code), Value.int .i64 (r.1.f_Option), v'1, Value.bool (r.1.f_Cut)], Value.bool (r.2.1)]) ∧ Kd.u8.sl K' v'1 r.1.f_Body) := by
  refine enter_ (n := 113) (args := [Value.pointer (some ⟨g2, 0, none⟩), Value.int .u8 (b8 (p5))]) Tryd.func12 rfl rfl (Nat.le_of_ble_eq_true rfl) fun a hS => ?_
  replace hS : Slots 113 [] a [(0, Value.pointer (some ⟨g2, 0, none⟩)), (1, Value.int .u8 (b8 (p5)))] := hS
  unfold iac_Tokens_Feed at h
  refine wp_seq ?_
  refine wp_region_lit ?_
  refine wl_cons rfl (e_alloc (cs := [Value.int .i64 (0), Value.int .i64 (0), Value.int .i64 (0), Value.slice none 0 0, Value.bool (false)]) hM rfl ti_30 rfl fun g6 w hM => ?_)
  refine pl hS rfl (by decide) fun a hS => ?_
  refine st_val hS rfl rfl (by decide) (r_assign rfl (hS.ev_ rfl)) fun a hS => ?_
  refine st_done ?_
  replace hS : Slots 113 [] a [(5, Value.bool (false)), (4, Value.pointer (some ⟨g6, 0, none⟩)), (0, Value.pointer (some ⟨g2, 0, none⟩)), (1, Value.int .u8 (b8 (p5)))] := (hS.part (.cons rfl (.cons rfl (.cons rfl (.cons rfl (.nil _))))))
  refine x_then ?_
  refine c_scope ?_
  refine c_scp_seq ?_
  refine wp_region_lit ?_
  refine wl_cons rfl (e_alloc (cs := [Value.int .i64 (0), Value.int .i64 (0), Value.int .i64 (0), Value.slice none 0 0, Value.bool (false)]) hM rfl ti_30 rfl fun g8 w hM => ?_)
  refine pl hS rfl (by decide) fun a hS => ?_
  refine st_done ?_
  replace hS : Slots 113 [] a [(6, Value.pointer (some ⟨g8, 0, none⟩)), (5, Value.bool (false)), (4, Value.pointer (some ⟨g6, 0, none⟩)), (0, Value.pointer (some ⟨g2, 0, none⟩)), (1, Value.int .u8 (b8 (p5)))] := (hS.part (.cons rfl (.cons rfl (.cons rfl (.cons rfl (.cons rfl (.nil _)))))))
  refine x_then ?_
  refine c_scp_seq ?_
  refine wp_seq ?_
  refine wp_region_lit ?_
  refine st_val hS rfl rfl (by decide) (r_move rfl (hS.ev_ rfl)) fun a hS => ?_
  refine st_val hS rfl rfl (by decide) (r_nilCheck rfl (hS.ev_ rfl)) fun a hS => ?_
  refine st_val hS rfl rfl (by decide) (r_fld_b rfl fo_43_0 (hS.ev_ rfl)) fun a hS => ?_
  replace hM := hM.pull 2 rfl rfl
  refine st_val hS rfl rfl (by decide) (r_ld1_b rfl ag_3 (hS.ev_ rfl) rfl (Rd.of hM)) fun a hS => ?_
  refine st_done ?_
  replace hS : Slots 113 [] a [(10, Value.int .i64 (p1.f_state)), (6, Value.pointer (some ⟨g8, 0, none⟩)), (5, Value.bool (false)), (4, Value.pointer (some ⟨g6, 0, none⟩)), (0, Value.pointer (some ⟨g2, 0, none⟩)), (1, Value.int .u8 (b8 (p5)))] := (hS.part (.cons rfl (.cons rfl (.cons rfl (.cons rfl (.cons rfl (.cons rfl (.nil _))))))))
  refine x_then ?_
  refine wp_block ?_
  refine wp_seq ?_
  refine wp_region_lit ?_
  refine st_val hS rfl rfl (by decide) (r_cmp rfl (hS.ev_ rfl) (hS.ev_ rfl) rfl) fun a hS => ?_
  refine st_val hS rfl rfl (by decide) (r_assign rfl (hS.ev_ rfl)) fun a hS => ?_
  refine st_done ?_
  replace hS : Slots 113 [] a [(11, Value.bool (p1.f_state == 1)), (10, Value.int .i64 (p1.f_state)), (6, Value.pointer (some ⟨g8, 0, none⟩)), (5, Value.bool (false)), (4, Value.pointer (some ⟨g6, 0, none⟩)), (0, Value.pointer (some ⟨g2, 0, none⟩)), (1, Value.int .u8 (b8 (p5)))] := (hS.part (.cons rfl (.cons rfl (.cons rfl (.cons rfl (.cons rfl (.cons rfl (.cons rfl (.nil _)))))))))
  refine x_then ?_
  rcases ifB h with ⟨hc10, h⟩ | ⟨hc10, h⟩
  · refine c_cond_true (hS.ev_ rfl) hc10 ?_
    refine wp_goto ?_
    refine x_block_goto ?_
    refine x_then_goto ?_
    refine x_scope_goto' (b := _) rfl ?_
    refine c_scp_seq ?_
    refine wp_block ?_
    refine wp_seq ?_
    refine wp_region_lit ?_
    refine st_val hS rfl rfl (by decide) (r_move rfl (hS.ev_ rfl)) fun a hS => ?_
    refine st_val hS rfl rfl (by decide) (r_cmp8 rfl (hS.ev_ rfl) (hS.ev_ (v := Value.int .u8 (b8 (255))) rfl) rfl) fun a hS => ?_
    refine st_val hS rfl rfl (by decide) (r_assign rfl (hS.ev_ rfl)) fun a hS => ?_
    refine st_done ?_
    replace hS : Slots 113 [] a [(46, Value.bool (p5 == 255)), (6, Value.pointer (some ⟨g8, 0, none⟩)), (5, Value.bool (false)), (4, Value.pointer (some ⟨g6, 0, none⟩)), (0, Value.pointer (some ⟨g2, 0, none⟩)), (1, Value.int .u8 (b8 (p5)))] := (hS.part (.cons rfl (.cons rfl (.cons rfl (.cons rfl (.cons rfl (.cons rfl (.nil _))))))))
    refine x_then ?_
    rcases ifB h with ⟨hc11, h⟩ | ⟨hc11, h⟩
    · refine c_cond_true (hS.ev_ rfl) hc11 ?_
      refine wp_seq ?_
      refine wp_region_lit ?_
      refine st_val hS rfl rfl (by decide) (r_build (cs := [Value.int .i64 (1), Value.int .i64 (255), Value.int .i64 (0), Value.slice none 0 0, Value.bool (false)]) rfl (parts_ev hS rfl) (by kernel_rfl)) fun a hS => ?_
      replace hM := hM.pull 1 rfl rfl
      refine wl_cons rfl (e_storeN (vs := [Value.int .i64 (1), Value.int .i64 (255), Value.int .i64 (0), Value.slice none 0 0, Value.bool (false)]) hM rfl ti_30 (hS.ev_ rfl) (hS.ev_ rfl) (ones_cons rfl (ones_cons rfl (ones_cons rfl (ones_cons rfl (ones_cons rfl ones_nil))))) (Nat.le_of_ble_eq_true rfl) fun w hM => ?_)
      have hM : Sat w0 w K (SP.blk g8 30 [Value.int .i64 (1), Value.int .i64 (255), Value.int .i64 (0), Value.slice none 0 0, Value.bool (false)] :: SP.blk g2 43 [Value.int .i64 (p1.f_state), Value.int .i64 (p1.f_token.f_Kind), Value.int .i64 (p1.f_token.f_Code), Value.int .i64 (p1.f_token.f_Option), v3, Value.bool (p1.f_token.f_Cut)] :: SP.blk g6 30 [Value.int .i64 (0), Value.int .i64 (0), Value.int .i64 (0), Value.slice none 0 0, Value.bool (false)] :: SP.row Kd.u8 5 v3 p1.f_token.f_Body :: L) := hM
      refine pl0 hS rfl fun a hS => ?_
      refine st_done ?_
      replace hS : Slots 113 [] a [(6, Value.pointer (some ⟨g8, 0, none⟩)), (5, Value.bool (false)), (4, Value.pointer (some ⟨g6, 0, none⟩)), (0, Value.pointer (some ⟨g2, 0, none⟩)), (1, Value.int .u8 (b8 (p5)))] := (hS.part (.cons rfl (.cons rfl (.cons rfl (.cons rfl (.cons rfl (.nil _)))))))
      refine x_then ?_
      refine wp_goto ?_
      refine x_block_goto ?_
      refine x_then_goto ?_
      refine x_scope_goto' (b := _) rfl ?_
      refine c_scp_seq ?_
      refine wp_region_lit ?_
      refine st_val hS rfl rfl (by decide) (r_move rfl (hS.ev_ rfl)) fun a hS => ?_
      refine st_val hS rfl rfl (by decide) (r_move rfl (hS.ev_ rfl)) fun a hS => ?_
      refine st_val hS rfl rfl (by decide) (r_build (cs := [Value.int .i64 (0), Value.int .i64 (0), Value.int .i64 (0), Value.slice none 0 0, Value.bool (false)]) rfl (parts_ev hS rfl) (by kernel_rfl)) fun a hS => ?_
      refine st_val hS rfl rfl (by decide) (r_nilCheck rfl (hS.ev_ rfl)) fun a hS => ?_
      refine st_val hS rfl rfl (by decide) (r_fld_b rfl fo_43_0 (hS.ev_ rfl)) fun a hS => ?_
      replace hM := hM.pull 1 rfl rfl
      refine wl_cons rfl (e_store1 hM rfl ti_3 (hS.ev_ rfl) (hS.ev_ rfl) rfl (Nat.lt_of_lt_of_le (Nat.le_of_ble_eq_true rfl) (Nat.le_refl _)) fun w hM => ?_)
      have hM : Sat w0 w K (SP.blk g2 43 [Value.int .i64 (0), Value.int .i64 (p1.f_token.f_Kind), Value.int .i64 (p1.f_token.f_Code), Value.int .i64 (p1.f_token.f_Option), v3, Value.bool (p1.f_token.f_Cut)] :: SP.blk g8 30 [Value.int .i64 (1), Value.int .i64 (255), Value.int .i64 (0), Value.slice none 0 0, Value.bool (false)] :: SP.blk g6 30 [Value.int .i64 (0), Value.int .i64 (0), Value.int .i64 (0), Value.slice none 0 0, Value.bool (false)] :: SP.row Kd.u8 5 v3 p1.f_token.f_Body :: L) := hM
      refine pl0 hS rfl fun a hS => ?_
      refine st_val hS rfl rfl (by decide) (r_nilCheck rfl (hS.ev_ rfl)) fun a hS => ?_
      refine st_val hS rfl rfl (by decide) (r_fld_b rfl fo_43_1 (hS.ev_ rfl)) fun a hS => ?_
      refine wl_cons rfl (e_storeN (vs := [Value.int .i64 (0), Value.int .i64 (0), Value.int .i64 (0), Value.slice none 0 0, Value.bool (false)]) hM rfl ti_30 (hS.ev_ rfl) (hS.ev_ rfl) (ones_cons rfl (ones_cons rfl (ones_cons rfl (ones_cons rfl (ones_cons rfl ones_nil))))) (Nat.le_of_ble_eq_true rfl) fun w hM => ?_)
      have hM : Sat w0 w K (SP.blk g2 43 [Value.int .i64 (0), Value.int .i64 (0), Value.int .i64 (0), Value.int .i64 (0), Value.slice none 0 0, Value.bool (false)] :: SP.blk g8 30 [Value.int .i64 (1), Value.int .i64 (255), Value.int .i64 (0), Value.slice none 0 0, Value.bool (false)] :: SP.blk g6 30 [Value.int .i64 (0), Value.int .i64 (0), Value.int .i64 (0), Value.slice none 0 0, Value.bool (false)] :: SP.row Kd.u8 5 v3 p1.f_token.f_Body :: L) := hM
      refine pl0 hS rfl fun a hS => ?_
      refine st_done ?_
      replace hS : Slots 113 [] a [(6, Value.pointer (some ⟨g8, 0, none⟩)), (5, Value.bool (false)), (4, Value.pointer (some ⟨g6, 0, none⟩)), (0, Value.pointer (some ⟨g2, 0, none⟩)), (1, Value.int .u8 (b8 (p5)))] := (hS.part (.cons rfl (.cons rfl (.cons rfl (.cons rfl (.cons rfl (.nil _)))))))
      refine x_then ?_
      refine c_scp_seq ?_
      refine wp_region_lit ?_
      replace hM := hM.pull 1 rfl rfl
      refine st_val hS rfl rfl (by decide) (r_ldN_b (cs' := [Value.int .i64 (1), Value.int .i64 (255), Value.int .i64 (0), Value.slice none 0 0, Value.bool (false)]) rfl ag_30 ti_30 (hS.ev_ rfl) rfl (Rd.of hM)) fun a hS => ?_
      replace hM := hM.pull 2 rfl rfl
      refine wl_cons rfl (e_storeN (vs := [Value.int .i64 (1), Value.int .i64 (255), Value.int .i64 (0), Value.slice none 0 0, Value.bool (false)]) hM rfl ti_30 (hS.ev_ rfl) (hS.ev_ rfl) (ones_cons rfl (ones_cons rfl (ones_cons rfl (ones_cons rfl (ones_cons rfl ones_nil))))) (Nat.le_of_ble_eq_true rfl) fun w hM => ?_)
      have hM : Sat w0 w K (SP.blk g6 30 [Value.int .i64 (1), Value.int .i64 (255), Value.int .i64 (0), Value.slice none 0 0, Value.bool (false)] :: SP.blk g8 30 [Value.int .i64 (1), Value.int .i64 (255), Value.int .i64 (0), Value.slice none 0 0, Value.bool (false)] :: SP.blk g2 43 [Value.int .i64 (0), Value.int .i64 (0), Value.int .i64 (0), Value.int .i64 (0), Value.slice none 0 0, Value.bool (false)] :: SP.row Kd.u8 5 v3 p1.f_token.f_Body :: L) := hM
      refine pl0 hS rfl fun a hS => ?_
      refine st_val hS rfl rfl (by decide) (r_assign rfl (hS.ev_ rfl)) fun a hS => ?_
      refine st_done ?_
      replace hS : Slots 113 [] a [(5, Value.bool (true)), (6, Value.pointer (some ⟨g8, 0, none⟩)), (4, Value.pointer (some ⟨g6, 0, none⟩)), (0, Value.pointer (some ⟨g2, 0, none⟩)), (1, Value.int .u8 (b8 (p5)))] := (hS.part (.cons rfl (.cons rfl (.cons rfl (.cons rfl (.cons rfl (.nil _)))))))
      refine x_then ?_
      refine c_scp ?_
      refine wp_ret ?_
      refine x_scope_ret ?_
      replace hM := hM.row_nil Kd.u8 5
      have hr' := Option.some.inj h
      subst hr'
      refine retR2 (.inr rfl) hS rfl ⟨_, rfl, lv_N (cs' := [Value.int .i64 (1), Value.int .i64 (255), Value.int .i64 (0), Value.slice none 0 0, Value.bool (false)]) (hM.pull 1 rfl rfl) ag_30 ti_30 rfl⟩ (show Sl.look _ _ = some (Value.bool (true)) from rfl) ?_
      exact ⟨K, (Value.slice none 0 0), ((Value.slice none 0 0)), (Hp.le.refl _), ((((hM.pull 1 rfl rfl).tail.pull 1 rfl rfl).tail.pull 2 rfl rfl).tail.pull 1 rfl rfl), rfl, (Kd.sl_nil _ _)⟩
    · refine c_cond_false (hS.ev_ rfl) hc11 ?_
      refine wp_seq ?_
      refine wp_region_lit ?_
      refine st_val hS rfl rfl (by decide) (r_move rfl (hS.ev_ rfl)) fun a hS => ?_
      refine st_val hS rfl rfl (by decide) (r_cmp8 rfl (hS.ev_ rfl) (hS.ev_ (v := Value.int .u8 (b8 (250))) rfl) rfl) fun a hS => ?_
      refine st_val hS rfl rfl (by decide) (r_assign rfl (hS.ev_ rfl)) fun a hS => ?_
      refine st_done ?_
      replace hS : Slots 113 [] a [(50, Value.bool (p5 == 250)), (6, Value.pointer (some ⟨g8, 0, none⟩)), (5, Value.bool (false)), (4, Value.pointer (some ⟨g6, 0, none⟩)), (0, Value.pointer (some ⟨g2, 0, none⟩)), (1, Value.int .u8 (b8 (p5)))] := (hS.part (.cons rfl (.cons rfl (.cons rfl (.cons rfl (.cons rfl (.cons rfl (.nil _))))))))
      refine x_then ?_
      rcases ifB h with ⟨hc13, h⟩ | ⟨hc13, h⟩
      · refine c_cond_true (hS.ev_ rfl) hc13 ?_
        refine wp_seq ?_
        refine wp_region_lit ?_
        refine st_val hS rfl rfl (by decide) (r_move rfl (hS.ev_ rfl)) fun a hS => ?_
        refine st_val hS rfl rfl (by decide) (r_nilCheck rfl (hS.ev_ rfl)) fun a hS => ?_
        refine st_val hS rfl rfl (by decide) (r_fld_b rfl fo_43_0 (hS.ev_ rfl)) fun a hS => ?_
        refine wl_cons rfl (e_store1 hM rfl ti_3 (hS.ev_ rfl) (hS.ev_ rfl) rfl (Nat.lt_of_lt_of_le (Nat.le_of_ble_eq_true rfl) (Nat.le_refl _)) fun w hM => ?_)
        have hM : Sat w0 w K (SP.blk g2 43 [Value.int .i64 (3), Value.int .i64 (p1.f_token.f_Kind), Value.int .i64 (p1.f_token.f_Code), Value.int .i64 (p1.f_token.f_Option), v3, Value.bool (p1.f_token.f_Cut)] :: SP.blk g8 30 [Value.int .i64 (0), Value.int .i64 (0), Value.int .i64 (0), Value.slice none 0 0, Value.bool (false)] :: SP.blk g6 30 [Value.int .i64 (0), Value.int .i64 (0), Value.int .i64 (0), Value.slice none 0 0, Value.bool (false)] :: SP.row Kd.u8 5 v3 p1.f_token.f_Body :: L) := hM
        refine pl0 hS rfl fun a hS => ?_
        refine st_done ?_
        replace hS : Slots 113 [] a [(6, Value.pointer (some ⟨g8, 0, none⟩)), (5, Value.bool (false)), (4, Value.pointer (some ⟨g6, 0, none⟩)), (0, Value.pointer (some ⟨g2, 0, none⟩)), (1, Value.int .u8 (b8 (p5)))] := (hS.part (.cons rfl (.cons rfl (.cons rfl (.cons rfl (.cons rfl (.nil _)))))))
        refine x_then ?_
        refine wp_goto ?_
        refine x_block_goto ?_
        refine x_then_goto ?_
        refine x_scope_goto' (b := _) rfl ?_
        refine c_scp_seq ?_
        refine wp_seq ?_
        refine wp_region_lit ?_
        refine st_val hS rfl rfl (by decide) (r_build (cs := [Value.int .i64 (0), Value.int .i64 (0), Value.int .i64 (0), Value.slice none 0 0, Value.bool (false)]) rfl (parts_ev hS rfl) (by kernel_rfl)) fun a hS => ?_
        replace hM := hM.pull 2 rfl rfl
        refine wl_cons rfl (e_storeN (vs := [Value.int .i64 (0), Value.int .i64 (0), Value.int .i64 (0), Value.slice none 0 0, Value.bool (false)]) hM rfl ti_30 (hS.ev_ rfl) (hS.ev_ rfl) (ones_cons rfl (ones_cons rfl (ones_cons rfl (ones_cons rfl (ones_cons rfl ones_nil))))) (Nat.le_of_ble_eq_true rfl) fun w hM => ?_)
        have hM : Sat w0 w K (SP.blk g6 30 [Value.int .i64 (0), Value.int .i64 (0), Value.int .i64 (0), Value.slice none 0 0, Value.bool (false)] :: SP.blk g2 43 [Value.int .i64 (3), Value.int .i64 (p1.f_token.f_Kind), Value.int .i64 (p1.f_token.f_Code), Value.int .i64 (p1.f_token.f_Option), v3, Value.bool (p1.f_token.f_Cut)] :: SP.blk g8 30 [Value.int .i64 (0), Value.int .i64 (0), Value.int .i64 (0), Value.slice none 0 0, Value.bool (false)] :: SP.row Kd.u8 5 v3 p1.f_token.f_Body :: L) := hM
        refine pl0 hS rfl fun a hS => ?_
        refine st_val hS rfl rfl (by decide) (r_assign rfl (hS.ev_ rfl)) fun a hS => ?_
        refine st_done ?_
        replace hS : Slots 113 [] a [(5, Value.bool (false)), (6, Value.pointer (some ⟨g8, 0, none⟩)), (4, Value.pointer (some ⟨g6, 0, none⟩)), (0, Value.pointer (some ⟨g2, 0, none⟩)), (1, Value.int .u8 (b8 (p5)))] := (hS.part (.cons rfl (.cons rfl (.cons rfl (.cons rfl (.cons rfl (.nil _)))))))
        refine x_then ?_
        refine wp_ret ?_
        refine x_then_ret ?_
        refine x_scope_ret ?_
        have hr' := Option.some.inj h
        subst hr'
        refine retR2 (.inr rfl) hS rfl ⟨_, rfl, lv_N (cs' := [Value.int .i64 (0), Value.int .i64 (0), Value.int .i64 (0), Value.slice none 0 0, Value.bool (false)]) hM ag_30 ti_30 rfl⟩ (show Sl.look _ _ = some (Value.bool (false)) from rfl) ?_
        exact ⟨K, (Value.slice none 0 0), (v3), (Hp.le.refl _), ((((hM).tail.pull 1 rfl rfl).tail.pull 1 rfl rfl).pull 1 rfl rfl), rfl, (Kd.sl_nil _ _)⟩
      · refine c_cond_false (hS.ev_ rfl) hc13 ?_
        refine wp_seq ?_
        refine wp_region_lit ?_
        refine st_val hS rfl rfl (by decide) (r_move rfl (hS.ev_ rfl)) fun a hS => ?_
        refine st_val hS rfl rfl (by decide) (r_conv_8i rfl un_5 un_3 (hS.ev_ rfl)) fun a hS => ?_
        obtain ⟨y14, h15, h⟩ := bindO h
        have hc17 := codes_Verb_c hG h15 hM
        refine wl_cons rfl (e_call rfl Tryd.func19 rfl rfl (args1 (hS.ev_ rfl)) hc17 ?_)
        rintro _ w ⟨K16, hlK16, hM, rfl⟩
        refine ⟨_, rfl, ?_⟩
        refine pl hS rfl (by decide) fun a hS => ?_
        refine st_val hS rfl rfl (by decide) (r_assign rfl (hS.ev_ rfl)) fun a hS => ?_
        refine st_done ?_
        replace hS : Slots 113 [] a [(56, Value.bool (y14)), (6, Value.pointer (some ⟨g8, 0, none⟩)), (5, Value.bool (false)), (4, Value.pointer (some ⟨g6, 0, none⟩)), (0, Value.pointer (some ⟨g2, 0, none⟩)), (1, Value.int .u8 (b8 (p5)))] := (hS.part (.cons rfl (.cons rfl (.cons rfl (.cons rfl (.cons rfl (.cons rfl (.nil _))))))))
        refine x_then ?_
        rcases ifB h with ⟨hc18, h⟩ | ⟨hc18, h⟩
        · refine c_cond_true (hS.ev_ rfl) hc18 ?_
          refine wp_seq ?_
          refine wp_region_lit ?_
          refine st_val hS rfl rfl (by decide) (r_move rfl (hS.ev_ rfl)) fun a hS => ?_
          refine st_val hS rfl rfl (by decide) (r_move rfl (hS.ev_ rfl)) fun a hS => ?_
          refine st_val hS rfl rfl (by decide) (r_move rfl (hS.ev_ rfl)) fun a hS => ?_
          refine st_val hS rfl rfl (by decide) (r_conv_8i rfl un_5 un_3 (hS.ev_ rfl)) fun a hS => ?_
          refine st_val hS rfl rfl (by decide) (r_build (cs := [Value.int .i64 (0), Value.int .i64 (b8 p5), Value.int .i64 (0), Value.slice none 0 0, Value.bool (false)]) rfl (parts_ev hS rfl) (by kernel_rfl)) fun a hS => ?_
          refine st_val hS rfl rfl (by decide) (r_nilCheck rfl (hS.ev_ rfl)) fun a hS => ?_
          refine st_val hS rfl rfl (by decide) (r_fld_b rfl fo_43_0 (hS.ev_ rfl)) fun a hS => ?_
          refine wl_cons rfl (e_store1 hM rfl ti_3 (hS.ev_ rfl) (hS.ev_ rfl) rfl (Nat.lt_of_lt_of_le (Nat.le_of_ble_eq_true rfl) (Nat.le_refl _)) fun w hM => ?_)
          have hM : Sat w0 w K16 (SP.blk g2 43 [Value.int .i64 (2), Value.int .i64 (p1.f_token.f_Kind), Value.int .i64 (p1.f_token.f_Code), Value.int .i64 (p1.f_token.f_Option), v3, Value.bool (p1.f_token.f_Cut)] :: SP.blk g8 30 [Value.int .i64 (0), Value.int .i64 (0), Value.int .i64 (0), Value.slice none 0 0, Value.bool (false)] :: SP.blk g6 30 [Value.int .i64 (0), Value.int .i64 (0), Value.int .i64 (0), Value.slice none 0 0, Value.bool (false)] :: SP.row Kd.u8 5 v3 p1.f_token.f_Body :: L) := hM
          refine pl0 hS rfl fun a hS => ?_
          refine st_val hS rfl rfl (by decide) (r_nilCheck rfl (hS.ev_ rfl)) fun a hS => ?_
          refine st_val hS rfl rfl (by decide) (r_fld_b rfl fo_43_1 (hS.ev_ rfl)) fun a hS => ?_
          refine wl_cons rfl (e_storeN (vs := [Value.int .i64 (0), Value.int .i64 (b8 p5), Value.int .i64 (0), Value.slice none 0 0, Value.bool (false)]) hM rfl ti_30 (hS.ev_ rfl) (hS.ev_ rfl) (ones_cons rfl (ones_cons rfl (ones_cons rfl (ones_cons rfl (ones_cons rfl ones_nil))))) (Nat.le_of_ble_eq_true rfl) fun w hM => ?_)
          have hM : Sat w0 w K16 (SP.blk g2 43 [Value.int .i64 (2), Value.int .i64 (0), Value.int .i64 (b8 p5), Value.int .i64 (0), Value.slice none 0 0, Value.bool (false)] :: SP.blk g8 30 [Value.int .i64 (0), Value.int .i64 (0), Value.int .i64 (0), Value.slice none 0 0, Value.bool (false)] :: SP.blk g6 30 [Value.int .i64 (0), Value.int .i64 (0), Value.int .i64 (0), Value.slice none 0 0, Value.bool (false)] :: SP.row Kd.u8 5 v3 p1.f_token.f_Body :: L) := hM
          refine pl0 hS rfl fun a hS => ?_
          refine st_done ?_
          replace hS : Slots 113 [] a [(6, Value.pointer (some ⟨g8, 0, none⟩)), (5, Value.bool (false)), (4, Value.pointer (some ⟨g6, 0, none⟩)), (0, Value.pointer (some ⟨g2, 0, none⟩)), (1, Value.int .u8 (b8 (p5)))] := (hS.part (.cons rfl (.cons rfl (.cons rfl (.cons rfl (.cons rfl (.nil _)))))))
          refine x_then ?_
          refine wp_goto ?_
          refine x_block_goto ?_
          refine x_then_goto ?_
          refine x_scope_goto' (b := _) rfl ?_
          refine c_scp_seq ?_
          refine wp_seq ?_
          refine wp_region_lit ?_
          refine st_val hS rfl rfl (by decide) (r_build (cs := [Value.int .i64 (0), Value.int .i64 (0), Value.int .i64 (0), Value.slice none 0 0, Value.bool (false)]) rfl (parts_ev hS rfl) (by kernel_rfl)) fun a hS => ?_
          replace hM := hM.pull 2 rfl rfl
          refine wl_cons rfl (e_storeN (vs := [Value.int .i64 (0), Value.int .i64 (0), Value.int .i64 (0), Value.slice none 0 0, Value.bool (false)]) hM rfl ti_30 (hS.ev_ rfl) (hS.ev_ rfl) (ones_cons rfl (ones_cons rfl (ones_cons rfl (ones_cons rfl (ones_cons rfl ones_nil))))) (Nat.le_of_ble_eq_true rfl) fun w hM => ?_)
          have hM : Sat w0 w K16 (SP.blk g6 30 [Value.int .i64 (0), Value.int .i64 (0), Value.int .i64 (0), Value.slice none 0 0, Value.bool (false)] :: SP.blk g2 43 [Value.int .i64 (2), Value.int .i64 (0), Value.int .i64 (b8 p5), Value.int .i64 (0), Value.slice none 0 0, Value.bool (false)] :: SP.blk g8 30 [Value.int .i64 (0), Value.int .i64 (0), Value.int .i64 (0), Value.slice none 0 0, Value.bool (false)] :: SP.row Kd.u8 5 v3 p1.f_token.f_Body :: L) := hM
          refine pl0 hS rfl fun a hS => ?_
          refine st_val hS rfl rfl (by decide) (r_assign rfl (hS.ev_ rfl)) fun a hS => ?_
          refine st_done ?_
          replace hS : Slots 113 [] a [(5, Value.bool (false)), (6, Value.pointer (some ⟨g8, 0, none⟩)), (4, Value.pointer (some ⟨g6, 0, none⟩)), (0, Value.pointer (some ⟨g2, 0, none⟩)), (1, Value.int .u8 (b8 (p5)))] := (hS.part (.cons rfl (.cons rfl (.cons rfl (.cons rfl (.cons rfl (.nil _)))))))
          refine x_then ?_
          refine wp_ret ?_
          refine x_then_ret ?_
          refine x_scope_ret ?_
          replace hM := hM.row_nil Kd.u8 5
          have hr' := Option.some.inj h
          subst hr'
          refine retR2 (.inr rfl) hS rfl ⟨_, rfl, lv_N (cs' := [Value.int .i64 (0), Value.int .i64 (0), Value.int .i64 (0), Value.slice none 0 0, Value.bool (false)]) (hM.pull 1 rfl rfl) ag_30 ti_30 rfl⟩ (show Sl.look _ _ = some (Value.bool (false)) from rfl) ?_
          exact ⟨K16, (Value.slice none 0 0), ((Value.slice none 0 0)), hlK16, ((((hM.pull 1 rfl rfl).tail.pull 2 rfl rfl).tail.pull 2 rfl rfl).tail.pull 1 rfl rfl), rfl, (Kd.sl_nil _ _)⟩
        · refine c_cond_false (hS.ev_ rfl) hc18 ?_
          refine wp_skip ?_
          refine x_block ?_
          refine x_then ?_
          refine c_scp_seq ?_
          refine wp_region_lit ?_
          refine st_val hS rfl rfl (by decide) (r_move rfl (hS.ev_ rfl)) fun a hS => ?_
          refine st_val hS rfl rfl (by decide) (r_conv_8i rfl un_5 un_3 (hS.ev_ rfl)) fun a hS => ?_
          refine st_val hS rfl rfl (by decide) (r_build (cs := [Value.int .i64 (2), Value.int .i64 (b8 p5), Value.int .i64 (0), Value.slice none 0 0, Value.bool (false)]) rfl (parts_ev hS rfl) (by kernel_rfl)) fun a hS => ?_
          replace hM := hM.pull 1 rfl rfl
          refine wl_cons rfl (e_storeN (vs := [Value.int .i64 (2), Value.int .i64 (b8 p5), Value.int .i64 (0), Value.slice none 0 0, Value.bool (false)]) hM rfl ti_30 (hS.ev_ rfl) (hS.ev_ rfl) (ones_cons rfl (ones_cons rfl (ones_cons rfl (ones_cons rfl (ones_cons rfl ones_nil))))) (Nat.le_of_ble_eq_true rfl) fun w hM => ?_)
          have hM : Sat w0 w K16 (SP.blk g8 30 [Value.int .i64 (2), Value.int .i64 (b8 p5), Value.int .i64 (0), Value.slice none 0 0, Value.bool (false)] :: SP.blk g2 43 [Value.int .i64 (p1.f_state), Value.int .i64 (p1.f_token.f_Kind), Value.int .i64 (p1.f_token.f_Code), Value.int .i64 (p1.f_token.f_Option), v3, Value.bool (p1.f_token.f_Cut)] :: SP.blk g6 30 [Value.int .i64 (0), Value.int .i64 (0), Value.int .i64 (0), Value.slice none 0 0, Value.bool (false)] :: SP.row Kd.u8 5 v3 p1.f_token.f_Body :: L) := hM
          refine pl0 hS rfl fun a hS => ?_
          refine st_done ?_
          replace hS : Slots 113 [] a [(6, Value.pointer (some ⟨g8, 0, none⟩)), (5, Value.bool (false)), (4, Value.pointer (some ⟨g6, 0, none⟩)), (0, Value.pointer (some ⟨g2, 0, none⟩)), (1, Value.int .u8 (b8 (p5)))] := (hS.part (.cons rfl (.cons rfl (.cons rfl (.cons rfl (.cons rfl (.nil _)))))))
          refine x_then ?_
          refine c_scp_seq ?_
          refine wp_goto ?_
          refine x_then_goto ?_
          refine x_scope_goto' (b := _) rfl ?_
          refine c_scp_seq ?_
          refine wp_region_lit ?_
          refine st_val hS rfl rfl (by decide) (r_move rfl (hS.ev_ rfl)) fun a hS => ?_
          refine st_val hS rfl rfl (by decide) (r_move rfl (hS.ev_ rfl)) fun a hS => ?_
          refine st_val hS rfl rfl (by decide) (r_build (cs := [Value.int .i64 (0), Value.int .i64 (0), Value.int .i64 (0), Value.slice none 0 0, Value.bool (false)]) rfl (parts_ev hS rfl) (by kernel_rfl)) fun a hS => ?_
          refine st_val hS rfl rfl (by decide) (r_nilCheck rfl (hS.ev_ rfl)) fun a hS => ?_
          refine st_val hS rfl rfl (by decide) (r_fld_b rfl fo_43_0 (hS.ev_ rfl)) fun a hS => ?_
          replace hM := hM.pull 1 rfl rfl
          refine wl_cons rfl (e_store1 hM rfl ti_3 (hS.ev_ rfl) (hS.ev_ rfl) rfl (Nat.lt_of_lt_of_le (Nat.le_of_ble_eq_true rfl) (Nat.le_refl _)) fun w hM => ?_)
          have hM : Sat w0 w K16 (SP.blk g2 43 [Value.int .i64 (0), Value.int .i64 (p1.f_token.f_Kind), Value.int .i64 (p1.f_token.f_Code), Value.int .i64 (p1.f_token.f_Option), v3, Value.bool (p1.f_token.f_Cut)] :: SP.blk g8 30 [Value.int .i64 (2), Value.int .i64 (b8 p5), Value.int .i64 (0), Value.slice none 0 0, Value.bool (false)] :: SP.blk g6 30 [Value.int .i64 (0), Value.int .i64 (0), Value.int .i64 (0), Value.slice none 0 0, Value.bool (false)] :: SP.row Kd.u8 5 v3 p1.f_token.f_Body :: L) := hM
          refine pl0 hS rfl fun a hS => ?_
          refine st_val hS rfl rfl (by decide) (r_nilCheck rfl (hS.ev_ rfl)) fun a hS => ?_
          refine st_val hS rfl rfl (by decide) (r_fld_b rfl fo_43_1 (hS.ev_ rfl)) fun a hS => ?_
          refine wl_cons rfl (e_storeN (vs := [Value.int .i64 (0), Value.int .i64 (0), Value.int .i64 (0), Value.slice none 0 0, Value.bool (false)]) hM rfl ti_30 (hS.ev_ rfl) (hS.ev_ rfl) (ones_cons rfl (ones_cons rfl (ones_cons rfl (ones_cons rfl (ones_cons rfl ones_nil))))) (Nat.le_of_ble_eq_true rfl) fun w hM => ?_)
          have hM : Sat w0 w K16 (SP.blk g2 43 [Value.int .i64 (0), Value.int .i64 (0), Value.int .i64 (0), Value.int .i64 (0), Value.slice none 0 0, Value.bool (false)] :: SP.blk g8 30 [Value.int .i64 (2), Value.int .i64 (b8 p5), Value.int .i64 (0), Value.slice none 0 0, Value.bool (false)] :: SP.blk g6 30 [Value.int .i64 (0), Value.int .i64 (0), Value.int .i64 (0), Value.slice none 0 0, Value.bool (false)] :: SP.row Kd.u8 5 v3 p1.f_token.f_Body :: L) := hM
          refine pl0 hS rfl fun a hS => ?_
          refine st_done ?_
          replace hS : Slots 113 [] a [(6, Value.pointer (some ⟨g8, 0, none⟩)), (5, Value.bool (false)), (4, Value.pointer (some ⟨g6, 0, none⟩)), (0, Value.pointer (some ⟨g2, 0, none⟩)), (1, Value.int .u8 (b8 (p5)))] := (hS.part (.cons rfl (.cons rfl (.cons rfl (.cons rfl (.cons rfl (.nil _)))))))
          refine x_then ?_
          refine c_scp_seq ?_
          refine wp_region_lit ?_
          replace hM := hM.pull 1 rfl rfl
          refine st_val hS rfl rfl (by decide) (r_ldN_b (cs' := [Value.int .i64 (2), Value.int .i64 (b8 p5), Value.int .i64 (0), Value.slice none 0 0, Value.bool (false)]) rfl ag_30 ti_30 (hS.ev_ rfl) rfl (Rd.of hM)) fun a hS => ?_
          replace hM := hM.pull 2 rfl rfl
          refine wl_cons rfl (e_storeN (vs := [Value.int .i64 (2), Value.int .i64 (b8 p5), Value.int .i64 (0), Value.slice none 0 0, Value.bool (false)]) hM rfl ti_30 (hS.ev_ rfl) (hS.ev_ rfl) (ones_cons rfl (ones_cons rfl (ones_cons rfl (ones_cons rfl (ones_cons rfl ones_nil))))) (Nat.le_of_ble_eq_true rfl) fun w hM => ?_)
          have hM : Sat w0 w K16 (SP.blk g6 30 [Value.int .i64 (2), Value.int .i64 (b8 p5), Value.int .i64 (0), Value.slice none 0 0, Value.bool (false)] :: SP.blk g8 30 [Value.int .i64 (2), Value.int .i64 (b8 p5), Value.int .i64 (0), Value.slice none 0 0, Value.bool (false)] :: SP.blk g2 43 [Value.int .i64 (0), Value.int .i64 (0), Value.int .i64 (0), Value.int .i64 (0), Value.slice none 0 0, Value.bool (false)] :: SP.row Kd.u8 5 v3 p1.f_token.f_Body :: L) := hM
          refine pl0 hS rfl fun a hS => ?_
          refine st_val hS rfl rfl (by decide) (r_assign rfl (hS.ev_ rfl)) fun a hS => ?_
          refine st_done ?_
          replace hS : Slots 113 [] a [(5, Value.bool (true)), (6, Value.pointer (some ⟨g8, 0, none⟩)), (4, Value.pointer (some ⟨g6, 0, none⟩)), (0, Value.pointer (some ⟨g2, 0, none⟩)), (1, Value.int .u8 (b8 (p5)))] := (hS.part (.cons rfl (.cons rfl (.cons rfl (.cons rfl (.cons rfl (.nil _)))))))
          refine x_then ?_
          refine c_scp ?_
          refine wp_ret ?_
          refine x_scope_ret ?_
          replace hM := hM.row_nil Kd.u8 5
          have hr' := Option.some.inj h
          subst hr'
          refine retR2 (.inr rfl) hS rfl ⟨_, rfl, lv_N (cs' := [Value.int .i64 (2), Value.int .i64 (b8 p5), Value.int .i64 (0), Value.slice none 0 0, Value.bool (false)]) (hM.pull 1 rfl rfl) ag_30 ti_30 rfl⟩ (show Sl.look _ _ = some (Value.bool (true)) from rfl) ?_
          exact ⟨K16, (Value.slice none 0 0), ((Value.slice none 0 0)), hlK16, ((((hM.pull 1 rfl rfl).tail.pull 1 rfl rfl).tail.pull 2 rfl rfl).tail.pull 1 rfl rfl), rfl, (Kd.sl_nil _ _)⟩
  · refine c_cond_false (hS.ev_ rfl) hc10 ?_
    refine wp_seq ?_
    refine wp_region_lit ?_
    refine st_val hS rfl rfl (by decide) (r_cmp rfl (hS.ev_ rfl) (hS.ev_ rfl) rfl) fun a hS => ?_
    refine st_val hS rfl rfl (by decide) (r_assign rfl (hS.ev_ rfl)) fun a hS => ?_
    refine st_done ?_
    replace hS : Slots 113 [] a [(13, Value.bool (p1.f_state == 2)), (10, Value.int .i64 (p1.f_state)), (6, Value.pointer (some ⟨g8, 0, none⟩)), (5, Value.bool (false)), (4, Value.pointer (some ⟨g6, 0, none⟩)), (0, Value.pointer (some ⟨g2, 0, none⟩)), (1, Value.int .u8 (b8 (p5)))] := (hS.part (.cons rfl (.cons rfl (.cons rfl (.cons rfl (.cons rfl (.cons rfl (.cons rfl (.nil _)))))))))
    refine x_then ?_
    rcases ifB h with ⟨hc21, h⟩ | ⟨hc21, h⟩
    · refine c_cond_true (hS.ev_ rfl) hc21 ?_
      refine wp_seq ?_
      refine wp_region_lit ?_
      refine st_val hS rfl rfl (by decide) (r_move rfl (hS.ev_ rfl)) fun a hS => ?_
      refine st_val hS rfl rfl (by decide) (r_nilCheck rfl (hS.ev_ rfl)) fun a hS => ?_
      refine st_val hS rfl rfl (by decide) (r_fld_b rfl fo_43_1 (hS.ev_ rfl)) fun a hS => ?_
      refine st_val hS rfl rfl (by decide) (r_fld_b rfl fo_30_1 (hS.ev_ rfl)) fun a hS => ?_
      refine st_val hS rfl rfl (by decide) (r_ld1_b rfl ag_3 (hS.ev_ rfl) rfl (Rd.of hM)) fun a hS => ?_
      refine st_val hS rfl rfl (by decide) (r_move rfl (hS.ev_ rfl)) fun a hS => ?_
      refine st_val hS rfl rfl (by decide) (r_conv_8i rfl un_5 un_3 (hS.ev_ rfl)) fun a hS => ?_
      refine st_val hS rfl rfl (by decide) (r_build (cs := [Value.int .i64 (3), Value.int .i64 (p1.f_token.f_Code), Value.int .i64 (b8 p5), Value.slice none 0 0, Value.bool (false)]) rfl (parts_ev hS rfl) (by kernel_rfl)) fun a hS => ?_
      replace hM := hM.pull 1 rfl rfl
      refine wl_cons rfl (e_storeN (vs := [Value.int .i64 (3), Value.int .i64 (p1.f_token.f_Code), Value.int .i64 (b8 p5), Value.slice none 0 0, Value.bool (false)]) hM rfl ti_30 (hS.ev_ rfl) (hS.ev_ rfl) (ones_cons rfl (ones_cons rfl (ones_cons rfl (ones_cons rfl (ones_cons rfl ones_nil))))) (Nat.le_of_ble_eq_true rfl) fun w hM => ?_)
      have hM : Sat w0 w K (SP.blk g8 30 [Value.int .i64 (3), Value.int .i64 (p1.f_token.f_Code), Value.int .i64 (b8 p5), Value.slice none 0 0, Value.bool (false)] :: SP.blk g2 43 [Value.int .i64 (p1.f_state), Value.int .i64 (p1.f_token.f_Kind), Value.int .i64 (p1.f_token.f_Code), Value.int .i64 (p1.f_token.f_Option), v3, Value.bool (p1.f_token.f_Cut)] :: SP.blk g6 30 [Value.int .i64 (0), Value.int .i64 (0), Value.int .i64 (0), Value.slice none 0 0, Value.bool (false)] :: SP.row Kd.u8 5 v3 p1.f_token.f_Body :: L) := hM
      refine pl0 hS rfl fun a hS => ?_
      refine st_done ?_
      replace hS : Slots 113 [] a [(6, Value.pointer (some ⟨g8, 0, none⟩)), (5, Value.bool (false)), (4, Value.pointer (some ⟨g6, 0, none⟩)), (0, Value.pointer (some ⟨g2, 0, none⟩)), (1, Value.int .u8 (b8 (p5)))] := (hS.part (.cons rfl (.cons rfl (.cons rfl (.cons rfl (.cons rfl (.nil _)))))))
      refine x_then ?_
      refine wp_goto ?_
      refine x_block_goto ?_
      refine x_then_goto ?_
      refine x_scope_goto' (b := _) rfl ?_
      refine c_scp_seq ?_
      refine wp_region_lit ?_
      refine st_val hS rfl rfl (by decide) (r_move rfl (hS.ev_ rfl)) fun a hS => ?_
      refine st_val hS rfl rfl (by decide) (r_move rfl (hS.ev_ rfl)) fun a hS => ?_
      refine st_val hS rfl rfl (by decide) (r_build (cs := [Value.int .i64 (0), Value.int .i64 (0), Value.int .i64 (0), Value.slice none 0 0, Value.bool (false)]) rfl (parts_ev hS rfl) (by kernel_rfl)) fun a hS => ?_
      refine st_val hS rfl rfl (by decide) (r_nilCheck rfl (hS.ev_ rfl)) fun a hS => ?_
      refine st_val hS rfl rfl (by decide) (r_fld_b rfl fo_43_0 (hS.ev_ rfl)) fun a hS => ?_
      replace hM := hM.pull 1 rfl rfl
      refine wl_cons rfl (e_store1 hM rfl ti_3 (hS.ev_ rfl) (hS.ev_ rfl) rfl (Nat.lt_of_lt_of_le (Nat.le_of_ble_eq_true rfl) (Nat.le_refl _)) fun w hM => ?_)
      have hM : Sat w0 w K (SP.blk g2 43 [Value.int .i64 (0), Value.int .i64 (p1.f_token.f_Kind), Value.int .i64 (p1.f_token.f_Code), Value.int .i64 (p1.f_token.f_Option), v3, Value.bool (p1.f_token.f_Cut)] :: SP.blk g8 30 [Value.int .i64 (3), Value.int .i64 (p1.f_token.f_Code), Value.int .i64 (b8 p5), Value.slice none 0 0, Value.bool (false)] :: SP.blk g6 30 [Value.int .i64 (0), Value.int .i64 (0), Value.int .i64 (0), Value.slice none 0 0, Value.bool (false)] :: SP.row Kd.u8 5 v3 p1.f_token.f_Body :: L) := hM
      refine pl0 hS rfl fun a hS => ?_
      refine st_val hS rfl rfl (by decide) (r_nilCheck rfl (hS.ev_ rfl)) fun a hS => ?_
      refine st_val hS rfl rfl (by decide) (r_fld_b rfl fo_43_1 (hS.ev_ rfl)) fun a hS => ?_
      refine wl_cons rfl (e_storeN (vs := [Value.int .i64 (0), Value.int .i64 (0), Value.int .i64 (0), Value.slice none 0 0, Value.bool (false)]) hM rfl ti_30 (hS.ev_ rfl) (hS.ev_ rfl) (ones_cons rfl (ones_cons rfl (ones_cons rfl (ones_cons rfl (ones_cons rfl ones_nil))))) (Nat.le_of_ble_eq_true rfl) fun w hM => ?_)
      have hM : Sat w0 w K (SP.blk g2 43 [Value.int .i64 (0), Value.int .i64 (0), Value.int .i64 (0), Value.int .i64 (0), Value.slice none 0 0, Value.bool (false)] :: SP.blk g8 30 [Value.int .i64 (3), Value.int .i64 (p1.f_token.f_Code), Value.int .i64 (b8 p5), Value.slice none 0 0, Value.bool (false)] :: SP.blk g6 30 [Value.int .i64 (0), Value.int .i64 (0), Value.int .i64 (0), Value.slice none 0 0, Value.bool (false)] :: SP.row Kd.u8 5 v3 p1.f_token.f_Body :: L) := hM
      refine pl0 hS rfl fun a hS => ?_
      refine st_done ?_
      replace hS : Slots 113 [] a [(6, Value.pointer (some ⟨g8, 0, none⟩)), (5, Value.bool (false)), (4, Value.pointer (some ⟨g6, 0, none⟩)), (0, Value.pointer (some ⟨g2, 0, none⟩)), (1, Value.int .u8 (b8 (p5)))] := (hS.part (.cons rfl (.cons rfl (.cons rfl (.cons rfl (.cons rfl (.nil _)))))))
      refine x_then ?_
      refine c_scp_seq ?_
      refine wp_region_lit ?_
      replace hM := hM.pull 1 rfl rfl
      refine st_val hS rfl rfl (by decide) (r_ldN_b (cs' := [Value.int .i64 (3), Value.int .i64 (p1.f_token.f_Code), Value.int .i64 (b8 p5), Value.slice none 0 0, Value.bool (false)]) rfl ag_30 ti_30 (hS.ev_ rfl) rfl (Rd.of hM)) fun a hS => ?_
      replace hM := hM.pull 2 rfl rfl
      refine wl_cons rfl (e_storeN (vs := [Value.int .i64 (3), Value.int .i64 (p1.f_token.f_Code), Value.int .i64 (b8 p5), Value.slice none 0 0, Value.bool (false)]) hM rfl ti_30 (hS.ev_ rfl) (hS.ev_ rfl) (ones_cons rfl (ones_cons rfl (ones_cons rfl (ones_cons rfl (ones_cons rfl ones_nil))))) (Nat.le_of_ble_eq_true rfl) fun w hM => ?_)
      have hM : Sat w0 w K (SP.blk g6 30 [Value.int .i64 (3), Value.int .i64 (p1.f_token.f_Code), Value.int .i64 (b8 p5), Value.slice none 0 0, Value.bool (false)] :: SP.blk g8 30 [Value.int .i64 (3), Value.int .i64 (p1.f_token.f_Code), Value.int .i64 (b8 p5), Value.slice none 0 0, Value.bool (false)] :: SP.blk g2 43 [Value.int .i64 (0), Value.int .i64 (0), Value.int .i64 (0), Value.int .i64 (0), Value.slice none 0 0, Value.bool (false)] :: SP.row Kd.u8 5 v3 p1.f_token.f_Body :: L) := hM
      refine pl0 hS rfl fun a hS => ?_
      refine st_val hS rfl rfl (by decide) (r_assign rfl (hS.ev_ rfl)) fun a hS => ?_
      refine st_done ?_
      replace hS : Slots 113 [] a [(5, Value.bool (true)), (6, Value.pointer (some ⟨g8, 0, none⟩)), (4, Value.pointer (some ⟨g6, 0, none⟩)), (0, Value.pointer (some ⟨g2, 0, none⟩)), (1, Value.int .u8 (b8 (p5)))] := (hS.part (.cons rfl (.cons rfl (.cons rfl (.cons rfl (.cons rfl (.nil _)))))))
      refine x_then ?_
      refine c_scp ?_
      refine wp_ret ?_
      refine x_scope_ret ?_
      replace hM := hM.row_nil Kd.u8 5
      have hr' := Option.some.inj h
      subst hr'
      refine retR2 (.inr rfl) hS rfl ⟨_, rfl, lv_N (cs' := [Value.int .i64 (3), Value.int .i64 (p1.f_token.f_Code), Value.int .i64 (b8 p5), Value.slice none 0 0, Value.bool (false)]) (hM.pull 1 rfl rfl) ag_30 ti_30 rfl⟩ (show Sl.look _ _ = some (Value.bool (true)) from rfl) ?_
      exact ⟨K, (Value.slice none 0 0), ((Value.slice none 0 0)), (Hp.le.refl _), ((((hM.pull 1 rfl rfl).tail.pull 1 rfl rfl).tail.pull 2 rfl rfl).tail.pull 1 rfl rfl), rfl, (Kd.sl_nil _ _)⟩
    · refine c_cond_false (hS.ev_ rfl) hc21 ?_
      refine wp_seq ?_
      refine wp_region_lit ?_
      refine st_val hS rfl rfl (by decide) (r_cmp rfl (hS.ev_ rfl) (hS.ev_ rfl) rfl) fun a hS => ?_
      refine st_val hS rfl rfl (by decide) (r_assign rfl (hS.ev_ rfl)) fun a hS => ?_
      refine st_done ?_
      replace hS : Slots 113 [] a [(23, Value.bool (p1.f_state == 3)), (10, Value.int .i64 (p1.f_state)), (6, Value.pointer (some ⟨g8, 0, none⟩)), (5, Value.bool (false)), (4, Value.pointer (some ⟨g6, 0, none⟩)), (0, Value.pointer (some ⟨g2, 0, none⟩)), (1, Value.int .u8 (b8 (p5)))] := (hS.part (.cons rfl (.cons rfl (.cons rfl (.cons rfl (.cons rfl (.cons rfl (.cons rfl (.nil _)))))))))
      refine x_then ?_
      rcases ifB h with ⟨hc23, h⟩ | ⟨hc23, h⟩
      · refine c_cond_true (hS.ev_ rfl) hc23 ?_
        refine wp_seq ?_
        refine wp_region_lit ?_
        refine st_val hS rfl rfl (by decide) (r_move rfl (hS.ev_ rfl)) fun a hS => ?_
        refine st_val hS rfl rfl (by decide) (r_move rfl (hS.ev_ rfl)) fun a hS => ?_
        refine st_val hS rfl rfl (by decide) (r_move rfl (hS.ev_ rfl)) fun a hS => ?_
        refine st_val hS rfl rfl (by decide) (r_conv_8i rfl un_5 un_3 (hS.ev_ rfl)) fun a hS => ?_
        refine st_val hS rfl rfl (by decide) (r_build (cs := [Value.int .i64 (0), Value.int .i64 (0), Value.int .i64 (b8 p5), Value.slice none 0 0, Value.bool (false)]) rfl (parts_ev hS rfl) (by kernel_rfl)) fun a hS => ?_
        refine st_val hS rfl rfl (by decide) (r_nilCheck rfl (hS.ev_ rfl)) fun a hS => ?_
        refine st_val hS rfl rfl (by decide) (r_fld_b rfl fo_43_0 (hS.ev_ rfl)) fun a hS => ?_
        refine wl_cons rfl (e_store1 hM rfl ti_3 (hS.ev_ rfl) (hS.ev_ rfl) rfl (Nat.lt_of_lt_of_le (Nat.le_of_ble_eq_true rfl) (Nat.le_refl _)) fun w hM => ?_)
        have hM : Sat w0 w K (SP.blk g2 43 [Value.int .i64 (4), Value.int .i64 (p1.f_token.f_Kind), Value.int .i64 (p1.f_token.f_Code), Value.int .i64 (p1.f_token.f_Option), v3, Value.bool (p1.f_token.f_Cut)] :: SP.blk g8 30 [Value.int .i64 (0), Value.int .i64 (0), Value.int .i64 (0), Value.slice none 0 0, Value.bool (false)] :: SP.blk g6 30 [Value.int .i64 (0), Value.int .i64 (0), Value.int .i64 (0), Value.slice none 0 0, Value.bool (false)] :: SP.row Kd.u8 5 v3 p1.f_token.f_Body :: L) := hM
        refine pl0 hS rfl fun a hS => ?_
        refine st_val hS rfl rfl (by decide) (r_nilCheck rfl (hS.ev_ rfl)) fun a hS => ?_
        refine st_val hS rfl rfl (by decide) (r_fld_b rfl fo_43_1 (hS.ev_ rfl)) fun a hS => ?_
        refine wl_cons rfl (e_storeN (vs := [Value.int .i64 (0), Value.int .i64 (0), Value.int .i64 (b8 p5), Value.slice none 0 0, Value.bool (false)]) hM rfl ti_30 (hS.ev_ rfl) (hS.ev_ rfl) (ones_cons rfl (ones_cons rfl (ones_cons rfl (ones_cons rfl (ones_cons rfl ones_nil))))) (Nat.le_of_ble_eq_true rfl) fun w hM => ?_)
        have hM : Sat w0 w K (SP.blk g2 43 [Value.int .i64 (4), Value.int .i64 (0), Value.int .i64 (0), Value.int .i64 (b8 p5), Value.slice none 0 0, Value.bool (false)] :: SP.blk g8 30 [Value.int .i64 (0), Value.int .i64 (0), Value.int .i64 (0), Value.slice none 0 0, Value.bool (false)] :: SP.blk g6 30 [Value.int .i64 (0), Value.int .i64 (0), Value.int .i64 (0), Value.slice none 0 0, Value.bool (false)] :: SP.row Kd.u8 5 v3 p1.f_token.f_Body :: L) := hM
        refine pl0 hS rfl fun a hS => ?_
        refine st_done ?_
        replace hS : Slots 113 [] a [(6, Value.pointer (some ⟨g8, 0, none⟩)), (5, Value.bool (false)), (4, Value.pointer (some ⟨g6, 0, none⟩)), (0, Value.pointer (some ⟨g2, 0, none⟩)), (1, Value.int .u8 (b8 (p5)))] := (hS.part (.cons rfl (.cons rfl (.cons rfl (.cons rfl (.cons rfl (.nil _)))))))
        refine x_then ?_
        refine wp_goto ?_
        refine x_block_goto ?_
        refine x_then_goto ?_
        refine x_scope_goto' (b := _) rfl ?_
        refine c_scp_seq ?_
        refine wp_seq ?_
        refine wp_region_lit ?_
        refine st_val hS rfl rfl (by decide) (r_build (cs := [Value.int .i64 (0), Value.int .i64 (0), Value.int .i64 (0), Value.slice none 0 0, Value.bool (false)]) rfl (parts_ev hS rfl) (by kernel_rfl)) fun a hS => ?_
        replace hM := hM.pull 2 rfl rfl
        refine wl_cons rfl (e_storeN (vs := [Value.int .i64 (0), Value.int .i64 (0), Value.int .i64 (0), Value.slice none 0 0, Value.bool (false)]) hM rfl ti_30 (hS.ev_ rfl) (hS.ev_ rfl) (ones_cons rfl (ones_cons rfl (ones_cons rfl (ones_cons rfl (ones_cons rfl ones_nil))))) (Nat.le_of_ble_eq_true rfl) fun w hM => ?_)
        have hM : Sat w0 w K (SP.blk g6 30 [Value.int .i64 (0), Value.int .i64 (0), Value.int .i64 (0), Value.slice none 0 0, Value.bool (false)] :: SP.blk g2 43 [Value.int .i64 (4), Value.int .i64 (0), Value.int .i64 (0), Value.int .i64 (b8 p5), Value.slice none 0 0, Value.bool (false)] :: SP.blk g8 30 [Value.int .i64 (0), Value.int .i64 (0), Value.int .i64 (0), Value.slice none 0 0, Value.bool (false)] :: SP.row Kd.u8 5 v3 p1.f_token.f_Body :: L) := hM
        refine pl0 hS rfl fun a hS => ?_
        refine st_val hS rfl rfl (by decide) (r_assign rfl (hS.ev_ rfl)) fun a hS => ?_
        refine st_done ?_
        replace hS : Slots 113 [] a [(5, Value.bool (false)), (6, Value.pointer (some ⟨g8, 0, none⟩)), (4, Value.pointer (some ⟨g6, 0, none⟩)), (0, Value.pointer (some ⟨g2, 0, none⟩)), (1, Value.int .u8 (b8 (p5)))] := (hS.part (.cons rfl (.cons rfl (.cons rfl (.cons rfl (.cons rfl (.nil _)))))))
        refine x_then ?_
        refine wp_ret ?_
        refine x_then_ret ?_
        refine x_scope_ret ?_
        replace hM := hM.row_nil Kd.u8 5
        have hr' := Option.some.inj h
        subst hr'
        refine retR2 (.inr rfl) hS rfl ⟨_, rfl, lv_N (cs' := [Value.int .i64 (0), Value.int .i64 (0), Value.int .i64 (0), Value.slice none 0 0, Value.bool (false)]) (hM.pull 1 rfl rfl) ag_30 ti_30 rfl⟩ (show Sl.look _ _ = some (Value.bool (false)) from rfl) ?_
        exact ⟨K, (Value.slice none 0 0), ((Value.slice none 0 0)), (Hp.le.refl _), ((((hM.pull 1 rfl rfl).tail.pull 2 rfl rfl).tail.pull 2 rfl rfl).tail.pull 1 rfl rfl), rfl, (Kd.sl_nil _ _)⟩
      · refine c_cond_false (hS.ev_ rfl) hc23 ?_
        refine wp_seq ?_
        refine wp_region_lit ?_
        refine st_val hS rfl rfl (by decide) (r_cmp rfl (hS.ev_ rfl) (hS.ev_ rfl) rfl) fun a hS => ?_
        refine st_val hS rfl rfl (by decide) (r_assign rfl (hS.ev_ rfl)) fun a hS => ?_
        refine st_done ?_
        replace hS : Slots 113 [] a [(34, Value.bool (p1.f_state == 4)), (10, Value.int .i64 (p1.f_state)), (6, Value.pointer (some ⟨g8, 0, none⟩)), (5, Value.bool (false)), (4, Value.pointer (some ⟨g6, 0, none⟩)), (0, Value.pointer (some ⟨g2, 0, none⟩)), (1, Value.int .u8 (b8 (p5)))] := (hS.part (.cons rfl (.cons rfl (.cons rfl (.cons rfl (.cons rfl (.cons rfl (.cons rfl (.nil _)))))))))
        refine x_then ?_
        rcases ifB h with ⟨hc25, h⟩ | ⟨hc25, h⟩
        · refine c_cond_true (hS.ev_ rfl) hc25 ?_
          refine wp_goto ?_
          refine x_block_goto ?_
          refine x_then_goto ?_
          refine x_scope_goto' (b := _) rfl ?_
          refine c_scp_seq ?_
          refine wp_seq ?_
          refine wp_region_lit ?_
          refine st_val hS rfl rfl (by decide) (r_move rfl (hS.ev_ rfl)) fun a hS => ?_
          refine st_val hS rfl rfl (by decide) (r_cmp8 rfl (hS.ev_ rfl) (hS.ev_ (v := Value.int .u8 (b8 (255))) rfl) rfl) fun a hS => ?_
          refine st_done ?_
          replace hS : Slots 113 [] a [(73, Value.bool (p5 == 255)), (6, Value.pointer (some ⟨g8, 0, none⟩)), (5, Value.bool (false)), (4, Value.pointer (some ⟨g6, 0, none⟩)), (0, Value.pointer (some ⟨g2, 0, none⟩)), (1, Value.int .u8 (b8 (p5)))] := (hS.part (.cons rfl (.cons rfl (.cons rfl (.cons rfl (.cons rfl (.cons rfl (.nil _))))))))
          refine x_then ?_
          rcases ifB h with ⟨hc26, h⟩ | ⟨hc26, h⟩
          · refine c_cond_true (hS.ev_ rfl) hc26 ?_
            refine wp_seq ?_
            refine wp_region_lit ?_
            refine st_val hS rfl rfl (by decide) (r_move rfl (hS.ev_ rfl)) fun a hS => ?_
            refine st_val hS rfl rfl (by decide) (r_nilCheck rfl (hS.ev_ rfl)) fun a hS => ?_
            refine st_val hS rfl rfl (by decide) (r_fld_b rfl fo_43_0 (hS.ev_ rfl)) fun a hS => ?_
            refine wl_cons rfl (e_store1 hM rfl ti_3 (hS.ev_ rfl) (hS.ev_ rfl) rfl (Nat.lt_of_lt_of_le (Nat.le_of_ble_eq_true rfl) (Nat.le_refl _)) fun w hM => ?_)
            have hM : Sat w0 w K (SP.blk g2 43 [Value.int .i64 (5), Value.int .i64 (p1.f_token.f_Kind), Value.int .i64 (p1.f_token.f_Code), Value.int .i64 (p1.f_token.f_Option), v3, Value.bool (p1.f_token.f_Cut)] :: SP.blk g8 30 [Value.int .i64 (0), Value.int .i64 (0), Value.int .i64 (0), Value.slice none 0 0, Value.bool (false)] :: SP.blk g6 30 [Value.int .i64 (0), Value.int .i64 (0), Value.int .i64 (0), Value.slice none 0 0, Value.bool (false)] :: SP.row Kd.u8 5 v3 p1.f_token.f_Body :: L) := hM
            refine pl0 hS rfl fun a hS => ?_
            refine st_done ?_
            replace hS : Slots 113 [] a [(6, Value.pointer (some ⟨g8, 0, none⟩)), (5, Value.bool (false)), (4, Value.pointer (some ⟨g6, 0, none⟩)), (0, Value.pointer (some ⟨g2, 0, none⟩)), (1, Value.int .u8 (b8 (p5)))] := (hS.part (.cons rfl (.cons rfl (.cons rfl (.cons rfl (.cons rfl (.nil _)))))))
            refine x_then ?_
            refine wp_goto ?_
            refine x_then_goto ?_
            refine x_scope_goto' (b := _) rfl ?_
            refine c_scp_seq ?_
            refine wp_seq ?_
            refine wp_region_lit ?_
            refine st_val hS rfl rfl (by decide) (r_build (cs := [Value.int .i64 (0), Value.int .i64 (0), Value.int .i64 (0), Value.slice none 0 0, Value.bool (false)]) rfl (parts_ev hS rfl) (by kernel_rfl)) fun a hS => ?_
            replace hM := hM.pull 2 rfl rfl
            refine wl_cons rfl (e_storeN (vs := [Value.int .i64 (0), Value.int .i64 (0), Value.int .i64 (0), Value.slice none 0 0, Value.bool (false)]) hM rfl ti_30 (hS.ev_ rfl) (hS.ev_ rfl) (ones_cons rfl (ones_cons rfl (ones_cons rfl (ones_cons rfl (ones_cons rfl ones_nil))))) (Nat.le_of_ble_eq_true rfl) fun w hM => ?_)
            have hM : Sat w0 w K (SP.blk g6 30 [Value.int .i64 (0), Value.int .i64 (0), Value.int .i64 (0), Value.slice none 0 0, Value.bool (false)] :: SP.blk g2 43 [Value.int .i64 (5), Value.int .i64 (p1.f_token.f_Kind), Value.int .i64 (p1.f_token.f_Code), Value.int .i64 (p1.f_token.f_Option), v3, Value.bool (p1.f_token.f_Cut)] :: SP.blk g8 30 [Value.int .i64 (0), Value.int .i64 (0), Value.int .i64 (0), Value.slice none 0 0, Value.bool (false)] :: SP.row Kd.u8 5 v3 p1.f_token.f_Body :: L) := hM
            refine pl0 hS rfl fun a hS => ?_
            refine st_val hS rfl rfl (by decide) (r_assign rfl (hS.ev_ rfl)) fun a hS => ?_
            refine st_done ?_
            replace hS : Slots 113 [] a [(5, Value.bool (false)), (6, Value.pointer (some ⟨g8, 0, none⟩)), (4, Value.pointer (some ⟨g6, 0, none⟩)), (0, Value.pointer (some ⟨g2, 0, none⟩)), (1, Value.int .u8 (b8 (p5)))] := (hS.part (.cons rfl (.cons rfl (.cons rfl (.cons rfl (.cons rfl (.nil _)))))))
            refine x_then ?_
            refine wp_ret ?_
            refine x_then_ret ?_
            refine x_scope_ret ?_
            have hr' := Option.some.inj h
            subst hr'
            refine retR2 (.inr rfl) hS rfl ⟨_, rfl, lv_N (cs' := [Value.int .i64 (0), Value.int .i64 (0), Value.int .i64 (0), Value.slice none 0 0, Value.bool (false)]) hM ag_30 ti_30 rfl⟩ (show Sl.look _ _ = some (Value.bool (false)) from rfl) ?_
            exact ⟨K, (Value.slice none 0 0), (v3), (Hp.le.refl _), ((((hM).tail.pull 1 rfl rfl).tail.pull 1 rfl rfl).pull 1 rfl rfl), rfl, (Kd.sl_nil _ _)⟩
          · refine c_cond_false (hS.ev_ rfl) hc26 ?_
            refine wp_skip ?_
            refine x_then ?_
            refine c_scp_seq ?_
            refine wp_region_lit ?_
            refine st_val hS rfl rfl (by decide) (r_move rfl (hS.ev_ rfl)) fun a hS => ?_
            refine st_val hS rfl rfl (by decide) (r_move rfl (hS.ev_ rfl)) fun a hS => ?_
            obtain ⟨y27, h28, h⟩ := bindO h
            replace hM := hM.pull 3 rfl rfl
            replace hM := hM.pull 1 rfl rfl
            have hc30 := iac_Tokens_add_c hG h28 hM
            refine wl_cons rfl (e_call rfl Tryd.func21 rfl rfl (args2 (hS.ev_ rfl) (hS.ev_ rfl)) hc30 ?_)
            rintro _ w ⟨K29, v31, hlK29, hM, rfl⟩
            refine ⟨_, rfl, ?_⟩
            refine pl hS rfl (by decide) fun a hS => ?_
            refine st_done ?_
            replace hS : Slots 113 [] a [(6, Value.pointer (some ⟨g8, 0, none⟩)), (5, Value.bool (false)), (4, Value.pointer (some ⟨g6, 0, none⟩)), (0, Value.pointer (some ⟨g2, 0, none⟩)), (1, Value.int .u8 (b8 (p5)))] := (hS.part (.cons rfl (.cons rfl (.cons rfl (.cons rfl (.cons rfl (.nil _)))))))
            refine x_then ?_
            refine c_scp_seq ?_
            refine wp_goto ?_
            refine x_then_goto ?_
            refine x_scope_goto' (b := _) rfl ?_
            refine c_scp_seq ?_
            refine wp_seq ?_
            refine wp_region_lit ?_
            refine st_val hS rfl rfl (by decide) (r_build (cs := [Value.int .i64 (0), Value.int .i64 (0), Value.int .i64 (0), Value.slice none 0 0, Value.bool (false)]) rfl (parts_ev hS rfl) (by kernel_rfl)) fun a hS => ?_
            replace hM := hM.pull 3 rfl rfl
            refine wl_cons rfl (e_storeN (vs := [Value.int .i64 (0), Value.int .i64 (0), Value.int .i64 (0), Value.slice none 0 0, Value.bool (false)]) hM rfl ti_30 (hS.ev_ rfl) (hS.ev_ rfl) (ones_cons rfl (ones_cons rfl (ones_cons rfl (ones_cons rfl (ones_cons rfl ones_nil))))) (Nat.le_of_ble_eq_true rfl) fun w hM => ?_)
            have hM : Sat w0 w K29 (SP.blk g6 30 [Value.int .i64 (0), Value.int .i64 (0), Value.int .i64 (0), Value.slice none 0 0, Value.bool (false)] :: SP.blk g2 43 [Value.int .i64 (y27.f_state), Value.int .i64 (y27.f_token.f_Kind), Value.int .i64 (y27.f_token.f_Code), Value.int .i64 (y27.f_token.f_Option), v31, Value.bool (y27.f_token.f_Cut)] :: SP.row Kd.u8 5 v31 y27.f_token.f_Body :: SP.blk g8 30 [Value.int .i64 (0), Value.int .i64 (0), Value.int .i64 (0), Value.slice none 0 0, Value.bool (false)] :: L) := hM
            refine pl0 hS rfl fun a hS => ?_
            refine st_val hS rfl rfl (by decide) (r_assign rfl (hS.ev_ rfl)) fun a hS => ?_
            refine st_done ?_
            replace hS : Slots 113 [] a [(5, Value.bool (false)), (6, Value.pointer (some ⟨g8, 0, none⟩)), (4, Value.pointer (some ⟨g6, 0, none⟩)), (0, Value.pointer (some ⟨g2, 0, none⟩)), (1, Value.int .u8 (b8 (p5)))] := (hS.part (.cons rfl (.cons rfl (.cons rfl (.cons rfl (.cons rfl (.nil _)))))))
            refine x_then ?_
            refine wp_ret ?_
            refine x_then_ret ?_
            refine x_scope_ret ?_
            have hr' := Option.some.inj h
            subst hr'
            refine retR2 (.inr rfl) hS rfl ⟨_, rfl, lv_N (cs' := [Value.int .i64 (0), Value.int .i64 (0), Value.int .i64 (0), Value.slice none 0 0, Value.bool (false)]) hM ag_30 ti_30 rfl⟩ (show Sl.look _ _ = some (Value.bool (false)) from rfl) ?_
            exact ⟨K29, (Value.slice none 0 0), (v31), hlK29, ((((hM).tail.pull 2 rfl rfl).tail.pull 1 rfl rfl).pull 1 rfl rfl), rfl, (Kd.sl_nil _ _)⟩
        · refine c_cond_false (hS.ev_ rfl) hc25 ?_
          refine wp_seq ?_
          refine wp_region_lit ?_
          refine st_val hS rfl rfl (by decide) (r_cmp rfl (hS.ev_ rfl) (hS.ev_ rfl) rfl) fun a hS => ?_
          refine st_val hS rfl rfl (by decide) (r_assign rfl (hS.ev_ rfl)) fun a hS => ?_
          refine st_done ?_
          replace hS : Slots 113 [] a [(36, Value.bool (p1.f_state == 5)), (6, Value.pointer (some ⟨g8, 0, none⟩)), (5, Value.bool (false)), (4, Value.pointer (some ⟨g6, 0, none⟩)), (0, Value.pointer (some ⟨g2, 0, none⟩)), (1, Value.int .u8 (b8 (p5)))] := (hS.part (.cons rfl (.cons rfl (.cons rfl (.cons rfl (.cons rfl (.cons rfl (.nil _))))))))
          refine x_then ?_
          rcases ifB h with ⟨hc33, h⟩ | ⟨hc33, h⟩
          · refine c_cond_true (hS.ev_ rfl) hc33 ?_
            refine wp_goto ?_
            refine x_block_goto ?_
            refine x_then_goto ?_
            refine x_scope_goto' (b := _) rfl ?_
            refine c_scp_seq ?_
            refine wp_seq ?_
            refine wp_region_lit ?_
            refine st_val hS rfl rfl (by decide) (r_move rfl (hS.ev_ rfl)) fun a hS => ?_
            refine st_done ?_
            replace hS : Slots 113 [] a [(80, Value.int .u8 (b8 (p5))), (6, Value.pointer (some ⟨g8, 0, none⟩)), (5, Value.bool (false)), (4, Value.pointer (some ⟨g6, 0, none⟩)), (0, Value.pointer (some ⟨g2, 0, none⟩)), (1, Value.int .u8 (b8 (p5)))] := (hS.part (.cons rfl (.cons rfl (.cons rfl (.cons rfl (.cons rfl (.cons rfl (.nil _))))))))
            refine x_then ?_
            refine wp_block ?_
            refine wp_seq ?_
            refine wp_region_lit ?_
            refine st_val hS rfl rfl (by decide) (r_cmp8 rfl (hS.ev_ rfl) (hS.ev_ (v := Value.int .u8 (b8 (255))) rfl) rfl) fun a hS => ?_
            refine st_val hS rfl rfl (by decide) (r_assign rfl (hS.ev_ rfl)) fun a hS => ?_
            refine st_done ?_
            replace hS : Slots 113 [] a [(81, Value.bool (p5 == 255)), (80, Value.int .u8 (b8 (p5))), (6, Value.pointer (some ⟨g8, 0, none⟩)), (5, Value.bool (false)), (4, Value.pointer (some ⟨g6, 0, none⟩)), (0, Value.pointer (some ⟨g2, 0, none⟩)), (1, Value.int .u8 (b8 (p5)))] := (hS.part (.cons rfl (.cons rfl (.cons rfl (.cons rfl (.cons rfl (.cons rfl (.cons rfl (.nil _)))))))))
            refine x_then ?_
            rcases ifB h with ⟨hc34, h⟩ | ⟨hc34, h⟩
            · refine c_cond_true (hS.ev_ rfl) hc34 ?_
              refine wp_seq ?_
              refine wp_region_lit ?_
              refine st_val hS rfl rfl (by decide) (r_move rfl (hS.ev_ rfl)) fun a hS => ?_
              refine st_val hS rfl rfl (by decide) (r_nilCheck rfl (hS.ev_ rfl)) fun a hS => ?_
              refine st_val hS rfl rfl (by decide) (r_fld_b rfl fo_43_0 (hS.ev_ rfl)) fun a hS => ?_
              refine wl_cons rfl (e_store1 hM rfl ti_3 (hS.ev_ rfl) (hS.ev_ rfl) rfl (Nat.lt_of_lt_of_le (Nat.le_of_ble_eq_true rfl) (Nat.le_refl _)) fun w hM => ?_)
              have hM : Sat w0 w K (SP.blk g2 43 [Value.int .i64 (4), Value.int .i64 (p1.f_token.f_Kind), Value.int .i64 (p1.f_token.f_Code), Value.int .i64 (p1.f_token.f_Option), v3, Value.bool (p1.f_token.f_Cut)] :: SP.blk g8 30 [Value.int .i64 (0), Value.int .i64 (0), Value.int .i64 (0), Value.slice none 0 0, Value.bool (false)] :: SP.blk g6 30 [Value.int .i64 (0), Value.int .i64 (0), Value.int .i64 (0), Value.slice none 0 0, Value.bool (false)] :: SP.row Kd.u8 5 v3 p1.f_token.f_Body :: L) := hM
              refine pl0 hS rfl fun a hS => ?_
              refine st_done ?_
              replace hS : Slots 113 [] a [(6, Value.pointer (some ⟨g8, 0, none⟩)), (5, Value.bool (false)), (4, Value.pointer (some ⟨g6, 0, none⟩)), (0, Value.pointer (some ⟨g2, 0, none⟩)), (1, Value.int .u8 (b8 (p5)))] := (hS.part (.cons rfl (.cons rfl (.cons rfl (.cons rfl (.cons rfl (.nil _)))))))
              refine x_then ?_
              refine wp_seq ?_
              refine wp_region_lit ?_
              refine st_val hS rfl rfl (by decide) (r_move rfl (hS.ev_ rfl)) fun a hS => ?_
              refine st_val hS rfl rfl (by decide) (r_move rfl (hS.ev_ rfl)) fun a hS => ?_
              obtain ⟨y35, h36, h⟩ := bindO h
              replace hM := hM.pull 3 rfl rfl
              replace hM := hM.pull 1 rfl rfl
              have hc38 := iac_Tokens_add_c hG h36 hM
              refine wl_cons rfl (e_call rfl Tryd.func21 rfl rfl (args2 (hS.ev_ rfl) (hS.ev_ rfl)) hc38 ?_)
              rintro _ w ⟨K37, v39, hlK37, hM, rfl⟩
              refine ⟨_, rfl, ?_⟩
              refine pl hS rfl (by decide) fun a hS => ?_
              refine st_done ?_
              replace hS : Slots 113 [] a [(6, Value.pointer (some ⟨g8, 0, none⟩)), (5, Value.bool (false)), (4, Value.pointer (some ⟨g6, 0, none⟩)), (0, Value.pointer (some ⟨g2, 0, none⟩)), (1, Value.int .u8 (b8 (p5)))] := (hS.part (.cons rfl (.cons rfl (.cons rfl (.cons rfl (.cons rfl (.nil _)))))))
              refine x_then ?_
              refine wp_goto ?_
              refine x_block_goto ?_
              refine x_then_goto ?_
              refine x_scope_goto' (b := _) rfl ?_
              refine c_scp_seq ?_
              refine wp_seq ?_
              refine wp_region_lit ?_
              refine st_val hS rfl rfl (by decide) (r_build (cs := [Value.int .i64 (0), Value.int .i64 (0), Value.int .i64 (0), Value.slice none 0 0, Value.bool (false)]) rfl (parts_ev hS rfl) (by kernel_rfl)) fun a hS => ?_
              replace hM := hM.pull 3 rfl rfl
              refine wl_cons rfl (e_storeN (vs := [Value.int .i64 (0), Value.int .i64 (0), Value.int .i64 (0), Value.slice none 0 0, Value.bool (false)]) hM rfl ti_30 (hS.ev_ rfl) (hS.ev_ rfl) (ones_cons rfl (ones_cons rfl (ones_cons rfl (ones_cons rfl (ones_cons rfl ones_nil))))) (Nat.le_of_ble_eq_true rfl) fun w hM => ?_)
              have hM : Sat w0 w K37 (SP.blk g6 30 [Value.int .i64 (0), Value.int .i64 (0), Value.int .i64 (0), Value.slice none 0 0, Value.bool (false)] :: SP.blk g2 43 [Value.int .i64 (y35.f_state), Value.int .i64 (y35.f_token.f_Kind), Value.int .i64 (y35.f_token.f_Code), Value.int .i64 (y35.f_token.f_Option), v39, Value.bool (y35.f_token.f_Cut)] :: SP.row Kd.u8 5 v39 y35.f_token.f_Body :: SP.blk g8 30 [Value.int .i64 (0), Value.int .i64 (0), Value.int .i64 (0), Value.slice none 0 0, Value.bool (false)] :: L) := hM
              refine pl0 hS rfl fun a hS => ?_
              refine st_val hS rfl rfl (by decide) (r_assign rfl (hS.ev_ rfl)) fun a hS => ?_
              refine st_done ?_
              replace hS : Slots 113 [] a [(5, Value.bool (false)), (6, Value.pointer (some ⟨g8, 0, none⟩)), (4, Value.pointer (some ⟨g6, 0, none⟩)), (0, Value.pointer (some ⟨g2, 0, none⟩)), (1, Value.int .u8 (b8 (p5)))] := (hS.part (.cons rfl (.cons rfl (.cons rfl (.cons rfl (.cons rfl (.nil _)))))))
              refine x_then ?_
              refine wp_ret ?_
              refine x_then_ret ?_
              refine x_scope_ret ?_
              have hr' := Option.some.inj h
              subst hr'
              refine retR2 (.inr rfl) hS rfl ⟨_, rfl, lv_N (cs' := [Value.int .i64 (0), Value.int .i64 (0), Value.int .i64 (0), Value.slice none 0 0, Value.bool (false)]) hM ag_30 ti_30 rfl⟩ (show Sl.look _ _ = some (Value.bool (false)) from rfl) ?_
              exact ⟨K37, (Value.slice none 0 0), (v39), hlK37, ((((hM).tail.pull 2 rfl rfl).tail.pull 1 rfl rfl).pull 1 rfl rfl), rfl, (Kd.sl_nil _ _)⟩
            · refine c_cond_false (hS.ev_ rfl) hc34 ?_
              refine wp_seq ?_
              refine wp_region_lit ?_
              refine st_val hS rfl rfl (by decide) (r_cmp8 rfl (hS.ev_ rfl) (hS.ev_ (v := Value.int .u8 (b8 (240))) rfl) rfl) fun a hS => ?_
              refine st_val hS rfl rfl (by decide) (r_assign rfl (hS.ev_ rfl)) fun a hS => ?_
              refine st_done ?_
              replace hS : Slots 113 [] a [(89, Value.bool (p5 == 240)), (6, Value.pointer (some ⟨g8, 0, none⟩)), (5, Value.bool (false)), (4, Value.pointer (some ⟨g6, 0, none⟩)), (0, Value.pointer (some ⟨g2, 0, none⟩)), (1, Value.int .u8 (b8 (p5)))] := (hS.part (.cons rfl (.cons rfl (.cons rfl (.cons rfl (.cons rfl (.cons rfl (.nil _))))))))
              refine x_then ?_
              rcases ifB h with ⟨hc41, h⟩ | ⟨hc41, h⟩
              · refine c_cond_true (hS.ev_ rfl) hc41 ?_
                refine wp_seq ?_
                refine wp_region_lit ?_
                refine st_val hS rfl rfl (by decide) (r_move rfl (hS.ev_ rfl)) fun a hS => ?_
                refine st_val hS rfl rfl (by decide) (r_nilCheck rfl (hS.ev_ rfl)) fun a hS => ?_
                refine st_val hS rfl rfl (by decide) (r_fld_b rfl fo_43_1 (hS.ev_ rfl)) fun a hS => ?_
                refine st_val hS rfl rfl (by decide) (r_ldN_b (cs' := [Value.int .i64 (p1.f_token.f_Kind), Value.int .i64 (p1.f_token.f_Code), Value.int .i64 (p1.f_token.f_Option), v3, Value.bool (p1.f_token.f_Cut)]) rfl ag_30 ti_30 (hS.ev_ rfl) rfl (Rd.of hM)) fun a hS => ?_
                replace hM := hM.pull 1 rfl rfl
                replace hM := hM.pull 3 rfl rfl
                have ho42 := row_one hM
                replace hM := hM.pull 1 rfl rfl
                refine wl_cons rfl (e_storeN (vs := [Value.int .i64 (p1.f_token.f_Kind), Value.int .i64 (p1.f_token.f_Code), Value.int .i64 (p1.f_token.f_Option), v3, Value.bool (p1.f_token.f_Cut)]) hM rfl ti_30 (hS.ev_ rfl) (hS.ev_ rfl) (ones_cons rfl (ones_cons rfl (ones_cons rfl (ones_cons ho42 (ones_cons rfl ones_nil))))) (Nat.le_of_ble_eq_true rfl) fun w hM => ?_)
                have hM : Sat w0 w K (SP.blk g8 30 [Value.int .i64 (p1.f_token.f_Kind), Value.int .i64 (p1.f_token.f_Code), Value.int .i64 (p1.f_token.f_Option), v3, Value.bool (p1.f_token.f_Cut)] :: SP.row Kd.u8 5 v3 p1.f_token.f_Body :: SP.blk g2 43 [Value.int .i64 (p1.f_state), Value.int .i64 (p1.f_token.f_Kind), Value.int .i64 (p1.f_token.f_Code), Value.int .i64 (p1.f_token.f_Option), v3, Value.bool (p1.f_token.f_Cut)] :: SP.blk g6 30 [Value.int .i64 (0), Value.int .i64 (0), Value.int .i64 (0), Value.slice none 0 0, Value.bool (false)] :: L) := hM
                refine pl0 hS rfl fun a hS => ?_
                refine st_done ?_
                replace hS : Slots 113 [] a [(6, Value.pointer (some ⟨g8, 0, none⟩)), (5, Value.bool (false)), (4, Value.pointer (some ⟨g6, 0, none⟩)), (0, Value.pointer (some ⟨g2, 0, none⟩)), (1, Value.int .u8 (b8 (p5)))] := (hS.part (.cons rfl (.cons rfl (.cons rfl (.cons rfl (.cons rfl (.nil _)))))))
                refine x_then ?_
                refine wp_seq ?_
                refine wp_region_lit ?_
                refine st_val hS rfl rfl (by decide) (r_fld_b rfl fo_30_0 (hS.ev_ rfl)) fun a hS => ?_
                refine wl_cons rfl (e_store1 hM rfl ti_3 (hS.ev_ rfl) (hS.ev_ rfl) rfl (Nat.lt_of_lt_of_le (Nat.le_of_ble_eq_true rfl) (Nat.le_refl _)) fun w hM => ?_)
                have hM : Sat w0 w K (SP.blk g8 30 [Value.int .i64 (4), Value.int .i64 (p1.f_token.f_Code), Value.int .i64 (p1.f_token.f_Option), v3, Value.bool (p1.f_token.f_Cut)] :: SP.row Kd.u8 5 v3 p1.f_token.f_Body :: SP.blk g2 43 [Value.int .i64 (p1.f_state), Value.int .i64 (p1.f_token.f_Kind), Value.int .i64 (p1.f_token.f_Code), Value.int .i64 (p1.f_token.f_Option), v3, Value.bool (p1.f_token.f_Cut)] :: SP.blk g6 30 [Value.int .i64 (0), Value.int .i64 (0), Value.int .i64 (0), Value.slice none 0 0, Value.bool (false)] :: L) := hM
                refine pl0 hS rfl fun a hS => ?_
                refine st_done ?_
                replace hS : Slots 113 [] a [(6, Value.pointer (some ⟨g8, 0, none⟩)), (5, Value.bool (false)), (4, Value.pointer (some ⟨g6, 0, none⟩)), (0, Value.pointer (some ⟨g2, 0, none⟩)), (1, Value.int .u8 (b8 (p5)))] := (hS.part (.cons rfl (.cons rfl (.cons rfl (.cons rfl (.cons rfl (.nil _)))))))
                refine x_then ?_
                refine wp_goto ?_
                refine x_block_goto ?_
                refine x_then_goto ?_
                refine x_scope_goto' (b := _) rfl ?_
                refine c_scp_seq ?_
                refine wp_region_lit ?_
                refine st_val hS rfl rfl (by decide) (r_move rfl (hS.ev_ rfl)) fun a hS => ?_
                refine st_val hS rfl rfl (by decide) (r_move rfl (hS.ev_ rfl)) fun a hS => ?_
                refine st_val hS rfl rfl (by decide) (r_build (cs := [Value.int .i64 (0), Value.int .i64 (0), Value.int .i64 (0), Value.slice none 0 0, Value.bool (false)]) rfl (parts_ev hS rfl) (by kernel_rfl)) fun a hS => ?_
                refine st_val hS rfl rfl (by decide) (r_nilCheck rfl (hS.ev_ rfl)) fun a hS => ?_
                refine st_val hS rfl rfl (by decide) (r_fld_b rfl fo_43_0 (hS.ev_ rfl)) fun a hS => ?_
                replace hM := hM.pull 2 rfl rfl
                refine wl_cons rfl (e_store1 hM rfl ti_3 (hS.ev_ rfl) (hS.ev_ rfl) rfl (Nat.lt_of_lt_of_le (Nat.le_of_ble_eq_true rfl) (Nat.le_refl _)) fun w hM => ?_)
                have hM : Sat w0 w K (SP.blk g2 43 [Value.int .i64 (0), Value.int .i64 (p1.f_token.f_Kind), Value.int .i64 (p1.f_token.f_Code), Value.int .i64 (p1.f_token.f_Option), v3, Value.bool (p1.f_token.f_Cut)] :: SP.blk g8 30 [Value.int .i64 (4), Value.int .i64 (p1.f_token.f_Code), Value.int .i64 (p1.f_token.f_Option), v3, Value.bool (p1.f_token.f_Cut)] :: SP.row Kd.u8 5 v3 p1.f_token.f_Body :: SP.blk g6 30 [Value.int .i64 (0), Value.int .i64 (0), Value.int .i64 (0), Value.slice none 0 0, Value.bool (false)] :: L) := hM
                refine pl0 hS rfl fun a hS => ?_
                refine st_val hS rfl rfl (by decide) (r_nilCheck rfl (hS.ev_ rfl)) fun a hS => ?_
                refine st_val hS rfl rfl (by decide) (r_fld_b rfl fo_43_1 (hS.ev_ rfl)) fun a hS => ?_
                refine wl_cons rfl (e_storeN (vs := [Value.int .i64 (0), Value.int .i64 (0), Value.int .i64 (0), Value.slice none 0 0, Value.bool (false)]) hM rfl ti_30 (hS.ev_ rfl) (hS.ev_ rfl) (ones_cons rfl (ones_cons rfl (ones_cons rfl (ones_cons rfl (ones_cons rfl ones_nil))))) (Nat.le_of_ble_eq_true rfl) fun w hM => ?_)
                have hM : Sat w0 w K (SP.blk g2 43 [Value.int .i64 (0), Value.int .i64 (0), Value.int .i64 (0), Value.int .i64 (0), Value.slice none 0 0, Value.bool (false)] :: SP.blk g8 30 [Value.int .i64 (4), Value.int .i64 (p1.f_token.f_Code), Value.int .i64 (p1.f_token.f_Option), v3, Value.bool (p1.f_token.f_Cut)] :: SP.row Kd.u8 5 v3 p1.f_token.f_Body :: SP.blk g6 30 [Value.int .i64 (0), Value.int .i64 (0), Value.int .i64 (0), Value.slice none 0 0, Value.bool (false)] :: L) := hM
                refine pl0 hS rfl fun a hS => ?_
                refine st_done ?_
                replace hS : Slots 113 [] a [(6, Value.pointer (some ⟨g8, 0, none⟩)), (5, Value.bool (false)), (4, Value.pointer (some ⟨g6, 0, none⟩)), (0, Value.pointer (some ⟨g2, 0, none⟩)), (1, Value.int .u8 (b8 (p5)))] := (hS.part (.cons rfl (.cons rfl (.cons rfl (.cons rfl (.cons rfl (.nil _)))))))
                refine x_then ?_
                refine c_scp_seq ?_
                refine wp_region_lit ?_
                replace hM := hM.pull 1 rfl rfl
                refine st_val hS rfl rfl (by decide) (r_ldN_b (cs' := [Value.int .i64 (4), Value.int .i64 (p1.f_token.f_Code), Value.int .i64 (p1.f_token.f_Option), v3, Value.bool (p1.f_token.f_Cut)]) rfl ag_30 ti_30 (hS.ev_ rfl) rfl (Rd.of hM)) fun a hS => ?_
                replace hM := hM.pull 3 rfl rfl
                replace hM := hM.pull 3 rfl rfl
                have ho43 := row_one hM
                replace hM := hM.pull 1 rfl rfl
                refine wl_cons rfl (e_storeN (vs := [Value.int .i64 (4), Value.int .i64 (p1.f_token.f_Code), Value.int .i64 (p1.f_token.f_Option), v3, Value.bool (p1.f_token.f_Cut)]) hM rfl ti_30 (hS.ev_ rfl) (hS.ev_ rfl) (ones_cons rfl (ones_cons rfl (ones_cons rfl (ones_cons ho43 (ones_cons rfl ones_nil))))) (Nat.le_of_ble_eq_true rfl) fun w hM => ?_)
                have hM : Sat w0 w K (SP.blk g6 30 [Value.int .i64 (4), Value.int .i64 (p1.f_token.f_Code), Value.int .i64 (p1.f_token.f_Option), v3, Value.bool (p1.f_token.f_Cut)] :: SP.row Kd.u8 5 v3 p1.f_token.f_Body :: SP.blk g8 30 [Value.int .i64 (4), Value.int .i64 (p1.f_token.f_Code), Value.int .i64 (p1.f_token.f_Option), v3, Value.bool (p1.f_token.f_Cut)] :: SP.blk g2 43 [Value.int .i64 (0), Value.int .i64 (0), Value.int .i64 (0), Value.int .i64 (0), Value.slice none 0 0, Value.bool (false)] :: L) := hM
                refine pl0 hS rfl fun a hS => ?_
                refine st_val hS rfl rfl (by decide) (r_assign rfl (hS.ev_ rfl)) fun a hS => ?_
                refine st_done ?_
                replace hS : Slots 113 [] a [(5, Value.bool (true)), (6, Value.pointer (some ⟨g8, 0, none⟩)), (4, Value.pointer (some ⟨g6, 0, none⟩)), (0, Value.pointer (some ⟨g2, 0, none⟩)), (1, Value.int .u8 (b8 (p5)))] := (hS.part (.cons rfl (.cons rfl (.cons rfl (.cons rfl (.cons rfl (.nil _)))))))
                refine x_then ?_
                refine c_scp ?_
                refine wp_ret ?_
                refine x_scope_ret ?_
                replace hM := hM.pull 1 rfl rfl
                obtain ⟨K44, hlK44, hM, f45⟩ := keep_row hM
                replace hM := hM.row_nil Kd.u8 5
                have hr' := Option.some.inj h
                subst hr'
                refine retR2 (.inr rfl) hS rfl ⟨_, rfl, lv_N (cs' := [Value.int .i64 (4), Value.int .i64 (p1.f_token.f_Code), Value.int .i64 (p1.f_token.f_Option), v3, Value.bool (p1.f_token.f_Cut)]) (hM.pull 1 rfl rfl) ag_30 ti_30 rfl⟩ (show Sl.look _ _ = some (Value.bool (true)) from rfl) ?_
                exact ⟨K44, (v3), ((Value.slice none 0 0)), hlK44, (((hM.pull 1 rfl rfl).tail.pull 1 rfl rfl).tail.pull 1 rfl rfl), rfl, f45⟩
              · refine c_cond_false (hS.ev_ rfl) hc41 ?_
                refine wp_skip ?_
                refine x_block ?_
                refine x_then ?_
                refine c_scp_seq ?_
                refine wp_region_lit ?_
                refine st_val hS rfl rfl (by decide) (r_move rfl (hS.ev_ rfl)) fun a hS => ?_
                refine st_val hS rfl rfl (by decide) (r_conv_8i rfl un_5 un_3 (hS.ev_ rfl)) fun a hS => ?_
                refine st_val hS rfl rfl (by decide) (r_move rfl (hS.ev_ rfl)) fun a hS => ?_
                refine st_val hS rfl rfl (by decide) (r_nilCheck rfl (hS.ev_ rfl)) fun a hS => ?_
                refine st_val hS rfl rfl (by decide) (r_fld_b rfl fo_43_1 (hS.ev_ rfl)) fun a hS => ?_
                refine st_val hS rfl rfl (by decide) (r_fld_b rfl fo_30_2 (hS.ev_ rfl)) fun a hS => ?_
                refine st_val hS rfl rfl (by decide) (r_ld1_b rfl ag_3 (hS.ev_ rfl) rfl (Rd.of hM)) fun a hS => ?_
                refine st_val hS rfl rfl (by decide) (r_build (cs := [Value.int .i64 (5), Value.int .i64 (b8 p5), Value.int .i64 (p1.f_token.f_Option), Value.slice none 0 0, Value.bool (false)]) rfl (parts_ev hS rfl) (by kernel_rfl)) fun a hS => ?_
                replace hM := hM.pull 1 rfl rfl
                refine wl_cons rfl (e_storeN (vs := [Value.int .i64 (5), Value.int .i64 (b8 p5), Value.int .i64 (p1.f_token.f_Option), Value.slice none 0 0, Value.bool (false)]) hM rfl ti_30 (hS.ev_ rfl) (hS.ev_ rfl) (ones_cons rfl (ones_cons rfl (ones_cons rfl (ones_cons rfl (ones_cons rfl ones_nil))))) (Nat.le_of_ble_eq_true rfl) fun w hM => ?_)
                have hM : Sat w0 w K (SP.blk g8 30 [Value.int .i64 (5), Value.int .i64 (b8 p5), Value.int .i64 (p1.f_token.f_Option), Value.slice none 0 0, Value.bool (false)] :: SP.blk g2 43 [Value.int .i64 (p1.f_state), Value.int .i64 (p1.f_token.f_Kind), Value.int .i64 (p1.f_token.f_Code), Value.int .i64 (p1.f_token.f_Option), v3, Value.bool (p1.f_token.f_Cut)] :: SP.blk g6 30 [Value.int .i64 (0), Value.int .i64 (0), Value.int .i64 (0), Value.slice none 0 0, Value.bool (false)] :: SP.row Kd.u8 5 v3 p1.f_token.f_Body :: L) := hM
                refine pl0 hS rfl fun a hS => ?_
                refine st_done ?_
                replace hS : Slots 113 [] a [(6, Value.pointer (some ⟨g8, 0, none⟩)), (5, Value.bool (false)), (4, Value.pointer (some ⟨g6, 0, none⟩)), (0, Value.pointer (some ⟨g2, 0, none⟩)), (1, Value.int .u8 (b8 (p5)))] := (hS.part (.cons rfl (.cons rfl (.cons rfl (.cons rfl (.cons rfl (.nil _)))))))
                refine x_then ?_
                refine c_scp_seq ?_
                refine wp_goto ?_
                refine x_then_goto ?_
                refine x_scope_goto' (b := _) rfl ?_
                refine c_scp_seq ?_
                refine wp_region_lit ?_
                refine st_val hS rfl rfl (by decide) (r_move rfl (hS.ev_ rfl)) fun a hS => ?_
                refine st_val hS rfl rfl (by decide) (r_move rfl (hS.ev_ rfl)) fun a hS => ?_
                refine st_val hS rfl rfl (by decide) (r_build (cs := [Value.int .i64 (0), Value.int .i64 (0), Value.int .i64 (0), Value.slice none 0 0, Value.bool (false)]) rfl (parts_ev hS rfl) (by kernel_rfl)) fun a hS => ?_
                refine st_val hS rfl rfl (by decide) (r_nilCheck rfl (hS.ev_ rfl)) fun a hS => ?_
                refine st_val hS rfl rfl (by decide) (r_fld_b rfl fo_43_0 (hS.ev_ rfl)) fun a hS => ?_
                replace hM := hM.pull 1 rfl rfl
                refine wl_cons rfl (e_store1 hM rfl ti_3 (hS.ev_ rfl) (hS.ev_ rfl) rfl (Nat.lt_of_lt_of_le (Nat.le_of_ble_eq_true rfl) (Nat.le_refl _)) fun w hM => ?_)
                have hM : Sat w0 w K (SP.blk g2 43 [Value.int .i64 (0), Value.int .i64 (p1.f_token.f_Kind), Value.int .i64 (p1.f_token.f_Code), Value.int .i64 (p1.f_token.f_Option), v3, Value.bool (p1.f_token.f_Cut)] :: SP.blk g8 30 [Value.int .i64 (5), Value.int .i64 (b8 p5), Value.int .i64 (p1.f_token.f_Option), Value.slice none 0 0, Value.bool (false)] :: SP.blk g6 30 [Value.int .i64 (0), Value.int .i64 (0), Value.int .i64 (0), Value.slice none 0 0, Value.bool (false)] :: SP.row Kd.u8 5 v3 p1.f_token.f_Body :: L) := hM
                refine pl0 hS rfl fun a hS => ?_
                refine st_val hS rfl rfl (by decide) (r_nilCheck rfl (hS.ev_ rfl)) fun a hS => ?_
                refine st_val hS rfl rfl (by decide) (r_fld_b rfl fo_43_1 (hS.ev_ rfl)) fun a hS => ?_
                refine wl_cons rfl (e_storeN (vs := [Value.int .i64 (0), Value.int .i64 (0), Value.int .i64 (0), Value.slice none 0 0, Value.bool (false)]) hM rfl ti_30 (hS.ev_ rfl) (hS.ev_ rfl) (ones_cons rfl (ones_cons rfl (ones_cons rfl (ones_cons rfl (ones_cons rfl ones_nil))))) (Nat.le_of_ble_eq_true rfl) fun w hM => ?_)
                have hM : Sat w0 w K (SP.blk g2 43 [Value.int .i64 (0), Value.int .i64 (0), Value.int .i64 (0), Value.int .i64 (0), Value.slice none 0 0, Value.bool (false)] :: SP.blk g8 30 [Value.int .i64 (5), Value.int .i64 (b8 p5), Value.int .i64 (p1.f_token.f_Option), Value.slice none 0 0, Value.bool (false)] :: SP.blk g6 30 [Value.int .i64 (0), Value.int .i64 (0), Value.int .i64 (0), Value.slice none 0 0, Value.bool (false)] :: SP.row Kd.u8 5 v3 p1.f_token.f_Body :: L) := hM
                refine pl0 hS rfl fun a hS => ?_
                refine st_done ?_
                replace hS : Slots 113 [] a [(6, Value.pointer (some ⟨g8, 0, none⟩)), (5, Value.bool (false)), (4, Value.pointer (some ⟨g6, 0, none⟩)), (0, Value.pointer (some ⟨g2, 0, none⟩)), (1, Value.int .u8 (b8 (p5)))] := (hS.part (.cons rfl (.cons rfl (.cons rfl (.cons rfl (.cons rfl (.nil _)))))))
                refine x_then ?_
                refine c_scp_seq ?_
                refine wp_region_lit ?_
                replace hM := hM.pull 1 rfl rfl
                refine st_val hS rfl rfl (by decide) (r_ldN_b (cs' := [Value.int .i64 (5), Value.int .i64 (b8 p5), Value.int .i64 (p1.f_token.f_Option), Value.slice none 0 0, Value.bool (false)]) rfl ag_30 ti_30 (hS.ev_ rfl) rfl (Rd.of hM)) fun a hS => ?_
                replace hM := hM.pull 2 rfl rfl
                refine wl_cons rfl (e_storeN (vs := [Value.int .i64 (5), Value.int .i64 (b8 p5), Value.int .i64 (p1.f_token.f_Option), Value.slice none 0 0, Value.bool (false)]) hM rfl ti_30 (hS.ev_ rfl) (hS.ev_ rfl) (ones_cons rfl (ones_cons rfl (ones_cons rfl (ones_cons rfl (ones_cons rfl ones_nil))))) (Nat.le_of_ble_eq_true rfl) fun w hM => ?_)
                have hM : Sat w0 w K (SP.blk g6 30 [Value.int .i64 (5), Value.int .i64 (b8 p5), Value.int .i64 (p1.f_token.f_Option), Value.slice none 0 0, Value.bool (false)] :: SP.blk g8 30 [Value.int .i64 (5), Value.int .i64 (b8 p5), Value.int .i64 (p1.f_token.f_Option), Value.slice none 0 0, Value.bool (false)] :: SP.blk g2 43 [Value.int .i64 (0), Value.int .i64 (0), Value.int .i64 (0), Value.int .i64 (0), Value.slice none 0 0, Value.bool (false)] :: SP.row Kd.u8 5 v3 p1.f_token.f_Body :: L) := hM
                refine pl0 hS rfl fun a hS => ?_
                refine st_val hS rfl rfl (by decide) (r_assign rfl (hS.ev_ rfl)) fun a hS => ?_
                refine st_done ?_
                replace hS : Slots 113 [] a [(5, Value.bool (true)), (6, Value.pointer (some ⟨g8, 0, none⟩)), (4, Value.pointer (some ⟨g6, 0, none⟩)), (0, Value.pointer (some ⟨g2, 0, none⟩)), (1, Value.int .u8 (b8 (p5)))] := (hS.part (.cons rfl (.cons rfl (.cons rfl (.cons rfl (.cons rfl (.nil _)))))))
                refine x_then ?_
                refine c_scp ?_
                refine wp_ret ?_
                refine x_scope_ret ?_
                replace hM := hM.row_nil Kd.u8 5
                have hr' := Option.some.inj h
                subst hr'
                refine retR2 (.inr rfl) hS rfl ⟨_, rfl, lv_N (cs' := [Value.int .i64 (5), Value.int .i64 (b8 p5), Value.int .i64 (p1.f_token.f_Option), Value.slice none 0 0, Value.bool (false)]) (hM.pull 1 rfl rfl) ag_30 ti_30 rfl⟩ (show Sl.look _ _ = some (Value.bool (true)) from rfl) ?_
                exact ⟨K, (Value.slice none 0 0), ((Value.slice none 0 0)), (Hp.le.refl _), ((((hM.pull 1 rfl rfl).tail.pull 1 rfl rfl).tail.pull 2 rfl rfl).tail.pull 1 rfl rfl), rfl, (Kd.sl_nil _ _)⟩
          · refine c_cond_false (hS.ev_ rfl) hc33 ?_
            refine wp_skip ?_
            refine x_block ?_
            refine x_then ?_
            refine c_scp_seq ?_
            refine wp_seq ?_
            refine wp_region_lit ?_
            refine st_val hS rfl rfl (by decide) (r_move rfl (hS.ev_ rfl)) fun a hS => ?_
            refine st_val hS rfl rfl (by decide) (r_cmp8 rfl (hS.ev_ rfl) (hS.ev_ (v := Value.int .u8 (b8 (255))) rfl) rfl) fun a hS => ?_
            refine st_done ?_
            replace hS : Slots 113 [] a [(39, Value.bool (p5 == 255)), (6, Value.pointer (some ⟨g8, 0, none⟩)), (5, Value.bool (false)), (4, Value.pointer (some ⟨g6, 0, none⟩)), (0, Value.pointer (some ⟨g2, 0, none⟩)), (1, Value.int .u8 (b8 (p5)))] := (hS.part (.cons rfl (.cons rfl (.cons rfl (.cons rfl (.cons rfl (.cons rfl (.nil _))))))))
            refine x_then ?_
            rcases ifB h with ⟨hc48, h⟩ | ⟨hc48, h⟩
            · refine c_cond_true (hS.ev_ rfl) hc48 ?_
              refine wp_seq ?_
              refine wp_region_lit ?_
              refine st_val hS rfl rfl (by decide) (r_move rfl (hS.ev_ rfl)) fun a hS => ?_
              refine st_val hS rfl rfl (by decide) (r_nilCheck rfl (hS.ev_ rfl)) fun a hS => ?_
              refine st_val hS rfl rfl (by decide) (r_fld_b rfl fo_43_0 (hS.ev_ rfl)) fun a hS => ?_
              refine wl_cons rfl (e_store1 hM rfl ti_3 (hS.ev_ rfl) (hS.ev_ rfl) rfl (Nat.lt_of_lt_of_le (Nat.le_of_ble_eq_true rfl) (Nat.le_refl _)) fun w hM => ?_)
              have hM : Sat w0 w K (SP.blk g2 43 [Value.int .i64 (1), Value.int .i64 (p1.f_token.f_Kind), Value.int .i64 (p1.f_token.f_Code), Value.int .i64 (p1.f_token.f_Option), v3, Value.bool (p1.f_token.f_Cut)] :: SP.blk g8 30 [Value.int .i64 (0), Value.int .i64 (0), Value.int .i64 (0), Value.slice none 0 0, Value.bool (false)] :: SP.blk g6 30 [Value.int .i64 (0), Value.int .i64 (0), Value.int .i64 (0), Value.slice none 0 0, Value.bool (false)] :: SP.row Kd.u8 5 v3 p1.f_token.f_Body :: L) := hM
              refine pl0 hS rfl fun a hS => ?_
              refine st_done ?_
              replace hS : Slots 113 [] a [(6, Value.pointer (some ⟨g8, 0, none⟩)), (5, Value.bool (false)), (4, Value.pointer (some ⟨g6, 0, none⟩)), (0, Value.pointer (some ⟨g2, 0, none⟩)), (1, Value.int .u8 (b8 (p5)))] := (hS.part (.cons rfl (.cons rfl (.cons rfl (.cons rfl (.cons rfl (.nil _)))))))
              refine x_then ?_
              refine wp_goto ?_
              refine x_then_goto ?_
              refine x_scope_goto' (b := _) rfl ?_
              refine c_scp_seq ?_
              refine wp_seq ?_
              refine wp_region_lit ?_
              refine st_val hS rfl rfl (by decide) (r_build (cs := [Value.int .i64 (0), Value.int .i64 (0), Value.int .i64 (0), Value.slice none 0 0, Value.bool (false)]) rfl (parts_ev hS rfl) (by kernel_rfl)) fun a hS => ?_
              replace hM := hM.pull 2 rfl rfl
              refine wl_cons rfl (e_storeN (vs := [Value.int .i64 (0), Value.int .i64 (0), Value.int .i64 (0), Value.slice none 0 0, Value.bool (false)]) hM rfl ti_30 (hS.ev_ rfl) (hS.ev_ rfl) (ones_cons rfl (ones_cons rfl (ones_cons rfl (ones_cons rfl (ones_cons rfl ones_nil))))) (Nat.le_of_ble_eq_true rfl) fun w hM => ?_)
              have hM : Sat w0 w K (SP.blk g6 30 [Value.int .i64 (0), Value.int .i64 (0), Value.int .i64 (0), Value.slice none 0 0, Value.bool (false)] :: SP.blk g2 43 [Value.int .i64 (1), Value.int .i64 (p1.f_token.f_Kind), Value.int .i64 (p1.f_token.f_Code), Value.int .i64 (p1.f_token.f_Option), v3, Value.bool (p1.f_token.f_Cut)] :: SP.blk g8 30 [Value.int .i64 (0), Value.int .i64 (0), Value.int .i64 (0), Value.slice none 0 0, Value.bool (false)] :: SP.row Kd.u8 5 v3 p1.f_token.f_Body :: L) := hM
              refine pl0 hS rfl fun a hS => ?_
              refine st_val hS rfl rfl (by decide) (r_assign rfl (hS.ev_ rfl)) fun a hS => ?_
              refine st_done ?_
              replace hS : Slots 113 [] a [(5, Value.bool (false)), (6, Value.pointer (some ⟨g8, 0, none⟩)), (4, Value.pointer (some ⟨g6, 0, none⟩)), (0, Value.pointer (some ⟨g2, 0, none⟩)), (1, Value.int .u8 (b8 (p5)))] := (hS.part (.cons rfl (.cons rfl (.cons rfl (.cons rfl (.cons rfl (.nil _)))))))
              refine x_then ?_
              refine wp_ret ?_
              refine x_then_ret ?_
              refine x_scope_ret ?_
              have hr' := Option.some.inj h
              subst hr'
              refine retR2 (.inr rfl) hS rfl ⟨_, rfl, lv_N (cs' := [Value.int .i64 (0), Value.int .i64 (0), Value.int .i64 (0), Value.slice none 0 0, Value.bool (false)]) hM ag_30 ti_30 rfl⟩ (show Sl.look _ _ = some (Value.bool (false)) from rfl) ?_
              exact ⟨K, (Value.slice none 0 0), (v3), (Hp.le.refl _), ((((hM).tail.pull 1 rfl rfl).tail.pull 1 rfl rfl).pull 1 rfl rfl), rfl, (Kd.sl_nil _ _)⟩
            · refine c_cond_false (hS.ev_ rfl) hc48 ?_
              refine wp_skip ?_
              refine x_then ?_
              refine c_scp_seq ?_
              refine wp_region_lit ?_
              refine st_val hS rfl rfl (by decide) (r_move rfl (hS.ev_ rfl)) fun a hS => ?_
              refine st_val hS rfl rfl (by decide) (r_conv_8i rfl un_5 un_3 (hS.ev_ rfl)) fun a hS => ?_
              refine st_val hS rfl rfl (by decide) (r_build (cs := [Value.int .i64 (1), Value.int .i64 (b8 p5), Value.int .i64 (0), Value.slice none 0 0, Value.bool (false)]) rfl (parts_ev hS rfl) (by kernel_rfl)) fun a hS => ?_
              replace hM := hM.pull 1 rfl rfl
              refine wl_cons rfl (e_storeN (vs := [Value.int .i64 (1), Value.int .i64 (b8 p5), Value.int .i64 (0), Value.slice none 0 0, Value.bool (false)]) hM rfl ti_30 (hS.ev_ rfl) (hS.ev_ rfl) (ones_cons rfl (ones_cons rfl (ones_cons rfl (ones_cons rfl (ones_cons rfl ones_nil))))) (Nat.le_of_ble_eq_true rfl) fun w hM => ?_)
              have hM : Sat w0 w K (SP.blk g8 30 [Value.int .i64 (1), Value.int .i64 (b8 p5), Value.int .i64 (0), Value.slice none 0 0, Value.bool (false)] :: SP.blk g2 43 [Value.int .i64 (p1.f_state), Value.int .i64 (p1.f_token.f_Kind), Value.int .i64 (p1.f_token.f_Code), Value.int .i64 (p1.f_token.f_Option), v3, Value.bool (p1.f_token.f_Cut)] :: SP.blk g6 30 [Value.int .i64 (0), Value.int .i64 (0), Value.int .i64 (0), Value.slice none 0 0, Value.bool (false)] :: SP.row Kd.u8 5 v3 p1.f_token.f_Body :: L) := hM
              refine pl0 hS rfl fun a hS => ?_
              refine st_done ?_
              replace hS : Slots 113 [] a [(6, Value.pointer (some ⟨g8, 0, none⟩)), (5, Value.bool (false)), (4, Value.pointer (some ⟨g6, 0, none⟩)), (0, Value.pointer (some ⟨g2, 0, none⟩)), (1, Value.int .u8 (b8 (p5)))] := (hS.part (.cons rfl (.cons rfl (.cons rfl (.cons rfl (.cons rfl (.nil _)))))))
              refine x_then ?_
              refine c_scp_seq ?_
              refine wp_goto ?_
              refine x_then_goto ?_
              refine x_scope_goto' (b := _) rfl ?_
              refine c_scp_seq ?_
              refine wp_region_lit ?_
              refine st_val hS rfl rfl (by decide) (r_move rfl (hS.ev_ rfl)) fun a hS => ?_
              refine st_val hS rfl rfl (by decide) (r_move rfl (hS.ev_ rfl)) fun a hS => ?_
              refine st_val hS rfl rfl (by decide) (r_build (cs := [Value.int .i64 (0), Value.int .i64 (0), Value.int .i64 (0), Value.slice none 0 0, Value.bool (false)]) rfl (parts_ev hS rfl) (by kernel_rfl)) fun a hS => ?_
              refine st_val hS rfl rfl (by decide) (r_nilCheck rfl (hS.ev_ rfl)) fun a hS => ?_
              refine st_val hS rfl rfl (by decide) (r_fld_b rfl fo_43_0 (hS.ev_ rfl)) fun a hS => ?_
              replace hM := hM.pull 1 rfl rfl
              refine wl_cons rfl (e_store1 hM rfl ti_3 (hS.ev_ rfl) (hS.ev_ rfl) rfl (Nat.lt_of_lt_of_le (Nat.le_of_ble_eq_true rfl) (Nat.le_refl _)) fun w hM => ?_)
              have hM : Sat w0 w K (SP.blk g2 43 [Value.int .i64 (0), Value.int .i64 (p1.f_token.f_Kind), Value.int .i64 (p1.f_token.f_Code), Value.int .i64 (p1.f_token.f_Option), v3, Value.bool (p1.f_token.f_Cut)] :: SP.blk g8 30 [Value.int .i64 (1), Value.int .i64 (b8 p5), Value.int .i64 (0), Value.slice none 0 0, Value.bool (false)] :: SP.blk g6 30 [Value.int .i64 (0), Value.int .i64 (0), Value.int .i64 (0), Value.slice none 0 0, Value.bool (false)] :: SP.row Kd.u8 5 v3 p1.f_token.f_Body :: L) := hM
              refine pl0 hS rfl fun a hS => ?_
              refine st_val hS rfl rfl (by decide) (r_nilCheck rfl (hS.ev_ rfl)) fun a hS => ?_
              refine st_val hS rfl rfl (by decide) (r_fld_b rfl fo_43_1 (hS.ev_ rfl)) fun a hS => ?_
              refine wl_cons rfl (e_storeN (vs := [Value.int .i64 (0), Value.int .i64 (0), Value.int .i64 (0), Value.slice none 0 0, Value.bool (false)]) hM rfl ti_30 (hS.ev_ rfl) (hS.ev_ rfl) (ones_cons rfl (ones_cons rfl (ones_cons rfl (ones_cons rfl (ones_cons rfl ones_nil))))) (Nat.le_of_ble_eq_true rfl) fun w hM => ?_)
              have hM : Sat w0 w K (SP.blk g2 43 [Value.int .i64 (0), Value.int .i64 (0), Value.int .i64 (0), Value.int .i64 (0), Value.slice none 0 0, Value.bool (false)] :: SP.blk g8 30 [Value.int .i64 (1), Value.int .i64 (b8 p5), Value.int .i64 (0), Value.slice none 0 0, Value.bool (false)] :: SP.blk g6 30 [Value.int .i64 (0), Value.int .i64 (0), Value.int .i64 (0), Value.slice none 0 0, Value.bool (false)] :: SP.row Kd.u8 5 v3 p1.f_token.f_Body :: L) := hM
              refine pl0 hS rfl fun a hS => ?_
              refine st_done ?_
              replace hS : Slots 113 [] a [(6, Value.pointer (some ⟨g8, 0, none⟩)), (5, Value.bool (false)), (4, Value.pointer (some ⟨g6, 0, none⟩)), (0, Value.pointer (some ⟨g2, 0, none⟩)), (1, Value.int .u8 (b8 (p5)))] := (hS.part (.cons rfl (.cons rfl (.cons rfl (.cons rfl (.cons rfl (.nil _)))))))
              refine x_then ?_
              refine c_scp_seq ?_
              refine wp_region_lit ?_
              replace hM := hM.pull 1 rfl rfl
              refine st_val hS rfl rfl (by decide) (r_ldN_b (cs' := [Value.int .i64 (1), Value.int .i64 (b8 p5), Value.int .i64 (0), Value.slice none 0 0, Value.bool (false)]) rfl ag_30 ti_30 (hS.ev_ rfl) rfl (Rd.of hM)) fun a hS => ?_
              replace hM := hM.pull 2 rfl rfl
              refine wl_cons rfl (e_storeN (vs := [Value.int .i64 (1), Value.int .i64 (b8 p5), Value.int .i64 (0), Value.slice none 0 0, Value.bool (false)]) hM rfl ti_30 (hS.ev_ rfl) (hS.ev_ rfl) (ones_cons rfl (ones_cons rfl (ones_cons rfl (ones_cons rfl (ones_cons rfl ones_nil))))) (Nat.le_of_ble_eq_true rfl) fun w hM => ?_)
              have hM : Sat w0 w K (SP.blk g6 30 [Value.int .i64 (1), Value.int .i64 (b8 p5), Value.int .i64 (0), Value.slice none 0 0, Value.bool (false)] :: SP.blk g8 30 [Value.int .i64 (1), Value.int .i64 (b8 p5), Value.int .i64 (0), Value.slice none 0 0, Value.bool (false)] :: SP.blk g2 43 [Value.int .i64 (0), Value.int .i64 (0), Value.int .i64 (0), Value.int .i64 (0), Value.slice none 0 0, Value.bool (false)] :: SP.row Kd.u8 5 v3 p1.f_token.f_Body :: L) := hM
              refine pl0 hS rfl fun a hS => ?_
              refine st_val hS rfl rfl (by decide) (r_assign rfl (hS.ev_ rfl)) fun a hS => ?_
              refine st_done ?_
              replace hS : Slots 113 [] a [(5, Value.bool (true)), (6, Value.pointer (some ⟨g8, 0, none⟩)), (4, Value.pointer (some ⟨g6, 0, none⟩)), (0, Value.pointer (some ⟨g2, 0, none⟩)), (1, Value.int .u8 (b8 (p5)))] := (hS.part (.cons rfl (.cons rfl (.cons rfl (.cons rfl (.cons rfl (.nil _)))))))
              refine x_then ?_
              refine c_scp ?_
              refine wp_ret ?_
              refine x_scope_ret ?_
              replace hM := hM.row_nil Kd.u8 5
              have hr' := Option.some.inj h
              subst hr'
              refine retR2 (.inr rfl) hS rfl ⟨_, rfl, lv_N (cs' := [Value.int .i64 (1), Value.int .i64 (b8 p5), Value.int .i64 (0), Value.slice none 0 0, Value.bool (false)]) (hM.pull 1 rfl rfl) ag_30 ti_30 rfl⟩ (show Sl.look _ _ = some (Value.bool (true)) from rfl) ?_
              exact ⟨K, (Value.slice none 0 0), ((Value.slice none 0 0)), (Hp.le.refl _), ((((hM.pull 1 rfl rfl).tail.pull 1 rfl rfl).tail.pull 2 rfl rfl).tail.pull 1 rfl rfl), rfl, (Kd.sl_nil _ _)⟩

theorem nvt_In_Next_c {w0 w : World} {K : Hp} {L : List SP} {p1 : nvt_In} {p3 : UInt8} {p4 : Bool} {g2 : Nat} {r : Bool × nvt_In} (hG : Glob w0) (h : nvt_In_Next p1 p3 p4 = some r) (hM : Sat w0 w K (SP.blk g2 48 [Value.bool (p1.f_behind)] :: L)) :
    Calls Tryd.prog 25 #[Value.pointer (some ⟨g2, 0, none⟩), Value.int .u8 (b8 (p3)), Value.bool (p4)] w (fun e w' => ∃ (K' : Hp), Hp.le K K' ∧ Sat w0 w' K' (SP.blk g2 48 [Value.bool (r.2.f_behind)] :: L) ∧ e = .returned (Value.bool (r.1))) := by
  refine enter_ (n := 30) (args := [Value.pointer (some ⟨g2, 0, none⟩), Value.int .u8 (b8 (p3)), Value.bool (p4)]) Tryd.func25 rfl rfl (Nat.le_of_ble_eq_true rfl) fun a hS => ?_
  replace hS : Slots 30 [] a [(0, Value.pointer (some ⟨g2, 0, none⟩)), (1, Value.int .u8 (b8 (p3))), (2, Value.bool (p4))] := hS
  unfold nvt_In_Next at h
  refine wp_seq ?_
  refine wp_region_lit ?_
  refine st_val hS rfl rfl (by decide) (r_assign rfl (hS.ev_ rfl)) fun a hS => ?_
  refine st_done ?_
  replace hS : Slots 30 [] a [(6, Value.bool (false)), (0, Value.pointer (some ⟨g2, 0, none⟩)), (1, Value.int .u8 (b8 (p3))), (2, Value.bool (p4))] := (hS.part (.cons rfl (.cons rfl (.cons rfl (.cons rfl (.nil _))))))
  refine x_then ?_
  refine wp_seq ?_
  refine wp_region_lit ?_
  refine st_val hS rfl rfl (by decide) (r_move rfl (hS.ev_ rfl)) fun a hS => ?_
  refine st_val hS rfl rfl (by decide) (r_move rfl (hS.ev_ rfl)) fun a hS => ?_
  obtain ⟨x5, h6, h⟩ := bindO h
  refine wl_cut 3 (fun a w => Slots 30 [] a [(0, Value.pointer (some ⟨g2, 0, none⟩)), (1, Value.int .u8 (b8 (p3))), (2, Value.bool (p4)), (6, Value.bool (false)), (12, Value.bool (x5))] ∧ Sat w0 w K (SP.blk g2 48 [Value.bool (p1.f_behind)] :: L)) ?_ ?_
  ·
    skip
    rcases ifB h6 with ⟨hc7, h6⟩ | ⟨hc7, h6⟩
    ·
      replace hS := hS.known (k := 9) rfl hc7
      refine st_off hS rfl rfl rfl rfl rfl rfl (by decide) fun a hS => ?_
      refine st_off hS rfl rfl rfl rfl rfl rfl (by decide) fun a hS => ?_
      refine st_val hS rfl rfl (by decide) (r_pick_true rfl (hS.ev_ rfl) rfl (hS.ev_ rfl)) fun a hS => ?_
      refine st_done ?_
      replace hS : Slots 30 [] a [(12, Value.bool (true)), (6, Value.bool (false)), (0, Value.pointer (some ⟨g2, 0, none⟩)), (1, Value.int .u8 (b8 (p3))), (2, Value.bool (p4))] := (hS.part (.cons rfl (.cons rfl (.cons rfl (.cons rfl (.cons rfl (.nil _)))))))
      refine x_then ?_
      obtain rfl := Option.some.inj h6
      exact ⟨(hS.part (.cons rfl (.cons rfl (.cons rfl (.cons rfl (.cons rfl (.nil _))))))), hM⟩
    ·
      replace hS := hS.known (k := 9) rfl hc7
      refine st_want hS rfl rfl rfl rfl rfl (by decide) (r_move rfl (hS.ev_ rfl)) fun a hS => ?_
      refine st_want hS rfl rfl rfl rfl rfl (by decide) (r_cmp8 rfl (hS.ev_ rfl) (hS.ev_ (v := Value.int .u8 (b8 (0))) rfl) rfl) fun a hS => ?_
      refine st_val hS rfl rfl (by decide) (r_pick_false rfl (hS.ev_ rfl) rfl (hS.ev_ rfl)) fun a hS => ?_
      refine st_done ?_
      replace hS : Slots 30 [] a [(12, Value.bool (p3 != 0)), (6, Value.bool (false)), (0, Value.pointer (some ⟨g2, 0, none⟩)), (1, Value.int .u8 (b8 (p3))), (2, Value.bool (p4))] := (hS.part (.cons rfl (.cons rfl (.cons rfl (.cons rfl (.cons rfl (.nil _)))))))
      refine x_then ?_
      obtain rfl := Option.some.inj h6
      exact ⟨(hS.part (.cons rfl (.cons rfl (.cons rfl (.cons rfl (.cons rfl (.nil _))))))), hM⟩
  · rintro a w ⟨hS, hM⟩
    refine st_val hS rfl rfl (by decide) (r_move rfl (hS.ev_ rfl)) fun a hS => ?_
    obtain ⟨x8, h9, h⟩ := bindO h
    refine wl_cut 6 (fun a w => Slots 30 [] a [(0, Value.pointer (some ⟨g2, 0, none⟩)), (1, Value.int .u8 (b8 (p3))), (2, Value.bool (p4)), (6, Value.bool (false)), (19, Value.bool (x8))] ∧ Sat w0 w K (SP.blk g2 48 [Value.bool (p1.f_behind)] :: L)) ?_ ?_
    ·
      skip
      rcases ifB h9 with ⟨hc10, h9⟩ | ⟨hc10, h9⟩
      ·
        replace hS := hS.known (k := 13) rfl hc10
        refine st_off hS rfl rfl rfl rfl rfl rfl (by decide) fun a hS => ?_
        refine st_off hS rfl rfl rfl rfl rfl rfl (by decide) fun a hS => ?_
        refine st_off hS rfl rfl rfl rfl rfl rfl (by decide) fun a hS => ?_
        refine st_off hS rfl rfl rfl rfl rfl rfl (by decide) fun a hS => ?_
        refine st_off hS rfl rfl rfl rfl rfl rfl (by decide) fun a hS => ?_
        refine st_val hS rfl rfl (by decide) (r_pick_true rfl (hS.ev_ rfl) rfl (hS.ev_ rfl)) fun a hS => ?_
        refine st_done ?_
        replace hS : Slots 30 [] a [(19, Value.bool (true)), (0, Value.pointer (some ⟨g2, 0, none⟩)), (1, Value.int .u8 (b8 (p3))), (2, Value.bool (p4)), (6, Value.bool (false))] := (hS.part (.cons rfl (.cons rfl (.cons rfl (.cons rfl (.cons rfl (.nil _)))))))
        refine x_then ?_
        obtain rfl := Option.some.inj h9
        exact ⟨(hS.part (.cons rfl (.cons rfl (.cons rfl (.cons rfl (.cons rfl (.nil _))))))), hM⟩
      ·
        replace hS := hS.known (k := 13) rfl hc10
        refine st_want hS rfl rfl rfl rfl rfl (by decide) (r_move rfl (hS.ev_ rfl)) fun a hS => ?_
        refine st_want hS rfl rfl rfl rfl rfl (by decide) (r_nilCheck rfl (hS.ev_ rfl)) fun a hS => ?_
        refine st_want hS rfl rfl rfl rfl rfl (by decide) (r_fld_b rfl fo_48_0 (hS.ev_ rfl)) fun a hS => ?_
        refine st_want hS rfl rfl rfl rfl rfl (by decide) (r_ld1_b rfl ag_4 (hS.ev_ rfl) rfl (Rd.of hM)) fun a hS => ?_
        refine st_want hS rfl rfl rfl rfl rfl (by decide) (r_not rfl (hS.ev_ rfl)) fun a hS => ?_
        refine st_val hS rfl rfl (by decide) (r_pick_false rfl (hS.ev_ rfl) rfl (hS.ev_ rfl)) fun a hS => ?_
        refine st_done ?_
        replace hS : Slots 30 [] a [(19, Value.bool (!p1.f_behind)), (0, Value.pointer (some ⟨g2, 0, none⟩)), (1, Value.int .u8 (b8 (p3))), (2, Value.bool (p4)), (6, Value.bool (false))] := (hS.part (.cons rfl (.cons rfl (.cons rfl (.cons rfl (.cons rfl (.nil _)))))))
        refine x_then ?_
        obtain rfl := Option.some.inj h9
        exact ⟨(hS.part (.cons rfl (.cons rfl (.cons rfl (.cons rfl (.cons rfl (.nil _))))))), hM⟩
    · rintro a w ⟨hS, hM⟩
      refine st_val hS rfl rfl (by decide) (r_assign rfl (hS.ev_ rfl)) fun a hS => ?_
      refine st_done ?_
      replace hS : Slots 30 [] a [(7, Value.bool (x8)), (0, Value.pointer (some ⟨g2, 0, none⟩)), (1, Value.int .u8 (b8 (p3))), (2, Value.bool (p4)), (6, Value.bool (false))] := (hS.part (.cons rfl (.cons rfl (.cons rfl (.cons rfl (.cons rfl (.nil _)))))))
      refine x_then ?_
      refine wp_seq ?_
      refine wp_region_lit ?_
      refine st_val hS rfl rfl (by decide) (r_move rfl (hS.ev_ rfl)) fun a hS => ?_
      refine st_val hS rfl rfl (by decide) (r_move rfl (hS.ev_ rfl)) fun a hS => ?_
      refine st_val hS rfl rfl (by decide) (r_not rfl (hS.ev_ rfl)) fun a hS => ?_
      refine st_val hS rfl rfl (by decide) (r_move rfl (hS.ev_ rfl)) fun a hS => ?_
      obtain ⟨x11, h12, h⟩ := bindO h
      refine wl_cut 3 (fun a w => Slots 30 [] a [(6, Value.bool (false)), (7, Value.bool (x8)), (20, Value.pointer (some ⟨g2, 0, none⟩)), (26, Value.bool (x11))] ∧ Sat w0 w K (SP.blk g2 48 [Value.bool (p1.f_behind)] :: L)) ?_ ?_
      ·
        skip
        rcases ifB h12 with ⟨hc13, h12⟩ | ⟨hc13, h12⟩
        ·
          replace hS := hS.known (k := 23) rfl hc13
          refine st_want hS rfl rfl rfl rfl rfl (by decide) (r_move rfl (hS.ev_ rfl)) fun a hS => ?_
          refine st_want hS rfl rfl rfl rfl rfl (by decide) (r_cmp8 rfl (hS.ev_ rfl) (hS.ev_ (v := Value.int .u8 (b8 (13))) rfl) rfl) fun a hS => ?_
          refine st_val hS rfl rfl (by decide) (r_pick_true rfl (hS.ev_ rfl) rfl (hS.ev_ rfl)) fun a hS => ?_
          refine st_done ?_
          replace hS : Slots 30 [] a [(26, Value.bool (p3 == 13)), (20, Value.pointer (some ⟨g2, 0, none⟩)), (7, Value.bool (x8)), (6, Value.bool (false))] := (hS.part (.cons rfl (.cons rfl (.cons rfl (.cons rfl (.nil _))))))
          refine x_then ?_
          obtain rfl := Option.some.inj h12
          exact ⟨(hS.part (.cons rfl (.cons rfl (.cons rfl (.cons rfl (.nil _)))))), hM⟩
        ·
          replace hS := hS.known (k := 23) rfl hc13
          refine st_off hS rfl rfl rfl rfl rfl rfl (by decide) fun a hS => ?_
          refine st_off hS rfl rfl rfl rfl rfl rfl (by decide) fun a hS => ?_
          refine st_val hS rfl rfl (by decide) (r_pick_false rfl (hS.ev_ rfl) rfl (hS.ev_ rfl)) fun a hS => ?_
          refine st_done ?_
          replace hS : Slots 30 [] a [(26, Value.bool (false)), (20, Value.pointer (some ⟨g2, 0, none⟩)), (7, Value.bool (x8)), (6, Value.bool (false))] := (hS.part (.cons rfl (.cons rfl (.cons rfl (.cons rfl (.nil _))))))
          refine x_then ?_
          obtain rfl := Option.some.inj h12
          exact ⟨(hS.part (.cons rfl (.cons rfl (.cons rfl (.cons rfl (.nil _)))))), hM⟩
      · rintro a w ⟨hS, hM⟩
        refine st_val hS rfl rfl (by decide) (r_nilCheck rfl (hS.ev_ rfl)) fun a hS => ?_
        refine st_val hS rfl rfl (by decide) (r_fld_b rfl fo_48_0 (hS.ev_ rfl)) fun a hS => ?_
        refine wl_cons rfl (e_store1 hM rfl ti_4 (hS.ev_ rfl) (hS.ev_ rfl) rfl (Nat.lt_of_lt_of_le (Nat.le_of_ble_eq_true rfl) (Nat.le_refl _)) fun w hM => ?_)
        have hM : Sat w0 w K (SP.blk g2 48 [Value.bool (x11)] :: L) := hM
        refine pl0 hS rfl fun a hS => ?_
        refine st_done ?_
        replace hS : Slots 30 [] a [(6, Value.bool (false)), (7, Value.bool (x8))] := (hS.part (.cons rfl (.cons rfl (.nil _))))
        refine x_then ?_
        refine wp_seq ?_
        refine wp_region_lit ?_
        refine st_val hS rfl rfl (by decide) (r_move rfl (hS.ev_ rfl)) fun a hS => ?_
        refine st_val hS rfl rfl (by decide) (r_assign rfl (hS.ev_ rfl)) fun a hS => ?_
        refine st_done ?_
        replace hS : Slots 30 [] a [(6, Value.bool (x8))] := (hS.part (.cons rfl (.nil _)))
        refine x_then ?_
        refine wp_ret ?_
        have hr' := Option.some.inj h
        subst hr'
        refine ret1 (.inr rfl) hS rfl rfl ?_
        exact ⟨K, (Hp.le.refl _), hM, rfl⟩

theorem nvt_In_Next_c_v0_50_6 {w0 w : World} {K : Hp} {L : List SP} {p1 : nvt_In} {p10 : UInt8} {p11 : Bool} {g2 : Nat} {w3 : Value} {w4 : Value} {w5 : Value} {w6 : Value} {w7 : Value} {w8 : Value} {w9 : Value} {r : Bool × nvt_In} (hG : Glob w0) (h : nvt_In_Next p1 p10 p11 = some r) (hM : Sat w0 w K (SP.blk g2 50 [w3, w4, w5, w6, w7, w8, Value.bool (p1.f_behind), w9] :: L)) :
    Calls Tryd.prog 25 #[Value.pointer (some ⟨g2, 6, none⟩), Value.int .u8 (b8 (p10)), Value.bool (p11)] w (fun e w' => ∃ (K' : Hp), Hp.le K K' ∧ Sat w0 w' K' (SP.blk g2 50 [w3, w4, w5, w6, w7, w8, Value.bool (r.2.f_behind), w9] :: L) ∧ e = .returned (Value.bool (r.1))) := by
  refine enter_ (n := 30) (args := [Value.pointer (some ⟨g2, 6, none⟩), Value.int .u8 (b8 (p10)), Value.bool (p11)]) Tryd.func25 rfl rfl (Nat.le_of_ble_eq_true rfl) fun a hS => ?_
  replace hS : Slots 30 [] a [(0, Value.pointer (some ⟨g2, 6, none⟩)), (1, Value.int .u8 (b8 (p10))), (2, Value.bool (p11))] := hS
  unfold nvt_In_Next at h
  refine wp_seq ?_
  refine wp_region_lit ?_
  refine st_val hS rfl rfl (by decide) (r_assign rfl (hS.ev_ rfl)) fun a hS => ?_
  refine st_done ?_
  replace hS : Slots 30 [] a [(6, Value.bool (false)), (0, Value.pointer (some ⟨g2, 6, none⟩)), (1, Value.int .u8 (b8 (p10))), (2, Value.bool (p11))] := (hS.part (.cons rfl (.cons rfl (.cons rfl (.cons rfl (.nil _))))))
  refine x_then ?_
  refine wp_seq ?_
  refine wp_region_lit ?_
  refine st_val hS rfl rfl (by decide) (r_move rfl (hS.ev_ rfl)) fun a hS => ?_
  refine st_val hS rfl rfl (by decide) (r_move rfl (hS.ev_ rfl)) fun a hS => ?_
  obtain ⟨x12, h13, h⟩ := bindO h
  refine wl_cut 3 (fun a w => Slots 30 [] a [(0, Value.pointer (some ⟨g2, 6, none⟩)), (1, Value.int .u8 (b8 (p10))), (2, Value.bool (p11)), (6, Value.bool (false)), (12, Value.bool (x12))] ∧ Sat w0 w K (SP.blk g2 50 [w3, w4, w5, w6, w7, w8, Value.bool (p1.f_behind), w9] :: L)) ?_ ?_
  ·
    skip
    rcases ifB h13 with ⟨hc14, h13⟩ | ⟨hc14, h13⟩
    ·
      replace hS := hS.known (k := 9) rfl hc14
      refine st_off hS rfl rfl rfl rfl rfl rfl (by decide) fun a hS => ?_
      refine st_off hS rfl rfl rfl rfl rfl rfl (by decide) fun a hS => ?_
      refine st_val hS rfl rfl (by decide) (r_pick_true rfl (hS.ev_ rfl) rfl (hS.ev_ rfl)) fun a hS => ?_
      refine st_done ?_
      replace hS : Slots 30 [] a [(12, Value.bool (true)), (6, Value.bool (false)), (0, Value.pointer (some ⟨g2, 6, none⟩)), (1, Value.int .u8 (b8 (p10))), (2, Value.bool (p11))] := (hS.part (.cons rfl (.cons rfl (.cons rfl (.cons rfl (.cons rfl (.nil _)))))))
      refine x_then ?_
      obtain rfl := Option.some.inj h13
      exact ⟨(hS.part (.cons rfl (.cons rfl (.cons rfl (.cons rfl (.cons rfl (.nil _))))))), hM⟩
    ·
      replace hS := hS.known (k := 9) rfl hc14
      refine st_want hS rfl rfl rfl rfl rfl (by decide) (r_move rfl (hS.ev_ rfl)) fun a hS => ?_
      refine st_want hS rfl rfl rfl rfl rfl (by decide) (r_cmp8 rfl (hS.ev_ rfl) (hS.ev_ (v := Value.int .u8 (b8 (0))) rfl) rfl) fun a hS => ?_
      refine st_val hS rfl rfl (by decide) (r_pick_false rfl (hS.ev_ rfl) rfl (hS.ev_ rfl)) fun a hS => ?_
      refine st_done ?_
      replace hS : Slots 30 [] a [(12, Value.bool (p10 != 0)), (6, Value.bool (false)), (0, Value.pointer (some ⟨g2, 6, none⟩)), (1, Value.int .u8 (b8 (p10))), (2, Value.bool (p11))] := (hS.part (.cons rfl (.cons rfl (.cons rfl (.cons rfl (.cons rfl (.nil _)))))))
      refine x_then ?_
      obtain rfl := Option.some.inj h13
      exact ⟨(hS.part (.cons rfl (.cons rfl (.cons rfl (.cons rfl (.cons rfl (.nil _))))))), hM⟩
  · rintro a w ⟨hS, hM⟩
    refine st_val hS rfl rfl (by decide) (r_move rfl (hS.ev_ rfl)) fun a hS => ?_
    obtain ⟨x15, h16, h⟩ := bindO h
    refine wl_cut 6 (fun a w => Slots 30 [] a [(0, Value.pointer (some ⟨g2, 6, none⟩)), (1, Value.int .u8 (b8 (p10))), (2, Value.bool (p11)), (6, Value.bool (false)), (19, Value.bool (x15))] ∧ Sat w0 w K (SP.blk g2 50 [w3, w4, w5, w6, w7, w8, Value.bool (p1.f_behind), w9] :: L)) ?_ ?_
    ·
      skip
      rcases ifB h16 with ⟨hc17, h16⟩ | ⟨hc17, h16⟩
      ·
        replace hS := hS.known (k := 13) rfl hc17
        refine st_off hS rfl rfl rfl rfl rfl rfl (by decide) fun a hS => ?_
        refine st_off hS rfl rfl rfl rfl rfl rfl (by decide) fun a hS => ?_
        refine st_off hS rfl rfl rfl rfl rfl rfl (by decide) fun a hS => ?_
        refine st_off hS rfl rfl rfl rfl rfl rfl (by decide) fun a hS => ?_
        refine st_off hS rfl rfl rfl rfl rfl rfl (by decide) fun a hS => ?_
        refine st_val hS rfl rfl (by decide) (r_pick_true rfl (hS.ev_ rfl) rfl (hS.ev_ rfl)) fun a hS => ?_
        refine st_done ?_
        replace hS : Slots 30 [] a [(19, Value.bool (true)), (0, Value.pointer (some ⟨g2, 6, none⟩)), (1, Value.int .u8 (b8 (p10))), (2, Value.bool (p11)), (6, Value.bool (false))] := (hS.part (.cons rfl (.cons rfl (.cons rfl (.cons rfl (.cons rfl (.nil _)))))))
        refine x_then ?_
        obtain rfl := Option.some.inj h16
        exact ⟨(hS.part (.cons rfl (.cons rfl (.cons rfl (.cons rfl (.cons rfl (.nil _))))))), hM⟩
      ·
        replace hS := hS.known (k := 13) rfl hc17
        refine st_want hS rfl rfl rfl rfl rfl (by decide) (r_move rfl (hS.ev_ rfl)) fun a hS => ?_
        refine st_want hS rfl rfl rfl rfl rfl (by decide) (r_nilCheck rfl (hS.ev_ rfl)) fun a hS => ?_
        refine st_want hS rfl rfl rfl rfl rfl (by decide) (r_fld_b rfl fo_48_0 (hS.ev_ rfl)) fun a hS => ?_
        refine st_want hS rfl rfl rfl rfl rfl (by decide) (r_ld1_b rfl ag_4 (hS.ev_ rfl) rfl (Rd.of hM)) fun a hS => ?_
        refine st_want hS rfl rfl rfl rfl rfl (by decide) (r_not rfl (hS.ev_ rfl)) fun a hS => ?_
        refine st_val hS rfl rfl (by decide) (r_pick_false rfl (hS.ev_ rfl) rfl (hS.ev_ rfl)) fun a hS => ?_
        refine st_done ?_
        replace hS : Slots 30 [] a [(19, Value.bool (!p1.f_behind)), (0, Value.pointer (some ⟨g2, 6, none⟩)), (1, Value.int .u8 (b8 (p10))), (2, Value.bool (p11)), (6, Value.bool (false))] := (hS.part (.cons rfl (.cons rfl (.cons rfl (.cons rfl (.cons rfl (.nil _)))))))
        refine x_then ?_
        obtain rfl := Option.some.inj h16
        exact ⟨(hS.part (.cons rfl (.cons rfl (.cons rfl (.cons rfl (.cons rfl (.nil _))))))), hM⟩
    · rintro a w ⟨hS, hM⟩
      refine st_val hS rfl rfl (by decide) (r_assign rfl (hS.ev_ rfl)) fun a hS => ?_
      refine st_done ?_
      replace hS : Slots 30 [] a [(7, Value.bool (x15)), (0, Value.pointer (some ⟨g2, 6, none⟩)), (1, Value.int .u8 (b8 (p10))), (2, Value.bool (p11)), (6, Value.bool (false))] := (hS.part (.cons rfl (.cons rfl (.cons rfl (.cons rfl (.cons rfl (.nil _)))))))
      refine x_then ?_
      refine wp_seq ?_
      refine wp_region_lit ?_
      refine st_val hS rfl rfl (by decide) (r_move rfl (hS.ev_ rfl)) fun a hS => ?_
      refine st_val hS rfl rfl (by decide) (r_move rfl (hS.ev_ rfl)) fun a hS => ?_
      refine st_val hS rfl rfl (by decide) (r_not rfl (hS.ev_ rfl)) fun a hS => ?_
      refine st_val hS rfl rfl (by decide) (r_move rfl (hS.ev_ rfl)) fun a hS => ?_
      obtain ⟨x18, h19, h⟩ := bindO h
      refine wl_cut 3 (fun a w => Slots 30 [] a [(6, Value.bool (false)), (7, Value.bool (x15)), (20, Value.pointer (some ⟨g2, 6, none⟩)), (26, Value.bool (x18))] ∧ Sat w0 w K (SP.blk g2 50 [w3, w4, w5, w6, w7, w8, Value.bool (p1.f_behind), w9] :: L)) ?_ ?_
      ·
        skip
        rcases ifB h19 with ⟨hc20, h19⟩ | ⟨hc20, h19⟩
        ·
          replace hS := hS.known (k := 23) rfl hc20
          refine st_want hS rfl rfl rfl rfl rfl (by decide) (r_move rfl (hS.ev_ rfl)) fun a hS => ?_
          refine st_want hS rfl rfl rfl rfl rfl (by decide) (r_cmp8 rfl (hS.ev_ rfl) (hS.ev_ (v := Value.int .u8 (b8 (13))) rfl) rfl) fun a hS => ?_
          refine st_val hS rfl rfl (by decide) (r_pick_true rfl (hS.ev_ rfl) rfl (hS.ev_ rfl)) fun a hS => ?_
          refine st_done ?_
          replace hS : Slots 30 [] a [(26, Value.bool (p10 == 13)), (20, Value.pointer (some ⟨g2, 6, none⟩)), (7, Value.bool (x15)), (6, Value.bool (false))] := (hS.part (.cons rfl (.cons rfl (.cons rfl (.cons rfl (.nil _))))))
          refine x_then ?_
          obtain rfl := Option.some.inj h19
          exact ⟨(hS.part (.cons rfl (.cons rfl (.cons rfl (.cons rfl (.nil _)))))), hM⟩
        ·
          replace hS := hS.known (k := 23) rfl hc20
          refine st_off hS rfl rfl rfl rfl rfl rfl (by decide) fun a hS => ?_
          refine st_off hS rfl rfl rfl rfl rfl rfl (by decide) fun a hS => ?_
          refine st_val hS rfl rfl (by decide) (r_pick_false rfl (hS.ev_ rfl) rfl (hS.ev_ rfl)) fun a hS => ?_
          refine st_done ?_
          replace hS : Slots 30 [] a [(26, Value.bool (false)), (20, Value.pointer (some ⟨g2, 6, none⟩)), (7, Value.bool (x15)), (6, Value.bool (false))] := (hS.part (.cons rfl (.cons rfl (.cons rfl (.cons rfl (.nil _))))))
          refine x_then ?_
          obtain rfl := Option.some.inj h19
          exact ⟨(hS.part (.cons rfl (.cons rfl (.cons rfl (.cons rfl (.nil _)))))), hM⟩
      · rintro a w ⟨hS, hM⟩
        refine st_val hS rfl rfl (by decide) (r_nilCheck rfl (hS.ev_ rfl)) fun a hS => ?_
        refine st_val hS rfl rfl (by decide) (r_fld_b rfl fo_48_0 (hS.ev_ rfl)) fun a hS => ?_
        refine wl_cons rfl (e_store1 hM rfl ti_4 (hS.ev_ rfl) (hS.ev_ rfl) rfl (Nat.lt_of_lt_of_le (Nat.le_of_ble_eq_true rfl) (Nat.le_refl _)) fun w hM => ?_)
        have hM : Sat w0 w K (SP.blk g2 50 [w3, w4, w5, w6, w7, w8, Value.bool (x18), w9] :: L) := hM
        refine pl0 hS rfl fun a hS => ?_
        refine st_done ?_
        replace hS : Slots 30 [] a [(6, Value.bool (false)), (7, Value.bool (x15))] := (hS.part (.cons rfl (.cons rfl (.nil _))))
        refine x_then ?_
        refine wp_seq ?_
        refine wp_region_lit ?_
        refine st_val hS rfl rfl (by decide) (r_move rfl (hS.ev_ rfl)) fun a hS => ?_
        refine st_val hS rfl rfl (by decide) (r_assign rfl (hS.ev_ rfl)) fun a hS => ?_
        refine st_done ?_
        replace hS : Slots 30 [] a [(6, Value.bool (x15))] := (hS.part (.cons rfl (.nil _)))
        refine x_then ?_
        refine wp_ret ?_
        have hr' := Option.some.inj h
        subst hr'
        refine ret1 (.inr rfl) hS rfl rfl ?_
        exact ⟨K, (Hp.le.refl _), hM, rfl⟩

theorem clean_Cleaner_stays_c {w0 w : World} {K : Hp} {L : List SP} {p1 : clean_Cleaner} {p5 : iac_Token} {p8 : Bool} {g2 : Nat} {v3 : Value} {v6 : Value} {r : Bool × clean_Cleaner} (hG : Glob w0) (h : clean_Cleaner_stays p1 p5 p8 = some r) (f7 : Kd.u8.sl K v6 p5.f_Body) (hM : Sat w0 w K (SP.blk g2 50 [Value.int .i64 (p1.f_tokens.f_state), Value.int .i64 (p1.f_tokens.f_token.f_Kind), Value.int .i64 (p1.f_tokens.f_token.f_Code), Value.int .i64 (p1.f_tokens.f_token.f_Option), v3, Value.bool (p1.f_tokens.f_token.f_Cut), Value.bool (p1.f_in.f_behind), Value.bool (p1.f_deaf)] :: SP.row Kd.u8 5 v3 p1.f_tokens.f_token.f_Body :: L)) :
    Calls Tryd.prog 22 #[Value.pointer (some ⟨g2, 0, none⟩), Value.agg #[Value.int .i64 (p5.f_Kind), Value.int .i64 (p5.f_Code), Value.int .i64 (p5.f_Option), v6, Value.bool (p5.f_Cut)], Value.bool (p8)] w (fun e w' => ∃ (K' : Hp) (v'1 : Value), Hp.le K K' ∧ Sat w0 w' K' (SP.blk g2 50 [Value.int .i64 (r.2.f_tokens.f_state), Value.int .i64 (r.2.f_tokens.f_token.f_Kind), Value.int .i64 (r.2.f_tokens.f_token.f_Code), Value.int .i64 (r.2.f_tokens.f_token.f_Option), v'1, Value.bool (r.2.f_tokens.f_token.f_Cut), Value.bool (r.2.f_in.f_behind), Value.bool (r.2.f_deaf)] :: SP.row Kd.u8 5 v'1 r.2.f_tokens.f_token.f_Body :: L) ∧ e = .returned (Value.bool (r.1))) := by
  refine enter_ (n := 38) (args := [Value.pointer (some ⟨g2, 0, none⟩), Value.agg #[Value.int .i64 (p5.f_Kind), Value.int .i64 (p5.f_Code), Value.int .i64 (p5.f_Option), v6, Value.bool (p5.f_Cut)], Value.bool (p8)]) Tryd.func22 rfl rfl (Nat.le_of_ble_eq_true rfl) fun a hS => ?_
  replace hS : Slots 38 [] a [(0, Value.pointer (some ⟨g2, 0, none⟩)), (1, Value.agg #[Value.int .i64 (p5.f_Kind), Value.int .i64 (p5.f_Code), Value.int .i64 (p5.f_Option), v6, Value.bool (p5.f_Cut)]), (2, Value.bool (p8))] := hS
  unfold clean_Cleaner_stays at h
  refine wp_seq ?_
  refine wp_region_lit ?_
  refine wl_cons rfl (e_box (cs := [Value.int .i64 (p5.f_Kind), Value.int .i64 (p5.f_Code), Value.int .i64 (p5.f_Option), v6, Value.bool (p5.f_Cut)]) hM rfl (hS.ev_ rfl) rfl fun g9 w hM => ?_)
  refine pl hS rfl (by decide) fun a hS => ?_
  refine st_val hS rfl rfl (by decide) (r_assign rfl (hS.ev_ rfl)) fun a hS => ?_
  refine st_done ?_
  replace hS : Slots 38 [] a [(6, Value.bool (false)), (4, Value.pointer (some ⟨g9, 0, none⟩)), (0, Value.pointer (some ⟨g2, 0, none⟩)), (2, Value.bool (p8))] := (hS.part (.cons rfl (.cons rfl (.cons rfl (.cons rfl (.nil _))))))
  refine x_then ?_
  refine wp_seq ?_
  refine wp_block ?_
  refine wp_seq ?_
  refine wp_region_lit ?_
  refine st_val hS rfl rfl (by decide) (r_fld_b rfl fo_30_0 (hS.ev_ rfl)) fun a hS => ?_
  refine st_val hS rfl rfl (by decide) (r_ld1_b rfl ag_3 (hS.ev_ rfl) rfl (Rd.of hM)) fun a hS => ?_
  refine st_val hS rfl rfl (by decide) (r_cmp rfl (hS.ev_ rfl) (hS.ev_ rfl) rfl) fun a hS => ?_
  refine st_val hS rfl rfl (by decide) (r_move rfl (hS.ev_ rfl)) fun a hS => ?_
  obtain ⟨x11, h12, h⟩ := bindO h
  refine wl_cut 4 (fun a w => Slots 38 [] a [(0, Value.pointer (some ⟨g2, 0, none⟩)), (2, Value.bool (p8)), (4, Value.pointer (some ⟨g9, 0, none⟩)), (6, Value.bool (false)), (15, Value.bool (x11))] ∧ Sat w0 w K (SP.blk g9 30 [Value.int .i64 (p5.f_Kind), Value.int .i64 (p5.f_Code), Value.int .i64 (p5.f_Option), v6, Value.bool (p5.f_Cut)] :: SP.blk g2 50 [Value.int .i64 (p1.f_tokens.f_state), Value.int .i64 (p1.f_tokens.f_token.f_Kind), Value.int .i64 (p1.f_tokens.f_token.f_Code), Value.int .i64 (p1.f_tokens.f_token.f_Option), v3, Value.bool (p1.f_tokens.f_token.f_Cut), Value.bool (p1.f_in.f_behind), Value.bool (p1.f_deaf)] :: SP.row Kd.u8 5 v3 p1.f_tokens.f_token.f_Body :: L)) ?_ ?_
  ·
    skip
    rcases ifB h12 with ⟨hc13, h12⟩ | ⟨hc13, h12⟩
    ·
      replace hS := hS.known (k := 11) rfl hc13
      refine st_want hS rfl rfl rfl rfl rfl (by decide) (r_fld_b rfl fo_30_1 (hS.ev_ rfl)) fun a hS => ?_
      refine st_want hS rfl rfl rfl rfl rfl (by decide) (r_ld1_b rfl ag_3 (hS.ev_ rfl) rfl (Rd.of hM)) fun a hS => ?_
      refine st_want hS rfl rfl rfl rfl rfl (by decide) (r_cmp rfl (hS.ev_ rfl) (hS.ev_ rfl) rfl) fun a hS => ?_
      refine st_val hS rfl rfl (by decide) (r_pick_true rfl (hS.ev_ rfl) rfl (hS.ev_ rfl)) fun a hS => ?_
      refine st_done ?_
      replace hS : Slots 38 [] a [(15, Value.bool (p5.f_Code == 242)), (6, Value.bool (false)), (4, Value.pointer (some ⟨g9, 0, none⟩)), (0, Value.pointer (some ⟨g2, 0, none⟩)), (2, Value.bool (p8))] := (hS.part (.cons rfl (.cons rfl (.cons rfl (.cons rfl (.cons rfl (.nil _)))))))
      refine x_then ?_
      obtain rfl := Option.some.inj h12
      exact ⟨(hS.part (.cons rfl (.cons rfl (.cons rfl (.cons rfl (.cons rfl (.nil _))))))), (((hM.pull 2 rfl rfl).pull 2 rfl rfl).pull 2 rfl rfl)⟩
    ·
      replace hS := hS.known (k := 11) rfl hc13
      refine st_off hS rfl rfl rfl rfl rfl rfl (by decide) fun a hS => ?_
      refine st_off hS rfl rfl rfl rfl rfl rfl (by decide) fun a hS => ?_
      refine st_off hS rfl rfl rfl rfl rfl rfl (by decide) fun a hS => ?_
      refine st_val hS rfl rfl (by decide) (r_pick_false rfl (hS.ev_ rfl) rfl (hS.ev_ rfl)) fun a hS => ?_
      refine st_done ?_
      replace hS : Slots 38 [] a [(15, Value.bool (false)), (6, Value.bool (false)), (4, Value.pointer (some ⟨g9, 0, none⟩)), (0, Value.pointer (some ⟨g2, 0, none⟩)), (2, Value.bool (p8))] := (hS.part (.cons rfl (.cons rfl (.cons rfl (.cons rfl (.cons rfl (.nil _)))))))
      refine x_then ?_
      obtain rfl := Option.some.inj h12
      exact ⟨(hS.part (.cons rfl (.cons rfl (.cons rfl (.cons rfl (.cons rfl (.nil _))))))), (((hM.pull 2 rfl rfl).pull 2 rfl rfl).pull 2 rfl rfl)⟩
  · rintro a w ⟨hS, hM⟩
    refine st_val hS rfl rfl (by decide) (r_assign rfl (hS.ev_ rfl)) fun a hS => ?_
    refine st_done ?_
    replace hS : Slots 38 [] a [(7, Value.bool (x11)), (0, Value.pointer (some ⟨g2, 0, none⟩)), (2, Value.bool (p8)), (4, Value.pointer (some ⟨g9, 0, none⟩)), (6, Value.bool (false))] := (hS.part (.cons rfl (.cons rfl (.cons rfl (.cons rfl (.cons rfl (.nil _)))))))
    refine x_then ?_
    rcases ifB h with ⟨hc14, h⟩ | ⟨hc14, h⟩
    · refine c_cond_true (hS.ev_ rfl) hc14 ?_
      refine wp_seq ?_
      refine wp_region_lit ?_
      refine st_val hS rfl rfl (by decide) (r_move rfl (hS.ev_ rfl)) fun a hS => ?_
      refine st_val hS rfl rfl (by decide) (r_nilCheck rfl (hS.ev_ rfl)) fun a hS => ?_
      refine st_val hS rfl rfl (by decide) (r_fld_b rfl fo_50_2 (hS.ev_ rfl)) fun a hS => ?_
      replace hM := hM.pull 1 rfl rfl
      refine wl_cons rfl (e_store1 hM rfl ti_4 (hS.ev_ rfl) (hS.ev_ rfl) rfl (Nat.lt_of_lt_of_le (Nat.le_of_ble_eq_true rfl) (Nat.le_refl _)) fun w hM => ?_)
      have hM : Sat w0 w K (SP.blk g2 50 [Value.int .i64 (p1.f_tokens.f_state), Value.int .i64 (p1.f_tokens.f_token.f_Kind), Value.int .i64 (p1.f_tokens.f_token.f_Code), Value.int .i64 (p1.f_tokens.f_token.f_Option), v3, Value.bool (p1.f_tokens.f_token.f_Cut), Value.bool (p1.f_in.f_behind), Value.bool (false)] :: SP.blk g9 30 [Value.int .i64 (p5.f_Kind), Value.int .i64 (p5.f_Code), Value.int .i64 (p5.f_Option), v6, Value.bool (p5.f_Cut)] :: SP.row Kd.u8 5 v3 p1.f_tokens.f_token.f_Body :: L) := hM
      refine pl0 hS rfl fun a hS => ?_
      refine st_done ?_
      replace hS : Slots 38 [] a [(0, Value.pointer (some ⟨g2, 0, none⟩)), (2, Value.bool (p8)), (4, Value.pointer (some ⟨g9, 0, none⟩)), (6, Value.bool (false))] := (hS.part (.cons rfl (.cons rfl (.cons rfl (.cons rfl (.nil _))))))
      refine x_then ?_
      refine wp_seq ?_
      refine wp_region_lit ?_
      refine st_val hS rfl rfl (by decide) (r_assign rfl (hS.ev_ rfl)) fun a hS => ?_
      refine st_done ?_
      replace hS : Slots 38 [] a [(6, Value.bool (true)), (0, Value.pointer (some ⟨g2, 0, none⟩)), (2, Value.bool (p8)), (4, Value.pointer (some ⟨g9, 0, none⟩))] := (hS.part (.cons rfl (.cons rfl (.cons rfl (.cons rfl (.nil _))))))
      refine x_then ?_
      refine wp_ret ?_
      refine x_block_ret ?_
      refine x_then_ret ?_
      have hr' := Option.some.inj h
      subst hr'
      refine ret1 (.inr rfl) hS rfl rfl ?_
      exact ⟨K, (v3), (Hp.le.refl _), (((hM.pull 1 rfl rfl).tail.pull 1 rfl rfl).pull 1 rfl rfl), rfl⟩
    · refine c_cond_false (hS.ev_ rfl) hc14 ?_
      refine wp_seq ?_
      refine wp_region_lit ?_
      refine st_val hS rfl rfl (by decide) (r_fld_b rfl fo_30_0 (hS.ev_ rfl)) fun a hS => ?_
      refine st_val hS rfl rfl (by decide) (r_ld1_b rfl ag_3 (hS.ev_ rfl) rfl (Rd.of hM)) fun a hS => ?_
      refine st_val hS rfl rfl (by decide) (r_cmp rfl (hS.ev_ rfl) (hS.ev_ rfl) rfl) fun a hS => ?_
      refine st_val hS rfl rfl (by decide) (r_assign rfl (hS.ev_ rfl)) fun a hS => ?_
      refine st_done ?_
      replace hS : Slots 38 [] a [(19, Value.bool (p5.f_Kind != 1)), (0, Value.pointer (some ⟨g2, 0, none⟩)), (2, Value.bool (p8)), (4, Value.pointer (some ⟨g9, 0, none⟩)), (6, Value.bool (false))] := (hS.part (.cons rfl (.cons rfl (.cons rfl (.cons rfl (.cons rfl (.nil _)))))))
      refine x_then ?_
      rcases ifB h with ⟨hc15, h⟩ | ⟨hc15, h⟩
      · refine c_cond_true (hS.ev_ rfl) hc15 ?_
        refine wp_seq ?_
        refine wp_region_lit ?_
        refine st_val hS rfl rfl (by decide) (r_assign rfl (hS.ev_ rfl)) fun a hS => ?_
        refine st_done ?_
        replace hS : Slots 38 [] a [(6, Value.bool (true)), (0, Value.pointer (some ⟨g2, 0, none⟩)), (2, Value.bool (p8)), (4, Value.pointer (some ⟨g9, 0, none⟩))] := (hS.part (.cons rfl (.cons rfl (.cons rfl (.cons rfl (.nil _))))))
        refine x_then ?_
        refine wp_ret ?_
        refine x_block_ret ?_
        refine x_then_ret ?_
        have hr' := Option.some.inj h
        subst hr'
        refine ret1 (.inr rfl) hS rfl rfl ?_
        exact ⟨K, (v3), (Hp.le.refl _), (((hM).tail.pull 1 rfl rfl).pull 1 rfl rfl), rfl⟩
      · refine c_cond_false (hS.ev_ rfl) hc15 ?_
        refine wp_skip ?_
        refine x_block ?_
        refine x_then ?_
        obtain ⟨x17, h18, h⟩ := bindO h
        refine c_cut (fun a w => ∃ (K16 : Hp), Hp.le K K16 ∧ Slots 38 [] a [(6, Value.bool (x17.1))] ∧ Sat w0 w K16 (SP.blk g9 30 [Value.int .i64 (p5.f_Kind), Value.int .i64 (p5.f_Code), Value.int .i64 (p5.f_Option), v6, Value.bool (p5.f_Cut)] :: SP.blk g2 50 [Value.int .i64 (p1.f_tokens.f_state), Value.int .i64 (p1.f_tokens.f_token.f_Kind), Value.int .i64 (p1.f_tokens.f_token.f_Code), Value.int .i64 (p1.f_tokens.f_token.f_Option), v3, Value.bool (p1.f_tokens.f_token.f_Cut), Value.bool (x17.2), Value.bool (p1.f_deaf)] :: SP.row Kd.u8 5 v3 p1.f_tokens.f_token.f_Body :: L)) ?_ ?_
        ·
          refine tk_start #[false, false, false, false, false, false, false, false, false, false, false, false, false, false, false, false] mixed_ rfl rfl ?_
          replace hM := hM.drew
          generalize w.drew = w at hM ⊢
          refine dk_any (i := 0) #[true, false, false, false, false, false, false, false, false, false, false, false, false, false, false, false] hS rfl (by kernel_rfl) rfl rfl (by decide) (fun w => r_move rfl (hS.ev_ rfl)) fun a hS => ?_
          refine dk_any (i := 1) #[true, true, false, false, false, false, false, false, false, false, false, false, false, false, false, false] hS rfl (by kernel_rfl) rfl rfl (by decide) (fun w => r_nilCheck rfl (hS.ev_ rfl)) fun a hS => ?_
          refine dk_any (i := 2) #[true, true, true, false, false, false, false, false, false, false, false, false, false, false, false, false] hS rfl (by kernel_rfl) rfl rfl (by decide) (fun w => r_fld_b rfl fo_50_2 (hS.ev_ rfl)) fun a hS => ?_
          replace hM := hM.pull 1 rfl rfl
          refine dk_val (i := 3) (S := Rd w0 K [SP.blk g2 50 [Value.int .i64 (p1.f_tokens.f_state), Value.int .i64 (p1.f_tokens.f_token.f_Kind), Value.int .i64 (p1.f_tokens.f_token.f_Code), Value.int .i64 (p1.f_tokens.f_token.f_Option), v3, Value.bool (p1.f_tokens.f_token.f_Cut), Value.bool (p1.f_in.f_behind), Value.bool (p1.f_deaf)]]) #[true, true, true, true, false, false, false, false, false, false, false, false, false, false, false, false] hS rfl (by kernel_rfl) rfl rfl (by decide) (Rd.of hM.only) (fun w hR => r_ld1_b rfl ag_4 (hS.ev_ rfl) rfl hR) fun a hS => ?_
          refine dk_any (i := 4) #[true, true, true, true, true, false, false, false, false, false, false, false, false, false, false, false] hS rfl (by kernel_rfl) rfl rfl (by decide) (fun w => r_not rfl (hS.ev_ rfl)) fun a hS => ?_
          refine dk_any (i := 5) #[true, true, true, true, true, true, false, false, false, false, false, false, false, false, false, false] hS rfl (by kernel_rfl) rfl rfl (by decide) (fun w => r_move rfl (hS.ev_ rfl)) fun a hS => ?_
          rcases ifB h18 with ⟨hc19, h18⟩ | ⟨hc19, h18⟩
          ·
            replace hS := hS.known (k := 28) rfl hc19
            refine dk_want (i := 6) (S := Rd w0 K []) #[true, true, true, true, true, true, true, false, false, false, false, false, false, false, false, false] hS rfl (by kernel_rfl) rfl rfl rfl rfl rfl (by decide) (Rd.of hM.nil_) (fun w hR => r_move rfl (hS.ev_ rfl)) fun a hS => ?_
            refine dk_want (i := 7) (S := Rd w0 K []) #[true, true, true, true, true, true, true, true, false, false, false, false, false, false, false, false] hS rfl (by kernel_rfl) rfl rfl rfl rfl rfl (by decide) (Rd.of hM.nil_) (fun w hR => r_nilCheck rfl (hS.ev_ rfl)) fun a hS => ?_
            refine dk_want (i := 8) (S := Rd w0 K []) #[true, true, true, true, true, true, true, true, true, false, false, false, false, false, false, false] hS rfl (by kernel_rfl) rfl rfl rfl rfl rfl (by decide) (Rd.of hM.nil_) (fun w hR => r_fld_b rfl fo_50_1 (hS.ev_ rfl)) fun a hS => ?_
            refine dk_want (i := 9) (S := Rd w0 K []) #[true, true, true, true, true, true, true, true, true, true, false, false, false, false, false, false] hS rfl (by kernel_rfl) rfl rfl rfl rfl rfl (by decide) (Rd.of hM.nil_) (fun w hR => r_fld_b rfl fo_30_1 (hS.ev_ rfl)) fun a hS => ?_
            replace hM := hM.pull 1 rfl rfl
            refine dk_want (i := 10) (S := Rd w0 K [SP.blk g9 30 [Value.int .i64 (p5.f_Kind), Value.int .i64 (p5.f_Code), Value.int .i64 (p5.f_Option), v6, Value.bool (p5.f_Cut)]]) #[true, true, true, true, true, true, true, true, true, true, true, false, false, false, false, false] hS rfl (by kernel_rfl) rfl rfl rfl rfl rfl (by decide) (Rd.of hM.only) (fun w hR => r_ld1_b rfl ag_3 (hS.ev_ rfl) rfl hR) fun a hS => ?_
            refine dk_want (i := 11) (S := Rd w0 K []) #[true, true, true, true, true, true, true, true, true, true, true, true, false, false, false, false] hS rfl (by kernel_rfl) rfl rfl rfl rfl rfl (by decide) (Rd.of hM.nil_) (fun w hR => r_conv_i8 rfl un_3 un_5 (hS.ev_ rfl)) fun a hS => ?_
            refine dk_want (i := 12) (S := Rd w0 K []) #[true, true, true, true, true, true, true, true, true, true, true, true, true, false, false, false] hS rfl (by kernel_rfl) rfl rfl rfl rfl rfl (by decide) (Rd.of hM.nil_) (fun w hR => r_move rfl (hS.ev_ rfl)) fun a hS => ?_
            obtain ⟨y20, h21, h18⟩ := bindO h18
            replace hM := hM.pull 1 rfl rfl
            have hc23 := nvt_In_Next_c_v0_50_6 hG h21 hM
            refine dk_onew (i := 13) #[true, true, true, true, true, true, true, true, true, true, true, true, true, true, false, false] hS rfl (by kernel_rfl) rfl rfl rfl rfl (e_call rfl Tryd.func25 rfl rfl (args3 (hS.ev_ rfl) (hS.ev_ rfl) (hS.ev_ rfl)) hc23 ?_)
            rintro _ w ⟨K22, hlK22, hM, rfl⟩
            refine ⟨_, rfl, ?_⟩
            refine pT hS rfl (by decide) (Dem.wait (by kernel_rfl) (Dem.wait (by kernel_rfl) (Dem.wait (by kernel_rfl) (Dem.wait (by kernel_rfl) (Dem.wait (by kernel_rfl) (Dem.wait (by kernel_rfl) (Dem.wait (by kernel_rfl) (Dem.wait (by kernel_rfl) Dem.nil)))))))) fun a hS => ?_
            refine dk_any (i := 14) #[true, true, true, true, true, true, true, true, true, true, true, true, true, true, true, false] hS rfl (by kernel_rfl) rfl rfl (by decide) (fun w => r_pick_true rfl (hS.ev_ rfl) rfl (hS.ev_ rfl)) fun a hS => ?_
            refine dk_any (i := 15) #[true, true, true, true, true, true, true, true, true, true, true, true, true, true, true, true] hS rfl (by kernel_rfl) rfl rfl (by decide) (fun w => r_assign rfl (hS.ev_ rfl)) fun a hS => ?_
            refine tk_done (by kernel_rfl) ?_
            replace hS : Slots 38 [] a [(6, Value.bool (y20.1))] := (hS.part (.cons rfl (.nil _)))
            refine x_then ?_
            obtain rfl := Option.some.inj h18
            exact ⟨K22, hlK22, (hS.part (.cons rfl (.nil _))), (((hM.pull 2 rfl rfl).pull 1 rfl rfl).pull 2 rfl rfl)⟩
          ·
            replace hS := hS.known (k := 28) rfl hc19
            refine dk_off (i := 6) (Rd w0 K []) #[true, true, true, true, true, true, true, false, false, false, false, false, false, false, false, false] hS rfl (by kernel_rfl) rfl rfl rfl rfl (.inl rfl) rfl (by decide) (Rd.of hM.nil_) fun a hS => ?_
            refine dk_off (i := 7) (Rd w0 K []) #[true, true, true, true, true, true, true, true, false, false, false, false, false, false, false, false] hS rfl (by kernel_rfl) rfl rfl rfl rfl (.inl rfl) rfl (by decide) (Rd.of hM.nil_) fun a hS => ?_
            refine dk_off (i := 8) (Rd w0 K []) #[true, true, true, true, true, true, true, true, true, false, false, false, false, false, false, false] hS rfl (by kernel_rfl) rfl rfl rfl rfl (.inl rfl) rfl (by decide) (Rd.of hM.nil_) fun a hS => ?_
            refine dk_off (i := 9) (Rd w0 K []) #[true, true, true, true, true, true, true, true, true, true, false, false, false, false, false, false] hS rfl (by kernel_rfl) rfl rfl rfl rfl (.inl rfl) rfl (by decide) (Rd.of hM.nil_) fun a hS => ?_
            refine dk_off (i := 10) (Rd w0 K []) #[true, true, true, true, true, true, true, true, true, true, true, false, false, false, false, false] hS rfl (by kernel_rfl) rfl rfl rfl rfl (.inl rfl) rfl (by decide) (Rd.of hM.nil_) fun a hS => ?_
            refine dk_off (i := 11) (Rd w0 K []) #[true, true, true, true, true, true, true, true, true, true, true, true, false, false, false, false] hS rfl (by kernel_rfl) rfl rfl rfl rfl (.inl rfl) rfl (by decide) (Rd.of hM.nil_) fun a hS => ?_
            refine dk_off (i := 12) (Rd w0 K []) #[true, true, true, true, true, true, true, true, true, true, true, true, true, false, false, false] hS rfl (by kernel_rfl) rfl rfl rfl rfl (.inl rfl) rfl (by decide) (Rd.of hM.nil_) fun a hS => ?_
            refine dk_off (i := 13) (Rd w0 K []) #[true, true, true, true, true, true, true, true, true, true, true, true, true, true, false, false] hS rfl (by kernel_rfl) rfl rfl rfl rfl (.inl rfl) rfl (by decide) (Rd.of hM.nil_) fun a hS => ?_
            refine dk_any (i := 14) #[true, true, true, true, true, true, true, true, true, true, true, true, true, true, true, false] hS rfl (by kernel_rfl) rfl rfl (by decide) (fun w => r_pick_false rfl (hS.ev_ rfl) rfl (hS.ev_ rfl)) fun a hS => ?_
            refine dk_any (i := 15) #[true, true, true, true, true, true, true, true, true, true, true, true, true, true, true, true] hS rfl (by kernel_rfl) rfl rfl (by decide) (fun w => r_assign rfl (hS.ev_ rfl)) fun a hS => ?_
            refine tk_done (by kernel_rfl) ?_
            replace hS : Slots 38 [] a [(6, Value.bool (false))] := (hS.part (.cons rfl (.nil _)))
            refine x_then ?_
            obtain rfl := Option.some.inj h18
            exact ⟨K, (Hp.le.refl _), (hS.part (.cons rfl (.nil _))), (((hM.pull 2 rfl rfl).pull 1 rfl rfl).pull 2 rfl rfl)⟩
        · rintro a w ⟨K16, hlK16, hS, hM⟩
          refine wp_ret ?_
          have hr' := Option.some.inj h
          subst hr'
          refine ret1 (.inr rfl) hS rfl rfl ?_
          exact ⟨K16, (v3), hlK16, (((hM).tail.pull 1 rfl rfl).pull 1 rfl rfl), rfl⟩

theorem iac_Tokens_add_c_v0_50_0 {w0 w : World} {K : Hp} {L : List SP} {p1 : iac_Tokens} {p7 : UInt8} {g2 : Nat} {v3 : Value} {w5 : Value} {w6 : Value} {r : iac_Tokens} (hG : Glob w0) (h : iac_Tokens_add p1 p7 = some r) (hM : Sat w0 w K (SP.blk g2 50 [Value.int .i64 (p1.f_state), Value.int .i64 (p1.f_token.f_Kind), Value.int .i64 (p1.f_token.f_Code), Value.int .i64 (p1.f_token.f_Option), v3, Value.bool (p1.f_token.f_Cut), w5, w6] :: SP.row Kd.u8 5 v3 p1.f_token.f_Body :: L)) :
    Calls Tryd.prog 21 #[Value.pointer (some ⟨g2, 0, none⟩), Value.int .u8 (b8 (p7))] w (fun e w' => ∃ (K' : Hp) (v'1 : Value), Hp.le K K' ∧ Sat w0 w' K' (SP.blk g2 50 [Value.int .i64 (r.f_state), Value.int .i64 (r.f_token.f_Kind), Value.int .i64 (r.f_token.f_Code), Value.int .i64 (r.f_token.f_Option), v'1, Value.bool (r.f_token.f_Cut), w5, w6] :: SP.row Kd.u8 5 v'1 r.f_token.f_Body :: L) ∧ e = .returned (Value.tuple #[])) := by
  refine enter_ (n := 27) (args := [Value.pointer (some ⟨g2, 0, none⟩), Value.int .u8 (b8 (p7))]) Tryd.func21 rfl rfl (Nat.le_of_ble_eq_true rfl) fun a hS => ?_
  replace hS : Slots 27 [] a [(0, Value.pointer (some ⟨g2, 0, none⟩)), (1, Value.int .u8 (b8 (p7)))] := hS
  unfold iac_Tokens_add at h
  refine wp_seq ?_
  refine wp_seq ?_
  refine wp_region_lit ?_
  refine st_val hS rfl rfl (by decide) (r_move rfl (hS.ev_ rfl)) fun a hS => ?_
  refine st_val hS rfl rfl (by decide) (r_nilCheck rfl (hS.ev_ rfl)) fun a hS => ?_
  refine st_val hS rfl rfl (by decide) (r_fld_b rfl fo_43_1 (hS.ev_ rfl)) fun a hS => ?_
  refine st_val hS rfl rfl (by decide) (r_fld_b rfl fo_30_3 (hS.ev_ rfl)) fun a hS => ?_
  refine st_val hS rfl rfl (by decide) (r_ld1_b rfl ag_22 (hS.ev_ rfl) rfl (Rd.of hM)) fun a hS => ?_
  replace hM := hM.pull 1 rfl rfl
  refine st_val hS rfl rfl (by decide) (r_len_rowR rfl un_22 (hS.ev_ rfl) (Rd.of hM)) fun a hS => ?_
  refine st_val hS rfl rfl (by decide) (r_cmp rfl (hS.ev_ rfl) (hS.ev_ rfl) rfl) fun a hS => ?_
  refine st_done ?_
  replace hS : Slots 27 [] a [(10, Value.bool (decide (((p1.f_token.f_Body.length : Int)) ≥ 256))), (0, Value.pointer (some ⟨g2, 0, none⟩)), (1, Value.int .u8 (b8 (p7)))] := (hS.part (.cons rfl (.cons rfl (.cons rfl (.nil _)))))
  refine x_then ?_
  rcases ifB h with ⟨hc8, h⟩ | ⟨hc8, h⟩
  · refine c_cond_true (hS.ev_ rfl) hc8 ?_
    refine wp_seq ?_
    refine wp_region_lit ?_
    refine st_val hS rfl rfl (by decide) (r_move rfl (hS.ev_ rfl)) fun a hS => ?_
    refine st_val hS rfl rfl (by decide) (r_nilCheck rfl (hS.ev_ rfl)) fun a hS => ?_
    refine st_val hS rfl rfl (by decide) (r_fld_b rfl fo_43_1 (hS.ev_ rfl)) fun a hS => ?_
    refine st_val hS rfl rfl (by decide) (r_fld_b rfl fo_30_4 (hS.ev_ rfl)) fun a hS => ?_
    replace hM := hM.pull 1 rfl rfl
    refine wl_cons rfl (e_store1 hM rfl ti_4 (hS.ev_ rfl) (hS.ev_ rfl) rfl (Nat.lt_of_lt_of_le (Nat.le_of_ble_eq_true rfl) (Nat.le_refl _)) fun w hM => ?_)
    have hM : Sat w0 w K (SP.blk g2 50 [Value.int .i64 (p1.f_state), Value.int .i64 (p1.f_token.f_Kind), Value.int .i64 (p1.f_token.f_Code), Value.int .i64 (p1.f_token.f_Option), v3, Value.bool (true), w5, w6] :: SP.row Kd.u8 5 v3 p1.f_token.f_Body :: L) := hM
    refine pl0 hS rfl fun a hS => ?_
    refine st_done ?_
    replace hS : Slots 27 [] a [(0, Value.pointer (some ⟨g2, 0, none⟩)), (1, Value.int .u8 (b8 (p7)))] := (hS.part (.cons rfl (.cons rfl (.nil _))))
    refine x_then ?_
    refine wp_ret ?_
    refine x_then_ret ?_
    have hr' := Option.some.inj h
    subst hr'
    refine ret0 (.inr rfl) hS rfl  ?_
    exact ⟨K, (v3), (Hp.le.refl _), ((hM.pull 1 rfl rfl).pull 1 rfl rfl), rfl⟩
  · refine c_cond_false (hS.ev_ rfl) hc8 ?_
    refine wp_skip ?_
    refine x_then ?_
    refine wp_region_lit ?_
    refine st_val hS rfl rfl (by decide) (r_move rfl (hS.ev_ rfl)) fun a hS => ?_
    refine st_val hS rfl rfl (by decide) (r_move rfl (hS.ev_ rfl)) fun a hS => ?_
    refine st_val hS rfl rfl (by decide) (r_nilCheck rfl (hS.ev_ rfl)) fun a hS => ?_
    refine st_val hS rfl rfl (by decide) (r_fld_b rfl fo_43_1 (hS.ev_ rfl)) fun a hS => ?_
    refine st_val hS rfl rfl (by decide) (r_fld_b rfl fo_30_3 (hS.ev_ rfl)) fun a hS => ?_
    replace hM := hM.pull 1 rfl rfl
    refine st_val hS rfl rfl (by decide) (r_ld1_b rfl ag_22 (hS.ev_ rfl) rfl (Rd.of hM)) fun a hS => ?_
    refine st_val hS rfl rfl (by decide) (r_move rfl (hS.ev_ rfl)) fun a hS => ?_
    refine wl_cons rfl (e_litK (d := Kd.u8) (e := 5) (cs := [Value.int .u8 (b8 (p7))]) (xs := ([p7] : List UInt8)) hM rfl (parts_ev hS rfl) (by kernel_rfl) ⟨[Value.int .u8 (b8 (p7))], [], rfl, rfl, rfl⟩ rfl (by decide) fun v9 K10 w hlK10 hM f11 => ?_)
    refine pl hS rfl (by decide) fun a hS => ?_
    replace hM := hM.pull 1 rfl rfl
    obtain ⟨h12, h⟩ := bindU h
    refine wl_cons rfl (e_apd_sl hM rfl un_22 un_22 ti_5 rfl rfl (by decide) (hS.ev_ rfl) (hS.ev_ rfl) f11 (req_some h12) fun v13 w hM => ?_)
    refine pl hS rfl (by decide) fun a hS => ?_
    refine st_val hS rfl rfl (by decide) (r_nilCheck rfl (hS.ev_ rfl)) fun a hS => ?_
    refine st_val hS rfl rfl (by decide) (r_fld_b rfl fo_43_1 (hS.ev_ rfl)) fun a hS => ?_
    refine st_val hS rfl rfl (by decide) (r_fld_b rfl fo_30_3 (hS.ev_ rfl)) fun a hS => ?_
    replace hM := hM.pull 1 rfl rfl
    replace hM := hM.pull 1 rfl rfl
    have ho14 := row_one hM
    replace hM := hM.pull 1 rfl rfl
    refine wl_cons rfl (e_store1 hM rfl ti_22 (hS.ev_ rfl) (hS.ev_ rfl) ho14 (Nat.lt_of_lt_of_le (Nat.le_of_ble_eq_true rfl) (Nat.le_refl _)) fun w hM => ?_)
    have hM : Sat w0 w K10 (SP.blk g2 50 [Value.int .i64 (p1.f_state), Value.int .i64 (p1.f_token.f_Kind), Value.int .i64 (p1.f_token.f_Code), Value.int .i64 (p1.f_token.f_Option), v13, Value.bool (p1.f_token.f_Cut), w5, w6] :: SP.row Kd.u8 5 v13 (p1.f_token.f_Body ++ ([p7] : List UInt8)) :: L) := hM
    refine pl0 hS rfl fun a hS => ?_
    refine st_done ?_
    replace hS : Slots 27 [] a [] := (hS.part (.nil _))
    have hr' := Option.some.inj h
    subst hr'
    refine ret0 (.inl rfl) hS rfl  ?_
    exact ⟨K10, (v13), hlK10, ((hM.pull 1 rfl rfl).pull 1 rfl rfl), rfl⟩

theorem iac_Tokens_Feed_c_v0_50_0 {w0 w : World} {K : Hp} {L : List SP} {p1 : iac_Tokens} {p7 : UInt8} {g2 : Nat} {v3 : Value} {w5 : Value} {w6 : Value} {r : iac_Token × Bool × iac_Tokens} (hG : Glob w0) (h : iac_Tokens_Feed p1 p7 = some r) (hM : Sat w0 w K (SP.blk g2 50 [Value.int .i64 (p1.f_state), Value.int .i64 (p1.f_token.f_Kind), Value.int .i64 (p1.f_token.f_Code), Value.int .i64 (p1.f_token.f_Option), v3, Value.bool (p1.f_token.f_Cut), w5, w6] :: SP.row Kd.u8 5 v3 p1.f_token.f_Body :: L)) :
    Calls Tryd.prog 12 #[Value.pointer (some ⟨g2, 0, none⟩), Value.int .u8 (b8 (p7))] w (fun e w' => ∃ (K' : Hp) (v'1 v'2 : Value), Hp.le K K' ∧ Sat w0 w' K' (SP.blk g2 50 [Value.int .i64 (r.2.2.f_state), Value.int .i64 (r.2.2.f_token.f_Kind), Value.int .i64 (r.2.2.f_token.f_Code), Value.int .i64 (r.2.2.f_token.f_Option), v'2, Value.bool (r.2.2.f_token.f_Cut), w5, w6] :: SP.row Kd.u8 5 v'2 r.2.2.f_token.f_Body :: L) ∧ e = .returned (Value.tuple #[Value.agg #[Value.int .i64 (r.1.f_Kind), Value.int .i64 (r.1.f_Code), Value.int .i64 (r.1.f_Option), v'1, Value.bool (r.1.f_Cut)], Value.bool (r.2.1)]) ∧ Kd.u8.sl K' v'1 r.1.f_Body) := by
  refine enter_ (n := 113) (args := [Value.pointer (some ⟨g2, 0, none⟩), Value.int .u8 (b8 (p7))]) Tryd.func12 rfl rfl (Nat.le_of_ble_eq_true rfl) fun a hS => ?_
  replace hS : Slots 113 [] a [(0, Value.pointer (some ⟨g2, 0, none⟩)), (1, Value.int .u8 (b8 (p7)))] := hS
  unfold iac_Tokens_Feed at h
  refine wp_seq ?_
  refine wp_region_lit ?_
  refine wl_cons rfl (e_alloc (cs := [Value.int .i64 (0), Value.int .i64 (0), Value.int .i64 (0), Value.slice none 0 0, Value.bool (false)]) hM rfl ti_30 rfl fun g8 w hM => ?_)
  refine pl hS rfl (by decide) fun a hS => ?_
  refine st_val hS rfl rfl (by decide) (r_assign rfl (hS.ev_ rfl)) fun a hS => ?_
  refine st_done ?_
  replace hS : Slots 113 [] a [(5, Value.bool (false)), (4, Value.pointer (some ⟨g8, 0, none⟩)), (0, Value.pointer (some ⟨g2, 0, none⟩)), (1, Value.int .u8 (b8 (p7)))] := (hS.part (.cons rfl (.cons rfl (.cons rfl (.cons rfl (.nil _))))))
  refine x_then ?_
  refine c_scope ?_
  refine c_scp_seq ?_
  refine wp_region_lit ?_
  refine wl_cons rfl (e_alloc (cs := [Value.int .i64 (0), Value.int .i64 (0), Value.int .i64 (0), Value.slice none 0 0, Value.bool (false)]) hM rfl ti_30 rfl fun g10 w hM => ?_)
  refine pl hS rfl (by decide) fun a hS => ?_
  refine st_done ?_
  replace hS : Slots 113 [] a [(6, Value.pointer (some ⟨g10, 0, none⟩)), (5, Value.bool (false)), (4, Value.pointer (some ⟨g8, 0, none⟩)), (0, Value.pointer (some ⟨g2, 0, none⟩)), (1, Value.int .u8 (b8 (p7)))] := (hS.part (.cons rfl (.cons rfl (.cons rfl (.cons rfl (.cons rfl (.nil _)))))))
  refine x_then ?_
  refine c_scp_seq ?_
  refine wp_seq ?_
  refine wp_region_lit ?_
  refine st_val hS rfl rfl (by decide) (r_move rfl (hS.ev_ rfl)) fun a hS => ?_
  refine st_val hS rfl rfl (by decide) (r_nilCheck rfl (hS.ev_ rfl)) fun a hS => ?_
  refine st_val hS rfl rfl (by decide) (r_fld_b rfl fo_43_0 (hS.ev_ rfl)) fun a hS => ?_
  replace hM := hM.pull 2 rfl rfl
  refine st_val hS rfl rfl (by decide) (r_ld1_b rfl ag_3 (hS.ev_ rfl) rfl (Rd.of hM)) fun a hS => ?_
  refine st_done ?_
  replace hS : Slots 113 [] a [(10, Value.int .i64 (p1.f_state)), (6, Value.pointer (some ⟨g10, 0, none⟩)), (5, Value.bool (false)), (4, Value.pointer (some ⟨g8, 0, none⟩)), (0, Value.pointer (some ⟨g2, 0, none⟩)), (1, Value.int .u8 (b8 (p7)))] := (hS.part (.cons rfl (.cons rfl (.cons rfl (.cons rfl (.cons rfl (.cons rfl (.nil _))))))))
  refine x_then ?_
  refine wp_block ?_
  refine wp_seq ?_
  refine wp_region_lit ?_
  refine st_val hS rfl rfl (by decide) (r_cmp rfl (hS.ev_ rfl) (hS.ev_ rfl) rfl) fun a hS => ?_
  refine st_val hS rfl rfl (by decide) (r_assign rfl (hS.ev_ rfl)) fun a hS => ?_
  refine st_done ?_
  replace hS : Slots 113 [] a [(11, Value.bool (p1.f_state == 1)), (10, Value.int .i64 (p1.f_state)), (6, Value.pointer (some ⟨g10, 0, none⟩)), (5, Value.bool (false)), (4, Value.pointer (some ⟨g8, 0, none⟩)), (0, Value.pointer (some ⟨g2, 0, none⟩)), (1, Value.int .u8 (b8 (p7)))] := (hS.part (.cons rfl (.cons rfl (.cons rfl (.cons rfl (.cons rfl (.cons rfl (.cons rfl (.nil _)))))))))
  refine x_then ?_
  rcases ifB h with ⟨hc12, h⟩ | ⟨hc12, h⟩
  · refine c_cond_true (hS.ev_ rfl) hc12 ?_
    refine wp_goto ?_
    refine x_block_goto ?_
    refine x_then_goto ?_
    refine x_scope_goto' (b := _) rfl ?_
    refine c_scp_seq ?_
    refine wp_block ?_
    refine wp_seq ?_
    refine wp_region_lit ?_
    refine st_val hS rfl rfl (by decide) (r_move rfl (hS.ev_ rfl)) fun a hS => ?_
    refine st_val hS rfl rfl (by decide) (r_cmp8 rfl (hS.ev_ rfl) (hS.ev_ (v := Value.int .u8 (b8 (255))) rfl) rfl) fun a hS => ?_
    refine st_val hS rfl rfl (by decide) (r_assign rfl (hS.ev_ rfl)) fun a hS => ?_
    refine st_done ?_
    replace hS : Slots 113 [] a [(46, Value.bool (p7 == 255)), (6, Value.pointer (some ⟨g10, 0, none⟩)), (5, Value.bool (false)), (4, Value.pointer (some ⟨g8, 0, none⟩)), (0, Value.pointer (some ⟨g2, 0, none⟩)), (1, Value.int .u8 (b8 (p7)))] := (hS.part (.cons rfl (.cons rfl (.cons rfl (.cons rfl (.cons rfl (.cons rfl (.nil _))))))))
    refine x_then ?_
    rcases ifB h with ⟨hc13, h⟩ | ⟨hc13, h⟩
    · refine c_cond_true (hS.ev_ rfl) hc13 ?_
      refine wp_seq ?_
      refine wp_region_lit ?_
      refine st_val hS rfl rfl (by decide) (r_build (cs := [Value.int .i64 (1), Value.int .i64 (255), Value.int .i64 (0), Value.slice none 0 0, Value.bool (false)]) rfl (parts_ev hS rfl) (by kernel_rfl)) fun a hS => ?_
      replace hM := hM.pull 1 rfl rfl
      refine wl_cons rfl (e_storeN (vs := [Value.int .i64 (1), Value.int .i64 (255), Value.int .i64 (0), Value.slice none 0 0, Value.bool (false)]) hM rfl ti_30 (hS.ev_ rfl) (hS.ev_ rfl) (ones_cons rfl (ones_cons rfl (ones_cons rfl (ones_cons rfl (ones_cons rfl ones_nil))))) (Nat.le_of_ble_eq_true rfl) fun w hM => ?_)
      have hM : Sat w0 w K (SP.blk g10 30 [Value.int .i64 (1), Value.int .i64 (255), Value.int .i64 (0), Value.slice none 0 0, Value.bool (false)] :: SP.blk g2 50 [Value.int .i64 (p1.f_state), Value.int .i64 (p1.f_token.f_Kind), Value.int .i64 (p1.f_token.f_Code), Value.int .i64 (p1.f_token.f_Option), v3, Value.bool (p1.f_token.f_Cut), w5, w6] :: SP.blk g8 30 [Value.int .i64 (0), Value.int .i64 (0), Value.int .i64 (0), Value.slice none 0 0, Value.bool (false)] :: SP.row Kd.u8 5 v3 p1.f_token.f_Body :: L) := hM
      refine pl0 hS rfl fun a hS => ?_
      refine st_done ?_
      replace hS : Slots 113 [] a [(6, Value.pointer (some ⟨g10, 0, none⟩)), (5, Value.bool (false)), (4, Value.pointer (some ⟨g8, 0, none⟩)), (0, Value.pointer (some ⟨g2, 0, none⟩)), (1, Value.int .u8 (b8 (p7)))] := (hS.part (.cons rfl (.cons rfl (.cons rfl (.cons rfl (.cons rfl (.nil _)))))))
      refine x_then ?_
      refine wp_goto ?_
      refine x_block_goto ?_
      refine x_then_goto ?_
      refine x_scope_goto' (b := _) rfl ?_
      refine c_scp_seq ?_
      refine wp_region_lit ?_
      refine st_val hS rfl rfl (by decide) (r_move rfl (hS.ev_ rfl)) fun a hS => ?_
      refine st_val hS rfl rfl (by decide) (r_move rfl (hS.ev_ rfl)) fun a hS => ?_
      refine st_val hS rfl rfl (by decide) (r_build (cs := [Value.int .i64 (0), Value.int .i64 (0), Value.int .i64 (0), Value.slice none 0 0, Value.bool (false)]) rfl (parts_ev hS rfl) (by kernel_rfl)) fun a hS => ?_
      refine st_val hS rfl rfl (by decide) (r_nilCheck rfl (hS.ev_ rfl)) fun a hS => ?_
      refine st_val hS rfl rfl (by decide) (r_fld_b rfl fo_43_0 (hS.ev_ rfl)) fun a hS => ?_
      replace hM := hM.pull 1 rfl rfl
      refine wl_cons rfl (e_store1 hM rfl ti_3 (hS.ev_ rfl) (hS.ev_ rfl) rfl (Nat.lt_of_lt_of_le (Nat.le_of_ble_eq_true rfl) (Nat.le_refl _)) fun w hM => ?_)
      have hM : Sat w0 w K (SP.blk g2 50 [Value.int .i64 (0), Value.int .i64 (p1.f_token.f_Kind), Value.int .i64 (p1.f_token.f_Code), Value.int .i64 (p1.f_token.f_Option), v3, Value.bool (p1.f_token.f_Cut), w5, w6] :: SP.blk g10 30 [Value.int .i64 (1), Value.int .i64 (255), Value.int .i64 (0), Value.slice none 0 0, Value.bool (false)] :: SP.blk g8 30 [Value.int .i64 (0), Value.int .i64 (0), Value.int .i64 (0), Value.slice none 0 0, Value.bool (false)] :: SP.row Kd.u8 5 v3 p1.f_token.f_Body :: L) := hM
      refine pl0 hS rfl fun a hS => ?_
      refine st_val hS rfl rfl (by decide) (r_nilCheck rfl (hS.ev_ rfl)) fun a hS => ?_
      refine st_val hS rfl rfl (by decide) (r_fld_b rfl fo_43_1 (hS.ev_ rfl)) fun a hS => ?_
      refine wl_cons rfl (e_storeN (vs := [Value.int .i64 (0), Value.int .i64 (0), Value.int .i64 (0), Value.slice none 0 0, Value.bool (false)]) hM rfl ti_30 (hS.ev_ rfl) (hS.ev_ rfl) (ones_cons rfl (ones_cons rfl (ones_cons rfl (ones_cons rfl (ones_cons rfl ones_nil))))) (Nat.le_of_ble_eq_true rfl) fun w hM => ?_)
      have hM : Sat w0 w K (SP.blk g2 50 [Value.int .i64 (0), Value.int .i64 (0), Value.int .i64 (0), Value.int .i64 (0), Value.slice none 0 0, Value.bool (false), w5, w6] :: SP.blk g10 30 [Value.int .i64 (1), Value.int .i64 (255), Value.int .i64 (0), Value.slice none 0 0, Value.bool (false)] :: SP.blk g8 30 [Value.int .i64 (0), Value.int .i64 (0), Value.int .i64 (0), Value.slice none 0 0, Value.bool (false)] :: SP.row Kd.u8 5 v3 p1.f_token.f_Body :: L) := hM
      refine pl0 hS rfl fun a hS => ?_
      refine st_done ?_
      replace hS : Slots 113 [] a [(6, Value.pointer (some ⟨g10, 0, none⟩)), (5, Value.bool (false)), (4, Value.pointer (some ⟨g8, 0, none⟩)), (0, Value.pointer (some ⟨g2, 0, none⟩)), (1, Value.int .u8 (b8 (p7)))] := (hS.part (.cons rfl (.cons rfl (.cons rfl (.cons rfl (.cons rfl (.nil _)))))))
      refine x_then ?_
      refine c_scp_seq ?_
      refine wp_region_lit ?_
      replace hM := hM.pull 1 rfl rfl
      refine st_val hS rfl rfl (by decide) (r_ldN_b (cs' := [Value.int .i64 (1), Value.int .i64 (255), Value.int .i64 (0), Value.slice none 0 0, Value.bool (false)]) rfl ag_30 ti_30 (hS.ev_ rfl) rfl (Rd.of hM)) fun a hS => ?_
      replace hM := hM.pull 2 rfl rfl
      refine wl_cons rfl (e_storeN (vs := [Value.int .i64 (1), Value.int .i64 (255), Value.int .i64 (0), Value.slice none 0 0, Value.bool (false)]) hM rfl ti_30 (hS.ev_ rfl) (hS.ev_ rfl) (ones_cons rfl (ones_cons rfl (ones_cons rfl (ones_cons rfl (ones_cons rfl ones_nil))))) (Nat.le_of_ble_eq_true rfl) fun w hM => ?_)
      have hM : Sat w0 w K (SP.blk g8 30 [Value.int .i64 (1), Value.int .i64 (255), Value.int .i64 (0), Value.slice none 0 0, Value.bool (false)] :: SP.blk g10 30 [Value.int .i64 (1), Value.int .i64 (255), Value.int .i64 (0), Value.slice none 0 0, Value.bool (false)] :: SP.blk g2 50 [Value.int .i64 (0), Value.int .i64 (0), Value.int .i64 (0), Value.int .i64 (0), Value.slice none 0 0, Value.bool (false), w5, w6] :: SP.row Kd.u8 5 v3 p1.f_token.f_Body :: L) := hM
      refine pl0 hS rfl fun a hS => ?_
      refine st_val hS rfl rfl (by decide) (r_assign rfl (hS.ev_ rfl)) fun a hS => ?_
      refine st_done ?_
      replace hS : Slots 113 [] a [(5, Value.bool (true)), (6, Value.pointer (some ⟨g10, 0, none⟩)), (4, Value.pointer (some ⟨g8, 0, none⟩)), (0, Value.pointer (some ⟨g2, 0, none⟩)), (1, Value.int .u8 (b8 (p7)))] := (hS.part (.cons rfl (.cons rfl (.cons rfl (.cons rfl (.cons rfl (.nil _)))))))
      refine x_then ?_
      refine c_scp ?_
      refine wp_ret ?_
      refine x_scope_ret ?_
      replace hM := hM.row_nil Kd.u8 5
      have hr' := Option.some.inj h
      subst hr'
      refine retR2 (.inr rfl) hS rfl ⟨_, rfl, lv_N (cs' := [Value.int .i64 (1), Value.int .i64 (255), Value.int .i64 (0), Value.slice none 0 0, Value.bool (false)]) (hM.pull 1 rfl rfl) ag_30 ti_30 rfl⟩ (show Sl.look _ _ = some (Value.bool (true)) from rfl) ?_
      exact ⟨K, (Value.slice none 0 0), ((Value.slice none 0 0)), (Hp.le.refl _), ((((hM.pull 1 rfl rfl).tail.pull 1 rfl rfl).tail.pull 2 rfl rfl).tail.pull 1 rfl rfl), rfl, (Kd.sl_nil _ _)⟩
    · refine c_cond_false (hS.ev_ rfl) hc13 ?_
      refine wp_seq ?_
      refine wp_region_lit ?_
      refine st_val hS rfl rfl (by decide) (r_move rfl (hS.ev_ rfl)) fun a hS => ?_
      refine st_val hS rfl rfl (by decide) (r_cmp8 rfl (hS.ev_ rfl) (hS.ev_ (v := Value.int .u8 (b8 (250))) rfl) rfl) fun a hS => ?_
      refine st_val hS rfl rfl (by decide) (r_assign rfl (hS.ev_ rfl)) fun a hS => ?_
      refine st_done ?_
      replace hS : Slots 113 [] a [(50, Value.bool (p7 == 250)), (6, Value.pointer (some ⟨g10, 0, none⟩)), (5, Value.bool (false)), (4, Value.pointer (some ⟨g8, 0, none⟩)), (0, Value.pointer (some ⟨g2, 0, none⟩)), (1, Value.int .u8 (b8 (p7)))] := (hS.part (.cons rfl (.cons rfl (.cons rfl (.cons rfl (.cons rfl (.cons rfl (.nil _))))))))
      refine x_then ?_
      rcases ifB h with ⟨hc15, h⟩ | ⟨hc15, h⟩
      · refine c_cond_true (hS.ev_ rfl) hc15 ?_
        refine wp_seq ?_
        refine wp_region_lit ?_
        refine st_val hS rfl rfl (by decide) (r_move rfl (hS.ev_ rfl)) fun a hS => ?_
        refine st_val hS rfl rfl (by decide) (r_nilCheck rfl (hS.ev_ rfl)) fun a hS => ?_
        refine st_val hS rfl rfl (by decide) (r_fld_b rfl fo_43_0 (hS.ev_ rfl)) fun a hS => ?_
        refine wl_cons rfl (e_store1 hM rfl ti_3 (hS.ev_ rfl) (hS.ev_ rfl) rfl (Nat.lt_of_lt_of_le (Nat.le_of_ble_eq_true rfl) (Nat.le_refl _)) fun w hM => ?_)
        have hM : Sat w0 w K (SP.blk g2 50 [Value.int .i64 (3), Value.int .i64 (p1.f_token.f_Kind), Value.int .i64 (p1.f_token.f_Code), Value.int .i64 (p1.f_token.f_Option), v3, Value.bool (p1.f_token.f_Cut), w5, w6] :: SP.blk g10 30 [Value.int .i64 (0), Value.int .i64 (0), Value.int .i64 (0), Value.slice none 0 0, Value.bool (false)] :: SP.blk g8 30 [Value.int .i64 (0), Value.int .i64 (0), Value.int .i64 (0), Value.slice none 0 0, Value.bool (false)] :: SP.row Kd.u8 5 v3 p1.f_token.f_Body :: L) := hM
        refine pl0 hS rfl fun a hS => ?_
        refine st_done ?_
        replace hS : Slots 113 [] a [(6, Value.pointer (some ⟨g10, 0, none⟩)), (5, Value.bool (false)), (4, Value.pointer (some ⟨g8, 0, none⟩)), (0, Value.pointer (some ⟨g2, 0, none⟩)), (1, Value.int .u8 (b8 (p7)))] := (hS.part (.cons rfl (.cons rfl (.cons rfl (.cons rfl (.cons rfl (.nil _)))))))
        refine x_then ?_
        refine wp_goto ?_
        refine x_block_goto ?_
        refine x_then_goto ?_
        refine x_scope_goto' (b := _) rfl ?_
        refine c_scp_seq ?_
        refine wp_seq ?_
        refine wp_region_lit ?_
        refine st_val hS rfl rfl (by decide) (r_build (cs := [Value.int .i64 (0), Value.int .i64 (0), Value.int .i64 (0), Value.slice none 0 0, Value.bool (false)]) rfl (parts_ev hS rfl) (by kernel_rfl)) fun a hS => ?_
        replace hM := hM.pull 2 rfl rfl
        refine wl_cons rfl (e_storeN (vs := [Value.int .i64 (0), Value.int .i64 (0), Value.int .i64 (0), Value.slice none 0 0, Value.bool (false)]) hM rfl ti_30 (hS.ev_ rfl) (hS.ev_ rfl) (ones_cons rfl (ones_cons rfl (ones_cons rfl (ones_cons rfl (ones_cons rfl ones_nil))))) (Nat.le_of_ble_eq_true rfl) fun w hM => ?_)
        have hM : Sat w0 w K (SP.blk g8 30 [Value.int .i64 (0), Value.int .i64 (0), Value.int .i64 (0), Value.slice none 0 0, Value.bool (false)] :: SP.blk g2 50 [Value.int .i64 (3), Value.int .i64 (p1.f_token.f_Kind), Value.int .i64 (p1.f_token.f_Code), Value.int .i64 (p1.f_token.f_Option), v3, Value.bool (p1.f_token.f_Cut), w5, w6] :: SP.blk g10 30 [Value.int .i64 (0), Value.int .i64 (0), Value.int .i64 (0), Value.slice none 0 0, Value.bool (false)] :: SP.row Kd.u8 5 v3 p1.f_token.f_Body :: L) := hM
        refine pl0 hS rfl fun a hS => ?_
        refine st_val hS rfl rfl (by decide) (r_assign rfl (hS.ev_ rfl)) fun a hS => ?_
        refine st_done ?_
        replace hS : Slots 113 [] a [(5, Value.bool (false)), (6, Value.pointer (some ⟨g10, 0, none⟩)), (4, Value.pointer (some ⟨g8, 0, none⟩)), (0, Value.pointer (some ⟨g2, 0, none⟩)), (1, Value.int .u8 (b8 (p7)))] := (hS.part (.cons rfl (.cons rfl (.cons rfl (.cons rfl (.cons rfl (.nil _)))))))
        refine x_then ?_
        refine wp_ret ?_
        refine x_then_ret ?_
        refine x_scope_ret ?_
        have hr' := Option.some.inj h
        subst hr'
        refine retR2 (.inr rfl) hS rfl ⟨_, rfl, lv_N (cs' := [Value.int .i64 (0), Value.int .i64 (0), Value.int .i64 (0), Value.slice none 0 0, Value.bool (false)]) hM ag_30 ti_30 rfl⟩ (show Sl.look _ _ = some (Value.bool (false)) from rfl) ?_
        exact ⟨K, (Value.slice none 0 0), (v3), (Hp.le.refl _), ((((hM).tail.pull 1 rfl rfl).tail.pull 1 rfl rfl).pull 1 rfl rfl), rfl, (Kd.sl_nil _ _)⟩
      · refine c_cond_false (hS.ev_ rfl) hc15 ?_
        refine wp_seq ?_
        refine wp_region_lit ?_
        refine st_val hS rfl rfl (by decide) (r_move rfl (hS.ev_ rfl)) fun a hS => ?_
        refine st_val hS rfl rfl (by decide) (r_conv_8i rfl un_5 un_3 (hS.ev_ rfl)) fun a hS => ?_
        obtain ⟨y16, h17, h⟩ := bindO h
        have hc19 := codes_Verb_c hG h17 hM
        refine wl_cons rfl (e_call rfl Tryd.func19 rfl rfl (args1 (hS.ev_ rfl)) hc19 ?_)
        rintro _ w ⟨K18, hlK18, hM, rfl⟩
        refine ⟨_, rfl, ?_⟩
        refine pl hS rfl (by decide) fun a hS => ?_
        refine st_val hS rfl rfl (by decide) (r_assign rfl (hS.ev_ rfl)) fun a hS => ?_
        refine st_done ?_
        replace hS : Slots 113 [] a [(56, Value.bool (y16)), (6, Value.pointer (some ⟨g10, 0, none⟩)), (5, Value.bool (false)), (4, Value.pointer (some ⟨g8, 0, none⟩)), (0, Value.pointer (some ⟨g2, 0, none⟩)), (1, Value.int .u8 (b8 (p7)))] := (hS.part (.cons rfl (.cons rfl (.cons rfl (.cons rfl (.cons rfl (.cons rfl (.nil _))))))))
        refine x_then ?_
        rcases ifB h with ⟨hc20, h⟩ | ⟨hc20, h⟩
        · refine c_cond_true (hS.ev_ rfl) hc20 ?_
          refine wp_seq ?_
          refine wp_region_lit ?_
          refine st_val hS rfl rfl (by decide) (r_move rfl (hS.ev_ rfl)) fun a hS => ?_
          refine st_val hS rfl rfl (by decide) (r_move rfl (hS.ev_ rfl)) fun a hS => ?_
          refine st_val hS rfl rfl (by decide) (r_move rfl (hS.ev_ rfl)) fun a hS => ?_
          refine st_val hS rfl rfl (by decide) (r_conv_8i rfl un_5 un_3 (hS.ev_ rfl)) fun a hS => ?_
          refine st_val hS rfl rfl (by decide) (r_build (cs := [Value.int .i64 (0), Value.int .i64 (b8 p7), Value.int .i64 (0), Value.slice none 0 0, Value.bool (false)]) rfl (parts_ev hS rfl) (by kernel_rfl)) fun a hS => ?_
          refine st_val hS rfl rfl (by decide) (r_nilCheck rfl (hS.ev_ rfl)) fun a hS => ?_
          refine st_val hS rfl rfl (by decide) (r_fld_b rfl fo_43_0 (hS.ev_ rfl)) fun a hS => ?_
          refine wl_cons rfl (e_store1 hM rfl ti_3 (hS.ev_ rfl) (hS.ev_ rfl) rfl (Nat.lt_of_lt_of_le (Nat.le_of_ble_eq_true rfl) (Nat.le_refl _)) fun w hM => ?_)
          have hM : Sat w0 w K18 (SP.blk g2 50 [Value.int .i64 (2), Value.int .i64 (p1.f_token.f_Kind), Value.int .i64 (p1.f_token.f_Code), Value.int .i64 (p1.f_token.f_Option), v3, Value.bool (p1.f_token.f_Cut), w5, w6] :: SP.blk g10 30 [Value.int .i64 (0), Value.int .i64 (0), Value.int .i64 (0), Value.slice none 0 0, Value.bool (false)] :: SP.blk g8 30 [Value.int .i64 (0), Value.int .i64 (0), Value.int .i64 (0), Value.slice none 0 0, Value.bool (false)] :: SP.row Kd.u8 5 v3 p1.f_token.f_Body :: L) := hM
          refine pl0 hS rfl fun a hS => ?_
          refine st_val hS rfl rfl (by decide) (r_nilCheck rfl (hS.ev_ rfl)) fun a hS => ?_
          refine st_val hS rfl rfl (by decide) (r_fld_b rfl fo_43_1 (hS.ev_ rfl)) fun a hS => ?_
          refine wl_cons rfl (e_storeN (vs := [Value.int .i64 (0), Value.int .i64 (b8 p7), Value.int .i64 (0), Value.slice none 0 0, Value.bool (false)]) hM rfl ti_30 (hS.ev_ rfl) (hS.ev_ rfl) (ones_cons rfl (ones_cons rfl (ones_cons rfl (ones_cons rfl (ones_cons rfl ones_nil))))) (Nat.le_of_ble_eq_true rfl) fun w hM => ?_)
          have hM : Sat w0 w K18 (SP.blk g2 50 [Value.int .i64 (2), Value.int .i64 (0), Value.int .i64 (b8 p7), Value.int .i64 (0), Value.slice none 0 0, Value.bool (false), w5, w6] :: SP.blk g10 30 [Value.int .i64 (0), Value.int .i64 (0), Value.int .i64 (0), Value.slice none 0 0, Value.bool (false)] :: SP.blk g8 30 [Value.int .i64 (0), Value.int .i64 (0), Value.int .i64 (0), Value.slice none 0 0, Value.bool (false)] :: SP.row Kd.u8 5 v3 p1.f_token.f_Body :: L) := hM
          refine pl0 hS rfl fun a hS => ?_
          refine st_done ?_
          replace hS : Slots 113 [] a [(6, Value.pointer (some ⟨g10, 0, none⟩)), (5, Value.bool (false)), (4, Value.pointer (some ⟨g8, 0, none⟩)), (0, Value.pointer (some ⟨g2, 0, none⟩)), (1, Value.int .u8 (b8 (p7)))] := (hS.part (.cons rfl (.cons rfl (.cons rfl (.cons rfl (.cons rfl (.nil _)))))))
          refine x_then ?_
          refine wp_goto ?_
          refine x_block_goto ?_
          refine x_then_goto ?_
          refine x_scope_goto' (b := _) rfl ?_
          refine c_scp_seq ?_
          refine wp_seq ?_
          refine wp_region_lit ?_
          refine st_val hS rfl rfl (by decide) (r_build (cs := [Value.int .i64 (0), Value.int .i64 (0), Value.int .i64 (0), Value.slice none 0 0, Value.bool (false)]) rfl (parts_ev hS rfl) (by kernel_rfl)) fun a hS => ?_
          replace hM := hM.pull 2 rfl rfl
          refine wl_cons rfl (e_storeN (vs := [Value.int .i64 (0), Value.int .i64 (0), Value.int .i64 (0), Value.slice none 0 0, Value.bool (false)]) hM rfl ti_30 (hS.ev_ rfl) (hS.ev_ rfl) (ones_cons rfl (ones_cons rfl (ones_cons rfl (ones_cons rfl (ones_cons rfl ones_nil))))) (Nat.le_of_ble_eq_true rfl) fun w hM => ?_)
          have hM : Sat w0 w K18 (SP.blk g8 30 [Value.int .i64 (0), Value.int .i64 (0), Value.int .i64 (0), Value.slice none 0 0, Value.bool (false)] :: SP.blk g2 50 [Value.int .i64 (2), Value.int .i64 (0), Value.int .i64 (b8 p7), Value.int .i64 (0), Value.slice none 0 0, Value.bool (false), w5, w6] :: SP.blk g10 30 [Value.int .i64 (0), Value.int .i64 (0), Value.int .i64 (0), Value.slice none 0 0, Value.bool (false)] :: SP.row Kd.u8 5 v3 p1.f_token.f_Body :: L) := hM
          refine pl0 hS rfl fun a hS => ?_
          refine st_val hS rfl rfl (by decide) (r_assign rfl (hS.ev_ rfl)) fun a hS => ?_
          refine st_done ?_
          replace hS : Slots 113 [] a [(5, Value.bool (false)), (6, Value.pointer (some ⟨g10, 0, none⟩)), (4, Value.pointer (some ⟨g8, 0, none⟩)), (0, Value.pointer (some ⟨g2, 0, none⟩)), (1, Value.int .u8 (b8 (p7)))] := (hS.part (.cons rfl (.cons rfl (.cons rfl (.cons rfl (.cons rfl (.nil _)))))))
          refine x_then ?_
          refine wp_ret ?_
          refine x_then_ret ?_
          refine x_scope_ret ?_
          replace hM := hM.row_nil Kd.u8 5
          have hr' := Option.some.inj h
          subst hr'
          refine retR2 (.inr rfl) hS rfl ⟨_, rfl, lv_N (cs' := [Value.int .i64 (0), Value.int .i64 (0), Value.int .i64 (0), Value.slice none 0 0, Value.bool (false)]) (hM.pull 1 rfl rfl) ag_30 ti_30 rfl⟩ (show Sl.look _ _ = some (Value.bool (false)) from rfl) ?_
          exact ⟨K18, (Value.slice none 0 0), ((Value.slice none 0 0)), hlK18, ((((hM.pull 1 rfl rfl).tail.pull 2 rfl rfl).tail.pull 2 rfl rfl).tail.pull 1 rfl rfl), rfl, (Kd.sl_nil _ _)⟩
        · refine c_cond_false (hS.ev_ rfl) hc20 ?_
          refine wp_skip ?_
          refine x_block ?_
          refine x_then ?_
          refine c_scp_seq ?_
          refine wp_region_lit ?_
          refine st_val hS rfl rfl (by decide) (r_move rfl (hS.ev_ rfl)) fun a hS => ?_
          refine st_val hS rfl rfl (by decide) (r_conv_8i rfl un_5 un_3 (hS.ev_ rfl)) fun a hS => ?_
          refine st_val hS rfl rfl (by decide) (r_build (cs := [Value.int .i64 (2), Value.int .i64 (b8 p7), Value.int .i64 (0), Value.slice none 0 0, Value.bool (false)]) rfl (parts_ev hS rfl) (by kernel_rfl)) fun a hS => ?_
          replace hM := hM.pull 1 rfl rfl
          refine wl_cons rfl (e_storeN (vs := [Value.int .i64 (2), Value.int .i64 (b8 p7), Value.int .i64 (0), Value.slice none 0 0, Value.bool (false)]) hM rfl ti_30 (hS.ev_ rfl) (hS.ev_ rfl) (ones_cons rfl (ones_cons rfl (ones_cons rfl (ones_cons rfl (ones_cons rfl ones_nil))))) (Nat.le_of_ble_eq_true rfl) fun w hM => ?_)
          have hM : Sat w0 w K18 (SP.blk g10 30 [Value.int .i64 (2), Value.int .i64 (b8 p7), Value.int .i64 (0), Value.slice none 0 0, Value.bool (false)] :: SP.blk g2 50 [Value.int .i64 (p1.f_state), Value.int .i64 (p1.f_token.f_Kind), Value.int .i64 (p1.f_token.f_Code), Value.int .i64 (p1.f_token.f_Option), v3, Value.bool (p1.f_token.f_Cut), w5, w6] :: SP.blk g8 30 [Value.int .i64 (0), Value.int .i64 (0), Value.int .i64 (0), Value.slice none 0 0, Value.bool (false)] :: SP.row Kd.u8 5 v3 p1.f_token.f_Body :: L) := hM
          refine pl0 hS rfl fun a hS => ?_
          refine st_done ?_
          replace hS : Slots 113 [] a [(6, Value.pointer (some ⟨g10, 0, none⟩)), (5, Value.bool (false)), (4, Value.pointer (some ⟨g8, 0, none⟩)), (0, Value.pointer (some ⟨g2, 0, none⟩)), (1, Value.int .u8 (b8 (p7)))] := (hS.part (.cons rfl (.cons rfl (.cons rfl (.cons rfl (.cons rfl (.nil _)))))))
          refine x_then ?_
          refine c_scp_seq ?_
          refine wp_goto ?_
          refine x_then_goto ?_
          refine x_scope_goto' (b := _) rfl ?_
          refine c_scp_seq ?_
          refine wp_region_lit ?_
          refine st_val hS rfl rfl (by decide) (r_move rfl (hS.ev_ rfl)) fun a hS => ?_
          refine st_val hS rfl rfl (by decide) (r_move rfl (hS.ev_ rfl)) fun a hS => ?_
          refine st_val hS rfl rfl (by decide) (r_build (cs := [Value.int .i64 (0), Value.int .i64 (0), Value.int .i64 (0), Value.slice none 0 0, Value.bool (false)]) rfl (parts_ev hS rfl) (by kernel_rfl)) fun a hS => ?_
          refine st_val hS rfl rfl (by decide) (r_nilCheck rfl (hS.ev_ rfl)) fun a hS => ?_
          refine st_val hS rfl rfl (by decide) (r_fld_b rfl fo_43_0 (hS.ev_ rfl)) fun a hS => ?_
          replace hM := hM.pull 1 rfl rfl
          refine wl_cons rfl (e_store1 hM rfl ti_3 (hS.ev_ rfl) (hS.ev_ rfl) rfl (Nat.lt_of_lt_of_le (Nat.le_of_ble_eq_true rfl) (Nat.le_refl _)) fun w hM => ?_)
          have hM : Sat w0 w K18 (SP.blk g2 50 [Value.int .i64 (0), Value.int .i64 (p1.f_token.f_Kind), Value.int .i64 (p1.f_token.f_Code), Value.int .i64 (p1.f_token.f_Option), v3, Value.bool (p1.f_token.f_Cut), w5, w6] :: SP.blk g10 30 [Value.int .i64 (2), Value.int .i64 (b8 p7), Value.int .i64 (0), Value.slice none 0 0, Value.bool (false)] :: SP.blk g8 30 [Value.int .i64 (0), Value.int .i64 (0), Value.int .i64 (0), Value.slice none 0 0, Value.bool (false)] :: SP.row Kd.u8 5 v3 p1.f_token.f_Body :: L) := hM
          refine pl0 hS rfl fun a hS => ?_
          refine st_val hS rfl rfl (by decide) (r_nilCheck rfl (hS.ev_ rfl)) fun a hS => ?_
          refine st_val hS rfl rfl (by decide) (r_fld_b rfl fo_43_1 (hS.ev_ rfl)) fun a hS => ?_
          refine wl_cons rfl (e_storeN (vs := [Value.int .i64 (0), Value.int .i64 (0), Value.int .i64 (0), Value.slice none 0 0, Value.bool (false)]) hM rfl ti_30 (hS.ev_ rfl) (hS.ev_ rfl) (ones_cons rfl (ones_cons rfl (ones_cons rfl (ones_cons rfl (ones_cons rfl ones_nil))))) (Nat.le_of_ble_eq_true rfl) fun w hM => ?_)
          have hM : Sat w0 w K18 (SP.blk g2 50 [Value.int .i64 (0), Value.int .i64 (0), Value.int .i64 (0), Value.int .i64 (0), Value.slice none 0 0, Value.bool (false), w5, w6] :: SP.blk g10 30 [Value.int .i64 (2), Value.int .i64 (b8 p7), Value.int .i64 (0), Value.slice none 0 0, Value.bool (false)] :: SP.blk g8 30 [Value.int .i64 (0), Value.int .i64 (0), Value.int .i64 (0), Value.slice none 0 0, Value.bool (false)] :: SP.row Kd.u8 5 v3 p1.f_token.f_Body :: L) := hM
          refine pl0 hS rfl fun a hS => ?_
          refine st_done ?_
          replace hS : Slots 113 [] a [(6, Value.pointer (some ⟨g10, 0, none⟩)), (5, Value.bool (false)), (4, Value.pointer (some ⟨g8, 0, none⟩)), (0, Value.pointer (some ⟨g2, 0, none⟩)), (1, Value.int .u8 (b8 (p7)))] := (hS.part (.cons rfl (.cons rfl (.cons rfl (.cons rfl (.cons rfl (.nil _)))))))
          refine x_then ?_
          refine c_scp_seq ?_
          refine wp_region_lit ?_
          replace hM := hM.pull 1 rfl rfl
          refine st_val hS rfl rfl (by decide) (r_ldN_b (cs' := [Value.int .i64 (2), Value.int .i64 (b8 p7), Value.int .i64 (0), Value.slice none 0 0, Value.bool (false)]) rfl ag_30 ti_30 (hS.ev_ rfl) rfl (Rd.of hM)) fun a hS => ?_
          replace hM := hM.pull 2 rfl rfl
          refine wl_cons rfl (e_storeN (vs := [Value.int .i64 (2), Value.int .i64 (b8 p7), Value.int .i64 (0), Value.slice none 0 0, Value.bool (false)]) hM rfl ti_30 (hS.ev_ rfl) (hS.ev_ rfl) (ones_cons rfl (ones_cons rfl (ones_cons rfl (ones_cons rfl (ones_cons rfl ones_nil))))) (Nat.le_of_ble_eq_true rfl) fun w hM => ?_)
          have hM : Sat w0 w K18 (SP.blk g8 30 [Value.int .i64 (2), Value.int .i64 (b8 p7), Value.int .i64 (0), Value.slice none 0 0, Value.bool (false)] :: SP.blk g10 30 [Value.int .i64 (2), Value.int .i64 (b8 p7), Value.int .i64 (0), Value.slice none 0 0, Value.bool (false)] :: SP.blk g2 50 [Value.int .i64 (0), Value.int .i64 (0), Value.int .i64 (0), Value.int .i64 (0), Value.slice none 0 0, Value.bool (false), w5, w6] :: SP.row Kd.u8 5 v3 p1.f_token.f_Body :: L) := hM
          refine pl0 hS rfl fun a hS => ?_
          refine st_val hS rfl rfl (by decide) (r_assign rfl (hS.ev_ rfl)) fun a hS => ?_
          refine st_done ?_
          replace hS : Slots 113 [] a [(5, Value.bool (true)), (6, Value.pointer (some ⟨g10, 0, none⟩)), (4, Value.pointer (some ⟨g8, 0, none⟩)), (0, Value.pointer (some ⟨g2, 0, none⟩)), (1, Value.int .u8 (b8 (p7)))] := (hS.part (.cons rfl (.cons rfl (.cons rfl (.cons rfl (.cons rfl (.nil _)))))))
          refine x_then ?_
          refine c_scp ?_
          refine wp_ret ?_
          refine x_scope_ret ?_
          replace hM := hM.row_nil Kd.u8 5
          have hr' := Option.some.inj h
          subst hr'
          refine retR2 (.inr rfl) hS rfl ⟨_, rfl, lv_N (cs' := [Value.int .i64 (2), Value.int .i64 (b8 p7), Value.int .i64 (0), Value.slice none 0 0, Value.bool (false)]) (hM.pull 1 rfl rfl) ag_30 ti_30 rfl⟩ (show Sl.look _ _ = some (Value.bool (true)) from rfl) ?_
          exact ⟨K18, (Value.slice none 0 0), ((Value.slice none 0 0)), hlK18, ((((hM.pull 1 rfl rfl).tail.pull 1 rfl rfl).tail.pull 2 rfl rfl).tail.pull 1 rfl rfl), rfl, (Kd.sl_nil _ _)⟩
  · refine c_cond_false (hS.ev_ rfl) hc12 ?_
    refine wp_seq ?_
    refine wp_region_lit ?_
    refine st_val hS rfl rfl (by decide) (r_cmp rfl (hS.ev_ rfl) (hS.ev_ rfl) rfl) fun a hS => ?_
    refine st_val hS rfl rfl (by decide) (r_assign rfl (hS.ev_ rfl)) fun a hS => ?_
    refine st_done ?_
    replace hS : Slots 113 [] a [(13, Value.bool (p1.f_state == 2)), (10, Value.int .i64 (p1.f_state)), (6, Value.pointer (some ⟨g10, 0, none⟩)), (5, Value.bool (false)), (4, Value.pointer (some ⟨g8, 0, none⟩)), (0, Value.pointer (some ⟨g2, 0, none⟩)), (1, Value.int .u8 (b8 (p7)))] := (hS.part (.cons rfl (.cons rfl (.cons rfl (.cons rfl (.cons rfl (.cons rfl (.cons rfl (.nil _)))))))))
    refine x_then ?_
    rcases ifB h with ⟨hc23, h⟩ | ⟨hc23, h⟩
    · refine c_cond_true (hS.ev_ rfl) hc23 ?_
      refine wp_seq ?_
      refine wp_region_lit ?_
      refine st_val hS rfl rfl (by decide) (r_move rfl (hS.ev_ rfl)) fun a hS => ?_
      refine st_val hS rfl rfl (by decide) (r_nilCheck rfl (hS.ev_ rfl)) fun a hS => ?_
      refine st_val hS rfl rfl (by decide) (r_fld_b rfl fo_43_1 (hS.ev_ rfl)) fun a hS => ?_
      refine st_val hS rfl rfl (by decide) (r_fld_b rfl fo_30_1 (hS.ev_ rfl)) fun a hS => ?_
      refine st_val hS rfl rfl (by decide) (r_ld1_b rfl ag_3 (hS.ev_ rfl) rfl (Rd.of hM)) fun a hS => ?_
      refine st_val hS rfl rfl (by decide) (r_move rfl (hS.ev_ rfl)) fun a hS => ?_
      refine st_val hS rfl rfl (by decide) (r_conv_8i rfl un_5 un_3 (hS.ev_ rfl)) fun a hS => ?_
      refine st_val hS rfl rfl (by decide) (r_build (cs := [Value.int .i64 (3), Value.int .i64 (p1.f_token.f_Code), Value.int .i64 (b8 p7), Value.slice none 0 0, Value.bool (false)]) rfl (parts_ev hS rfl) (by kernel_rfl)) fun a hS => ?_
      replace hM := hM.pull 1 rfl rfl
      refine wl_cons rfl (e_storeN (vs := [Value.int .i64 (3), Value.int .i64 (p1.f_token.f_Code), Value.int .i64 (b8 p7), Value.slice none 0 0, Value.bool (false)]) hM rfl ti_30 (hS.ev_ rfl) (hS.ev_ rfl) (ones_cons rfl (ones_cons rfl (ones_cons rfl (ones_cons rfl (ones_cons rfl ones_nil))))) (Nat.le_of_ble_eq_true rfl) fun w hM => ?_)
      have hM : Sat w0 w K (SP.blk g10 30 [Value.int .i64 (3), Value.int .i64 (p1.f_token.f_Code), Value.int .i64 (b8 p7), Value.slice none 0 0, Value.bool (false)] :: SP.blk g2 50 [Value.int .i64 (p1.f_state), Value.int .i64 (p1.f_token.f_Kind), Value.int .i64 (p1.f_token.f_Code), Value.int .i64 (p1.f_token.f_Option), v3, Value.bool (p1.f_token.f_Cut), w5, w6] :: SP.blk g8 30 [Value.int .i64 (0), Value.int .i64 (0), Value.int .i64 (0), Value.slice none 0 0, Value.bool (false)] :: SP.row Kd.u8 5 v3 p1.f_token.f_Body :: L) := hM
      refine pl0 hS rfl fun a hS => ?_
      refine st_done ?_
      replace hS : Slots 113 [] a [(6, Value.pointer (some ⟨g10, 0, none⟩)), (5, Value.bool (false)), (4, Value.pointer (some ⟨g8, 0, none⟩)), (0, Value.pointer (some ⟨g2, 0, none⟩)), (1, Value.int .u8 (b8 (p7)))] := (hS.part (.cons rfl (.cons rfl (.cons rfl (.cons rfl (.cons rfl (.nil _)))))))
      refine x_then ?_
      refine wp_goto ?_
      refine x_block_goto ?_
      refine x_then_goto ?_
      refine x_scope_goto' (b := _) rfl ?_
      refine c_scp_seq ?_
      refine wp_region_lit ?_
      refine st_val hS rfl rfl (by decide) (r_move rfl (hS.ev_ rfl)) fun a hS => ?_
      refine st_val hS rfl rfl (by decide) (r_move rfl (hS.ev_ rfl)) fun a hS => ?_
      refine st_val hS rfl rfl (by decide) (r_build (cs := [Value.int .i64 (0), Value.int .i64 (0), Value.int .i64 (0), Value.slice none 0 0, Value.bool (false)]) rfl (parts_ev hS rfl) (by kernel_rfl)) fun a hS => ?_
      refine st_val hS rfl rfl (by decide) (r_nilCheck rfl (hS.ev_ rfl)) fun a hS => ?_
      refine st_val hS rfl rfl (by decide) (r_fld_b rfl fo_43_0 (hS.ev_ rfl)) fun a hS => ?_
      replace hM := hM.pull 1 rfl rfl
      refine wl_cons rfl (e_store1 hM rfl ti_3 (hS.ev_ rfl) (hS.ev_ rfl) rfl (Nat.lt_of_lt_of_le (Nat.le_of_ble_eq_true rfl) (Nat.le_refl _)) fun w hM => ?_)
      have hM : Sat w0 w K (SP.blk g2 50 [Value.int .i64 (0), Value.int .i64 (p1.f_token.f_Kind), Value.int .i64 (p1.f_token.f_Code), Value.int .i64 (p1.f_token.f_Option), v3, Value.bool (p1.f_token.f_Cut), w5, w6] :: SP.blk g10 30 [Value.int .i64 (3), Value.int .i64 (p1.f_token.f_Code), Value.int .i64 (b8 p7), Value.slice none 0 0, Value.bool (false)] :: SP.blk g8 30 [Value.int .i64 (0), Value.int .i64 (0), Value.int .i64 (0), Value.slice none 0 0, Value.bool (false)] :: SP.row Kd.u8 5 v3 p1.f_token.f_Body :: L) := hM
      refine pl0 hS rfl fun a hS => ?_
      refine st_val hS rfl rfl (by decide) (r_nilCheck rfl (hS.ev_ rfl)) fun a hS => ?_
      refine st_val hS rfl rfl (by decide) (r_fld_b rfl fo_43_1 (hS.ev_ rfl)) fun a hS => ?_
      refine wl_cons rfl (e_storeN (vs := [Value.int .i64 (0), Value.int .i64 (0), Value.int .i64 (0), Value.slice none 0 0, Value.bool (false)]) hM rfl ti_30 (hS.ev_ rfl) (hS.ev_ rfl) (ones_cons rfl (ones_cons rfl (ones_cons rfl (ones_cons rfl (ones_cons rfl ones_nil))))) (Nat.le_of_ble_eq_true rfl) fun w hM => ?_)
      have hM : Sat w0 w K (SP.blk g2 50 [Value.int .i64 (0), Value.int .i64 (0), Value.int .i64 (0), Value.int .i64 (0), Value.slice none 0 0, Value.bool (false), w5, w6] :: SP.blk g10 30 [Value.int .i64 (3), Value.int .i64 (p1.f_token.f_Code), Value.int .i64 (b8 p7), Value.slice none 0 0, Value.bool (false)] :: SP.blk g8 30 [Value.int .i64 (0), Value.int .i64 (0), Value.int .i64 (0), Value.slice none 0 0, Value.bool (false)] :: SP.row Kd.u8 5 v3 p1.f_token.f_Body :: L) := hM
      refine pl0 hS rfl fun a hS => ?_
      refine st_done ?_
      replace hS : Slots 113 [] a [(6, Value.pointer (some ⟨g10, 0, none⟩)), (5, Value.bool (false)), (4, Value.pointer (some ⟨g8, 0, none⟩)), (0, Value.pointer (some ⟨g2, 0, none⟩)), (1, Value.int .u8 (b8 (p7)))] := (hS.part (.cons rfl (.cons rfl (.cons rfl (.cons rfl (.cons rfl (.nil _)))))))
      refine x_then ?_
      refine c_scp_seq ?_
      refine wp_region_lit ?_
      replace hM := hM.pull 1 rfl rfl
      refine st_val hS rfl rfl (by decide) (r_ldN_b (cs' := [Value.int .i64 (3), Value.int .i64 (p1.f_token.f_Code), Value.int .i64 (b8 p7), Value.slice none 0 0, Value.bool (false)]) rfl ag_30 ti_30 (hS.ev_ rfl) rfl (Rd.of hM)) fun a hS => ?_
      replace hM := hM.pull 2 rfl rfl
      refine wl_cons rfl (e_storeN (vs := [Value.int .i64 (3), Value.int .i64 (p1.f_token.f_Code), Value.int .i64 (b8 p7), Value.slice none 0 0, Value.bool (false)]) hM rfl ti_30 (hS.ev_ rfl) (hS.ev_ rfl) (ones_cons rfl (ones_cons rfl (ones_cons rfl (ones_cons rfl (ones_cons rfl ones_nil))))) (Nat.le_of_ble_eq_true rfl) fun w hM => ?_)
      have hM : Sat w0 w K (SP.blk g8 30 [Value.int .i64 (3), Value.int .i64 (p1.f_token.f_Code), Value.int .i64 (b8 p7), Value.slice none 0 0, Value.bool (false)] :: SP.blk g10 30 [Value.int .i64 (3), Value.int .i64 (p1.f_token.f_Code), Value.int .i64 (b8 p7), Value.slice none 0 0, Value.bool (false)] :: SP.blk g2 50 [Value.int .i64 (0), Value.int .i64 (0), Value.int .i64 (0), Value.int .i64 (0), Value.slice none 0 0, Value.bool (false), w5, w6] :: SP.row Kd.u8 5 v3 p1.f_token.f_Body :: L) := hM
      refine pl0 hS rfl fun a hS => ?_
      refine st_val hS rfl rfl (by decide) (r_assign rfl (hS.ev_ rfl)) fun a hS => ?_
      refine st_done ?_
      replace hS : Slots 113 [] a [(5, Value.bool (true)), (6, Value.pointer (some ⟨g10, 0, none⟩)), (4, Value.pointer (some ⟨g8, 0, none⟩)), (0, Value.pointer (some ⟨g2, 0, none⟩)), (1, Value.int .u8 (b8 (p7)))] := (hS.part (.cons rfl (.cons rfl (.cons rfl (.cons rfl (.cons rfl (.nil _)))))))
      refine x_then ?_
      refine c_scp ?_
      refine wp_ret ?_
      refine x_scope_ret ?_
      replace hM := hM.row_nil Kd.u8 5
      have hr' := Option.some.inj h
      subst hr'
      refine retR2 (.inr rfl) hS rfl ⟨_, rfl, lv_N (cs' := [Value.int .i64 (3), Value.int .i64 (p1.f_token.f_Code), Value.int .i64 (b8 p7), Value.slice none 0 0, Value.bool (false)]) (hM.pull 1 rfl rfl) ag_30 ti_30 rfl⟩ (show Sl.look _ _ = some (Value.bool (true)) from rfl) ?_
      exact ⟨K, (Value.slice none 0 0), ((Value.slice none 0 0)), (Hp.le.refl _), ((((hM.pull 1 rfl rfl).tail.pull 1 rfl rfl).tail.pull 2 rfl rfl).tail.pull 1 rfl rfl), rfl, (Kd.sl_nil _ _)⟩
    · refine c_cond_false (hS.ev_ rfl) hc23 ?_
      refine wp_seq ?_
      refine wp_region_lit ?_
      refine st_val hS rfl rfl (by decide) (r_cmp rfl (hS.ev_ rfl) (hS.ev_ rfl) rfl) fun a hS => ?_
      refine st_val hS rfl rfl (by decide) (r_assign rfl (hS.ev_ rfl)) fun a hS => ?_
      refine st_done ?_
      replace hS : Slots 113 [] a [(23, Value.bool (p1.f_state == 3)), (10, Value.int .i64 (p1.f_state)), (6, Value.pointer (some ⟨g10, 0, none⟩)), (5, Value.bool (false)), (4, Value.pointer (some ⟨g8, 0, none⟩)), (0, Value.pointer (some ⟨g2, 0, none⟩)), (1, Value.int .u8 (b8 (p7)))] := (hS.part (.cons rfl (.cons rfl (.cons rfl (.cons rfl (.cons rfl (.cons rfl (.cons rfl (.nil _)))))))))
      refine x_then ?_
      rcases ifB h with ⟨hc25, h⟩ | ⟨hc25, h⟩
      · refine c_cond_true (hS.ev_ rfl) hc25 ?_
        refine wp_seq ?_
        refine wp_region_lit ?_
        refine st_val hS rfl rfl (by decide) (r_move rfl (hS.ev_ rfl)) fun a hS => ?_
        refine st_val hS rfl rfl (by decide) (r_move rfl (hS.ev_ rfl)) fun a hS => ?_
        refine st_val hS rfl rfl (by decide) (r_move rfl (hS.ev_ rfl)) fun a hS => ?_
        refine st_val hS rfl rfl (by decide) (r_conv_8i rfl un_5 un_3 (hS.ev_ rfl)) fun a hS => ?_
        refine st_val hS rfl rfl (by decide) (r_build (cs := [Value.int .i64 (0), Value.int .i64 (0), Value.int .i64 (b8 p7), Value.slice none 0 0, Value.bool (false)]) rfl (parts_ev hS rfl) (by kernel_rfl)) fun a hS => ?_
        refine st_val hS rfl rfl (by decide) (r_nilCheck rfl (hS.ev_ rfl)) fun a hS => ?_
        refine st_val hS rfl rfl (by decide) (r_fld_b rfl fo_43_0 (hS.ev_ rfl)) fun a hS => ?_
        refine wl_cons rfl (e_store1 hM rfl ti_3 (hS.ev_ rfl) (hS.ev_ rfl) rfl (Nat.lt_of_lt_of_le (Nat.le_of_ble_eq_true rfl) (Nat.le_refl _)) fun w hM => ?_)
        have hM : Sat w0 w K (SP.blk g2 50 [Value.int .i64 (4), Value.int .i64 (p1.f_token.f_Kind), Value.int .i64 (p1.f_token.f_Code), Value.int .i64 (p1.f_token.f_Option), v3, Value.bool (p1.f_token.f_Cut), w5, w6] :: SP.blk g10 30 [Value.int .i64 (0), Value.int .i64 (0), Value.int .i64 (0), Value.slice none 0 0, Value.bool (false)] :: SP.blk g8 30 [Value.int .i64 (0), Value.int .i64 (0), Value.int .i64 (0), Value.slice none 0 0, Value.bool (false)] :: SP.row Kd.u8 5 v3 p1.f_token.f_Body :: L) := hM
        refine pl0 hS rfl fun a hS => ?_
        refine st_val hS rfl rfl (by decide) (r_nilCheck rfl (hS.ev_ rfl)) fun a hS => ?_
        refine st_val hS rfl rfl (by decide) (r_fld_b rfl fo_43_1 (hS.ev_ rfl)) fun a hS => ?_
        refine wl_cons rfl (e_storeN (vs := [Value.int .i64 (0), Value.int .i64 (0), Value.int .i64 (b8 p7), Value.slice none 0 0, Value.bool (false)]) hM rfl ti_30 (hS.ev_ rfl) (hS.ev_ rfl) (ones_cons rfl (ones_cons rfl (ones_cons rfl (ones_cons rfl (ones_cons rfl ones_nil))))) (Nat.le_of_ble_eq_true rfl) fun w hM => ?_)
        have hM : Sat w0 w K (SP.blk g2 50 [Value.int .i64 (4), Value.int .i64 (0), Value.int .i64 (0), Value.int .i64 (b8 p7), Value.slice none 0 0, Value.bool (false), w5, w6] :: SP.blk g10 30 [Value.int .i64 (0), Value.int .i64 (0), Value.int .i64 (0), Value.slice none 0 0, Value.bool (false)] :: SP.blk g8 30 [Value.int .i64 (0), Value.int .i64 (0), Value.int .i64 (0), Value.slice none 0 0, Value.bool (false)] :: SP.row Kd.u8 5 v3 p1.f_token.f_Body :: L) := hM
        refine pl0 hS rfl fun a hS => ?_
        refine st_done ?_
        replace hS : Slots 113 [] a [(6, Value.pointer (some ⟨g10, 0, none⟩)), (5, Value.bool (false)), (4, Value.pointer (some ⟨g8, 0, none⟩)), (0, Value.pointer (some ⟨g2, 0, none⟩)), (1, Value.int .u8 (b8 (p7)))] := (hS.part (.cons rfl (.cons rfl (.cons rfl (.cons rfl (.cons rfl (.nil _)))))))
        refine x_then ?_
        refine wp_goto ?_
        refine x_block_goto ?_
        refine x_then_goto ?_
        refine x_scope_goto' (b := _) rfl ?_
        refine c_scp_seq ?_
        refine wp_seq ?_
        refine wp_region_lit ?_
        refine st_val hS rfl rfl (by decide) (r_build (cs := [Value.int .i64 (0), Value.int .i64 (0), Value.int .i64 (0), Value.slice none 0 0, Value.bool (false)]) rfl (parts_ev hS rfl) (by kernel_rfl)) fun a hS => ?_
        replace hM := hM.pull 2 rfl rfl
        refine wl_cons rfl (e_storeN (vs := [Value.int .i64 (0), Value.int .i64 (0), Value.int .i64 (0), Value.slice none 0 0, Value.bool (false)]) hM rfl ti_30 (hS.ev_ rfl) (hS.ev_ rfl) (ones_cons rfl (ones_cons rfl (ones_cons rfl (ones_cons rfl (ones_cons rfl ones_nil))))) (Nat.le_of_ble_eq_true rfl) fun w hM => ?_)
        have hM : Sat w0 w K (SP.blk g8 30 [Value.int .i64 (0), Value.int .i64 (0), Value.int .i64 (0), Value.slice none 0 0, Value.bool (false)] :: SP.blk g2 50 [Value.int .i64 (4), Value.int .i64 (0), Value.int .i64 (0), Value.int .i64 (b8 p7), Value.slice none 0 0, Value.bool (false), w5, w6] :: SP.blk g10 30 [Value.int .i64 (0), Value.int .i64 (0), Value.int .i64 (0), Value.slice none 0 0, Value.bool (false)] :: SP.row Kd.u8 5 v3 p1.f_token.f_Body :: L) := hM
        refine pl0 hS rfl fun a hS => ?_
        refine st_val hS rfl rfl (by decide) (r_assign rfl (hS.ev_ rfl)) fun a hS => ?_
        refine st_done ?_
        replace hS : Slots 113 [] a [(5, Value.bool (false)), (6, Value.pointer (some ⟨g10, 0, none⟩)), (4, Value.pointer (some ⟨g8, 0, none⟩)), (0, Value.pointer (some ⟨g2, 0, none⟩)), (1, Value.int .u8 (b8 (p7)))] := (hS.part (.cons rfl (.cons rfl (.cons rfl (.cons rfl (.cons rfl (.nil _)))))))
        refine x_then ?_
        refine wp_ret ?_
        refine x_then_ret ?_
        refine x_scope_ret ?_
        replace hM := hM.row_nil Kd.u8 5
        have hr' := Option.some.inj h
        subst hr'
        refine retR2 (.inr rfl) hS rfl ⟨_, rfl, lv_N (cs' := [Value.int .i64 (0), Value.int .i64 (0), Value.int .i64 (0), Value.slice none 0 0, Value.bool (false)]) (hM.pull 1 rfl rfl) ag_30 ti_30 rfl⟩ (show Sl.look _ _ = some (Value.bool (false)) from rfl) ?_
        exact ⟨K, (Value.slice none 0 0), ((Value.slice none 0 0)), (Hp.le.refl _), ((((hM.pull 1 rfl rfl).tail.pull 2 rfl rfl).tail.pull 2 rfl rfl).tail.pull 1 rfl rfl), rfl, (Kd.sl_nil _ _)⟩
      · refine c_cond_false (hS.ev_ rfl) hc25 ?_
        refine wp_seq ?_
        refine wp_region_lit ?_
        refine st_val hS rfl rfl (by decide) (r_cmp rfl (hS.ev_ rfl) (hS.ev_ rfl) rfl) fun a hS => ?_
        refine st_val hS rfl rfl (by decide) (r_assign rfl (hS.ev_ rfl)) fun a hS => ?_
        refine st_done ?_
        replace hS : Slots 113 [] a [(34, Value.bool (p1.f_state == 4)), (10, Value.int .i64 (p1.f_state)), (6, Value.pointer (some ⟨g10, 0, none⟩)), (5, Value.bool (false)), (4, Value.pointer (some ⟨g8, 0, none⟩)), (0, Value.pointer (some ⟨g2, 0, none⟩)), (1, Value.int .u8 (b8 (p7)))] := (hS.part (.cons rfl (.cons rfl (.cons rfl (.cons rfl (.cons rfl (.cons rfl (.cons rfl (.nil _)))))))))
        refine x_then ?_
        rcases ifB h with ⟨hc27, h⟩ | ⟨hc27, h⟩
        · refine c_cond_true (hS.ev_ rfl) hc27 ?_
          refine wp_goto ?_
          refine x_block_goto ?_
          refine x_then_goto ?_
          refine x_scope_goto' (b := _) rfl ?_
          refine c_scp_seq ?_
          refine wp_seq ?_
          refine wp_region_lit ?_
          refine st_val hS rfl rfl (by decide) (r_move rfl (hS.ev_ rfl)) fun a hS => ?_
          refine st_val hS rfl rfl (by decide) (r_cmp8 rfl (hS.ev_ rfl) (hS.ev_ (v := Value.int .u8 (b8 (255))) rfl) rfl) fun a hS => ?_
          refine st_done ?_
          replace hS : Slots 113 [] a [(73, Value.bool (p7 == 255)), (6, Value.pointer (some ⟨g10, 0, none⟩)), (5, Value.bool (false)), (4, Value.pointer (some ⟨g8, 0, none⟩)), (0, Value.pointer (some ⟨g2, 0, none⟩)), (1, Value.int .u8 (b8 (p7)))] := (hS.part (.cons rfl (.cons rfl (.cons rfl (.cons rfl (.cons rfl (.cons rfl (.nil _))))))))
          refine x_then ?_
          rcases ifB h with ⟨hc28, h⟩ | ⟨hc28, h⟩
          · refine c_cond_true (hS.ev_ rfl) hc28 ?_
            refine wp_seq ?_
            refine wp_region_lit ?_
            refine st_val hS rfl rfl (by decide) (r_move rfl (hS.ev_ rfl)) fun a hS => ?_
            refine st_val hS rfl rfl (by decide) (r_nilCheck rfl (hS.ev_ rfl)) fun a hS => ?_
            refine st_val hS rfl rfl (by decide) (r_fld_b rfl fo_43_0 (hS.ev_ rfl)) fun a hS => ?_
            refine wl_cons rfl (e_store1 hM rfl ti_3 (hS.ev_ rfl) (hS.ev_ rfl) rfl (Nat.lt_of_lt_of_le (Nat.le_of_ble_eq_true rfl) (Nat.le_refl _)) fun w hM => ?_)
            have hM : Sat w0 w K (SP.blk g2 50 [Value.int .i64 (5), Value.int .i64 (p1.f_token.f_Kind), Value.int .i64 (p1.f_token.f_Code), Value.int .i64 (p1.f_token.f_Option), v3, Value.bool (p1.f_token.f_Cut), w5, w6] :: SP.blk g10 30 [Value.int .i64 (0), Value.int .i64 (0), Value.int .i64 (0), Value.slice none 0 0, Value.bool (false)] :: SP.blk g8 30 [Value.int .i64 (0), Value.int .i64 (0), Value.int .i64 (0), Value.slice none 0 0, Value.bool (false)] :: SP.row Kd.u8 5 v3 p1.f_token.f_Body :: L) := hM
            refine pl0 hS rfl fun a hS => ?_
            refine st_done ?_
            replace hS : Slots 113 [] a [(6, Value.pointer (some ⟨g10, 0, none⟩)), (5, Value.bool (false)), (4, Value.pointer (some ⟨g8, 0, none⟩)), (0, Value.pointer (some ⟨g2, 0, none⟩)), (1, Value.int .u8 (b8 (p7)))] := (hS.part (.cons rfl (.cons rfl (.cons rfl (.cons rfl (.cons rfl (.nil _)))))))
            refine x_then ?_
            refine wp_goto ?_
            refine x_then_goto ?_
            refine x_scope_goto' (b := _) rfl ?_
            refine c_scp_seq ?_
            refine wp_seq ?_
            refine wp_region_lit ?_
            refine st_val hS rfl rfl (by decide) (r_build (cs := [Value.int .i64 (0), Value.int .i64 (0), Value.int .i64 (0), Value.slice none 0 0, Value.bool (false)]) rfl (parts_ev hS rfl) (by kernel_rfl)) fun a hS => ?_
            replace hM := hM.pull 2 rfl rfl
            refine wl_cons rfl (e_storeN (vs := [Value.int .i64 (0), Value.int .i64 (0), Value.int .i64 (0), Value.slice none 0 0, Value.bool (false)]) hM rfl ti_30 (hS.ev_ rfl) (hS.ev_ rfl) (ones_cons rfl (ones_cons rfl (ones_cons rfl (ones_cons rfl (ones_cons rfl ones_nil))))) (Nat.le_of_ble_eq_true rfl) fun w hM => ?_)
            have hM : Sat w0 w K (SP.blk g8 30 [Value.int .i64 (0), Value.int .i64 (0), Value.int .i64 (0), Value.slice none 0 0, Value.bool (false)] :: SP.blk g2 50 [Value.int .i64 (5), Value.int .i64 (p1.f_token.f_Kind), Value.int .i64 (p1.f_token.f_Code), Value.int .i64 (p1.f_token.f_Option), v3, Value.bool (p1.f_token.f_Cut), w5, w6] :: SP.blk g10 30 [Value.int .i64 (0), Value.int .i64 (0), Value.int .i64 (0), Value.slice none 0 0, Value.bool (false)] :: SP.row Kd.u8 5 v3 p1.f_token.f_Body :: L) := hM
            refine pl0 hS rfl fun a hS => ?_
            refine st_val hS rfl rfl (by decide) (r_assign rfl (hS.ev_ rfl)) fun a hS => ?_
            refine st_done ?_
            replace hS : Slots 113 [] a [(5, Value.bool (false)), (6, Value.pointer (some ⟨g10, 0, none⟩)), (4, Value.pointer (some ⟨g8, 0, none⟩)), (0, Value.pointer (some ⟨g2, 0, none⟩)), (1, Value.int .u8 (b8 (p7)))] := (hS.part (.cons rfl (.cons rfl (.cons rfl (.cons rfl (.cons rfl (.nil _)))))))
            refine x_then ?_
            refine wp_ret ?_
            refine x_then_ret ?_
            refine x_scope_ret ?_
            have hr' := Option.some.inj h
            subst hr'
            refine retR2 (.inr rfl) hS rfl ⟨_, rfl, lv_N (cs' := [Value.int .i64 (0), Value.int .i64 (0), Value.int .i64 (0), Value.slice none 0 0, Value.bool (false)]) hM ag_30 ti_30 rfl⟩ (show Sl.look _ _ = some (Value.bool (false)) from rfl) ?_
            exact ⟨K, (Value.slice none 0 0), (v3), (Hp.le.refl _), ((((hM).tail.pull 1 rfl rfl).tail.pull 1 rfl rfl).pull 1 rfl rfl), rfl, (Kd.sl_nil _ _)⟩
          · refine c_cond_false (hS.ev_ rfl) hc28 ?_
            refine wp_skip ?_
            refine x_then ?_
            refine c_scp_seq ?_
            refine wp_region_lit ?_
            refine st_val hS rfl rfl (by decide) (r_move rfl (hS.ev_ rfl)) fun a hS => ?_
            refine st_val hS rfl rfl (by decide) (r_move rfl (hS.ev_ rfl)) fun a hS => ?_
            obtain ⟨y29, h30, h⟩ := bindO h
            replace hM := hM.pull 3 rfl rfl
            replace hM := hM.pull 1 rfl rfl
            have hc32 := iac_Tokens_add_c_v0_50_0 hG h30 hM
            refine wl_cons rfl (e_call rfl Tryd.func21 rfl rfl (args2 (hS.ev_ rfl) (hS.ev_ rfl)) hc32 ?_)
            rintro _ w ⟨K31, v33, hlK31, hM, rfl⟩
            refine ⟨_, rfl, ?_⟩
            refine pl hS rfl (by decide) fun a hS => ?_
            refine st_done ?_
            replace hS : Slots 113 [] a [(6, Value.pointer (some ⟨g10, 0, none⟩)), (5, Value.bool (false)), (4, Value.pointer (some ⟨g8, 0, none⟩)), (0, Value.pointer (some ⟨g2, 0, none⟩)), (1, Value.int .u8 (b8 (p7)))] := (hS.part (.cons rfl (.cons rfl (.cons rfl (.cons rfl (.cons rfl (.nil _)))))))
            refine x_then ?_
            refine c_scp_seq ?_
            refine wp_goto ?_
            refine x_then_goto ?_
            refine x_scope_goto' (b := _) rfl ?_
            refine c_scp_seq ?_
            refine wp_seq ?_
            refine wp_region_lit ?_
            refine st_val hS rfl rfl (by decide) (r_build (cs := [Value.int .i64 (0), Value.int .i64 (0), Value.int .i64 (0), Value.slice none 0 0, Value.bool (false)]) rfl (parts_ev hS rfl) (by kernel_rfl)) fun a hS => ?_
            replace hM := hM.pull 3 rfl rfl
            refine wl_cons rfl (e_storeN (vs := [Value.int .i64 (0), Value.int .i64 (0), Value.int .i64 (0), Value.slice none 0 0, Value.bool (false)]) hM rfl ti_30 (hS.ev_ rfl) (hS.ev_ rfl) (ones_cons rfl (ones_cons rfl (ones_cons rfl (ones_cons rfl (ones_cons rfl ones_nil))))) (Nat.le_of_ble_eq_true rfl) fun w hM => ?_)
            have hM : Sat w0 w K31 (SP.blk g8 30 [Value.int .i64 (0), Value.int .i64 (0), Value.int .i64 (0), Value.slice none 0 0, Value.bool (false)] :: SP.blk g2 50 [Value.int .i64 (y29.f_state), Value.int .i64 (y29.f_token.f_Kind), Value.int .i64 (y29.f_token.f_Code), Value.int .i64 (y29.f_token.f_Option), v33, Value.bool (y29.f_token.f_Cut), w5, w6] :: SP.row Kd.u8 5 v33 y29.f_token.f_Body :: SP.blk g10 30 [Value.int .i64 (0), Value.int .i64 (0), Value.int .i64 (0), Value.slice none 0 0, Value.bool (false)] :: L) := hM
            refine pl0 hS rfl fun a hS => ?_
            refine st_val hS rfl rfl (by decide) (r_assign rfl (hS.ev_ rfl)) fun a hS => ?_
            refine st_done ?_
            replace hS : Slots 113 [] a [(5, Value.bool (false)), (6, Value.pointer (some ⟨g10, 0, none⟩)), (4, Value.pointer (some ⟨g8, 0, none⟩)), (0, Value.pointer (some ⟨g2, 0, none⟩)), (1, Value.int .u8 (b8 (p7)))] := (hS.part (.cons rfl (.cons rfl (.cons rfl (.cons rfl (.cons rfl (.nil _)))))))
            refine x_then ?_
            refine wp_ret ?_
            refine x_then_ret ?_
            refine x_scope_ret ?_
            have hr' := Option.some.inj h
            subst hr'
            refine retR2 (.inr rfl) hS rfl ⟨_, rfl, lv_N (cs' := [Value.int .i64 (0), Value.int .i64 (0), Value.int .i64 (0), Value.slice none 0 0, Value.bool (false)]) hM ag_30 ti_30 rfl⟩ (show Sl.look _ _ = some (Value.bool (false)) from rfl) ?_
            exact ⟨K31, (Value.slice none 0 0), (v33), hlK31, ((((hM).tail.pull 2 rfl rfl).tail.pull 1 rfl rfl).pull 1 rfl rfl), rfl, (Kd.sl_nil _ _)⟩
        · refine c_cond_false (hS.ev_ rfl) hc27 ?_
          refine wp_seq ?_
          refine wp_region_lit ?_
          refine st_val hS rfl rfl (by decide) (r_cmp rfl (hS.ev_ rfl) (hS.ev_ rfl) rfl) fun a hS => ?_
          refine st_val hS rfl rfl (by decide) (r_assign rfl (hS.ev_ rfl)) fun a hS => ?_
          refine st_done ?_
          replace hS : Slots 113 [] a [(36, Value.bool (p1.f_state == 5)), (6, Value.pointer (some ⟨g10, 0, none⟩)), (5, Value.bool (false)), (4, Value.pointer (some ⟨g8, 0, none⟩)), (0, Value.pointer (some ⟨g2, 0, none⟩)), (1, Value.int .u8 (b8 (p7)))] := (hS.part (.cons rfl (.cons rfl (.cons rfl (.cons rfl (.cons rfl (.cons rfl (.nil _))))))))
          refine x_then ?_
          rcases ifB h with ⟨hc35, h⟩ | ⟨hc35, h⟩
          · refine c_cond_true (hS.ev_ rfl) hc35 ?_
            refine wp_goto ?_
            refine x_block_goto ?_
            refine x_then_goto ?_
            refine x_scope_goto' (b := _) rfl ?_
            refine c_scp_seq ?_
            refine wp_seq ?_
            refine wp_region_lit ?_
            refine st_val hS rfl rfl (by decide) (r_move rfl (hS.ev_ rfl)) fun a hS => ?_
            refine st_done ?_
            replace hS : Slots 113 [] a [(80, Value.int .u8 (b8 (p7))), (6, Value.pointer (some ⟨g10, 0, none⟩)), (5, Value.bool (false)), (4, Value.pointer (some ⟨g8, 0, none⟩)), (0, Value.pointer (some ⟨g2, 0, none⟩)), (1, Value.int .u8 (b8 (p7)))] := (hS.part (.cons rfl (.cons rfl (.cons rfl (.cons rfl (.cons rfl (.cons rfl (.nil _))))))))
            refine x_then ?_
            refine wp_block ?_
            refine wp_seq ?_
            refine wp_region_lit ?_
            refine st_val hS rfl rfl (by decide) (r_cmp8 rfl (hS.ev_ rfl) (hS.ev_ (v := Value.int .u8 (b8 (255))) rfl) rfl) fun a hS => ?_
            refine st_val hS rfl rfl (by decide) (r_assign rfl (hS.ev_ rfl)) fun a hS => ?_
            refine st_done ?_
            replace hS : Slots 113 [] a [(81, Value.bool (p7 == 255)), (80, Value.int .u8 (b8 (p7))), (6, Value.pointer (some ⟨g10, 0, none⟩)), (5, Value.bool (false)), (4, Value.pointer (some ⟨g8, 0, none⟩)), (0, Value.pointer (some ⟨g2, 0, none⟩)), (1, Value.int .u8 (b8 (p7)))] := (hS.part (.cons rfl (.cons rfl (.cons rfl (.cons rfl (.cons rfl (.cons rfl (.cons rfl (.nil _)))))))))
            refine x_then ?_
            rcases ifB h with ⟨hc36, h⟩ | ⟨hc36, h⟩
            · refine c_cond_true (hS.ev_ rfl) hc36 ?_
              refine wp_seq ?_
              refine wp_region_lit ?_
              refine st_val hS rfl rfl (by decide) (r_move rfl (hS.ev_ rfl)) fun a hS => ?_
              refine st_val hS rfl rfl (by decide) (r_nilCheck rfl (hS.ev_ rfl)) fun a hS => ?_
              refine st_val hS rfl rfl (by decide) (r_fld_b rfl fo_43_0 (hS.ev_ rfl)) fun a hS => ?_
              refine wl_cons rfl (e_store1 hM rfl ti_3 (hS.ev_ rfl) (hS.ev_ rfl) rfl (Nat.lt_of_lt_of_le (Nat.le_of_ble_eq_true rfl) (Nat.le_refl _)) fun w hM => ?_)
              have hM : Sat w0 w K (SP.blk g2 50 [Value.int .i64 (4), Value.int .i64 (p1.f_token.f_Kind), Value.int .i64 (p1.f_token.f_Code), Value.int .i64 (p1.f_token.f_Option), v3, Value.bool (p1.f_token.f_Cut), w5, w6] :: SP.blk g10 30 [Value.int .i64 (0), Value.int .i64 (0), Value.int .i64 (0), Value.slice none 0 0, Value.bool (false)] :: SP.blk g8 30 [Value.int .i64 (0), Value.int .i64 (0), Value.int .i64 (0), Value.slice none 0 0, Value.bool (false)] :: SP.row Kd.u8 5 v3 p1.f_token.f_Body :: L) := hM
              refine pl0 hS rfl fun a hS => ?_
              refine st_done ?_
              replace hS : Slots 113 [] a [(6, Value.pointer (some ⟨g10, 0, none⟩)), (5, Value.bool (false)), (4, Value.pointer (some ⟨g8, 0, none⟩)), (0, Value.pointer (some ⟨g2, 0, none⟩)), (1, Value.int .u8 (b8 (p7)))] := (hS.part (.cons rfl (.cons rfl (.cons rfl (.cons rfl (.cons rfl (.nil _)))))))
              refine x_then ?_
              refine wp_seq ?_
              refine wp_region_lit ?_
              refine st_val hS rfl rfl (by decide) (r_move rfl (hS.ev_ rfl)) fun a hS => ?_
              refine st_val hS rfl rfl (by decide) (r_move rfl (hS.ev_ rfl)) fun a hS => ?_
              obtain ⟨y37, h38, h⟩ := bindO h
              replace hM := hM.pull 3 rfl rfl
              replace hM := hM.pull 1 rfl rfl
              have hc40 := iac_Tokens_add_c_v0_50_0 hG h38 hM
              refine wl_cons rfl (e_call rfl Tryd.func21 rfl rfl (args2 (hS.ev_ rfl) (hS.ev_ rfl)) hc40 ?_)
              rintro _ w ⟨K39, v41, hlK39, hM, rfl⟩
              refine ⟨_, rfl, ?_⟩
              refine pl hS rfl (by decide) fun a hS => ?_
              refine st_done ?_
              replace hS : Slots 113 [] a [(6, Value.pointer (some ⟨g10, 0, none⟩)), (5, Value.bool (false)), (4, Value.pointer (some ⟨g8, 0, none⟩)), (0, Value.pointer (some ⟨g2, 0, none⟩)), (1, Value.int .u8 (b8 (p7)))] := (hS.part (.cons rfl (.cons rfl (.cons rfl (.cons rfl (.cons rfl (.nil _)))))))
              refine x_then ?_
              refine wp_goto ?_
              refine x_block_goto ?_
              refine x_then_goto ?_
              refine x_scope_goto' (b := _) rfl ?_
              refine c_scp_seq ?_
              refine wp_seq ?_
              refine wp_region_lit ?_
              refine st_val hS rfl rfl (by decide) (r_build (cs := [Value.int .i64 (0), Value.int .i64 (0), Value.int .i64 (0), Value.slice none 0 0, Value.bool (false)]) rfl (parts_ev hS rfl) (by kernel_rfl)) fun a hS => ?_
              replace hM := hM.pull 3 rfl rfl
              refine wl_cons rfl (e_storeN (vs := [Value.int .i64 (0), Value.int .i64 (0), Value.int .i64 (0), Value.slice none 0 0, Value.bool (false)]) hM rfl ti_30 (hS.ev_ rfl) (hS.ev_ rfl) (ones_cons rfl (ones_cons rfl (ones_cons rfl (ones_cons rfl (ones_cons rfl ones_nil))))) (Nat.le_of_ble_eq_true rfl) fun w hM => ?_)
              have hM : Sat w0 w K39 (SP.blk g8 30 [Value.int .i64 (0), Value.int .i64 (0), Value.int .i64 (0), Value.slice none 0 0, Value.bool (false)] :: SP.blk g2 50 [Value.int .i64 (y37.f_state), Value.int .i64 (y37.f_token.f_Kind), Value.int .i64 (y37.f_token.f_Code), Value.int .i64 (y37.f_token.f_Option), v41, Value.bool (y37.f_token.f_Cut), w5, w6] :: SP.row Kd.u8 5 v41 y37.f_token.f_Body :: SP.blk g10 30 [Value.int .i64 (0), Value.int .i64 (0), Value.int .i64 (0), Value.slice none 0 0, Value.bool (false)] :: L) := hM
              refine pl0 hS rfl fun a hS => ?_
              refine st_val hS rfl rfl (by decide) (r_assign rfl (hS.ev_ rfl)) fun a hS => ?_
              refine st_done ?_
              replace hS : Slots 113 [] a [(5, Value.bool (false)), (6, Value.pointer (some ⟨g10, 0, none⟩)), (4, Value.pointer (some ⟨g8, 0, none⟩)), (0, Value.pointer (some ⟨g2, 0, none⟩)), (1, Value.int .u8 (b8 (p7)))] := (hS.part (.cons rfl (.cons rfl (.cons rfl (.cons rfl (.cons rfl (.nil _)))))))
              refine x_then ?_
              refine wp_ret ?_
              refine x_then_ret ?_
              refine x_scope_ret ?_
              have hr' := Option.some.inj h
              subst hr'
              refine retR2 (.inr rfl) hS rfl ⟨_, rfl, lv_N (cs' := [Value.int .i64 (0), Value.int .i64 (0), Value.int .i64 (0), Value.slice none 0 0, Value.bool (false)]) hM ag_30 ti_30 rfl⟩ (show Sl.look _ _ = some (Value.bool (false)) from rfl) ?_
              exact ⟨K39, (Value.slice none 0 0), (v41), hlK39, ((((hM).tail.pull 2 rfl rfl).tail.pull 1 rfl rfl).pull 1 rfl rfl), rfl, (Kd.sl_nil _ _)⟩
            · refine c_cond_false (hS.ev_ rfl) hc36 ?_
              refine wp_seq ?_
              refine wp_region_lit ?_
              refine st_val hS rfl rfl (by decide) (r_cmp8 rfl (hS.ev_ rfl) (hS.ev_ (v := Value.int .u8 (b8 (240))) rfl) rfl) fun a hS => ?_
              refine st_val hS rfl rfl (by decide) (r_assign rfl (hS.ev_ rfl)) fun a hS => ?_
              refine st_done ?_
              replace hS : Slots 113 [] a [(89, Value.bool (p7 == 240)), (6, Value.pointer (some ⟨g10, 0, none⟩)), (5, Value.bool (false)), (4, Value.pointer (some ⟨g8, 0, none⟩)), (0, Value.pointer (some ⟨g2, 0, none⟩)), (1, Value.int .u8 (b8 (p7)))] := (hS.part (.cons rfl (.cons rfl (.cons rfl (.cons rfl (.cons rfl (.cons rfl (.nil _))))))))
              refine x_then ?_
              rcases ifB h with ⟨hc43, h⟩ | ⟨hc43, h⟩
              · refine c_cond_true (hS.ev_ rfl) hc43 ?_
                refine wp_seq ?_
                refine wp_region_lit ?_
                refine st_val hS rfl rfl (by decide) (r_move rfl (hS.ev_ rfl)) fun a hS => ?_
                refine st_val hS rfl rfl (by decide) (r_nilCheck rfl (hS.ev_ rfl)) fun a hS => ?_
                refine st_val hS rfl rfl (by decide) (r_fld_b rfl fo_43_1 (hS.ev_ rfl)) fun a hS => ?_
                refine st_val hS rfl rfl (by decide) (r_ldN_b (cs' := [Value.int .i64 (p1.f_token.f_Kind), Value.int .i64 (p1.f_token.f_Code), Value.int .i64 (p1.f_token.f_Option), v3, Value.bool (p1.f_token.f_Cut)]) rfl ag_30 ti_30 (hS.ev_ rfl) rfl (Rd.of hM)) fun a hS => ?_
                replace hM := hM.pull 1 rfl rfl
                replace hM := hM.pull 3 rfl rfl
                have ho44 := row_one hM
                replace hM := hM.pull 1 rfl rfl
                refine wl_cons rfl (e_storeN (vs := [Value.int .i64 (p1.f_token.f_Kind), Value.int .i64 (p1.f_token.f_Code), Value.int .i64 (p1.f_token.f_Option), v3, Value.bool (p1.f_token.f_Cut)]) hM rfl ti_30 (hS.ev_ rfl) (hS.ev_ rfl) (ones_cons rfl (ones_cons rfl (ones_cons rfl (ones_cons ho44 (ones_cons rfl ones_nil))))) (Nat.le_of_ble_eq_true rfl) fun w hM => ?_)
                have hM : Sat w0 w K (SP.blk g10 30 [Value.int .i64 (p1.f_token.f_Kind), Value.int .i64 (p1.f_token.f_Code), Value.int .i64 (p1.f_token.f_Option), v3, Value.bool (p1.f_token.f_Cut)] :: SP.row Kd.u8 5 v3 p1.f_token.f_Body :: SP.blk g2 50 [Value.int .i64 (p1.f_state), Value.int .i64 (p1.f_token.f_Kind), Value.int .i64 (p1.f_token.f_Code), Value.int .i64 (p1.f_token.f_Option), v3, Value.bool (p1.f_token.f_Cut), w5, w6] :: SP.blk g8 30 [Value.int .i64 (0), Value.int .i64 (0), Value.int .i64 (0), Value.slice none 0 0, Value.bool (false)] :: L) := hM
                refine pl0 hS rfl fun a hS => ?_
                refine st_done ?_
                replace hS : Slots 113 [] a [(6, Value.pointer (some ⟨g10, 0, none⟩)), (5, Value.bool (false)), (4, Value.pointer (some ⟨g8, 0, none⟩)), (0, Value.pointer (some ⟨g2, 0, none⟩)), (1, Value.int .u8 (b8 (p7)))] := (hS.part (.cons rfl (.cons rfl (.cons rfl (.cons rfl (.cons rfl (.nil _)))))))
                refine x_then ?_
                refine wp_seq ?_
                refine wp_region_lit ?_
                refine st_val hS rfl rfl (by decide) (r_fld_b rfl fo_30_0 (hS.ev_ rfl)) fun a hS => ?_
                refine wl_cons rfl (e_store1 hM rfl ti_3 (hS.ev_ rfl) (hS.ev_ rfl) rfl (Nat.lt_of_lt_of_le (Nat.le_of_ble_eq_true rfl) (Nat.le_refl _)) fun w hM => ?_)
                have hM : Sat w0 w K (SP.blk g10 30 [Value.int .i64 (4), Value.int .i64 (p1.f_token.f_Code), Value.int .i64 (p1.f_token.f_Option), v3, Value.bool (p1.f_token.f_Cut)] :: SP.row Kd.u8 5 v3 p1.f_token.f_Body :: SP.blk g2 50 [Value.int .i64 (p1.f_state), Value.int .i64 (p1.f_token.f_Kind), Value.int .i64 (p1.f_token.f_Code), Value.int .i64 (p1.f_token.f_Option), v3, Value.bool (p1.f_token.f_Cut), w5, w6] :: SP.blk g8 30 [Value.int .i64 (0), Value.int .i64 (0), Value.int .i64 (0), Value.slice none 0 0, Value.bool (false)] :: L) := hM
                refine pl0 hS rfl fun a hS => ?_
                refine st_done ?_
                replace hS : Slots 113 [] a [(6, Value.pointer (some ⟨g10, 0, none⟩)), (5, Value.bool (false)), (4, Value.pointer (some ⟨g8, 0, none⟩)), (0, Value.pointer (some ⟨g2, 0, none⟩)), (1, Value.int .u8 (b8 (p7)))] := (hS.part (.cons rfl (.cons rfl (.cons rfl (.cons rfl (.cons rfl (.nil _)))))))
                refine x_then ?_
                refine wp_goto ?_
                refine x_block_goto ?_
                refine x_then_goto ?_
                refine x_scope_goto' (b := _) rfl ?_
                refine c_scp_seq ?_
                refine wp_region_lit ?_
                refine st_val hS rfl rfl (by decide) (r_move rfl (hS.ev_ rfl)) fun a hS => ?_
                refine st_val hS rfl rfl (by decide) (r_move rfl (hS.ev_ rfl)) fun a hS => ?_
                refine st_val hS rfl rfl (by decide) (r_build (cs := [Value.int .i64 (0), Value.int .i64 (0), Value.int .i64 (0), Value.slice none 0 0, Value.bool (false)]) rfl (parts_ev hS rfl) (by kernel_rfl)) fun a hS => ?_
                refine st_val hS rfl rfl (by decide) (r_nilCheck rfl (hS.ev_ rfl)) fun a hS => ?_
                refine st_val hS rfl rfl (by decide) (r_fld_b rfl fo_43_0 (hS.ev_ rfl)) fun a hS => ?_
                replace hM := hM.pull 2 rfl rfl
                refine wl_cons rfl (e_store1 hM rfl ti_3 (hS.ev_ rfl) (hS.ev_ rfl) rfl (Nat.lt_of_lt_of_le (Nat.le_of_ble_eq_true rfl) (Nat.le_refl _)) fun w hM => ?_)
                have hM : Sat w0 w K (SP.blk g2 50 [Value.int .i64 (0), Value.int .i64 (p1.f_token.f_Kind), Value.int .i64 (p1.f_token.f_Code), Value.int .i64 (p1.f_token.f_Option), v3, Value.bool (p1.f_token.f_Cut), w5, w6] :: SP.blk g10 30 [Value.int .i64 (4), Value.int .i64 (p1.f_token.f_Code), Value.int .i64 (p1.f_token.f_Option), v3, Value.bool (p1.f_token.f_Cut)] :: SP.row Kd.u8 5 v3 p1.f_token.f_Body :: SP.blk g8 30 [Value.int .i64 (0), Value.int .i64 (0), Value.int .i64 (0), Value.slice none 0 0, Value.bool (false)] :: L) := hM
                refine pl0 hS rfl fun a hS => ?_
                refine st_val hS rfl rfl (by decide) (r_nilCheck rfl (hS.ev_ rfl)) fun a hS => ?_
                refine st_val hS rfl rfl (by decide) (r_fld_b rfl fo_43_1 (hS.ev_ rfl)) fun a hS => ?_
                refine wl_cons rfl (e_storeN (vs := [Value.int .i64 (0), Value.int .i64 (0), Value.int .i64 (0), Value.slice none 0 0, Value.bool (false)]) hM rfl ti_30 (hS.ev_ rfl) (hS.ev_ rfl) (ones_cons rfl (ones_cons rfl (ones_cons rfl (ones_cons rfl (ones_cons rfl ones_nil))))) (Nat.le_of_ble_eq_true rfl) fun w hM => ?_)
                have hM : Sat w0 w K (SP.blk g2 50 [Value.int .i64 (0), Value.int .i64 (0), Value.int .i64 (0), Value.int .i64 (0), Value.slice none 0 0, Value.bool (false), w5, w6] :: SP.blk g10 30 [Value.int .i64 (4), Value.int .i64 (p1.f_token.f_Code), Value.int .i64 (p1.f_token.f_Option), v3, Value.bool (p1.f_token.f_Cut)] :: SP.row Kd.u8 5 v3 p1.f_token.f_Body :: SP.blk g8 30 [Value.int .i64 (0), Value.int .i64 (0), Value.int .i64 (0), Value.slice none 0 0, Value.bool (false)] :: L) := hM
                refine pl0 hS rfl fun a hS => ?_
                refine st_done ?_
                replace hS : Slots 113 [] a [(6, Value.pointer (some ⟨g10, 0, none⟩)), (5, Value.bool (false)), (4, Value.pointer (some ⟨g8, 0, none⟩)), (0, Value.pointer (some ⟨g2, 0, none⟩)), (1, Value.int .u8 (b8 (p7)))] := (hS.part (.cons rfl (.cons rfl (.cons rfl (.cons rfl (.cons rfl (.nil _)))))))
                refine x_then ?_
                refine c_scp_seq ?_
                refine wp_region_lit ?_
                replace hM := hM.pull 1 rfl rfl
                refine st_val hS rfl rfl (by decide) (r_ldN_b (cs' := [Value.int .i64 (4), Value.int .i64 (p1.f_token.f_Code), Value.int .i64 (p1.f_token.f_Option), v3, Value.bool (p1.f_token.f_Cut)]) rfl ag_30 ti_30 (hS.ev_ rfl) rfl (Rd.of hM)) fun a hS => ?_
                replace hM := hM.pull 3 rfl rfl
                replace hM := hM.pull 3 rfl rfl
                have ho45 := row_one hM
                replace hM := hM.pull 1 rfl rfl
                refine wl_cons rfl (e_storeN (vs := [Value.int .i64 (4), Value.int .i64 (p1.f_token.f_Code), Value.int .i64 (p1.f_token.f_Option), v3, Value.bool (p1.f_token.f_Cut)]) hM rfl ti_30 (hS.ev_ rfl) (hS.ev_ rfl) (ones_cons rfl (ones_cons rfl (ones_cons rfl (ones_cons ho45 (ones_cons rfl ones_nil))))) (Nat.le_of_ble_eq_true rfl) fun w hM => ?_)
                have hM : Sat w0 w K (SP.blk g8 30 [Value.int .i64 (4), Value.int .i64 (p1.f_token.f_Code), Value.int .i64 (p1.f_token.f_Option), v3, Value.bool (p1.f_token.f_Cut)] :: SP.row Kd.u8 5 v3 p1.f_token.f_Body :: SP.blk g10 30 [Value.int .i64 (4), Value.int .i64 (p1.f_token.f_Code), Value.int .i64 (p1.f_token.f_Option), v3, Value.bool (p1.f_token.f_Cut)] :: SP.blk g2 50 [Value.int .i64 (0), Value.int .i64 (0), Value.int .i64 (0), Value.int .i64 (0), Value.slice none 0 0, Value.bool (false), w5, w6] :: L) := hM
                refine pl0 hS rfl fun a hS => ?_
                refine st_val hS rfl rfl (by decide) (r_assign rfl (hS.ev_ rfl)) fun a hS => ?_
                refine st_done ?_
                replace hS : Slots 113 [] a [(5, Value.bool (true)), (6, Value.pointer (some ⟨g10, 0, none⟩)), (4, Value.pointer (some ⟨g8, 0, none⟩)), (0, Value.pointer (some ⟨g2, 0, none⟩)), (1, Value.int .u8 (b8 (p7)))] := (hS.part (.cons rfl (.cons rfl (.cons rfl (.cons rfl (.cons rfl (.nil _)))))))
                refine x_then ?_
                refine c_scp ?_
                refine wp_ret ?_
                refine x_scope_ret ?_
                replace hM := hM.pull 1 rfl rfl
                obtain ⟨K46, hlK46, hM, f47⟩ := keep_row hM
                replace hM := hM.row_nil Kd.u8 5
                have hr' := Option.some.inj h
                subst hr'
                refine retR2 (.inr rfl) hS rfl ⟨_, rfl, lv_N (cs' := [Value.int .i64 (4), Value.int .i64 (p1.f_token.f_Code), Value.int .i64 (p1.f_token.f_Option), v3, Value.bool (p1.f_token.f_Cut)]) (hM.pull 1 rfl rfl) ag_30 ti_30 rfl⟩ (show Sl.look _ _ = some (Value.bool (true)) from rfl) ?_
                exact ⟨K46, (v3), ((Value.slice none 0 0)), hlK46, (((hM.pull 1 rfl rfl).tail.pull 1 rfl rfl).tail.pull 1 rfl rfl), rfl, f47⟩
              · refine c_cond_false (hS.ev_ rfl) hc43 ?_
                refine wp_skip ?_
                refine x_block ?_
                refine x_then ?_
                refine c_scp_seq ?_
                refine wp_region_lit ?_
                refine st_val hS rfl rfl (by decide) (r_move rfl (hS.ev_ rfl)) fun a hS => ?_
                refine st_val hS rfl rfl (by decide) (r_conv_8i rfl un_5 un_3 (hS.ev_ rfl)) fun a hS => ?_
                refine st_val hS rfl rfl (by decide) (r_move rfl (hS.ev_ rfl)) fun a hS => ?_
                refine st_val hS rfl rfl (by decide) (r_nilCheck rfl (hS.ev_ rfl)) fun a hS => ?_
                refine st_val hS rfl rfl (by decide) (r_fld_b rfl fo_43_1 (hS.ev_ rfl)) fun a hS => ?_
                refine st_val hS rfl rfl (by decide) (r_fld_b rfl fo_30_2 (hS.ev_ rfl)) fun a hS => ?_
                refine st_val hS rfl rfl (by decide) (r_ld1_b rfl ag_3 (hS.ev_ rfl) rfl (Rd.of hM)) fun a hS => ?_
                refine st_val hS rfl rfl (by decide) (r_build (cs := [Value.int .i64 (5), Value.int .i64 (b8 p7), Value.int .i64 (p1.f_token.f_Option), Value.slice none 0 0, Value.bool (false)]) rfl (parts_ev hS rfl) (by kernel_rfl)) fun a hS => ?_
                replace hM := hM.pull 1 rfl rfl
                refine wl_cons rfl (e_storeN (vs := [Value.int .i64 (5), Value.int .i64 (b8 p7), Value.int .i64 (p1.f_token.f_Option), Value.slice none 0 0, Value.bool (false)]) hM rfl ti_30 (hS.ev_ rfl) (hS.ev_ rfl) (ones_cons rfl (ones_cons rfl (ones_cons rfl (ones_cons rfl (ones_cons rfl ones_nil))))) (Nat.le_of_ble_eq_true rfl) fun w hM => ?_)
                have hM : Sat w0 w K (SP.blk g10 30 [Value.int .i64 (5), Value.int .i64 (b8 p7), Value.int .i64 (p1.f_token.f_Option), Value.slice none 0 0, Value.bool (false)] :: SP.blk g2 50 [Value.int .i64 (p1.f_state), Value.int .i64 (p1.f_token.f_Kind), Value.int .i64 (p1.f_token.f_Code), Value.int .i64 (p1.f_token.f_Option), v3, Value.bool (p1.f_token.f_Cut), w5, w6] :: SP.blk g8 30 [Value.int .i64 (0), Value.int .i64 (0), Value.int .i64 (0), Value.slice none 0 0, Value.bool (false)] :: SP.row Kd.u8 5 v3 p1.f_token.f_Body :: L) := hM
                refine pl0 hS rfl fun a hS => ?_
                refine st_done ?_
                replace hS : Slots 113 [] a [(6, Value.pointer (some ⟨g10, 0, none⟩)), (5, Value.bool (false)), (4, Value.pointer (some ⟨g8, 0, none⟩)), (0, Value.pointer (some ⟨g2, 0, none⟩)), (1, Value.int .u8 (b8 (p7)))] := (hS.part (.cons rfl (.cons rfl (.cons rfl (.cons rfl (.cons rfl (.nil _)))))))
                refine x_then ?_
                refine c_scp_seq ?_
                refine wp_goto ?_
                refine x_then_goto ?_
                refine x_scope_goto' (b := _) rfl ?_
                refine c_scp_seq ?_
                refine wp_region_lit ?_
                refine st_val hS rfl rfl (by decide) (r_move rfl (hS.ev_ rfl)) fun a hS => ?_
                refine st_val hS rfl rfl (by decide) (r_move rfl (hS.ev_ rfl)) fun a hS => ?_
                refine st_val hS rfl rfl (by decide) (r_build (cs := [Value.int .i64 (0), Value.int .i64 (0), Value.int .i64 (0), Value.slice none 0 0, Value.bool (false)]) rfl (parts_ev hS rfl) (by kernel_rfl)) fun a hS => ?_
                refine st_val hS rfl rfl (by decide) (r_nilCheck rfl (hS.ev_ rfl)) fun a hS => ?_
                refine st_val hS rfl rfl (by decide) (r_fld_b rfl fo_43_0 (hS.ev_ rfl)) fun a hS => ?_
                replace hM := hM.pull 1 rfl rfl
                refine wl_cons rfl (e_store1 hM rfl ti_3 (hS.ev_ rfl) (hS.ev_ rfl) rfl (Nat.lt_of_lt_of_le (Nat.le_of_ble_eq_true rfl) (Nat.le_refl _)) fun w hM => ?_)
                have hM : Sat w0 w K (SP.blk g2 50 [Value.int .i64 (0), Value.int .i64 (p1.f_token.f_Kind), Value.int .i64 (p1.f_token.f_Code), Value.int .i64 (p1.f_token.f_Option), v3, Value.bool (p1.f_token.f_Cut), w5, w6] :: SP.blk g10 30 [Value.int .i64 (5), Value.int .i64 (b8 p7), Value.int .i64 (p1.f_token.f_Option), Value.slice none 0 0, Value.bool (false)] :: SP.blk g8 30 [Value.int .i64 (0), Value.int .i64 (0), Value.int .i64 (0), Value.slice none 0 0, Value.bool (false)] :: SP.row Kd.u8 5 v3 p1.f_token.f_Body :: L) := hM
                refine pl0 hS rfl fun a hS => ?_
                refine st_val hS rfl rfl (by decide) (r_nilCheck rfl (hS.ev_ rfl)) fun a hS => ?_
                refine st_val hS rfl rfl (by decide) (r_fld_b rfl fo_43_1 (hS.ev_ rfl)) fun a hS => ?_
                refine wl_cons rfl (e_storeN (vs := [Value.int .i64 (0), Value.int .i64 (0), Value.int .i64 (0), Value.slice none 0 0, Value.bool (false)]) hM rfl ti_30 (hS.ev_ rfl) (hS.ev_ rfl) (ones_cons rfl (ones_cons rfl (ones_cons rfl (ones_cons rfl (ones_cons rfl ones_nil))))) (Nat.le_of_ble_eq_true rfl) fun w hM => ?_)
                have hM : Sat w0 w K (SP.blk g2 50 [Value.int .i64 (0), Value.int .i64 (0), Value.int .i64 (0), Value.int .i64 (0), Value.slice none 0 0, Value.bool (false), w5, w6] :: SP.blk g10 30 [Value.int .i64 (5), Value.int .i64 (b8 p7), Value.int .i64 (p1.f_token.f_Option), Value.slice none 0 0, Value.bool (false)] :: SP.blk g8 30 [Value.int .i64 (0), Value.int .i64 (0), Value.int .i64 (0), Value.slice none 0 0, Value.bool (false)] :: SP.row Kd.u8 5 v3 p1.f_token.f_Body :: L) := hM
                refine pl0 hS rfl fun a hS => ?_
                refine st_done ?_
                replace hS : Slots 113 [] a [(6, Value.pointer (some ⟨g10, 0, none⟩)), (5, Value.bool (false)), (4, Value.pointer (some ⟨g8, 0, none⟩)), (0, Value.pointer (some ⟨g2, 0, none⟩)), (1, Value.int .u8 (b8 (p7)))] := (hS.part (.cons rfl (.cons rfl (.cons rfl (.cons rfl (.cons rfl (.nil _)))))))
                refine x_then ?_
                refine c_scp_seq ?_
                refine wp_region_lit ?_
                replace hM := hM.pull 1 rfl rfl
                refine st_val hS rfl rfl (by decide) (r_ldN_b (cs' := [Value.int .i64 (5), Value.int .i64 (b8 p7), Value.int .i64 (p1.f_token.f_Option), Value.slice none 0 0, Value.bool (false)]) rfl ag_30 ti_30 (hS.ev_ rfl) rfl (Rd.of hM)) fun a hS => ?_
                replace hM := hM.pull 2 rfl rfl
                refine wl_cons rfl (e_storeN (vs := [Value.int .i64 (5), Value.int .i64 (b8 p7), Value.int .i64 (p1.f_token.f_Option), Value.slice none 0 0, Value.bool (false)]) hM rfl ti_30 (hS.ev_ rfl) (hS.ev_ rfl) (ones_cons rfl (ones_cons rfl (ones_cons rfl (ones_cons rfl (ones_cons rfl ones_nil))))) (Nat.le_of_ble_eq_true rfl) fun w hM => ?_)
                have hM : Sat w0 w K (SP.blk g8 30 [Value.int .i64 (5), Value.int .i64 (b8 p7), Value.int .i64 (p1.f_token.f_Option), Value.slice none 0 0, Value.bool (false)] :: SP.blk g10 30 [Value.int .i64 (5), Value.int .i64 (b8 p7), Value.int .i64 (p1.f_token.f_Option), Value.slice none 0 0, Value.bool (false)] :: SP.blk g2 50 [Value.int .i64 (0), Value.int .i64 (0), Value.int .i64 (0), Value.int .i64 (0), Value.slice none 0 0, Value.bool (false), w5, w6] :: SP.row Kd.u8 5 v3 p1.f_token.f_Body :: L) := hM
                refine pl0 hS rfl fun a hS => ?_
                refine st_val hS rfl rfl (by decide) (r_assign rfl (hS.ev_ rfl)) fun a hS => ?_
                refine st_done ?_
                replace hS : Slots 113 [] a [(5, Value.bool (true)), (6, Value.pointer (some ⟨g10, 0, none⟩)), (4, Value.pointer (some ⟨g8, 0, none⟩)), (0, Value.pointer (some ⟨g2, 0, none⟩)), (1, Value.int .u8 (b8 (p7)))] := (hS.part (.cons rfl (.cons rfl (.cons rfl (.cons rfl (.cons rfl (.nil _)))))))
                refine x_then ?_
                refine c_scp ?_
                refine wp_ret ?_
                refine x_scope_ret ?_
                replace hM := hM.row_nil Kd.u8 5
                have hr' := Option.some.inj h
                subst hr'
                refine retR2 (.inr rfl) hS rfl ⟨_, rfl, lv_N (cs' := [Value.int .i64 (5), Value.int .i64 (b8 p7), Value.int .i64 (p1.f_token.f_Option), Value.slice none 0 0, Value.bool (false)]) (hM.pull 1 rfl rfl) ag_30 ti_30 rfl⟩ (show Sl.look _ _ = some (Value.bool (true)) from rfl) ?_
                exact ⟨K, (Value.slice none 0 0), ((Value.slice none 0 0)), (Hp.le.refl _), ((((hM.pull 1 rfl rfl).tail.pull 1 rfl rfl).tail.pull 2 rfl rfl).tail.pull 1 rfl rfl), rfl, (Kd.sl_nil _ _)⟩
          · refine c_cond_false (hS.ev_ rfl) hc35 ?_
            refine wp_skip ?_
            refine x_block ?_
            refine x_then ?_
            refine c_scp_seq ?_
            refine wp_seq ?_
            refine wp_region_lit ?_
            refine st_val hS rfl rfl (by decide) (r_move rfl (hS.ev_ rfl)) fun a hS => ?_
            refine st_val hS rfl rfl (by decide) (r_cmp8 rfl (hS.ev_ rfl) (hS.ev_ (v := Value.int .u8 (b8 (255))) rfl) rfl) fun a hS => ?_
            refine st_done ?_
            replace hS : Slots 113 [] a [(39, Value.bool (p7 == 255)), (6, Value.pointer (some ⟨g10, 0, none⟩)), (5, Value.bool (false)), (4, Value.pointer (some ⟨g8, 0, none⟩)), (0, Value.pointer (some ⟨g2, 0, none⟩)), (1, Value.int .u8 (b8 (p7)))] := (hS.part (.cons rfl (.cons rfl (.cons rfl (.cons rfl (.cons rfl (.cons rfl (.nil _))))))))
            refine x_then ?_
            rcases ifB h with ⟨hc50, h⟩ | ⟨hc50, h⟩
            · refine c_cond_true (hS.ev_ rfl) hc50 ?_
              refine wp_seq ?_
              refine wp_region_lit ?_
              refine st_val hS rfl rfl (by decide) (r_move rfl (hS.ev_ rfl)) fun a hS => ?_
              refine st_val hS rfl rfl (by decide) (r_nilCheck rfl (hS.ev_ rfl)) fun a hS => ?_
              refine st_val hS rfl rfl (by decide) (r_fld_b rfl fo_43_0 (hS.ev_ rfl)) fun a hS => ?_
              refine wl_cons rfl (e_store1 hM rfl ti_3 (hS.ev_ rfl) (hS.ev_ rfl) rfl (Nat.lt_of_lt_of_le (Nat.le_of_ble_eq_true rfl) (Nat.le_refl _)) fun w hM => ?_)
              have hM : Sat w0 w K (SP.blk g2 50 [Value.int .i64 (1), Value.int .i64 (p1.f_token.f_Kind), Value.int .i64 (p1.f_token.f_Code), Value.int .i64 (p1.f_token.f_Option), v3, Value.bool (p1.f_token.f_Cut), w5, w6] :: SP.blk g10 30 [Value.int .i64 (0), Value.int .i64 (0), Value.int .i64 (0), Value.slice none 0 0, Value.bool (false)] :: SP.blk g8 30 [Value.int .i64 (0), Value.int .i64 (0), Value.int .i64 (0), Value.slice none 0 0, Value.bool (false)] :: SP.row Kd.u8 5 v3 p1.f_token.f_Body :: L) := hM
              refine pl0 hS rfl fun a hS => ?_
              refine st_done ?_
              replace hS : Slots 113 [] a [(6, Value.pointer (some ⟨g10, 0, none⟩)), (5, Value.bool (false)), (4, Value.pointer (some ⟨g8, 0, none⟩)), (0, Value.pointer (some ⟨g2, 0, none⟩)), (1, Value.int .u8 (b8 (p7)))] := (hS.part (.cons rfl (.cons rfl (.cons rfl (.cons rfl (.cons rfl (.nil _)))))))
              refine x_then ?_
              refine wp_goto ?_
              refine x_then_goto ?_
              refine x_scope_goto' (b := _) rfl ?_
              refine c_scp_seq ?_
              refine wp_seq ?_
              refine wp_region_lit ?_
              refine st_val hS rfl rfl (by decide) (r_build (cs := [Value.int .i64 (0), Value.int .i64 (0), Value.int .i64 (0), Value.slice none 0 0, Value.bool (false)]) rfl (parts_ev hS rfl) (by kernel_rfl)) fun a hS => ?_
              replace hM := hM.pull 2 rfl rfl
              refine wl_cons rfl (e_storeN (vs := [Value.int .i64 (0), Value.int .i64 (0), Value.int .i64 (0), Value.slice none 0 0, Value.bool (false)]) hM rfl ti_30 (hS.ev_ rfl) (hS.ev_ rfl) (ones_cons rfl (ones_cons rfl (ones_cons rfl (ones_cons rfl (ones_cons rfl ones_nil))))) (Nat.le_of_ble_eq_true rfl) fun w hM => ?_)
              have hM : Sat w0 w K (SP.blk g8 30 [Value.int .i64 (0), Value.int .i64 (0), Value.int .i64 (0), Value.slice none 0 0, Value.bool (false)] :: SP.blk g2 50 [Value.int .i64 (1), Value.int .i64 (p1.f_token.f_Kind), Value.int .i64 (p1.f_token.f_Code), Value.int .i64 (p1.f_token.f_Option), v3, Value.bool (p1.f_token.f_Cut), w5, w6] :: SP.blk g10 30 [Value.int .i64 (0), Value.int .i64 (0), Value.int .i64 (0), Value.slice none 0 0, Value.bool (false)] :: SP.row Kd.u8 5 v3 p1.f_token.f_Body :: L) := hM
              refine pl0 hS rfl fun a hS => ?_
              refine st_val hS rfl rfl (by decide) (r_assign rfl (hS.ev_ rfl)) fun a hS => ?_
              refine st_done ?_
              replace hS : Slots 113 [] a [(5, Value.bool (false)), (6, Value.pointer (some ⟨g10, 0, none⟩)), (4, Value.pointer (some ⟨g8, 0, none⟩)), (0, Value.pointer (some ⟨g2, 0, none⟩)), (1, Value.int .u8 (b8 (p7)))] := (hS.part (.cons rfl (.cons rfl (.cons rfl (.cons rfl (.cons rfl (.nil _)))))))
              refine x_then ?_
              refine wp_ret ?_
              refine x_then_ret ?_
              refine x_scope_ret ?_
              have hr' := Option.some.inj h
              subst hr'
              refine retR2 (.inr rfl) hS rfl ⟨_, rfl, lv_N (cs' := [Value.int .i64 (0), Value.int .i64 (0), Value.int .i64 (0), Value.slice none 0 0, Value.bool (false)]) hM ag_30 ti_30 rfl⟩ (show Sl.look _ _ = some (Value.bool (false)) from rfl) ?_
              exact ⟨K, (Value.slice none 0 0), (v3), (Hp.le.refl _), ((((hM).tail.pull 1 rfl rfl).tail.pull 1 rfl rfl).pull 1 rfl rfl), rfl, (Kd.sl_nil _ _)⟩
            · refine c_cond_false (hS.ev_ rfl) hc50 ?_
              refine wp_skip ?_
              refine x_then ?_
              refine c_scp_seq ?_
              refine wp_region_lit ?_
              refine st_val hS rfl rfl (by decide) (r_move rfl (hS.ev_ rfl)) fun a hS => ?_
              refine st_val hS rfl rfl (by decide) (r_conv_8i rfl un_5 un_3 (hS.ev_ rfl)) fun a hS => ?_
              refine st_val hS rfl rfl (by decide) (r_build (cs := [Value.int .i64 (1), Value.int .i64 (b8 p7), Value.int .i64 (0), Value.slice none 0 0, Value.bool (false)]) rfl (parts_ev hS rfl) (by kernel_rfl)) fun a hS => ?_
              replace hM := hM.pull 1 rfl rfl
              refine wl_cons rfl (e_storeN (vs := [Value.int .i64 (1), Value.int .i64 (b8 p7), Value.int .i64 (0), Value.slice none 0 0, Value.bool (false)]) hM rfl ti_30 (hS.ev_ rfl) (hS.ev_ rfl) (ones_cons rfl (ones_cons rfl (ones_cons rfl (ones_cons rfl (ones_cons rfl ones_nil))))) (Nat.le_of_ble_eq_true rfl) fun w hM => ?_)
              have hM : Sat w0 w K (SP.blk g10 30 [Value.int .i64 (1), Value.int .i64 (b8 p7), Value.int .i64 (0), Value.slice none 0 0, Value.bool (false)] :: SP.blk g2 50 [Value.int .i64 (p1.f_state), Value.int .i64 (p1.f_token.f_Kind), Value.int .i64 (p1.f_token.f_Code), Value.int .i64 (p1.f_token.f_Option), v3, Value.bool (p1.f_token.f_Cut), w5, w6] :: SP.blk g8 30 [Value.int .i64 (0), Value.int .i64 (0), Value.int .i64 (0), Value.slice none 0 0, Value.bool (false)] :: SP.row Kd.u8 5 v3 p1.f_token.f_Body :: L) := hM
              refine pl0 hS rfl fun a hS => ?_
              refine st_done ?_
              replace hS : Slots 113 [] a [(6, Value.pointer (some ⟨g10, 0, none⟩)), (5, Value.bool (false)), (4, Value.pointer (some ⟨g8, 0, none⟩)), (0, Value.pointer (some ⟨g2, 0, none⟩)), (1, Value.int .u8 (b8 (p7)))] := (hS.part (.cons rfl (.cons rfl (.cons rfl (.cons rfl (.cons rfl (.nil _)))))))
              refine x_then ?_
              refine c_scp_seq ?_
              refine wp_goto ?_
              refine x_then_goto ?_
              refine x_scope_goto' (b := _) rfl ?_
              refine c_scp_seq ?_
              refine wp_region_lit ?_
              refine st_val hS rfl rfl (by decide) (r_move rfl (hS.ev_ rfl)) fun a hS => ?_
              refine st_val hS rfl rfl (by decide) (r_move rfl (hS.ev_ rfl)) fun a hS => ?_
              refine st_val hS rfl rfl (by decide) (r_build (cs := [Value.int .i64 (0), Value.int .i64 (0), Value.int .i64 (0), Value.slice none 0 0, Value.bool (false)]) rfl (parts_ev hS rfl) (by kernel_rfl)) fun a hS => ?_
              refine st_val hS rfl rfl (by decide) (r_nilCheck rfl (hS.ev_ rfl)) fun a hS => ?_
              refine st_val hS rfl rfl (by decide) (r_fld_b rfl fo_43_0 (hS.ev_ rfl)) fun a hS => ?_
              replace hM := hM.pull 1 rfl rfl
              refine wl_cons rfl (e_store1 hM rfl ti_3 (hS.ev_ rfl) (hS.ev_ rfl) rfl (Nat.lt_of_lt_of_le (Nat.le_of_ble_eq_true rfl) (Nat.le_refl _)) fun w hM => ?_)
              have hM : Sat w0 w K (SP.blk g2 50 [Value.int .i64 (0), Value.int .i64 (p1.f_token.f_Kind), Value.int .i64 (p1.f_token.f_Code), Value.int .i64 (p1.f_token.f_Option), v3, Value.bool (p1.f_token.f_Cut), w5, w6] :: SP.blk g10 30 [Value.int .i64 (1), Value.int .i64 (b8 p7), Value.int .i64 (0), Value.slice none 0 0, Value.bool (false)] :: SP.blk g8 30 [Value.int .i64 (0), Value.int .i64 (0), Value.int .i64 (0), Value.slice none 0 0, Value.bool (false)] :: SP.row Kd.u8 5 v3 p1.f_token.f_Body :: L) := hM
              refine pl0 hS rfl fun a hS => ?_
              refine st_val hS rfl rfl (by decide) (r_nilCheck rfl (hS.ev_ rfl)) fun a hS => ?_
              refine st_val hS rfl rfl (by decide) (r_fld_b rfl fo_43_1 (hS.ev_ rfl)) fun a hS => ?_
              refine wl_cons rfl (e_storeN (vs := [Value.int .i64 (0), Value.int .i64 (0), Value.int .i64 (0), Value.slice none 0 0, Value.bool (false)]) hM rfl ti_30 (hS.ev_ rfl) (hS.ev_ rfl) (ones_cons rfl (ones_cons rfl (ones_cons rfl (ones_cons rfl (ones_cons rfl ones_nil))))) (Nat.le_of_ble_eq_true rfl) fun w hM => ?_)
              have hM : Sat w0 w K (SP.blk g2 50 [Value.int .i64 (0), Value.int .i64 (0), Value.int .i64 (0), Value.int .i64 (0), Value.slice none 0 0, Value.bool (false), w5, w6] :: SP.blk g10 30 [Value.int .i64 (1), Value.int .i64 (b8 p7), Value.int .i64 (0), Value.slice none 0 0, Value.bool (false)] :: SP.blk g8 30 [Value.int .i64 (0), Value.int .i64 (0), Value.int .i64 (0), Value.slice none 0 0, Value.bool (false)] :: SP.row Kd.u8 5 v3 p1.f_token.f_Body :: L) := hM
              refine pl0 hS rfl fun a hS => ?_
              refine st_done ?_
              replace hS : Slots 113 [] a [(6, Value.pointer (some ⟨g10, 0, none⟩)), (5, Value.bool (false)), (4, Value.pointer (some ⟨g8, 0, none⟩)), (0, Value.pointer (some ⟨g2, 0, none⟩)), (1, Value.int .u8 (b8 (p7)))] := (hS.part (.cons rfl (.cons rfl (.cons rfl (.cons rfl (.cons rfl (.nil _)))))))
              refine x_then ?_
              refine c_scp_seq ?_
              refine wp_region_lit ?_
              replace hM := hM.pull 1 rfl rfl
              refine st_val hS rfl rfl (by decide) (r_ldN_b (cs' := [Value.int .i64 (1), Value.int .i64 (b8 p7), Value.int .i64 (0), Value.slice none 0 0, Value.bool (false)]) rfl ag_30 ti_30 (hS.ev_ rfl) rfl (Rd.of hM)) fun a hS => ?_
              replace hM := hM.pull 2 rfl rfl
              refine wl_cons rfl (e_storeN (vs := [Value.int .i64 (1), Value.int .i64 (b8 p7), Value.int .i64 (0), Value.slice none 0 0, Value.bool (false)]) hM rfl ti_30 (hS.ev_ rfl) (hS.ev_ rfl) (ones_cons rfl (ones_cons rfl (ones_cons rfl (ones_cons rfl (ones_cons rfl ones_nil))))) (Nat.le_of_ble_eq_true rfl) fun w hM => ?_)
              have hM : Sat w0 w K (SP.blk g8 30 [Value.int .i64 (1), Value.int .i64 (b8 p7), Value.int .i64 (0), Value.slice none 0 0, Value.bool (false)] :: SP.blk g10 30 [Value.int .i64 (1), Value.int .i64 (b8 p7), Value.int .i64 (0), Value.slice none 0 0, Value.bool (false)] :: SP.blk g2 50 [Value.int .i64 (0), Value.int .i64 (0), Value.int .i64 (0), Value.int .i64 (0), Value.slice none 0 0, Value.bool (false), w5, w6] :: SP.row Kd.u8 5 v3 p1.f_token.f_Body :: L) := hM
              refine pl0 hS rfl fun a hS => ?_
              refine st_val hS rfl rfl (by decide) (r_assign rfl (hS.ev_ rfl)) fun a hS => ?_
              refine st_done ?_
              replace hS : Slots 113 [] a [(5, Value.bool (true)), (6, Value.pointer (some ⟨g10, 0, none⟩)), (4, Value.pointer (some ⟨g8, 0, none⟩)), (0, Value.pointer (some ⟨g2, 0, none⟩)), (1, Value.int .u8 (b8 (p7)))] := (hS.part (.cons rfl (.cons rfl (.cons rfl (.cons rfl (.cons rfl (.nil _)))))))
              refine x_then ?_
              refine c_scp ?_
              refine wp_ret ?_
              refine x_scope_ret ?_
              replace hM := hM.row_nil Kd.u8 5
              have hr' := Option.some.inj h
              subst hr'
              refine retR2 (.inr rfl) hS rfl ⟨_, rfl, lv_N (cs' := [Value.int .i64 (1), Value.int .i64 (b8 p7), Value.int .i64 (0), Value.slice none 0 0, Value.bool (false)]) (hM.pull 1 rfl rfl) ag_30 ti_30 rfl⟩ (show Sl.look _ _ = some (Value.bool (true)) from rfl) ?_
              exact ⟨K, (Value.slice none 0 0), ((Value.slice none 0 0)), (Hp.le.refl _), ((((hM.pull 1 rfl rfl).tail.pull 1 rfl rfl).tail.pull 2 rfl rfl).tail.pull 1 rfl rfl), rfl, (Kd.sl_nil _ _)⟩

end Go.Proofs.YtnohihhjjpabjaaDoor
