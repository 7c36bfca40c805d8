/-
  What the code computes: plain functions, and the walks.: the walks, part 1.
-/
import Derived.Test.YthjfnknhcmhmiaaDoorBL
set_option linter.unusedVariables false
set_option linter.unusedSimpArgs false
set_option maxRecDepth 10000
set_option maxHeartbeats 1000000
set_option synthInstance.maxHeartbeats 400000
set_option synthInstance.maxSize 2000
namespace Go.Proofs.YthjfnknhcmhmiaaDoor
open Go Go.RowKit Sl

theorem unicode_utf8_RuneCountInString_c {w0 w : World} {K : Hp} {L : List SP} {p1 : List UInt8} {r : Int} (hG : Glob w0) (h : unicode_utf8_RuneCountInString p1 = some r) (hM : Sat w0 w K (L)) :
    Calls Tryd.prog 55 #[strV (p1)] w (fun e w' => ∃ (K' : Hp), Hp.le K K' ∧ Sat w0 w' K' (L) ∧ e = .returned (Value.int .i64 (r))) := by
  refine enter_ (n := 10) (args := [strV (p1)]) Tryd.func55 rfl rfl (Nat.le_of_ble_eq_true rfl) fun a hS => ?_
  replace hS : Slots 10 [] a [(0, strV (p1))] := hS
  unfold unicode_utf8_RuneCountInString at h
  refine wp_seq ?_
  refine wp_region_lit ?_
  refine st_val hS rfl rfl (by decide) (r_assign rfl (hS.ev_ rfl)) fun a hS => ?_
  refine st_done ?_
  replace hS : Slots 10 [] a [(2, Value.int .i64 (0)), (0, strV (p1))] := (hS.part (.cons rfl (.cons rfl (.nil _))))
  refine x_then ?_
  refine wp_seq ?_
  refine wp_seq ?_
  refine wp_region_lit ?_
  refine st_val hS rfl rfl (by decide) (r_move rfl (hS.ev_ rfl)) fun a hS => ?_
  cases h

theorem unicode_utf8_decodeRuneInStringSlow_c {w0 w : World} {K : Hp} {L : List SP} {p1 : List UInt8} {r : Int × Int} (hG : Glob w0) (h : unicode_utf8_decodeRuneInStringSlow p1 = some r) (hM : Sat w0 w K (L)) :
    Calls Tryd.prog 68 #[strV (p1)] w (fun e w' => ∃ (K' : Hp), Hp.le K K' ∧ Sat w0 w' K' (L) ∧ e = .returned (Value.tuple #[Value.int .i32 (r.1), Value.int .i64 (r.2)])) := by
  refine enter_ (n := 117) (args := [strV (p1)]) Tryd.func68 rfl rfl (Nat.le_of_ble_eq_true rfl) fun a hS => ?_
  replace hS : Slots 117 [] a [(0, strV (p1))] := hS
  unfold unicode_utf8_decodeRuneInStringSlow at h
  refine wp_seq ?_
  refine wp_region_lit ?_
  refine st_val hS rfl rfl (by decide) (r_assign rfl (hS.ev_ rfl)) fun a hS => ?_
  refine st_val hS rfl rfl (by decide) (r_assign rfl (hS.ev_ rfl)) fun a hS => ?_
  refine st_done ?_
  replace hS : Slots 117 [] a [(3, Value.int .i64 (0)), (2, Value.int .i32 (0)), (0, strV (p1))] := (hS.part (.cons rfl (.cons rfl (.cons rfl (.nil _)))))
  refine x_then ?_
  refine wp_seq ?_
  refine wp_region_lit ?_
  refine st_val hS rfl rfl (by decide) (r_move rfl (hS.ev_ rfl)) fun a hS => ?_
  refine st_val hS rfl rfl (by decide) (r_len_str rfl un_9 (hS.ev_ rfl)) fun a hS => ?_
  refine st_val hS rfl rfl (by decide) (r_assign rfl (hS.ev_ rfl)) fun a hS => ?_
  refine st_done ?_
  replace hS : Slots 117 [] a [(4, Value.int .i64 ((p1.length : Int))), (3, Value.int .i64 (0)), (2, Value.int .i32 (0)), (0, strV (p1))] := (hS.part (.cons rfl (.cons rfl (.cons rfl (.cons rfl (.nil _))))))
  refine x_then ?_
  refine wp_seq ?_
  refine wp_seq ?_
  refine wp_region_lit ?_
  refine st_val hS rfl rfl (by decide) (r_move rfl (hS.ev_ rfl)) fun a hS => ?_
  refine st_val hS rfl rfl (by decide) (r_cmp rfl (hS.ev_ rfl) (hS.ev_ rfl) rfl) fun a hS => ?_
  refine st_done ?_
  replace hS : Slots 117 [] a [(16, Value.bool (decide (((p1.length : Int)) < 1))), (4, Value.int .i64 ((p1.length : Int))), (3, Value.int .i64 (0)), (2, Value.int .i32 (0)), (0, strV (p1))] := (hS.part (.cons rfl (.cons rfl (.cons rfl (.cons rfl (.cons rfl (.nil _)))))))
  refine x_then ?_
  rcases ifB h with ⟨hc2, h⟩ | ⟨hc2, h⟩
  · refine c_cond_true (hS.ev_ rfl) hc2 ?_
    refine wp_seq ?_
    refine wp_region_lit ?_
    refine st_val hS rfl rfl (by decide) (r_assign rfl (hS.ev_ rfl)) fun a hS => ?_
    refine st_val hS rfl rfl (by decide) (r_assign rfl (hS.ev_ rfl)) fun a hS => ?_
    refine st_done ?_
    replace hS : Slots 117 [] a [(3, Value.int .i64 (0)), (2, Value.int .i32 (65533)), (4, Value.int .i64 ((p1.length : Int))), (0, strV (p1))] := (hS.part (.cons rfl (.cons rfl (.cons rfl (.cons rfl (.nil _))))))
    refine x_then ?_
    refine wp_ret ?_
    refine x_then_ret ?_
    have hr' := Option.some.inj h
    subst hr'
    refine ret2 (.inr rfl) hS rfl rfl rfl ?_
    exact ⟨K, (Hp.le.refl _), hM, rfl⟩
  · refine c_cond_false (hS.ev_ rfl) hc2 ?_
    refine wp_skip ?_
    refine x_then ?_
    refine wp_seq ?_
    refine wp_region_lit ?_
    refine st_val hS rfl rfl (by decide) (r_move rfl (hS.ev_ rfl)) fun a hS => ?_
    obtain ⟨c3, h4, h⟩ := bindO h
    refine st_val hS rfl rfl (by decide) (r_index_s rfl un_9 (hS.ev_ rfl) (hS.ev_ rfl) h4) fun a hS => ?_
    refine st_val hS rfl rfl (by decide) (r_assign rfl (hS.ev_ rfl)) fun a hS => ?_
    refine st_done ?_
    replace hS : Slots 117 [] a [(5, Value.int .u8 (b8 (c3))), (4, Value.int .i64 ((p1.length : Int))), (3, Value.int .i64 (0)), (2, Value.int .i32 (0)), (0, strV (p1))] := (hS.part (.cons rfl (.cons rfl (.cons rfl (.cons rfl (.cons rfl (.nil _)))))))
    refine x_then ?_
    refine wp_seq ?_
    refine wp_region_lit ?_
    refine st_val hS rfl rfl (by decide) (r_move rfl (hS.ev_ rfl)) fun a hS => ?_
    cases h

theorem unicode_utf8_DecodeRuneInString_c {w0 w : World} {K : Hp} {L : List SP} {p1 : List UInt8} {r : Int × Int} (hG : Glob w0) (h : unicode_utf8_DecodeRuneInString p1 = some r) (hM : Sat w0 w K (L)) :
    Calls Tryd.prog 56 #[strV (p1)] w (fun e w' => ∃ (K' : Hp), Hp.le K K' ∧ Sat w0 w' K' (L) ∧ e = .returned (Value.tuple #[Value.int .i32 (r.1), Value.int .i64 (r.2)])) := by
  refine enter_ (n := 19) (args := [strV (p1)]) Tryd.func56 rfl rfl (Nat.le_of_ble_eq_true rfl) fun a hS => ?_
  replace hS : Slots 19 [] a [(0, strV (p1))] := hS
  unfold unicode_utf8_DecodeRuneInString at h
  refine wp_seq ?_
  refine wp_region_lit ?_
  refine st_val hS rfl rfl (by decide) (r_assign rfl (hS.ev_ rfl)) fun a hS => ?_
  refine st_val hS rfl rfl (by decide) (r_assign rfl (hS.ev_ rfl)) fun a hS => ?_
  refine st_done ?_
  replace hS : Slots 19 [] a [(3, Value.int .i64 (0)), (2, Value.int .i32 (0)), (0, strV (p1))] := (hS.part (.cons rfl (.cons rfl (.cons rfl (.nil _)))))
  refine x_then ?_
  refine wp_seq ?_
  refine wp_seq ?_
  refine wp_region_lit ?_
  refine st_val hS rfl rfl (by decide) (r_move rfl (hS.ev_ rfl)) fun a hS => ?_
  refine st_val hS rfl rfl (by decide) (r_sne rfl (hS.ev_ rfl) (hS.ev_ (v := strV (([] : List UInt8))) rfl)) fun a hS => ?_
  refine st_val hS rfl rfl (by decide) (r_move rfl (hS.ev_ rfl)) fun a hS => ?_
  obtain ⟨x2, h3, h⟩ := bindO h
  refine wl_cut 4 (fun a w => Slots 19 [] a [(0, strV (p1)), (2, Value.int .i32 (0)), (3, Value.int .i64 (0)), (10, Value.bool (x2))] ∧ Sat w0 w K (L)) ?_ ?_
  ·
    skip
    rcases ifB h3 with ⟨hc4, h3⟩ | ⟨hc4, h3⟩
    ·
      replace hS := hS.known (k := 6) rfl hc4
      refine st_want hS rfl rfl rfl rfl rfl (by decide) (r_move rfl (hS.ev_ rfl)) fun a hS => ?_
      obtain ⟨c5, h6, h3⟩ := bindO h3
      refine st_want hS rfl rfl rfl rfl rfl (by decide) (r_index_s rfl un_9 (hS.ev_ rfl) (hS.ev_ rfl) h6) fun a hS => ?_
      refine st_want hS rfl rfl rfl rfl rfl (by decide) (r_cmp8 rfl (hS.ev_ rfl) (hS.ev_ (v := Value.int .u8 (b8 (128))) rfl) rfl) fun a hS => ?_
      refine st_val hS rfl rfl (by decide) (r_pick_true rfl (hS.ev_ rfl) rfl (hS.ev_ rfl)) fun a hS => ?_
      refine st_done ?_
      replace hS : Slots 19 [] a [(10, Value.bool (decide (c5 < 128))), (3, Value.int .i64 (0)), (2, Value.int .i32 (0)), (0, strV (p1))] := (hS.part (.cons rfl (.cons rfl (.cons rfl (.cons rfl (.nil _))))))
      refine x_then ?_
      obtain rfl := Option.some.inj h3
      exact ⟨(hS.part (.cons rfl (.cons rfl (.cons rfl (.cons rfl (.nil _)))))), hM⟩
    ·
      replace hS := hS.known (k := 6) rfl hc4
      refine st_off hS rfl rfl rfl rfl rfl rfl (by decide) fun a hS => ?_
      refine st_off hS rfl rfl rfl rfl rfl rfl (by decide) fun a hS => ?_
      refine st_off hS rfl rfl rfl rfl rfl rfl (by decide) fun a hS => ?_
      refine st_val hS rfl rfl (by decide) (r_pick_false rfl (hS.ev_ rfl) rfl (hS.ev_ rfl)) fun a hS => ?_
      refine st_done ?_
      replace hS : Slots 19 [] a [(10, Value.bool (false)), (3, Value.int .i64 (0)), (2, Value.int .i32 (0)), (0, strV (p1))] := (hS.part (.cons rfl (.cons rfl (.cons rfl (.cons rfl (.nil _))))))
      refine x_then ?_
      obtain rfl := Option.some.inj h3
      exact ⟨(hS.part (.cons rfl (.cons rfl (.cons rfl (.cons rfl (.nil _)))))), hM⟩
  · rintro a w ⟨hS, hM⟩
    refine st_done ?_
    replace hS : Slots 19 [] a [(0, strV (p1)), (2, Value.int .i32 (0)), (3, Value.int .i64 (0)), (10, Value.bool (x2))] := (hS.part (.cons rfl (.cons rfl (.cons rfl (.cons rfl (.nil _))))))
    refine x_then ?_
    rcases ifB h with ⟨hc7, h⟩ | ⟨hc7, h⟩
    · refine c_cond_true (hS.ev_ rfl) hc7 ?_
      refine wp_seq ?_
      refine wp_region_lit ?_
      refine st_val hS rfl rfl (by decide) (r_move rfl (hS.ev_ rfl)) fun a hS => ?_
      obtain ⟨c8, h9, h⟩ := bindO h
      refine st_val hS rfl rfl (by decide) (r_index_s rfl un_9 (hS.ev_ rfl) (hS.ev_ rfl) h9) fun a hS => ?_
      refine st_val hS rfl rfl (by decide) (r_conv_int rfl un_5 un_21 (hS.ev_ rfl)) fun a hS => ?_
      refine st_val hS rfl rfl (by decide) (r_assign rfl (hS.ev_ rfl)) fun a hS => ?_
      refine st_val hS rfl rfl (by decide) (r_assign rfl (hS.ev_ rfl)) fun a hS => ?_
      refine st_done ?_
      replace hS : Slots 19 [] a [(3, Value.int .i64 (1)), (2, Value.int .i32 (IntKind.i32.wrap (b8 c8)))] := (hS.part (.cons rfl (.cons rfl (.nil _))))
      refine x_then ?_
      refine wp_ret ?_
      refine x_then_ret ?_
      have hr' := Option.some.inj h
      subst hr'
      refine ret2 (.inr rfl) hS rfl rfl rfl ?_
      exact ⟨K, (Hp.le.refl _), hM, rfl⟩
    · refine c_cond_false (hS.ev_ rfl) hc7 ?_
      refine wp_region_lit ?_
      refine st_val hS rfl rfl (by decide) (r_move rfl (hS.ev_ rfl)) fun a hS => ?_
      obtain ⟨y10, h11, h⟩ := bindO h
      have hc13 := unicode_utf8_decodeRuneInStringSlow_c hG h11 hM
      refine wl_cons rfl (e_call rfl Tryd.func68 rfl rfl (args1 (hS.ev_ rfl)) hc13 ?_)
      rintro _ w ⟨K12, hlK12, hM, rfl⟩
      refine ⟨_, rfl, ?_⟩
      refine pl hS rfl (by decide) fun a hS => ?_
      refine st_val hS rfl rfl (by decide) (r_move rfl (hS.ev_ rfl)) fun a hS => ?_
      refine st_val hS rfl rfl (by decide) (r_extract rfl (hS.ev_ rfl) rfl) fun a hS => ?_
      refine st_val hS rfl rfl (by decide) (r_extract rfl (hS.ev_ rfl) rfl) fun a hS => ?_
      refine st_val hS rfl rfl (by decide) (r_assign rfl (hS.ev_ rfl)) fun a hS => ?_
      refine st_val hS rfl rfl (by decide) (r_assign rfl (hS.ev_ rfl)) fun a hS => ?_
      refine st_done ?_
      replace hS : Slots 19 [] a [(3, Value.int .i64 (y10.2)), (2, Value.int .i32 (y10.1))] := (hS.part (.cons rfl (.cons rfl (.nil _))))
      refine x_then ?_
      refine wp_ret ?_
      have hr' := Option.some.inj h
      subst hr'
      refine ret2 (.inr rfl) hS rfl rfl rfl ?_
      exact ⟨K12, hlK12, hM, rfl⟩

theorem strings_explode_c {w0 w : World} {K : Hp} {L : List SP} {p1 : List UInt8} {p2 : Int} {r : List (List UInt8)} (hG : Glob w0) (h : strings_explode p1 p2 = some r) (hM : Sat w0 w K (L)) :
    Calls Tryd.prog 46 #[strV (p1), Value.int .i64 (p2)] w (fun e w' => ∃ (K' : Hp) (v'1 : Value), Hp.le K K' ∧ Sat w0 w' K' (L) ∧ e = .returned (v'1) ∧ Kd.str.sl K' v'1 r) := by
  refine enter_ (n := 50) (args := [strV (p1), Value.int .i64 (p2)]) Tryd.func46 rfl rfl (Nat.le_of_ble_eq_true rfl) fun a hS => ?_
  replace hS : Slots 50 [] a [(0, strV (p1)), (1, Value.int .i64 (p2))] := hS
  unfold strings_explode at h
  refine wp_seq ?_
  refine wp_region_lit ?_
  refine st_val hS rfl rfl (by decide) (r_assign rfl (hS.ev_ rfl)) fun a hS => ?_
  refine st_done ?_
  replace hS : Slots 50 [] a [(4, Value.slice none 0 0), (0, strV (p1)), (1, Value.int .i64 (p2))] := (hS.part (.cons rfl (.cons rfl (.cons rfl (.nil _)))))
  refine x_then ?_
  refine wp_seq ?_
  refine wp_region_lit ?_
  refine st_val hS rfl rfl (by decide) (r_move rfl (hS.ev_ rfl)) fun a hS => ?_
  obtain ⟨y3, h4, h⟩ := bindO h
  have hc6 := unicode_utf8_RuneCountInString_c hG h4 hM
  refine wl_cons rfl (e_call rfl Tryd.func55 rfl rfl (args1 (hS.ev_ rfl)) hc6 ?_)
  rintro _ w ⟨K5, hlK5, hM, rfl⟩
  refine ⟨_, rfl, ?_⟩
  refine pl hS rfl (by decide) fun a hS => ?_
  refine st_val hS rfl rfl (by decide) (r_assign rfl (hS.ev_ rfl)) fun a hS => ?_
  refine st_done ?_
  replace hS : Slots 50 [] a [(5, Value.int .i64 (y3)), (4, Value.slice none 0 0), (0, strV (p1)), (1, Value.int .i64 (p2))] := (hS.part (.cons rfl (.cons rfl (.cons rfl (.cons rfl (.nil _))))))
  refine x_then ?_
  obtain ⟨x7, h8, h⟩ := bindO h
  refine c_cut (fun a w => Slots 50 [] a [(0, strV (p1)), (4, Value.slice none 0 0), (1, Value.int .i64 (x7))] ∧ Sat w0 w K5 (L)) ?_ ?_
  ·
    refine wp_seq ?_
    refine wp_region_lit ?_
    refine st_val hS rfl rfl (by decide) (r_move rfl (hS.ev_ rfl)) fun a hS => ?_
    refine st_val hS rfl rfl (by decide) (r_cmp rfl (hS.ev_ rfl) (hS.ev_ rfl) rfl) fun a hS => ?_
    refine st_val hS rfl rfl (by decide) (r_move rfl (hS.ev_ rfl)) fun a hS => ?_
    obtain ⟨x9, h10, h8⟩ := bindO h8
    refine wl_cut 4 (fun a w => Slots 50 [] a [(0, strV (p1)), (1, Value.int .i64 (p2)), (4, Value.slice none 0 0), (5, Value.int .i64 (y3)), (18, Value.bool (x9))] ∧ Sat w0 w K5 (L)) ?_ ?_
    ·
      skip
      rcases ifB h10 with ⟨hc11, h10⟩ | ⟨hc11, h10⟩
      ·
        replace hS := hS.known (k := 14) rfl hc11
        refine st_off hS rfl rfl rfl rfl rfl rfl (by decide) fun a hS => ?_
        refine st_off hS rfl rfl rfl rfl rfl rfl (by decide) fun a hS => ?_
        refine st_off hS rfl rfl rfl rfl rfl rfl (by decide) fun a hS => ?_
        refine st_val hS rfl rfl (by decide) (r_pick_true rfl (hS.ev_ rfl) rfl (hS.ev_ rfl)) fun a hS => ?_
        refine st_done ?_
        replace hS : Slots 50 [] a [(18, Value.bool (true)), (5, Value.int .i64 (y3)), (4, Value.slice none 0 0), (0, strV (p1)), (1, Value.int .i64 (p2))] := (hS.part (.cons rfl (.cons rfl (.cons rfl (.cons rfl (.cons rfl (.nil _)))))))
        refine x_then ?_
        obtain rfl := Option.some.inj h10
        exact ⟨(hS.part (.cons rfl (.cons rfl (.cons rfl (.cons rfl (.cons rfl (.nil _))))))), hM⟩
      ·
        replace hS := hS.known (k := 14) rfl hc11
        refine st_want hS rfl rfl rfl rfl rfl (by decide) (r_move rfl (hS.ev_ rfl)) fun a hS => ?_
        refine st_want hS rfl rfl rfl rfl rfl (by decide) (r_move rfl (hS.ev_ rfl)) fun a hS => ?_
        refine st_want hS rfl rfl rfl rfl rfl (by decide) (r_cmp rfl (hS.ev_ rfl) (hS.ev_ rfl) rfl) fun a hS => ?_
        refine st_val hS rfl rfl (by decide) (r_pick_false rfl (hS.ev_ rfl) rfl (hS.ev_ rfl)) fun a hS => ?_
        refine st_done ?_
        replace hS : Slots 50 [] a [(18, Value.bool (decide (p2 > y3))), (5, Value.int .i64 (y3)), (4, Value.slice none 0 0), (0, strV (p1)), (1, Value.int .i64 (p2))] := (hS.part (.cons rfl (.cons rfl (.cons rfl (.cons rfl (.cons rfl (.nil _)))))))
        refine x_then ?_
        obtain rfl := Option.some.inj h10
        exact ⟨(hS.part (.cons rfl (.cons rfl (.cons rfl (.cons rfl (.cons rfl (.nil _))))))), hM⟩
    · rintro a w ⟨hS, hM⟩
      refine st_done ?_
      replace hS : Slots 50 [] a [(0, strV (p1)), (1, Value.int .i64 (p2)), (4, Value.slice none 0 0), (5, Value.int .i64 (y3)), (18, Value.bool (x9))] := (hS.part (.cons rfl (.cons rfl (.cons rfl (.cons rfl (.cons rfl (.nil _)))))))
      refine x_then ?_
      rcases ifB h8 with ⟨hc12, h8⟩ | ⟨hc12, h8⟩
      · refine c_cond_true (hS.ev_ rfl) hc12 ?_
        refine wp_region_lit ?_
        refine st_val hS rfl rfl (by decide) (r_move rfl (hS.ev_ rfl)) fun a hS => ?_
        refine st_val hS rfl rfl (by decide) (r_assign rfl (hS.ev_ rfl)) fun a hS => ?_
        refine st_done ?_
        replace hS : Slots 50 [] a [(1, Value.int .i64 (y3)), (0, strV (p1)), (4, Value.slice none 0 0)] := (hS.part (.cons rfl (.cons rfl (.cons rfl (.nil _)))))
        refine x_then ?_
        obtain rfl := Option.some.inj h8
        exact ⟨(hS.part (.cons rfl (.cons rfl (.cons rfl (.nil _))))), hM⟩
      · refine c_cond_false (hS.ev_ rfl) hc12 ?_
        refine wp_skip ?_
        refine x_then ?_
        obtain rfl := Option.some.inj h8
        exact ⟨(hS.part (.cons rfl (.cons rfl (.cons rfl (.nil _))))), hM⟩
  · rintro a w ⟨hS, hM⟩
    refine wp_seq ?_
    refine wp_region_lit ?_
    refine st_val hS rfl rfl (by decide) (r_move rfl (hS.ev_ rfl)) fun a hS => ?_
    obtain ⟨h13, h⟩ := bindU h
    refine wl_cons rfl (e_make (d := Kd.str) (x0 := ([] : List UInt8)) (u := strV (([] : List UInt8))) hM rfl un_46 ti_9 rfl rfl rfl (hS.ev_ rfl) (hS.ev_ rfl) (req_some h13) fun v14 w hM => ?_)
    refine pl hS rfl (by decide) fun a hS => ?_
    refine st_val hS rfl rfl (by decide) (r_assign rfl (hS.ev_ rfl)) fun a hS => ?_
    refine st_done ?_
    replace hS : Slots 50 [] a [(6, v14), (0, strV (p1)), (4, Value.slice none 0 0), (1, Value.int .i64 (x7))] := (hS.part (.cons rfl (.cons rfl (.cons rfl (.cons rfl (.nil _))))))
    refine x_then ?_
    refine wp_seq ?_
    refine wp_seq ?_
    refine wp_region_lit ?_
    refine st_val hS rfl rfl (by decide) (r_assign rfl (hS.ev_ rfl)) fun a hS => ?_
    refine st_done ?_
    replace hS : Slots 50 [] a [(7, Value.int .i64 (0)), (6, v14), (0, strV (p1)), (4, Value.slice none 0 0), (1, Value.int .i64 (x7))] := (hS.part (.cons rfl (.cons rfl (.cons rfl (.cons rfl (.cons rfl (.nil _)))))))
    refine x_then ?_
    refine wp_block ?_
    obtain ⟨o25, h26, h⟩ := bindO h
    refine c_loop_ways (fun e a w => (e = .exit 0 ∧ ∃ (K27 : Hp), Hp.le K5 K27 ∧ Slots 50 [] a [(1, Value.int .i64 (x7)), (4, Value.slice none 0 0), (6, v14), (0, strV (o25.1))] ∧ Sat w0 w K27 (SP.row Kd.str 9 v14 o25.2 :: L))) ?_ ?_
    · intro c Q hc hQ
      have key : ∀ (x22 : Int) (x23 : List UInt8) (x24 : List (List UInt8)) (r' : (List UInt8) × (List (List UInt8))), strings_explode_l1 x7 x22 x23 x24 = some r' → r' = o25 → ∀ (K21 : Hp) (a : Act) (w : World), Hp.le K5 K21 → Slots 50 [] a [(7, Value.int .i64 (x22)), (6, v14), (0, strV (x23)), (4, Value.slice none 0 0), (1, Value.int .i64 (x7))] → Sat w0 w K21 (SP.row Kd.str 9 v14 x24 :: L) → Rnd Tryd.prog c Q a w := by
        refine strings_explode_l1.partial_correctness x7 _ ?_
        intro strings_explode_l1_rec ih x22 x23 x24 r' h hr K21  a w hlK21 hS hM 
        subst hc
        refine c_round ?_
        refine wp_seq ?_
        refine wp_seq ?_
        refine wp_region_lit ?_
        refine st_val hS rfl rfl (by decide) (r_move rfl (hS.ev_ rfl)) fun a hS => ?_
        refine st_val hS rfl rfl (by decide) (r_move rfl (hS.ev_ rfl)) fun a hS => ?_
        refine st_val hS rfl rfl (by decide) (r_sub rfl (hS.ev_ rfl) (hS.ev_ rfl)) fun a hS => ?_
        refine st_val hS rfl rfl (by decide) (r_cmp rfl (hS.ev_ rfl) (hS.ev_ rfl) rfl) fun a hS => ?_
        refine st_done ?_
        replace hS : Slots 50 [] a [(25, Value.bool (decide (x22 < (w64 (x7 - 1))))), (7, Value.int .i64 (x22)), (6, v14), (0, strV (x23)), (4, Value.slice none 0 0), (1, Value.int .i64 (x7))] := (hS.part (.cons rfl (.cons rfl (.cons rfl (.cons rfl (.cons rfl (.cons rfl (.nil _))))))))
        refine x_then ?_
        rcases ifB h with ⟨hc28, h⟩ | ⟨hc28, h⟩
        · refine c_cond_true (hS.ev_ rfl) hc28 ?_
          refine wp_skip ?_
          refine x_then ?_
          refine wp_seq ?_
          refine wp_block ?_
          refine wp_seq ?_
          refine wp_region_lit ?_
          refine st_val hS rfl rfl (by decide) (r_move rfl (hS.ev_ rfl)) fun a hS => ?_
          obtain ⟨y29, h30, h⟩ := bindO h
          have hc32 := unicode_utf8_DecodeRuneInString_c hG h30 hM
          refine wl_cons rfl (e_call rfl Tryd.func56 rfl rfl (args1 (hS.ev_ rfl)) hc32 ?_)
          rintro _ w ⟨K31, hlK31, hM, rfl⟩
          refine ⟨_, rfl, ?_⟩
          refine pl hS rfl (by decide) fun a hS => ?_
          refine st_val hS rfl rfl (by decide) (r_move rfl (hS.ev_ rfl)) fun a hS => ?_
          refine st_val hS rfl rfl (by decide) (r_extract rfl (hS.ev_ rfl) rfl) fun a hS => ?_
          refine st_val hS rfl rfl (by decide) (r_extract rfl (hS.ev_ rfl) rfl) fun a hS => ?_
          refine st_val hS rfl rfl (by decide) (r_assign rfl (hS.ev_ rfl)) fun a hS => ?_
          refine st_val hS rfl rfl (by decide) (r_assign rfl (hS.ev_ rfl)) fun a hS => ?_
          refine st_done ?_
          replace hS : Slots 50 [] a [(9, Value.int .i64 (y29.2)), (7, Value.int .i64 (x22)), (6, v14), (0, strV (x23)), (4, Value.slice none 0 0), (1, Value.int .i64 (x7))] := (hS.part (.cons rfl (.cons rfl (.cons rfl (.cons rfl (.cons rfl (.cons rfl (.nil _))))))))
          refine x_then ?_
          refine wp_seq ?_
          refine wp_region_lit ?_
          refine st_val hS rfl rfl (by decide) (r_move rfl (hS.ev_ rfl)) fun a hS => ?_
          refine st_val hS rfl rfl (by decide) (r_move rfl (hS.ev_ rfl)) fun a hS => ?_
          refine st_val hS rfl rfl (by decide) (r_move rfl (hS.ev_ rfl)) fun a hS => ?_
          refine st_val hS rfl rfl (by decide) (r_move rfl (hS.ev_ rfl)) fun a hS => ?_
          obtain ⟨s33, h34, h⟩ := bindO h
          refine st_val hS rfl rfl (by decide) (r_cut_s (k := .i64) rfl un_9 (hS.ev_ rfl) (.inr ⟨rfl, rfl⟩) (.inl (congrArg some (hS.ev_ rfl))) h34) fun a hS => ?_
          obtain ⟨e35, h36, h⟩ := bindO h
          obtain ⟨ad37, cp38, cs39, hv40, hr41, h0_42, h1_43, hq44⟩ := row_at hM h36 (by decide)
          refine st_val hS rfl rfl (by decide) (r_idx_sl rfl un_46 ti_9 (hS.ev_ rfl) hv40 (hS.ev_ rfl) h0_42 h1_43) fun a hS => ?_
          refine wl_cons rfl (e_store_o (x' := s33) (m := 0) hM rfl ti_9 hv40 (hS.ev_ rfl) h36 (hS.ev_ rfl) rfl (by decide) (fun _ hr => by obtain rfl := hr; rfl) fun w hM => ?_)
          refine pl0 hS rfl fun a hS => ?_
          refine st_done ?_
          replace hS : Slots 50 [] a [(9, Value.int .i64 (y29.2)), (7, Value.int .i64 (x22)), (6, v14), (0, strV (x23)), (4, Value.slice none 0 0), (1, Value.int .i64 (x7))] := (hS.part (.cons rfl (.cons rfl (.cons rfl (.cons rfl (.cons rfl (.cons rfl (.nil _))))))))
          refine x_then ?_
          refine wp_region_lit ?_
          refine st_val hS rfl rfl (by decide) (r_move rfl (hS.ev_ rfl)) fun a hS => ?_
          refine st_val hS rfl rfl (by decide) (r_move rfl (hS.ev_ rfl)) fun a hS => ?_
          obtain ⟨s45, h46, h⟩ := bindO h
          refine st_val hS rfl rfl (by decide) (r_cut_s (k' := .i64) rfl un_9 (hS.ev_ rfl) (.inl (congrArg some (hS.ev_ rfl))) (.inr ⟨rfl, rfl⟩) h46) fun a hS => ?_
          refine st_val hS rfl rfl (by decide) (r_assign rfl (hS.ev_ rfl)) fun a hS => ?_
          refine st_done ?_
          replace hS : Slots 50 [] a [(0, strV (s45)), (7, Value.int .i64 (x22)), (6, v14), (4, Value.slice none 0 0), (1, Value.int .i64 (x7))] := (hS.part (.cons rfl (.cons rfl (.cons rfl (.cons rfl (.cons rfl (.nil _)))))))
          refine x_block ?_
          refine x_then ?_
          refine wp_region_lit ?_
          refine st_val hS rfl rfl (by decide) (r_move rfl (hS.ev_ rfl)) fun a hS => ?_
          refine st_val hS rfl rfl (by decide) (r_add rfl (hS.ev_ rfl) (hS.ev_ rfl)) fun a hS => ?_
          refine st_val hS rfl rfl (by decide) (r_assign rfl (hS.ev_ rfl)) fun a hS => ?_
          refine st_done ?_
          replace hS : Slots 50 [] a [(7, Value.int .i64 (w64 (x22 + 1))), (0, strV (s45)), (6, v14), (4, Value.slice none 0 0), (1, Value.int .i64 (x7))] := (hS.part (.cons rfl (.cons rfl (.cons rfl (.cons rfl (.cons rfl (.nil _)))))))
          refine x_then ?_
          exact ih (w64 (x22 + 1)) s45 (x24.set x22.toNat s33) _ h hr K31 _ _ (hlK21.trans hlK31) (hS.part (.cons rfl (.cons rfl (.cons rfl (.cons rfl (.cons rfl (.nil _))))))) (hM)
        · refine c_cond_false (hS.ev_ rfl) hc28 ?_
          refine wp_exit ?_
          refine x_then_exit ?_
          refine x_then_exit ?_
          have ho' := (Option.some.inj h).trans hr
          refine hQ _ _ _ ?_
          subst ho'
          exact ⟨rfl, K21, hlK21, (hS.part (.cons rfl (.cons rfl (.cons rfl (.cons rfl (.nil _)))))), hM⟩
      exact key 0 p1 (List.replicate x7.toNat (([] : List UInt8) : List UInt8)) _ h26 rfl K5 _ _ (Hp.le.refl _) (hS.part (.cons rfl (.cons rfl (.cons rfl (.cons rfl (.cons rfl (.nil _))))))) (hM)
    · rintro e a w ⟨rfl, K27, hlK27, hS, hM⟩
      refine x_block_here ?_
      refine x_then ?_
      obtain ⟨x47, h48, h⟩ := bindO h
      refine c_cut (fun a w => Slots 50 [] a [(4, Value.slice none 0 0), (6, v14)] ∧ Sat w0 w K27 (SP.row Kd.str 9 v14 x47 :: L)) ?_ ?_
      ·
        refine wp_seq ?_
        refine wp_region_lit ?_
        refine st_val hS rfl rfl (by decide) (r_move rfl (hS.ev_ rfl)) fun a hS => ?_
        refine st_val hS rfl rfl (by decide) (r_cmp rfl (hS.ev_ rfl) (hS.ev_ rfl) rfl) fun a hS => ?_
        refine st_done ?_
        replace hS : Slots 50 [] a [(43, Value.bool (decide (x7 > 0))), (1, Value.int .i64 (x7)), (4, Value.slice none 0 0), (6, v14), (0, strV (o25.1))] := (hS.part (.cons rfl (.cons rfl (.cons rfl (.cons rfl (.cons rfl (.nil _)))))))
        refine x_then ?_
        rcases ifB h48 with ⟨hc49, h48⟩ | ⟨hc49, h48⟩
        · refine c_cond_true (hS.ev_ rfl) hc49 ?_
          refine wp_region_lit ?_
          refine st_val hS rfl rfl (by decide) (r_move rfl (hS.ev_ rfl)) fun a hS => ?_
          refine st_val hS rfl rfl (by decide) (r_move rfl (hS.ev_ rfl)) fun a hS => ?_
          refine st_val hS rfl rfl (by decide) (r_sub rfl (hS.ev_ rfl) (hS.ev_ rfl)) fun a hS => ?_
          refine st_val hS rfl rfl (by decide) (r_move rfl (hS.ev_ rfl)) fun a hS => ?_
          obtain ⟨e50, h51, h48⟩ := bindO h48
          obtain ⟨ad52, cp53, cs54, hv55, hr56, h0_57, h1_58, hq59⟩ := row_at hM h51 (by decide)
          refine st_val hS rfl rfl (by decide) (r_idx_sl rfl un_46 ti_9 (hS.ev_ rfl) hv55 (hS.ev_ rfl) h0_57 h1_58) fun a hS => ?_
          refine wl_cons rfl (e_store_o (x' := o25.1) (m := 0) hM rfl ti_9 hv55 (hS.ev_ rfl) h51 (hS.ev_ rfl) rfl (by decide) (fun _ hr => by obtain rfl := hr; rfl) fun w hM => ?_)
          refine pl0 hS rfl fun a hS => ?_
          refine st_done ?_
          replace hS : Slots 50 [] a [(4, Value.slice none 0 0), (6, v14)] := (hS.part (.cons rfl (.cons rfl (.nil _))))
          refine x_then ?_
          obtain rfl := Option.some.inj h48
          exact ⟨(hS.part (.cons rfl (.cons rfl (.nil _)))), hM⟩
        · refine c_cond_false (hS.ev_ rfl) hc49 ?_
          refine wp_skip ?_
          refine x_then ?_
          obtain rfl := Option.some.inj h48
          exact ⟨(hS.part (.cons rfl (.cons rfl (.nil _)))), hM⟩
      · rintro a w ⟨hS, hM⟩
        refine wp_seq ?_
        refine wp_region_lit ?_
        refine st_val hS rfl rfl (by decide) (r_move rfl (hS.ev_ rfl)) fun a hS => ?_
        refine st_val hS rfl rfl (by decide) (r_assign rfl (hS.ev_ rfl)) fun a hS => ?_
        refine st_done ?_
        replace hS : Slots 50 [] a [(4, v14)] := (hS.part (.cons rfl (.nil _)))
        refine x_then ?_
        refine wp_ret ?_
        obtain ⟨K60, hlK60, hM, f61⟩ := keep_row hM
        have hr' := Option.some.inj h
        subst hr'
        refine ret1 (.inr rfl) hS rfl rfl ?_
        exact ⟨K60, (v14), ((hlK5.trans hlK27).trans hlK60), hM, rfl, f61⟩

theorem internal_stringslite_IndexByte_c {w0 w : World} {K : Hp} {L : List SP} {p1 : List UInt8} {p2 : UInt8} {r : Int} (hG : Glob w0) (h : internal_stringslite_IndexByte p1 p2 = some r) (hM : Sat w0 w K (L)) :
    Calls Tryd.prog 65 #[strV (p1), Value.int .u8 (b8 (p2))] w (fun e w' => ∃ (K' : Hp), Hp.le K K' ∧ Sat w0 w' K' (L) ∧ e = .returned (Value.int .i64 (r))) := by
  refine enter_ (n := 8) (args := [strV (p1), Value.int .u8 (b8 (p2))]) Tryd.func65 rfl rfl (Nat.le_of_ble_eq_true rfl) fun a hS => ?_
  replace hS : Slots 8 [] a [(0, strV (p1)), (1, Value.int .u8 (b8 (p2)))] := hS
  unfold internal_stringslite_IndexByte at h
  refine wp_seq ?_
  refine wp_region_lit ?_
  refine st_val hS rfl rfl (by decide) (r_assign rfl (hS.ev_ rfl)) fun a hS => ?_
  refine st_done ?_
  replace hS : Slots 8 [] a [(4, Value.int .i64 (0)), (0, strV (p1)), (1, Value.int .u8 (b8 (p2)))] := (hS.part (.cons rfl (.cons rfl (.cons rfl (.nil _)))))
  refine x_then ?_
  refine wp_seq ?_
  refine wp_region_lit ?_
  refine st_val hS rfl rfl (by decide) (r_move rfl (hS.ev_ rfl)) fun a hS => ?_
  refine st_val hS rfl rfl (by decide) (r_move rfl (hS.ev_ rfl)) fun a hS => ?_
  refine st_val hS rfl rfl (by decide) (r_extern (vs := [strV (p1), Value.int .u8 (b8 (p2))]) (ex := Extern.BytealgIndexByte.indexByte) rfl Tryd.func78 rfl rfl (by kernel_rfl) (by kernel_rfl) (args2 (hS.ev_ rfl) (hS.ev_ rfl)) (x_indexByte _ _ _)) fun a hS => ?_
  refine st_val hS rfl rfl (by decide) (r_assign rfl (hS.ev_ rfl)) fun a hS => ?_
  refine st_done ?_
  replace hS : Slots 8 [] a [(4, Value.int .i64 (idxB p1 p2))] := (hS.part (.cons rfl (.nil _)))
  refine x_then ?_
  refine wp_ret ?_
  have hr' := Option.some.inj h
  subst hr'
  refine ret1 (.inr rfl) hS rfl rfl ?_
  exact ⟨K, (Hp.le.refl _), hM, rfl⟩

theorem internal_bytealg_Cutover_c {w0 w : World} {K : Hp} {L : List SP} {p1 : Int} {r : Int} (hG : Glob w0) (h : internal_bytealg_Cutover p1 = some r) (hM : Sat w0 w K (L)) :
    Calls Tryd.prog 70 #[Value.int .i64 (p1)] w (fun e w' => ∃ (K' : Hp), Hp.le K K' ∧ Sat w0 w' K' (L) ∧ e = .returned (Value.int .i64 (r))) := by
  refine enter_ (n := 6) (args := [Value.int .i64 (p1)]) Tryd.func70 rfl rfl (Nat.le_of_ble_eq_true rfl) fun a hS => ?_
  replace hS : Slots 6 [] a [(0, Value.int .i64 (p1))] := hS
  unfold internal_bytealg_Cutover at h
  refine wp_seq ?_
  refine wp_region_lit ?_
  refine st_val hS rfl rfl (by decide) (r_assign rfl (hS.ev_ rfl)) fun a hS => ?_
  refine st_done ?_
  replace hS : Slots 6 [] a [(2, Value.int .i64 (0)), (0, Value.int .i64 (p1))] := (hS.part (.cons rfl (.cons rfl (.nil _))))
  refine x_then ?_
  refine wp_seq ?_
  refine wp_region_lit ?_
  refine st_val hS rfl rfl (by decide) (r_move rfl (hS.ev_ rfl)) fun a hS => ?_
  refine st_val hS rfl rfl (by decide) (r_add rfl (hS.ev_ rfl) (hS.ev_ rfl)) fun a hS => ?_
  obtain ⟨q2, h3, h⟩ := bindO h
  obtain ⟨h3n, h3e⟩ := iquo_some h3
  refine st_val hS rfl rfl (by decide) (h3e ▸ r_quo rfl (hS.ev_ rfl) (hS.ev_ rfl) h3n) fun a hS => ?_
  refine st_val hS rfl rfl (by decide) (r_assign rfl (hS.ev_ rfl)) fun a hS => ?_
  refine st_done ?_
  replace hS : Slots 6 [] a [(2, Value.int .i64 (q2))] := (hS.part (.cons rfl (.nil _)))
  refine x_then ?_
  refine wp_ret ?_
  have hr' := Option.some.inj h
  subst hr'
  refine ret1 (.inr rfl) hS rfl rfl ?_
  exact ⟨K, (Hp.le.refl _), hM, rfl⟩

theorem internal_bytealg_hashStr_string_c {w0 w : World} {K : Hp} {L : List SP} {p1 : List UInt8} {r : Int × Int} (hG : Glob w0) (h : internal_bytealg_hashStr_string p1 = some r) (hM : Sat w0 w K (L)) :
    Calls Tryd.prog 85 #[strV (p1)] w (fun e w' => ∃ (K' : Hp), Hp.le K K' ∧ Sat w0 w' K' (L) ∧ e = .returned (Value.tuple #[Value.int .u32 (r.1), Value.int .u32 (r.2)])) := by
  refine enter_ (n := 39) (args := [strV (p1)]) Tryd.func85 rfl rfl (Nat.le_of_ble_eq_true rfl) fun a hS => ?_
  replace hS : Slots 39 [] a [(0, strV (p1))] := hS
  unfold internal_bytealg_hashStr_string at h
  refine wp_seq ?_
  refine wp_region_lit ?_
  refine st_val hS rfl rfl (by decide) (r_assign rfl (hS.ev_ rfl)) fun a hS => ?_
  refine st_val hS rfl rfl (by decide) (r_assign rfl (hS.ev_ rfl)) fun a hS => ?_
  refine st_done ?_
  replace hS : Slots 39 [] a [(3, Value.int .u32 (0)), (2, Value.int .u32 (0)), (0, strV (p1))] := (hS.part (.cons rfl (.cons rfl (.cons rfl (.nil _)))))
  refine x_then ?_
  refine wp_seq ?_
  refine wp_region_lit ?_
  refine st_val hS rfl rfl (by decide) (r_assign rfl (hS.ev_ rfl)) fun a hS => ?_
  refine st_done ?_
  replace hS : Slots 39 [] a [(4, Value.int .u32 (0)), (3, Value.int .u32 (0)), (2, Value.int .u32 (0)), (0, strV (p1))] := (hS.part (.cons rfl (.cons rfl (.cons rfl (.cons rfl (.nil _))))))
  refine x_then ?_
  refine wp_seq ?_
  refine wp_seq ?_
  refine wp_region_lit ?_
  refine st_val hS rfl rfl (by decide) (r_assign rfl (hS.ev_ rfl)) fun a hS => ?_
  refine st_done ?_
  replace hS : Slots 39 [] a [(5, Value.int .i64 (0)), (4, Value.int .u32 (0)), (3, Value.int .u32 (0)), (2, Value.int .u32 (0)), (0, strV (p1))] := (hS.part (.cons rfl (.cons rfl (.cons rfl (.cons rfl (.cons rfl (.nil _)))))))
  refine x_then ?_
  refine wp_block ?_
  cases h

theorem internal_bytealg_IndexRabinKarp_string_c {w0 w : World} {K : Hp} {L : List SP} {p1 : List UInt8} {p2 : List UInt8} {r : Int} (hG : Glob w0) (h : internal_bytealg_IndexRabinKarp_string p1 p2 = some r) (hM : Sat w0 w K (L)) :
    Calls Tryd.prog 71 #[strV (p1), strV (p2)] w (fun e w' => ∃ (K' : Hp), Hp.le K K' ∧ Sat w0 w' K' (L) ∧ e = .returned (Value.int .i64 (r))) := by
  refine enter_ (n := 81) (args := [strV (p1), strV (p2)]) Tryd.func71 rfl rfl (Nat.le_of_ble_eq_true rfl) fun a hS => ?_
  replace hS : Slots 81 [] a [(0, strV (p1)), (1, strV (p2))] := hS
  unfold internal_bytealg_IndexRabinKarp_string at h
  refine wp_seq ?_
  refine wp_region_lit ?_
  refine st_val hS rfl rfl (by decide) (r_assign rfl (hS.ev_ rfl)) fun a hS => ?_
  refine st_done ?_
  replace hS : Slots 81 [] a [(4, Value.int .i64 (0)), (0, strV (p1)), (1, strV (p2))] := (hS.part (.cons rfl (.cons rfl (.cons rfl (.nil _)))))
  refine x_then ?_
  refine wp_seq ?_
  refine wp_region_lit ?_
  refine st_val hS rfl rfl (by decide) (r_move rfl (hS.ev_ rfl)) fun a hS => ?_
  obtain ⟨y3, h4, h⟩ := bindO h
  have hc6 := internal_bytealg_hashStr_string_c hG h4 hM
  refine wl_cons rfl (e_call rfl Tryd.func85 rfl rfl (args1 (hS.ev_ rfl)) hc6 ?_)
  rintro _ w ⟨K5, hlK5, hM, rfl⟩
  refine ⟨_, rfl, ?_⟩
  refine pl hS rfl (by decide) fun a hS => ?_
  refine st_val hS rfl rfl (by decide) (r_move rfl (hS.ev_ rfl)) fun a hS => ?_
  refine st_val hS rfl rfl (by decide) (r_extract rfl (hS.ev_ rfl) rfl) fun a hS => ?_
  refine st_val hS rfl rfl (by decide) (r_extract rfl (hS.ev_ rfl) rfl) fun a hS => ?_
  refine st_val hS rfl rfl (by decide) (r_assign rfl (hS.ev_ rfl)) fun a hS => ?_
  refine st_val hS rfl rfl (by decide) (r_assign rfl (hS.ev_ rfl)) fun a hS => ?_
  refine st_done ?_
  replace hS : Slots 81 [] a [(6, Value.int .u32 (y3.2)), (5, Value.int .u32 (y3.1)), (4, Value.int .i64 (0)), (0, strV (p1)), (1, strV (p2))] := (hS.part (.cons rfl (.cons rfl (.cons rfl (.cons rfl (.cons rfl (.nil _)))))))
  refine x_then ?_
  refine wp_seq ?_
  refine wp_region_lit ?_
  refine st_val hS rfl rfl (by decide) (r_move rfl (hS.ev_ rfl)) fun a hS => ?_
  refine st_val hS rfl rfl (by decide) (r_len_str rfl un_9 (hS.ev_ rfl)) fun a hS => ?_
  refine st_val hS rfl rfl (by decide) (r_assign rfl (hS.ev_ rfl)) fun a hS => ?_
  refine st_done ?_
  replace hS : Slots 81 [] a [(7, Value.int .i64 ((p2.length : Int))), (6, Value.int .u32 (y3.2)), (5, Value.int .u32 (y3.1)), (4, Value.int .i64 (0)), (0, strV (p1)), (1, strV (p2))] := (hS.part (.cons rfl (.cons rfl (.cons rfl (.cons rfl (.cons rfl (.cons rfl (.nil _))))))))
  refine x_then ?_
  refine wp_seq ?_
  refine wp_region_lit ?_
  refine st_val hS rfl rfl (by decide) (r_assign rfl (hS.ev_ rfl)) fun a hS => ?_
  refine st_done ?_
  replace hS : Slots 81 [] a [(8, Value.int .u32 (0)), (7, Value.int .i64 ((p2.length : Int))), (6, Value.int .u32 (y3.2)), (5, Value.int .u32 (y3.1)), (4, Value.int .i64 (0)), (0, strV (p1)), (1, strV (p2))] := (hS.part (.cons rfl (.cons rfl (.cons rfl (.cons rfl (.cons rfl (.cons rfl (.cons rfl (.nil _)))))))))
  refine x_then ?_
  refine wp_seq ?_
  refine wp_seq ?_
  refine wp_region_lit ?_
  refine st_val hS rfl rfl (by decide) (r_assign rfl (hS.ev_ rfl)) fun a hS => ?_
  refine st_done ?_
  replace hS : Slots 81 [] a [(9, Value.int .i64 (0)), (8, Value.int .u32 (0)), (7, Value.int .i64 ((p2.length : Int))), (6, Value.int .u32 (y3.2)), (5, Value.int .u32 (y3.1)), (4, Value.int .i64 (0)), (0, strV (p1)), (1, strV (p2))] := (hS.part (.cons rfl (.cons rfl (.cons rfl (.cons rfl (.cons rfl (.cons rfl (.cons rfl (.cons rfl (.nil _))))))))))
  refine x_then ?_
  refine wp_block ?_
  cases h

theorem internal_stringslite_Index_c {w0 w : World} {K : Hp} {L : List SP} {p1 : List UInt8} {p2 : List UInt8} {r : Int} (hG : Glob w0) (h : internal_stringslite_Index p1 p2 = some r) (hM : Sat w0 w K (L)) :
    Calls Tryd.prog 58 #[strV (p1), strV (p2)] w (fun e w' => ∃ (K' : Hp), Hp.le K K' ∧ Sat w0 w' K' (L) ∧ e = .returned (Value.int .i64 (r))) := by
  refine enter_ (n := 143) (args := [strV (p1), strV (p2)]) Tryd.func58 rfl rfl (Nat.le_of_ble_eq_true rfl) fun a hS => ?_
  replace hS : Slots 143 [] a [(0, strV (p1)), (1, strV (p2))] := hS
  unfold internal_stringslite_Index at h
  refine wp_seq ?_
  refine wp_region_lit ?_
  refine st_val hS rfl rfl (by decide) (r_assign rfl (hS.ev_ rfl)) fun a hS => ?_
  refine st_done ?_
  replace hS : Slots 143 [] a [(4, Value.int .i64 (0)), (0, strV (p1)), (1, strV (p2))] := (hS.part (.cons rfl (.cons rfl (.cons rfl (.nil _)))))
  refine x_then ?_
  refine wp_seq ?_
  refine wp_region_lit ?_
  refine st_val hS rfl rfl (by decide) (r_move rfl (hS.ev_ rfl)) fun a hS => ?_
  refine st_val hS rfl rfl (by decide) (r_len_str rfl un_9 (hS.ev_ rfl)) fun a hS => ?_
  refine st_val hS rfl rfl (by decide) (r_assign rfl (hS.ev_ rfl)) fun a hS => ?_
  refine st_done ?_
  replace hS : Slots 143 [] a [(5, Value.int .i64 ((p2.length : Int))), (4, Value.int .i64 (0)), (0, strV (p1)), (1, strV (p2))] := (hS.part (.cons rfl (.cons rfl (.cons rfl (.cons rfl (.nil _))))))
  refine x_then ?_
  refine wp_seq ?_
  refine wp_block ?_
  refine wp_seq ?_
  refine wp_region_lit ?_
  refine st_val hS rfl rfl (by decide) (r_move rfl (hS.ev_ rfl)) fun a hS => ?_
  refine st_val hS rfl rfl (by decide) (r_cmp rfl (hS.ev_ rfl) (hS.ev_ rfl) rfl) fun a hS => ?_
  refine st_val hS rfl rfl (by decide) (r_move rfl (hS.ev_ rfl)) fun a hS => ?_
  obtain ⟨x3, h4, h⟩ := bindO h
  refine wl_cut 4 (fun a w => Slots 143 [] a [(0, strV (p1)), (1, strV (p2)), (4, Value.int .i64 (0)), (5, Value.int .i64 ((p2.length : Int))), (23, Value.bool (x3))] ∧ Sat w0 w K (L)) ?_ ?_
  ·
    skip
    rcases ifB h4 with ⟨hc5, h4⟩ | ⟨hc5, h4⟩
    ·
      replace hS := hS.known (k := 19) rfl hc5
      refine st_off hS rfl rfl rfl rfl rfl rfl (by decide) fun a hS => ?_
      refine st_off hS rfl rfl rfl rfl rfl rfl (by decide) fun a hS => ?_
      refine st_off hS rfl rfl rfl rfl rfl rfl (by decide) fun a hS => ?_
      refine st_val hS rfl rfl (by decide) (r_pick_true rfl (hS.ev_ rfl) rfl (hS.ev_ rfl)) fun a hS => ?_
      refine st_done ?_
      replace hS : Slots 143 [] a [(23, Value.bool (true)), (5, Value.int .i64 ((p2.length : Int))), (4, Value.int .i64 (0)), (0, strV (p1)), (1, strV (p2))] := (hS.part (.cons rfl (.cons rfl (.cons rfl (.cons rfl (.cons rfl (.nil _)))))))
      refine x_then ?_
      obtain rfl := Option.some.inj h4
      exact ⟨(hS.part (.cons rfl (.cons rfl (.cons rfl (.cons rfl (.cons rfl (.nil _))))))), hM⟩
    ·
      replace hS := hS.known (k := 19) rfl hc5
      refine st_want hS rfl rfl rfl rfl rfl (by decide) (r_move rfl (hS.ev_ rfl)) fun a hS => ?_
      refine st_want hS rfl rfl rfl rfl rfl (by decide) (r_move rfl (hS.ev_ rfl)) fun a hS => ?_
      refine st_want hS rfl rfl rfl rfl rfl (by decide) (r_seq rfl (hS.ev_ rfl) (hS.ev_ rfl)) fun a hS => ?_
      refine st_val hS rfl rfl (by decide) (r_pick_false rfl (hS.ev_ rfl) rfl (hS.ev_ rfl)) fun a hS => ?_
      refine st_done ?_
      replace hS : Slots 143 [] a [(23, Value.bool (p2 == p1)), (5, Value.int .i64 ((p2.length : Int))), (4, Value.int .i64 (0)), (0, strV (p1)), (1, strV (p2))] := (hS.part (.cons rfl (.cons rfl (.cons rfl (.cons rfl (.cons rfl (.nil _)))))))
      refine x_then ?_
      obtain rfl := Option.some.inj h4
      exact ⟨(hS.part (.cons rfl (.cons rfl (.cons rfl (.cons rfl (.cons rfl (.nil _))))))), hM⟩
  · rintro a w ⟨hS, hM⟩
    refine st_val hS rfl rfl (by decide) (r_assign rfl (hS.ev_ rfl)) fun a hS => ?_
    refine st_done ?_
    replace hS : Slots 143 [] a [(16, Value.bool (x3)), (0, strV (p1)), (1, strV (p2)), (4, Value.int .i64 (0)), (5, Value.int .i64 ((p2.length : Int)))] := (hS.part (.cons rfl (.cons rfl (.cons rfl (.cons rfl (.cons rfl (.nil _)))))))
    refine x_then ?_
    rcases ifB h with ⟨hc6, h⟩ | ⟨hc6, h⟩
    · refine c_cond_true (hS.ev_ rfl) hc6 ?_
      refine wp_seq ?_
      refine wp_region_lit ?_
      refine st_val hS rfl rfl (by decide) (r_assign rfl (hS.ev_ rfl)) fun a hS => ?_
      refine st_done ?_
      replace hS : Slots 143 [] a [(4, Value.int .i64 (0)), (0, strV (p1)), (1, strV (p2)), (5, Value.int .i64 ((p2.length : Int)))] := (hS.part (.cons rfl (.cons rfl (.cons rfl (.cons rfl (.nil _))))))
      refine x_then ?_
      refine wp_ret ?_
      refine x_block_ret ?_
      refine x_then_ret ?_
      have hr' := Option.some.inj h
      subst hr'
      refine ret1 (.inr rfl) hS rfl rfl ?_
      exact ⟨K, (Hp.le.refl _), hM, rfl⟩
    · refine c_cond_false (hS.ev_ rfl) hc6 ?_
      refine wp_seq ?_
      refine wp_region_lit ?_
      refine st_val hS rfl rfl (by decide) (r_move rfl (hS.ev_ rfl)) fun a hS => ?_
      refine st_val hS rfl rfl (by decide) (r_cmp rfl (hS.ev_ rfl) (hS.ev_ rfl) rfl) fun a hS => ?_
      refine st_val hS rfl rfl (by decide) (r_assign rfl (hS.ev_ rfl)) fun a hS => ?_
      refine st_done ?_
      replace hS : Slots 143 [] a [(24, Value.bool (((p2.length : Int)) == 1)), (0, strV (p1)), (1, strV (p2)), (4, Value.int .i64 (0)), (5, Value.int .i64 ((p2.length : Int)))] := (hS.part (.cons rfl (.cons rfl (.cons rfl (.cons rfl (.cons rfl (.nil _)))))))
      refine x_then ?_
      rcases ifB h with ⟨hc7, h⟩ | ⟨hc7, h⟩
      · refine c_cond_true (hS.ev_ rfl) hc7 ?_
        refine wp_seq ?_
        refine wp_region_lit ?_
        refine st_val hS rfl rfl (by decide) (r_move rfl (hS.ev_ rfl)) fun a hS => ?_
        refine st_val hS rfl rfl (by decide) (r_move rfl (hS.ev_ rfl)) fun a hS => ?_
        obtain ⟨c8, h9, h⟩ := bindO h
        refine st_val hS rfl rfl (by decide) (r_index_s rfl un_9 (hS.ev_ rfl) (hS.ev_ rfl) h9) fun a hS => ?_
        obtain ⟨y10, h11, h⟩ := bindO h
        have hc13 := internal_stringslite_IndexByte_c hG h11 hM
        refine wl_cons rfl (e_call rfl Tryd.func65 rfl rfl (args2 (hS.ev_ rfl) (hS.ev_ rfl)) hc13 ?_)
        rintro _ w ⟨K12, hlK12, hM, rfl⟩
        refine ⟨_, rfl, ?_⟩
        refine pl hS rfl (by decide) fun a hS => ?_
        refine st_val hS rfl rfl (by decide) (r_assign rfl (hS.ev_ rfl)) fun a hS => ?_
        refine st_done ?_
        replace hS : Slots 143 [] a [(4, Value.int .i64 (y10)), (0, strV (p1)), (1, strV (p2)), (5, Value.int .i64 ((p2.length : Int)))] := (hS.part (.cons rfl (.cons rfl (.cons rfl (.cons rfl (.nil _))))))
        refine x_then ?_
        refine wp_ret ?_
        refine x_block_ret ?_
        refine x_then_ret ?_
        have hr' := Option.some.inj h
        subst hr'
        refine ret1 (.inr rfl) hS rfl rfl ?_
        exact ⟨K12, hlK12, hM, rfl⟩
      · refine c_cond_false (hS.ev_ rfl) hc7 ?_
        refine wp_seq ?_
        refine wp_region_lit ?_
        refine st_val hS rfl rfl (by decide) (r_move rfl (hS.ev_ rfl)) fun a hS => ?_
        refine st_val hS rfl rfl (by decide) (r_move rfl (hS.ev_ rfl)) fun a hS => ?_
        refine st_val hS rfl rfl (by decide) (r_len_str rfl un_9 (hS.ev_ rfl)) fun a hS => ?_
        refine st_val hS rfl rfl (by decide) (r_cmp rfl (hS.ev_ rfl) (hS.ev_ rfl) rfl) fun a hS => ?_
        refine st_val hS rfl rfl (by decide) (r_assign rfl (hS.ev_ rfl)) fun a hS => ?_
        refine st_done ?_
        replace hS : Slots 143 [] a [(31, Value.bool (decide (((p2.length : Int)) ≥ ((p1.length : Int))))), (0, strV (p1)), (1, strV (p2)), (4, Value.int .i64 (0)), (5, Value.int .i64 ((p2.length : Int)))] := (hS.part (.cons rfl (.cons rfl (.cons rfl (.cons rfl (.cons rfl (.nil _)))))))
        refine x_then ?_
        rcases ifB h with ⟨hc14, h⟩ | ⟨hc14, h⟩
        · refine c_cond_true (hS.ev_ rfl) hc14 ?_
          refine wp_seq ?_
          refine wp_region_lit ?_
          refine st_val hS rfl rfl (by decide) (r_assign rfl (hS.ev_ rfl)) fun a hS => ?_
          refine st_done ?_
          replace hS : Slots 143 [] a [(4, Value.int .i64 ((-1))), (0, strV (p1)), (1, strV (p2)), (5, Value.int .i64 ((p2.length : Int)))] := (hS.part (.cons rfl (.cons rfl (.cons rfl (.cons rfl (.nil _))))))
          refine x_then ?_
          refine wp_ret ?_
          refine x_block_ret ?_
          refine x_then_ret ?_
          have hr' := Option.some.inj h
          subst hr'
          refine ret1 (.inr rfl) hS rfl rfl ?_
          exact ⟨K, (Hp.le.refl _), hM, rfl⟩
        · refine c_cond_false (hS.ev_ rfl) hc14 ?_
          refine wp_seq ?_
          refine wp_region_lit ?_
          refine st_val hS rfl rfl (by decide) (r_move rfl (hS.ev_ rfl)) fun a hS => ?_
          cases h

theorem strings_Index_c {w0 w : World} {K : Hp} {L : List SP} {p1 : List UInt8} {p2 : List UInt8} {r : Int} (hG : Glob w0) (h : strings_Index p1 p2 = some r) (hM : Sat w0 w K (L)) :
    Calls Tryd.prog 48 #[strV (p1), strV (p2)] w (fun e w' => ∃ (K' : Hp), Hp.le K K' ∧ Sat w0 w' K' (L) ∧ e = .returned (Value.int .i64 (r))) := by
  refine enter_ (n := 8) (args := [strV (p1), strV (p2)]) Tryd.func48 rfl rfl (Nat.le_of_ble_eq_true rfl) fun a hS => ?_
  replace hS : Slots 8 [] a [(0, strV (p1)), (1, strV (p2))] := hS
  unfold strings_Index at h
  refine wp_seq ?_
  refine wp_region_lit ?_
  refine st_val hS rfl rfl (by decide) (r_assign rfl (hS.ev_ rfl)) fun a hS => ?_
  refine st_done ?_
  replace hS : Slots 8 [] a [(4, Value.int .i64 (0)), (0, strV (p1)), (1, strV (p2))] := (hS.part (.cons rfl (.cons rfl (.cons rfl (.nil _)))))
  refine x_then ?_
  refine wp_seq ?_
  refine wp_region_lit ?_
  refine st_val hS rfl rfl (by decide) (r_move rfl (hS.ev_ rfl)) fun a hS => ?_
  refine st_val hS rfl rfl (by decide) (r_move rfl (hS.ev_ rfl)) fun a hS => ?_
  obtain ⟨y3, h4, h⟩ := bindO h
  have hc6 := internal_stringslite_Index_c hG h4 hM
  refine wl_cons rfl (e_call rfl Tryd.func58 rfl rfl (args2 (hS.ev_ rfl) (hS.ev_ rfl)) hc6 ?_)
  rintro _ w ⟨K5, hlK5, hM, rfl⟩
  refine ⟨_, rfl, ?_⟩
  refine pl hS rfl (by decide) fun a hS => ?_
  refine st_val hS rfl rfl (by decide) (r_assign rfl (hS.ev_ rfl)) fun a hS => ?_
  refine st_done ?_
  replace hS : Slots 8 [] a [(4, Value.int .i64 (y3))] := (hS.part (.cons rfl (.nil _)))
  refine x_then ?_
  refine wp_ret ?_
  have hr' := Option.some.inj h
  subst hr'
  refine ret1 (.inr rfl) hS rfl rfl ?_
  exact ⟨K5, hlK5, hM, rfl⟩

theorem strings_Count_c {w0 w : World} {K : Hp} {L : List SP} {p1 : List UInt8} {p2 : List UInt8} {r : Int} (hG : Glob w0) (h : strings_Count p1 p2 = some r) (hM : Sat w0 w K (L)) :
    Calls Tryd.prog 47 #[strV (p1), strV (p2)] w (fun e w' => ∃ (K' : Hp), Hp.le K K' ∧ Sat w0 w' K' (L) ∧ e = .returned (Value.int .i64 (r))) := by
  refine enter_ (n := 34) (args := [strV (p1), strV (p2)]) Tryd.func47 rfl rfl (Nat.le_of_ble_eq_true rfl) fun a hS => ?_
  replace hS : Slots 34 [] a [(0, strV (p1)), (1, strV (p2))] := hS
  unfold strings_Count at h
  refine wp_seq ?_
  refine wp_region_lit ?_
  refine st_val hS rfl rfl (by decide) (r_assign rfl (hS.ev_ rfl)) fun a hS => ?_
  refine st_done ?_
  replace hS : Slots 34 [] a [(4, Value.int .i64 (0)), (0, strV (p1)), (1, strV (p2))] := (hS.part (.cons rfl (.cons rfl (.cons rfl (.nil _)))))
  refine x_then ?_
  refine wp_seq ?_
  refine wp_seq ?_
  refine wp_region_lit ?_
  refine st_val hS rfl rfl (by decide) (r_move rfl (hS.ev_ rfl)) fun a hS => ?_
  refine st_val hS rfl rfl (by decide) (r_len_str rfl un_9 (hS.ev_ rfl)) fun a hS => ?_
  refine st_val hS rfl rfl (by decide) (r_cmp rfl (hS.ev_ rfl) (hS.ev_ rfl) rfl) fun a hS => ?_
  refine st_done ?_
  replace hS : Slots 34 [] a [(9, Value.bool (((p2.length : Int)) == 0)), (4, Value.int .i64 (0)), (0, strV (p1)), (1, strV (p2))] := (hS.part (.cons rfl (.cons rfl (.cons rfl (.cons rfl (.nil _))))))
  refine x_then ?_
  rcases ifB h with ⟨hc3, h⟩ | ⟨hc3, h⟩
  · refine c_cond_true (hS.ev_ rfl) hc3 ?_
    refine wp_seq ?_
    refine wp_region_lit ?_
    refine st_val hS rfl rfl (by decide) (r_move rfl (hS.ev_ rfl)) fun a hS => ?_
    obtain ⟨y4, h5, h⟩ := bindO h
    have hc7 := unicode_utf8_RuneCountInString_c hG h5 hM
    refine wl_cons rfl (e_call rfl Tryd.func55 rfl rfl (args1 (hS.ev_ rfl)) hc7 ?_)
    rintro _ w ⟨K6, hlK6, hM, rfl⟩
    refine ⟨_, rfl, ?_⟩
    refine pl hS rfl (by decide) fun a hS => ?_
    refine st_val hS rfl rfl (by decide) (r_add rfl (hS.ev_ rfl) (hS.ev_ rfl)) fun a hS => ?_
    refine st_val hS rfl rfl (by decide) (r_assign rfl (hS.ev_ rfl)) fun a hS => ?_
    refine st_done ?_
    replace hS : Slots 34 [] a [(4, Value.int .i64 (w64 (y4 + 1))), (0, strV (p1)), (1, strV (p2))] := (hS.part (.cons rfl (.cons rfl (.cons rfl (.nil _)))))
    refine x_then ?_
    refine wp_ret ?_
    refine x_then_ret ?_
    have hr' := Option.some.inj h
    subst hr'
    refine ret1 (.inr rfl) hS rfl rfl ?_
    exact ⟨K6, hlK6, hM, rfl⟩
  · refine c_cond_false (hS.ev_ rfl) hc3 ?_
    refine wp_skip ?_
    refine x_then ?_
    refine wp_seq ?_
    refine wp_seq ?_
    refine wp_region_lit ?_
    refine st_val hS rfl rfl (by decide) (r_move rfl (hS.ev_ rfl)) fun a hS => ?_
    refine st_val hS rfl rfl (by decide) (r_len_str rfl un_9 (hS.ev_ rfl)) fun a hS => ?_
    refine st_val hS rfl rfl (by decide) (r_cmp rfl (hS.ev_ rfl) (hS.ev_ rfl) rfl) fun a hS => ?_
    refine st_done ?_
    replace hS : Slots 34 [] a [(15, Value.bool (((p2.length : Int)) == 1)), (4, Value.int .i64 (0)), (0, strV (p1)), (1, strV (p2))] := (hS.part (.cons rfl (.cons rfl (.cons rfl (.cons rfl (.nil _))))))
    refine x_then ?_
    rcases ifB h with ⟨hc8, h⟩ | ⟨hc8, h⟩
    · refine c_cond_true (hS.ev_ rfl) hc8 ?_
      refine wp_seq ?_
      refine wp_region_lit ?_
      refine st_val hS rfl rfl (by decide) (r_move rfl (hS.ev_ rfl)) fun a hS => ?_
      refine st_val hS rfl rfl (by decide) (r_move rfl (hS.ev_ rfl)) fun a hS => ?_
      obtain ⟨c9, h10, h⟩ := bindO h
      refine st_val hS rfl rfl (by decide) (r_index_s rfl un_9 (hS.ev_ rfl) (hS.ev_ rfl) h10) fun a hS => ?_
      refine st_val hS rfl rfl (by decide) (r_extern (vs := [strV (p1), Value.int .u8 (b8 (c9))]) (ex := Extern.BytealgCount.count) rfl Tryd.func57 rfl rfl (by kernel_rfl) (by kernel_rfl) (args2 (hS.ev_ rfl) (hS.ev_ rfl)) (x_countStr _ _ _)) fun a hS => ?_
      refine st_val hS rfl rfl (by decide) (r_assign rfl (hS.ev_ rfl)) fun a hS => ?_
      refine st_done ?_
      replace hS : Slots 34 [] a [(4, Value.int .i64 (cntB p1 c9)), (0, strV (p1)), (1, strV (p2))] := (hS.part (.cons rfl (.cons rfl (.cons rfl (.nil _)))))
      refine x_then ?_
      refine wp_ret ?_
      refine x_then_ret ?_
      have hr' := Option.some.inj h
      subst hr'
      refine ret1 (.inr rfl) hS rfl rfl ?_
      exact ⟨K, (Hp.le.refl _), hM, rfl⟩
    · refine c_cond_false (hS.ev_ rfl) hc8 ?_
      refine wp_skip ?_
      refine x_then ?_
      refine wp_seq ?_
      refine wp_region_lit ?_
      refine st_val hS rfl rfl (by decide) (r_assign rfl (hS.ev_ rfl)) fun a hS => ?_
      refine st_done ?_
      replace hS : Slots 34 [] a [(5, Value.int .i64 (0)), (4, Value.int .i64 (0)), (0, strV (p1)), (1, strV (p2))] := (hS.part (.cons rfl (.cons rfl (.cons rfl (.cons rfl (.nil _))))))
      refine x_then ?_
      refine wp_block ?_
      obtain ⟨o18, h19, h⟩ := bindO h
      refine c_loop_ways (fun e a w => (e = .ret ∧ ∃ (K20 : Hp), Hp.le K K20 ∧ Slots 34 [] a [(4, Value.int .i64 (o18))] ∧ Sat w0 w K20 (L))) ?_ ?_
      · intro c Q hc hQ
        have key : ∀ (x16 : Int) (x17 : List UInt8) (r' : Int), strings_Count_l1 p2 x16 x17 = some r' → r' = o18 → ∀ (K15 : Hp) (a : Act) (w : World), Hp.le K K15 → Slots 34 [] a [(5, Value.int .i64 (x16)), (4, Value.int .i64 (0)), (0, strV (x17)), (1, strV (p2))] → Sat w0 w K15 (L) → Rnd Tryd.prog c Q a w := by
          refine strings_Count_l1.partial_correctness p2 _ ?_
          intro strings_Count_l1_rec ih x16 x17 r' h hr K15  a w hlK15 hS hM 
          subst hc
          refine c_round ?_
          refine wp_block ?_
          refine wp_seq ?_
          refine wp_region_lit ?_
          refine st_val hS rfl rfl (by decide) (r_move rfl (hS.ev_ rfl)) fun a hS => ?_
          refine st_val hS rfl rfl (by decide) (r_move rfl (hS.ev_ rfl)) fun a hS => ?_
          obtain ⟨y21, h22, h⟩ := bindO h
          have hc24 := strings_Index_c hG h22 hM
          refine wl_cons rfl (e_call rfl Tryd.func48 rfl rfl (args2 (hS.ev_ rfl) (hS.ev_ rfl)) hc24 ?_)
          rintro _ w ⟨K23, hlK23, hM, rfl⟩
          refine ⟨_, rfl, ?_⟩
          refine pl hS rfl (by decide) fun a hS => ?_
          refine st_val hS rfl rfl (by decide) (r_assign rfl (hS.ev_ rfl)) fun a hS => ?_
          refine st_done ?_
          replace hS : Slots 34 [] a [(6, Value.int .i64 (y21)), (5, Value.int .i64 (x16)), (4, Value.int .i64 (0)), (0, strV (x17)), (1, strV (p2))] := (hS.part (.cons rfl (.cons rfl (.cons rfl (.cons rfl (.cons rfl (.nil _)))))))
          refine x_then ?_
          refine wp_seq ?_
          refine wp_seq ?_
          refine wp_region_lit ?_
          refine st_val hS rfl rfl (by decide) (r_move rfl (hS.ev_ rfl)) fun a hS => ?_
          refine st_val hS rfl rfl (by decide) (r_cmp rfl (hS.ev_ rfl) (hS.ev_ rfl) rfl) fun a hS => ?_
          refine st_done ?_
          replace hS : Slots 34 [] a [(24, Value.bool (y21 == ((-1)))), (6, Value.int .i64 (y21)), (5, Value.int .i64 (x16)), (4, Value.int .i64 (0)), (0, strV (x17)), (1, strV (p2))] := (hS.part (.cons rfl (.cons rfl (.cons rfl (.cons rfl (.cons rfl (.cons rfl (.nil _))))))))
          refine x_then ?_
          rcases ifB h with ⟨hc25, h⟩ | ⟨hc25, h⟩
          · refine c_cond_true (hS.ev_ rfl) hc25 ?_
            refine wp_seq ?_
            refine wp_region_lit ?_
            refine st_val hS rfl rfl (by decide) (r_move rfl (hS.ev_ rfl)) fun a hS => ?_
            refine st_val hS rfl rfl (by decide) (r_assign rfl (hS.ev_ rfl)) fun a hS => ?_
            refine st_done ?_
            replace hS : Slots 34 [] a [(4, Value.int .i64 (x16)), (6, Value.int .i64 (y21)), (5, Value.int .i64 (x16)), (0, strV (x17)), (1, strV (p2))] := (hS.part (.cons rfl (.cons rfl (.cons rfl (.cons rfl (.cons rfl (.nil _)))))))
            refine x_then ?_
            refine wp_ret ?_
            refine x_then_ret ?_
            refine x_block_ret ?_
            refine x_then_ret ?_
            have ho' := (Option.some.inj h).trans hr
            refine hQ _ _ _ ?_
            subst ho'
            exact ⟨rfl, K23, (hlK15.trans hlK23), (hS.part (.cons rfl (.nil _))), hM⟩
          · refine c_cond_false (hS.ev_ rfl) hc25 ?_
            refine wp_skip ?_
            refine x_then ?_
            refine wp_seq ?_
            refine wp_region_lit ?_
            refine st_val hS rfl rfl (by decide) (r_move rfl (hS.ev_ rfl)) fun a hS => ?_
            refine st_val hS rfl rfl (by decide) (r_add rfl (hS.ev_ rfl) (hS.ev_ rfl)) fun a hS => ?_
            refine st_val hS rfl rfl (by decide) (r_assign rfl (hS.ev_ rfl)) fun a hS => ?_
            refine st_done ?_
            replace hS : Slots 34 [] a [(5, Value.int .i64 (w64 (x16 + 1))), (6, Value.int .i64 (y21)), (4, Value.int .i64 (0)), (0, strV (x17)), (1, strV (p2))] := (hS.part (.cons rfl (.cons rfl (.cons rfl (.cons rfl (.cons rfl (.nil _)))))))
            refine x_then ?_
            refine wp_region_lit ?_
            refine st_val hS rfl rfl (by decide) (r_move rfl (hS.ev_ rfl)) fun a hS => ?_
            refine st_val hS rfl rfl (by decide) (r_move rfl (hS.ev_ rfl)) fun a hS => ?_
            refine st_val hS rfl rfl (by decide) (r_move rfl (hS.ev_ rfl)) fun a hS => ?_
            refine st_val hS rfl rfl (by decide) (r_len_str rfl un_9 (hS.ev_ rfl)) fun a hS => ?_
            refine st_val hS rfl rfl (by decide) (r_add rfl (hS.ev_ rfl) (hS.ev_ rfl)) fun a hS => ?_
            obtain ⟨s26, h27, h⟩ := bindO h
            refine st_val hS rfl rfl (by decide) (r_cut_s (k' := .i64) rfl un_9 (hS.ev_ rfl) (.inl (congrArg some (hS.ev_ rfl))) (.inr ⟨rfl, rfl⟩) h27) fun a hS => ?_
            refine st_val hS rfl rfl (by decide) (r_assign rfl (hS.ev_ rfl)) fun a hS => ?_
            refine st_done ?_
            replace hS : Slots 34 [] a [(0, strV (s26)), (5, Value.int .i64 (w64 (x16 + 1))), (4, Value.int .i64 (0)), (1, strV (p2))] := (hS.part (.cons rfl (.cons rfl (.cons rfl (.cons rfl (.nil _))))))
            refine x_block ?_
            refine x_then ?_
            exact ih (w64 (x16 + 1)) s26 _ h hr K23 _ _ (hlK15.trans hlK23) (hS.part (.cons rfl (.cons rfl (.cons rfl (.cons rfl (.nil _)))))) (hM)
        exact key 0 p1 _ h19 rfl K _ _ (Hp.le.refl _) (hS.part (.cons rfl (.cons rfl (.cons rfl (.cons rfl (.nil _)))))) (hM)
      · rintro e a w ⟨rfl, K20, hlK20, hS, hM⟩
        refine x_block_ret ?_
        have hr' := Option.some.inj h
        subst hr'
        refine ret1 (.inr rfl) hS rfl rfl ?_
        exact ⟨K20, hlK20, hM, rfl⟩

theorem strings_genSplit_c {w0 w : World} {K : Hp} {L : List SP} {p1 : List UInt8} {p2 : List UInt8} {p3 : Int} {p4 : Int} {r : List (List UInt8)} (hG : Glob w0) (h : strings_genSplit p1 p2 p3 p4 = some r) (hM : Sat w0 w K (L)) :
    Calls Tryd.prog 36 #[strV (p1), strV (p2), Value.int .i64 (p3), Value.int .i64 (p4)] w (fun e w' => ∃ (K' : Hp) (v'1 : Value), Hp.le K K' ∧ Sat w0 w' K' (L) ∧ e = .returned (v'1) ∧ Kd.str.sl K' v'1 r) := by
  refine enter_ (n := 66) (args := [strV (p1), strV (p2), Value.int .i64 (p3), Value.int .i64 (p4)]) Tryd.func36 rfl rfl (Nat.le_of_ble_eq_true rfl) fun a hS => ?_
  replace hS : Slots 66 [] a [(0, strV (p1)), (1, strV (p2)), (2, Value.int .i64 (p3)), (3, Value.int .i64 (p4))] := hS
  unfold strings_genSplit at h
  refine wp_seq ?_
  refine wp_region_lit ?_
  refine st_val hS rfl rfl (by decide) (r_assign rfl (hS.ev_ rfl)) fun a hS => ?_
  refine st_done ?_
  replace hS : Slots 66 [] a [(8, Value.slice none 0 0), (0, strV (p1)), (1, strV (p2)), (2, Value.int .i64 (p3)), (3, Value.int .i64 (p4))] := (hS.part (.cons rfl (.cons rfl (.cons rfl (.cons rfl (.cons rfl (.nil _)))))))
  refine x_then ?_
  refine wp_seq ?_
  refine wp_seq ?_
  refine wp_region_lit ?_
  refine st_val hS rfl rfl (by decide) (r_move rfl (hS.ev_ rfl)) fun a hS => ?_
  refine st_val hS rfl rfl (by decide) (r_cmp rfl (hS.ev_ rfl) (hS.ev_ rfl) rfl) fun a hS => ?_
  refine st_done ?_
  replace hS : Slots 66 [] a [(13, Value.bool (p4 == 0)), (8, Value.slice none 0 0), (0, strV (p1)), (1, strV (p2)), (2, Value.int .i64 (p3)), (3, Value.int .i64 (p4))] := (hS.part (.cons rfl (.cons rfl (.cons rfl (.cons rfl (.cons rfl (.cons rfl (.nil _))))))))
  refine x_then ?_
  rcases ifB h with ⟨hc5, h⟩ | ⟨hc5, h⟩
  · refine c_cond_true (hS.ev_ rfl) hc5 ?_
    refine wp_seq ?_
    refine wp_region_lit ?_
    refine st_val hS rfl rfl (by decide) (r_assign rfl (hS.ev_ rfl)) fun a hS => ?_
    refine st_done ?_
    replace hS : Slots 66 [] a [(8, Value.slice none 0 0), (0, strV (p1)), (1, strV (p2)), (2, Value.int .i64 (p3)), (3, Value.int .i64 (p4))] := (hS.part (.cons rfl (.cons rfl (.cons rfl (.cons rfl (.cons rfl (.nil _)))))))
    refine x_then ?_
    refine wp_ret ?_
    refine x_then_ret ?_
    have hr' := Option.some.inj h
    subst hr'
    refine ret1 (.inr rfl) hS rfl rfl ?_
    exact ⟨K, (Value.slice none 0 0), (Hp.le.refl _), hM, rfl, (Kd.sl_nil _ _)⟩
  · refine c_cond_false (hS.ev_ rfl) hc5 ?_
    refine wp_skip ?_
    refine x_then ?_
    refine wp_seq ?_
    refine wp_seq ?_
    refine wp_region_lit ?_
    refine st_val hS rfl rfl (by decide) (r_move rfl (hS.ev_ rfl)) fun a hS => ?_
    refine st_val hS rfl rfl (by decide) (r_seq rfl (hS.ev_ rfl) (hS.ev_ (v := strV (([] : List UInt8))) rfl)) fun a hS => ?_
    refine st_done ?_
    replace hS : Slots 66 [] a [(15, Value.bool (p2 == ([] : List UInt8))), (8, Value.slice none 0 0), (0, strV (p1)), (1, strV (p2)), (2, Value.int .i64 (p3)), (3, Value.int .i64 (p4))] := (hS.part (.cons rfl (.cons rfl (.cons rfl (.cons rfl (.cons rfl (.cons rfl (.nil _))))))))
    refine x_then ?_
    rcases ifB h with ⟨hc6, h⟩ | ⟨hc6, h⟩
    · refine c_cond_true (hS.ev_ rfl) hc6 ?_
      refine wp_seq ?_
      refine wp_region_lit ?_
      refine st_val hS rfl rfl (by decide) (r_move rfl (hS.ev_ rfl)) fun a hS => ?_
      refine st_val hS rfl rfl (by decide) (r_move rfl (hS.ev_ rfl)) fun a hS => ?_
      obtain ⟨y7, h8, h⟩ := bindO h
      have hc10 := strings_explode_c hG h8 hM
      refine wl_cons rfl (e_call rfl Tryd.func46 rfl rfl (args2 (hS.ev_ rfl) (hS.ev_ rfl)) hc10 ?_)
      rintro _ w ⟨K9, v11, hlK9, hM, rfl, f12⟩
      refine ⟨_, rfl, ?_⟩
      refine pl hS rfl (by decide) fun a hS => ?_
      refine st_val hS rfl rfl (by decide) (r_assign rfl (hS.ev_ rfl)) fun a hS => ?_
      refine st_done ?_
      replace hS : Slots 66 [] a [(8, v11), (0, strV (p1)), (1, strV (p2)), (2, Value.int .i64 (p3)), (3, Value.int .i64 (p4))] := (hS.part (.cons rfl (.cons rfl (.cons rfl (.cons rfl (.cons rfl (.nil _)))))))
      refine x_then ?_
      refine wp_ret ?_
      refine x_then_ret ?_
      have hr' := Option.some.inj h
      subst hr'
      refine ret1 (.inr rfl) hS rfl rfl ?_
      exact ⟨K9, (v11), hlK9, hM, rfl, f12⟩
    · refine c_cond_false (hS.ev_ rfl) hc6 ?_
      refine wp_skip ?_
      refine x_then ?_
      obtain ⟨x14, h15, h⟩ := bindO h
      refine c_cut (fun a w => ∃ (K13 : Hp), Hp.le K K13 ∧ Slots 66 [] a [(0, strV (p1)), (1, strV (p2)), (2, Value.int .i64 (p3)), (8, Value.slice none 0 0), (3, Value.int .i64 (x14))] ∧ Sat w0 w K13 (L)) ?_ ?_
      ·
        refine wp_seq ?_
        refine wp_region_lit ?_
        refine st_val hS rfl rfl (by decide) (r_move rfl (hS.ev_ rfl)) fun a hS => ?_
        refine st_val hS rfl rfl (by decide) (r_cmp rfl (hS.ev_ rfl) (hS.ev_ rfl) rfl) fun a hS => ?_
        refine st_done ?_
        replace hS : Slots 66 [] a [(20, Value.bool (decide (p4 < 0))), (8, Value.slice none 0 0), (0, strV (p1)), (1, strV (p2)), (2, Value.int .i64 (p3)), (3, Value.int .i64 (p4))] := (hS.part (.cons rfl (.cons rfl (.cons rfl (.cons rfl (.cons rfl (.cons rfl (.nil _))))))))
        refine x_then ?_
        rcases ifB h15 with ⟨hc16, h15⟩ | ⟨hc16, h15⟩
        · refine c_cond_true (hS.ev_ rfl) hc16 ?_
          refine wp_region_lit ?_
          refine st_val hS rfl rfl (by decide) (r_move rfl (hS.ev_ rfl)) fun a hS => ?_
          refine st_val hS rfl rfl (by decide) (r_move rfl (hS.ev_ rfl)) fun a hS => ?_
          obtain ⟨y17, h18, h15⟩ := bindO h15
          have hc20 := strings_Count_c hG h18 hM
          refine wl_cons rfl (e_call rfl Tryd.func47 rfl rfl (args2 (hS.ev_ rfl) (hS.ev_ rfl)) hc20 ?_)
          rintro _ w ⟨K19, hlK19, hM, rfl⟩
          refine ⟨_, rfl, ?_⟩
          refine pl hS rfl (by decide) fun a hS => ?_
          refine st_val hS rfl rfl (by decide) (r_add rfl (hS.ev_ rfl) (hS.ev_ rfl)) fun a hS => ?_
          refine st_val hS rfl rfl (by decide) (r_assign rfl (hS.ev_ rfl)) fun a hS => ?_
          refine st_done ?_
          replace hS : Slots 66 [] a [(3, Value.int .i64 (w64 (y17 + 1))), (8, Value.slice none 0 0), (0, strV (p1)), (1, strV (p2)), (2, Value.int .i64 (p3))] := (hS.part (.cons rfl (.cons rfl (.cons rfl (.cons rfl (.cons rfl (.nil _)))))))
          refine x_then ?_
          obtain rfl := Option.some.inj h15
          exact ⟨K19, hlK19, (hS.part (.cons rfl (.cons rfl (.cons rfl (.cons rfl (.cons rfl (.nil _))))))), hM⟩
        · refine c_cond_false (hS.ev_ rfl) hc16 ?_
          refine wp_skip ?_
          refine x_then ?_
          obtain rfl := Option.some.inj h15
          exact ⟨K, (Hp.le.refl _), (hS.part (.cons rfl (.cons rfl (.cons rfl (.cons rfl (.cons rfl (.nil _))))))), hM⟩
      · rintro a w ⟨K13, hlK13, hS, hM⟩
        refine wp_seq ?_
        refine wp_region_lit ?_
        refine st_val hS rfl rfl (by decide) (r_move rfl (hS.ev_ rfl)) fun a hS => ?_
        refine st_val hS rfl rfl (by decide) (r_move rfl (hS.ev_ rfl)) fun a hS => ?_
        refine st_val hS rfl rfl (by decide) (r_len_str rfl un_9 (hS.ev_ rfl)) fun a hS => ?_
        refine st_val hS rfl rfl (by decide) (r_add rfl (hS.ev_ rfl) (hS.ev_ rfl)) fun a hS => ?_
        refine st_val hS rfl rfl (by decide) (r_min rfl (hS.ev_ rfl) (hS.ev_ rfl)) fun a hS => ?_
        refine st_val hS rfl rfl (by decide) (r_assign rfl (hS.ev_ rfl)) fun a hS => ?_
        refine st_done ?_
        replace hS : Slots 66 [] a [(3, Value.int .i64 (if w64 (((p1.length : Int)) + 1) < x14 then w64 (((p1.length : Int)) + 1) else x14)), (0, strV (p1)), (1, strV (p2)), (2, Value.int .i64 (p3)), (8, Value.slice none 0 0)] := (hS.part (.cons rfl (.cons rfl (.cons rfl (.cons rfl (.cons rfl (.nil _)))))))
        refine x_then ?_
        refine wp_seq ?_
        refine wp_region_lit ?_
        refine st_val hS rfl rfl (by decide) (r_move rfl (hS.ev_ rfl)) fun a hS => ?_
        obtain ⟨h21, h⟩ := bindU h
        refine wl_cons rfl (e_make (d := Kd.str) (x0 := ([] : List UInt8)) (u := strV (([] : List UInt8))) hM rfl un_46 ti_9 rfl rfl rfl (hS.ev_ rfl) (hS.ev_ rfl) (req_some h21) fun v22 w hM => ?_)
        refine pl hS rfl (by decide) fun a hS => ?_
        refine st_val hS rfl rfl (by decide) (r_assign rfl (hS.ev_ rfl)) fun a hS => ?_
        refine st_done ?_
        replace hS : Slots 66 [] a [(9, v22), (3, Value.int .i64 (if w64 (((p1.length : Int)) + 1) < x14 then w64 (((p1.length : Int)) + 1) else x14)), (0, strV (p1)), (1, strV (p2)), (2, Value.int .i64 (p3)), (8, Value.slice none 0 0)] := (hS.part (.cons rfl (.cons rfl (.cons rfl (.cons rfl (.cons rfl (.cons rfl (.nil _))))))))
        refine x_then ?_
        refine wp_seq ?_
        refine wp_region_lit ?_
        refine st_val hS rfl rfl (by decide) (r_move rfl (hS.ev_ rfl)) fun a hS => ?_
        refine st_val hS rfl rfl (by decide) (r_sub rfl (hS.ev_ rfl) (hS.ev_ rfl)) fun a hS => ?_
        refine st_val hS rfl rfl (by decide) (r_assign rfl (hS.ev_ rfl)) fun a hS => ?_
        refine st_done ?_
        replace hS : Slots 66 [] a [(3, Value.int .i64 (w64 ((if w64 (((p1.length : Int)) + 1) < x14 then w64 (((p1.length : Int)) + 1) else x14) - 1))), (9, v22), (0, strV (p1)), (1, strV (p2)), (2, Value.int .i64 (p3)), (8, Value.slice none 0 0)] := (hS.part (.cons rfl (.cons rfl (.cons rfl (.cons rfl (.cons rfl (.cons rfl (.nil _))))))))
        refine x_then ?_
        refine wp_seq ?_
        refine wp_region_lit ?_
        refine st_val hS rfl rfl (by decide) (r_assign rfl (hS.ev_ rfl)) fun a hS => ?_
        refine st_done ?_
        replace hS : Slots 66 [] a [(10, Value.int .i64 (0)), (3, Value.int .i64 (w64 ((if w64 (((p1.length : Int)) + 1) < x14 then w64 (((p1.length : Int)) + 1) else x14) - 1))), (9, v22), (0, strV (p1)), (1, strV (p2)), (2, Value.int .i64 (p3)), (8, Value.slice none 0 0)] := (hS.part (.cons rfl (.cons rfl (.cons rfl (.cons rfl (.cons rfl (.cons rfl (.cons rfl (.nil _)))))))))
        refine x_then ?_
        obtain ⟨x25, h26, h⟩ := bindO h
        refine c_cut (fun a w => ∃ (K24 : Hp), Hp.le K13 K24 ∧ Slots 66 [] a [(8, Value.slice none 0 0), (9, v22), (0, strV (x25.1)), (10, Value.int .i64 (x25.2.1))] ∧ Sat w0 w K24 (SP.row Kd.str 9 v22 x25.2.2 :: L)) ?_ ?_
        ·
          refine wp_block ?_
          obtain ⟨o36, h37, h26⟩ := bindO h26
          refine c_loop_ways (fun e a w => (e = .exit 0 ∧ ∃ (K38 : Hp), Hp.le K13 K38 ∧ Slots 66 [] a [(8, Value.slice none 0 0), (9, v22), (0, strV (o36.1)), (10, Value.int .i64 (o36.2.1))] ∧ Sat w0 w K38 (SP.row Kd.str 9 v22 o36.2.2 :: L))) ?_ ?_
          · intro c Q hc hQ
            have key : ∀ (x33 : Int) (x34 : List UInt8) (x35 : List (List UInt8)) (r' : (List UInt8) × Int × (List (List UInt8))), strings_genSplit_l1 p1 x14 p2 p3 x33 x34 x35 = some r' → r' = o36 → ∀ (K32 : Hp) (a : Act) (w : World), Hp.le K13 K32 → Slots 66 [] a [(10, Value.int .i64 (x33)), (3, Value.int .i64 (w64 ((if w64 (((p1.length : Int)) + 1) < x14 then w64 (((p1.length : Int)) + 1) else x14) - 1))), (9, v22), (0, strV (x34)), (1, strV (p2)), (2, Value.int .i64 (p3)), (8, Value.slice none 0 0)] → Sat w0 w K32 (SP.row Kd.str 9 v22 x35 :: L) → Rnd Tryd.prog c Q a w := by
              refine strings_genSplit_l1.partial_correctness p1 x14 p2 p3 _ ?_
              intro strings_genSplit_l1_rec ih x33 x34 x35 r' h hr K32  a w hlK32 hS hM 
              subst hc
              refine c_round ?_
              refine wp_seq ?_
              refine wp_seq ?_
              refine wp_region_lit ?_
              refine st_val hS rfl rfl (by decide) (r_move rfl (hS.ev_ rfl)) fun a hS => ?_
              refine st_val hS rfl rfl (by decide) (r_move rfl (hS.ev_ rfl)) fun a hS => ?_
              refine st_val hS rfl rfl (by decide) (r_cmp rfl (hS.ev_ rfl) (hS.ev_ rfl) rfl) fun a hS => ?_
              refine st_done ?_
              replace hS : Slots 66 [] a [(36, Value.bool (decide (x33 < (w64 ((if w64 (((p1.length : Int)) + 1) < x14 then w64 (((p1.length : Int)) + 1) else x14) - 1))))), (10, Value.int .i64 (x33)), (3, Value.int .i64 (w64 ((if w64 (((p1.length : Int)) + 1) < x14 then w64 (((p1.length : Int)) + 1) else x14) - 1))), (9, v22), (0, strV (x34)), (1, strV (p2)), (2, Value.int .i64 (p3)), (8, Value.slice none 0 0)] := (hS.part (.cons rfl (.cons rfl (.cons rfl (.cons rfl (.cons rfl (.cons rfl (.cons rfl (.cons rfl (.nil _))))))))))
              refine x_then ?_
              rcases ifB h with ⟨hc39, h⟩ | ⟨hc39, h⟩
              · refine c_cond_true (hS.ev_ rfl) hc39 ?_
                refine wp_skip ?_
                refine x_then ?_
                refine wp_block ?_
                refine wp_seq ?_
                refine wp_region_lit ?_
                refine st_val hS rfl rfl (by decide) (r_move rfl (hS.ev_ rfl)) fun a hS => ?_
                refine st_val hS rfl rfl (by decide) (r_move rfl (hS.ev_ rfl)) fun a hS => ?_
                obtain ⟨y40, h41, h⟩ := bindO h
                have hc43 := strings_Index_c hG h41 hM
                refine wl_cons rfl (e_call rfl Tryd.func48 rfl rfl (args2 (hS.ev_ rfl) (hS.ev_ rfl)) hc43 ?_)
                rintro _ w ⟨K42, hlK42, hM, rfl⟩
                refine ⟨_, rfl, ?_⟩
                refine pl hS rfl (by decide) fun a hS => ?_
                refine st_val hS rfl rfl (by decide) (r_assign rfl (hS.ev_ rfl)) fun a hS => ?_
                refine st_done ?_
                replace hS : Slots 66 [] a [(11, Value.int .i64 (y40)), (10, Value.int .i64 (x33)), (3, Value.int .i64 (w64 ((if w64 (((p1.length : Int)) + 1) < x14 then w64 (((p1.length : Int)) + 1) else x14) - 1))), (9, v22), (0, strV (x34)), (1, strV (p2)), (2, Value.int .i64 (p3)), (8, Value.slice none 0 0)] := (hS.part (.cons rfl (.cons rfl (.cons rfl (.cons rfl (.cons rfl (.cons rfl (.cons rfl (.cons rfl (.nil _))))))))))
                refine x_then ?_
                refine wp_seq ?_
                refine wp_seq ?_
                refine wp_region_lit ?_
                refine st_val hS rfl rfl (by decide) (r_move rfl (hS.ev_ rfl)) fun a hS => ?_
                refine st_val hS rfl rfl (by decide) (r_cmp rfl (hS.ev_ rfl) (hS.ev_ rfl) rfl) fun a hS => ?_
                refine st_done ?_
                replace hS : Slots 66 [] a [(41, Value.bool (decide (y40 < 0))), (11, Value.int .i64 (y40)), (10, Value.int .i64 (x33)), (3, Value.int .i64 (w64 ((if w64 (((p1.length : Int)) + 1) < x14 then w64 (((p1.length : Int)) + 1) else x14) - 1))), (9, v22), (0, strV (x34)), (1, strV (p2)), (2, Value.int .i64 (p3)), (8, Value.slice none 0 0)] := (hS.part (.cons rfl (.cons rfl (.cons rfl (.cons rfl (.cons rfl (.cons rfl (.cons rfl (.cons rfl (.cons rfl (.nil _)))))))))))
                refine x_then ?_
                rcases ifB h with ⟨hc44, h⟩ | ⟨hc44, h⟩
                · refine c_cond_true (hS.ev_ rfl) hc44 ?_
                  refine wp_exit ?_
                  refine x_then_exit ?_
                  refine x_block_on rfl ?_
                  refine x_then_exit ?_
                  have ho' := (Option.some.inj h).trans hr
                  refine hQ _ _ _ ?_
                  subst ho'
                  exact ⟨rfl, K42, (hlK32.trans hlK42), (hS.part (.cons rfl (.cons rfl (.cons rfl (.cons rfl (.nil _)))))), hM⟩
                · refine c_cond_false (hS.ev_ rfl) hc44 ?_
                  refine wp_skip ?_
                  refine x_then ?_
                  refine wp_seq ?_
                  refine wp_region_lit ?_
                  refine st_val hS rfl rfl (by decide) (r_move rfl (hS.ev_ rfl)) fun a hS => ?_
                  refine st_val hS rfl rfl (by decide) (r_move rfl (hS.ev_ rfl)) fun a hS => ?_
                  refine st_val hS rfl rfl (by decide) (r_move rfl (hS.ev_ rfl)) fun a hS => ?_
                  refine st_val hS rfl rfl (by decide) (r_move rfl (hS.ev_ rfl)) fun a hS => ?_
                  refine st_val hS rfl rfl (by decide) (r_move rfl (hS.ev_ rfl)) fun a hS => ?_
                  refine st_val hS rfl rfl (by decide) (r_add rfl (hS.ev_ rfl) (hS.ev_ rfl)) fun a hS => ?_
                  obtain ⟨s45, h46, h⟩ := bindO h
                  refine st_val hS rfl rfl (by decide) (r_cut_s (k := .i64) rfl un_9 (hS.ev_ rfl) (.inr ⟨rfl, rfl⟩) (.inl (congrArg some (hS.ev_ rfl))) h46) fun a hS => ?_
                  obtain ⟨e47, h48, h⟩ := bindO h
                  obtain ⟨ad49, cp50, cs51, hv52, hr53, h0_54, h1_55, hq56⟩ := row_at hM h48 (by decide)
                  refine st_val hS rfl rfl (by decide) (r_idx_sl rfl un_46 ti_9 (hS.ev_ rfl) hv52 (hS.ev_ rfl) h0_54 h1_55) fun a hS => ?_
                  refine wl_cons rfl (e_store_o (x' := s45) (m := 0) hM rfl ti_9 hv52 (hS.ev_ rfl) h48 (hS.ev_ rfl) rfl (by decide) (fun _ hr => by obtain rfl := hr; rfl) fun w hM => ?_)
                  refine pl0 hS rfl fun a hS => ?_
                  refine st_done ?_
                  replace hS : Slots 66 [] a [(11, Value.int .i64 (y40)), (10, Value.int .i64 (x33)), (3, Value.int .i64 (w64 ((if w64 (((p1.length : Int)) + 1) < x14 then w64 (((p1.length : Int)) + 1) else x14) - 1))), (9, v22), (0, strV (x34)), (1, strV (p2)), (2, Value.int .i64 (p3)), (8, Value.slice none 0 0)] := (hS.part (.cons rfl (.cons rfl (.cons rfl (.cons rfl (.cons rfl (.cons rfl (.cons rfl (.cons rfl (.nil _))))))))))
                  refine x_then ?_
                  refine wp_seq ?_
                  refine wp_region_lit ?_
                  refine st_val hS rfl rfl (by decide) (r_move rfl (hS.ev_ rfl)) fun a hS => ?_
                  refine st_val hS rfl rfl (by decide) (r_move rfl (hS.ev_ rfl)) fun a hS => ?_
                  refine st_val hS rfl rfl (by decide) (r_move rfl (hS.ev_ rfl)) fun a hS => ?_
                  refine st_val hS rfl rfl (by decide) (r_len_str rfl un_9 (hS.ev_ rfl)) fun a hS => ?_
                  refine st_val hS rfl rfl (by decide) (r_add rfl (hS.ev_ rfl) (hS.ev_ rfl)) fun a hS => ?_
                  obtain ⟨s57, h58, h⟩ := bindO h
                  refine st_val hS rfl rfl (by decide) (r_cut_s (k' := .i64) rfl un_9 (hS.ev_ rfl) (.inl (congrArg some (hS.ev_ rfl))) (.inr ⟨rfl, rfl⟩) h58) fun a hS => ?_
                  refine st_val hS rfl rfl (by decide) (r_assign rfl (hS.ev_ rfl)) fun a hS => ?_
                  refine st_done ?_
                  replace hS : Slots 66 [] a [(0, strV (s57)), (10, Value.int .i64 (x33)), (3, Value.int .i64 (w64 ((if w64 (((p1.length : Int)) + 1) < x14 then w64 (((p1.length : Int)) + 1) else x14) - 1))), (9, v22), (1, strV (p2)), (2, Value.int .i64 (p3)), (8, Value.slice none 0 0)] := (hS.part (.cons rfl (.cons rfl (.cons rfl (.cons rfl (.cons rfl (.cons rfl (.cons rfl (.nil _)))))))))
                  refine x_then ?_
                  refine wp_region_lit ?_
                  refine st_val hS rfl rfl (by decide) (r_move rfl (hS.ev_ rfl)) fun a hS => ?_
                  refine st_val hS rfl rfl (by decide) (r_add rfl (hS.ev_ rfl) (hS.ev_ rfl)) fun a hS => ?_
                  refine st_val hS rfl rfl (by decide) (r_assign rfl (hS.ev_ rfl)) fun a hS => ?_
                  refine st_done ?_
                  replace hS : Slots 66 [] a [(10, Value.int .i64 (w64 (x33 + 1))), (0, strV (s57)), (3, Value.int .i64 (w64 ((if w64 (((p1.length : Int)) + 1) < x14 then w64 (((p1.length : Int)) + 1) else x14) - 1))), (9, v22), (1, strV (p2)), (2, Value.int .i64 (p3)), (8, Value.slice none 0 0)] := (hS.part (.cons rfl (.cons rfl (.cons rfl (.cons rfl (.cons rfl (.cons rfl (.cons rfl (.nil _)))))))))
                  refine x_block ?_
                  refine x_then ?_
                  exact ih (w64 (x33 + 1)) s57 (x35.set x33.toNat s45) _ h hr K42 _ _ (hlK32.trans hlK42) (hS.part (.cons rfl (.cons rfl (.cons rfl (.cons rfl (.cons rfl (.cons rfl (.cons rfl (.nil _))))))))) (hM)
              · refine c_cond_false (hS.ev_ rfl) hc39 ?_
                refine wp_exit ?_
                refine x_then_exit ?_
                refine x_then_exit ?_
                have ho' := (Option.some.inj h).trans hr
                refine hQ _ _ _ ?_
                subst ho'
                exact ⟨rfl, K32, hlK32, (hS.part (.cons rfl (.cons rfl (.cons rfl (.cons rfl (.nil _)))))), hM⟩
            exact key 0 p1 (List.replicate (if w64 (((p1.length : Int)) + 1) < x14 then w64 (((p1.length : Int)) + 1) else x14).toNat (([] : List UInt8) : List UInt8)) _ h37 rfl K13 _ _ (Hp.le.refl _) (hS.part (.cons rfl (.cons rfl (.cons rfl (.cons rfl (.cons rfl (.cons rfl (.cons rfl (.nil _))))))))) (hM)
          · rintro e a w ⟨rfl, K38, hlK38, hS, hM⟩
            refine x_block_here ?_
            refine x_then ?_
            obtain rfl := Option.some.inj h26
            exact ⟨K38, hlK38, (hS.part (.cons rfl (.cons rfl (.cons rfl (.cons rfl (.nil _)))))), hM⟩
        · rintro a w ⟨K24, hlK24, hS, hM⟩
          refine wp_seq ?_
          refine wp_region_lit ?_
          refine st_val hS rfl rfl (by decide) (r_move rfl (hS.ev_ rfl)) fun a hS => ?_
          refine st_val hS rfl rfl (by decide) (r_move rfl (hS.ev_ rfl)) fun a hS => ?_
          refine st_val hS rfl rfl (by decide) (r_move rfl (hS.ev_ rfl)) fun a hS => ?_
          obtain ⟨e59, h60, h⟩ := bindO h
          obtain ⟨ad61, cp62, cs63, hv64, hr65, h0_66, h1_67, hq68⟩ := row_at hM h60 (by decide)
          refine st_val hS rfl rfl (by decide) (r_idx_sl rfl un_46 ti_9 (hS.ev_ rfl) hv64 (hS.ev_ rfl) h0_66 h1_67) fun a hS => ?_
          refine wl_cons rfl (e_store_o (x' := x25.1) (m := 0) hM rfl ti_9 hv64 (hS.ev_ rfl) h60 (hS.ev_ rfl) rfl (by decide) (fun _ hr => by obtain rfl := hr; rfl) fun w hM => ?_)
          refine pl0 hS rfl fun a hS => ?_
          refine st_done ?_
          replace hS : Slots 66 [] a [(8, Value.slice none 0 0), (9, v22), (10, Value.int .i64 (x25.2.1))] := (hS.part (.cons rfl (.cons rfl (.cons rfl (.nil _)))))
          refine x_then ?_
          refine wp_seq ?_
          refine wp_region_lit ?_
          refine st_val hS rfl rfl (by decide) (r_move rfl (hS.ev_ rfl)) fun a hS => ?_
          refine st_val hS rfl rfl (by decide) (r_move rfl (hS.ev_ rfl)) fun a hS => ?_
          refine st_val hS rfl rfl (by decide) (r_add rfl (hS.ev_ rfl) (hS.ev_ rfl)) fun a hS => ?_
          obtain ⟨s69, h70, h⟩ := bindO h
          obtain ⟨v71, hs72, h0_73, hu74⟩ := cut_row (P := Tryd.prog) (a := a) (k := .i64) (.tmp 62) none (some (.tmp 64)) un_46 ti_9 (hS.ev_ rfl) hM (.inr ⟨rfl, rfl⟩) (.inl (congrArg some (hS.ev_ rfl))) h70
          obtain ⟨ad75, cp76, he77, he78⟩ := h0_73 rfl
          subst he78
          replace hM := hM.row_trunc (m := ((w64 (x25.2.1 + 1))).toNat) he77 (by have := cutL_some h70; omega)
          refine st_val hS rfl rfl (by decide) (hu74 _ _ rfl) fun a hS => ?_
          refine st_val hS rfl rfl (by decide) (r_assign rfl (hS.ev_ rfl)) fun a hS => ?_
          refine st_done ?_
          replace hS : Slots 66 [] a [(8, (Value.slice ad75 ((w64 (x25.2.1 + 1))).toNat cp76))] := (hS.part (.cons rfl (.nil _)))
          refine x_then ?_
          refine wp_ret ?_
          obtain ⟨K79, hlK79, hM, f80⟩ := keep_row hM
          have hr' := Option.some.inj h
          subst hr'
          refine ret1 (.inr rfl) hS rfl rfl ?_
          exact ⟨K79, ((Value.slice ad75 ((w64 (x25.2.1 + 1))).toNat cp76)), ((hlK13.trans hlK24).trans hlK79), hM, rfl, f80⟩

theorem strings_Split_c {w0 w : World} {K : Hp} {L : List SP} {p1 : List UInt8} {p2 : List UInt8} {r : List (List UInt8)} (hG : Glob w0) (h : strings_Split p1 p2 = some r) (hM : Sat w0 w K (L)) :
    Calls Tryd.prog 23 #[strV (p1), strV (p2)] w (fun e w' => ∃ (K' : Hp) (v'1 : Value), Hp.le K K' ∧ Sat w0 w' K' (L) ∧ e = .returned (v'1) ∧ Kd.str.sl K' v'1 r) := by
  refine enter_ (n := 8) (args := [strV (p1), strV (p2)]) Tryd.func23 rfl rfl (Nat.le_of_ble_eq_true rfl) fun a hS => ?_
  replace hS : Slots 8 [] a [(0, strV (p1)), (1, strV (p2))] := hS
  unfold strings_Split at h
  refine wp_seq ?_
  refine wp_region_lit ?_
  refine st_val hS rfl rfl (by decide) (r_assign rfl (hS.ev_ rfl)) fun a hS => ?_
  refine st_done ?_
  replace hS : Slots 8 [] a [(4, Value.slice none 0 0), (0, strV (p1)), (1, strV (p2))] := (hS.part (.cons rfl (.cons rfl (.cons rfl (.nil _)))))
  refine x_then ?_
  refine wp_seq ?_
  refine wp_region_lit ?_
  refine st_val hS rfl rfl (by decide) (r_move rfl (hS.ev_ rfl)) fun a hS => ?_
  refine st_val hS rfl rfl (by decide) (r_move rfl (hS.ev_ rfl)) fun a hS => ?_
  obtain ⟨y3, h4, h⟩ := bindO h
  have hc6 := strings_genSplit_c hG h4 hM
  refine wl_cons rfl (e_call rfl Tryd.func36 rfl rfl (args4 (hS.ev_ rfl) (hS.ev_ rfl) (hS.ev_ rfl) (hS.ev_ rfl)) hc6 ?_)
  rintro _ w ⟨K5, v7, hlK5, hM, rfl, f8⟩
  refine ⟨_, rfl, ?_⟩
  refine pl hS rfl (by decide) fun a hS => ?_
  refine st_val hS rfl rfl (by decide) (r_assign rfl (hS.ev_ rfl)) fun a hS => ?_
  refine st_done ?_
  replace hS : Slots 8 [] a [(4, v7)] := (hS.part (.cons rfl (.nil _)))
  refine x_then ?_
  refine wp_ret ?_
  have hr' := Option.some.inj h
  subst hr'
  refine ret1 (.inr rfl) hS rfl rfl ?_
  exact ⟨K5, (v7), hlK5, hM, rfl, f8⟩

theorem strings_IndexByte_c {w0 w : World} {K : Hp} {L : List SP} {p1 : List UInt8} {p2 : UInt8} {r : Int} (hG : Glob w0) (h : strings_IndexByte p1 p2 = some r) (hM : Sat w0 w K (L)) :
    Calls Tryd.prog 53 #[strV (p1), Value.int .u8 (b8 (p2))] w (fun e w' => ∃ (K' : Hp), Hp.le K K' ∧ Sat w0 w' K' (L) ∧ e = .returned (Value.int .i64 (r))) := by
  refine enter_ (n := 8) (args := [strV (p1), Value.int .u8 (b8 (p2))]) Tryd.func53 rfl rfl (Nat.le_of_ble_eq_true rfl) fun a hS => ?_
  replace hS : Slots 8 [] a [(0, strV (p1)), (1, Value.int .u8 (b8 (p2)))] := hS
  unfold strings_IndexByte at h
  refine wp_seq ?_
  refine wp_region_lit ?_
  refine st_val hS rfl rfl (by decide) (r_assign rfl (hS.ev_ rfl)) fun a hS => ?_
  refine st_done ?_
  replace hS : Slots 8 [] a [(4, Value.int .i64 (0)), (0, strV (p1)), (1, Value.int .u8 (b8 (p2)))] := (hS.part (.cons rfl (.cons rfl (.cons rfl (.nil _)))))
  refine x_then ?_
  refine wp_seq ?_
  refine wp_region_lit ?_
  refine st_val hS rfl rfl (by decide) (r_move rfl (hS.ev_ rfl)) fun a hS => ?_
  refine st_val hS rfl rfl (by decide) (r_move rfl (hS.ev_ rfl)) fun a hS => ?_
  obtain ⟨y3, h4, h⟩ := bindO h
  have hc6 := internal_stringslite_IndexByte_c hG h4 hM
  refine wl_cons rfl (e_call rfl Tryd.func65 rfl rfl (args2 (hS.ev_ rfl) (hS.ev_ rfl)) hc6 ?_)
  rintro _ w ⟨K5, hlK5, hM, rfl⟩
  refine ⟨_, rfl, ?_⟩
  refine pl hS rfl (by decide) fun a hS => ?_
  refine st_val hS rfl rfl (by decide) (r_assign rfl (hS.ev_ rfl)) fun a hS => ?_
  refine st_done ?_
  replace hS : Slots 8 [] a [(4, Value.int .i64 (y3))] := (hS.part (.cons rfl (.nil _)))
  refine x_then ?_
  refine wp_ret ?_
  have hr' := Option.some.inj h
  subst hr'
  refine ret1 (.inr rfl) hS rfl rfl ?_
  exact ⟨K5, hlK5, hM, rfl⟩

theorem raw_read_c {w0 w : World} {K : Hp} {L : List SP} {p1 : List UInt8} {r : (List UInt8) × Bool} (hG : Glob w0) (h : raw_read p1 = some r) (hM : Sat w0 w K (L)) :
    Calls Tryd.prog 43 #[strV (p1)] w (fun e w' => ∃ (K' : Hp) (v'1 : Value), Hp.le K K' ∧ Sat w0 w' K' (L) ∧ e = .returned (Value.tuple #[v'1, Value.bool (r.2)]) ∧ Kd.u8.sl K' v'1 r.1) := by
  refine enter_ (n := 48) (args := [strV (p1)]) Tryd.func43 rfl rfl (Nat.le_of_ble_eq_true rfl) fun a hS => ?_
  replace hS : Slots 48 [] a [(0, strV (p1))] := hS
  unfold raw_read at h
  refine wp_seq ?_
  refine wp_region_lit ?_
  refine st_val hS rfl rfl (by decide) (r_assign rfl (hS.ev_ rfl)) fun a hS => ?_
  refine st_val hS rfl rfl (by decide) (r_assign rfl (hS.ev_ rfl)) fun a hS => ?_
  refine st_done ?_
  replace hS : Slots 48 [] a [(3, Value.bool (false)), (2, Value.slice none 0 0), (0, strV (p1))] := (hS.part (.cons rfl (.cons rfl (.cons rfl (.nil _)))))
  refine x_then ?_
  refine wp_seq ?_
  refine wp_seq ?_
  refine wp_region_lit ?_
  refine st_val hS rfl rfl (by decide) (r_move rfl (hS.ev_ rfl)) fun a hS => ?_
  refine st_val hS rfl rfl (by decide) (r_seq rfl (hS.ev_ rfl) (hS.ev_ (v := strV (([45] : List UInt8))) rfl)) fun a hS => ?_
  refine st_done ?_
  replace hS : Slots 48 [] a [(9, Value.bool (p1 == ([45] : List UInt8))), (3, Value.bool (false)), (2, Value.slice none 0 0), (0, strV (p1))] := (hS.part (.cons rfl (.cons rfl (.cons rfl (.cons rfl (.nil _))))))
  refine x_then ?_
  rcases ifB h with ⟨hc2, h⟩ | ⟨hc2, h⟩
  · refine c_cond_true (hS.ev_ rfl) hc2 ?_
    refine wp_seq ?_
    refine wp_region_lit ?_
    refine st_val hS rfl rfl (by decide) (r_assign rfl (hS.ev_ rfl)) fun a hS => ?_
    refine st_val hS rfl rfl (by decide) (r_assign rfl (hS.ev_ rfl)) fun a hS => ?_
    refine st_done ?_
    replace hS : Slots 48 [] a [(3, Value.bool (true)), (2, Value.slice none 0 0), (0, strV (p1))] := (hS.part (.cons rfl (.cons rfl (.cons rfl (.nil _)))))
    refine x_then ?_
    refine wp_ret ?_
    refine x_then_ret ?_
    have hr' := Option.some.inj h
    subst hr'
    refine ret2 (.inr rfl) hS rfl rfl rfl ?_
    exact ⟨K, (Value.slice none 0 0), (Hp.le.refl _), hM, rfl, (Kd.sl_nil _ _)⟩
  · refine c_cond_false (hS.ev_ rfl) hc2 ?_
    refine wp_skip ?_
    refine x_then ?_
    refine wp_seq ?_
    refine wp_seq ?_
    refine wp_region_lit ?_
    refine st_val hS rfl rfl (by decide) (r_move rfl (hS.ev_ rfl)) fun a hS => ?_
    refine st_val hS rfl rfl (by decide) (r_seq rfl (hS.ev_ rfl) (hS.ev_ (v := strV (([] : List UInt8))) rfl)) fun a hS => ?_
    refine st_val hS rfl rfl (by decide) (r_move rfl (hS.ev_ rfl)) fun a hS => ?_
    obtain ⟨x3, h4, h⟩ := bindO h
    refine wl_cut 5 (fun a w => Slots 48 [] a [(0, strV (p1)), (2, Value.slice none 0 0), (3, Value.bool (false)), (17, Value.bool (x3))] ∧ Sat w0 w K (L)) ?_ ?_
    ·
      skip
      rcases ifB h4 with ⟨hc5, h4⟩ | ⟨hc5, h4⟩
      ·
        replace hS := hS.known (k := 12) rfl hc5
        refine st_off hS rfl rfl rfl rfl rfl rfl (by decide) fun a hS => ?_
        refine st_off hS rfl rfl rfl rfl rfl rfl (by decide) fun a hS => ?_
        refine st_off hS rfl rfl rfl rfl rfl rfl (by decide) fun a hS => ?_
        refine st_off hS rfl rfl rfl rfl rfl rfl (by decide) fun a hS => ?_
        refine st_val hS rfl rfl (by decide) (r_pick_true rfl (hS.ev_ rfl) rfl (hS.ev_ rfl)) fun a hS => ?_
        refine st_done ?_
        replace hS : Slots 48 [] a [(17, Value.bool (true)), (3, Value.bool (false)), (2, Value.slice none 0 0), (0, strV (p1))] := (hS.part (.cons rfl (.cons rfl (.cons rfl (.cons rfl (.nil _))))))
        refine x_then ?_
        obtain rfl := Option.some.inj h4
        exact ⟨(hS.part (.cons rfl (.cons rfl (.cons rfl (.cons rfl (.nil _)))))), hM⟩
      ·
        replace hS := hS.known (k := 12) rfl hc5
        refine st_want hS rfl rfl rfl rfl rfl (by decide) (r_move rfl (hS.ev_ rfl)) fun a hS => ?_
        refine st_want hS rfl rfl rfl rfl rfl (by decide) (r_len_str rfl un_9 (hS.ev_ rfl)) fun a hS => ?_
        obtain ⟨q6, h7, h4⟩ := bindO h4
        obtain ⟨h7n, h7e⟩ := irem_some h7
        refine st_want hS rfl rfl rfl rfl rfl (by decide) (h7e ▸ r_rem rfl (hS.ev_ rfl) (hS.ev_ rfl) h7n) fun a hS => ?_
        refine st_want hS rfl rfl rfl rfl rfl (by decide) (r_cmp rfl (hS.ev_ rfl) (hS.ev_ rfl) rfl) fun a hS => ?_
        refine st_val hS rfl rfl (by decide) (r_pick_false rfl (hS.ev_ rfl) rfl (hS.ev_ rfl)) fun a hS => ?_
        refine st_done ?_
        replace hS : Slots 48 [] a [(17, Value.bool (q6 != 0)), (3, Value.bool (false)), (2, Value.slice none 0 0), (0, strV (p1))] := (hS.part (.cons rfl (.cons rfl (.cons rfl (.cons rfl (.nil _))))))
        refine x_then ?_
        obtain rfl := Option.some.inj h4
        exact ⟨(hS.part (.cons rfl (.cons rfl (.cons rfl (.cons rfl (.nil _)))))), hM⟩
    · rintro a w ⟨hS, hM⟩
      refine st_done ?_
      replace hS : Slots 48 [] a [(0, strV (p1)), (2, Value.slice none 0 0), (3, Value.bool (false)), (17, Value.bool (x3))] := (hS.part (.cons rfl (.cons rfl (.cons rfl (.cons rfl (.nil _))))))
      refine x_then ?_
      rcases ifB h with ⟨hc8, h⟩ | ⟨hc8, h⟩
      · refine c_cond_true (hS.ev_ rfl) hc8 ?_
        refine wp_seq ?_
        refine wp_region_lit ?_
        refine st_val hS rfl rfl (by decide) (r_assign rfl (hS.ev_ rfl)) fun a hS => ?_
        refine st_val hS rfl rfl (by decide) (r_assign rfl (hS.ev_ rfl)) fun a hS => ?_
        refine st_done ?_
        replace hS : Slots 48 [] a [(3, Value.bool (false)), (2, Value.slice none 0 0), (0, strV (p1))] := (hS.part (.cons rfl (.cons rfl (.cons rfl (.nil _)))))
        refine x_then ?_
        refine wp_ret ?_
        refine x_then_ret ?_
        have hr' := Option.some.inj h
        subst hr'
        refine ret2 (.inr rfl) hS rfl rfl rfl ?_
        exact ⟨K, (Value.slice none 0 0), (Hp.le.refl _), hM, rfl, (Kd.sl_nil _ _)⟩
      · refine c_cond_false (hS.ev_ rfl) hc8 ?_
        refine wp_skip ?_
        refine x_then ?_
        refine wp_seq ?_
        refine wp_region_lit ?_
        refine st_val hS rfl rfl (by decide) (r_assign rfl (hS.ev_ rfl)) fun a hS => ?_
        replace hM := hM.row_nil Kd.u8 5
        refine st_done ?_
        replace hS : Slots 48 [] a [(4, (Value.slice none 0 0)), (0, strV (p1)), (2, Value.slice none 0 0), (3, Value.bool (false))] := (hS.part (.cons rfl (.cons rfl (.cons rfl (.cons rfl (.nil _))))))
        refine x_then ?_
        refine wp_seq ?_
        refine wp_seq ?_
        refine wp_region_lit ?_
        refine st_val hS rfl rfl (by decide) (r_assign rfl (hS.ev_ rfl)) fun a hS => ?_
        refine st_done ?_
        replace hS : Slots 48 [] a [(5, Value.int .i64 (0)), (4, (Value.slice none 0 0)), (0, strV (p1)), (2, Value.slice none 0 0), (3, Value.bool (false))] := (hS.part (.cons rfl (.cons rfl (.cons rfl (.cons rfl (.cons rfl (.nil _)))))))
        refine x_then ?_
        refine wp_block ?_
        obtain ⟨o19, h20, h⟩ := bindO h
        refine c_loop_ways (fun e a w => (e = .exit 0 ∧ ∃ (K21 : Hp) (x22 : List UInt8) (v23 : Value), Hp.le K K21 ∧ o19 = Sum.inl x22 ∧ Slots 48 [] a [(2, Value.slice none 0 0), (3, Value.bool (false)), (4, v23)] ∧ Sat w0 w K21 (SP.row Kd.u8 5 v23 x22 :: L)) ∨ (e = .ret ∧ ∃ (K24 : Hp) (x25 : List UInt8) (v26 : Value), Hp.le K K24 ∧ o19 = Sum.inr x25 ∧ Slots 48 [] a [(2, Value.slice none 0 0), (3, Value.bool (false))] ∧ Sat w0 w K24 (SP.row Kd.u8 5 v26 x25 :: L))) ?_ ?_
        · intro c Q hc hQ
          have key : ∀ (x16 : Int) (x17 : List UInt8) (r' : Sum (List UInt8) (List UInt8)), raw_read_l1 p1 x16 x17 = some r' → r' = o19 → ∀ (K15 : Hp) (v18 : Value) (a : Act) (w : World), Hp.le K K15 → Slots 48 [] a [(5, Value.int .i64 (x16)), (0, strV (p1)), (2, Value.slice none 0 0), (3, Value.bool (false)), (4, v18)] → Sat w0 w K15 (SP.row Kd.u8 5 v18 x17 :: L) → Rnd Tryd.prog c Q a w := by
            refine raw_read_l1.partial_correctness p1 _ ?_
            intro raw_read_l1_rec ih x16 x17 r' h hr K15 v18 a w hlK15 hS hM 
            subst hc
            refine c_round ?_
            refine wp_seq ?_
            refine wp_seq ?_
            refine wp_region_lit ?_
            refine st_val hS rfl rfl (by decide) (r_move rfl (hS.ev_ rfl)) fun a hS => ?_
            refine st_val hS rfl rfl (by decide) (r_move rfl (hS.ev_ rfl)) fun a hS => ?_
            refine st_val hS rfl rfl (by decide) (r_len_str rfl un_9 (hS.ev_ rfl)) fun a hS => ?_
            refine st_val hS rfl rfl (by decide) (r_cmp rfl (hS.ev_ rfl) (hS.ev_ rfl) rfl) fun a hS => ?_
            refine st_done ?_
            replace hS : Slots 48 [] a [(21, Value.bool (decide (x16 < ((p1.length : Int))))), (5, Value.int .i64 (x16)), (0, strV (p1)), (2, Value.slice none 0 0), (3, Value.bool (false)), (4, v18)] := (hS.part (.cons rfl (.cons rfl (.cons rfl (.cons rfl (.cons rfl (.cons rfl (.nil _))))))))
            refine x_then ?_
            rcases ifB h with ⟨hc27, h⟩ | ⟨hc27, h⟩
            · refine c_cond_true (hS.ev_ rfl) hc27 ?_
              refine wp_skip ?_
              refine x_then ?_
              refine wp_seq ?_
              refine wp_block ?_
              refine wp_seq ?_
              refine tk_start #[false, false, false, false, false, false, false, false, false, false, false] mixed_ rfl rfl ?_
              replace hM := hM.drew
              generalize w.drew = w at hM ⊢
              refine dk_any (i := 0) #[true, false, false, false, false, false, false, false, false, false, false] hS rfl (by kernel_rfl) rfl rfl (by decide) (fun w => r_move rfl (hS.ev_ rfl)) fun a hS => ?_
              refine dk_any (i := 1) #[true, true, false, false, false, false, false, false, false, false, false] hS rfl (by kernel_rfl) rfl rfl (by decide) (fun w => r_move rfl (hS.ev_ rfl)) fun a hS => ?_
              obtain ⟨c28, h29, h⟩ := bindO h
              refine dk_any (i := 2) #[true, true, true, false, false, false, false, false, false, false, false] hS rfl (by kernel_rfl) rfl rfl (by decide) (fun w => r_index_s rfl un_9 (hS.ev_ rfl) (hS.ev_ rfl) h29) fun a hS => ?_
              refine dk_any (i := 4) #[true, true, true, false, true, false, false, false, false, false, false] hS rfl (by kernel_rfl) rfl rfl (by decide) (fun w => r_move rfl (hS.ev_ rfl)) fun a hS => ?_
              refine dk_any (i := 5) #[true, true, true, false, true, true, false, false, false, false, false] hS rfl (by kernel_rfl) rfl rfl (by decide) (fun w => r_move rfl (hS.ev_ rfl)) fun a hS => ?_
              refine dk_any (i := 6) #[true, true, true, false, true, true, true, false, false, false, false] hS rfl (by kernel_rfl) rfl rfl (by decide) (fun w => r_add rfl (hS.ev_ rfl) (hS.ev_ rfl)) fun a hS => ?_
              obtain ⟨c30, h31, h⟩ := bindO h
              refine dk_any (i := 7) #[true, true, true, false, true, true, true, true, false, false, false] hS rfl (by kernel_rfl) rfl rfl (by decide) (fun w => r_index_s rfl un_9 (hS.ev_ rfl) (hS.ev_ rfl) h31) fun a hS => ?_
              obtain ⟨y32, h33, h⟩ := bindO h
              have hc35 := strings_IndexByte_c hG h33 hM
              refine dk_one (i := 3) #[true, true, true, true, true, true, true, true, false, false, false] rfl (by kernel_rfl) rfl (e_call rfl Tryd.func53 rfl rfl (args2 (hS.ev_ (v := strV (([48, 49, 50, 51, 52, 53, 54, 55, 56, 57, 97, 98, 99, 100, 101, 102] : List UInt8))) rfl) (hS.ev_ rfl)) hc35 ?_)
              rintro _ w ⟨K34, hlK34, hM, rfl⟩
              refine ⟨_, rfl, ?_⟩
              refine pT hS rfl (by decide) Dem.nil fun a hS => ?_
              obtain ⟨y36, h37, h⟩ := bindO h
              have hc39 := strings_IndexByte_c hG h37 hM
              refine dk_one (i := 8) #[true, true, true, true, true, true, true, true, true, false, false] rfl (by kernel_rfl) rfl (e_call rfl Tryd.func53 rfl rfl (args2 (hS.ev_ (v := strV (([48, 49, 50, 51, 52, 53, 54, 55, 56, 57, 97, 98, 99, 100, 101, 102] : List UInt8))) rfl) (hS.ev_ rfl)) hc39 ?_)
              rintro _ w ⟨K38, hlK38, hM, rfl⟩
              refine ⟨_, rfl, ?_⟩
              refine pT hS rfl (by decide) Dem.nil fun a hS => ?_
              refine dk_any (i := 9) #[true, true, true, true, true, true, true, true, true, true, false] hS rfl (by kernel_rfl) rfl rfl (by decide) (fun w => r_assign rfl (hS.ev_ rfl)) fun a hS => ?_
              refine dk_any (i := 10) #[true, true, true, true, true, true, true, true, true, true, true] hS rfl (by kernel_rfl) rfl rfl (by decide) (fun w => r_assign rfl (hS.ev_ rfl)) fun a hS => ?_
              refine tk_done (by kernel_rfl) ?_
              replace hS : Slots 48 [] a [(7, Value.int .i64 (y36)), (6, Value.int .i64 (y32)), (5, Value.int .i64 (x16)), (0, strV (p1)), (2, Value.slice none 0 0), (3, Value.bool (false)), (4, v18)] := (hS.part (.cons rfl (.cons rfl (.cons rfl (.cons rfl (.cons rfl (.cons rfl (.cons rfl (.nil _)))))))))
              refine x_then ?_
              refine wp_seq ?_
              refine wp_seq ?_
              refine wp_region_lit ?_
              refine st_val hS rfl rfl (by decide) (r_move rfl (hS.ev_ rfl)) fun a hS => ?_
              refine st_val hS rfl rfl (by decide) (r_cmp rfl (hS.ev_ rfl) (hS.ev_ rfl) rfl) fun a hS => ?_
              refine st_val hS rfl rfl (by decide) (r_move rfl (hS.ev_ rfl)) fun a hS => ?_
              obtain ⟨x40, h41, h⟩ := bindO h
              refine wl_cut 3 (fun a w => Slots 48 [] a [(0, strV (p1)), (2, Value.slice none 0 0), (3, Value.bool (false)), (4, v18), (5, Value.int .i64 (x16)), (6, Value.int .i64 (y32)), (7, Value.int .i64 (y36)), (38, Value.bool (x40))] ∧ Sat w0 w K38 (SP.row Kd.u8 5 v18 x17 :: L)) ?_ ?_
              ·
                skip
                rcases ifB h41 with ⟨hc42, h41⟩ | ⟨hc42, h41⟩
                ·
                  replace hS := hS.known (k := 35) rfl hc42
                  refine st_off hS rfl rfl rfl rfl rfl rfl (by decide) fun a hS => ?_
                  refine st_off hS rfl rfl rfl rfl rfl rfl (by decide) fun a hS => ?_
                  refine st_val hS rfl rfl (by decide) (r_pick_true rfl (hS.ev_ rfl) rfl (hS.ev_ rfl)) fun a hS => ?_
                  refine st_done ?_
                  replace hS : Slots 48 [] a [(38, Value.bool (true)), (7, Value.int .i64 (y36)), (6, Value.int .i64 (y32)), (5, Value.int .i64 (x16)), (0, strV (p1)), (2, Value.slice none 0 0), (3, Value.bool (false)), (4, v18)] := (hS.part (.cons rfl (.cons rfl (.cons rfl (.cons rfl (.cons rfl (.cons rfl (.cons rfl (.cons rfl (.nil _))))))))))
                  refine x_then ?_
                  obtain rfl := Option.some.inj h41
                  exact ⟨(hS.part (.cons rfl (.cons rfl (.cons rfl (.cons rfl (.cons rfl (.cons rfl (.cons rfl (.cons rfl (.nil _)))))))))), hM⟩
                ·
                  replace hS := hS.known (k := 35) rfl hc42
                  refine st_want hS rfl rfl rfl rfl rfl (by decide) (r_move rfl (hS.ev_ rfl)) fun a hS => ?_
                  refine st_want hS rfl rfl rfl rfl rfl (by decide) (r_cmp rfl (hS.ev_ rfl) (hS.ev_ rfl) rfl) fun a hS => ?_
                  refine st_val hS rfl rfl (by decide) (r_pick_false rfl (hS.ev_ rfl) rfl (hS.ev_ rfl)) fun a hS => ?_
                  refine st_done ?_
                  replace hS : Slots 48 [] a [(38, Value.bool (decide (y36 < 0))), (7, Value.int .i64 (y36)), (6, Value.int .i64 (y32)), (5, Value.int .i64 (x16)), (0, strV (p1)), (2, Value.slice none 0 0), (3, Value.bool (false)), (4, v18)] := (hS.part (.cons rfl (.cons rfl (.cons rfl (.cons rfl (.cons rfl (.cons rfl (.cons rfl (.cons rfl (.nil _))))))))))
                  refine x_then ?_
                  obtain rfl := Option.some.inj h41
                  exact ⟨(hS.part (.cons rfl (.cons rfl (.cons rfl (.cons rfl (.cons rfl (.cons rfl (.cons rfl (.cons rfl (.nil _)))))))))), hM⟩
              · rintro a w ⟨hS, hM⟩
                refine st_done ?_
                replace hS : Slots 48 [] a [(0, strV (p1)), (2, Value.slice none 0 0), (3, Value.bool (false)), (4, v18), (5, Value.int .i64 (x16)), (6, Value.int .i64 (y32)), (7, Value.int .i64 (y36)), (38, Value.bool (x40))] := (hS.part (.cons rfl (.cons rfl (.cons rfl (.cons rfl (.cons rfl (.cons rfl (.cons rfl (.cons rfl (.nil _))))))))))
                refine x_then ?_
                rcases ifB h with ⟨hc43, h⟩ | ⟨hc43, h⟩
                · refine c_cond_true (hS.ev_ rfl) hc43 ?_
                  refine wp_seq ?_
                  refine wp_region_lit ?_
                  refine st_val hS rfl rfl (by decide) (r_assign rfl (hS.ev_ rfl)) fun a hS => ?_
                  refine st_val hS rfl rfl (by decide) (r_assign rfl (hS.ev_ rfl)) fun a hS => ?_
                  refine st_done ?_
                  replace hS : Slots 48 [] a [(3, Value.bool (false)), (2, Value.slice none 0 0), (0, strV (p1)), (4, v18), (5, Value.int .i64 (x16)), (6, Value.int .i64 (y32)), (7, Value.int .i64 (y36))] := (hS.part (.cons rfl (.cons rfl (.cons rfl (.cons rfl (.cons rfl (.cons rfl (.cons rfl (.nil _)))))))))
                  refine x_then ?_
                  refine wp_ret ?_
                  refine x_then_ret ?_
                  refine x_block_ret ?_
                  refine x_then_ret ?_
                  refine x_then_ret ?_
                  have ho' := (Option.some.inj h).trans hr
                  refine hQ _ _ _ ?_
                  exact .inr (⟨rfl, K38, x17, (v18), ((hlK15.trans hlK34).trans hlK38), ho'.symm, (hS.part (.cons rfl (.cons rfl (.nil _)))), hM⟩)
                · refine c_cond_false (hS.ev_ rfl) hc43 ?_
                  refine wp_skip ?_
                  refine x_then ?_
                  refine wp_region_lit ?_
                  refine st_val hS rfl rfl (by decide) (r_move rfl (hS.ev_ rfl)) fun a hS => ?_
                  refine st_val hS rfl rfl (by decide) (r_move rfl (hS.ev_ rfl)) fun a hS => ?_
                  refine st_val hS rfl rfl (by decide) (r_shl (n := 4) rfl (hS.ev_ rfl) (hS.ev_ (v := Value.int .u64 ((4 : Nat) : Int)) rfl) (by decide)) fun a hS => ?_
                  refine st_val hS rfl rfl (by decide) (r_move rfl (hS.ev_ rfl)) fun a hS => ?_
                  refine st_val hS rfl rfl (by decide) (r_or64 rfl (hS.ev_ rfl) (hS.ev_ rfl)) fun a hS => ?_
                  refine st_val hS rfl rfl (by decide) (r_conv_i8 rfl un_3 un_5 (hS.ev_ rfl)) fun a hS => ?_
                  refine wl_cons rfl (e_litK (d := Kd.u8) (e := 5) (cs := [Value.int .u8 (b8 (toB (or64 (w64 (y32 * 2 ^ 4)) y36)))]) (xs := ([toB (or64 (w64 (y32 * 2 ^ 4)) y36)] : List UInt8)) hM rfl (parts_ev hS rfl) (by kernel_rfl) ⟨[Value.int .u8 (b8 (toB (or64 (w64 (y32 * 2 ^ 4)) y36)))], [], rfl, rfl, rfl⟩ rfl (by decide) fun v44 K45 w hlK45 hM f46 => ?_)
                  refine pl hS rfl (by decide) fun a hS => ?_
                  obtain ⟨h47, h⟩ := bindU h
                  refine wl_cons rfl (e_apd_sl hM rfl un_22 un_22 ti_5 rfl rfl (by decide) (hS.ev_ rfl) (hS.ev_ rfl) f46 (req_some h47) fun v48 w hM => ?_)
                  refine pl hS rfl (by decide) fun a hS => ?_
                  refine st_val hS rfl rfl (by decide) (r_assign rfl (hS.ev_ rfl)) fun a hS => ?_
                  refine st_done ?_
                  replace hS : Slots 48 [] a [(4, v48), (0, strV (p1)), (2, Value.slice none 0 0), (3, Value.bool (false)), (5, Value.int .i64 (x16))] := (hS.part (.cons rfl (.cons rfl (.cons rfl (.cons rfl (.cons rfl (.nil _)))))))
                  refine x_block ?_
                  refine x_then ?_
                  refine wp_region_lit ?_
                  refine st_val hS rfl rfl (by decide) (r_move rfl (hS.ev_ rfl)) fun a hS => ?_
                  refine st_val hS rfl rfl (by decide) (r_add rfl (hS.ev_ rfl) (hS.ev_ rfl)) fun a hS => ?_
                  refine st_val hS rfl rfl (by decide) (r_assign rfl (hS.ev_ rfl)) fun a hS => ?_
                  refine st_done ?_
                  replace hS : Slots 48 [] a [(5, Value.int .i64 (w64 (x16 + 2))), (4, v48), (0, strV (p1)), (2, Value.slice none 0 0), (3, Value.bool (false))] := (hS.part (.cons rfl (.cons rfl (.cons rfl (.cons rfl (.cons rfl (.nil _)))))))
                  refine x_then ?_
                  exact ih (w64 (x16 + 2)) (x17 ++ ([toB (or64 (w64 (y32 * 2 ^ 4)) y36)] : List UInt8)) _ h hr K45 (v48) _ _ (((hlK15.trans hlK34).trans hlK38).trans hlK45) (hS.part (.cons rfl (.cons rfl (.cons rfl (.cons rfl (.cons rfl (.nil _))))))) (hM)
            · refine c_cond_false (hS.ev_ rfl) hc27 ?_
              refine wp_exit ?_
              refine x_then_exit ?_
              refine x_then_exit ?_
              have ho' := (Option.some.inj h).trans hr
              refine hQ _ _ _ ?_
              exact .inl ⟨rfl, K15, x17, (v18), hlK15, ho'.symm, (hS.part (.cons rfl (.cons rfl (.cons rfl (.nil _))))), hM⟩
          exact key 0 ([] : List UInt8) _ h20 rfl K ((Value.slice none 0 0)) _ _ (Hp.le.refl _) (hS.part (.cons rfl (.cons rfl (.cons rfl (.cons rfl (.cons rfl (.nil _))))))) (hM)
        · rintro e a w (⟨rfl, K21, x22, v23, hlK21, ho', hS, hM⟩ | ⟨rfl, K24, x25, v26, hlK24, ho', hS, hM⟩)
          · subst ho'
            dsimp only at h
            refine x_block_here ?_
            refine x_then ?_
            refine wp_seq ?_
            refine wp_region_lit ?_
            refine st_val hS rfl rfl (by decide) (r_move rfl (hS.ev_ rfl)) fun a hS => ?_
            refine st_val hS rfl rfl (by decide) (r_assign rfl (hS.ev_ rfl)) fun a hS => ?_
            refine st_val hS rfl rfl (by decide) (r_assign rfl (hS.ev_ rfl)) fun a hS => ?_
            refine st_done ?_
            replace hS : Slots 48 [] a [(3, Value.bool (true)), (2, v23)] := (hS.part (.cons rfl (.cons rfl (.nil _))))
            refine x_then ?_
            refine wp_ret ?_
            obtain ⟨K49, hlK49, hM, f50⟩ := keep_row hM
            have hr' := Option.some.inj h
            subst hr'
            refine ret2 (.inr rfl) hS rfl rfl rfl ?_
            exact ⟨K49, (v23), (hlK21.trans hlK49), hM, rfl, f50⟩
          · subst ho'
            dsimp only at h
            refine x_block_ret ?_
            refine x_then_ret ?_
            have hr' := Option.some.inj h
            subst hr'
            refine ret2 (.inr rfl) hS rfl rfl rfl ?_
            exact ⟨K24, (Value.slice none 0 0), hlK24, (hM).tail, rfl, (Kd.sl_nil _ _)⟩

theorem raw_number_c {w0 w : World} {K : Hp} {L : List SP} {p1 : List UInt8} {r : Int × Bool} (hG : Glob w0) (h : raw_number p1 = some r) (hM : Sat w0 w K (L)) :
    Calls Tryd.prog 45 #[strV (p1)] w (fun e w' => ∃ (K' : Hp), Hp.le K K' ∧ Sat w0 w' K' (L) ∧ e = .returned (Value.tuple #[Value.int .i64 (r.1), Value.bool (r.2)])) := by
  refine enter_ (n := 30) (args := [strV (p1)]) Tryd.func45 rfl rfl (Nat.le_of_ble_eq_true rfl) fun a hS => ?_
  replace hS : Slots 30 [] a [(0, strV (p1))] := hS
  unfold raw_number at h
  refine wp_seq ?_
  refine wp_region_lit ?_
  refine st_val hS rfl rfl (by decide) (r_assign rfl (hS.ev_ rfl)) fun a hS => ?_
  refine st_val hS rfl rfl (by decide) (r_assign rfl (hS.ev_ rfl)) fun a hS => ?_
  refine st_done ?_
  replace hS : Slots 30 [] a [(3, Value.bool (false)), (2, Value.int .i64 (0)), (0, strV (p1))] := (hS.part (.cons rfl (.cons rfl (.cons rfl (.nil _)))))
  refine x_then ?_
  refine wp_seq ?_
  refine wp_region_lit ?_
  refine st_val hS rfl rfl (by decide) (r_move rfl (hS.ev_ rfl)) fun a hS => ?_
  obtain ⟨y2, h3, h⟩ := bindO h
  have hc5 := strconv_ParseUint_c hG h3 hM
  refine wl_cons rfl (e_call rfl Tryd.func54 rfl rfl (args3 (hS.ev_ rfl) (hS.ev_ rfl) (hS.ev_ rfl)) hc5 ?_)
  rintro _ w ⟨K4, v6, hlK4, hM, rfl, f7⟩
  refine ⟨_, rfl, ?_⟩
  refine pl hS rfl (by decide) fun a hS => ?_
  refine st_val hS rfl rfl (by decide) (r_move rfl (hS.ev_ rfl)) fun a hS => ?_
  refine st_val hS rfl rfl (by decide) (r_extract rfl (hS.ev_ rfl) rfl) fun a hS => ?_
  refine st_val hS rfl rfl (by decide) (r_extract rfl (hS.ev_ rfl) rfl) fun a hS => ?_
  refine st_val hS rfl rfl (by decide) (r_assign rfl (hS.ev_ rfl)) fun a hS => ?_
  refine st_val hS rfl rfl (by decide) (r_assign rfl (hS.ev_ rfl)) fun a hS => ?_
  refine st_done ?_
  replace hS : Slots 30 [] a [(5, v6), (4, Value.int .u64 (y2.1)), (3, Value.bool (false)), (2, Value.int .i64 (0)), (0, strV (p1))] := (hS.part (.cons rfl (.cons rfl (.cons rfl (.cons rfl (.cons rfl (.nil _)))))))
  refine x_then ?_
  obtain ⟨x8, h9, h⟩ := bindO h
  refine c_cut (fun a w => Slots 30 [] a [(2, Value.int .i64 (IntKind.i64.wrap y2.1)), (3, Value.bool (x8))] ∧ Sat w0 w K4 (L)) ?_ ?_
  ·
    refine tk_start #[false, false, false, false, false, false, false, false, false, false, false, false, false, false, false, false, false, false, false, false, false] mixed_ rfl rfl ?_
    replace hM := hM.drew
    generalize w.drew = w at hM ⊢
    refine dk_any (i := 0) #[true, false, false, false, false, false, false, false, false, false, false, false, false, false, false, false, false, false, false, false, false] hS rfl (by kernel_rfl) rfl rfl (by decide) (fun w => r_move rfl (hS.ev_ rfl)) fun a hS => ?_
    refine dk_any (i := 1) #[true, true, false, false, false, false, false, false, false, false, false, false, false, false, false, false, false, false, false, false, false] hS rfl (by kernel_rfl) rfl rfl (by decide) (fun w => r_conv_int rfl un_102 un_3 (hS.ev_ rfl)) fun a hS => ?_
    refine dk_any (i := 2) #[true, true, true, false, false, false, false, false, false, false, false, false, false, false, false, false, false, false, false, false, false] hS rfl (by kernel_rfl) rfl rfl (by decide) (fun w => r_move rfl (hS.ev_ rfl)) fun a hS => ?_
    refine dk_any (i := 3) #[true, true, true, true, false, false, false, false, false, false, false, false, false, false, false, false, false, false, false, false, false] hS rfl (by kernel_rfl) rfl rfl (by decide) (fun w => r_erb f7 rfl if_29 (hS.ev_ (v := v6) rfl)) fun a hS => ?_
    refine dk_any (i := 4) #[true, true, true, true, true, false, false, false, false, false, false, false, false, false, false, false, false, false, false, false, false] hS rfl (by kernel_rfl) rfl rfl (by decide) (fun w => r_move rfl (hS.ev_ rfl)) fun a hS => ?_
    rcases ifB h9 with ⟨hc10, h9⟩ | ⟨hc10, h9⟩
    ·
      replace hS := hS.known (k := 15) rfl hc10
      refine dk_want (i := 5) (S := Rd w0 K4 []) #[true, true, true, true, true, true, false, false, false, false, false, false, false, false, false, false, false, false, false, false, false] hS rfl (by kernel_rfl) rfl rfl rfl rfl rfl (by decide) (Rd.of hM.nil_) (fun w hR => r_move rfl (hS.ev_ rfl)) fun a hS => ?_
      refine dk_want (i := 6) (S := Rd w0 K4 []) #[true, true, true, true, true, true, true, false, false, false, false, false, false, false, false, false, false, false, false, false, false] hS rfl (by kernel_rfl) rfl rfl rfl rfl rfl (by decide) (Rd.of hM.nil_) (fun w hR => r_len_str rfl un_9 (hS.ev_ rfl)) fun a hS => ?_
      refine dk_want (i := 7) (S := Rd w0 K4 []) #[true, true, true, true, true, true, true, true, false, false, false, false, false, false, false, false, false, false, false, false, false] hS rfl (by kernel_rfl) rfl rfl rfl rfl rfl (by decide) (Rd.of hM.nil_) (fun w hR => r_cmp rfl (hS.ev_ rfl) (hS.ev_ rfl) rfl) fun a hS => ?_
      refine dk_any (i := 8) #[true, true, true, true, true, true, true, true, true, false, false, false, false, false, false, false, false, false, false, false, false] hS rfl (by kernel_rfl) rfl rfl (by decide) (fun w => r_pick_true rfl (hS.ev_ rfl) rfl (hS.ev_ rfl)) fun a hS => ?_
      refine dk_any (i := 9) #[true, true, true, true, true, true, true, true, true, true, false, false, false, false, false, false, false, false, false, false, false] hS rfl (by kernel_rfl) rfl rfl (by decide) (fun w => r_move rfl (hS.ev_ rfl)) fun a hS => ?_
      rcases ifB h9 with ⟨hc11, h9⟩ | ⟨hc11, h9⟩
      ·
        replace hS := hS.known (k := 20) rfl hc11
        refine dk_want (i := 10) (S := Rd w0 K4 []) #[true, true, true, true, true, true, true, true, true, true, true, false, false, false, false, false, false, false, false, false, false] hS rfl (by kernel_rfl) rfl rfl rfl rfl rfl (by decide) (Rd.of hM.nil_) (fun w hR => r_move rfl (hS.ev_ rfl)) fun a hS => ?_
        refine dk_want (i := 11) (S := Rd w0 K4 []) #[true, true, true, true, true, true, true, true, true, true, true, true, false, false, false, false, false, false, false, false, false] hS rfl (by kernel_rfl) rfl rfl rfl rfl rfl (by decide) (Rd.of hM.nil_) (fun w hR => r_len_str rfl un_9 (hS.ev_ rfl)) fun a hS => ?_
        refine dk_want (i := 12) (S := Rd w0 K4 []) #[true, true, true, true, true, true, true, true, true, true, true, true, true, false, false, false, false, false, false, false, false] hS rfl (by kernel_rfl) rfl rfl rfl rfl rfl (by decide) (Rd.of hM.nil_) (fun w hR => r_cmp rfl (hS.ev_ rfl) (hS.ev_ rfl) rfl) fun a hS => ?_
        refine dk_want (i := 13) (S := Rd w0 K4 []) #[true, true, true, true, true, true, true, true, true, true, true, true, true, true, false, false, false, false, false, false, false] hS rfl (by kernel_rfl) rfl rfl rfl rfl rfl (by decide) (Rd.of hM.nil_) (fun w hR => r_move rfl (hS.ev_ rfl)) fun a hS => ?_
        refine dk_any (i := 19) #[true, true, true, true, true, true, true, true, true, true, true, true, true, true, false, false, false, false, false, true, false] hS rfl (by kernel_rfl) rfl rfl (by decide) (fun w => r_assign rfl (hS.ev_ rfl)) fun a hS => ?_
        rcases ifB h9 with ⟨hc12, h9⟩ | ⟨hc12, h9⟩
        ·
          replace hS := hS.known (k := 24) rfl hc12
          refine dk_off (i := 14) (Rd w0 K4 []) #[true, true, true, true, true, true, true, true, true, true, true, true, true, true, true, false, false, false, false, true, false] hS rfl (by kernel_rfl) rfl rfl rfl rfl (.inl rfl) rfl (by decide) (Rd.of hM.nil_) fun a hS => ?_
          refine dk_off (i := 15) (Rd w0 K4 []) #[true, true, true, true, true, true, true, true, true, true, true, true, true, true, true, true, false, false, false, true, false] hS rfl (by kernel_rfl) rfl rfl rfl rfl (.inl rfl) rfl (by decide) (Rd.of hM.nil_) fun a hS => ?_
          refine dk_off (i := 16) (Rd w0 K4 []) #[true, true, true, true, true, true, true, true, true, true, true, true, true, true, true, true, true, false, false, true, false] hS rfl (by kernel_rfl) rfl rfl rfl rfl (.inl rfl) rfl (by decide) (Rd.of hM.nil_) fun a hS => ?_
          refine dk_want (i := 17) (S := Rd w0 K4 []) #[true, true, true, true, true, true, true, true, true, true, true, true, true, true, true, true, true, true, false, true, false] hS rfl (by kernel_rfl) rfl rfl rfl rfl rfl (by decide) (Rd.of hM.nil_) (fun w hR => r_pick_true rfl (hS.ev_ rfl) rfl (hS.ev_ rfl)) fun a hS => ?_
          refine dk_any (i := 18) #[true, true, true, true, true, true, true, true, true, true, true, true, true, true, true, true, true, true, true, true, false] hS rfl (by kernel_rfl) rfl rfl (by decide) (fun w => r_pick_true rfl (hS.ev_ rfl) rfl (hS.ev_ rfl)) fun a hS => ?_
          refine dk_any (i := 20) #[true, true, true, true, true, true, true, true, true, true, true, true, true, true, true, true, true, true, true, true, true] hS rfl (by kernel_rfl) rfl rfl (by decide) (fun w => r_assign rfl (hS.ev_ rfl)) fun a hS => ?_
          refine tk_done (by kernel_rfl) ?_
          replace hS : Slots 30 [] a [(3, Value.bool (true)), (2, Value.int .i64 (IntKind.i64.wrap y2.1))] := (hS.part (.cons rfl (.cons rfl (.nil _))))
          refine x_then ?_
          obtain rfl := Option.some.inj h9
          exact ⟨(hS.part (.cons rfl (.cons rfl (.nil _)))), hM⟩
        ·
          replace hS := hS.known (k := 24) rfl hc12
          refine dk_want (i := 14) (S := Rd w0 K4 []) #[true, true, true, true, true, true, true, true, true, true, true, true, true, true, true, false, false, false, false, true, false] hS rfl (by kernel_rfl) rfl rfl rfl rfl rfl (by decide) (Rd.of hM.nil_) (fun w hR => r_move rfl (hS.ev_ rfl)) fun a hS => ?_
          obtain ⟨c13, h14, h9⟩ := bindO h9
          refine dk_want (i := 15) (S := Rd w0 K4 []) #[true, true, true, true, true, true, true, true, true, true, true, true, true, true, true, true, false, false, false, true, false] hS rfl (by kernel_rfl) rfl rfl rfl rfl rfl (by decide) (Rd.of hM.nil_) (fun w hR => r_index_s rfl un_9 (hS.ev_ rfl) (hS.ev_ rfl) h14) fun a hS => ?_
          refine dk_want (i := 16) (S := Rd w0 K4 []) #[true, true, true, true, true, true, true, true, true, true, true, true, true, true, true, true, true, false, false, true, false] hS rfl (by kernel_rfl) rfl rfl rfl rfl rfl (by decide) (Rd.of hM.nil_) (fun w hR => r_cmp8 rfl (hS.ev_ rfl) (hS.ev_ (v := Value.int .u8 (b8 (48))) rfl) rfl) fun a hS => ?_
          refine dk_want (i := 17) (S := Rd w0 K4 []) #[true, true, true, true, true, true, true, true, true, true, true, true, true, true, true, true, true, true, false, true, false] hS rfl (by kernel_rfl) rfl rfl rfl rfl rfl (by decide) (Rd.of hM.nil_) (fun w hR => r_pick_false rfl (hS.ev_ rfl) rfl (hS.ev_ rfl)) fun a hS => ?_
          refine dk_any (i := 18) #[true, true, true, true, true, true, true, true, true, true, true, true, true, true, true, true, true, true, true, true, false] hS rfl (by kernel_rfl) rfl rfl (by decide) (fun w => r_pick_true rfl (hS.ev_ rfl) rfl (hS.ev_ rfl)) fun a hS => ?_
          refine dk_any (i := 20) #[true, true, true, true, true, true, true, true, true, true, true, true, true, true, true, true, true, true, true, true, true] hS rfl (by kernel_rfl) rfl rfl (by decide) (fun w => r_assign rfl (hS.ev_ rfl)) fun a hS => ?_
          refine tk_done (by kernel_rfl) ?_
          replace hS : Slots 30 [] a [(3, Value.bool (c13 != 48)), (2, Value.int .i64 (IntKind.i64.wrap y2.1))] := (hS.part (.cons rfl (.cons rfl (.nil _))))
          refine x_then ?_
          obtain rfl := Option.some.inj h9
          exact ⟨(hS.part (.cons rfl (.cons rfl (.nil _)))), hM⟩
      ·
        replace hS := hS.known (k := 20) rfl hc11
        refine dk_off (i := 10) (Rd w0 K4 []) #[true, true, true, true, true, true, true, true, true, true, true, false, false, false, false, false, false, false, false, false, false] hS rfl (by kernel_rfl) rfl rfl rfl rfl (.inl rfl) rfl (by decide) (Rd.of hM.nil_) fun a hS => ?_
        refine dk_off (i := 11) (Rd w0 K4 []) #[true, true, true, true, true, true, true, true, true, true, true, true, false, false, false, false, false, false, false, false, false] hS rfl (by kernel_rfl) rfl rfl rfl rfl (.inl rfl) rfl (by decide) (Rd.of hM.nil_) fun a hS => ?_
        refine dk_off (i := 12) (Rd w0 K4 []) #[true, true, true, true, true, true, true, true, true, true, true, true, true, false, false, false, false, false, false, false, false] hS rfl (by kernel_rfl) rfl rfl rfl rfl (.inl rfl) rfl (by decide) (Rd.of hM.nil_) fun a hS => ?_
        refine dk_off (i := 13) (Rd w0 K4 []) #[true, true, true, true, true, true, true, true, true, true, true, true, true, true, false, false, false, false, false, false, false] hS rfl (by kernel_rfl) rfl rfl rfl rfl (.inl rfl) rfl (by decide) (Rd.of hM.nil_) fun a hS => ?_
        refine dk_any (i := 19) #[true, true, true, true, true, true, true, true, true, true, true, true, true, true, false, false, false, false, false, true, false] hS rfl (by kernel_rfl) rfl rfl (by decide) (fun w => r_assign rfl (hS.ev_ rfl)) fun a hS => ?_
        refine dk_off (i := 14) (Rd w0 K4 []) #[true, true, true, true, true, true, true, true, true, true, true, true, true, true, true, false, false, false, false, true, false] hS rfl (by kernel_rfl) rfl rfl rfl rfl (.inr rfl) rfl (by decide) (Rd.of hM.nil_) fun a hS => ?_
        refine dk_off (i := 15) (Rd w0 K4 []) #[true, true, true, true, true, true, true, true, true, true, true, true, true, true, true, true, false, false, false, true, false] hS rfl (by kernel_rfl) rfl rfl rfl rfl (.inr rfl) rfl (by decide) (Rd.of hM.nil_) fun a hS => ?_
        refine dk_off (i := 16) (Rd w0 K4 []) #[true, true, true, true, true, true, true, true, true, true, true, true, true, true, true, true, true, false, false, true, false] hS rfl (by kernel_rfl) rfl rfl rfl rfl (.inr rfl) rfl (by decide) (Rd.of hM.nil_) fun a hS => ?_
        refine dk_off (i := 17) (Rd w0 K4 []) #[true, true, true, true, true, true, true, true, true, true, true, true, true, true, true, true, true, true, false, true, false] hS rfl (by kernel_rfl) rfl rfl rfl rfl (.inl rfl) rfl (by decide) (Rd.of hM.nil_) fun a hS => ?_
        refine dk_any (i := 18) #[true, true, true, true, true, true, true, true, true, true, true, true, true, true, true, true, true, true, true, true, false] hS rfl (by kernel_rfl) rfl rfl (by decide) (fun w => r_pick_false rfl (hS.ev_ rfl) rfl (hS.ev_ rfl)) fun a hS => ?_
        refine dk_any (i := 20) #[true, true, true, true, true, true, true, true, true, true, true, true, true, true, true, true, true, true, true, true, true] hS rfl (by kernel_rfl) rfl rfl (by decide) (fun w => r_assign rfl (hS.ev_ rfl)) fun a hS => ?_
        refine tk_done (by kernel_rfl) ?_
        replace hS : Slots 30 [] a [(3, Value.bool (false)), (2, Value.int .i64 (IntKind.i64.wrap y2.1))] := (hS.part (.cons rfl (.cons rfl (.nil _))))
        refine x_then ?_
        obtain rfl := Option.some.inj h9
        exact ⟨(hS.part (.cons rfl (.cons rfl (.nil _)))), hM⟩
    ·
      replace hS := hS.known (k := 15) rfl hc10
      refine dk_off (i := 5) (Rd w0 K4 []) #[true, true, true, true, true, true, false, false, false, false, false, false, false, false, false, false, false, false, false, false, false] hS rfl (by kernel_rfl) rfl rfl rfl rfl (.inl rfl) rfl (by decide) (Rd.of hM.nil_) fun a hS => ?_
      refine dk_off (i := 6) (Rd w0 K4 []) #[true, true, true, true, true, true, true, false, false, false, false, false, false, false, false, false, false, false, false, false, false] hS rfl (by kernel_rfl) rfl rfl rfl rfl (.inl rfl) rfl (by decide) (Rd.of hM.nil_) fun a hS => ?_
      refine dk_off (i := 7) (Rd w0 K4 []) #[true, true, true, true, true, true, true, true, false, false, false, false, false, false, false, false, false, false, false, false, false] hS rfl (by kernel_rfl) rfl rfl rfl rfl (.inl rfl) rfl (by decide) (Rd.of hM.nil_) fun a hS => ?_
      refine dk_any (i := 8) #[true, true, true, true, true, true, true, true, true, false, false, false, false, false, false, false, false, false, false, false, false] hS rfl (by kernel_rfl) rfl rfl (by decide) (fun w => r_pick_false rfl (hS.ev_ rfl) rfl (hS.ev_ rfl)) fun a hS => ?_
      refine dk_any (i := 9) #[true, true, true, true, true, true, true, true, true, true, false, false, false, false, false, false, false, false, false, false, false] hS rfl (by kernel_rfl) rfl rfl (by decide) (fun w => r_move rfl (hS.ev_ rfl)) fun a hS => ?_
      refine dk_off (i := 10) (Rd w0 K4 []) #[true, true, true, true, true, true, true, true, true, true, true, false, false, false, false, false, false, false, false, false, false] hS rfl (by kernel_rfl) rfl rfl rfl rfl (.inl rfl) rfl (by decide) (Rd.of hM.nil_) fun a hS => ?_
      refine dk_off (i := 11) (Rd w0 K4 []) #[true, true, true, true, true, true, true, true, true, true, true, true, false, false, false, false, false, false, false, false, false] hS rfl (by kernel_rfl) rfl rfl rfl rfl (.inl rfl) rfl (by decide) (Rd.of hM.nil_) fun a hS => ?_
      refine dk_off (i := 12) (Rd w0 K4 []) #[true, true, true, true, true, true, true, true, true, true, true, true, true, false, false, false, false, false, false, false, false] hS rfl (by kernel_rfl) rfl rfl rfl rfl (.inl rfl) rfl (by decide) (Rd.of hM.nil_) fun a hS => ?_
      refine dk_off (i := 13) (Rd w0 K4 []) #[true, true, true, true, true, true, true, true, true, true, true, true, true, true, false, false, false, false, false, false, false] hS rfl (by kernel_rfl) rfl rfl rfl rfl (.inl rfl) rfl (by decide) (Rd.of hM.nil_) fun a hS => ?_
      refine dk_any (i := 19) #[true, true, true, true, true, true, true, true, true, true, true, true, true, true, false, false, false, false, false, true, false] hS rfl (by kernel_rfl) rfl rfl (by decide) (fun w => r_assign rfl (hS.ev_ rfl)) fun a hS => ?_
      refine dk_off (i := 14) (Rd w0 K4 []) #[true, true, true, true, true, true, true, true, true, true, true, true, true, true, true, false, false, false, false, true, false] hS rfl (by kernel_rfl) rfl rfl rfl rfl (.inr rfl) rfl (by decide) (Rd.of hM.nil_) fun a hS => ?_
      refine dk_off (i := 15) (Rd w0 K4 []) #[true, true, true, true, true, true, true, true, true, true, true, true, true, true, true, true, false, false, false, true, false] hS rfl (by kernel_rfl) rfl rfl rfl rfl (.inr rfl) rfl (by decide) (Rd.of hM.nil_) fun a hS => ?_
      refine dk_off (i := 16) (Rd w0 K4 []) #[true, true, true, true, true, true, true, true, true, true, true, true, true, true, true, true, true, false, false, true, false] hS rfl (by kernel_rfl) rfl rfl rfl rfl (.inr rfl) rfl (by decide) (Rd.of hM.nil_) fun a hS => ?_
      refine dk_off (i := 17) (Rd w0 K4 []) #[true, true, true, true, true, true, true, true, true, true, true, true, true, true, true, true, true, true, false, true, false] hS rfl (by kernel_rfl) rfl rfl rfl rfl (.inl rfl) rfl (by decide) (Rd.of hM.nil_) fun a hS => ?_
      refine dk_any (i := 18) #[true, true, true, true, true, true, true, true, true, true, true, true, true, true, true, true, true, true, true, true, false] hS rfl (by kernel_rfl) rfl rfl (by decide) (fun w => r_pick_false rfl (hS.ev_ rfl) rfl (hS.ev_ rfl)) fun a hS => ?_
      refine dk_any (i := 20) #[true, true, true, true, true, true, true, true, true, true, true, true, true, true, true, true, true, true, true, true, true] hS rfl (by kernel_rfl) rfl rfl (by decide) (fun w => r_assign rfl (hS.ev_ rfl)) fun a hS => ?_
      refine tk_done (by kernel_rfl) ?_
      replace hS : Slots 30 [] a [(3, Value.bool (false)), (2, Value.int .i64 (IntKind.i64.wrap y2.1))] := (hS.part (.cons rfl (.cons rfl (.nil _))))
      refine x_then ?_
      obtain rfl := Option.some.inj h9
      exact ⟨(hS.part (.cons rfl (.cons rfl (.nil _)))), hM⟩
  · rintro a w ⟨hS, hM⟩
    refine wp_ret ?_
    have hr' := Option.some.inj h
    subst hr'
    refine ret2 (.inr rfl) hS rfl rfl rfl ?_
    exact ⟨K4, hlK4, hM, rfl⟩

theorem raw_marks_c {w0 w : World} {K : Hp} {L : List SP} {p1 : List UInt8} {r : (List Int) × Bool} (hG : Glob w0) (h : raw_marks p1 = some r) (hM : Sat w0 w K (L)) :
    Calls Tryd.prog 44 #[strV (p1)] w (fun e w' => ∃ (K' : Hp) (v'1 : Value), Hp.le K K' ∧ Sat w0 w' K' (L) ∧ e = .returned (Value.tuple #[v'1, Value.bool (r.2)]) ∧ (Kd.int .i64).sl K' v'1 r.1) := by
  refine enter_ (n := 29) (args := [strV (p1)]) Tryd.func44 rfl rfl (Nat.le_of_ble_eq_true rfl) fun a hS => ?_
  replace hS : Slots 29 [] a [(0, strV (p1))] := hS
  unfold raw_marks at h
  refine wp_seq ?_
  refine wp_region_lit ?_
  refine st_val hS rfl rfl (by decide) (r_assign rfl (hS.ev_ rfl)) fun a hS => ?_
  refine st_val hS rfl rfl (by decide) (r_assign rfl (hS.ev_ rfl)) fun a hS => ?_
  refine st_done ?_
  replace hS : Slots 29 [] a [(3, Value.bool (false)), (2, Value.slice none 0 0), (0, strV (p1))] := (hS.part (.cons rfl (.cons rfl (.cons rfl (.nil _)))))
  refine x_then ?_
  refine wp_seq ?_
  refine wp_region_lit ?_
  refine st_val hS rfl rfl (by decide) (r_assign rfl (hS.ev_ rfl)) fun a hS => ?_
  replace hM := hM.row_nil (Kd.int .i64) 3
  refine st_done ?_
  replace hS : Slots 29 [] a [(4, (Value.slice none 0 0)), (3, Value.bool (false)), (2, Value.slice none 0 0), (0, strV (p1))] := (hS.part (.cons rfl (.cons rfl (.cons rfl (.cons rfl (.nil _))))))
  refine x_then ?_
  refine wp_seq ?_
  refine wp_seq ?_
  refine wp_region_lit ?_
  refine st_val hS rfl rfl (by decide) (r_move rfl (hS.ev_ rfl)) fun a hS => ?_
  obtain ⟨y3, h4, h⟩ := bindO h
  have hc6 := strings_Split_c hG h4 hM
  refine wl_cons rfl (e_call rfl Tryd.func23 rfl rfl (args2 (hS.ev_ rfl) (hS.ev_ (v := strV (([44] : List UInt8))) rfl)) hc6 ?_)
  rintro _ w ⟨K5, v7, hlK5, hM, rfl, f8⟩
  refine ⟨_, rfl, ?_⟩
  refine pl hS rfl (by decide) fun a hS => ?_
  refine st_val hS rfl rfl (by decide) (r_len_sl rfl un_46 (hS.ev_ rfl) f8) fun a hS => ?_
  refine st_val hS rfl rfl (by decide) (r_move rfl (hS.ev_ rfl)) fun a hS => ?_
  refine st_done ?_
  replace hS : Slots 29 [] a [(12, Value.int .i64 (0)), (11, Value.int .i64 ((y3.length : Int))), (10, v7), (4, (Value.slice none 0 0)), (3, Value.bool (false)), (2, Value.slice none 0 0)] := (hS.part (.cons rfl (.cons rfl (.cons rfl (.cons rfl (.cons rfl (.cons rfl (.nil _))))))))
  refine x_then ?_
  refine wp_block ?_
  obtain ⟨o18, h19, h⟩ := bindO h
  refine c_loop_ways (fun e a w => (e = .exit 0 ∧ ∃ (K20 : Hp) (x21 : List Int) (v22 : Value), Hp.le K5 K20 ∧ o18 = Sum.inl x21 ∧ Slots 29 [] a [(2, Value.slice none 0 0), (3, Value.bool (false)), (4, v22)] ∧ Sat w0 w K20 (SP.row (Kd.int .i64) 3 v22 x21 :: L)) ∨ (e = .ret ∧ ∃ (K23 : Hp) (x24 : List Int) (v25 : Value), Hp.le K5 K23 ∧ o18 = Sum.inr x24 ∧ Slots 29 [] a [(2, Value.slice none 0 0), (3, Value.bool (false))] ∧ Sat w0 w K23 (SP.row (Kd.int .i64) 3 v25 x24 :: L))) ?_ ?_
  · intro c Q hc hQ
    have key : ∀ (x15 : Int) (x16 : List Int) (r' : Sum (List Int) (List Int)), raw_marks_l1 y3 x15 x16 = some r' → r' = o18 → ∀ (K14 : Hp) (v17 : Value) (a : Act) (w : World), Hp.le K5 K14 → Slots 29 [] a [(12, Value.int .i64 (x15)), (11, Value.int .i64 ((y3.length : Int))), (10, v7), (3, Value.bool (false)), (2, Value.slice none 0 0), (4, v17)] → Sat w0 w K14 (SP.row (Kd.int .i64) 3 v17 x16 :: L) → Rnd Tryd.prog c Q a w := by
      refine raw_marks_l1.partial_correctness y3 _ ?_
      intro raw_marks_l1_rec ih x15 x16 r' h hr K14 v17 a w hlK14 hS hM 
      subst hc
      refine c_round ?_
      refine wp_seq ?_
      refine wp_region_lit ?_
      refine st_val hS rfl rfl (by decide) (r_cmp rfl (hS.ev_ rfl) (hS.ev_ rfl) rfl) fun a hS => ?_
      refine st_done ?_
      replace hS : Slots 29 [] a [(13, Value.bool (decide (x15 < ((y3.length : Int))))), (12, Value.int .i64 (x15)), (11, Value.int .i64 ((y3.length : Int))), (10, v7), (3, Value.bool (false)), (2, Value.slice none 0 0), (4, v17)] := (hS.part (.cons rfl (.cons rfl (.cons rfl (.cons rfl (.cons rfl (.cons rfl (.cons rfl (.nil _)))))))))
      refine x_then ?_
      refine wp_seq ?_
      rcases ifB h with ⟨hc26, h⟩ | ⟨hc26, h⟩
      · refine c_cond_true (hS.ev_ rfl) hc26 ?_
        refine wp_skip ?_
        refine x_then ?_
        refine wp_seq ?_
        refine wp_block ?_
        refine wp_seq ?_
        refine wp_region_lit ?_
        obtain ⟨e27, h28, h⟩ := bindO h
        obtain ⟨ad29, cp30, cs31, hv32, hr33, h0_34, h1_35, hq36⟩ := sl_at f8 h28 (by decide)
        obtain rfl := hr33
        refine st_val hS rfl rfl (by decide) (r_idx_sl rfl un_46 ti_9 (hS.ev_ rfl) hv32 (hS.ev_ rfl) h0_34 h1_35) fun a hS => ?_
        refine st_val hS rfl rfl (by decide) (r_ld1_k rfl ag_9 (hS.ev_ rfl) hq36 rfl (Rd.up hlK14 hM.nil_)) fun a hS => ?_
        refine st_val hS rfl rfl (by decide) (r_assign rfl (hS.ev_ rfl)) fun a hS => ?_
        refine st_done ?_
        replace hS : Slots 29 [] a [(6, strV (e27)), (12, Value.int .i64 (x15)), (11, Value.int .i64 ((y3.length : Int))), (10, v7), (3, Value.bool (false)), (2, Value.slice none 0 0), (4, v17)] := (hS.part (.cons rfl (.cons rfl (.cons rfl (.cons rfl (.cons rfl (.cons rfl (.cons rfl (.nil _)))))))))
        refine x_then ?_
        refine wp_seq ?_
        refine wp_region_lit ?_
        refine st_val hS rfl rfl (by decide) (r_move rfl (hS.ev_ rfl)) fun a hS => ?_
        obtain ⟨y37, h38, h⟩ := bindO h
        have hc40 := raw_number_c hG h38 hM
        refine wl_cons rfl (e_call rfl Tryd.func45 rfl rfl (args1 (hS.ev_ rfl)) hc40 ?_)
        rintro _ w ⟨K39, hlK39, hM, rfl⟩
        refine ⟨_, rfl, ?_⟩
        refine pl hS rfl (by decide) fun a hS => ?_
        refine st_val hS rfl rfl (by decide) (r_move rfl (hS.ev_ rfl)) fun a hS => ?_
        refine st_val hS rfl rfl (by decide) (r_extract rfl (hS.ev_ rfl) rfl) fun a hS => ?_
        refine st_val hS rfl rfl (by decide) (r_extract rfl (hS.ev_ rfl) rfl) fun a hS => ?_
        refine st_val hS rfl rfl (by decide) (r_assign rfl (hS.ev_ rfl)) fun a hS => ?_
        refine st_val hS rfl rfl (by decide) (r_assign rfl (hS.ev_ rfl)) fun a hS => ?_
        refine st_done ?_
        replace hS : Slots 29 [] a [(8, Value.bool (y37.2)), (7, Value.int .i64 (y37.1)), (12, Value.int .i64 (x15)), (11, Value.int .i64 ((y3.length : Int))), (10, v7), (3, Value.bool (false)), (2, Value.slice none 0 0), (4, v17)] := (hS.part (.cons rfl (.cons rfl (.cons rfl (.cons rfl (.cons rfl (.cons rfl (.cons rfl (.cons rfl (.nil _))))))))))
        refine x_then ?_
        refine wp_seq ?_
        refine wp_seq ?_
        refine wp_region_lit ?_
        refine st_val hS rfl rfl (by decide) (r_move rfl (hS.ev_ rfl)) fun a hS => ?_
        refine st_val hS rfl rfl (by decide) (r_not rfl (hS.ev_ rfl)) fun a hS => ?_
        refine st_done ?_
        replace hS : Slots 29 [] a [(22, Value.bool (!y37.2)), (7, Value.int .i64 (y37.1)), (12, Value.int .i64 (x15)), (11, Value.int .i64 ((y3.length : Int))), (10, v7), (3, Value.bool (false)), (2, Value.slice none 0 0), (4, v17)] := (hS.part (.cons rfl (.cons rfl (.cons rfl (.cons rfl (.cons rfl (.cons rfl (.cons rfl (.cons rfl (.nil _))))))))))
        refine x_then ?_
        rcases ifB h with ⟨hc41, h⟩ | ⟨hc41, h⟩
        · refine c_cond_true (hS.ev_ rfl) hc41 ?_
          refine wp_seq ?_
          refine wp_region_lit ?_
          refine st_val hS rfl rfl (by decide) (r_assign rfl (hS.ev_ rfl)) fun a hS => ?_
          refine st_val hS rfl rfl (by decide) (r_assign rfl (hS.ev_ rfl)) fun a hS => ?_
          refine st_done ?_
          replace hS : Slots 29 [] a [(3, Value.bool (false)), (2, Value.slice none 0 0), (7, Value.int .i64 (y37.1)), (12, Value.int .i64 (x15)), (11, Value.int .i64 ((y3.length : Int))), (10, v7), (4, v17)] := (hS.part (.cons rfl (.cons rfl (.cons rfl (.cons rfl (.cons rfl (.cons rfl (.cons rfl (.nil _)))))))))
          refine x_then ?_
          refine wp_ret ?_
          refine x_then_ret ?_
          refine x_block_ret ?_
          refine x_then_ret ?_
          refine x_then_ret ?_
          have ho' := (Option.some.inj h).trans hr
          refine hQ _ _ _ ?_
          exact .inr (⟨rfl, K39, x16, (v17), (hlK14.trans hlK39), ho'.symm, (hS.part (.cons rfl (.cons rfl (.nil _)))), hM⟩)
        · refine c_cond_false (hS.ev_ rfl) hc41 ?_
          refine wp_skip ?_
          refine x_then ?_
          refine wp_region_lit ?_
          refine st_val hS rfl rfl (by decide) (r_move rfl (hS.ev_ rfl)) fun a hS => ?_
          refine st_val hS rfl rfl (by decide) (r_move rfl (hS.ev_ rfl)) fun a hS => ?_
          refine wl_cons rfl (e_litK (d := (Kd.int .i64)) (e := 3) (cs := [Value.int .i64 (y37.1)]) (xs := ([y37.1] : List Int)) hM rfl (parts_ev hS rfl) (by kernel_rfl) ⟨[Value.int .i64 (y37.1)], [], rfl, rfl, rfl⟩ rfl (by decide) fun v42 K43 w hlK43 hM f44 => ?_)
          refine pl hS rfl (by decide) fun a hS => ?_
          obtain ⟨h45, h⟩ := bindU h
          refine wl_cons rfl (e_apd_sl hM rfl un_23 un_23 ti_3 rfl rfl (by decide) (hS.ev_ rfl) (hS.ev_ rfl) f44 (req_some h45) fun v46 w hM => ?_)
          refine pl hS rfl (by decide) fun a hS => ?_
          refine st_val hS rfl rfl (by decide) (r_assign rfl (hS.ev_ rfl)) fun a hS => ?_
          refine st_done ?_
          replace hS : Slots 29 [] a [(4, v46), (12, Value.int .i64 (x15)), (11, Value.int .i64 ((y3.length : Int))), (10, v7), (3, Value.bool (false)), (2, Value.slice none 0 0)] := (hS.part (.cons rfl (.cons rfl (.cons rfl (.cons rfl (.cons rfl (.cons rfl (.nil _))))))))
          refine x_block ?_
          refine x_then ?_
          refine wp_region_lit ?_
          refine st_val hS rfl rfl (by decide) (r_add rfl (hS.ev_ rfl) (hS.ev_ rfl)) fun a hS => ?_
          refine st_val hS rfl rfl (by decide) (r_move rfl (hS.ev_ rfl)) fun a hS => ?_
          refine st_done ?_
          replace hS : Slots 29 [] a [(12, Value.int .i64 (w64 (x15 + 1))), (4, v46), (11, Value.int .i64 ((y3.length : Int))), (10, v7), (3, Value.bool (false)), (2, Value.slice none 0 0)] := (hS.part (.cons rfl (.cons rfl (.cons rfl (.cons rfl (.cons rfl (.cons rfl (.nil _))))))))
          refine x_then ?_
          exact ih (w64 (x15 + 1)) (x16 ++ (([y37.1] : List Int))) _ h hr K43 (v46) _ _ ((hlK14.trans hlK39).trans hlK43) (hS.part (.cons rfl (.cons rfl (.cons rfl (.cons rfl (.cons rfl (.cons rfl (.nil _)))))))) (hM)
      · refine c_cond_false (hS.ev_ rfl) hc26 ?_
        refine wp_exit ?_
        refine x_then_exit ?_
        refine x_then_exit ?_
        have ho' := (Option.some.inj h).trans hr
        refine hQ _ _ _ ?_
        exact .inl ⟨rfl, K14, x16, (v17), hlK14, ho'.symm, (hS.part (.cons rfl (.cons rfl (.cons rfl (.nil _))))), hM⟩
    exact key 0 (([] : List Int)) _ h19 rfl K5 ((Value.slice none 0 0)) _ _ (Hp.le.refl _) (hS.part (.cons rfl (.cons rfl (.cons rfl (.cons rfl (.cons rfl (.cons rfl (.nil _)))))))) (hM)
  · rintro e a w (⟨rfl, K20, x21, v22, hlK20, ho', hS, hM⟩ | ⟨rfl, K23, x24, v25, hlK23, ho', hS, hM⟩)
    · subst ho'
      dsimp only at h
      refine x_block_here ?_
      refine x_then ?_
      refine wp_seq ?_
      refine wp_region_lit ?_
      refine st_val hS rfl rfl (by decide) (r_move rfl (hS.ev_ rfl)) fun a hS => ?_
      refine st_val hS rfl rfl (by decide) (r_assign rfl (hS.ev_ rfl)) fun a hS => ?_
      refine st_val hS rfl rfl (by decide) (r_assign rfl (hS.ev_ rfl)) fun a hS => ?_
      refine st_done ?_
      replace hS : Slots 29 [] a [(3, Value.bool (true)), (2, v22)] := (hS.part (.cons rfl (.cons rfl (.nil _))))
      refine x_then ?_
      refine wp_ret ?_
      obtain ⟨K47, hlK47, hM, f48⟩ := keep_row hM
      have hr' := Option.some.inj h
      subst hr'
      refine ret2 (.inr rfl) hS rfl rfl rfl ?_
      exact ⟨K47, (v22), ((hlK5.trans hlK20).trans hlK47), hM, rfl, f48⟩
    · subst ho'
      dsimp only at h
      refine x_block_ret ?_
      refine x_then_ret ?_
      have hr' := Option.some.inj h
      subst hr'
      refine ret2 (.inr rfl) hS rfl rfl rfl ?_
      exact ⟨K23, (Value.slice none 0 0), (hlK5.trans hlK23), (hM).tail, rfl, (Kd.sl_nil _ _)⟩

theorem raw_came_c {w0 w : World} {K : Hp} {L : List SP} {p1 : List (List UInt8)} {v2 : Value} {r : raw_Event × Bool} (hG : Glob w0) (h : raw_came p1 = some r) (f3 : Kd.str.sl K v2 p1) (hM : Sat w0 w K (L)) :
    Calls Tryd.prog 34 #[v2] w (fun e w' => ∃ (K' : Hp) (v'1 v'2 : Value), Hp.le K K' ∧ Sat w0 w' K' (L) ∧ e = .returned (Value.tuple #[Value.agg #[Value.int .i64 (r.1.f_Kind), Value.int .i64 (r.1.f_N), v'1, v'2], Value.bool (r.2)]) ∧ Kd.u8.sl K' v'1 r.1.f_Bytes ∧ (Kd.int .i64).sl K' v'2 r.1.f_Marks) := by
  refine enter_ (n := 48) (args := [v2]) Tryd.func34 rfl rfl (Nat.le_of_ble_eq_true rfl) fun a hS => ?_
  replace hS : Slots 48 [] a [(0, v2)] := hS
  unfold raw_came at h
  refine wp_seq ?_
  refine wp_region_lit ?_
  refine wl_cons rfl (e_alloc (cs := [Value.int .i64 (0), Value.int .i64 (0), Value.slice none 0 0, Value.slice none 0 0]) hM rfl ti_25 rfl fun g4 w hM => ?_)
  refine pl hS rfl (by decide) fun a hS => ?_
  refine st_val hS rfl rfl (by decide) (r_assign rfl (hS.ev_ rfl)) fun a hS => ?_
  refine st_done ?_
  replace hS : Slots 48 [] a [(3, Value.bool (false)), (2, Value.pointer (some ⟨g4, 0, none⟩)), (0, v2)] := (hS.part (.cons rfl (.cons rfl (.cons rfl (.nil _)))))
  refine x_then ?_
  refine wp_seq ?_
  refine wp_region_lit ?_
  refine st_val hS rfl rfl (by decide) (r_build (cs := [Value.int .i64 (1), Value.int .i64 (0), Value.slice none 0 0, Value.slice none 0 0]) rfl (parts_ev hS rfl) (by kernel_rfl)) fun a hS => ?_
  refine wl_cons rfl (e_alloc (cs := [Value.int .i64 (0), Value.int .i64 (0), Value.slice none 0 0, Value.slice none 0 0]) hM rfl ti_25 rfl fun g6 w hM => ?_)
  refine pl hS rfl (by decide) fun a hS => ?_
  refine wl_cons rfl (e_storeN (vs := [Value.int .i64 (1), Value.int .i64 (0), Value.slice none 0 0, Value.slice none 0 0]) hM rfl ti_25 (hS.ev_ rfl) (hS.ev_ rfl) (ones_cons rfl (ones_cons rfl (ones_cons rfl (ones_cons rfl ones_nil)))) (Nat.le_of_ble_eq_true rfl) fun w hM => ?_)
  have hM : Sat w0 w K (SP.blk g6 25 [Value.int .i64 (1), Value.int .i64 (0), Value.slice none 0 0, Value.slice none 0 0] :: SP.blk g4 25 [Value.int .i64 (0), Value.int .i64 (0), Value.slice none 0 0, Value.slice none 0 0] :: L) := hM
  refine pl0 hS rfl fun a hS => ?_
  refine st_done ?_
  replace hS : Slots 48 [] a [(4, Value.pointer (some ⟨g6, 0, none⟩)), (3, Value.bool (false)), (2, Value.pointer (some ⟨g4, 0, none⟩)), (0, v2)] := (hS.part (.cons rfl (.cons rfl (.cons rfl (.cons rfl (.nil _))))))
  refine x_then ?_
  refine wp_seq ?_
  refine wp_region_lit ?_
  refine st_val hS rfl rfl (by decide) (r_move rfl (hS.ev_ rfl)) fun a hS => ?_
  refine st_val hS rfl rfl (by decide) (r_len_sl rfl un_46 (hS.ev_ rfl) f3) fun a hS => ?_
  refine st_val hS rfl rfl (by decide) (r_cmp rfl (hS.ev_ rfl) (hS.ev_ rfl) rfl) fun a hS => ?_
  refine st_val hS rfl rfl (by decide) (r_move rfl (hS.ev_ rfl)) fun a hS => ?_
  obtain ⟨x8, h9, h⟩ := bindO h
  refine wl_cut 10 (fun a w => Slots 48 [] a [(0, v2), (2, Value.pointer (some ⟨g4, 0, none⟩)), (3, Value.bool (false)), (4, Value.pointer (some ⟨g6, 0, none⟩)), (20, Value.bool (x8))] ∧ Sat w0 w K (SP.blk g6 25 [Value.int .i64 (1), Value.int .i64 (0), Value.slice none 0 0, Value.slice none 0 0] :: SP.blk g4 25 [Value.int .i64 (0), Value.int .i64 (0), Value.slice none 0 0, Value.slice none 0 0] :: L)) ?_ ?_
  ·
    skip
    rcases ifB h9 with ⟨hc10, h9⟩ | ⟨hc10, h9⟩
    ·
      replace hS := hS.known (k := 10) rfl hc10
      refine st_off hS rfl rfl rfl rfl rfl rfl (by decide) fun a hS => ?_
      refine st_off hS rfl rfl rfl rfl rfl rfl (by decide) fun a hS => ?_
      refine st_off hS rfl rfl rfl rfl rfl rfl (by decide) fun a hS => ?_
      refine st_off hS rfl rfl rfl rfl rfl rfl (by decide) fun a hS => ?_
      refine st_off_undef hS rfl rfl rfl rfl rfl (by decide) fun a hS => ?_
      refine st_off_undef hS rfl rfl rfl rfl rfl (by decide) fun a hS => ?_
      refine st_off_undef hS rfl rfl rfl rfl rfl (by decide) fun a hS => ?_
      refine st_off_undef hS rfl rfl rfl rfl rfl (by decide) fun a hS => ?_
      refine st_off hS rfl rfl rfl rfl rfl rfl (by decide) fun a hS => ?_
      refine st_val hS rfl rfl (by decide) (r_pick_true rfl (hS.ev_ rfl) rfl (hS.ev_ rfl)) fun a hS => ?_
      refine st_done ?_
      replace hS : Slots 48 [] a [(20, Value.bool (true)), (4, Value.pointer (some ⟨g6, 0, none⟩)), (3, Value.bool (false)), (2, Value.pointer (some ⟨g4, 0, none⟩)), (0, v2)] := (hS.part (.cons rfl (.cons rfl (.cons rfl (.cons rfl (.cons rfl (.nil _)))))))
      refine x_then ?_
      obtain rfl := Option.some.inj h9
      exact ⟨(hS.part (.cons rfl (.cons rfl (.cons rfl (.cons rfl (.cons rfl (.nil _))))))), ((hM.pull 1 rfl rfl).pull 1 rfl rfl)⟩
    ·
      replace hS := hS.known (k := 10) rfl hc10
      refine st_want hS rfl rfl rfl rfl rfl (by decide) (r_move rfl (hS.ev_ rfl)) fun a hS => ?_
      refine st_want hS rfl rfl rfl rfl rfl (by decide) (r_len_sl rfl un_46 (hS.ev_ rfl) f3) fun a hS => ?_
      refine st_want hS rfl rfl rfl rfl rfl (by decide) (r_cmp rfl (hS.ev_ rfl) (hS.ev_ rfl) rfl) fun a hS => ?_
      refine st_want hS rfl rfl rfl rfl rfl (by decide) (r_move rfl (hS.ev_ rfl)) fun a hS => ?_
      obtain ⟨x11, h12, h9⟩ := bindO h9
      refine wl_cut 5 (fun a w => Slots 48 [] a [(0, v2), (2, Value.pointer (some ⟨g4, 0, none⟩)), (3, Value.bool (false)), (4, Value.pointer (some ⟨g6, 0, none⟩)), (10, Value.bool (false)), (19, Value.bool (x11))] ∧ Sat w0 w K (SP.blk g6 25 [Value.int .i64 (1), Value.int .i64 (0), Value.slice none 0 0, Value.slice none 0 0] :: SP.blk g4 25 [Value.int .i64 (0), Value.int .i64 (0), Value.slice none 0 0, Value.slice none 0 0] :: L)) ?_ ?_
      ·
        skip
        rcases ifB h12 with ⟨hc13, h12⟩ | ⟨hc13, h12⟩
        ·
          replace hS := hS.known (k := 14) rfl hc13
          refine st_want hS rfl rfl rfl rfl rfl (by decide) (r_move rfl (hS.ev_ rfl)) fun a hS => ?_
          obtain ⟨e14, h15, h12⟩ := bindO h12
          obtain ⟨ad16, cp17, cs18, hv19, hr20, h0_21, h1_22, hq23⟩ := sl_at f3 h15 (by decide)
          obtain rfl := hr20
          refine st_want hS rfl rfl rfl rfl rfl (by decide) (r_idx_sl rfl un_46 ti_9 (hS.ev_ rfl) hv19 (hS.ev_ rfl) h0_21 h1_22) fun a hS => ?_
          refine st_want hS rfl rfl rfl rfl rfl (by decide) (r_ld1_k rfl ag_9 (hS.ev_ rfl) hq23 rfl (Rd.up (Hp.le.refl _) hM.nil_)) fun a hS => ?_
          refine st_want hS rfl rfl rfl rfl rfl (by decide) (r_seq rfl (hS.ev_ rfl) (hS.ev_ (v := strV (([109, 97, 114, 107, 115] : List UInt8))) rfl)) fun a hS => ?_
          refine st_want hS rfl rfl rfl rfl rfl (by decide) (r_pick_true rfl (hS.ev_ rfl) rfl (hS.ev_ rfl)) fun a hS => ?_
          refine st_done ?_
          replace hS : Slots 48 [] a [(19, Value.bool (e14 == ([109, 97, 114, 107, 115] : List UInt8))), (10, Value.bool (false)), (4, Value.pointer (some ⟨g6, 0, none⟩)), (3, Value.bool (false)), (2, Value.pointer (some ⟨g4, 0, none⟩)), (0, v2)] := (hS.part (.cons rfl (.cons rfl (.cons rfl (.cons rfl (.cons rfl (.cons rfl (.nil _))))))))
          refine x_then ?_
          obtain rfl := Option.some.inj h12
          exact ⟨(hS.part (.cons rfl (.cons rfl (.cons rfl (.cons rfl (.cons rfl (.cons rfl (.nil _)))))))), ((hM.pull 1 rfl rfl).pull 1 rfl rfl)⟩
        ·
          replace hS := hS.known (k := 14) rfl hc13
          refine st_off hS rfl rfl rfl rfl rfl rfl (by decide) fun a hS => ?_
          refine st_off hS rfl rfl rfl rfl rfl rfl (by decide) fun a hS => ?_
          refine st_off hS rfl rfl rfl rfl rfl rfl (by decide) fun a hS => ?_
          refine st_off hS rfl rfl rfl rfl rfl rfl (by decide) fun a hS => ?_
          refine st_want hS rfl rfl rfl rfl rfl (by decide) (r_pick_false rfl (hS.ev_ rfl) rfl (hS.ev_ rfl)) fun a hS => ?_
          refine st_done ?_
          replace hS : Slots 48 [] a [(19, Value.bool (false)), (10, Value.bool (false)), (4, Value.pointer (some ⟨g6, 0, none⟩)), (3, Value.bool (false)), (2, Value.pointer (some ⟨g4, 0, none⟩)), (0, v2)] := (hS.part (.cons rfl (.cons rfl (.cons rfl (.cons rfl (.cons rfl (.cons rfl (.nil _))))))))
          refine x_then ?_
          obtain rfl := Option.some.inj h12
          exact ⟨(hS.part (.cons rfl (.cons rfl (.cons rfl (.cons rfl (.cons rfl (.cons rfl (.nil _)))))))), ((hM.pull 1 rfl rfl).pull 1 rfl rfl)⟩
      · rintro a w ⟨hS, hM⟩
        refine st_val hS rfl rfl (by decide) (r_pick_false rfl (hS.ev_ rfl) rfl (hS.ev_ rfl)) fun a hS => ?_
        refine st_done ?_
        replace hS : Slots 48 [] a [(20, Value.bool (x11)), (0, v2), (2, Value.pointer (some ⟨g4, 0, none⟩)), (3, Value.bool (false)), (4, Value.pointer (some ⟨g6, 0, none⟩))] := (hS.part (.cons rfl (.cons rfl (.cons rfl (.cons rfl (.cons rfl (.nil _)))))))
        refine x_then ?_
        obtain rfl := Option.some.inj h9
        exact ⟨(hS.part (.cons rfl (.cons rfl (.cons rfl (.cons rfl (.cons rfl (.nil _))))))), ((hM.pull 1 rfl rfl).pull 1 rfl rfl)⟩
  · rintro a w ⟨hS, hM⟩
    refine st_val hS rfl rfl (by decide) (r_assign rfl (hS.ev_ rfl)) fun a hS => ?_
    refine st_done ?_
    replace hS : Slots 48 [] a [(5, Value.bool (x8)), (0, v2), (2, Value.pointer (some ⟨g4, 0, none⟩)), (3, Value.bool (false)), (4, Value.pointer (some ⟨g6, 0, none⟩))] := (hS.part (.cons rfl (.cons rfl (.cons rfl (.cons rfl (.cons rfl (.nil _)))))))
    refine x_then ?_
    refine wp_seq ?_
    refine wp_seq ?_
    refine wp_region_lit ?_
    refine st_val hS rfl rfl (by decide) (r_move rfl (hS.ev_ rfl)) fun a hS => ?_
    refine st_val hS rfl rfl (by decide) (r_not rfl (hS.ev_ rfl)) fun a hS => ?_
    refine st_done ?_
    replace hS : Slots 48 [] a [(22, Value.bool (!x8)), (0, v2), (2, Value.pointer (some ⟨g4, 0, none⟩)), (3, Value.bool (false)), (4, Value.pointer (some ⟨g6, 0, none⟩))] := (hS.part (.cons rfl (.cons rfl (.cons rfl (.cons rfl (.cons rfl (.nil _)))))))
    refine x_then ?_
    rcases ifB h with ⟨hc24, h⟩ | ⟨hc24, h⟩
    · refine c_cond_true (hS.ev_ rfl) hc24 ?_
      refine wp_seq ?_
      refine wp_region_lit ?_
      refine st_val hS rfl rfl (by decide) (r_ldN_b (cs' := [Value.int .i64 (1), Value.int .i64 (0), Value.slice none 0 0, Value.slice none 0 0]) rfl ag_25 ti_25 (hS.ev_ rfl) rfl (Rd.of hM)) fun a hS => ?_
      replace hM := hM.pull 1 rfl rfl
      refine wl_cons rfl (e_storeN (vs := [Value.int .i64 (1), Value.int .i64 (0), Value.slice none 0 0, Value.slice none 0 0]) hM rfl ti_25 (hS.ev_ rfl) (hS.ev_ rfl) (ones_cons rfl (ones_cons rfl (ones_cons rfl (ones_cons rfl ones_nil)))) (Nat.le_of_ble_eq_true rfl) fun w hM => ?_)
      have hM : Sat w0 w K (SP.blk g4 25 [Value.int .i64 (1), Value.int .i64 (0), Value.slice none 0 0, Value.slice none 0 0] :: SP.blk g6 25 [Value.int .i64 (1), Value.int .i64 (0), Value.slice none 0 0, Value.slice none 0 0] :: L) := hM
      refine pl0 hS rfl fun a hS => ?_
      refine st_val hS rfl rfl (by decide) (r_assign rfl (hS.ev_ rfl)) fun a hS => ?_
      refine st_done ?_
      replace hS : Slots 48 [] a [(3, Value.bool (false)), (0, v2), (2, Value.pointer (some ⟨g4, 0, none⟩)), (4, Value.pointer (some ⟨g6, 0, none⟩))] := (hS.part (.cons rfl (.cons rfl (.cons rfl (.cons rfl (.nil _))))))
      refine x_then ?_
      refine wp_ret ?_
      refine x_then_ret ?_
      have hr' := Option.some.inj h
      subst hr'
      refine retR2 (.inr rfl) hS rfl ⟨_, rfl, lv_N (cs' := [Value.int .i64 (1), Value.int .i64 (0), Value.slice none 0 0, Value.slice none 0 0]) hM ag_25 ti_25 rfl⟩ (show Sl.look _ _ = some (Value.bool (false)) from rfl) ?_
      exact ⟨K, (Value.slice none 0 0), (Value.slice none 0 0), (Hp.le.refl _), ((hM).tail).tail, rfl, (Kd.sl_nil _ _), (Kd.sl_nil _ _)⟩
    · refine c_cond_false (hS.ev_ rfl) hc24 ?_
      refine wp_skip ?_
      refine x_then ?_
      refine wp_seq ?_
      refine wp_region_lit ?_
      refine st_val hS rfl rfl (by decide) (r_move rfl (hS.ev_ rfl)) fun a hS => ?_
      obtain ⟨e25, h26, h⟩ := bindO h
      obtain ⟨ad27, cp28, cs29, hv30, hr31, h0_32, h1_33, hq34⟩ := sl_at f3 h26 (by decide)
      obtain rfl := hr31
      refine st_val hS rfl rfl (by decide) (r_idx_sl rfl un_46 ti_9 (hS.ev_ rfl) hv30 (hS.ev_ rfl) h0_32 h1_33) fun a hS => ?_
      refine st_val hS rfl rfl (by decide) (r_ld1_k rfl ag_9 (hS.ev_ rfl) hq34 rfl (Rd.up (Hp.le.refl _) hM.nil_)) fun a hS => ?_
      obtain ⟨y35, h36, h⟩ := bindO h
      have hc38 := raw_read_c hG h36 hM
      refine wl_cons rfl (e_call rfl Tryd.func43 rfl rfl (args1 (hS.ev_ rfl)) hc38 ?_)
      rintro _ w ⟨K37, v39, hlK37, hM, rfl, f40⟩
      refine ⟨_, rfl, ?_⟩
      refine pl hS rfl (by decide) fun a hS => ?_
      refine st_val hS rfl rfl (by decide) (r_move rfl (hS.ev_ rfl)) fun a hS => ?_
      refine st_val hS rfl rfl (by decide) (r_extract rfl (hS.ev_ rfl) rfl) fun a hS => ?_
      refine st_val hS rfl rfl (by decide) (r_extract rfl (hS.ev_ rfl) rfl) fun a hS => ?_
      refine st_val hS rfl rfl (by decide) (r_fld_b rfl fo_25_2 (hS.ev_ rfl)) fun a hS => ?_
      refine wl_cons rfl (e_store1 hM rfl ti_22 (hS.ev_ rfl) (hS.ev_ rfl) (sl_one f40) (Nat.lt_of_lt_of_le (Nat.le_of_ble_eq_true rfl) (Nat.le_refl _)) fun w hM => ?_)
      have hM : Sat w0 w K37 (SP.blk g6 25 [Value.int .i64 (1), Value.int .i64 (0), v39, Value.slice none 0 0] :: SP.blk g4 25 [Value.int .i64 (0), Value.int .i64 (0), Value.slice none 0 0, Value.slice none 0 0] :: L) := hM
      refine pl0 hS rfl fun a hS => ?_
      refine st_val hS rfl rfl (by decide) (r_assign rfl (hS.ev_ rfl)) fun a hS => ?_
      refine st_done ?_
      replace hS : Slots 48 [] a [(5, Value.bool (y35.2)), (0, v2), (2, Value.pointer (some ⟨g4, 0, none⟩)), (3, Value.bool (false)), (4, Value.pointer (some ⟨g6, 0, none⟩))] := (hS.part (.cons rfl (.cons rfl (.cons rfl (.cons rfl (.cons rfl (.nil _)))))))
      refine x_then ?_
      obtain ⟨x42, h43, h⟩ := bindO h
      refine c_cut (fun a w => ∃ (K41 : Hp) (v44 : Value), Hp.le K37 K41 ∧ Slots 48 [] a [(2, Value.pointer (some ⟨g4, 0, none⟩)), (3, Value.bool (false)), (4, Value.pointer (some ⟨g6, 0, none⟩)), (5, Value.bool (x42.1))] ∧ Sat w0 w K41 (SP.blk g6 25 [Value.int .i64 (1), Value.int .i64 (0), v39, v44] :: SP.blk g4 25 [Value.int .i64 (0), Value.int .i64 (0), Value.slice none 0 0, Value.slice none 0 0] :: L) ∧ (Kd.int .i64).sl K41 v44 x42.2) ?_ ?_
      ·
        refine wp_seq ?_
        refine wp_region_lit ?_
        refine st_val hS rfl rfl (by decide) (r_move rfl (hS.ev_ rfl)) fun a hS => ?_
        refine st_val hS rfl rfl (by decide) (r_move rfl (hS.ev_ rfl)) fun a hS => ?_
        obtain ⟨x46, h47, h43⟩ := bindO h43
        refine wl_cut 4 (fun a w => Slots 48 [] a [(0, v2), (2, Value.pointer (some ⟨g4, 0, none⟩)), (3, Value.bool (false)), (4, Value.pointer (some ⟨g6, 0, none⟩)), (5, Value.bool (y35.2)), (37, Value.bool (x46))] ∧ Sat w0 w K37 (SP.blk g6 25 [Value.int .i64 (1), Value.int .i64 (0), v39, Value.slice none 0 0] :: SP.blk g4 25 [Value.int .i64 (0), Value.int .i64 (0), Value.slice none 0 0, Value.slice none 0 0] :: L)) ?_ ?_
        ·
          skip
          rcases ifB h47 with ⟨hc48, h47⟩ | ⟨hc48, h47⟩
          ·
            replace hS := hS.known (k := 33) rfl hc48
            refine st_want hS rfl rfl rfl rfl rfl (by decide) (r_move rfl (hS.ev_ rfl)) fun a hS => ?_
            refine st_want hS rfl rfl rfl rfl rfl (by decide) (r_len_sl rfl un_46 (hS.ev_ rfl) f3) fun a hS => ?_
            refine st_want hS rfl rfl rfl rfl rfl (by decide) (r_cmp rfl (hS.ev_ rfl) (hS.ev_ rfl) rfl) fun a hS => ?_
            refine st_val hS rfl rfl (by decide) (r_pick_true rfl (hS.ev_ rfl) rfl (hS.ev_ rfl)) fun a hS => ?_
            refine st_done ?_
            replace hS : Slots 48 [] a [(37, Value.bool (((p1.length : Int)) == 4)), (5, Value.bool (y35.2)), (0, v2), (2, Value.pointer (some ⟨g4, 0, none⟩)), (3, Value.bool (false)), (4, Value.pointer (some ⟨g6, 0, none⟩))] := (hS.part (.cons rfl (.cons rfl (.cons rfl (.cons rfl (.cons rfl (.cons rfl (.nil _))))))))
            refine x_then ?_
            obtain rfl := Option.some.inj h47
            exact ⟨(hS.part (.cons rfl (.cons rfl (.cons rfl (.cons rfl (.cons rfl (.cons rfl (.nil _)))))))), ((hM.pull 1 rfl rfl).pull 1 rfl rfl)⟩
          ·
            replace hS := hS.known (k := 33) rfl hc48
            refine st_off hS rfl rfl rfl rfl rfl rfl (by decide) fun a hS => ?_
            refine st_off hS rfl rfl rfl rfl rfl rfl (by decide) fun a hS => ?_
            refine st_off hS rfl rfl rfl rfl rfl rfl (by decide) fun a hS => ?_
            refine st_val hS rfl rfl (by decide) (r_pick_false rfl (hS.ev_ rfl) rfl (hS.ev_ rfl)) fun a hS => ?_
            refine st_done ?_
            replace hS : Slots 48 [] a [(37, Value.bool (false)), (5, Value.bool (y35.2)), (0, v2), (2, Value.pointer (some ⟨g4, 0, none⟩)), (3, Value.bool (false)), (4, Value.pointer (some ⟨g6, 0, none⟩))] := (hS.part (.cons rfl (.cons rfl (.cons rfl (.cons rfl (.cons rfl (.cons rfl (.nil _))))))))
            refine x_then ?_
            obtain rfl := Option.some.inj h47
            exact ⟨(hS.part (.cons rfl (.cons rfl (.cons rfl (.cons rfl (.cons rfl (.cons rfl (.nil _)))))))), ((hM.pull 1 rfl rfl).pull 1 rfl rfl)⟩
        · rintro a w ⟨hS, hM⟩
          refine st_done ?_
          replace hS : Slots 48 [] a [(0, v2), (2, Value.pointer (some ⟨g4, 0, none⟩)), (3, Value.bool (false)), (4, Value.pointer (some ⟨g6, 0, none⟩)), (5, Value.bool (y35.2)), (37, Value.bool (x46))] := (hS.part (.cons rfl (.cons rfl (.cons rfl (.cons rfl (.cons rfl (.cons rfl (.nil _))))))))
          refine x_then ?_
          rcases ifB h43 with ⟨hc49, h43⟩ | ⟨hc49, h43⟩
          · refine c_cond_true (hS.ev_ rfl) hc49 ?_
            refine wp_region_lit ?_
            refine st_val hS rfl rfl (by decide) (r_move rfl (hS.ev_ rfl)) fun a hS => ?_
            obtain ⟨e50, h51, h43⟩ := bindO h43
            obtain ⟨ad52, cp53, cs54, hv55, hr56, h0_57, h1_58, hq59⟩ := sl_at f3 h51 (by decide)
            obtain rfl := hr56
            refine st_val hS rfl rfl (by decide) (r_idx_sl rfl un_46 ti_9 (hS.ev_ rfl) hv55 (hS.ev_ rfl) h0_57 h1_58) fun a hS => ?_
            refine st_val hS rfl rfl (by decide) (r_ld1_k rfl ag_9 (hS.ev_ rfl) hq59 rfl (Rd.up hlK37 hM.nil_)) fun a hS => ?_
            obtain ⟨y60, h61, h43⟩ := bindO h43
            have hc63 := raw_marks_c hG h61 hM
            refine wl_cons rfl (e_call rfl Tryd.func44 rfl rfl (args1 (hS.ev_ rfl)) hc63 ?_)
            rintro _ w ⟨K62, v64, hlK62, hM, rfl, f65⟩
            refine ⟨_, rfl, ?_⟩
            refine pl hS rfl (by decide) fun a hS => ?_
            refine st_val hS rfl rfl (by decide) (r_move rfl (hS.ev_ rfl)) fun a hS => ?_
            refine st_val hS rfl rfl (by decide) (r_extract rfl (hS.ev_ rfl) rfl) fun a hS => ?_
            refine st_val hS rfl rfl (by decide) (r_extract rfl (hS.ev_ rfl) rfl) fun a hS => ?_
            refine st_val hS rfl rfl (by decide) (r_fld_b rfl fo_25_3 (hS.ev_ rfl)) fun a hS => ?_
            refine wl_cons rfl (e_store1 hM rfl ti_23 (hS.ev_ rfl) (hS.ev_ rfl) (sl_one f65) (Nat.lt_of_lt_of_le (Nat.le_of_ble_eq_true rfl) (Nat.le_refl _)) fun w hM => ?_)
            have hM : Sat w0 w K62 (SP.blk g6 25 [Value.int .i64 (1), Value.int .i64 (0), v39, v64] :: SP.blk g4 25 [Value.int .i64 (0), Value.int .i64 (0), Value.slice none 0 0, Value.slice none 0 0] :: L) := hM
            refine pl0 hS rfl fun a hS => ?_
            refine st_val hS rfl rfl (by decide) (r_assign rfl (hS.ev_ rfl)) fun a hS => ?_
            refine st_done ?_
            replace hS : Slots 48 [] a [(5, Value.bool (y60.2)), (2, Value.pointer (some ⟨g4, 0, none⟩)), (3, Value.bool (false)), (4, Value.pointer (some ⟨g6, 0, none⟩))] := (hS.part (.cons rfl (.cons rfl (.cons rfl (.cons rfl (.nil _))))))
            refine x_then ?_
            obtain rfl := Option.some.inj h43
            exact ⟨K62, (v64), hlK62, (hS.part (.cons rfl (.cons rfl (.cons rfl (.cons rfl (.nil _)))))), ((hM.pull 1 rfl rfl).pull 1 rfl rfl), f65⟩
          · refine c_cond_false (hS.ev_ rfl) hc49 ?_
            refine wp_skip ?_
            refine x_then ?_
            obtain rfl := Option.some.inj h43
            exact ⟨K37, (Value.slice none 0 0), (Hp.le.refl _), (hS.part (.cons rfl (.cons rfl (.cons rfl (.cons rfl (.nil _)))))), ((hM.pull 1 rfl rfl).pull 1 rfl rfl), (Kd.sl_nil _ _)⟩
      · rintro a w ⟨K41, v44, hlK41, hS, hM, f45⟩
        refine wp_seq ?_
        refine wp_region_lit ?_
        refine st_val hS rfl rfl (by decide) (r_ldN_b (cs' := [Value.int .i64 (1), Value.int .i64 (0), v39, v44]) rfl ag_25 ti_25 (hS.ev_ rfl) rfl (Rd.of hM)) fun a hS => ?_
        refine st_val hS rfl rfl (by decide) (r_move rfl (hS.ev_ rfl)) fun a hS => ?_
        replace hM := hM.pull 1 rfl rfl
        refine wl_cons rfl (e_storeN (vs := [Value.int .i64 (1), Value.int .i64 (0), v39, v44]) hM rfl ti_25 (hS.ev_ rfl) (hS.ev_ rfl) (ones_cons rfl (ones_cons rfl (ones_cons (sl_one f40) (ones_cons (sl_one f45) ones_nil)))) (Nat.le_of_ble_eq_true rfl) fun w hM => ?_)
        have hM : Sat w0 w K41 (SP.blk g4 25 [Value.int .i64 (1), Value.int .i64 (0), v39, v44] :: SP.blk g6 25 [Value.int .i64 (1), Value.int .i64 (0), v39, v44] :: L) := hM
        refine pl0 hS rfl fun a hS => ?_
        refine st_val hS rfl rfl (by decide) (r_assign rfl (hS.ev_ rfl)) fun a hS => ?_
        refine st_done ?_
        replace hS : Slots 48 [] a [(3, Value.bool (x42.1)), (2, Value.pointer (some ⟨g4, 0, none⟩))] := (hS.part (.cons rfl (.cons rfl (.nil _))))
        refine x_then ?_
        refine wp_ret ?_
        have hr' := Option.some.inj h
        subst hr'
        refine retR2 (.inr rfl) hS rfl ⟨_, rfl, lv_N (cs' := [Value.int .i64 (1), Value.int .i64 (0), v39, v44]) hM ag_25 ti_25 rfl⟩ (show Sl.look _ _ = some (Value.bool (x42.1)) from rfl) ?_
        exact ⟨K41, (v39), (v44), (hlK37.trans hlK41), ((hM).tail).tail, rfl, (Kd.sl_mono hlK41 f40), f45⟩

theorem raw_counted_c {w0 w : World} {K : Hp} {L : List SP} {p1 : Int} {p2 : List (List UInt8)} {v3 : Value} {r : raw_Event × Bool} (hG : Glob w0) (h : raw_counted p1 p2 = some r) (f4 : Kd.str.sl K v3 p2) (hM : Sat w0 w K (L)) :
    Calls Tryd.prog 35 #[Value.int .i64 (p1), v3] w (fun e w' => ∃ (K' : Hp) (v'1 v'2 : Value), Hp.le K K' ∧ Sat w0 w' K' (L) ∧ e = .returned (Value.tuple #[Value.agg #[Value.int .i64 (r.1.f_Kind), Value.int .i64 (r.1.f_N), v'1, v'2], Value.bool (r.2)]) ∧ Kd.u8.sl K' v'1 r.1.f_Bytes ∧ (Kd.int .i64).sl K' v'2 r.1.f_Marks) := by
  refine enter_ (n := 23) (args := [Value.int .i64 (p1), v3]) Tryd.func35 rfl rfl (Nat.le_of_ble_eq_true rfl) fun a hS => ?_
  replace hS : Slots 23 [] a [(0, Value.int .i64 (p1)), (1, v3)] := hS
  unfold raw_counted at h
  refine wp_seq ?_
  refine wp_region_lit ?_
  refine wl_cons rfl (e_alloc (cs := [Value.int .i64 (0), Value.int .i64 (0), Value.slice none 0 0, Value.slice none 0 0]) hM rfl ti_25 rfl fun g5 w hM => ?_)
  refine pl hS rfl (by decide) fun a hS => ?_
  refine st_val hS rfl rfl (by decide) (r_assign rfl (hS.ev_ rfl)) fun a hS => ?_
  refine st_done ?_
  replace hS : Slots 23 [] a [(5, Value.bool (false)), (4, Value.pointer (some ⟨g5, 0, none⟩)), (0, Value.int .i64 (p1)), (1, v3)] := (hS.part (.cons rfl (.cons rfl (.cons rfl (.cons rfl (.nil _))))))
  refine x_then ?_
  refine wp_seq ?_
  refine wp_seq ?_
  refine wp_region_lit ?_
  refine st_val hS rfl rfl (by decide) (r_move rfl (hS.ev_ rfl)) fun a hS => ?_
  refine st_val hS rfl rfl (by decide) (r_len_sl rfl un_46 (hS.ev_ rfl) f4) fun a hS => ?_
  refine st_val hS rfl rfl (by decide) (r_cmp rfl (hS.ev_ rfl) (hS.ev_ rfl) rfl) fun a hS => ?_
  refine st_done ?_
  replace hS : Slots 23 [] a [(10, Value.bool (((p2.length : Int)) != 2)), (5, Value.bool (false)), (4, Value.pointer (some ⟨g5, 0, none⟩)), (0, Value.int .i64 (p1)), (1, v3)] := (hS.part (.cons rfl (.cons rfl (.cons rfl (.cons rfl (.cons rfl (.nil _)))))))
  refine x_then ?_
  rcases ifB h with ⟨hc7, h⟩ | ⟨hc7, h⟩
  · refine c_cond_true (hS.ev_ rfl) hc7 ?_
    refine wp_seq ?_
    refine wp_region_lit ?_
    refine st_val hS rfl rfl (by decide) (r_build (cs := [Value.int .i64 (0), Value.int .i64 (0), Value.slice none 0 0, Value.slice none 0 0]) rfl (parts_ev hS rfl) (by kernel_rfl)) fun a hS => ?_
    refine wl_cons rfl (e_storeN (vs := [Value.int .i64 (0), Value.int .i64 (0), Value.slice none 0 0, Value.slice none 0 0]) hM rfl ti_25 (hS.ev_ rfl) (hS.ev_ rfl) (ones_cons rfl (ones_cons rfl (ones_cons rfl (ones_cons rfl ones_nil)))) (Nat.le_of_ble_eq_true rfl) fun w hM => ?_)
    have hM : Sat w0 w K (SP.blk g5 25 [Value.int .i64 (0), Value.int .i64 (0), Value.slice none 0 0, Value.slice none 0 0] :: L) := hM
    refine pl0 hS rfl fun a hS => ?_
    refine st_val hS rfl rfl (by decide) (r_assign rfl (hS.ev_ rfl)) fun a hS => ?_
    refine st_done ?_
    replace hS : Slots 23 [] a [(5, Value.bool (false)), (4, Value.pointer (some ⟨g5, 0, none⟩)), (0, Value.int .i64 (p1)), (1, v3)] := (hS.part (.cons rfl (.cons rfl (.cons rfl (.cons rfl (.nil _))))))
    refine x_then ?_
    refine wp_ret ?_
    refine x_then_ret ?_
    have hr' := Option.some.inj h
    subst hr'
    refine retR2 (.inr rfl) hS rfl ⟨_, rfl, lv_N (cs' := [Value.int .i64 (0), Value.int .i64 (0), Value.slice none 0 0, Value.slice none 0 0]) hM ag_25 ti_25 rfl⟩ (show Sl.look _ _ = some (Value.bool (false)) from rfl) ?_
    exact ⟨K, (Value.slice none 0 0), (Value.slice none 0 0), (Hp.le.refl _), (hM).tail, rfl, (Kd.sl_nil _ _), (Kd.sl_nil _ _)⟩
  · refine c_cond_false (hS.ev_ rfl) hc7 ?_
    refine wp_skip ?_
    refine x_then ?_
    refine wp_seq ?_
    refine wp_region_lit ?_
    refine st_val hS rfl rfl (by decide) (r_move rfl (hS.ev_ rfl)) fun a hS => ?_
    obtain ⟨e8, h9, h⟩ := bindO h
    obtain ⟨ad10, cp11, cs12, hv13, hr14, h0_15, h1_16, hq17⟩ := sl_at f4 h9 (by decide)
    obtain rfl := hr14
    refine st_val hS rfl rfl (by decide) (r_idx_sl rfl un_46 ti_9 (hS.ev_ rfl) hv13 (hS.ev_ rfl) h0_15 h1_16) fun a hS => ?_
    refine st_val hS rfl rfl (by decide) (r_ld1_k rfl ag_9 (hS.ev_ rfl) hq17 rfl (Rd.up (Hp.le.refl _) hM.nil_)) fun a hS => ?_
    obtain ⟨y18, h19, h⟩ := bindO h
    have hc21 := raw_number_c hG h19 hM
    refine wl_cons rfl (e_call rfl Tryd.func45 rfl rfl (args1 (hS.ev_ rfl)) hc21 ?_)
    rintro _ w ⟨K20, hlK20, hM, rfl⟩
    refine ⟨_, rfl, ?_⟩
    refine pl hS rfl (by decide) fun a hS => ?_
    refine st_val hS rfl rfl (by decide) (r_move rfl (hS.ev_ rfl)) fun a hS => ?_
    refine st_val hS rfl rfl (by decide) (r_extract rfl (hS.ev_ rfl) rfl) fun a hS => ?_
    refine st_val hS rfl rfl (by decide) (r_extract rfl (hS.ev_ rfl) rfl) fun a hS => ?_
    refine st_val hS rfl rfl (by decide) (r_assign rfl (hS.ev_ rfl)) fun a hS => ?_
    refine st_val hS rfl rfl (by decide) (r_assign rfl (hS.ev_ rfl)) fun a hS => ?_
    refine st_done ?_
    replace hS : Slots 23 [] a [(7, Value.bool (y18.2)), (6, Value.int .i64 (y18.1)), (5, Value.bool (false)), (4, Value.pointer (some ⟨g5, 0, none⟩)), (0, Value.int .i64 (p1))] := (hS.part (.cons rfl (.cons rfl (.cons rfl (.cons rfl (.cons rfl (.nil _)))))))
    refine x_then ?_
    refine wp_seq ?_
    refine wp_region_lit ?_
    refine st_val hS rfl rfl (by decide) (r_move rfl (hS.ev_ rfl)) fun a hS => ?_
    refine st_val hS rfl rfl (by decide) (r_move rfl (hS.ev_ rfl)) fun a hS => ?_
    refine st_val hS rfl rfl (by decide) (r_build (cs := [Value.int .i64 (p1), Value.int .i64 (y18.1), Value.slice none 0 0, Value.slice none 0 0]) rfl (parts_ev hS rfl) (by kernel_rfl)) fun a hS => ?_
    refine st_val hS rfl rfl (by decide) (r_move rfl (hS.ev_ rfl)) fun a hS => ?_
    refine wl_cons rfl (e_storeN (vs := [Value.int .i64 (p1), Value.int .i64 (y18.1), Value.slice none 0 0, Value.slice none 0 0]) hM rfl ti_25 (hS.ev_ rfl) (hS.ev_ rfl) (ones_cons rfl (ones_cons rfl (ones_cons rfl (ones_cons rfl ones_nil)))) (Nat.le_of_ble_eq_true rfl) fun w hM => ?_)
    have hM : Sat w0 w K20 (SP.blk g5 25 [Value.int .i64 (p1), Value.int .i64 (y18.1), Value.slice none 0 0, Value.slice none 0 0] :: L) := hM
    refine pl0 hS rfl fun a hS => ?_
    refine st_val hS rfl rfl (by decide) (r_assign rfl (hS.ev_ rfl)) fun a hS => ?_
    refine st_done ?_
    replace hS : Slots 23 [] a [(5, Value.bool (y18.2)), (4, Value.pointer (some ⟨g5, 0, none⟩))] := (hS.part (.cons rfl (.cons rfl (.nil _))))
    refine x_then ?_
    refine wp_ret ?_
    have hr' := Option.some.inj h
    subst hr'
    refine retR2 (.inr rfl) hS rfl ⟨_, rfl, lv_N (cs' := [Value.int .i64 (p1), Value.int .i64 (y18.1), Value.slice none 0 0, Value.slice none 0 0]) hM ag_25 ti_25 rfl⟩ (show Sl.look _ _ = some (Value.bool (y18.2)) from rfl) ?_
    exact ⟨K20, (Value.slice none 0 0), (Value.slice none 0 0), hlK20, (hM).tail, rfl, (Kd.sl_nil _ _), (Kd.sl_nil _ _)⟩

theorem raw_event_c {w0 w : World} {K : Hp} {L : List SP} {p1 : List (List UInt8)} {v2 : Value} {r : raw_Event × Bool} (hG : Glob w0) (h : raw_event p1 = some r) (f3 : Kd.str.sl K v2 p1) (hM : Sat w0 w K (L)) :
    Calls Tryd.prog 22 #[v2] w (fun e w' => ∃ (K' : Hp) (v'1 v'2 : Value), Hp.le K K' ∧ Sat w0 w' K' (L) ∧ e = .returned (Value.tuple #[Value.agg #[Value.int .i64 (r.1.f_Kind), Value.int .i64 (r.1.f_N), v'1, v'2], Value.bool (r.2)]) ∧ Kd.u8.sl K' v'1 r.1.f_Bytes ∧ (Kd.int .i64).sl K' v'2 r.1.f_Marks) := by
  refine enter_ (n := 32) (args := [v2]) Tryd.func22 rfl rfl (Nat.le_of_ble_eq_true rfl) fun a hS => ?_
  replace hS : Slots 32 [] a [(0, v2)] := hS
  unfold raw_event at h
  refine wp_seq ?_
  refine wp_region_lit ?_
  refine wl_cons rfl (e_alloc (cs := [Value.int .i64 (0), Value.int .i64 (0), Value.slice none 0 0, Value.slice none 0 0]) hM rfl ti_25 rfl fun g4 w hM => ?_)
  refine pl hS rfl (by decide) fun a hS => ?_
  refine st_val hS rfl rfl (by decide) (r_assign rfl (hS.ev_ rfl)) fun a hS => ?_
  refine st_done ?_
  replace hS : Slots 32 [] a [(3, Value.bool (false)), (2, Value.pointer (some ⟨g4, 0, none⟩)), (0, v2)] := (hS.part (.cons rfl (.cons rfl (.cons rfl (.nil _)))))
  refine x_then ?_
  refine wp_seq ?_
  refine wp_seq ?_
  refine wp_region_lit ?_
  refine st_val hS rfl rfl (by decide) (r_move rfl (hS.ev_ rfl)) fun a hS => ?_
  obtain ⟨e6, h7, h⟩ := bindO h
  obtain ⟨ad8, cp9, cs10, hv11, hr12, h0_13, h1_14, hq15⟩ := sl_at f3 h7 (by decide)
  obtain rfl := hr12
  refine st_val hS rfl rfl (by decide) (r_idx_sl rfl un_46 ti_9 (hS.ev_ rfl) hv11 (hS.ev_ rfl) h0_13 h1_14) fun a hS => ?_
  refine st_val hS rfl rfl (by decide) (r_ld1_k rfl ag_9 (hS.ev_ rfl) hq15 rfl (Rd.up (Hp.le.refl _) hM.nil_)) fun a hS => ?_
  refine st_done ?_
  replace hS : Slots 32 [] a [(6, strV (e6)), (3, Value.bool (false)), (2, Value.pointer (some ⟨g4, 0, none⟩)), (0, v2)] := (hS.part (.cons rfl (.cons rfl (.cons rfl (.cons rfl (.nil _))))))
  refine x_then ?_
  refine wp_block ?_
  refine wp_seq ?_
  refine wp_region_lit ?_
  refine st_val hS rfl rfl (by decide) (r_seq rfl (hS.ev_ rfl) (hS.ev_ (v := strV (([98, 121, 116, 101, 115] : List UInt8))) rfl)) fun a hS => ?_
  refine st_val hS rfl rfl (by decide) (r_assign rfl (hS.ev_ rfl)) fun a hS => ?_
  refine st_done ?_
  replace hS : Slots 32 [] a [(7, Value.bool (e6 == ([98, 121, 116, 101, 115] : List UInt8))), (6, strV (e6)), (3, Value.bool (false)), (2, Value.pointer (some ⟨g4, 0, none⟩)), (0, v2)] := (hS.part (.cons rfl (.cons rfl (.cons rfl (.cons rfl (.cons rfl (.nil _)))))))
  refine x_then ?_
  rcases ifB h with ⟨hc16, h⟩ | ⟨hc16, h⟩
  · refine c_cond_true (hS.ev_ rfl) hc16 ?_
    refine wp_seq ?_
    refine wp_region_lit ?_
    refine st_val hS rfl rfl (by decide) (r_move rfl (hS.ev_ rfl)) fun a hS => ?_
    obtain ⟨y17, h18, h⟩ := bindO h
    have hc20 := raw_came_c hG h18 f3 hM
    refine wl_cons rfl (e_call rfl Tryd.func34 rfl rfl (args1 (hS.ev_ rfl)) hc20 ?_)
    rintro _ w ⟨K19, v21, v23, hlK19, hM, rfl, f22, f24⟩
    refine ⟨_, rfl, ?_⟩
    refine pl hS rfl (by decide) fun a hS => ?_
    refine st_val hS rfl rfl (by decide) (r_extract rfl (hS.ev_ rfl) rfl) fun a hS => ?_
    refine st_val hS rfl rfl (by decide) (r_extract rfl (hS.ev_ rfl) rfl) fun a hS => ?_
    refine wl_cons rfl (e_storeN (vs := [Value.int .i64 (y17.1.f_Kind), Value.int .i64 (y17.1.f_N), v21, v23]) hM rfl ti_25 (hS.ev_ rfl) (hS.ev_ rfl) (ones_cons rfl (ones_cons rfl (ones_cons (sl_one f22) (ones_cons (sl_one f24) ones_nil)))) (Nat.le_of_ble_eq_true rfl) fun w hM => ?_)
    have hM : Sat w0 w K19 (SP.blk g4 25 [Value.int .i64 (y17.1.f_Kind), Value.int .i64 (y17.1.f_N), v21, v23] :: L) := hM
    refine pl0 hS rfl fun a hS => ?_
    refine st_val hS rfl rfl (by decide) (r_assign rfl (hS.ev_ rfl)) fun a hS => ?_
    refine st_done ?_
    replace hS : Slots 32 [] a [(3, Value.bool (y17.2)), (2, Value.pointer (some ⟨g4, 0, none⟩))] := (hS.part (.cons rfl (.cons rfl (.nil _))))
    refine x_then ?_
    refine wp_ret ?_
    refine x_block_ret ?_
    refine x_then_ret ?_
    have hr' := Option.some.inj h
    subst hr'
    refine retR2 (.inr rfl) hS rfl ⟨_, rfl, lv_N (cs' := [Value.int .i64 (y17.1.f_Kind), Value.int .i64 (y17.1.f_N), v21, v23]) hM ag_25 ti_25 rfl⟩ (show Sl.look _ _ = some (Value.bool (y17.2)) from rfl) ?_
    exact ⟨K19, (v21), (v23), hlK19, (hM).tail, rfl, f22, f24⟩
  · refine c_cond_false (hS.ev_ rfl) hc16 ?_
    refine wp_seq ?_
    refine wp_region_lit ?_
    refine st_val hS rfl rfl (by decide) (r_seq rfl (hS.ev_ rfl) (hS.ev_ (v := strV (([103, 114, 97, 110, 116] : List UInt8))) rfl)) fun a hS => ?_
    refine st_val hS rfl rfl (by decide) (r_assign rfl (hS.ev_ rfl)) fun a hS => ?_
    refine st_done ?_
    replace hS : Slots 32 [] a [(13, Value.bool (e6 == ([103, 114, 97, 110, 116] : List UInt8))), (6, strV (e6)), (3, Value.bool (false)), (2, Value.pointer (some ⟨g4, 0, none⟩)), (0, v2)] := (hS.part (.cons rfl (.cons rfl (.cons rfl (.cons rfl (.cons rfl (.nil _)))))))
    refine x_then ?_
    rcases ifB h with ⟨hc25, h⟩ | ⟨hc25, h⟩
    · refine c_cond_true (hS.ev_ rfl) hc25 ?_
      refine wp_seq ?_
      refine wp_region_lit ?_
      refine st_val hS rfl rfl (by decide) (r_move rfl (hS.ev_ rfl)) fun a hS => ?_
      obtain ⟨y26, h27, h⟩ := bindO h
      have hc29 := raw_counted_c hG h27 f3 hM
      refine wl_cons rfl (e_call rfl Tryd.func35 rfl rfl (args2 (hS.ev_ rfl) (hS.ev_ rfl)) hc29 ?_)
      rintro _ w ⟨K28, v30, v32, hlK28, hM, rfl, f31, f33⟩
      refine ⟨_, rfl, ?_⟩
      refine pl hS rfl (by decide) fun a hS => ?_
      refine st_val hS rfl rfl (by decide) (r_extract rfl (hS.ev_ rfl) rfl) fun a hS => ?_
      refine st_val hS rfl rfl (by decide) (r_extract rfl (hS.ev_ rfl) rfl) fun a hS => ?_
      refine wl_cons rfl (e_storeN (vs := [Value.int .i64 (y26.1.f_Kind), Value.int .i64 (y26.1.f_N), v30, v32]) hM rfl ti_25 (hS.ev_ rfl) (hS.ev_ rfl) (ones_cons rfl (ones_cons rfl (ones_cons (sl_one f31) (ones_cons (sl_one f33) ones_nil)))) (Nat.le_of_ble_eq_true rfl) fun w hM => ?_)
      have hM : Sat w0 w K28 (SP.blk g4 25 [Value.int .i64 (y26.1.f_Kind), Value.int .i64 (y26.1.f_N), v30, v32] :: L) := hM
      refine pl0 hS rfl fun a hS => ?_
      refine st_val hS rfl rfl (by decide) (r_assign rfl (hS.ev_ rfl)) fun a hS => ?_
      refine st_done ?_
      replace hS : Slots 32 [] a [(3, Value.bool (y26.2)), (2, Value.pointer (some ⟨g4, 0, none⟩))] := (hS.part (.cons rfl (.cons rfl (.nil _))))
      refine x_then ?_
      refine wp_ret ?_
      refine x_block_ret ?_
      refine x_then_ret ?_
      have hr' := Option.some.inj h
      subst hr'
      refine retR2 (.inr rfl) hS rfl ⟨_, rfl, lv_N (cs' := [Value.int .i64 (y26.1.f_Kind), Value.int .i64 (y26.1.f_N), v30, v32]) hM ag_25 ti_25 rfl⟩ (show Sl.look _ _ = some (Value.bool (y26.2)) from rfl) ?_
      exact ⟨K28, (v30), (v32), hlK28, (hM).tail, rfl, f31, f33⟩
    · refine c_cond_false (hS.ev_ rfl) hc25 ?_
      refine wp_seq ?_
      refine wp_region_lit ?_
      refine st_val hS rfl rfl (by decide) (r_seq rfl (hS.ev_ rfl) (hS.ev_ (v := strV (([116, 105, 99, 107] : List UInt8))) rfl)) fun a hS => ?_
      refine st_val hS rfl rfl (by decide) (r_assign rfl (hS.ev_ rfl)) fun a hS => ?_
      refine st_done ?_
      replace hS : Slots 32 [] a [(19, Value.bool (e6 == ([116, 105, 99, 107] : List UInt8))), (6, strV (e6)), (3, Value.bool (false)), (2, Value.pointer (some ⟨g4, 0, none⟩)), (0, v2)] := (hS.part (.cons rfl (.cons rfl (.cons rfl (.cons rfl (.cons rfl (.nil _)))))))
      refine x_then ?_
      rcases ifB h with ⟨hc34, h⟩ | ⟨hc34, h⟩
      · refine c_cond_true (hS.ev_ rfl) hc34 ?_
        refine wp_seq ?_
        refine wp_region_lit ?_
        refine st_val hS rfl rfl (by decide) (r_move rfl (hS.ev_ rfl)) fun a hS => ?_
        obtain ⟨y35, h36, h⟩ := bindO h
        have hc38 := raw_counted_c hG h36 f3 hM
        refine wl_cons rfl (e_call rfl Tryd.func35 rfl rfl (args2 (hS.ev_ rfl) (hS.ev_ rfl)) hc38 ?_)
        rintro _ w ⟨K37, v39, v41, hlK37, hM, rfl, f40, f42⟩
        refine ⟨_, rfl, ?_⟩
        refine pl hS rfl (by decide) fun a hS => ?_
        refine st_val hS rfl rfl (by decide) (r_extract rfl (hS.ev_ rfl) rfl) fun a hS => ?_
        refine st_val hS rfl rfl (by decide) (r_extract rfl (hS.ev_ rfl) rfl) fun a hS => ?_
        refine wl_cons rfl (e_storeN (vs := [Value.int .i64 (y35.1.f_Kind), Value.int .i64 (y35.1.f_N), v39, v41]) hM rfl ti_25 (hS.ev_ rfl) (hS.ev_ rfl) (ones_cons rfl (ones_cons rfl (ones_cons (sl_one f40) (ones_cons (sl_one f42) ones_nil)))) (Nat.le_of_ble_eq_true rfl) fun w hM => ?_)
        have hM : Sat w0 w K37 (SP.blk g4 25 [Value.int .i64 (y35.1.f_Kind), Value.int .i64 (y35.1.f_N), v39, v41] :: L) := hM
        refine pl0 hS rfl fun a hS => ?_
        refine st_val hS rfl rfl (by decide) (r_assign rfl (hS.ev_ rfl)) fun a hS => ?_
        refine st_done ?_
        replace hS : Slots 32 [] a [(3, Value.bool (y35.2)), (2, Value.pointer (some ⟨g4, 0, none⟩))] := (hS.part (.cons rfl (.cons rfl (.nil _))))
        refine x_then ?_
        refine wp_ret ?_
        refine x_block_ret ?_
        refine x_then_ret ?_
        have hr' := Option.some.inj h
        subst hr'
        refine retR2 (.inr rfl) hS rfl ⟨_, rfl, lv_N (cs' := [Value.int .i64 (y35.1.f_Kind), Value.int .i64 (y35.1.f_N), v39, v41]) hM ag_25 ti_25 rfl⟩ (show Sl.look _ _ = some (Value.bool (y35.2)) from rfl) ?_
        exact ⟨K37, (v39), (v41), hlK37, (hM).tail, rfl, f40, f42⟩
      · refine c_cond_false (hS.ev_ rfl) hc34 ?_
        refine wp_seq ?_
        refine wp_region_lit ?_
        refine st_val hS rfl rfl (by decide) (r_seq rfl (hS.ev_ rfl) (hS.ev_ (v := strV (([99, 108, 111, 115, 101] : List UInt8))) rfl)) fun a hS => ?_
        refine st_val hS rfl rfl (by decide) (r_assign rfl (hS.ev_ rfl)) fun a hS => ?_
        refine st_done ?_
        replace hS : Slots 32 [] a [(25, Value.bool (e6 == ([99, 108, 111, 115, 101] : List UInt8))), (3, Value.bool (false)), (2, Value.pointer (some ⟨g4, 0, none⟩)), (0, v2)] := (hS.part (.cons rfl (.cons rfl (.cons rfl (.cons rfl (.nil _))))))
        refine x_then ?_
        rcases ifB h with ⟨hc43, h⟩ | ⟨hc43, h⟩
        · refine c_cond_true (hS.ev_ rfl) hc43 ?_
          refine wp_seq ?_
          refine wp_region_lit ?_
          refine st_val hS rfl rfl (by decide) (r_build (cs := [Value.int .i64 (4), Value.int .i64 (0), Value.slice none 0 0, Value.slice none 0 0]) rfl (parts_ev hS rfl) (by kernel_rfl)) fun a hS => ?_
          refine st_val hS rfl rfl (by decide) (r_move rfl (hS.ev_ rfl)) fun a hS => ?_
          refine st_val hS rfl rfl (by decide) (r_len_sl rfl un_46 (hS.ev_ rfl) f3) fun a hS => ?_
          refine st_val hS rfl rfl (by decide) (r_cmp rfl (hS.ev_ rfl) (hS.ev_ rfl) rfl) fun a hS => ?_
          refine wl_cons rfl (e_storeN (vs := [Value.int .i64 (4), Value.int .i64 (0), Value.slice none 0 0, Value.slice none 0 0]) hM rfl ti_25 (hS.ev_ rfl) (hS.ev_ rfl) (ones_cons rfl (ones_cons rfl (ones_cons rfl (ones_cons rfl ones_nil)))) (Nat.le_of_ble_eq_true rfl) fun w hM => ?_)
          have hM : Sat w0 w K (SP.blk g4 25 [Value.int .i64 (4), Value.int .i64 (0), Value.slice none 0 0, Value.slice none 0 0] :: L) := hM
          refine pl0 hS rfl fun a hS => ?_
          refine st_val hS rfl rfl (by decide) (r_assign rfl (hS.ev_ rfl)) fun a hS => ?_
          refine st_done ?_
          replace hS : Slots 32 [] a [(3, Value.bool (((p1.length : Int)) == 1)), (2, Value.pointer (some ⟨g4, 0, none⟩))] := (hS.part (.cons rfl (.cons rfl (.nil _))))
          refine x_then ?_
          refine wp_ret ?_
          refine x_block_ret ?_
          refine x_then_ret ?_
          have hr' := Option.some.inj h
          subst hr'
          refine retR2 (.inr rfl) hS rfl ⟨_, rfl, lv_N (cs' := [Value.int .i64 (4), Value.int .i64 (0), Value.slice none 0 0, Value.slice none 0 0]) hM ag_25 ti_25 rfl⟩ (show Sl.look _ _ = some (Value.bool (((p1.length : Int)) == 1)) from rfl) ?_
          exact ⟨K, (Value.slice none 0 0), (Value.slice none 0 0), (Hp.le.refl _), (hM).tail, rfl, (Kd.sl_nil _ _), (Kd.sl_nil _ _)⟩
        · refine c_cond_false (hS.ev_ rfl) hc43 ?_
          refine wp_skip ?_
          refine x_block ?_
          refine x_then ?_
          refine wp_seq ?_
          refine wp_region_lit ?_
          refine st_val hS rfl rfl (by decide) (r_build (cs := [Value.int .i64 (0), Value.int .i64 (0), Value.slice none 0 0, Value.slice none 0 0]) rfl (parts_ev hS rfl) (by kernel_rfl)) fun a hS => ?_
          refine wl_cons rfl (e_storeN (vs := [Value.int .i64 (0), Value.int .i64 (0), Value.slice none 0 0, Value.slice none 0 0]) hM rfl ti_25 (hS.ev_ rfl) (hS.ev_ rfl) (ones_cons rfl (ones_cons rfl (ones_cons rfl (ones_cons rfl ones_nil)))) (Nat.le_of_ble_eq_true rfl) fun w hM => ?_)
          have hM : Sat w0 w K (SP.blk g4 25 [Value.int .i64 (0), Value.int .i64 (0), Value.slice none 0 0, Value.slice none 0 0] :: L) := hM
          refine pl0 hS rfl fun a hS => ?_
          refine st_val hS rfl rfl (by decide) (r_assign rfl (hS.ev_ rfl)) fun a hS => ?_
          refine st_done ?_
          replace hS : Slots 32 [] a [(3, Value.bool (false)), (2, Value.pointer (some ⟨g4, 0, none⟩))] := (hS.part (.cons rfl (.cons rfl (.nil _))))
          refine x_then ?_
          refine wp_ret ?_
          have hr' := Option.some.inj h
          subst hr'
          refine retR2 (.inr rfl) hS rfl ⟨_, rfl, lv_N (cs' := [Value.int .i64 (0), Value.int .i64 (0), Value.slice none 0 0, Value.slice none 0 0]) hM ag_25 ti_25 rfl⟩ (show Sl.look _ _ = some (Value.bool (false)) from rfl) ?_
          exact ⟨K, (Value.slice none 0 0), (Value.slice none 0 0), (Hp.le.refl _), (hM).tail, rfl, (Kd.sl_nil _ _), (Kd.sl_nil _ _)⟩

theorem raw_Event_marked_c {w0 w : World} {K : Hp} {L : List SP} {p1 : raw_Event} {v2 : Value} {v4 : Value} {r : Bool} (hG : Glob w0) (h : raw_Event_marked p1 = some r) (f3 : Kd.u8.sl K v2 p1.f_Bytes) (f5 : (Kd.int .i64).sl K v4 p1.f_Marks) (hM : Sat w0 w K (L)) :
    Calls Tryd.prog 24 #[Value.agg #[Value.int .i64 (p1.f_Kind), Value.int .i64 (p1.f_N), v2, v4]] w (fun e w' => ∃ (K' : Hp), Hp.le K K' ∧ Sat w0 w' K' (L) ∧ e = .returned (Value.bool (r))) := by
  refine enter_ (n := 37) (args := [Value.agg #[Value.int .i64 (p1.f_Kind), Value.int .i64 (p1.f_N), v2, v4]]) Tryd.func24 rfl rfl (Nat.le_of_ble_eq_true rfl) fun a hS => ?_
  replace hS : Slots 37 [] a [(0, Value.agg #[Value.int .i64 (p1.f_Kind), Value.int .i64 (p1.f_N), v2, v4])] := hS
  unfold raw_Event_marked at h
  refine wp_seq ?_
  refine wp_region_lit ?_
  refine wl_cons rfl (e_box (cs := [Value.int .i64 (p1.f_Kind), Value.int .i64 (p1.f_N), v2, v4]) hM rfl (hS.ev_ rfl) rfl fun g6 w hM => ?_)
  refine pl hS rfl (by decide) fun a hS => ?_
  refine st_val hS rfl rfl (by decide) (r_assign rfl (hS.ev_ rfl)) fun a hS => ?_
  refine st_done ?_
  replace hS : Slots 37 [] a [(2, Value.bool (false)), (1, Value.pointer (some ⟨g6, 0, none⟩))] := (hS.part (.cons rfl (.cons rfl (.nil _))))
  refine x_then ?_
  refine wp_seq ?_
  refine wp_seq ?_
  refine wp_region_lit ?_
  refine st_val hS rfl rfl (by decide) (r_fld_b rfl fo_25_3 (hS.ev_ rfl)) fun a hS => ?_
  refine st_val hS rfl rfl (by decide) (r_ld1_b rfl ag_23 (hS.ev_ rfl) rfl (Rd.of hM)) fun a hS => ?_
  refine st_val hS rfl rfl (by decide) (r_len_sl rfl un_23 (hS.ev_ rfl) f5) fun a hS => ?_
  refine st_val hS rfl rfl (by decide) (r_move rfl (hS.ev_ rfl)) fun a hS => ?_
  refine st_done ?_
  replace hS : Slots 37 [] a [(8, Value.int .i64 (0)), (7, Value.int .i64 ((p1.f_Marks.length : Int))), (6, v4), (2, Value.bool (false)), (1, Value.pointer (some ⟨g6, 0, none⟩))] := (hS.part (.cons rfl (.cons rfl (.cons rfl (.cons rfl (.cons rfl (.nil _)))))))
  refine x_then ?_
  refine wp_block ?_
  obtain ⟨o13, h14, h⟩ := bindO h
  refine c_loop_ways (fun e a w => (e = .exit 0 ∧ ∃ (K15 : Hp) (x16 : Unit), Hp.le K K15 ∧ o13 = Sum.inl x16 ∧ Slots 37 [] a [(2, Value.bool (false))] ∧ Sat w0 w K15 (SP.blk g6 25 [Value.int .i64 (p1.f_Kind), Value.int .i64 (p1.f_N), v2, v4] :: L)) ∨ (e = .ret ∧ ∃ (K17 : Hp) (x18 : Unit), Hp.le K K17 ∧ o13 = Sum.inr x18 ∧ Slots 37 [] a [(2, Value.bool (false))] ∧ Sat w0 w K17 (SP.blk g6 25 [Value.int .i64 (p1.f_Kind), Value.int .i64 (p1.f_N), v2, v4] :: L))) ?_ ?_
  · intro c Q hc hQ
    have key : ∀ (x12 : Int) (r' : Sum Unit Unit), raw_Event_marked_l1 p1 x12 = some r' → r' = o13 → ∀ (K11 : Hp) (a : Act) (w : World), Hp.le K K11 → Slots 37 [] a [(8, Value.int .i64 (x12)), (7, Value.int .i64 ((p1.f_Marks.length : Int))), (6, v4), (2, Value.bool (false)), (1, Value.pointer (some ⟨g6, 0, none⟩))] → Sat w0 w K11 (SP.blk g6 25 [Value.int .i64 (p1.f_Kind), Value.int .i64 (p1.f_N), v2, v4] :: L) → Rnd Tryd.prog c Q a w := by
      refine raw_Event_marked_l1.partial_correctness p1 _ ?_
      intro raw_Event_marked_l1_rec ih x12 r' h hr K11  a w hlK11 hS hM 
      subst hc
      refine c_round ?_
      refine wp_seq ?_
      refine wp_region_lit ?_
      refine st_val hS rfl rfl (by decide) (r_cmp rfl (hS.ev_ rfl) (hS.ev_ rfl) rfl) fun a hS => ?_
      refine st_done ?_
      replace hS : Slots 37 [] a [(9, Value.bool (decide (x12 < ((p1.f_Marks.length : Int))))), (8, Value.int .i64 (x12)), (7, Value.int .i64 ((p1.f_Marks.length : Int))), (6, v4), (2, Value.bool (false)), (1, Value.pointer (some ⟨g6, 0, none⟩))] := (hS.part (.cons rfl (.cons rfl (.cons rfl (.cons rfl (.cons rfl (.cons rfl (.nil _))))))))
      refine x_then ?_
      refine wp_seq ?_
      rcases ifB h with ⟨hc19, h⟩ | ⟨hc19, h⟩
      · refine c_cond_true (hS.ev_ rfl) hc19 ?_
        refine wp_skip ?_
        refine x_then ?_
        refine wp_seq ?_
        refine wp_block ?_
        refine wp_seq ?_
        refine wp_region_lit ?_
        refine st_val hS rfl rfl (by decide) (r_move rfl (hS.ev_ rfl)) fun a hS => ?_
        obtain ⟨e20, h21, h⟩ := bindO h
        obtain ⟨ad22, cp23, cs24, hv25, hr26, h0_27, h1_28, hq29⟩ := sl_at f5 h21 (by decide)
        obtain rfl := hr26
        refine st_val hS rfl rfl (by decide) (r_idx_sl rfl un_23 ti_3 (hS.ev_ rfl) hv25 (hS.ev_ rfl) h0_27 h1_28) fun a hS => ?_
        refine st_val hS rfl rfl (by decide) (r_ld1_k rfl ag_3 (hS.ev_ rfl) hq29 rfl (Rd.up hlK11 hM.nil_)) fun a hS => ?_
        refine st_val hS rfl rfl (by decide) (r_assign rfl (hS.ev_ rfl)) fun a hS => ?_
        refine st_val hS rfl rfl (by decide) (r_assign rfl (hS.ev_ rfl)) fun a hS => ?_
        refine st_done ?_
        replace hS : Slots 37 [] a [(4, Value.int .i64 (e20)), (3, Value.int .i64 (x12)), (8, Value.int .i64 (x12)), (7, Value.int .i64 ((p1.f_Marks.length : Int))), (6, v4), (2, Value.bool (false)), (1, Value.pointer (some ⟨g6, 0, none⟩))] := (hS.part (.cons rfl (.cons rfl (.cons rfl (.cons rfl (.cons rfl (.cons rfl (.cons rfl (.nil _)))))))))
        refine x_then ?_
        refine wp_seq ?_
        refine wp_region_lit ?_
        refine st_val hS rfl rfl (by decide) (r_move rfl (hS.ev_ rfl)) fun a hS => ?_
        refine st_val hS rfl rfl (by decide) (r_cmp rfl (hS.ev_ rfl) (hS.ev_ rfl) rfl) fun a hS => ?_
        refine st_val hS rfl rfl (by decide) (r_move rfl (hS.ev_ rfl)) fun a hS => ?_
        obtain ⟨x30, h31, h⟩ := bindO h
        refine wl_cut 6 (fun a w => Slots 37 [] a [(1, Value.pointer (some ⟨g6, 0, none⟩)), (2, Value.bool (false)), (3, Value.int .i64 (x12)), (4, Value.int .i64 (e20)), (6, v4), (7, Value.int .i64 ((p1.f_Marks.length : Int))), (8, Value.int .i64 (x12)), (21, Value.bool (x30))] ∧ Sat w0 w K11 (SP.blk g6 25 [Value.int .i64 (p1.f_Kind), Value.int .i64 (p1.f_N), v2, v4] :: L)) ?_ ?_
        ·
          skip
          rcases ifB h31 with ⟨hc32, h31⟩ | ⟨hc32, h31⟩
          ·
            replace hS := hS.known (k := 15) rfl hc32
            refine st_off hS rfl rfl rfl rfl rfl rfl (by decide) fun a hS => ?_
            refine st_off hS rfl rfl rfl rfl rfl rfl (by decide) fun a hS => ?_
            refine st_off hS rfl rfl rfl rfl rfl rfl (by decide) fun a hS => ?_
            refine st_off hS rfl rfl rfl rfl rfl rfl (by decide) fun a hS => ?_
            refine st_off hS rfl rfl rfl rfl rfl rfl (by decide) fun a hS => ?_
            refine st_val hS rfl rfl (by decide) (r_pick_true rfl (hS.ev_ rfl) rfl (hS.ev_ rfl)) fun a hS => ?_
            refine st_done ?_
            replace hS : Slots 37 [] a [(21, Value.bool (true)), (4, Value.int .i64 (e20)), (3, Value.int .i64 (x12)), (8, Value.int .i64 (x12)), (7, Value.int .i64 ((p1.f_Marks.length : Int))), (6, v4), (2, Value.bool (false)), (1, Value.pointer (some ⟨g6, 0, none⟩))] := (hS.part (.cons rfl (.cons rfl (.cons rfl (.cons rfl (.cons rfl (.cons rfl (.cons rfl (.cons rfl (.nil _))))))))))
            refine x_then ?_
            obtain rfl := Option.some.inj h31
            exact ⟨(hS.part (.cons rfl (.cons rfl (.cons rfl (.cons rfl (.cons rfl (.cons rfl (.cons rfl (.cons rfl (.nil _)))))))))), hM⟩
          ·
            replace hS := hS.known (k := 15) rfl hc32
            refine st_want hS rfl rfl rfl rfl rfl (by decide) (r_move rfl (hS.ev_ rfl)) fun a hS => ?_
            refine st_want hS rfl rfl rfl rfl rfl (by decide) (r_fld_b rfl fo_25_2 (hS.ev_ rfl)) fun a hS => ?_
            refine st_want hS rfl rfl rfl rfl rfl (by decide) (r_ld1_b rfl ag_22 (hS.ev_ rfl) rfl (Rd.of hM)) fun a hS => ?_
            refine st_want hS rfl rfl rfl rfl rfl (by decide) (r_len_sl rfl un_22 (hS.ev_ rfl) f3) fun a hS => ?_
            refine st_want hS rfl rfl rfl rfl rfl (by decide) (r_cmp rfl (hS.ev_ rfl) (hS.ev_ rfl) rfl) fun a hS => ?_
            refine st_val hS rfl rfl (by decide) (r_pick_false rfl (hS.ev_ rfl) rfl (hS.ev_ rfl)) fun a hS => ?_
            refine st_done ?_
            replace hS : Slots 37 [] a [(21, Value.bool (decide (e20 ≥ ((p1.f_Bytes.length : Int))))), (4, Value.int .i64 (e20)), (3, Value.int .i64 (x12)), (8, Value.int .i64 (x12)), (7, Value.int .i64 ((p1.f_Marks.length : Int))), (6, v4), (2, Value.bool (false)), (1, Value.pointer (some ⟨g6, 0, none⟩))] := (hS.part (.cons rfl (.cons rfl (.cons rfl (.cons rfl (.cons rfl (.cons rfl (.cons rfl (.cons rfl (.nil _))))))))))
            refine x_then ?_
            obtain rfl := Option.some.inj h31
            exact ⟨(hS.part (.cons rfl (.cons rfl (.cons rfl (.cons rfl (.cons rfl (.cons rfl (.cons rfl (.cons rfl (.nil _)))))))))), hM⟩
        · rintro a w ⟨hS, hM⟩
          refine st_val hS rfl rfl (by decide) (r_move rfl (hS.ev_ rfl)) fun a hS => ?_
          obtain ⟨x33, h34, h⟩ := bindO h
          refine wl_cut 13 (fun a w => Slots 37 [] a [(1, Value.pointer (some ⟨g6, 0, none⟩)), (2, Value.bool (false)), (6, v4), (7, Value.int .i64 ((p1.f_Marks.length : Int))), (8, Value.int .i64 (x12)), (35, Value.bool (x33))] ∧ Sat w0 w K11 (SP.blk g6 25 [Value.int .i64 (p1.f_Kind), Value.int .i64 (p1.f_N), v2, v4] :: L)) ?_ ?_
          ·
            skip
            rcases ifB h34 with ⟨hc35, h34⟩ | ⟨hc35, h34⟩
            ·
              replace hS := hS.known (k := 22) rfl hc35
              refine st_off hS rfl rfl rfl rfl rfl rfl (by decide) fun a hS => ?_
              refine st_off hS rfl rfl rfl rfl rfl rfl (by decide) fun a hS => ?_
              refine st_off hS rfl rfl rfl rfl rfl rfl (by decide) fun a hS => ?_
              refine st_off_undef hS rfl rfl rfl rfl rfl (by decide) fun a hS => ?_
              refine st_off_undef hS rfl rfl rfl rfl rfl (by decide) fun a hS => ?_
              refine st_off_undef hS rfl rfl rfl rfl rfl (by decide) fun a hS => ?_
              refine st_off_undef hS rfl rfl rfl rfl rfl (by decide) fun a hS => ?_
              refine st_off_undef hS rfl rfl rfl rfl rfl (by decide) fun a hS => ?_
              refine st_off_undef hS rfl rfl rfl rfl rfl (by decide) fun a hS => ?_
              refine st_off_undef hS rfl rfl rfl rfl rfl (by decide) fun a hS => ?_
              refine st_off_undef hS rfl rfl rfl rfl rfl (by decide) fun a hS => ?_
              refine st_off hS rfl rfl rfl rfl rfl rfl (by decide) fun a hS => ?_
              refine st_val hS rfl rfl (by decide) (r_pick_true rfl (hS.ev_ rfl) rfl (hS.ev_ rfl)) fun a hS => ?_
              refine st_done ?_
              replace hS : Slots 37 [] a [(35, Value.bool (true)), (1, Value.pointer (some ⟨g6, 0, none⟩)), (2, Value.bool (false)), (6, v4), (7, Value.int .i64 ((p1.f_Marks.length : Int))), (8, Value.int .i64 (x12))] := (hS.part (.cons rfl (.cons rfl (.cons rfl (.cons rfl (.cons rfl (.cons rfl (.nil _))))))))
              refine x_then ?_
              obtain rfl := Option.some.inj h34
              exact ⟨(hS.part (.cons rfl (.cons rfl (.cons rfl (.cons rfl (.cons rfl (.cons rfl (.nil _)))))))), hM⟩
            ·
              replace hS := hS.known (k := 22) rfl hc35
              refine st_want hS rfl rfl rfl rfl rfl (by decide) (r_move rfl (hS.ev_ rfl)) fun a hS => ?_
              refine st_want hS rfl rfl rfl rfl rfl (by decide) (r_cmp rfl (hS.ev_ rfl) (hS.ev_ rfl) rfl) fun a hS => ?_
              refine st_want hS rfl rfl rfl rfl rfl (by decide) (r_move rfl (hS.ev_ rfl)) fun a hS => ?_
              obtain ⟨x36, h37, h34⟩ := bindO h34
              refine wl_cut 9 (fun a w => Slots 37 [] a [(1, Value.pointer (some ⟨g6, 0, none⟩)), (2, Value.bool (false)), (6, v4), (7, Value.int .i64 ((p1.f_Marks.length : Int))), (8, Value.int .i64 (x12)), (22, Value.bool (false)), (34, Value.bool (x36))] ∧ Sat w0 w K11 (SP.blk g6 25 [Value.int .i64 (p1.f_Kind), Value.int .i64 (p1.f_N), v2, v4] :: L)) ?_ ?_
              ·
                skip
                rcases ifB h37 with ⟨hc38, h37⟩ | ⟨hc38, h37⟩
                ·
                  replace hS := hS.known (k := 25) rfl hc38
                  refine st_want hS rfl rfl rfl rfl rfl (by decide) (r_move rfl (hS.ev_ rfl)) fun a hS => ?_
                  refine st_want hS rfl rfl rfl rfl rfl (by decide) (r_fld_b rfl fo_25_3 (hS.ev_ rfl)) fun a hS => ?_
                  refine st_want hS rfl rfl rfl rfl rfl (by decide) (r_ld1_b rfl ag_23 (hS.ev_ rfl) rfl (Rd.of hM)) fun a hS => ?_
                  refine st_want hS rfl rfl rfl rfl rfl (by decide) (r_move rfl (hS.ev_ rfl)) fun a hS => ?_
                  refine st_want hS rfl rfl rfl rfl rfl (by decide) (r_sub rfl (hS.ev_ rfl) (hS.ev_ rfl)) fun a hS => ?_
                  obtain ⟨e39, h40, h37⟩ := bindO h37
                  obtain ⟨ad41, cp42, cs43, hv44, hr45, h0_46, h1_47, hq48⟩ := sl_at f5 h40 (by decide)
                  obtain rfl := hr45
                  refine st_want hS rfl rfl rfl rfl rfl (by decide) (r_idx_sl rfl un_23 ti_3 (hS.ev_ rfl) hv44 (hS.ev_ rfl) h0_46 h1_47) fun a hS => ?_
                  refine st_want hS rfl rfl rfl rfl rfl (by decide) (r_ld1_k rfl ag_3 (hS.ev_ rfl) hq48 rfl (Rd.up hlK11 hM.nil_)) fun a hS => ?_
                  refine st_want hS rfl rfl rfl rfl rfl (by decide) (r_cmp rfl (hS.ev_ rfl) (hS.ev_ rfl) rfl) fun a hS => ?_
                  refine st_want hS rfl rfl rfl rfl rfl (by decide) (r_pick_true rfl (hS.ev_ rfl) rfl (hS.ev_ rfl)) fun a hS => ?_
                  refine st_done ?_
                  replace hS : Slots 37 [] a [(34, Value.bool (decide (e20 ≤ e39))), (22, Value.bool (false)), (1, Value.pointer (some ⟨g6, 0, none⟩)), (2, Value.bool (false)), (6, v4), (7, Value.int .i64 ((p1.f_Marks.length : Int))), (8, Value.int .i64 (x12))] := (hS.part (.cons rfl (.cons rfl (.cons rfl (.cons rfl (.cons rfl (.cons rfl (.cons rfl (.nil _)))))))))
                  refine x_then ?_
                  obtain rfl := Option.some.inj h37
                  exact ⟨(hS.part (.cons rfl (.cons rfl (.cons rfl (.cons rfl (.cons rfl (.cons rfl (.cons rfl (.nil _))))))))), hM⟩
                ·
                  replace hS := hS.known (k := 25) rfl hc38
                  refine st_off hS rfl rfl rfl rfl rfl rfl (by decide) fun a hS => ?_
                  refine st_off hS rfl rfl rfl rfl rfl rfl (by decide) fun a hS => ?_
                  refine st_off hS rfl rfl rfl rfl rfl rfl (by decide) fun a hS => ?_
                  refine st_off hS rfl rfl rfl rfl rfl rfl (by decide) fun a hS => ?_
                  refine st_off hS rfl rfl rfl rfl rfl rfl (by decide) fun a hS => ?_
                  refine st_off hS rfl rfl rfl rfl rfl rfl (by decide) fun a hS => ?_
                  refine st_off hS rfl rfl rfl rfl rfl rfl (by decide) fun a hS => ?_
                  refine st_off hS rfl rfl rfl rfl rfl rfl (by decide) fun a hS => ?_
                  refine st_want hS rfl rfl rfl rfl rfl (by decide) (r_pick_false rfl (hS.ev_ rfl) rfl (hS.ev_ rfl)) fun a hS => ?_
                  refine st_done ?_
                  replace hS : Slots 37 [] a [(34, Value.bool (false)), (22, Value.bool (false)), (1, Value.pointer (some ⟨g6, 0, none⟩)), (2, Value.bool (false)), (6, v4), (7, Value.int .i64 ((p1.f_Marks.length : Int))), (8, Value.int .i64 (x12))] := (hS.part (.cons rfl (.cons rfl (.cons rfl (.cons rfl (.cons rfl (.cons rfl (.cons rfl (.nil _)))))))))
                  refine x_then ?_
                  obtain rfl := Option.some.inj h37
                  exact ⟨(hS.part (.cons rfl (.cons rfl (.cons rfl (.cons rfl (.cons rfl (.cons rfl (.cons rfl (.nil _))))))))), hM⟩
              · rintro a w ⟨hS, hM⟩
                refine st_val hS rfl rfl (by decide) (r_pick_false rfl (hS.ev_ rfl) rfl (hS.ev_ rfl)) fun a hS => ?_
                refine st_done ?_
                replace hS : Slots 37 [] a [(35, Value.bool (x36)), (1, Value.pointer (some ⟨g6, 0, none⟩)), (2, Value.bool (false)), (6, v4), (7, Value.int .i64 ((p1.f_Marks.length : Int))), (8, Value.int .i64 (x12))] := (hS.part (.cons rfl (.cons rfl (.cons rfl (.cons rfl (.cons rfl (.cons rfl (.nil _))))))))
                refine x_then ?_
                obtain rfl := Option.some.inj h34
                exact ⟨(hS.part (.cons rfl (.cons rfl (.cons rfl (.cons rfl (.cons rfl (.cons rfl (.nil _)))))))), hM⟩
          · rintro a w ⟨hS, hM⟩
            refine st_done ?_
            replace hS : Slots 37 [] a [(1, Value.pointer (some ⟨g6, 0, none⟩)), (2, Value.bool (false)), (6, v4), (7, Value.int .i64 ((p1.f_Marks.length : Int))), (8, Value.int .i64 (x12)), (35, Value.bool (x33))] := (hS.part (.cons rfl (.cons rfl (.cons rfl (.cons rfl (.cons rfl (.cons rfl (.nil _))))))))
            refine x_then ?_
            rcases ifB h with ⟨hc49, h⟩ | ⟨hc49, h⟩
            · refine c_cond_true (hS.ev_ rfl) hc49 ?_
              refine wp_seq ?_
              refine wp_region_lit ?_
              refine st_val hS rfl rfl (by decide) (r_assign rfl (hS.ev_ rfl)) fun a hS => ?_
              refine st_done ?_
              replace hS : Slots 37 [] a [(2, Value.bool (false)), (1, Value.pointer (some ⟨g6, 0, none⟩)), (6, v4), (7, Value.int .i64 ((p1.f_Marks.length : Int))), (8, Value.int .i64 (x12))] := (hS.part (.cons rfl (.cons rfl (.cons rfl (.cons rfl (.cons rfl (.nil _)))))))
              refine x_then ?_
              refine wp_ret ?_
              refine x_block_ret ?_
              refine x_then_ret ?_
              refine x_then_ret ?_
              have ho' := (Option.some.inj h).trans hr
              refine hQ _ _ _ ?_
              exact .inr (⟨rfl, K11, (()), hlK11, ho'.symm, (hS.part (.cons rfl (.nil _))), hM⟩)
            · refine c_cond_false (hS.ev_ rfl) hc49 ?_
              refine wp_skip ?_
              refine x_block ?_
              refine x_then ?_
              refine wp_region_lit ?_
              refine st_val hS rfl rfl (by decide) (r_add rfl (hS.ev_ rfl) (hS.ev_ rfl)) fun a hS => ?_
              refine st_val hS rfl rfl (by decide) (r_move rfl (hS.ev_ rfl)) fun a hS => ?_
              refine st_done ?_
              replace hS : Slots 37 [] a [(8, Value.int .i64 (w64 (x12 + 1))), (1, Value.pointer (some ⟨g6, 0, none⟩)), (2, Value.bool (false)), (6, v4), (7, Value.int .i64 ((p1.f_Marks.length : Int)))] := (hS.part (.cons rfl (.cons rfl (.cons rfl (.cons rfl (.cons rfl (.nil _)))))))
              refine x_then ?_
              exact ih (w64 (x12 + 1)) _ h hr K11 _ _ hlK11 (hS.part (.cons rfl (.cons rfl (.cons rfl (.cons rfl (.cons rfl (.nil _))))))) (hM)
      · refine c_cond_false (hS.ev_ rfl) hc19 ?_
        refine wp_exit ?_
        refine x_then_exit ?_
        refine x_then_exit ?_
        have ho' := (Option.some.inj h).trans hr
        refine hQ _ _ _ ?_
        exact .inl ⟨rfl, K11, (()), hlK11, ho'.symm, (hS.part (.cons rfl (.nil _))), hM⟩
    exact key 0 _ h14 rfl K _ _ (Hp.le.refl _) (hS.part (.cons rfl (.cons rfl (.cons rfl (.cons rfl (.cons rfl (.nil _))))))) (hM)
  · rintro e a w (⟨rfl, K15, x16, hlK15, ho', hS, hM⟩ | ⟨rfl, K17, x18, hlK17, ho', hS, hM⟩)
    · subst ho'
      dsimp only at h
      refine x_block_here ?_
      refine x_then ?_
      refine wp_seq ?_
      refine wp_region_lit ?_
      refine st_val hS rfl rfl (by decide) (r_assign rfl (hS.ev_ rfl)) fun a hS => ?_
      refine st_done ?_
      replace hS : Slots 37 [] a [(2, Value.bool (true))] := (hS.part (.cons rfl (.nil _)))
      refine x_then ?_
      refine wp_ret ?_
      have hr' := Option.some.inj h
      subst hr'
      refine ret1 (.inr rfl) hS rfl rfl ?_
      exact ⟨K15, hlK15, (hM).tail, rfl⟩
    · subst ho'
      dsimp only at h
      refine x_block_ret ?_
      refine x_then_ret ?_
      have hr' := Option.some.inj h
      subst hr'
      refine ret1 (.inr rfl) hS rfl rfl ?_
      exact ⟨K17, hlK17, (hM).tail, rfl⟩

theorem raw_Right_c {w0 w : World} {K : Hp} {L : List SP} {p1 : raw_Event} {v2 : Value} {v4 : Value} {r : Bool} (hG : Glob w0) (h : raw_Right p1 = some r) (f3 : Kd.u8.sl K v2 p1.f_Bytes) (f5 : (Kd.int .i64).sl K v4 p1.f_Marks) (hM : Sat w0 w K (L)) :
    Calls Tryd.prog 10 #[Value.agg #[Value.int .i64 (p1.f_Kind), Value.int .i64 (p1.f_N), v2, v4]] w (fun e w' => ∃ (K' : Hp), Hp.le K K' ∧ Sat w0 w' K' (L) ∧ e = .returned (Value.bool (r))) := by
  refine enter_ (n := 56) (args := [Value.agg #[Value.int .i64 (p1.f_Kind), Value.int .i64 (p1.f_N), v2, v4]]) Tryd.func10 rfl rfl (Nat.le_of_ble_eq_true rfl) fun a hS => ?_
  replace hS : Slots 56 [] a [(0, Value.agg #[Value.int .i64 (p1.f_Kind), Value.int .i64 (p1.f_N), v2, v4])] := hS
  unfold raw_Right at h
  refine wp_seq ?_
  refine wp_region_lit ?_
  refine wl_cons rfl (e_box (cs := [Value.int .i64 (p1.f_Kind), Value.int .i64 (p1.f_N), v2, v4]) hM rfl (hS.ev_ rfl) rfl fun g6 w hM => ?_)
  refine pl hS rfl (by decide) fun a hS => ?_
  refine st_val hS rfl rfl (by decide) (r_assign rfl (hS.ev_ rfl)) fun a hS => ?_
  refine st_done ?_
  replace hS : Slots 56 [] a [(2, Value.bool (false)), (1, Value.pointer (some ⟨g6, 0, none⟩))] := (hS.part (.cons rfl (.cons rfl (.nil _))))
  refine x_then ?_
  extract_lets k8 at h
  refine c_cut (fun a w => k8 () = some r ∧ Slots 56 [] a [(2, Value.bool (false))] ∧ Sat w0 w K (SP.blk g6 25 [Value.int .i64 (p1.f_Kind), Value.int .i64 (p1.f_N), v2, v4] :: L)) ?_ ?_
  ·
    refine wp_seq ?_
    refine wp_region_lit ?_
    refine st_val hS rfl rfl (by decide) (r_fld_b rfl fo_25_0 (hS.ev_ rfl)) fun a hS => ?_
    refine st_val hS rfl rfl (by decide) (r_ld1_b rfl ag_3 (hS.ev_ rfl) rfl (Rd.of hM)) fun a hS => ?_
    refine st_done ?_
    replace hS : Slots 56 [] a [(4, Value.int .i64 (p1.f_Kind)), (2, Value.bool (false)), (1, Value.pointer (some ⟨g6, 0, none⟩))] := (hS.part (.cons rfl (.cons rfl (.cons rfl (.nil _)))))
    refine x_then ?_
    refine wp_block ?_
    refine wp_seq ?_
    refine wp_region_lit ?_
    refine st_val hS rfl rfl (by decide) (r_cmp rfl (hS.ev_ rfl) (hS.ev_ rfl) rfl) fun a hS => ?_
    refine st_val hS rfl rfl (by decide) (r_assign rfl (hS.ev_ rfl)) fun a hS => ?_
    refine st_done ?_
    replace hS : Slots 56 [] a [(5, Value.bool (p1.f_Kind == 1)), (4, Value.int .i64 (p1.f_Kind)), (2, Value.bool (false)), (1, Value.pointer (some ⟨g6, 0, none⟩))] := (hS.part (.cons rfl (.cons rfl (.cons rfl (.cons rfl (.nil _))))))
    refine x_then ?_
    rcases ifB h with ⟨hc10, h⟩ | ⟨hc10, h⟩
    · refine c_cond_true (hS.ev_ rfl) hc10 ?_
      refine wp_seq ?_
      refine wp_region_lit ?_
      refine st_val hS rfl rfl (by decide) (r_fld_b rfl fo_25_1 (hS.ev_ rfl)) fun a hS => ?_
      refine st_val hS rfl rfl (by decide) (r_ld1_b rfl ag_3 (hS.ev_ rfl) rfl (Rd.of hM)) fun a hS => ?_
      refine st_val hS rfl rfl (by decide) (r_cmp rfl (hS.ev_ rfl) (hS.ev_ rfl) rfl) fun a hS => ?_
      refine st_val hS rfl rfl (by decide) (r_move rfl (hS.ev_ rfl)) fun a hS => ?_
      obtain ⟨x11, h12, h⟩ := bindO h
      refine wl_cut 5 (fun a w => Slots 56 [] a [(1, Value.pointer (some ⟨g6, 0, none⟩)), (2, Value.bool (false)), (15, Value.bool (x11))] ∧ Sat w0 w K (SP.blk g6 25 [Value.int .i64 (p1.f_Kind), Value.int .i64 (p1.f_N), v2, v4] :: L)) ?_ ?_
      ·
        skip
        rcases ifB h12 with ⟨hc13, h12⟩ | ⟨hc13, h12⟩
        ·
          replace hS := hS.known (k := 10) rfl hc13
          refine st_want hS rfl rfl rfl rfl rfl (by decide) (r_fld_b rfl fo_25_2 (hS.ev_ rfl)) fun a hS => ?_
          refine st_want hS rfl rfl rfl rfl rfl (by decide) (r_ld1_b rfl ag_22 (hS.ev_ rfl) rfl (Rd.of hM)) fun a hS => ?_
          refine st_want hS rfl rfl rfl rfl rfl (by decide) (r_len_sl rfl un_22 (hS.ev_ rfl) f3) fun a hS => ?_
          refine st_want hS rfl rfl rfl rfl rfl (by decide) (r_cmp rfl (hS.ev_ rfl) (hS.ev_ rfl) rfl) fun a hS => ?_
          refine st_val hS rfl rfl (by decide) (r_pick_true rfl (hS.ev_ rfl) rfl (hS.ev_ rfl)) fun a hS => ?_
          refine st_done ?_
          replace hS : Slots 56 [] a [(15, Value.bool (decide (((p1.f_Bytes.length : Int)) ≤ 1024))), (2, Value.bool (false)), (1, Value.pointer (some ⟨g6, 0, none⟩))] := (hS.part (.cons rfl (.cons rfl (.cons rfl (.nil _)))))
          refine x_then ?_
          obtain rfl := Option.some.inj h12
          exact ⟨(hS.part (.cons rfl (.cons rfl (.cons rfl (.nil _))))), hM⟩
        ·
          replace hS := hS.known (k := 10) rfl hc13
          refine st_off hS rfl rfl rfl rfl rfl rfl (by decide) fun a hS => ?_
          refine st_off hS rfl rfl rfl rfl rfl rfl (by decide) fun a hS => ?_
          refine st_off hS rfl rfl rfl rfl rfl rfl (by decide) fun a hS => ?_
          refine st_off hS rfl rfl rfl rfl rfl rfl (by decide) fun a hS => ?_
          refine st_val hS rfl rfl (by decide) (r_pick_false rfl (hS.ev_ rfl) rfl (hS.ev_ rfl)) fun a hS => ?_
          refine st_done ?_
          replace hS : Slots 56 [] a [(15, Value.bool (false)), (2, Value.bool (false)), (1, Value.pointer (some ⟨g6, 0, none⟩))] := (hS.part (.cons rfl (.cons rfl (.cons rfl (.nil _)))))
          refine x_then ?_
          obtain rfl := Option.some.inj h12
          exact ⟨(hS.part (.cons rfl (.cons rfl (.cons rfl (.nil _))))), hM⟩
      · rintro a w ⟨hS, hM⟩
        refine st_val hS rfl rfl (by decide) (r_move rfl (hS.ev_ rfl)) fun a hS => ?_
        obtain ⟨x15, h16, h⟩ := bindO h
        refine wl_cut 3 (fun a w => ∃ (K14 : Hp), Hp.le K K14 ∧ Slots 56 [] a [(2, Value.bool (false)), (19, Value.bool (x15))] ∧ Sat w0 w K14 (SP.blk g6 25 [Value.int .i64 (p1.f_Kind), Value.int .i64 (p1.f_N), v2, v4] :: L)) ?_ ?_
        ·
          skip
          rcases ifB h16 with ⟨hc17, h16⟩ | ⟨hc17, h16⟩
          ·
            replace hS := hS.known (k := 16) rfl hc17
            refine st_want hS rfl rfl rfl rfl rfl (by decide) (r_ldN_b (cs' := [Value.int .i64 (p1.f_Kind), Value.int .i64 (p1.f_N), v2, v4]) rfl ag_25 ti_25 (hS.ev_ rfl) rfl (Rd.of hM)) fun a hS => ?_
            obtain ⟨y18, h19, h16⟩ := bindO h16
            have hc21 := raw_Event_marked_c hG h19 f3 f5 hM
            refine g_want hS rfl rfl rfl rfl (e_call rfl Tryd.func24 rfl rfl (args1 (hS.ev_ rfl)) hc21 ?_)
            rintro _ w ⟨K20, hlK20, hM, rfl⟩
            refine ⟨_, rfl, ?_⟩
            refine pl hS rfl (by decide) fun a hS => ?_
            refine st_val hS rfl rfl (by decide) (r_pick_true rfl (hS.ev_ rfl) rfl (hS.ev_ rfl)) fun a hS => ?_
            refine st_done ?_
            replace hS : Slots 56 [] a [(19, Value.bool (y18)), (2, Value.bool (false))] := (hS.part (.cons rfl (.cons rfl (.nil _))))
            refine x_then ?_
            obtain rfl := Option.some.inj h16
            exact ⟨K20, hlK20, (hS.part (.cons rfl (.cons rfl (.nil _)))), hM⟩
          ·
            replace hS := hS.known (k := 16) rfl hc17
            refine st_off hS rfl rfl rfl rfl rfl rfl (by decide) fun a hS => ?_
            refine st_off hS rfl rfl rfl rfl rfl rfl (by decide) fun a hS => ?_
            refine st_val hS rfl rfl (by decide) (r_pick_false rfl (hS.ev_ rfl) rfl (hS.ev_ rfl)) fun a hS => ?_
            refine st_done ?_
            replace hS : Slots 56 [] a [(19, Value.bool (false)), (2, Value.bool (false))] := (hS.part (.cons rfl (.cons rfl (.nil _))))
            refine x_then ?_
            obtain rfl := Option.some.inj h16
            exact ⟨K, (Hp.le.refl _), (hS.part (.cons rfl (.cons rfl (.nil _)))), hM⟩
        · rintro a w ⟨K14, hlK14, hS, hM⟩
          refine st_val hS rfl rfl (by decide) (r_assign rfl (hS.ev_ rfl)) fun a hS => ?_
          refine st_done ?_
          replace hS : Slots 56 [] a [(2, Value.bool (x15))] := (hS.part (.cons rfl (.nil _)))
          refine x_then ?_
          refine wp_ret ?_
          refine x_block_ret ?_
          refine x_then_ret ?_
          have hr' := Option.some.inj h
          subst hr'
          refine ret1 (.inr rfl) hS rfl rfl ?_
          exact ⟨K14, hlK14, (hM).tail, rfl⟩
    · refine c_cond_false (hS.ev_ rfl) hc10 ?_
      obtain ⟨x22, h23, h⟩ := bindO h
      refine c_cut (fun a w => Slots 56 [] a [(1, Value.pointer (some ⟨g6, 0, none⟩)), (2, Value.bool (false)), (4, Value.int .i64 (p1.f_Kind)), (20, Value.bool (x22))] ∧ Sat w0 w K (SP.blk g6 25 [Value.int .i64 (p1.f_Kind), Value.int .i64 (p1.f_N), v2, v4] :: L)) ?_ ?_
      ·
        refine wp_seq ?_
        refine wp_region_lit ?_
        refine st_val hS rfl rfl (by decide) (r_cmp rfl (hS.ev_ rfl) (hS.ev_ rfl) rfl) fun a hS => ?_
        refine st_val hS rfl rfl (by decide) (r_assign rfl (hS.ev_ rfl)) fun a hS => ?_
        refine st_done ?_
        replace hS : Slots 56 [] a [(20, Value.bool (p1.f_Kind == 2)), (4, Value.int .i64 (p1.f_Kind)), (2, Value.bool (false)), (1, Value.pointer (some ⟨g6, 0, none⟩))] := (hS.part (.cons rfl (.cons rfl (.cons rfl (.cons rfl (.nil _))))))
        refine x_then ?_
        rcases ifB h23 with ⟨hc24, h23⟩ | ⟨hc24, h23⟩
        · refine c_cond_true (hS.ev_ rfl) hc24 ?_
          refine wp_skip ?_
          refine x_then ?_
          obtain rfl := Option.some.inj h23
          exact ⟨(hS.part (.cons rfl (.cons rfl (.cons rfl (.cons rfl (.nil _)))))), hM⟩
        · refine c_cond_false (hS.ev_ rfl) hc24 ?_
          refine wp_region_lit ?_
          refine st_val hS rfl rfl (by decide) (r_cmp rfl (hS.ev_ rfl) (hS.ev_ rfl) rfl) fun a hS => ?_
          refine st_val hS rfl rfl (by decide) (r_assign rfl (hS.ev_ rfl)) fun a hS => ?_
          refine st_done ?_
          replace hS : Slots 56 [] a [(20, Value.bool (p1.f_Kind == 3)), (4, Value.int .i64 (p1.f_Kind)), (2, Value.bool (false)), (1, Value.pointer (some ⟨g6, 0, none⟩))] := (hS.part (.cons rfl (.cons rfl (.cons rfl (.cons rfl (.nil _))))))
          refine x_then ?_
          obtain rfl := Option.some.inj h23
          exact ⟨(hS.part (.cons rfl (.cons rfl (.cons rfl (.cons rfl (.nil _)))))), hM⟩
      · rintro a w ⟨hS, hM⟩
        rcases ifB h with ⟨hc25, h⟩ | ⟨hc25, h⟩
        · refine c_cond_true (hS.ev_ rfl) hc25 ?_
          refine wp_seq ?_
          refine wp_region_lit ?_
          refine st_val hS rfl rfl (by decide) (r_fld_b rfl fo_25_1 (hS.ev_ rfl)) fun a hS => ?_
          refine st_val hS rfl rfl (by decide) (r_ld1_b rfl ag_3 (hS.ev_ rfl) rfl (Rd.of hM)) fun a hS => ?_
          refine st_val hS rfl rfl (by decide) (r_cmp rfl (hS.ev_ rfl) (hS.ev_ rfl) rfl) fun a hS => ?_
          refine st_val hS rfl rfl (by decide) (r_move rfl (hS.ev_ rfl)) fun a hS => ?_
          obtain ⟨x26, h27, h⟩ := bindO h
          refine wl_cut 4 (fun a w => Slots 56 [] a [(1, Value.pointer (some ⟨g6, 0, none⟩)), (2, Value.bool (false)), (30, Value.bool (x26))] ∧ Sat w0 w K (SP.blk g6 25 [Value.int .i64 (p1.f_Kind), Value.int .i64 (p1.f_N), v2, v4] :: L)) ?_ ?_
          ·
            skip
            rcases ifB h27 with ⟨hc28, h27⟩ | ⟨hc28, h27⟩
            ·
              replace hS := hS.known (k := 26) rfl hc28
              refine st_want hS rfl rfl rfl rfl rfl (by decide) (r_fld_b rfl fo_25_1 (hS.ev_ rfl)) fun a hS => ?_
              refine st_want hS rfl rfl rfl rfl rfl (by decide) (r_ld1_b rfl ag_3 (hS.ev_ rfl) rfl (Rd.of hM)) fun a hS => ?_
              refine st_want hS rfl rfl rfl rfl rfl (by decide) (r_cmp rfl (hS.ev_ rfl) (hS.ev_ rfl) rfl) fun a hS => ?_
              refine st_val hS rfl rfl (by decide) (r_pick_true rfl (hS.ev_ rfl) rfl (hS.ev_ rfl)) fun a hS => ?_
              refine st_done ?_
              replace hS : Slots 56 [] a [(30, Value.bool (decide (p1.f_N ≤ 9999))), (1, Value.pointer (some ⟨g6, 0, none⟩)), (2, Value.bool (false))] := (hS.part (.cons rfl (.cons rfl (.cons rfl (.nil _)))))
              refine x_then ?_
              obtain rfl := Option.some.inj h27
              exact ⟨(hS.part (.cons rfl (.cons rfl (.cons rfl (.nil _))))), hM⟩
            ·
              replace hS := hS.known (k := 26) rfl hc28
              refine st_off hS rfl rfl rfl rfl rfl rfl (by decide) fun a hS => ?_
              refine st_off hS rfl rfl rfl rfl rfl rfl (by decide) fun a hS => ?_
              refine st_off hS rfl rfl rfl rfl rfl rfl (by decide) fun a hS => ?_
              refine st_val hS rfl rfl (by decide) (r_pick_false rfl (hS.ev_ rfl) rfl (hS.ev_ rfl)) fun a hS => ?_
              refine st_done ?_
              replace hS : Slots 56 [] a [(30, Value.bool (false)), (1, Value.pointer (some ⟨g6, 0, none⟩)), (2, Value.bool (false))] := (hS.part (.cons rfl (.cons rfl (.cons rfl (.nil _)))))
              refine x_then ?_
              obtain rfl := Option.some.inj h27
              exact ⟨(hS.part (.cons rfl (.cons rfl (.cons rfl (.nil _))))), hM⟩
          · rintro a w ⟨hS, hM⟩
            refine st_val hS rfl rfl (by decide) (r_move rfl (hS.ev_ rfl)) fun a hS => ?_
            obtain ⟨x29, h30, h⟩ := bindO h
            refine wl_cut 9 (fun a w => Slots 56 [] a [(2, Value.bool (false)), (40, Value.bool (x29))] ∧ Sat w0 w K (SP.blk g6 25 [Value.int .i64 (p1.f_Kind), Value.int .i64 (p1.f_N), v2, v4] :: L)) ?_ ?_
            ·
              skip
              rcases ifB h30 with ⟨hc31, h30⟩ | ⟨hc31, h30⟩
              ·
                replace hS := hS.known (k := 31) rfl hc31
                refine st_want hS rfl rfl rfl rfl rfl (by decide) (r_fld_b rfl fo_25_2 (hS.ev_ rfl)) fun a hS => ?_
                refine st_want hS rfl rfl rfl rfl rfl (by decide) (r_ld1_b rfl ag_22 (hS.ev_ rfl) rfl (Rd.of hM)) fun a hS => ?_
                refine st_want hS rfl rfl rfl rfl rfl (by decide) (r_len_sl rfl un_22 (hS.ev_ rfl) f3) fun a hS => ?_
                refine st_want hS rfl rfl rfl rfl rfl (by decide) (r_fld_b rfl fo_25_3 (hS.ev_ rfl)) fun a hS => ?_
                refine st_want hS rfl rfl rfl rfl rfl (by decide) (r_ld1_b rfl ag_23 (hS.ev_ rfl) rfl (Rd.of hM)) fun a hS => ?_
                refine st_want hS rfl rfl rfl rfl rfl (by decide) (r_len_sl rfl un_23 (hS.ev_ rfl) f5) fun a hS => ?_
                refine st_want hS rfl rfl rfl rfl rfl (by decide) (r_add rfl (hS.ev_ rfl) (hS.ev_ rfl)) fun a hS => ?_
                refine st_want hS rfl rfl rfl rfl rfl (by decide) (r_cmp rfl (hS.ev_ rfl) (hS.ev_ rfl) rfl) fun a hS => ?_
                refine st_val hS rfl rfl (by decide) (r_pick_true rfl (hS.ev_ rfl) rfl (hS.ev_ rfl)) fun a hS => ?_
                refine st_done ?_
                replace hS : Slots 56 [] a [(40, Value.bool ((w64 (((p1.f_Bytes.length : Int)) + ((p1.f_Marks.length : Int)))) == 0)), (2, Value.bool (false))] := (hS.part (.cons rfl (.cons rfl (.nil _))))
                refine x_then ?_
                obtain rfl := Option.some.inj h30
                exact ⟨(hS.part (.cons rfl (.cons rfl (.nil _)))), hM⟩
              ·
                replace hS := hS.known (k := 31) rfl hc31
                refine st_off hS rfl rfl rfl rfl rfl rfl (by decide) fun a hS => ?_
                refine st_off hS rfl rfl rfl rfl rfl rfl (by decide) fun a hS => ?_
                refine st_off hS rfl rfl rfl rfl rfl rfl (by decide) fun a hS => ?_
                refine st_off hS rfl rfl rfl rfl rfl rfl (by decide) fun a hS => ?_
                refine st_off hS rfl rfl rfl rfl rfl rfl (by decide) fun a hS => ?_
                refine st_off hS rfl rfl rfl rfl rfl rfl (by decide) fun a hS => ?_
                refine st_off hS rfl rfl rfl rfl rfl rfl (by decide) fun a hS => ?_
                refine st_off hS rfl rfl rfl rfl rfl rfl (by decide) fun a hS => ?_
                refine st_val hS rfl rfl (by decide) (r_pick_false rfl (hS.ev_ rfl) rfl (hS.ev_ rfl)) fun a hS => ?_
                refine st_done ?_
                replace hS : Slots 56 [] a [(40, Value.bool (false)), (2, Value.bool (false))] := (hS.part (.cons rfl (.cons rfl (.nil _))))
                refine x_then ?_
                obtain rfl := Option.some.inj h30
                exact ⟨(hS.part (.cons rfl (.cons rfl (.nil _)))), hM⟩
            · rintro a w ⟨hS, hM⟩
              refine st_val hS rfl rfl (by decide) (r_assign rfl (hS.ev_ rfl)) fun a hS => ?_
              refine st_done ?_
              replace hS : Slots 56 [] a [(2, Value.bool (x29))] := (hS.part (.cons rfl (.nil _)))
              refine x_then ?_
              refine wp_ret ?_
              refine x_block_ret ?_
              refine x_then_ret ?_
              have hr' := Option.some.inj h
              subst hr'
              refine ret1 (.inr rfl) hS rfl rfl ?_
              exact ⟨K, (Hp.le.refl _), (hM).tail, rfl⟩
        · refine c_cond_false (hS.ev_ rfl) hc25 ?_
          refine wp_seq ?_
          refine wp_region_lit ?_
          refine st_val hS rfl rfl (by decide) (r_cmp rfl (hS.ev_ rfl) (hS.ev_ rfl) rfl) fun a hS => ?_
          refine st_val hS rfl rfl (by decide) (r_assign rfl (hS.ev_ rfl)) fun a hS => ?_
          refine st_done ?_
          replace hS : Slots 56 [] a [(41, Value.bool (p1.f_Kind == 4)), (1, Value.pointer (some ⟨g6, 0, none⟩)), (2, Value.bool (false))] := (hS.part (.cons rfl (.cons rfl (.cons rfl (.nil _)))))
          refine x_then ?_
          rcases ifB h with ⟨hc32, h⟩ | ⟨hc32, h⟩
          · refine c_cond_true (hS.ev_ rfl) hc32 ?_
            refine wp_seq ?_
            refine wp_region_lit ?_
            refine st_val hS rfl rfl (by decide) (r_fld_b rfl fo_25_1 (hS.ev_ rfl)) fun a hS => ?_
            refine st_val hS rfl rfl (by decide) (r_ld1_b rfl ag_3 (hS.ev_ rfl) rfl (Rd.of hM)) fun a hS => ?_
            refine st_val hS rfl rfl (by decide) (r_cmp rfl (hS.ev_ rfl) (hS.ev_ rfl) rfl) fun a hS => ?_
            refine st_val hS rfl rfl (by decide) (r_move rfl (hS.ev_ rfl)) fun a hS => ?_
            obtain ⟨x33, h34, h⟩ := bindO h
            refine wl_cut 9 (fun a w => Slots 56 [] a [(2, Value.bool (false)), (55, Value.bool (x33))] ∧ Sat w0 w K (SP.blk g6 25 [Value.int .i64 (p1.f_Kind), Value.int .i64 (p1.f_N), v2, v4] :: L)) ?_ ?_
            ·
              skip
              rcases ifB h34 with ⟨hc35, h34⟩ | ⟨hc35, h34⟩
              ·
                replace hS := hS.known (k := 46) rfl hc35
                refine st_want hS rfl rfl rfl rfl rfl (by decide) (r_fld_b rfl fo_25_2 (hS.ev_ rfl)) fun a hS => ?_
                refine st_want hS rfl rfl rfl rfl rfl (by decide) (r_ld1_b rfl ag_22 (hS.ev_ rfl) rfl (Rd.of hM)) fun a hS => ?_
                refine st_want hS rfl rfl rfl rfl rfl (by decide) (r_len_sl rfl un_22 (hS.ev_ rfl) f3) fun a hS => ?_
                refine st_want hS rfl rfl rfl rfl rfl (by decide) (r_fld_b rfl fo_25_3 (hS.ev_ rfl)) fun a hS => ?_
                refine st_want hS rfl rfl rfl rfl rfl (by decide) (r_ld1_b rfl ag_23 (hS.ev_ rfl) rfl (Rd.of hM)) fun a hS => ?_
                refine st_want hS rfl rfl rfl rfl rfl (by decide) (r_len_sl rfl un_23 (hS.ev_ rfl) f5) fun a hS => ?_
                refine st_want hS rfl rfl rfl rfl rfl (by decide) (r_add rfl (hS.ev_ rfl) (hS.ev_ rfl)) fun a hS => ?_
                refine st_want hS rfl rfl rfl rfl rfl (by decide) (r_cmp rfl (hS.ev_ rfl) (hS.ev_ rfl) rfl) fun a hS => ?_
                refine st_val hS rfl rfl (by decide) (r_pick_true rfl (hS.ev_ rfl) rfl (hS.ev_ rfl)) fun a hS => ?_
                refine st_done ?_
                replace hS : Slots 56 [] a [(55, Value.bool ((w64 (((p1.f_Bytes.length : Int)) + ((p1.f_Marks.length : Int)))) == 0)), (2, Value.bool (false))] := (hS.part (.cons rfl (.cons rfl (.nil _))))
                refine x_then ?_
                obtain rfl := Option.some.inj h34
                exact ⟨(hS.part (.cons rfl (.cons rfl (.nil _)))), hM⟩
              ·
                replace hS := hS.known (k := 46) rfl hc35
                refine st_off hS rfl rfl rfl rfl rfl rfl (by decide) fun a hS => ?_
                refine st_off hS rfl rfl rfl rfl rfl rfl (by decide) fun a hS => ?_
                refine st_off hS rfl rfl rfl rfl rfl rfl (by decide) fun a hS => ?_
                refine st_off hS rfl rfl rfl rfl rfl rfl (by decide) fun a hS => ?_
                refine st_off hS rfl rfl rfl rfl rfl rfl (by decide) fun a hS => ?_
                refine st_off hS rfl rfl rfl rfl rfl rfl (by decide) fun a hS => ?_
                refine st_off hS rfl rfl rfl rfl rfl rfl (by decide) fun a hS => ?_
                refine st_off hS rfl rfl rfl rfl rfl rfl (by decide) fun a hS => ?_
                refine st_val hS rfl rfl (by decide) (r_pick_false rfl (hS.ev_ rfl) rfl (hS.ev_ rfl)) fun a hS => ?_
                refine st_done ?_
                replace hS : Slots 56 [] a [(55, Value.bool (false)), (2, Value.bool (false))] := (hS.part (.cons rfl (.cons rfl (.nil _))))
                refine x_then ?_
                obtain rfl := Option.some.inj h34
                exact ⟨(hS.part (.cons rfl (.cons rfl (.nil _)))), hM⟩
            · rintro a w ⟨hS, hM⟩
              refine st_val hS rfl rfl (by decide) (r_assign rfl (hS.ev_ rfl)) fun a hS => ?_
              refine st_done ?_
              replace hS : Slots 56 [] a [(2, Value.bool (x33))] := (hS.part (.cons rfl (.nil _)))
              refine x_then ?_
              refine wp_ret ?_
              refine x_block_ret ?_
              refine x_then_ret ?_
              have hr' := Option.some.inj h
              subst hr'
              refine ret1 (.inr rfl) hS rfl rfl ?_
              exact ⟨K, (Hp.le.refl _), (hM).tail, rfl⟩
          · refine c_cond_false (hS.ev_ rfl) hc32 ?_
            refine wp_skip ?_
            refine x_block ?_
            refine x_then ?_
            exact ⟨h, (hS.part (.cons rfl (.nil _))), hM⟩
  · rintro a w ⟨h9, hS, hM⟩
    simp only [k8] at h9
    refine wp_seq ?_
    refine wp_region_lit ?_
    refine st_val hS rfl rfl (by decide) (r_assign rfl (hS.ev_ rfl)) fun a hS => ?_
    refine st_done ?_
    replace hS : Slots 56 [] a [(2, Value.bool (false))] := (hS.part (.cons rfl (.nil _)))
    refine x_then ?_
    refine wp_ret ?_
    have hr' := Option.some.inj h9
    subst hr'
    refine ret1 (.inr rfl) hS rfl rfl ?_
    exact ⟨K, (Hp.le.refl _), (hM).tail, rfl⟩

theorem raw_Parse_c {w0 w : World} {K : Hp} {L : List SP} {p1 : List UInt8} {r : raw_Event × (Option Nat)} (hG : Glob w0) (h : raw_Parse p1 = some r) (hM : Sat w0 w K (L)) :
    Calls Tryd.prog 9 #[strV (p1)] w (fun e w' => ∃ (K' : Hp) (v'1 v'2 : Value), Hp.le K K' ∧ Sat w0 w' K' (L) ∧ e = .returned (Value.tuple #[Value.agg #[Value.int .i64 (r.1.f_Kind), Value.int .i64 (r.1.f_N), v'1, v'2], eV w0 r.2]) ∧ Kd.u8.sl K' v'1 r.1.f_Bytes ∧ (Kd.int .i64).sl K' v'2 r.1.f_Marks) := by
  refine enter_ (n := 22) (args := [strV (p1)]) Tryd.func9 rfl rfl (Nat.le_of_ble_eq_true rfl) fun a hS => ?_
  replace hS : Slots 22 [] a [(0, strV (p1))] := hS
  unfold raw_Parse at h
  refine wp_seq ?_
  refine wp_region_lit ?_
  refine wl_cons rfl (e_alloc (cs := [Value.int .i64 (0), Value.int .i64 (0), Value.slice none 0 0, Value.slice none 0 0]) hM rfl ti_25 rfl fun g2 w hM => ?_)
  refine pl hS rfl (by decide) fun a hS => ?_
  refine st_val hS rfl rfl (by decide) (r_assign rfl (hS.ev_ rfl)) fun a hS => ?_
  refine st_done ?_
  replace hS : Slots 22 [] a [(3, eV w0 ((none : Option Nat))), (2, Value.pointer (some ⟨g2, 0, none⟩)), (0, strV (p1))] := (hS.part (.cons rfl (.cons rfl (.cons rfl (.nil _)))))
  refine x_then ?_
  refine wp_seq ?_
  refine wp_region_lit ?_
  refine st_val hS rfl rfl (by decide) (r_move rfl (hS.ev_ rfl)) fun a hS => ?_
  obtain ⟨y4, h5, h⟩ := bindO h
  have hc7 := strings_Split_c hG h5 hM
  refine wl_cons rfl (e_call rfl Tryd.func23 rfl rfl (args2 (hS.ev_ rfl) (hS.ev_ (v := strV (([32] : List UInt8))) rfl)) hc7 ?_)
  rintro _ w ⟨K6, v8, hlK6, hM, rfl, f9⟩
  refine ⟨_, rfl, ?_⟩
  refine pl hS rfl (by decide) fun a hS => ?_
  obtain ⟨y10, h11, h⟩ := bindO h
  have hc13 := raw_event_c hG h11 f9 hM
  refine wl_cons rfl (e_call rfl Tryd.func22 rfl rfl (args1 (hS.ev_ rfl)) hc13 ?_)
  rintro _ w ⟨K12, v14, v16, hlK12, hM, rfl, f15, f17⟩
  refine ⟨_, rfl, ?_⟩
  refine pl hS rfl (by decide) fun a hS => ?_
  refine st_val hS rfl rfl (by decide) (r_move rfl (hS.ev_ rfl)) fun a hS => ?_
  refine st_val hS rfl rfl (by decide) (r_extract rfl (hS.ev_ rfl) rfl) fun a hS => ?_
  refine st_val hS rfl rfl (by decide) (r_extract rfl (hS.ev_ rfl) rfl) fun a hS => ?_
  refine wl_cons rfl (e_alloc (cs := [Value.int .i64 (0), Value.int .i64 (0), Value.slice none 0 0, Value.slice none 0 0]) hM rfl ti_25 rfl fun g18 w hM => ?_)
  refine pl hS rfl (by decide) fun a hS => ?_
  refine wl_cons rfl (e_storeN (vs := [Value.int .i64 (y10.1.f_Kind), Value.int .i64 (y10.1.f_N), v14, v16]) hM rfl ti_25 (hS.ev_ rfl) (hS.ev_ rfl) (ones_cons rfl (ones_cons rfl (ones_cons (sl_one f15) (ones_cons (sl_one f17) ones_nil)))) (Nat.le_of_ble_eq_true rfl) fun w hM => ?_)
  have hM : Sat w0 w K12 (SP.blk g18 25 [Value.int .i64 (y10.1.f_Kind), Value.int .i64 (y10.1.f_N), v14, v16] :: SP.blk g2 25 [Value.int .i64 (0), Value.int .i64 (0), Value.slice none 0 0, Value.slice none 0 0] :: L) := hM
  refine pl0 hS rfl fun a hS => ?_
  refine st_val hS rfl rfl (by decide) (r_assign rfl (hS.ev_ rfl)) fun a hS => ?_
  refine st_done ?_
  replace hS : Slots 22 [] a [(5, Value.bool (y10.2)), (4, Value.pointer (some ⟨g18, 0, none⟩)), (3, eV w0 ((none : Option Nat))), (2, Value.pointer (some ⟨g2, 0, none⟩))] := (hS.part (.cons rfl (.cons rfl (.cons rfl (.cons rfl (.nil _))))))
  refine x_then ?_
  refine wp_seq ?_
  refine wp_seq ?_
  refine wp_region_lit ?_
  refine st_val hS rfl rfl (by decide) (r_move rfl (hS.ev_ rfl)) fun a hS => ?_
  refine st_val hS rfl rfl (by decide) (r_not rfl (hS.ev_ rfl)) fun a hS => ?_
  refine st_val hS rfl rfl (by decide) (r_move rfl (hS.ev_ rfl)) fun a hS => ?_
  obtain ⟨x21, h22, h⟩ := bindO h
  refine wl_cut 4 (fun a w => ∃ (K20 : Hp), Hp.le K12 K20 ∧ Slots 22 [] a [(2, Value.pointer (some ⟨g2, 0, none⟩)), (3, eV w0 ((none : Option Nat))), (4, Value.pointer (some ⟨g18, 0, none⟩)), (18, Value.bool (x21))] ∧ Sat w0 w K20 (SP.blk g18 25 [Value.int .i64 (y10.1.f_Kind), Value.int .i64 (y10.1.f_N), v14, v16] :: SP.blk g2 25 [Value.int .i64 (0), Value.int .i64 (0), Value.slice none 0 0, Value.slice none 0 0] :: L)) ?_ ?_
  ·
    skip
    rcases ifB h22 with ⟨hc23, h22⟩ | ⟨hc23, h22⟩
    ·
      replace hS := hS.known (k := 14) rfl hc23
      refine st_off hS rfl rfl rfl rfl rfl rfl (by decide) fun a hS => ?_
      refine st_off hS rfl rfl rfl rfl rfl rfl (by decide) fun a hS => ?_
      refine st_off hS rfl rfl rfl rfl rfl rfl (by decide) fun a hS => ?_
      refine st_val hS rfl rfl (by decide) (r_pick_true rfl (hS.ev_ rfl) rfl (hS.ev_ rfl)) fun a hS => ?_
      refine st_done ?_
      replace hS : Slots 22 [] a [(18, Value.bool (true)), (4, Value.pointer (some ⟨g18, 0, none⟩)), (3, eV w0 ((none : Option Nat))), (2, Value.pointer (some ⟨g2, 0, none⟩))] := (hS.part (.cons rfl (.cons rfl (.cons rfl (.cons rfl (.nil _))))))
      refine x_then ?_
      obtain rfl := Option.some.inj h22
      exact ⟨K12, (Hp.le.refl _), (hS.part (.cons rfl (.cons rfl (.cons rfl (.cons rfl (.nil _)))))), ((hM.pull 1 rfl rfl).pull 1 rfl rfl)⟩
    ·
      replace hS := hS.known (k := 14) rfl hc23
      refine st_want hS rfl rfl rfl rfl rfl (by decide) (r_ldN_b (cs' := [Value.int .i64 (y10.1.f_Kind), Value.int .i64 (y10.1.f_N), v14, v16]) rfl ag_25 ti_25 (hS.ev_ rfl) rfl (Rd.of hM)) fun a hS => ?_
      obtain ⟨y24, h25, h22⟩ := bindO h22
      have hc27 := raw_Right_c hG h25 f15 f17 hM
      refine g_want hS rfl rfl rfl rfl (e_call rfl Tryd.func10 rfl rfl (args1 (hS.ev_ rfl)) hc27 ?_)
      rintro _ w ⟨K26, hlK26, hM, rfl⟩
      refine ⟨_, rfl, ?_⟩
      refine pl hS rfl (by decide) fun a hS => ?_
      refine st_want hS rfl rfl rfl rfl rfl (by decide) (r_not rfl (hS.ev_ rfl)) fun a hS => ?_
      refine st_val hS rfl rfl (by decide) (r_pick_false rfl (hS.ev_ rfl) rfl (hS.ev_ rfl)) fun a hS => ?_
      refine st_done ?_
      replace hS : Slots 22 [] a [(18, Value.bool (!y24)), (4, Value.pointer (some ⟨g18, 0, none⟩)), (3, eV w0 ((none : Option Nat))), (2, Value.pointer (some ⟨g2, 0, none⟩))] := (hS.part (.cons rfl (.cons rfl (.cons rfl (.cons rfl (.nil _))))))
      refine x_then ?_
      obtain rfl := Option.some.inj h22
      exact ⟨K26, hlK26, (hS.part (.cons rfl (.cons rfl (.cons rfl (.cons rfl (.nil _)))))), ((hM.pull 1 rfl rfl).pull 1 rfl rfl)⟩
  · rintro a w ⟨K20, hlK20, hS, hM⟩
    refine st_done ?_
    replace hS : Slots 22 [] a [(2, Value.pointer (some ⟨g2, 0, none⟩)), (3, eV w0 ((none : Option Nat))), (4, Value.pointer (some ⟨g18, 0, none⟩)), (18, Value.bool (x21))] := (hS.part (.cons rfl (.cons rfl (.cons rfl (.cons rfl (.nil _))))))
    refine x_then ?_
    rcases ifB h with ⟨hc28, h⟩ | ⟨hc28, h⟩
    · refine c_cond_true (hS.ev_ rfl) hc28 ?_
      refine wp_seq ?_
      refine tk_start #[false, false, false, false] mixed_ rfl rfl ?_
      replace hM := hM.drew
      generalize w.drew = w at hM ⊢
      refine dk_any (i := 0) #[true, false, false, false] hS rfl (by kernel_rfl) rfl rfl (by decide) (fun w => r_build (cs := [Value.int .i64 (0), Value.int .i64 (0), Value.slice none 0 0, Value.slice none 0 0]) rfl (parts_ev hS rfl) (by kernel_rfl)) fun a hS => ?_
      refine dk_val (i := 1) (S := Rd w0 K20 []) #[true, true, false, false] hS rfl (by kernel_rfl) rfl rfl (by decide) (Rd.up (Hp.le.refl _) hM.nil_) (fun w hR => r_ldG rfl ag_29 (hS.ev_ rfl) (hG.1 0 (by decide)) hR) fun a hS => ?_
      replace hM := hM.pull 1 rfl rfl
      refine dk_one (i := 2) #[true, true, true, false] rfl (by kernel_rfl) rfl (e_storeN (vs := [Value.int .i64 (0), Value.int .i64 (0), Value.slice none 0 0, Value.slice none 0 0]) hM rfl ti_25 (hS.ev_ rfl) (hS.ev_ rfl) (ones_cons rfl (ones_cons rfl (ones_cons rfl (ones_cons rfl ones_nil)))) (Nat.le_of_ble_eq_true rfl) fun w hM => ?_)
      have hM : Sat w0 w K20 (SP.blk g2 25 [Value.int .i64 (0), Value.int .i64 (0), Value.slice none 0 0, Value.slice none 0 0] :: SP.blk g18 25 [Value.int .i64 (y10.1.f_Kind), Value.int .i64 (y10.1.f_N), v14, v16] :: L) := hM
      refine pT0 hS rfl (Dem.keep (fun _ => Rd.up (Hp.le.refl _) hM.nil_) Dem.nil) fun a hS => ?_
      refine dk_any (i := 3) #[true, true, true, true] hS rfl (by kernel_rfl) rfl rfl (by decide) (fun w => r_assign rfl (hS.ev_ rfl)) fun a hS => ?_
      refine tk_done (by kernel_rfl) ?_
      replace hS : Slots 22 [] a [(3, eV w0 ((some 0 : Option Nat))), (2, Value.pointer (some ⟨g2, 0, none⟩)), (4, Value.pointer (some ⟨g18, 0, none⟩))] := (hS.part (.cons rfl (.cons rfl (.cons rfl (.nil _)))))
      refine x_then ?_
      refine wp_ret ?_
      refine x_then_ret ?_
      have hr' := Option.some.inj h
      subst hr'
      refine retR2 (.inr rfl) hS rfl ⟨_, rfl, lv_N (cs' := [Value.int .i64 (0), Value.int .i64 (0), Value.slice none 0 0, Value.slice none 0 0]) hM ag_25 ti_25 rfl⟩ (show Sl.look _ _ = some (eV w0 ((some 0 : Option Nat))) from rfl) ?_
      exact ⟨K20, (Value.slice none 0 0), (Value.slice none 0 0), ((hlK6.trans hlK12).trans hlK20), ((hM).tail).tail, rfl, (Kd.sl_nil _ _), (Kd.sl_nil _ _)⟩
    · refine c_cond_false (hS.ev_ rfl) hc28 ?_
      refine wp_skip ?_
      refine x_then ?_
      refine wp_seq ?_
      refine wp_region_lit ?_
      refine st_val hS rfl rfl (by decide) (r_ldN_b (cs' := [Value.int .i64 (y10.1.f_Kind), Value.int .i64 (y10.1.f_N), v14, v16]) rfl ag_25 ti_25 (hS.ev_ rfl) rfl (Rd.of hM)) fun a hS => ?_
      replace hM := hM.pull 1 rfl rfl
      refine wl_cons rfl (e_storeN (vs := [Value.int .i64 (y10.1.f_Kind), Value.int .i64 (y10.1.f_N), v14, v16]) hM rfl ti_25 (hS.ev_ rfl) (hS.ev_ rfl) (ones_cons rfl (ones_cons rfl (ones_cons (sl_one f15) (ones_cons (sl_one f17) ones_nil)))) (Nat.le_of_ble_eq_true rfl) fun w hM => ?_)
      have hM : Sat w0 w K20 (SP.blk g2 25 [Value.int .i64 (y10.1.f_Kind), Value.int .i64 (y10.1.f_N), v14, v16] :: SP.blk g18 25 [Value.int .i64 (y10.1.f_Kind), Value.int .i64 (y10.1.f_N), v14, v16] :: L) := hM
      refine pl0 hS rfl fun a hS => ?_
      refine st_val hS rfl rfl (by decide) (r_assign rfl (hS.ev_ rfl)) fun a hS => ?_
      refine st_done ?_
      replace hS : Slots 22 [] a [(3, eV w0 ((none : Option Nat))), (2, Value.pointer (some ⟨g2, 0, none⟩))] := (hS.part (.cons rfl (.cons rfl (.nil _))))
      refine x_then ?_
      refine wp_ret ?_
      have hr' := Option.some.inj h
      subst hr'
      refine retR2 (.inr rfl) hS rfl ⟨_, rfl, lv_N (cs' := [Value.int .i64 (y10.1.f_Kind), Value.int .i64 (y10.1.f_N), v14, v16]) hM ag_25 ti_25 rfl⟩ (show Sl.look _ _ = some (eV w0 ((none : Option Nat))) from rfl) ?_
      exact ⟨K20, (v14), (v16), ((hlK6.trans hlK12).trans hlK20), ((hM).tail).tail, rfl, (Kd.sl_mono hlK20 f15), (Kd.sl_mono hlK20 f17)⟩

theorem Num_SameInts_c {w0 w : World} {K : Hp} {L : List SP} {p1 : List Int} {p4 : List Int} {v2 : Value} {v5 : Value} {r : Bool} (hG : Glob w0) (h : Num_SameInts p1 p4 = some r) (f3 : (Kd.int .i64).sl K v2 p1) (f6 : (Kd.int .i64).sl K v5 p4) (hM : Sat w0 w K (L)) :
    Calls Tryd.prog 21 #[v2, v5] w (fun e w' => ∃ (K' : Hp), Hp.le K K' ∧ Sat w0 w' K' (L) ∧ e = .returned (Value.bool (r))) := by
  refine enter_ (n := 26) (args := [v2, v5]) Tryd.func21 rfl rfl (Nat.le_of_ble_eq_true rfl) fun a hS => ?_
  replace hS : Slots 26 [] a [(0, v2), (1, v5)] := hS
  unfold Num_SameInts at h
  refine wp_seq ?_
  refine wp_region_lit ?_
  refine st_val hS rfl rfl (by decide) (r_assign rfl (hS.ev_ rfl)) fun a hS => ?_
  refine st_done ?_
  replace hS : Slots 26 [] a [(4, Value.bool (false)), (0, v2), (1, v5)] := (hS.part (.cons rfl (.cons rfl (.cons rfl (.nil _)))))
  refine x_then ?_
  refine wp_seq ?_
  refine wp_seq ?_
  refine wp_region_lit ?_
  refine st_val hS rfl rfl (by decide) (r_move rfl (hS.ev_ rfl)) fun a hS => ?_
  refine st_val hS rfl rfl (by decide) (r_len_sl rfl un_23 (hS.ev_ rfl) f3) fun a hS => ?_
  refine st_val hS rfl rfl (by decide) (r_move rfl (hS.ev_ rfl)) fun a hS => ?_
  refine st_val hS rfl rfl (by decide) (r_len_sl rfl un_23 (hS.ev_ rfl) f6) fun a hS => ?_
  refine st_val hS rfl rfl (by decide) (r_cmp rfl (hS.ev_ rfl) (hS.ev_ rfl) rfl) fun a hS => ?_
  refine st_done ?_
  replace hS : Slots 26 [] a [(11, Value.bool (((p1.length : Int)) != ((p4.length : Int)))), (4, Value.bool (false)), (0, v2), (1, v5)] := (hS.part (.cons rfl (.cons rfl (.cons rfl (.cons rfl (.nil _))))))
  refine x_then ?_
  rcases ifB h with ⟨hc7, h⟩ | ⟨hc7, h⟩
  · refine c_cond_true (hS.ev_ rfl) hc7 ?_
    refine wp_seq ?_
    refine wp_region_lit ?_
    refine st_val hS rfl rfl (by decide) (r_assign rfl (hS.ev_ rfl)) fun a hS => ?_
    refine st_done ?_
    replace hS : Slots 26 [] a [(4, Value.bool (false)), (0, v2), (1, v5)] := (hS.part (.cons rfl (.cons rfl (.cons rfl (.nil _)))))
    refine x_then ?_
    refine wp_ret ?_
    refine x_then_ret ?_
    have hr' := Option.some.inj h
    subst hr'
    refine ret1 (.inr rfl) hS rfl rfl ?_
    exact ⟨K, (Hp.le.refl _), hM, rfl⟩
  · refine c_cond_false (hS.ev_ rfl) hc7 ?_
    refine wp_skip ?_
    refine x_then ?_
    refine wp_seq ?_
    refine wp_seq ?_
    refine wp_region_lit ?_
    refine st_val hS rfl rfl (by decide) (r_move rfl (hS.ev_ rfl)) fun a hS => ?_
    refine st_val hS rfl rfl (by decide) (r_len_sl rfl un_23 (hS.ev_ rfl) f3) fun a hS => ?_
    refine st_val hS rfl rfl (by decide) (r_move rfl (hS.ev_ rfl)) fun a hS => ?_
    refine st_done ?_
    replace hS : Slots 26 [] a [(14, Value.int .i64 (0)), (13, Value.int .i64 ((p1.length : Int))), (12, v2), (4, Value.bool (false)), (1, v5)] := (hS.part (.cons rfl (.cons rfl (.cons rfl (.cons rfl (.cons rfl (.nil _)))))))
    refine x_then ?_
    refine wp_block ?_
    obtain ⟨o13, h14, h⟩ := bindO h
    refine c_loop_ways (fun e a w => (e = .exit 0 ∧ ∃ (K15 : Hp) (x16 : Unit), Hp.le K K15 ∧ o13 = Sum.inl x16 ∧ Slots 26 [] a [(4, Value.bool (false))] ∧ Sat w0 w K15 (L)) ∨ (e = .ret ∧ ∃ (K17 : Hp) (x18 : Unit), Hp.le K K17 ∧ o13 = Sum.inr x18 ∧ Slots 26 [] a [(4, Value.bool (false))] ∧ Sat w0 w K17 (L))) ?_ ?_
    · intro c Q hc hQ
      have key : ∀ (x12 : Int) (r' : Sum Unit Unit), Num_SameInts_l1 p1 p4 x12 = some r' → r' = o13 → ∀ (K11 : Hp) (a : Act) (w : World), Hp.le K K11 → Slots 26 [] a [(14, Value.int .i64 (x12)), (13, Value.int .i64 ((p1.length : Int))), (12, v2), (4, Value.bool (false)), (1, v5)] → Sat w0 w K11 (L) → Rnd Tryd.prog c Q a w := by
        refine Num_SameInts_l1.partial_correctness p1 p4 _ ?_
        intro Num_SameInts_l1_rec ih x12 r' h hr K11  a w hlK11 hS hM 
        subst hc
        refine c_round ?_
        refine wp_seq ?_
        refine wp_region_lit ?_
        refine st_val hS rfl rfl (by decide) (r_cmp rfl (hS.ev_ rfl) (hS.ev_ rfl) rfl) fun a hS => ?_
        refine st_done ?_
        replace hS : Slots 26 [] a [(15, Value.bool (decide (x12 < ((p1.length : Int))))), (14, Value.int .i64 (x12)), (13, Value.int .i64 ((p1.length : Int))), (12, v2), (4, Value.bool (false)), (1, v5)] := (hS.part (.cons rfl (.cons rfl (.cons rfl (.cons rfl (.cons rfl (.cons rfl (.nil _))))))))
        refine x_then ?_
        refine wp_seq ?_
        rcases ifB h with ⟨hc19, h⟩ | ⟨hc19, h⟩
        · refine c_cond_true (hS.ev_ rfl) hc19 ?_
          refine wp_skip ?_
          refine x_then ?_
          refine wp_seq ?_
          refine wp_block ?_
          refine wp_seq ?_
          refine wp_region_lit ?_
          refine st_val hS rfl rfl (by decide) (r_move rfl (hS.ev_ rfl)) fun a hS => ?_
          obtain ⟨e20, h21, h⟩ := bindO h
          obtain ⟨ad22, cp23, cs24, hv25, hr26, h0_27, h1_28, hq29⟩ := sl_at f3 h21 (by decide)
          obtain rfl := hr26
          refine st_val hS rfl rfl (by decide) (r_idx_sl rfl un_23 ti_3 (hS.ev_ rfl) hv25 (hS.ev_ rfl) h0_27 h1_28) fun a hS => ?_
          refine st_val hS rfl rfl (by decide) (r_ld1_k rfl ag_3 (hS.ev_ rfl) hq29 rfl (Rd.up hlK11 hM.nil_)) fun a hS => ?_
          refine st_val hS rfl rfl (by decide) (r_assign rfl (hS.ev_ rfl)) fun a hS => ?_
          refine st_val hS rfl rfl (by decide) (r_assign rfl (hS.ev_ rfl)) fun a hS => ?_
          refine st_done ?_
          replace hS : Slots 26 [] a [(6, Value.int .i64 (e20)), (5, Value.int .i64 (x12)), (14, Value.int .i64 (x12)), (13, Value.int .i64 ((p1.length : Int))), (12, v2), (4, Value.bool (false)), (1, v5)] := (hS.part (.cons rfl (.cons rfl (.cons rfl (.cons rfl (.cons rfl (.cons rfl (.cons rfl (.nil _)))))))))
          refine x_then ?_
          refine wp_seq ?_
          refine wp_region_lit ?_
          refine st_val hS rfl rfl (by decide) (r_move rfl (hS.ev_ rfl)) fun a hS => ?_
          refine st_val hS rfl rfl (by decide) (r_move rfl (hS.ev_ rfl)) fun a hS => ?_
          refine st_val hS rfl rfl (by decide) (r_move rfl (hS.ev_ rfl)) fun a hS => ?_
          obtain ⟨e30, h31, h⟩ := bindO h
          obtain ⟨ad32, cp33, cs34, hv35, hr36, h0_37, h1_38, hq39⟩ := sl_at f6 h31 (by decide)
          obtain rfl := hr36
          refine st_val hS rfl rfl (by decide) (r_idx_sl rfl un_23 ti_3 (hS.ev_ rfl) hv35 (hS.ev_ rfl) h0_37 h1_38) fun a hS => ?_
          refine st_val hS rfl rfl (by decide) (r_ld1_k rfl ag_3 (hS.ev_ rfl) hq39 rfl (Rd.up hlK11 hM.nil_)) fun a hS => ?_
          refine st_val hS rfl rfl (by decide) (r_cmp rfl (hS.ev_ rfl) (hS.ev_ rfl) rfl) fun a hS => ?_
          refine st_done ?_
          replace hS : Slots 26 [] a [(24, Value.bool (e20 != e30)), (14, Value.int .i64 (x12)), (13, Value.int .i64 ((p1.length : Int))), (12, v2), (4, Value.bool (false)), (1, v5)] := (hS.part (.cons rfl (.cons rfl (.cons rfl (.cons rfl (.cons rfl (.cons rfl (.nil _))))))))
          refine x_then ?_
          rcases ifB h with ⟨hc40, h⟩ | ⟨hc40, h⟩
          · refine c_cond_true (hS.ev_ rfl) hc40 ?_
            refine wp_seq ?_
            refine wp_region_lit ?_
            refine st_val hS rfl rfl (by decide) (r_assign rfl (hS.ev_ rfl)) fun a hS => ?_
            refine st_done ?_
            replace hS : Slots 26 [] a [(4, Value.bool (false)), (14, Value.int .i64 (x12)), (13, Value.int .i64 ((p1.length : Int))), (12, v2), (1, v5)] := (hS.part (.cons rfl (.cons rfl (.cons rfl (.cons rfl (.cons rfl (.nil _)))))))
            refine x_then ?_
            refine wp_ret ?_
            refine x_block_ret ?_
            refine x_then_ret ?_
            refine x_then_ret ?_
            have ho' := (Option.some.inj h).trans hr
            refine hQ _ _ _ ?_
            exact .inr (⟨rfl, K11, (()), hlK11, ho'.symm, (hS.part (.cons rfl (.nil _))), hM⟩)
          · refine c_cond_false (hS.ev_ rfl) hc40 ?_
            refine wp_skip ?_
            refine x_block ?_
            refine x_then ?_
            refine wp_region_lit ?_
            refine st_val hS rfl rfl (by decide) (r_add rfl (hS.ev_ rfl) (hS.ev_ rfl)) fun a hS => ?_
            refine st_val hS rfl rfl (by decide) (r_move rfl (hS.ev_ rfl)) fun a hS => ?_
            refine st_done ?_
            replace hS : Slots 26 [] a [(14, Value.int .i64 (w64 (x12 + 1))), (13, Value.int .i64 ((p1.length : Int))), (12, v2), (4, Value.bool (false)), (1, v5)] := (hS.part (.cons rfl (.cons rfl (.cons rfl (.cons rfl (.cons rfl (.nil _)))))))
            refine x_then ?_
            exact ih (w64 (x12 + 1)) _ h hr K11 _ _ hlK11 (hS.part (.cons rfl (.cons rfl (.cons rfl (.cons rfl (.cons rfl (.nil _))))))) (hM)
        · refine c_cond_false (hS.ev_ rfl) hc19 ?_
          refine wp_exit ?_
          refine x_then_exit ?_
          refine x_then_exit ?_
          have ho' := (Option.some.inj h).trans hr
          refine hQ _ _ _ ?_
          exact .inl ⟨rfl, K11, (()), hlK11, ho'.symm, (hS.part (.cons rfl (.nil _))), hM⟩
      exact key 0 _ h14 rfl K _ _ (Hp.le.refl _) (hS.part (.cons rfl (.cons rfl (.cons rfl (.cons rfl (.cons rfl (.nil _))))))) (hM)
    · rintro e a w (⟨rfl, K15, x16, hlK15, ho', hS, hM⟩ | ⟨rfl, K17, x18, hlK17, ho', hS, hM⟩)
      · subst ho'
        dsimp only at h
        refine x_block_here ?_
        refine x_then ?_
        refine wp_seq ?_
        refine wp_region_lit ?_
        refine st_val hS rfl rfl (by decide) (r_assign rfl (hS.ev_ rfl)) fun a hS => ?_
        refine st_done ?_
        replace hS : Slots 26 [] a [(4, Value.bool (true))] := (hS.part (.cons rfl (.nil _)))
        refine x_then ?_
        refine wp_ret ?_
        have hr' := Option.some.inj h
        subst hr'
        refine ret1 (.inr rfl) hS rfl rfl ?_
        exact ⟨K15, hlK15, hM, rfl⟩
      · subst ho'
        dsimp only at h
        refine x_block_ret ?_
        refine x_then_ret ?_
        have hr' := Option.some.inj h
        subst hr'
        refine ret1 (.inr rfl) hS rfl rfl ?_
        exact ⟨K17, hlK17, hM, rfl⟩

theorem strings_Builder_copyCheck_c {w0 w : World} {K : Hp} {L : List SP} {p1 : List UInt8} {g2 : Nat} {v3 : Value} {v5 : Value} {r : List UInt8} (hG : Glob w0) (h : strings_Builder_copyCheck p1 = some r) (f4 : (v3 = Value.pointer none ∨ v3 = Value.pointer (some ⟨g2, 0, none⟩))) (hM : Sat w0 w K (SP.blk g2 70 [v3, v5] :: SP.row Kd.u8 5 v5 p1 :: L)) :
    Calls Tryd.prog 50 #[Value.pointer (some ⟨g2, 0, none⟩)] w (fun e w' => ∃ (K' : Hp) (v'1 v'2 : Value), Hp.le K K' ∧ Sat w0 w' K' (SP.blk g2 70 [v'1, v'2] :: SP.row Kd.u8 5 v'2 r :: L) ∧ e = .returned (Value.tuple #[]) ∧ (v'1 = Value.pointer none ∨ v'1 = Value.pointer (some ⟨g2, 0, none⟩))) := by
  refine enter_ (n := 20) (args := [Value.pointer (some ⟨g2, 0, none⟩)]) Tryd.func50 rfl rfl (Nat.le_of_ble_eq_true rfl) fun a hS => ?_
  replace hS : Slots 20 [] a [(0, Value.pointer (some ⟨g2, 0, none⟩))] := hS
  unfold strings_Builder_copyCheck at h
  rcases f4 with rfl | rfl
  ·
    refine wp_seq ?_
    refine wp_region_lit ?_
    refine st_val hS rfl rfl (by decide) (r_move rfl (hS.ev_ rfl)) fun a hS => ?_
    refine st_val hS rfl rfl (by decide) (r_nilCheck rfl (hS.ev_ rfl)) fun a hS => ?_
    refine st_val hS rfl rfl (by decide) (r_fld_b rfl fo_70_0 (hS.ev_ rfl)) fun a hS => ?_
    refine st_val hS rfl rfl (by decide) (r_ld1_b rfl ag_68 (hS.ev_ rfl) rfl (Rd.of hM)) fun a hS => ?_
    refine st_val hS rfl rfl (by decide) (r_pteq_nn rfl un_68 (hS.ev_ (v := Value.pointer none) rfl) (hS.ev_ (v := Value.pointer none) rfl)) fun a hS => ?_
    refine st_done ?_
    replace hS : Slots 20 [] a [(6, Value.bool (true)), (0, Value.pointer (some ⟨g2, 0, none⟩))] := (hS.part (.cons rfl (.cons rfl (.nil _))))
    refine x_then ?_
    refine c_cond_true (hS.ev_ rfl) rfl ?_
    refine wp_region_lit ?_
    refine st_val hS rfl rfl (by decide) (r_move rfl (hS.ev_ rfl)) fun a hS => ?_
    refine st_val hS rfl rfl (by decide) (r_move rfl (hS.ev_ rfl)) fun a hS => ?_
    refine st_val hS rfl rfl (by decide) (r_to_unsafe rfl un_68 us_113 ti_70 rfl (hS.ev_ rfl) hM (Nat.le_of_ble_eq_true rfl)) fun a hS => ?_
    refine st_val hS rfl rfl (by decide) (r_extern (vs := [Value.pointer (some ⟨g2, 0, none⟩)]) (ex := Extern.AbiNoEscape.same) rfl Tryd.func63 rfl rfl (by kernel_rfl) (by kernel_rfl) (args1 (hS.ev_ rfl)) (x_noEscape _ _)) fun a hS => ?_
    refine st_val hS rfl rfl (by decide) (r_from_unsafe rfl us_113 un_68 ti_70 (hS.ev_ rfl) hM li_70_2_0_70) fun a hS => ?_
    refine st_val hS rfl rfl (by decide) (r_nilCheck rfl (hS.ev_ rfl)) fun a hS => ?_
    refine st_val hS rfl rfl (by decide) (r_fld_b rfl fo_70_0 (hS.ev_ rfl)) fun a hS => ?_
    refine wl_cons rfl (e_store1 hM rfl ti_68 (hS.ev_ rfl) (hS.ev_ rfl) rfl (Nat.lt_of_lt_of_le (Nat.le_of_ble_eq_true rfl) (Nat.le_refl _)) fun w hM => ?_)
    have hM : Sat w0 w K (SP.blk g2 70 [Value.pointer (some ⟨g2, 0, none⟩), v5] :: SP.row Kd.u8 5 v5 p1 :: L) := hM
    refine pl0 hS rfl fun a hS => ?_
    refine st_done ?_
    replace hS : Slots 20 [] a [] := (hS.part (.nil _))
    have hr' := Option.some.inj h
    subst hr'
    refine ret0 (.inl rfl) hS rfl  ?_
    exact ⟨K, ((Value.pointer (some ⟨g2, 0, none⟩))), (v5), (Hp.le.refl _), ((hM.pull 1 rfl rfl).pull 1 rfl rfl), rfl, (.inr rfl)⟩
  ·
    refine wp_seq ?_
    refine wp_region_lit ?_
    refine st_val hS rfl rfl (by decide) (r_move rfl (hS.ev_ rfl)) fun a hS => ?_
    refine st_val hS rfl rfl (by decide) (r_nilCheck rfl (hS.ev_ rfl)) fun a hS => ?_
    refine st_val hS rfl rfl (by decide) (r_fld_b rfl fo_70_0 (hS.ev_ rfl)) fun a hS => ?_
    refine st_val hS rfl rfl (by decide) (r_ld1_b rfl ag_68 (hS.ev_ rfl) rfl (Rd.of hM)) fun a hS => ?_
    refine st_val hS rfl rfl (by decide) (r_pteq_bn rfl un_68 (hS.ev_ rfl) (hS.ev_ rfl)) fun a hS => ?_
    refine st_done ?_
    replace hS : Slots 20 [] a [(6, Value.bool (false)), (0, Value.pointer (some ⟨g2, 0, none⟩))] := (hS.part (.cons rfl (.cons rfl (.nil _))))
    refine x_then ?_
    refine c_cond_false (hS.ev_ rfl) rfl ?_
    refine wp_seq ?_
    refine wp_region_lit ?_
    refine st_val hS rfl rfl (by decide) (r_move rfl (hS.ev_ rfl)) fun a hS => ?_
    refine st_val hS rfl rfl (by decide) (r_nilCheck rfl (hS.ev_ rfl)) fun a hS => ?_
    refine st_val hS rfl rfl (by decide) (r_fld_b rfl fo_70_0 (hS.ev_ rfl)) fun a hS => ?_
    refine st_val hS rfl rfl (by decide) (r_ld1_b rfl ag_68 (hS.ev_ rfl) rfl (Rd.of hM)) fun a hS => ?_
    refine st_val hS rfl rfl (by decide) (r_move rfl (hS.ev_ rfl)) fun a hS => ?_
    refine st_val hS rfl rfl (by decide) (r_ptne_bb rfl un_68 ti_70 (hS.ev_ (v := Value.pointer (some ⟨g2, 0, none⟩)) rfl) (hS.ev_ (v := Value.pointer (some ⟨g2, 0, none⟩)) rfl)) fun a hS => ?_
    refine st_done ?_
    replace hS : Slots 20 [] a [(19, Value.bool (false))] := (hS.part (.cons rfl (.nil _)))
    refine x_then ?_
    refine c_cond_false (hS.ev_ rfl) rfl ?_
    refine wp_skip ?_
    have hr' := Option.some.inj h
    subst hr'
    refine ret0 (.inl rfl) hS rfl  ?_
    exact ⟨K, ((Value.pointer (some ⟨g2, 0, none⟩))), (v5), (Hp.le.refl _), ((hM.pull 1 rfl rfl).pull 1 rfl rfl), rfl, (.inr rfl)⟩

end Go.Proofs.YthjfnknhcmhmiaaDoor
